/-
  No cell of these rows narrows 'for every input' (looked for: loops, veiled, ifaces, maps, wideKeys, modest, calm, conditions, laid).
  DERIVED. THE GIVEN ROWS OF THIS SEAT. 4 by the template 'for every input the law returns true; each argument reads behind the call as it read before'; 0 by the template 'total and deterministic' (their statements: YtjnphebgbdjohaaTotals.lean).
  GIVEN WITH THE SEED: the statements are not yours to turn. If you find one false, say at which input.
  Laid BY PROGRAM, IN A SANDBOX (cutbox-rows.mjs): the forced cells as the released guide's own fill.sh prints them over the translation 9519255a068704cd… (all of the seat's roots in one cut). By AI agents, Wed Nov 11 2026. No macro, syntax, notation, axiom, sorry.
-/
import Derived.Test.YtjnphebgbdjohaaChecked
import GoSem.Claim
import GoSem.ClaimJoined
import GoSem.ClaimMapViews
import Derived.JoinedTies
import Derived.KernelRfl
namespace Go.Proofs.Ytjnphebgbdjohaa
/- THE CELL 'sum', in the pinned program and in every row, IS THE sha256 OF THE DUMP (.gsa) THAT YtjnphebgbdjohaaProg.lean LOADS. Nothing in Lean hashes anything: it is a label: what it is worth is what the hold of that sum in a sandbox is worth. -/
noncomputable def Try.pinned : Pinned := { name := "ytjnphebgbdjohaa", sum := "9519255a068704cde789e65ade0d1815b8a11ef52c008451321f74879e8890b8", checked := Try.checked }
namespace Rows
def none {H : Type} : Left H := { results := [], args := [] }

/-- 'parallaxlaw1.OctetTells': WHATEVER THE INPUT: true; the input reads as it did. -/
def octetTellsSpec : ChangeSpec := { name := "octetTells", fn := fun _ => fun
  | [d] => { results := [.lit (.bool true)], args := [d] }
  | _ => none }
def octetTellsRow : OpenClaim := { program := "ytjnphebgbdjohaa", sum := "9519255a068704cde789e65ade0d1815b8a11ef52c008451321f74879e8890b8", func := "parallax/parallaxlaw1.OctetTells", spec := "octetTells", inPlace := ["internal/bytealg.IndexByteString"], apart := false }
def OctetTellsSaid : Prop := octetTellsRow.holds Try.pinned (OpenSpec.ofChange octetTellsSpec)

/-- ITS FALSE NEIGHBOUR: 'it returns false'. Refute it at one input. -/
def octetTellsWrong : ChangeSpec := { name := "octetTells", fn := fun _ => fun
  | [d] => { results := [.lit (.bool false)], args := [d] }
  | _ => none }
def OctetTellsWrongFalsely : Prop := octetTellsRow.holds Try.pinned (OpenSpec.ofChange octetTellsWrong)

/-- 'parallaxlaw1.OctetKinds': WHATEVER THE INPUT: true; the input reads as it did. -/
def octetKindsSpec : ChangeSpec := { name := "octetKinds", fn := fun _ => fun
  | [d1, d2, d3] => { results := [.lit (.bool true)], args := [d1, d2, d3] }
  | _ => none }
def octetKindsRow : OpenClaim := { program := "ytjnphebgbdjohaa", sum := "9519255a068704cde789e65ade0d1815b8a11ef52c008451321f74879e8890b8", func := "parallax/parallaxlaw1.OctetKinds", spec := "octetKinds", inPlace := ["internal/bytealg.IndexByteString"], apart := false }
def OctetKindsSaid : Prop := octetKindsRow.holds Try.pinned (OpenSpec.ofChange octetKindsSpec)

/-- ITS FALSE NEIGHBOUR: 'it returns false'. Refute it at one input. -/
def octetKindsWrong : ChangeSpec := { name := "octetKinds", fn := fun _ => fun
  | [d1, d2, d3] => { results := [.lit (.bool false)], args := [d1, d2, d3] }
  | _ => none }
def OctetKindsWrongFalsely : Prop := octetKindsRow.holds Try.pinned (OpenSpec.ofChange octetKindsWrong)

/-- 'parallaxlaw1.OctetSets': WHATEVER THE INPUT: true; the input reads as it did. -/
def octetSetsSpec : ChangeSpec := { name := "octetSets", fn := fun _ => fun
  | [d] => { results := [.lit (.bool true)], args := [d] }
  | _ => none }
def octetSetsRow : OpenClaim := { program := "ytjnphebgbdjohaa", sum := "9519255a068704cde789e65ade0d1815b8a11ef52c008451321f74879e8890b8", func := "parallax/parallaxlaw1.OctetSets", spec := "octetSets", inPlace := ["internal/bytealg.IndexByteString"], apart := false }
def OctetSetsSaid : Prop := octetSetsRow.holds Try.pinned (OpenSpec.ofChange octetSetsSpec)

/-- ITS FALSE NEIGHBOUR: 'it returns false'. Refute it at one input. -/
def octetSetsWrong : ChangeSpec := { name := "octetSets", fn := fun _ => fun
  | [d] => { results := [.lit (.bool false)], args := [d] }
  | _ => none }
def OctetSetsWrongFalsely : Prop := octetSetsRow.holds Try.pinned (OpenSpec.ofChange octetSetsWrong)

/-- 'parallaxlaw1.OctetJoins': WHATEVER THE INPUT: true; the input reads as it did. -/
def octetJoinsSpec : ChangeSpec := { name := "octetJoins", fn := fun _ => fun
  | [d1, d2, d3, d4] => { results := [.lit (.bool true)], args := [d1, d2, d3, d4] }
  | _ => none }
def octetJoinsRow : OpenClaim := { program := "ytjnphebgbdjohaa", sum := "9519255a068704cde789e65ade0d1815b8a11ef52c008451321f74879e8890b8", func := "parallax/parallaxlaw1.OctetJoins", spec := "octetJoins", inPlace := ["internal/bytealg.IndexByteString"], apart := false }
def OctetJoinsSaid : Prop := octetJoinsRow.holds Try.pinned (OpenSpec.ofChange octetJoinsSpec)

/-- ITS FALSE NEIGHBOUR: 'it returns false'. Refute it at one input. -/
def octetJoinsWrong : ChangeSpec := { name := "octetJoins", fn := fun _ => fun
  | [d1, d2, d3, d4] => { results := [.lit (.bool false)], args := [d1, d2, d3, d4] }
  | _ => none }
def OctetJoinsWrongFalsely : Prop := octetJoinsRow.holds Try.pinned (OpenSpec.ofChange octetJoinsWrong)

/- THE SECOND FORM. 'bulk': how many values and letters a reading holds, each counted each time it is reached (what is shared counts as often as it is met; a slice's spare places count too). A statement '..UptoSaid' is the law's where the arguments, and the package variables that the reading takes, are together of bulk at most 1048576: NARROWER than '..Said'. Prove '..Said' where nothing that the law and all that it calls make is longer than what came in: it says more and counts as full. Else prove '..UptoSaid'. A law counts once. -/
mutual
def uptoBulk {H : Type} : DataW H → Nat
  | .lit (.string bytes) => bytes.length + 1
  | .lit _ => 1
  | .nil => 1
  | .ptr d => uptoBulk d + 1
  | .slice elems spare => uptoBulkAll elems + uptoBulkAll spare + 1
  | .agg parts => uptoBulkAll parts + 1
  | .iface _ d => uptoBulk d + 1
  | .map entries => uptoBulkEntries entries + 1
  | .held _ => 1
def uptoBulkAll {H : Type} : List (DataW H) → Nat
  | [] => 0
  | d :: r => uptoBulk d + uptoBulkAll r
def uptoBulkEntries {H : Type} : List (Lit × DataW H) → Nat
  | [] => 0
  | x :: r => uptoBulkEntry x + uptoBulkEntries r
def uptoBulkEntry {H : Type} : Lit × DataW H → Nat
  | (.string bytes, d) => bytes.length + uptoBulk d + 1
  | (_, d) => uptoBulk d + 1
 end
def uptoSmall : (H : Type) → List (DataW H) → Bool := fun _ ds => decide (uptoBulkAll ds ≤ 1048576)
def OpenSpec.upto (s : _root_.Go.ChangeSpec) : _root_.Go.OpenSpec := { _root_.Go.OpenSpec.ofChange s with cond := some uptoSmall }

/-- 'parallaxlaw1.OctetTells', WHERE WHAT IT READS IS OF BULK AT MOST 1048576: true; the input reads as it did. -/
def octetTellsUptoRow : OpenClaim := { program := "ytjnphebgbdjohaa", sum := "9519255a068704cde789e65ade0d1815b8a11ef52c008451321f74879e8890b8", func := "parallax/parallaxlaw1.OctetTells", spec := "octetTells", inPlace := ["internal/bytealg.IndexByteString"], apart := false, narrowed := true }
def OctetTellsUptoSaid : Prop := octetTellsUptoRow.holds Try.pinned (OpenSpec.upto octetTellsSpec)

/-- 'parallaxlaw1.OctetKinds', WHERE WHAT IT READS IS OF BULK AT MOST 1048576: true; the input reads as it did. -/
def octetKindsUptoRow : OpenClaim := { program := "ytjnphebgbdjohaa", sum := "9519255a068704cde789e65ade0d1815b8a11ef52c008451321f74879e8890b8", func := "parallax/parallaxlaw1.OctetKinds", spec := "octetKinds", inPlace := ["internal/bytealg.IndexByteString"], apart := false, narrowed := true }
def OctetKindsUptoSaid : Prop := octetKindsUptoRow.holds Try.pinned (OpenSpec.upto octetKindsSpec)

/-- 'parallaxlaw1.OctetSets', WHERE WHAT IT READS IS OF BULK AT MOST 1048576: true; the input reads as it did. -/
def octetSetsUptoRow : OpenClaim := { program := "ytjnphebgbdjohaa", sum := "9519255a068704cde789e65ade0d1815b8a11ef52c008451321f74879e8890b8", func := "parallax/parallaxlaw1.OctetSets", spec := "octetSets", inPlace := ["internal/bytealg.IndexByteString"], apart := false, narrowed := true }
def OctetSetsUptoSaid : Prop := octetSetsUptoRow.holds Try.pinned (OpenSpec.upto octetSetsSpec)

/-- 'parallaxlaw1.OctetJoins', WHERE WHAT IT READS IS OF BULK AT MOST 1048576: true; the input reads as it did. -/
def octetJoinsUptoRow : OpenClaim := { program := "ytjnphebgbdjohaa", sum := "9519255a068704cde789e65ade0d1815b8a11ef52c008451321f74879e8890b8", func := "parallax/parallaxlaw1.OctetJoins", spec := "octetJoins", inPlace := ["internal/bytealg.IndexByteString"], apart := false, narrowed := true }
def OctetJoinsUptoSaid : Prop := octetJoinsUptoRow.holds Try.pinned (OpenSpec.upto octetJoinsSpec)

end Rows
end Go.Proofs.Ytjnphebgbdjohaa
