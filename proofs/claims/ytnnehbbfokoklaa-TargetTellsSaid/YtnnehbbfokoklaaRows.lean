/-
  No cell of these rows narrows 'for every input' (looked for: loops, veiled, ifaces, maps, wideKeys, modest, calm, conditions, laid).
  DERIVED. THE GIVEN ROWS OF THIS SEAT. 4 by the template 'for every input the law returns true; each argument reads behind the call as it read before'; 0 by the template 'total and deterministic' (their statements: YtnnehbbfokoklaaTotals.lean).
  GIVEN WITH THE SEED: the statements are not yours to turn. If you find one false, say at which input.
  Laid BY PROGRAM, IN A SANDBOX (cutbox-rows.mjs): the forced cells as the released guide's own fill.sh prints them over the translation dc8856d8113d93cf… (all of the seat's roots in one cut). By AI agents, Wed Nov 11 2026. No macro, syntax, notation, axiom, sorry.
-/
import Derived.Test.YtnnehbbfokoklaaChecked
import GoSem.Claim
import GoSem.ClaimJoined
import GoSem.ClaimMapViews
import Derived.JoinedTies
import Derived.KernelRfl
namespace Go.Proofs.Ytnnehbbfokoklaa
/- THE CELL 'sum', in the pinned program and in every row, IS THE sha256 OF THE DUMP (.gsa) THAT YtnnehbbfokoklaaProg.lean LOADS. Nothing in Lean hashes anything: it is a label: what it is worth is what the hold of that sum in a sandbox is worth. -/
noncomputable def Try.pinned : Pinned := { name := "ytnnehbbfokoklaa", sum := "dc8856d8113d93cf978677d1e61da694bdb8402c2404733f21b03949447c3038", checked := Try.checked }
namespace Rows
def none {H : Type} : Left H := { results := [], args := [] }

/-- 'parallaxlaw7.TargetTells': WHATEVER THE INPUT: true; the input reads as it did. -/
def targetTellsSpec : ChangeSpec := { name := "targetTells", fn := fun _ => fun
  | [d1, d2, d3, d4] => { results := [.lit (.bool true)], args := [d1, d2, d3, d4] }
  | _ => none }
def targetTellsRow : OpenClaim := { program := "ytnnehbbfokoklaa", sum := "dc8856d8113d93cf978677d1e61da694bdb8402c2404733f21b03949447c3038", func := "parallax/parallaxlaw7.TargetTells", spec := "targetTells", inPlace := ["internal/bytealg.IndexByteString", "internal/bytealg.IndexString"], named := ["internal/bytealg.MaxLen"], apart := false }
def TargetTellsSaid : Prop := targetTellsRow.holds Try.pinned (OpenSpec.ofChange targetTellsSpec)

/-- ITS FALSE NEIGHBOUR: 'it returns false'. Refute it at one input. -/
def targetTellsWrong : ChangeSpec := { name := "targetTells", fn := fun _ => fun
  | [d1, d2, d3, d4] => { results := [.lit (.bool false)], args := [d1, d2, d3, d4] }
  | _ => none }
def TargetTellsWrongFalsely : Prop := targetTellsRow.holds Try.pinned (OpenSpec.ofChange targetTellsWrong)

/-- 'parallaxlaw7.TargetBack': WHATEVER THE INPUT: true; the input reads as it did. -/
def targetBackSpec : ChangeSpec := { name := "targetBack", fn := fun _ => fun
  | [d1, d2] => { results := [.lit (.bool true)], args := [d1, d2] }
  | _ => none }
def targetBackRow : OpenClaim := { program := "ytnnehbbfokoklaa", sum := "dc8856d8113d93cf978677d1e61da694bdb8402c2404733f21b03949447c3038", func := "parallax/parallaxlaw7.TargetBack", spec := "targetBack", inPlace := ["internal/bytealg.IndexByteString", "internal/bytealg.IndexString"], named := ["internal/bytealg.MaxLen"], apart := false }
def TargetBackSaid : Prop := targetBackRow.holds Try.pinned (OpenSpec.ofChange targetBackSpec)

/-- ITS FALSE NEIGHBOUR: 'it returns false'. Refute it at one input. -/
def targetBackWrong : ChangeSpec := { name := "targetBack", fn := fun _ => fun
  | [d1, d2] => { results := [.lit (.bool false)], args := [d1, d2] }
  | _ => none }
def TargetBackWrongFalsely : Prop := targetBackRow.holds Try.pinned (OpenSpec.ofChange targetBackWrong)

/-- 'parallaxlaw7.TargetHosts': WHATEVER THE INPUT: true; the input reads as it did. -/
def targetHostsSpec : ChangeSpec := { name := "targetHosts", fn := fun _ => fun
  | [d1, d2, d3, d4] => { results := [.lit (.bool true)], args := [d1, d2, d3, d4] }
  | _ => none }
def targetHostsRow : OpenClaim := { program := "ytnnehbbfokoklaa", sum := "dc8856d8113d93cf978677d1e61da694bdb8402c2404733f21b03949447c3038", func := "parallax/parallaxlaw7.TargetHosts", spec := "targetHosts", inPlace := ["internal/bytealg.IndexByteString", "internal/bytealg.IndexString"], recurses := true, named := ["internal/bytealg.MaxLen"], apart := false }
def TargetHostsSaid : Prop := targetHostsRow.holds Try.pinned (OpenSpec.ofChange targetHostsSpec)

/-- ITS FALSE NEIGHBOUR: 'it returns false'. Refute it at one input. -/
def targetHostsWrong : ChangeSpec := { name := "targetHosts", fn := fun _ => fun
  | [d1, d2, d3, d4] => { results := [.lit (.bool false)], args := [d1, d2, d3, d4] }
  | _ => none }
def TargetHostsWrongFalsely : Prop := targetHostsRow.holds Try.pinned (OpenSpec.ofChange targetHostsWrong)

/-- 'parallaxlaw7.TargetForms': WHATEVER THE INPUT: true; the input reads as it did. -/
def targetFormsSpec : ChangeSpec := { name := "targetForms", fn := fun _ => fun
  | [d1, d2, d3, d4] => { results := [.lit (.bool true)], args := [d1, d2, d3, d4] }
  | _ => none }
def targetFormsRow : OpenClaim := { program := "ytnnehbbfokoklaa", sum := "dc8856d8113d93cf978677d1e61da694bdb8402c2404733f21b03949447c3038", func := "parallax/parallaxlaw7.TargetForms", spec := "targetForms", inPlace := ["internal/bytealg.IndexByteString", "internal/bytealg.IndexString"], named := ["internal/bytealg.MaxLen"], apart := false }
def TargetFormsSaid : Prop := targetFormsRow.holds Try.pinned (OpenSpec.ofChange targetFormsSpec)

/-- ITS FALSE NEIGHBOUR: 'it returns false'. Refute it at one input. -/
def targetFormsWrong : ChangeSpec := { name := "targetForms", fn := fun _ => fun
  | [d1, d2, d3, d4] => { results := [.lit (.bool false)], args := [d1, d2, d3, d4] }
  | _ => none }
def TargetFormsWrongFalsely : Prop := targetFormsRow.holds Try.pinned (OpenSpec.ofChange targetFormsWrong)

/- THE SECOND FORM. 'bulk': how many values and letters a reading holds, each counted each time it is reached (what is shared counts as often as it is met; a slice's spare places count too). A statement '..UptoSaid' is the law's where the arguments, and the package variables that the reading takes, are together of bulk at most 1048576: NARROWER than '..Said'. Prove '..Said' where nothing that the law and all that it calls make is longer than what came in: it says more and counts as full. Else prove '..UptoSaid'. A law counts once. -/
mutual
def uptoBulk {H : Type} : DataW H → Nat
  | .lit (.string bytes) => bytes.length + 1
  | .lit _ => 1
  | .nil => 1
  | .ptr d => uptoBulk d + 1
  | .slice elems spare => uptoBulkAll elems + uptoBulkAll spare + 1
  | .agg parts => uptoBulkAll parts + 1
  | .iface _ d => uptoBulk d + 1
  | .map entries => uptoBulkEntries entries + 1
  | .held _ => 1
def uptoBulkAll {H : Type} : List (DataW H) → Nat
  | [] => 0
  | d :: r => uptoBulk d + uptoBulkAll r
def uptoBulkEntries {H : Type} : List (Lit × DataW H) → Nat
  | [] => 0
  | x :: r => uptoBulkEntry x + uptoBulkEntries r
def uptoBulkEntry {H : Type} : Lit × DataW H → Nat
  | (.string bytes, d) => bytes.length + uptoBulk d + 1
  | (_, d) => uptoBulk d + 1
 end
def uptoSmall : (H : Type) → List (DataW H) → Bool := fun _ ds => decide (uptoBulkAll ds ≤ 1048576)
def OpenSpec.upto (s : _root_.Go.ChangeSpec) : _root_.Go.OpenSpec := { _root_.Go.OpenSpec.ofChange s with cond := some uptoSmall }

/-- 'parallaxlaw7.TargetTells', WHERE WHAT IT READS IS OF BULK AT MOST 1048576: true; the input reads as it did. -/
def targetTellsUptoRow : OpenClaim := { program := "ytnnehbbfokoklaa", sum := "dc8856d8113d93cf978677d1e61da694bdb8402c2404733f21b03949447c3038", func := "parallax/parallaxlaw7.TargetTells", spec := "targetTells", inPlace := ["internal/bytealg.IndexByteString", "internal/bytealg.IndexString"], named := ["internal/bytealg.MaxLen"], apart := false, narrowed := true }
def TargetTellsUptoSaid : Prop := targetTellsUptoRow.holds Try.pinned (OpenSpec.upto targetTellsSpec)

/-- 'parallaxlaw7.TargetBack', WHERE WHAT IT READS IS OF BULK AT MOST 1048576: true; the input reads as it did. -/
def targetBackUptoRow : OpenClaim := { program := "ytnnehbbfokoklaa", sum := "dc8856d8113d93cf978677d1e61da694bdb8402c2404733f21b03949447c3038", func := "parallax/parallaxlaw7.TargetBack", spec := "targetBack", inPlace := ["internal/bytealg.IndexByteString", "internal/bytealg.IndexString"], named := ["internal/bytealg.MaxLen"], apart := false, narrowed := true }
def TargetBackUptoSaid : Prop := targetBackUptoRow.holds Try.pinned (OpenSpec.upto targetBackSpec)

/-- 'parallaxlaw7.TargetHosts', WHERE WHAT IT READS IS OF BULK AT MOST 1048576: true; the input reads as it did. -/
def targetHostsUptoRow : OpenClaim := { program := "ytnnehbbfokoklaa", sum := "dc8856d8113d93cf978677d1e61da694bdb8402c2404733f21b03949447c3038", func := "parallax/parallaxlaw7.TargetHosts", spec := "targetHosts", inPlace := ["internal/bytealg.IndexByteString", "internal/bytealg.IndexString"], recurses := true, named := ["internal/bytealg.MaxLen"], apart := false, narrowed := true }
def TargetHostsUptoSaid : Prop := targetHostsUptoRow.holds Try.pinned (OpenSpec.upto targetHostsSpec)

/-- 'parallaxlaw7.TargetForms', WHERE WHAT IT READS IS OF BULK AT MOST 1048576: true; the input reads as it did. -/
def targetFormsUptoRow : OpenClaim := { program := "ytnnehbbfokoklaa", sum := "dc8856d8113d93cf978677d1e61da694bdb8402c2404733f21b03949447c3038", func := "parallax/parallaxlaw7.TargetForms", spec := "targetForms", inPlace := ["internal/bytealg.IndexByteString", "internal/bytealg.IndexString"], named := ["internal/bytealg.MaxLen"], apart := false, narrowed := true }
def TargetFormsUptoSaid : Prop := targetFormsUptoRow.holds Try.pinned (OpenSpec.upto targetFormsSpec)

end Rows
end Go.Proofs.Ytnnehbbfokoklaa
