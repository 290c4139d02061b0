/-
  NARROWER THAN 'FOR EVERY INPUT', by the rows' own cells (each row's printed sentence says how): FramingTells: laid · FramingParts: laid · FramingClauses: laid · FramingBoth: laid · FramingLengths: laid.
  DERIVED. THE GIVEN ROWS OF THIS SEAT. 5 by the template 'for every input the law returns true; each argument reads behind the call as it read before'; 0 by the template 'total and deterministic' (their statements: YtlheepfjdmhplaaDoorTotals.lean).
  GIVEN WITH THE SEED: the statements are not yours to turn. If you find one false, say at which input.
  Laid BY PROGRAM, IN A SANDBOX (cutbox-rows.mjs): the forced cells as the released guide's own fill.sh prints them over the translation 10269e2f7be4215b… (all of the seat's roots in one cut). By AI agents, Wed Nov 11 2026. No macro, syntax, notation, axiom, sorry.
-/
import Derived.Test.YtlheepfjdmhplaaDoorChecked
import GoSem.PinnedTables
import GoSem.Claim
import GoSem.ClaimJoined
import GoSem.ClaimMapViews
import Derived.JoinedTies
import Derived.KernelRfl
namespace Go.Proofs.YtlheepfjdmhplaaDoor
/- THE CELL 'sum', in the pinned program and in every row, IS THE sha256 OF THE DUMP (.gsa) THAT YtlheepfjdmhplaaDoorProg.lean LOADS. Nothing in Lean hashes anything: it is a label: what it is worth is what the hold of that sum in a sandbox is worth. -/
noncomputable def Tryd.pinned : Pinned := { name := "ytlheepfjdmhplaadoor", sum := "10269e2f7be4215b36c7ab6e7f74c2d04e7c6e78ec1fc1264fc105b19d216cd1", checked := Tryd.checked }
namespace Rows
def none {H : Type} : Left H := { results := [], args := [] }

/- WHAT THE LISTED PACKAGE-LEVEL VARIABLES READ AS WHEN THE CALL BEGINS. Each datum BY PROGRAM (the guide's laid-datum.mjs) off the statement by which the dump's own 'gosem.cut.vars' lays the variable. In a bare row this is a premise. The card (YtlheepfjdmhplaaDoorCards.lean) ties it to the program's text. -/
def laid_unicode_utf8_acceptRanges {H : Type} : DataW H := .agg [.agg [.lit (.int .u8 128), .lit (.int .u8 191)], .agg [.lit (.int .u8 160), .lit (.int .u8 191)], .agg [.lit (.int .u8 128), .lit (.int .u8 159)], .agg [.lit (.int .u8 144), .lit (.int .u8 191)], .agg [.lit (.int .u8 128), .lit (.int .u8 143)], .agg [.lit (.int .u8 0), .lit (.int .u8 0)], .agg [.lit (.int .u8 0), .lit (.int .u8 0)], .agg [.lit (.int .u8 0), .lit (.int .u8 0)], .agg [.lit (.int .u8 0), .lit (.int .u8 0)], .agg [.lit (.int .u8 0), .lit (.int .u8 0)], .agg [.lit (.int .u8 0), .lit (.int .u8 0)], .agg [.lit (.int .u8 0), .lit (.int .u8 0)], .agg [.lit (.int .u8 0), .lit (.int .u8 0)], .agg [.lit (.int .u8 0), .lit (.int .u8 0)], .agg [.lit (.int .u8 0), .lit (.int .u8 0)], .agg [.lit (.int .u8 0), .lit (.int .u8 0)]]
/-- One of Go's own tables, pinned by name: the form's constant. -/
def laid_unicode_utf8_first : DataW Unit := Go.Pinned.utf8First

/-- 'parallaxlaw10.FramingTells': WHATEVER THE INPUT: true; the input reads as it did. -/
def framingTellsSpec : ChangeSpec := { name := "framingTells", fn := fun _ => fun
  | [d1, d2, d3, d4, d5, d6] => { results := [.lit (.bool true)], args := [d1, d2, d3, d4, d5, d6] }
  | _ => none }
def framingTellsRow : OpenClaim := { program := "ytlheepfjdmhplaadoor", sum := "10269e2f7be4215b36c7ab6e7f74c2d04e7c6e78ec1fc1264fc105b19d216cd1", func := "parallax/parallaxlaw10.FramingTells", spec := "framingTells", inPlace := ["internal/bytealg.IndexByteString", "internal/bytealg.IndexString", "internal/bytealg.CountString"], unfollowed := true, recurses := true, named := ["internal/bytealg.MaxLen", "unicode/utf8.first", "unicode/utf8.acceptRanges"], apart := false, laid := [("unicode/utf8.acceptRanges", laid_unicode_utf8_acceptRanges), ("unicode/utf8.first", laid_unicode_utf8_first)] }
def FramingTellsSaid : Prop := framingTellsRow.holds Tryd.pinned (OpenSpec.ofChange framingTellsSpec)

/-- ITS FALSE NEIGHBOUR: 'it returns false'. Refute it at one input. -/
def framingTellsWrong : ChangeSpec := { name := "framingTells", fn := fun _ => fun
  | [d1, d2, d3, d4, d5, d6] => { results := [.lit (.bool false)], args := [d1, d2, d3, d4, d5, d6] }
  | _ => none }
def FramingTellsWrongFalsely : Prop := framingTellsRow.holds Tryd.pinned (OpenSpec.ofChange framingTellsWrong)

/-- 'parallaxlaw10.FramingParts': WHATEVER THE INPUT: true; the input reads as it did. -/
def framingPartsSpec : ChangeSpec := { name := "framingParts", fn := fun _ => fun
  | [d1, d2, d3, d4, d5] => { results := [.lit (.bool true)], args := [d1, d2, d3, d4, d5] }
  | _ => none }
def framingPartsRow : OpenClaim := { program := "ytlheepfjdmhplaadoor", sum := "10269e2f7be4215b36c7ab6e7f74c2d04e7c6e78ec1fc1264fc105b19d216cd1", func := "parallax/parallaxlaw10.FramingParts", spec := "framingParts", inPlace := ["internal/bytealg.IndexByteString", "internal/bytealg.IndexString", "internal/bytealg.CountString"], unfollowed := true, recurses := true, named := ["internal/bytealg.MaxLen", "unicode/utf8.first", "unicode/utf8.acceptRanges"], apart := false, laid := [("unicode/utf8.acceptRanges", laid_unicode_utf8_acceptRanges), ("unicode/utf8.first", laid_unicode_utf8_first)] }
def FramingPartsSaid : Prop := framingPartsRow.holds Tryd.pinned (OpenSpec.ofChange framingPartsSpec)

/-- ITS FALSE NEIGHBOUR: 'it returns false'. Refute it at one input. -/
def framingPartsWrong : ChangeSpec := { name := "framingParts", fn := fun _ => fun
  | [d1, d2, d3, d4, d5] => { results := [.lit (.bool false)], args := [d1, d2, d3, d4, d5] }
  | _ => none }
def FramingPartsWrongFalsely : Prop := framingPartsRow.holds Tryd.pinned (OpenSpec.ofChange framingPartsWrong)

/-- 'parallaxlaw10.FramingClauses': WHATEVER THE INPUT: true; the input reads as it did. -/
def framingClausesSpec : ChangeSpec := { name := "framingClauses", fn := fun _ => fun
  | [d1, d2] => { results := [.lit (.bool true)], args := [d1, d2] }
  | _ => none }
def framingClausesRow : OpenClaim := { program := "ytlheepfjdmhplaadoor", sum := "10269e2f7be4215b36c7ab6e7f74c2d04e7c6e78ec1fc1264fc105b19d216cd1", func := "parallax/parallaxlaw10.FramingClauses", spec := "framingClauses", inPlace := ["internal/bytealg.IndexByteString", "internal/bytealg.IndexString", "internal/bytealg.CountString"], unfollowed := true, recurses := true, named := ["internal/bytealg.MaxLen", "unicode/utf8.first", "unicode/utf8.acceptRanges"], apart := false, laid := [("unicode/utf8.acceptRanges", laid_unicode_utf8_acceptRanges), ("unicode/utf8.first", laid_unicode_utf8_first)] }
def FramingClausesSaid : Prop := framingClausesRow.holds Tryd.pinned (OpenSpec.ofChange framingClausesSpec)

/-- ITS FALSE NEIGHBOUR: 'it returns false'. Refute it at one input. -/
def framingClausesWrong : ChangeSpec := { name := "framingClauses", fn := fun _ => fun
  | [d1, d2] => { results := [.lit (.bool false)], args := [d1, d2] }
  | _ => none }
def FramingClausesWrongFalsely : Prop := framingClausesRow.holds Tryd.pinned (OpenSpec.ofChange framingClausesWrong)

/-- 'parallaxlaw10.FramingBoth': WHATEVER THE INPUT: true; the input reads as it did. -/
def framingBothSpec : ChangeSpec := { name := "framingBoth", fn := fun _ => fun
  | [d1, d2, d3, d4] => { results := [.lit (.bool true)], args := [d1, d2, d3, d4] }
  | _ => none }
def framingBothRow : OpenClaim := { program := "ytlheepfjdmhplaadoor", sum := "10269e2f7be4215b36c7ab6e7f74c2d04e7c6e78ec1fc1264fc105b19d216cd1", func := "parallax/parallaxlaw10.FramingBoth", spec := "framingBoth", inPlace := ["internal/bytealg.IndexByteString", "internal/bytealg.IndexString", "internal/bytealg.CountString"], unfollowed := true, recurses := true, named := ["internal/bytealg.MaxLen", "unicode/utf8.first", "unicode/utf8.acceptRanges"], apart := false, laid := [("unicode/utf8.acceptRanges", laid_unicode_utf8_acceptRanges), ("unicode/utf8.first", laid_unicode_utf8_first)] }
def FramingBothSaid : Prop := framingBothRow.holds Tryd.pinned (OpenSpec.ofChange framingBothSpec)

/-- ITS FALSE NEIGHBOUR: 'it returns false'. Refute it at one input. -/
def framingBothWrong : ChangeSpec := { name := "framingBoth", fn := fun _ => fun
  | [d1, d2, d3, d4] => { results := [.lit (.bool false)], args := [d1, d2, d3, d4] }
  | _ => none }
def FramingBothWrongFalsely : Prop := framingBothRow.holds Tryd.pinned (OpenSpec.ofChange framingBothWrong)

/-- 'parallaxlaw10.FramingLengths': WHATEVER THE INPUT: true; the input reads as it did. -/
def framingLengthsSpec : ChangeSpec := { name := "framingLengths", fn := fun _ => fun
  | [d1, d2, d3, d4, d5] => { results := [.lit (.bool true)], args := [d1, d2, d3, d4, d5] }
  | _ => none }
def framingLengthsRow : OpenClaim := { program := "ytlheepfjdmhplaadoor", sum := "10269e2f7be4215b36c7ab6e7f74c2d04e7c6e78ec1fc1264fc105b19d216cd1", func := "parallax/parallaxlaw10.FramingLengths", spec := "framingLengths", inPlace := ["internal/bytealg.IndexByteString", "internal/bytealg.IndexString", "internal/bytealg.CountString"], unfollowed := true, recurses := true, named := ["internal/bytealg.MaxLen", "unicode/utf8.first", "unicode/utf8.acceptRanges"], apart := false, laid := [("unicode/utf8.acceptRanges", laid_unicode_utf8_acceptRanges), ("unicode/utf8.first", laid_unicode_utf8_first)] }
def FramingLengthsSaid : Prop := framingLengthsRow.holds Tryd.pinned (OpenSpec.ofChange framingLengthsSpec)

/-- ITS FALSE NEIGHBOUR: 'it returns false'. Refute it at one input. -/
def framingLengthsWrong : ChangeSpec := { name := "framingLengths", fn := fun _ => fun
  | [d1, d2, d3, d4, d5] => { results := [.lit (.bool false)], args := [d1, d2, d3, d4, d5] }
  | _ => none }
def FramingLengthsWrongFalsely : Prop := framingLengthsRow.holds Tryd.pinned (OpenSpec.ofChange framingLengthsWrong)

/- THE SECOND FORM. 'bulk': how many values and letters a reading holds, each counted each time it is reached (what is shared counts as often as it is met; a slice's spare places count too). A statement '..UptoSaid' is the law's where the arguments, and the package variables that the reading takes, are together of bulk at most 1048576: NARROWER than '..Said'. Prove '..Said' where nothing that the law and all that it calls make is longer than what came in: it says more and counts as full. Else prove '..UptoSaid'. A law counts once. -/
mutual
def uptoBulk {H : Type} : DataW H → Nat
  | .lit (.string bytes) => bytes.length + 1
  | .lit _ => 1
  | .nil => 1
  | .ptr d => uptoBulk d + 1
  | .slice elems spare => uptoBulkAll elems + uptoBulkAll spare + 1
  | .agg parts => uptoBulkAll parts + 1
  | .iface _ d => uptoBulk d + 1
  | .map entries => uptoBulkEntries entries + 1
  | .held _ => 1
def uptoBulkAll {H : Type} : List (DataW H) → Nat
  | [] => 0
  | d :: r => uptoBulk d + uptoBulkAll r
def uptoBulkEntries {H : Type} : List (Lit × DataW H) → Nat
  | [] => 0
  | x :: r => uptoBulkEntry x + uptoBulkEntries r
def uptoBulkEntry {H : Type} : Lit × DataW H → Nat
  | (.string bytes, d) => bytes.length + uptoBulk d + 1
  | (_, d) => uptoBulk d + 1
 end
def uptoSmall : (H : Type) → List (DataW H) → Bool := fun _ ds => decide (uptoBulkAll ds ≤ 1048576)
def OpenSpec.upto (s : _root_.Go.ChangeSpec) : _root_.Go.OpenSpec := { _root_.Go.OpenSpec.ofChange s with cond := some uptoSmall }

/-- 'parallaxlaw10.FramingTells', WHERE WHAT IT READS IS OF BULK AT MOST 1048576: true; the input reads as it did. -/
def framingTellsUptoRow : OpenClaim := { program := "ytlheepfjdmhplaadoor", sum := "10269e2f7be4215b36c7ab6e7f74c2d04e7c6e78ec1fc1264fc105b19d216cd1", func := "parallax/parallaxlaw10.FramingTells", spec := "framingTells", inPlace := ["internal/bytealg.IndexByteString", "internal/bytealg.IndexString", "internal/bytealg.CountString"], unfollowed := true, recurses := true, named := ["internal/bytealg.MaxLen", "unicode/utf8.first", "unicode/utf8.acceptRanges"], apart := false, laid := [("unicode/utf8.acceptRanges", laid_unicode_utf8_acceptRanges), ("unicode/utf8.first", laid_unicode_utf8_first)], narrowed := true }
def FramingTellsUptoSaid : Prop := framingTellsUptoRow.holds Tryd.pinned (OpenSpec.upto framingTellsSpec)

/-- 'parallaxlaw10.FramingParts', WHERE WHAT IT READS IS OF BULK AT MOST 1048576: true; the input reads as it did. -/
def framingPartsUptoRow : OpenClaim := { program := "ytlheepfjdmhplaadoor", sum := "10269e2f7be4215b36c7ab6e7f74c2d04e7c6e78ec1fc1264fc105b19d216cd1", func := "parallax/parallaxlaw10.FramingParts", spec := "framingParts", inPlace := ["internal/bytealg.IndexByteString", "internal/bytealg.IndexString", "internal/bytealg.CountString"], unfollowed := true, recurses := true, named := ["internal/bytealg.MaxLen", "unicode/utf8.first", "unicode/utf8.acceptRanges"], apart := false, laid := [("unicode/utf8.acceptRanges", laid_unicode_utf8_acceptRanges), ("unicode/utf8.first", laid_unicode_utf8_first)], narrowed := true }
def FramingPartsUptoSaid : Prop := framingPartsUptoRow.holds Tryd.pinned (OpenSpec.upto framingPartsSpec)

/-- 'parallaxlaw10.FramingClauses', WHERE WHAT IT READS IS OF BULK AT MOST 1048576: true; the input reads as it did. -/
def framingClausesUptoRow : OpenClaim := { program := "ytlheepfjdmhplaadoor", sum := "10269e2f7be4215b36c7ab6e7f74c2d04e7c6e78ec1fc1264fc105b19d216cd1", func := "parallax/parallaxlaw10.FramingClauses", spec := "framingClauses", inPlace := ["internal/bytealg.IndexByteString", "internal/bytealg.IndexString", "internal/bytealg.CountString"], unfollowed := true, recurses := true, named := ["internal/bytealg.MaxLen", "unicode/utf8.first", "unicode/utf8.acceptRanges"], apart := false, laid := [("unicode/utf8.acceptRanges", laid_unicode_utf8_acceptRanges), ("unicode/utf8.first", laid_unicode_utf8_first)], narrowed := true }
def FramingClausesUptoSaid : Prop := framingClausesUptoRow.holds Tryd.pinned (OpenSpec.upto framingClausesSpec)

/-- 'parallaxlaw10.FramingBoth', WHERE WHAT IT READS IS OF BULK AT MOST 1048576: true; the input reads as it did. -/
def framingBothUptoRow : OpenClaim := { program := "ytlheepfjdmhplaadoor", sum := "10269e2f7be4215b36c7ab6e7f74c2d04e7c6e78ec1fc1264fc105b19d216cd1", func := "parallax/parallaxlaw10.FramingBoth", spec := "framingBoth", inPlace := ["internal/bytealg.IndexByteString", "internal/bytealg.IndexString", "internal/bytealg.CountString"], unfollowed := true, recurses := true, named := ["internal/bytealg.MaxLen", "unicode/utf8.first", "unicode/utf8.acceptRanges"], apart := false, laid := [("unicode/utf8.acceptRanges", laid_unicode_utf8_acceptRanges), ("unicode/utf8.first", laid_unicode_utf8_first)], narrowed := true }
def FramingBothUptoSaid : Prop := framingBothUptoRow.holds Tryd.pinned (OpenSpec.upto framingBothSpec)

/-- 'parallaxlaw10.FramingLengths', WHERE WHAT IT READS IS OF BULK AT MOST 1048576: true; the input reads as it did. -/
def framingLengthsUptoRow : OpenClaim := { program := "ytlheepfjdmhplaadoor", sum := "10269e2f7be4215b36c7ab6e7f74c2d04e7c6e78ec1fc1264fc105b19d216cd1", func := "parallax/parallaxlaw10.FramingLengths", spec := "framingLengths", inPlace := ["internal/bytealg.IndexByteString", "internal/bytealg.IndexString", "internal/bytealg.CountString"], unfollowed := true, recurses := true, named := ["internal/bytealg.MaxLen", "unicode/utf8.first", "unicode/utf8.acceptRanges"], apart := false, laid := [("unicode/utf8.acceptRanges", laid_unicode_utf8_acceptRanges), ("unicode/utf8.first", laid_unicode_utf8_first)], narrowed := true }
def FramingLengthsUptoSaid : Prop := framingLengthsUptoRow.holds Tryd.pinned (OpenSpec.upto framingLengthsSpec)

end Rows
end Go.Proofs.YtlheepfjdmhplaaDoor
