/-
  NARROWER THAN 'FOR EVERY INPUT', by the rows' own cells (each row's printed sentence says how): PercentTells: laid · PercentOnce: laid · PercentSigns: laid · PercentUps: laid.
  DERIVED. THE GIVEN ROWS OF THIS SEAT. 4 by the template 'for every input the law returns true; each argument reads behind the call as it read before'; 0 by the template 'total and deterministic' (their statements: YtljmpmipjdlkaaaDoorTotals.lean).
  GIVEN WITH THE SEED: the statements are not yours to turn. If you find one false, say at which input.
  Laid BY PROGRAM, IN A SANDBOX (cutbox-rows.mjs): the forced cells as the released guide's own fill.sh prints them over the translation 1a4ef7a4f543d939… (all of the seat's roots in one cut). By AI agents, Wed Nov 11 2026. No macro, syntax, notation, axiom, sorry.
-/
import Derived.Test.YtljmpmipjdlkaaaDoorChecked
import GoSem.PinnedTables
import GoSem.Claim
import GoSem.ClaimJoined
import GoSem.ClaimMapViews
import Derived.JoinedTies
import Derived.KernelRfl
namespace Go.Proofs.YtljmpmipjdlkaaaDoor
/- THE CELL 'sum', in the pinned program and in every row, IS THE sha256 OF THE DUMP (.gsa) THAT YtljmpmipjdlkaaaDoorProg.lean LOADS. Nothing in Lean hashes anything: it is a label: what it is worth is what the hold of that sum in a sandbox is worth. -/
noncomputable def Tryd.pinned : Pinned := { name := "ytljmpmipjdlkaaadoor", sum := "1a4ef7a4f543d939f3b116979958a8db943a277d2c2f1d9443236999707f04cc", checked := Tryd.checked }
namespace Rows
def none {H : Type} : Left H := { results := [], args := [] }

/- WHAT THE LISTED PACKAGE-LEVEL VARIABLES READ AS WHEN THE CALL BEGINS. Each datum BY PROGRAM (the guide's laid-datum.mjs) off the statement by which the dump's own 'gosem.cut.vars' lays the variable. In a bare row this is a premise. The card (YtljmpmipjdlkaaaDoorCards.lean) ties it to the program's text. -/
def laid_unicode_utf8_acceptRanges {H : Type} : DataW H := .agg [.agg [.lit (.int .u8 128), .lit (.int .u8 191)], .agg [.lit (.int .u8 160), .lit (.int .u8 191)], .agg [.lit (.int .u8 128), .lit (.int .u8 159)], .agg [.lit (.int .u8 144), .lit (.int .u8 191)], .agg [.lit (.int .u8 128), .lit (.int .u8 143)], .agg [.lit (.int .u8 0), .lit (.int .u8 0)], .agg [.lit (.int .u8 0), .lit (.int .u8 0)], .agg [.lit (.int .u8 0), .lit (.int .u8 0)], .agg [.lit (.int .u8 0), .lit (.int .u8 0)], .agg [.lit (.int .u8 0), .lit (.int .u8 0)], .agg [.lit (.int .u8 0), .lit (.int .u8 0)], .agg [.lit (.int .u8 0), .lit (.int .u8 0)], .agg [.lit (.int .u8 0), .lit (.int .u8 0)], .agg [.lit (.int .u8 0), .lit (.int .u8 0)], .agg [.lit (.int .u8 0), .lit (.int .u8 0)], .agg [.lit (.int .u8 0), .lit (.int .u8 0)]]
/-- One of Go's own tables, pinned by name: the form's constant. -/
def laid_unicode_utf8_first : DataW Unit := Go.Pinned.utf8First

/-- 'parallaxlaw19.PercentTells': WHATEVER THE INPUT: true; the input reads as it did. -/
def percentTellsSpec : ChangeSpec := { name := "percentTells", fn := fun _ => fun
  | [d1, d2, d3] => { results := [.lit (.bool true)], args := [d1, d2, d3] }
  | _ => none }
def percentTellsRow : OpenClaim := { program := "ytljmpmipjdlkaaadoor", sum := "1a4ef7a4f543d939f3b116979958a8db943a277d2c2f1d9443236999707f04cc", func := "parallax/parallaxlaw19.PercentTells", spec := "percentTells", inPlace := ["internal/abi.NoEscape", "internal/bytealg.IndexByteString", "internal/bytealg.CountString", "internal/bytealg.IndexString", "internal/bytealg.MakeNoZero"], unfollowed := true, recurses := true, named := ["unicode/utf8.first", "unicode/utf8.acceptRanges", "internal/bytealg.MaxLen"], apart := false, laid := [("unicode/utf8.acceptRanges", laid_unicode_utf8_acceptRanges), ("unicode/utf8.first", laid_unicode_utf8_first)] }
def PercentTellsSaid : Prop := percentTellsRow.holds Tryd.pinned (OpenSpec.ofChange percentTellsSpec)

/-- ITS FALSE NEIGHBOUR: 'it returns false'. Refute it at one input. -/
def percentTellsWrong : ChangeSpec := { name := "percentTells", fn := fun _ => fun
  | [d1, d2, d3] => { results := [.lit (.bool false)], args := [d1, d2, d3] }
  | _ => none }
def PercentTellsWrongFalsely : Prop := percentTellsRow.holds Tryd.pinned (OpenSpec.ofChange percentTellsWrong)

/-- 'parallaxlaw19.PercentOnce': WHATEVER THE INPUT: true; the input reads as it did. -/
def percentOnceSpec : ChangeSpec := { name := "percentOnce", fn := fun _ => fun
  | [d1, d2] => { results := [.lit (.bool true)], args := [d1, d2] }
  | _ => none }
def percentOnceRow : OpenClaim := { program := "ytljmpmipjdlkaaadoor", sum := "1a4ef7a4f543d939f3b116979958a8db943a277d2c2f1d9443236999707f04cc", func := "parallax/parallaxlaw19.PercentOnce", spec := "percentOnce", inPlace := ["internal/abi.NoEscape", "internal/bytealg.IndexByteString", "internal/bytealg.CountString", "internal/bytealg.IndexString", "internal/bytealg.MakeNoZero"], unfollowed := true, recurses := true, named := ["unicode/utf8.first", "unicode/utf8.acceptRanges", "internal/bytealg.MaxLen"], apart := false, laid := [("unicode/utf8.acceptRanges", laid_unicode_utf8_acceptRanges), ("unicode/utf8.first", laid_unicode_utf8_first)] }
def PercentOnceSaid : Prop := percentOnceRow.holds Tryd.pinned (OpenSpec.ofChange percentOnceSpec)

/-- ITS FALSE NEIGHBOUR: 'it returns false'. Refute it at one input. -/
def percentOnceWrong : ChangeSpec := { name := "percentOnce", fn := fun _ => fun
  | [d1, d2] => { results := [.lit (.bool false)], args := [d1, d2] }
  | _ => none }
def PercentOnceWrongFalsely : Prop := percentOnceRow.holds Tryd.pinned (OpenSpec.ofChange percentOnceWrong)

/-- 'parallaxlaw19.PercentSigns': WHATEVER THE INPUT: true; the input reads as it did. -/
def percentSignsSpec : ChangeSpec := { name := "percentSigns", fn := fun _ => fun
  | [d1, d2] => { results := [.lit (.bool true)], args := [d1, d2] }
  | _ => none }
def percentSignsRow : OpenClaim := { program := "ytljmpmipjdlkaaadoor", sum := "1a4ef7a4f543d939f3b116979958a8db943a277d2c2f1d9443236999707f04cc", func := "parallax/parallaxlaw19.PercentSigns", spec := "percentSigns", inPlace := ["internal/abi.NoEscape", "internal/bytealg.IndexByteString", "internal/bytealg.CountString", "internal/bytealg.IndexString", "internal/bytealg.MakeNoZero"], unfollowed := true, recurses := true, named := ["unicode/utf8.first", "unicode/utf8.acceptRanges", "internal/bytealg.MaxLen"], apart := false, laid := [("unicode/utf8.acceptRanges", laid_unicode_utf8_acceptRanges), ("unicode/utf8.first", laid_unicode_utf8_first)] }
def PercentSignsSaid : Prop := percentSignsRow.holds Tryd.pinned (OpenSpec.ofChange percentSignsSpec)

/-- ITS FALSE NEIGHBOUR: 'it returns false'. Refute it at one input. -/
def percentSignsWrong : ChangeSpec := { name := "percentSigns", fn := fun _ => fun
  | [d1, d2] => { results := [.lit (.bool false)], args := [d1, d2] }
  | _ => none }
def PercentSignsWrongFalsely : Prop := percentSignsRow.holds Tryd.pinned (OpenSpec.ofChange percentSignsWrong)

/-- 'parallaxlaw19.PercentUps': WHATEVER THE INPUT: true; the input reads as it did. -/
def percentUpsSpec : ChangeSpec := { name := "percentUps", fn := fun _ => fun
  | [d] => { results := [.lit (.bool true)], args := [d] }
  | _ => none }
def percentUpsRow : OpenClaim := { program := "ytljmpmipjdlkaaadoor", sum := "1a4ef7a4f543d939f3b116979958a8db943a277d2c2f1d9443236999707f04cc", func := "parallax/parallaxlaw19.PercentUps", spec := "percentUps", inPlace := ["internal/abi.NoEscape", "internal/bytealg.IndexByteString", "internal/bytealg.CountString", "internal/bytealg.IndexString", "internal/bytealg.MakeNoZero"], unfollowed := true, recurses := true, named := ["unicode/utf8.first", "unicode/utf8.acceptRanges", "internal/bytealg.MaxLen"], apart := false, laid := [("unicode/utf8.acceptRanges", laid_unicode_utf8_acceptRanges), ("unicode/utf8.first", laid_unicode_utf8_first)] }
def PercentUpsSaid : Prop := percentUpsRow.holds Tryd.pinned (OpenSpec.ofChange percentUpsSpec)

/-- ITS FALSE NEIGHBOUR: 'it returns false'. Refute it at one input. -/
def percentUpsWrong : ChangeSpec := { name := "percentUps", fn := fun _ => fun
  | [d] => { results := [.lit (.bool false)], args := [d] }
  | _ => none }
def PercentUpsWrongFalsely : Prop := percentUpsRow.holds Tryd.pinned (OpenSpec.ofChange percentUpsWrong)

/- THE SECOND FORM. 'bulk': how many values and letters a reading holds, each counted each time it is reached (what is shared counts as often as it is met; a slice's spare places count too). A statement '..UptoSaid' is the law's where the arguments, and the package variables that the reading takes, are together of bulk at most 1048576: NARROWER than '..Said'. Prove '..Said' where nothing that the law and all that it calls make is longer than what came in: it says more and counts as full. Else prove '..UptoSaid'. A law counts once. -/
mutual
def uptoBulk {H : Type} : DataW H → Nat
  | .lit (.string bytes) => bytes.length + 1
  | .lit _ => 1
  | .nil => 1
  | .ptr d => uptoBulk d + 1
  | .slice elems spare => uptoBulkAll elems + uptoBulkAll spare + 1
  | .agg parts => uptoBulkAll parts + 1
  | .iface _ d => uptoBulk d + 1
  | .map entries => uptoBulkEntries entries + 1
  | .held _ => 1
def uptoBulkAll {H : Type} : List (DataW H) → Nat
  | [] => 0
  | d :: r => uptoBulk d + uptoBulkAll r
def uptoBulkEntries {H : Type} : List (Lit × DataW H) → Nat
  | [] => 0
  | x :: r => uptoBulkEntry x + uptoBulkEntries r
def uptoBulkEntry {H : Type} : Lit × DataW H → Nat
  | (.string bytes, d) => bytes.length + uptoBulk d + 1
  | (_, d) => uptoBulk d + 1
 end
def uptoSmall : (H : Type) → List (DataW H) → Bool := fun _ ds => decide (uptoBulkAll ds ≤ 1048576)
def OpenSpec.upto (s : _root_.Go.ChangeSpec) : _root_.Go.OpenSpec := { _root_.Go.OpenSpec.ofChange s with cond := some uptoSmall }

/-- 'parallaxlaw19.PercentTells', WHERE WHAT IT READS IS OF BULK AT MOST 1048576: true; the input reads as it did. -/
def percentTellsUptoRow : OpenClaim := { program := "ytljmpmipjdlkaaadoor", sum := "1a4ef7a4f543d939f3b116979958a8db943a277d2c2f1d9443236999707f04cc", func := "parallax/parallaxlaw19.PercentTells", spec := "percentTells", inPlace := ["internal/abi.NoEscape", "internal/bytealg.IndexByteString", "internal/bytealg.CountString", "internal/bytealg.IndexString", "internal/bytealg.MakeNoZero"], unfollowed := true, recurses := true, named := ["unicode/utf8.first", "unicode/utf8.acceptRanges", "internal/bytealg.MaxLen"], apart := false, laid := [("unicode/utf8.acceptRanges", laid_unicode_utf8_acceptRanges), ("unicode/utf8.first", laid_unicode_utf8_first)], narrowed := true }
def PercentTellsUptoSaid : Prop := percentTellsUptoRow.holds Tryd.pinned (OpenSpec.upto percentTellsSpec)

/-- 'parallaxlaw19.PercentOnce', WHERE WHAT IT READS IS OF BULK AT MOST 1048576: true; the input reads as it did. -/
def percentOnceUptoRow : OpenClaim := { program := "ytljmpmipjdlkaaadoor", sum := "1a4ef7a4f543d939f3b116979958a8db943a277d2c2f1d9443236999707f04cc", func := "parallax/parallaxlaw19.PercentOnce", spec := "percentOnce", inPlace := ["internal/abi.NoEscape", "internal/bytealg.IndexByteString", "internal/bytealg.CountString", "internal/bytealg.IndexString", "internal/bytealg.MakeNoZero"], unfollowed := true, recurses := true, named := ["unicode/utf8.first", "unicode/utf8.acceptRanges", "internal/bytealg.MaxLen"], apart := false, laid := [("unicode/utf8.acceptRanges", laid_unicode_utf8_acceptRanges), ("unicode/utf8.first", laid_unicode_utf8_first)], narrowed := true }
def PercentOnceUptoSaid : Prop := percentOnceUptoRow.holds Tryd.pinned (OpenSpec.upto percentOnceSpec)

/-- 'parallaxlaw19.PercentSigns', WHERE WHAT IT READS IS OF BULK AT MOST 1048576: true; the input reads as it did. -/
def percentSignsUptoRow : OpenClaim := { program := "ytljmpmipjdlkaaadoor", sum := "1a4ef7a4f543d939f3b116979958a8db943a277d2c2f1d9443236999707f04cc", func := "parallax/parallaxlaw19.PercentSigns", spec := "percentSigns", inPlace := ["internal/abi.NoEscape", "internal/bytealg.IndexByteString", "internal/bytealg.CountString", "internal/bytealg.IndexString", "internal/bytealg.MakeNoZero"], unfollowed := true, recurses := true, named := ["unicode/utf8.first", "unicode/utf8.acceptRanges", "internal/bytealg.MaxLen"], apart := false, laid := [("unicode/utf8.acceptRanges", laid_unicode_utf8_acceptRanges), ("unicode/utf8.first", laid_unicode_utf8_first)], narrowed := true }
def PercentSignsUptoSaid : Prop := percentSignsUptoRow.holds Tryd.pinned (OpenSpec.upto percentSignsSpec)

/-- 'parallaxlaw19.PercentUps', WHERE WHAT IT READS IS OF BULK AT MOST 1048576: true; the input reads as it did. -/
def percentUpsUptoRow : OpenClaim := { program := "ytljmpmipjdlkaaadoor", sum := "1a4ef7a4f543d939f3b116979958a8db943a277d2c2f1d9443236999707f04cc", func := "parallax/parallaxlaw19.PercentUps", spec := "percentUps", inPlace := ["internal/abi.NoEscape", "internal/bytealg.IndexByteString", "internal/bytealg.CountString", "internal/bytealg.IndexString", "internal/bytealg.MakeNoZero"], unfollowed := true, recurses := true, named := ["unicode/utf8.first", "unicode/utf8.acceptRanges", "internal/bytealg.MaxLen"], apart := false, laid := [("unicode/utf8.acceptRanges", laid_unicode_utf8_acceptRanges), ("unicode/utf8.first", laid_unicode_utf8_first)], narrowed := true }
def PercentUpsUptoSaid : Prop := percentUpsUptoRow.holds Tryd.pinned (OpenSpec.upto percentUpsSpec)

end Rows
end Go.Proofs.YtljmpmipjdlkaaaDoor
