/-
  NARROWER THAN 'FOR EVERY INPUT', by the rows' own cells (each row's printed sentence says how): AstChecks: laid · AstBuilds: laid · AstKinds: laid · AstEach: laid.
  DERIVED. THE GIVEN ROWS OF THIS SEAT. 4 by the template 'for every input the law returns true; each argument reads behind the call as it read before'; 0 by the template 'total and deterministic' (their statements: YtmnkalojpefclaaDoorTotals.lean).
  GIVEN WITH THE SEED: the statements are not yours to turn. If you find one false, say at which input.
  Laid BY PROGRAM, IN A SANDBOX (cutbox-rows.mjs): the forced cells as the released guide's own fill.sh prints them over the translation b8f419449fc93c29… (all of the seat's roots in one cut). By AI agents, Wed Nov 11 2026. No macro, syntax, notation, axiom, sorry.
-/
import Derived.Test.YtmnkalojpefclaaDoorChecked
import GoSem.PinnedTables
import GoSem.Claim
import GoSem.ClaimJoined
import GoSem.ClaimMapViews
import Derived.JoinedTies
import Derived.KernelRfl
namespace Go.Proofs.YtmnkalojpefclaaDoor
/- THE CELL 'sum', in the pinned program and in every row, IS THE sha256 OF THE DUMP (.gsa) THAT YtmnkalojpefclaaDoorProg.lean LOADS. Nothing in Lean hashes anything: it is a label: what it is worth is what the hold of that sum in a sandbox is worth. -/
noncomputable def Tryd.pinned : Pinned := { name := "ytmnkalojpefclaadoor", sum := "b8f419449fc93c291b3e149a059c9a09e8506eadb13fd32b79175ebae831ec8e", checked := Tryd.checked }
namespace Rows
def none {H : Type} : Left H := { results := [], args := [] }

/- WHAT THE LISTED PACKAGE-LEVEL VARIABLES READ AS WHEN THE CALL BEGINS. Each datum BY PROGRAM (the guide's laid-datum.mjs) off the statement by which the dump's own 'gosem.cut.vars' lays the variable. In a bare row this is a premise. The card (YtmnkalojpefclaaDoorCards.lean) ties it to the program's text. -/
def laid_unicode_utf8_acceptRanges {H : Type} : DataW H := .agg [.agg [.lit (.int .u8 128), .lit (.int .u8 191)], .agg [.lit (.int .u8 160), .lit (.int .u8 191)], .agg [.lit (.int .u8 128), .lit (.int .u8 159)], .agg [.lit (.int .u8 144), .lit (.int .u8 191)], .agg [.lit (.int .u8 128), .lit (.int .u8 143)], .agg [.lit (.int .u8 0), .lit (.int .u8 0)], .agg [.lit (.int .u8 0), .lit (.int .u8 0)], .agg [.lit (.int .u8 0), .lit (.int .u8 0)], .agg [.lit (.int .u8 0), .lit (.int .u8 0)], .agg [.lit (.int .u8 0), .lit (.int .u8 0)], .agg [.lit (.int .u8 0), .lit (.int .u8 0)], .agg [.lit (.int .u8 0), .lit (.int .u8 0)], .agg [.lit (.int .u8 0), .lit (.int .u8 0)], .agg [.lit (.int .u8 0), .lit (.int .u8 0)], .agg [.lit (.int .u8 0), .lit (.int .u8 0)], .agg [.lit (.int .u8 0), .lit (.int .u8 0)]]
/-- One of Go's own tables, pinned by name: the form's constant. -/
def laid_unicode_utf8_first : DataW Unit := Go.Pinned.utf8First

/-- 'dreylaw09.AstChecks': WHATEVER THE INPUT: true; the input reads as it did. -/
def astChecksSpec : ChangeSpec := { name := "astChecks", fn := fun _ => fun
  | [d] => { results := [.lit (.bool true)], args := [d] }
  | _ => none }
def astChecksRow : OpenClaim := { program := "ytmnkalojpefclaadoor", sum := "b8f419449fc93c291b3e149a059c9a09e8506eadb13fd32b79175ebae831ec8e", func := "drey/dreylaw09.AstChecks", spec := "astChecks", inPlace := ["internal/bytealg.IndexByteString", "internal/bytealg.IndexString", "internal/bytealg.CountString"], recurses := true, named := ["internal/bytealg.MaxLen", "unicode/utf8.first", "unicode/utf8.acceptRanges"], apart := false, laid := [("unicode/utf8.acceptRanges", laid_unicode_utf8_acceptRanges), ("unicode/utf8.first", laid_unicode_utf8_first)] }
def AstChecksSaid : Prop := astChecksRow.holds Tryd.pinned (OpenSpec.ofChange astChecksSpec)

/-- ITS FALSE NEIGHBOUR: 'it returns false'. Refute it at one input. -/
def astChecksWrong : ChangeSpec := { name := "astChecks", fn := fun _ => fun
  | [d] => { results := [.lit (.bool false)], args := [d] }
  | _ => none }
def AstChecksWrongFalsely : Prop := astChecksRow.holds Tryd.pinned (OpenSpec.ofChange astChecksWrong)

/-- 'dreylaw09.AstBuilds': WHATEVER THE INPUT: true; the input reads as it did. -/
def astBuildsSpec : ChangeSpec := { name := "astBuilds", fn := fun _ => fun
  | [d] => { results := [.lit (.bool true)], args := [d] }
  | _ => none }
def astBuildsRow : OpenClaim := { program := "ytmnkalojpefclaadoor", sum := "b8f419449fc93c291b3e149a059c9a09e8506eadb13fd32b79175ebae831ec8e", func := "drey/dreylaw09.AstBuilds", spec := "astBuilds", inPlace := ["internal/bytealg.IndexByteString", "internal/bytealg.IndexString", "internal/bytealg.CountString"], recurses := true, named := ["internal/bytealg.MaxLen", "unicode/utf8.first", "unicode/utf8.acceptRanges"], apart := false, laid := [("unicode/utf8.acceptRanges", laid_unicode_utf8_acceptRanges), ("unicode/utf8.first", laid_unicode_utf8_first)] }
def AstBuildsSaid : Prop := astBuildsRow.holds Tryd.pinned (OpenSpec.ofChange astBuildsSpec)

/-- ITS FALSE NEIGHBOUR: 'it returns false'. Refute it at one input. -/
def astBuildsWrong : ChangeSpec := { name := "astBuilds", fn := fun _ => fun
  | [d] => { results := [.lit (.bool false)], args := [d] }
  | _ => none }
def AstBuildsWrongFalsely : Prop := astBuildsRow.holds Tryd.pinned (OpenSpec.ofChange astBuildsWrong)

/-- 'dreylaw09.AstKinds': WHATEVER THE INPUT: true; the input reads as it did. -/
def astKindsSpec : ChangeSpec := { name := "astKinds", fn := fun _ => fun
  | [d1, d2] => { results := [.lit (.bool true)], args := [d1, d2] }
  | _ => none }
def astKindsRow : OpenClaim := { program := "ytmnkalojpefclaadoor", sum := "b8f419449fc93c291b3e149a059c9a09e8506eadb13fd32b79175ebae831ec8e", func := "drey/dreylaw09.AstKinds", spec := "astKinds", inPlace := ["internal/bytealg.IndexByteString", "internal/bytealg.IndexString", "internal/bytealg.CountString"], recurses := true, named := ["internal/bytealg.MaxLen", "unicode/utf8.first", "unicode/utf8.acceptRanges"], apart := false, laid := [("unicode/utf8.acceptRanges", laid_unicode_utf8_acceptRanges), ("unicode/utf8.first", laid_unicode_utf8_first)] }
def AstKindsSaid : Prop := astKindsRow.holds Tryd.pinned (OpenSpec.ofChange astKindsSpec)

/-- ITS FALSE NEIGHBOUR: 'it returns false'. Refute it at one input. -/
def astKindsWrong : ChangeSpec := { name := "astKinds", fn := fun _ => fun
  | [d1, d2] => { results := [.lit (.bool false)], args := [d1, d2] }
  | _ => none }
def AstKindsWrongFalsely : Prop := astKindsRow.holds Tryd.pinned (OpenSpec.ofChange astKindsWrong)

/-- 'dreylaw09.AstEach': WHATEVER THE INPUT: true; the input reads as it did. -/
def astEachSpec : ChangeSpec := { name := "astEach", fn := fun _ => fun
  | [d1, d2] => { results := [.lit (.bool true)], args := [d1, d2] }
  | _ => none }
def astEachRow : OpenClaim := { program := "ytmnkalojpefclaadoor", sum := "b8f419449fc93c291b3e149a059c9a09e8506eadb13fd32b79175ebae831ec8e", func := "drey/dreylaw09.AstEach", spec := "astEach", inPlace := ["internal/bytealg.IndexByteString", "internal/bytealg.IndexString", "internal/bytealg.CountString"], unfollowed := true, recurses := true, named := ["internal/bytealg.MaxLen", "unicode/utf8.first", "unicode/utf8.acceptRanges"], apart := false, laid := [("unicode/utf8.acceptRanges", laid_unicode_utf8_acceptRanges), ("unicode/utf8.first", laid_unicode_utf8_first)] }
def AstEachSaid : Prop := astEachRow.holds Tryd.pinned (OpenSpec.ofChange astEachSpec)

/-- ITS FALSE NEIGHBOUR: 'it returns false'. Refute it at one input. -/
def astEachWrong : ChangeSpec := { name := "astEach", fn := fun _ => fun
  | [d1, d2] => { results := [.lit (.bool false)], args := [d1, d2] }
  | _ => none }
def AstEachWrongFalsely : Prop := astEachRow.holds Tryd.pinned (OpenSpec.ofChange astEachWrong)

/- THE SECOND FORM. 'bulk': how many values and letters a reading holds, each counted each time it is reached (what is shared counts as often as it is met; a slice's spare places count too). A statement '..UptoSaid' is the law's where the arguments, and the package variables that the reading takes, are together of bulk at most 1048576: NARROWER than '..Said'. Prove '..Said' where nothing that the law and all that it calls make is longer than what came in: it says more and counts as full. Else prove '..UptoSaid'. A law counts once. -/
mutual
def uptoBulk {H : Type} : DataW H → Nat
  | .lit (.string bytes) => bytes.length + 1
  | .lit _ => 1
  | .nil => 1
  | .ptr d => uptoBulk d + 1
  | .slice elems spare => uptoBulkAll elems + uptoBulkAll spare + 1
  | .agg parts => uptoBulkAll parts + 1
  | .iface _ d => uptoBulk d + 1
  | .map entries => uptoBulkEntries entries + 1
  | .held _ => 1
def uptoBulkAll {H : Type} : List (DataW H) → Nat
  | [] => 0
  | d :: r => uptoBulk d + uptoBulkAll r
def uptoBulkEntries {H : Type} : List (Lit × DataW H) → Nat
  | [] => 0
  | x :: r => uptoBulkEntry x + uptoBulkEntries r
def uptoBulkEntry {H : Type} : Lit × DataW H → Nat
  | (.string bytes, d) => bytes.length + uptoBulk d + 1
  | (_, d) => uptoBulk d + 1
 end
def uptoSmall : (H : Type) → List (DataW H) → Bool := fun _ ds => decide (uptoBulkAll ds ≤ 1048576)
def OpenSpec.upto (s : _root_.Go.ChangeSpec) : _root_.Go.OpenSpec := { _root_.Go.OpenSpec.ofChange s with cond := some uptoSmall }

/-- 'dreylaw09.AstChecks', WHERE WHAT IT READS IS OF BULK AT MOST 1048576: true; the input reads as it did. -/
def astChecksUptoRow : OpenClaim := { program := "ytmnkalojpefclaadoor", sum := "b8f419449fc93c291b3e149a059c9a09e8506eadb13fd32b79175ebae831ec8e", func := "drey/dreylaw09.AstChecks", spec := "astChecks", inPlace := ["internal/bytealg.IndexByteString", "internal/bytealg.IndexString", "internal/bytealg.CountString"], recurses := true, named := ["internal/bytealg.MaxLen", "unicode/utf8.first", "unicode/utf8.acceptRanges"], apart := false, laid := [("unicode/utf8.acceptRanges", laid_unicode_utf8_acceptRanges), ("unicode/utf8.first", laid_unicode_utf8_first)], narrowed := true }
def AstChecksUptoSaid : Prop := astChecksUptoRow.holds Tryd.pinned (OpenSpec.upto astChecksSpec)

/-- 'dreylaw09.AstBuilds', WHERE WHAT IT READS IS OF BULK AT MOST 1048576: true; the input reads as it did. -/
def astBuildsUptoRow : OpenClaim := { program := "ytmnkalojpefclaadoor", sum := "b8f419449fc93c291b3e149a059c9a09e8506eadb13fd32b79175ebae831ec8e", func := "drey/dreylaw09.AstBuilds", spec := "astBuilds", inPlace := ["internal/bytealg.IndexByteString", "internal/bytealg.IndexString", "internal/bytealg.CountString"], recurses := true, named := ["internal/bytealg.MaxLen", "unicode/utf8.first", "unicode/utf8.acceptRanges"], apart := false, laid := [("unicode/utf8.acceptRanges", laid_unicode_utf8_acceptRanges), ("unicode/utf8.first", laid_unicode_utf8_first)], narrowed := true }
def AstBuildsUptoSaid : Prop := astBuildsUptoRow.holds Tryd.pinned (OpenSpec.upto astBuildsSpec)

/-- 'dreylaw09.AstKinds', WHERE WHAT IT READS IS OF BULK AT MOST 1048576: true; the input reads as it did. -/
def astKindsUptoRow : OpenClaim := { program := "ytmnkalojpefclaadoor", sum := "b8f419449fc93c291b3e149a059c9a09e8506eadb13fd32b79175ebae831ec8e", func := "drey/dreylaw09.AstKinds", spec := "astKinds", inPlace := ["internal/bytealg.IndexByteString", "internal/bytealg.IndexString", "internal/bytealg.CountString"], recurses := true, named := ["internal/bytealg.MaxLen", "unicode/utf8.first", "unicode/utf8.acceptRanges"], apart := false, laid := [("unicode/utf8.acceptRanges", laid_unicode_utf8_acceptRanges), ("unicode/utf8.first", laid_unicode_utf8_first)], narrowed := true }
def AstKindsUptoSaid : Prop := astKindsUptoRow.holds Tryd.pinned (OpenSpec.upto astKindsSpec)

/-- 'dreylaw09.AstEach', WHERE WHAT IT READS IS OF BULK AT MOST 1048576: true; the input reads as it did. -/
def astEachUptoRow : OpenClaim := { program := "ytmnkalojpefclaadoor", sum := "b8f419449fc93c291b3e149a059c9a09e8506eadb13fd32b79175ebae831ec8e", func := "drey/dreylaw09.AstEach", spec := "astEach", inPlace := ["internal/bytealg.IndexByteString", "internal/bytealg.IndexString", "internal/bytealg.CountString"], unfollowed := true, recurses := true, named := ["internal/bytealg.MaxLen", "unicode/utf8.first", "unicode/utf8.acceptRanges"], apart := false, laid := [("unicode/utf8.acceptRanges", laid_unicode_utf8_acceptRanges), ("unicode/utf8.first", laid_unicode_utf8_first)], narrowed := true }
def AstEachUptoSaid : Prop := astEachUptoRow.holds Tryd.pinned (OpenSpec.upto astEachSpec)

end Rows
end Go.Proofs.YtmnkalojpefclaaDoor
