/-
  No cell of these rows narrows 'for every input' (looked for: loops, veiled, ifaces, maps, wideKeys, modest, calm, conditions, laid).
  DERIVED. THE GIVEN ROWS OF THIS SEAT. 3 by the template 'for every input the law returns true; each argument reads behind the call as it read before'; 0 by the template 'total and deterministic' (their statements: YtgphhfhnjacenaaTotals.lean).
  GIVEN WITH THE SEED: the statements are not yours to turn. If you find one false, say at which input.
  Laid BY PROGRAM, IN A SANDBOX (cutbox-rows.mjs): the forced cells as the released guide's own fill.sh prints them over the translation 4c6c3550e324e9fa… (all of the seat's roots in one cut). By AI agents, Wed Nov 11 2026. No macro, syntax, notation, axiom, sorry.
-/
import Derived.Test.YtgphhfhnjacenaaChecked
import GoSem.Claim
import GoSem.ClaimJoined
import GoSem.ClaimMapViews
import Derived.JoinedTies
import Derived.KernelRfl
namespace Go.Proofs.Ytgphhfhnjacenaa
/- THE CELL 'sum', in the pinned program and in every row, IS THE sha256 OF THE DUMP (.gsa) THAT YtgphhfhnjacenaaProg.lean LOADS. Nothing in Lean hashes anything: it is a label: what it is worth is what the hold of that sum in a sandbox is worth. -/
noncomputable def Try.pinned : Pinned := { name := "ytgphhfhnjacenaa", sum := "4c6c3550e324e9fae6117ec03e1202179d9ac8c8e04cdad87969a40cc7a680d5", checked := Try.checked }
namespace Rows
def none {H : Type} : Left H := { results := [], args := [] }

/-- 'dreylaw22.LimitClips': WHATEVER THE INPUT: true; the input reads as it did. -/
def limitClipsSpec : ChangeSpec := { name := "limitClips", fn := fun _ => fun
  | [d] => { results := [.lit (.bool true)], args := [d] }
  | _ => none }
def limitClipsRow : OpenClaim := { program := "ytgphhfhnjacenaa", sum := "4c6c3550e324e9fae6117ec03e1202179d9ac8c8e04cdad87969a40cc7a680d5", func := "drey/dreylaw22.LimitClips", spec := "limitClips", apart := false }
def LimitClipsSaid : Prop := limitClipsRow.holds Try.pinned (OpenSpec.ofChange limitClipsSpec)

/-- ITS FALSE NEIGHBOUR: 'it returns false'. Refute it at one input. -/
def limitClipsWrong : ChangeSpec := { name := "limitClips", fn := fun _ => fun
  | [d] => { results := [.lit (.bool false)], args := [d] }
  | _ => none }
def LimitClipsWrongFalsely : Prop := limitClipsRow.holds Try.pinned (OpenSpec.ofChange limitClipsWrong)

/-- 'dreylaw22.LimitNames': WHATEVER THE INPUT: true; the input reads as it did. -/
def limitNamesSpec : ChangeSpec := { name := "limitNames", fn := fun _ => fun
  | [d] => { results := [.lit (.bool true)], args := [d] }
  | _ => none }
def limitNamesRow : OpenClaim := { program := "ytgphhfhnjacenaa", sum := "4c6c3550e324e9fae6117ec03e1202179d9ac8c8e04cdad87969a40cc7a680d5", func := "drey/dreylaw22.LimitNames", spec := "limitNames", apart := false }
def LimitNamesSaid : Prop := limitNamesRow.holds Try.pinned (OpenSpec.ofChange limitNamesSpec)

/-- ITS FALSE NEIGHBOUR: 'it returns false'. Refute it at one input. -/
def limitNamesWrong : ChangeSpec := { name := "limitNames", fn := fun _ => fun
  | [d] => { results := [.lit (.bool false)], args := [d] }
  | _ => none }
def LimitNamesWrongFalsely : Prop := limitNamesRow.holds Try.pinned (OpenSpec.ofChange limitNamesWrong)

/-- 'dreylaw22.LimitCounts': WHATEVER THE INPUT: true; the input reads as it did. -/
def limitCountsSpec : ChangeSpec := { name := "limitCounts", fn := fun _ => fun
  | [d1, d2] => { results := [.lit (.bool true)], args := [d1, d2] }
  | _ => none }
def limitCountsRow : OpenClaim := { program := "ytgphhfhnjacenaa", sum := "4c6c3550e324e9fae6117ec03e1202179d9ac8c8e04cdad87969a40cc7a680d5", func := "drey/dreylaw22.LimitCounts", spec := "limitCounts", apart := false }
def LimitCountsSaid : Prop := limitCountsRow.holds Try.pinned (OpenSpec.ofChange limitCountsSpec)

/-- ITS FALSE NEIGHBOUR: 'it returns false'. Refute it at one input. -/
def limitCountsWrong : ChangeSpec := { name := "limitCounts", fn := fun _ => fun
  | [d1, d2] => { results := [.lit (.bool false)], args := [d1, d2] }
  | _ => none }
def LimitCountsWrongFalsely : Prop := limitCountsRow.holds Try.pinned (OpenSpec.ofChange limitCountsWrong)

/- THE SECOND FORM. 'bulk': how many values and letters a reading holds, each counted each time it is reached (what is shared counts as often as it is met; a slice's spare places count too). A statement '..UptoSaid' is the law's where the arguments, and the package variables that the reading takes, are together of bulk at most 1048576: NARROWER than '..Said'. Prove '..Said' where nothing that the law and all that it calls make is longer than what came in: it says more and counts as full. Else prove '..UptoSaid'. A law counts once. -/
mutual
def uptoBulk {H : Type} : DataW H → Nat
  | .lit (.string bytes) => bytes.length + 1
  | .lit _ => 1
  | .nil => 1
  | .ptr d => uptoBulk d + 1
  | .slice elems spare => uptoBulkAll elems + uptoBulkAll spare + 1
  | .agg parts => uptoBulkAll parts + 1
  | .iface _ d => uptoBulk d + 1
  | .map entries => uptoBulkEntries entries + 1
  | .held _ => 1
def uptoBulkAll {H : Type} : List (DataW H) → Nat
  | [] => 0
  | d :: r => uptoBulk d + uptoBulkAll r
def uptoBulkEntries {H : Type} : List (Lit × DataW H) → Nat
  | [] => 0
  | x :: r => uptoBulkEntry x + uptoBulkEntries r
def uptoBulkEntry {H : Type} : Lit × DataW H → Nat
  | (.string bytes, d) => bytes.length + uptoBulk d + 1
  | (_, d) => uptoBulk d + 1
 end
def uptoSmall : (H : Type) → List (DataW H) → Bool := fun _ ds => decide (uptoBulkAll ds ≤ 1048576)
def OpenSpec.upto (s : _root_.Go.ChangeSpec) : _root_.Go.OpenSpec := { _root_.Go.OpenSpec.ofChange s with cond := some uptoSmall }

/-- 'dreylaw22.LimitClips', WHERE WHAT IT READS IS OF BULK AT MOST 1048576: true; the input reads as it did. -/
def limitClipsUptoRow : OpenClaim := { program := "ytgphhfhnjacenaa", sum := "4c6c3550e324e9fae6117ec03e1202179d9ac8c8e04cdad87969a40cc7a680d5", func := "drey/dreylaw22.LimitClips", spec := "limitClips", apart := false, narrowed := true }
def LimitClipsUptoSaid : Prop := limitClipsUptoRow.holds Try.pinned (OpenSpec.upto limitClipsSpec)

/-- 'dreylaw22.LimitNames', WHERE WHAT IT READS IS OF BULK AT MOST 1048576: true; the input reads as it did. -/
def limitNamesUptoRow : OpenClaim := { program := "ytgphhfhnjacenaa", sum := "4c6c3550e324e9fae6117ec03e1202179d9ac8c8e04cdad87969a40cc7a680d5", func := "drey/dreylaw22.LimitNames", spec := "limitNames", apart := false, narrowed := true }
def LimitNamesUptoSaid : Prop := limitNamesUptoRow.holds Try.pinned (OpenSpec.upto limitNamesSpec)

/-- 'dreylaw22.LimitCounts', WHERE WHAT IT READS IS OF BULK AT MOST 1048576: true; the input reads as it did. -/
def limitCountsUptoRow : OpenClaim := { program := "ytgphhfhnjacenaa", sum := "4c6c3550e324e9fae6117ec03e1202179d9ac8c8e04cdad87969a40cc7a680d5", func := "drey/dreylaw22.LimitCounts", spec := "limitCounts", apart := false, narrowed := true }
def LimitCountsUptoSaid : Prop := limitCountsUptoRow.holds Try.pinned (OpenSpec.upto limitCountsSpec)

end Rows
end Go.Proofs.Ytgphhfhnjacenaa
