/-
  DERIVED. GIVEN WITH THE SEED: THE CARDS: each row of YtgcpgoggngkbjaaDoorRows.lean that lists a variable, with what it lists TIED to the program's text (the seventh form; the later family's looks); each row that meets fmt, with fmt's text TOLD by the authors' own Lean function (tested against real Go, not proved from fmt's source: count such statements apart). THE CARD IS WHAT COUNTS. Prove the row's statement (the work); the ties are given (YtgcpgoggngkbjaaDoorTie.lean); close each card by the builder's one call (the guide's Derived/Test/ToyasCard.lean, 'card_holds'). Laid BY PROGRAM, IN A SANDBOX (cutbox-door.mjs). By AI agents, Wed Nov 11 2026. No macro, syntax, notation, axiom, sorry.
-/
import Derived.Test.YtgcpgoggngkbjaaDoorRows
import GoSem.ClaimSeven
namespace Go.Proofs.YtgcpgoggngkbjaaDoor
namespace Rows

/-- THE TIED CARD OF 'dreylaw14.CodeChecks'. -/
def codeChecksCard : Claim7 := { stood := { row := codeChecksRow, standIns := [], harness := (true, "8ff0f57eae28801aed3b3e90afa7e946192e0181dfafc012cc4d1efe358423b8"), looks := false }, kinds := [], alts := [], laidByText := true, laidKinds := [.data, .data, .data, .data, .pinned], laidTests := true, laidLooks := .later }
def CodeChecksCardSaid : Prop := Claim7.holds Tryd.pinned (.plain (OpenSpec.ofChange codeChecksSpec)) codeChecksCard

/-- THE TIED CARD OF 'dreylaw14.CodeCatches'. -/
def codeCatchesCard : Claim7 := { stood := { row := codeCatchesRow, standIns := [], harness := (true, "8ff0f57eae28801aed3b3e90afa7e946192e0181dfafc012cc4d1efe358423b8"), looks := false }, kinds := [], alts := [], laidByText := true, laidKinds := [.data, .data, .data, .data, .pinned], laidTests := true, laidLooks := .later }
def CodeCatchesCardSaid : Prop := Claim7.holds Tryd.pinned (.plain (OpenSpec.ofChange codeCatchesSpec)) codeCatchesCard

/-- THE TIED CARD OF 'dreylaw14.CodeClones'. -/
def codeClonesCard : Claim7 := { stood := { row := codeClonesRow, standIns := [], harness := (true, "8ff0f57eae28801aed3b3e90afa7e946192e0181dfafc012cc4d1efe358423b8"), looks := false }, kinds := [], alts := [], laidByText := true, laidKinds := [.data, .data, .data, .data, .pinned], laidTests := true, laidLooks := .later }
def CodeClonesCardSaid : Prop := Claim7.holds Tryd.pinned (.plain (OpenSpec.ofChange codeClonesSpec)) codeClonesCard

/-- THE SECOND FORM's CARD OF 'dreylaw14.CodeChecks'. -/
def codeChecksUptoCard : Claim7 := { stood := { row := codeChecksUptoRow, standIns := [], harness := (true, "8ff0f57eae28801aed3b3e90afa7e946192e0181dfafc012cc4d1efe358423b8"), looks := false }, kinds := [], alts := [], laidByText := true, laidKinds := [.data, .data, .data, .data, .pinned], laidTests := true, laidLooks := .later }
def CodeChecksUptoCardSaid : Prop := Claim7.holds Tryd.pinned (.plain (OpenSpec.upto codeChecksSpec)) codeChecksUptoCard

/-- THE SECOND FORM's CARD OF 'dreylaw14.CodeCatches'. -/
def codeCatchesUptoCard : Claim7 := { stood := { row := codeCatchesUptoRow, standIns := [], harness := (true, "8ff0f57eae28801aed3b3e90afa7e946192e0181dfafc012cc4d1efe358423b8"), looks := false }, kinds := [], alts := [], laidByText := true, laidKinds := [.data, .data, .data, .data, .pinned], laidTests := true, laidLooks := .later }
def CodeCatchesUptoCardSaid : Prop := Claim7.holds Tryd.pinned (.plain (OpenSpec.upto codeCatchesSpec)) codeCatchesUptoCard

/-- THE SECOND FORM's CARD OF 'dreylaw14.CodeClones'. -/
def codeClonesUptoCard : Claim7 := { stood := { row := codeClonesUptoRow, standIns := [], harness := (true, "8ff0f57eae28801aed3b3e90afa7e946192e0181dfafc012cc4d1efe358423b8"), looks := false }, kinds := [], alts := [], laidByText := true, laidKinds := [.data, .data, .data, .data, .pinned], laidTests := true, laidLooks := .later }
def CodeClonesUptoCardSaid : Prop := Claim7.holds Tryd.pinned (.plain (OpenSpec.upto codeClonesSpec)) codeClonesUptoCard
end Rows
end Go.Proofs.YtgcpgoggngkbjaaDoor
