/-
  DERIVED. GIVEN WITH THE SEED: THE CARDS: each row of YtmnkalojpefclaaDoorRows.lean that lists a variable, with what it lists TIED to the program's text (the seventh form; the later family's looks); each row that meets fmt, with fmt's text TOLD by the authors' own Lean function (tested against real Go, not proved from fmt's source: count such statements apart). THE CARD IS WHAT COUNTS. Prove the row's statement (the work); the ties are given (YtmnkalojpefclaaDoorTie.lean); close each card by the builder's one call (the guide's Derived/Test/ToyasCard.lean, 'card_holds'). Laid BY PROGRAM, IN A SANDBOX (cutbox-door.mjs). By AI agents, Wed Nov 11 2026. No macro, syntax, notation, axiom, sorry.
-/
import Derived.Test.YtmnkalojpefclaaDoorRows
import GoSem.ClaimSeven
namespace Go.Proofs.YtmnkalojpefclaaDoor
namespace Rows

/-- THE TIED CARD OF 'dreylaw09.AstChecks'. -/
def astChecksCard : Claim7 := { stood := { row := astChecksRow, standIns := [], harness := (true, "09f36965b226bc3c8ad3a85774cddfc06e81da96f48ccf4156fffd021f9edc3c"), looks := false }, kinds := [], alts := [], laidByText := true, laidKinds := [.data, .pinned], laidTests := true, laidLooks := .later }
def AstChecksCardSaid : Prop := Claim7.holds Tryd.pinned (.plain (OpenSpec.ofChange astChecksSpec)) astChecksCard

/-- THE TIED CARD OF 'dreylaw09.AstBuilds'. -/
def astBuildsCard : Claim7 := { stood := { row := astBuildsRow, standIns := [], harness := (true, "09f36965b226bc3c8ad3a85774cddfc06e81da96f48ccf4156fffd021f9edc3c"), looks := false }, kinds := [], alts := [], laidByText := true, laidKinds := [.data, .pinned], laidTests := true, laidLooks := .later }
def AstBuildsCardSaid : Prop := Claim7.holds Tryd.pinned (.plain (OpenSpec.ofChange astBuildsSpec)) astBuildsCard

/-- THE TIED CARD OF 'dreylaw09.AstKinds'. -/
def astKindsCard : Claim7 := { stood := { row := astKindsRow, standIns := [], harness := (true, "09f36965b226bc3c8ad3a85774cddfc06e81da96f48ccf4156fffd021f9edc3c"), looks := false }, kinds := [], alts := [], laidByText := true, laidKinds := [.data, .pinned], laidTests := true, laidLooks := .later }
def AstKindsCardSaid : Prop := Claim7.holds Tryd.pinned (.plain (OpenSpec.ofChange astKindsSpec)) astKindsCard

/-- THE TIED CARD OF 'dreylaw09.AstEach'. -/
def astEachCard : Claim7 := { stood := { row := astEachRow, standIns := [], harness := (true, "09f36965b226bc3c8ad3a85774cddfc06e81da96f48ccf4156fffd021f9edc3c"), looks := false }, kinds := [], alts := [], laidByText := true, laidKinds := [.data, .pinned], laidTests := true, laidLooks := .later }
def AstEachCardSaid : Prop := Claim7.holds Tryd.pinned (.plain (OpenSpec.ofChange astEachSpec)) astEachCard

/-- THE SECOND FORM's CARD OF 'dreylaw09.AstChecks'. -/
def astChecksUptoCard : Claim7 := { stood := { row := astChecksUptoRow, standIns := [], harness := (true, "09f36965b226bc3c8ad3a85774cddfc06e81da96f48ccf4156fffd021f9edc3c"), looks := false }, kinds := [], alts := [], laidByText := true, laidKinds := [.data, .pinned], laidTests := true, laidLooks := .later }
def AstChecksUptoCardSaid : Prop := Claim7.holds Tryd.pinned (.plain (OpenSpec.upto astChecksSpec)) astChecksUptoCard

/-- THE SECOND FORM's CARD OF 'dreylaw09.AstBuilds'. -/
def astBuildsUptoCard : Claim7 := { stood := { row := astBuildsUptoRow, standIns := [], harness := (true, "09f36965b226bc3c8ad3a85774cddfc06e81da96f48ccf4156fffd021f9edc3c"), looks := false }, kinds := [], alts := [], laidByText := true, laidKinds := [.data, .pinned], laidTests := true, laidLooks := .later }
def AstBuildsUptoCardSaid : Prop := Claim7.holds Tryd.pinned (.plain (OpenSpec.upto astBuildsSpec)) astBuildsUptoCard

/-- THE SECOND FORM's CARD OF 'dreylaw09.AstKinds'. -/
def astKindsUptoCard : Claim7 := { stood := { row := astKindsUptoRow, standIns := [], harness := (true, "09f36965b226bc3c8ad3a85774cddfc06e81da96f48ccf4156fffd021f9edc3c"), looks := false }, kinds := [], alts := [], laidByText := true, laidKinds := [.data, .pinned], laidTests := true, laidLooks := .later }
def AstKindsUptoCardSaid : Prop := Claim7.holds Tryd.pinned (.plain (OpenSpec.upto astKindsSpec)) astKindsUptoCard

/-- THE SECOND FORM's CARD OF 'dreylaw09.AstEach'. -/
def astEachUptoCard : Claim7 := { stood := { row := astEachUptoRow, standIns := [], harness := (true, "09f36965b226bc3c8ad3a85774cddfc06e81da96f48ccf4156fffd021f9edc3c"), looks := false }, kinds := [], alts := [], laidByText := true, laidKinds := [.data, .pinned], laidTests := true, laidLooks := .later }
def AstEachUptoCardSaid : Prop := Claim7.holds Tryd.pinned (.plain (OpenSpec.upto astEachSpec)) astEachUptoCard
end Rows
end Go.Proofs.YtmnkalojpefclaaDoor
