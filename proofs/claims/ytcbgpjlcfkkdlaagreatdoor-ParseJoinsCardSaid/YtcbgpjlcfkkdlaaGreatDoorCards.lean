/-
  DERIVED. GIVEN WITH THE SEED: THE CARDS: each row of YtcbgpjlcfkkdlaaGreatDoorRows.lean that lists a variable, with what it lists TIED to the program's text (the seventh form; the later family's looks); each row that meets fmt, with fmt's text TOLD by the authors' own Lean function (tested against real Go, not proved from fmt's source: count such statements apart). THE CARD IS WHAT COUNTS. Prove the row's statement (the work); the ties are given (YtcbgpjlcfkkdlaaGreatDoorTie.lean); close each card by the builder's one call (the guide's Derived/Test/ToyasCard.lean, 'card_holds'). Laid BY PROGRAM, IN A SANDBOX (cutbox-door.mjs). By AI agents, Wed Nov 11 2026. No macro, syntax, notation, axiom, sorry.
-/
import Derived.Test.YtcbgpjlcfkkdlaaGreatDoorRows
import GoSem.ClaimSeven
namespace Go.Proofs.YtcbgpjlcfkkdlaaGreatDoor
namespace Rows

/-- THE TIED CARD OF 'dreylaw10.ParseReads'. -/
def parseReadsCard : Claim7 := { stood := { row := parseReadsRow, standIns := [], harness := (true, "58807fc9788f1644e505eabc602c6b5c18d0598ea26e4b3ab535ecc627cbe91d"), looks := false }, kinds := [], alts := [], laidByText := true, laidKinds := [.data, .pinned], laidTests := true, laidLooks := .later }
def ParseReadsCardSaid : Prop := Claim7.holds Tryz.pinned (.plain (OpenSpec.ofChange parseReadsSpec)) parseReadsCard

/-- THE TIED CARD OF 'dreylaw10.ParseBinds'. -/
def parseBindsCard : Claim7 := { stood := { row := parseBindsRow, standIns := [], harness := (true, "58807fc9788f1644e505eabc602c6b5c18d0598ea26e4b3ab535ecc627cbe91d"), looks := false }, kinds := [], alts := [], laidByText := true, laidKinds := [.data, .pinned], laidTests := true, laidLooks := .later }
def ParseBindsCardSaid : Prop := Claim7.holds Tryz.pinned (.plain (OpenSpec.ofChange parseBindsSpec)) parseBindsCard

/-- THE TIED CARD OF 'dreylaw10.ParseJoins'. -/
def parseJoinsCard : Claim7 := { stood := { row := parseJoinsRow, standIns := [], harness := (true, "58807fc9788f1644e505eabc602c6b5c18d0598ea26e4b3ab535ecc627cbe91d"), looks := false }, kinds := [], alts := [], laidByText := true, laidKinds := [.data, .pinned], laidTests := true, laidLooks := .later }
def ParseJoinsCardSaid : Prop := Claim7.holds Tryz.pinned (.plain (OpenSpec.ofChange parseJoinsSpec)) parseJoinsCard

/-- THE TIED CARD OF 'dreylaw10.ParseNests'. -/
def parseNestsCard : Claim7 := { stood := { row := parseNestsRow, standIns := [], harness := (true, "58807fc9788f1644e505eabc602c6b5c18d0598ea26e4b3ab535ecc627cbe91d"), looks := false }, kinds := [], alts := [], laidByText := true, laidKinds := [.data, .pinned], laidTests := true, laidLooks := .later }
def ParseNestsCardSaid : Prop := Claim7.holds Tryz.pinned (.plain (OpenSpec.ofChange parseNestsSpec)) parseNestsCard

/-- THE TIED CARD OF 'dreylaw10.ParseTokens'. -/
def parseTokensCard : Claim7 := { stood := { row := parseTokensRow, standIns := [], harness := (true, "58807fc9788f1644e505eabc602c6b5c18d0598ea26e4b3ab535ecc627cbe91d"), looks := false }, kinds := [], alts := [], laidByText := true, laidKinds := [.data, .pinned], laidTests := true, laidLooks := .later }
def ParseTokensCardSaid : Prop := Claim7.holds Tryz.pinned (.plain (OpenSpec.ofChange parseTokensSpec)) parseTokensCard

/-- THE SECOND FORM's CARD OF 'dreylaw10.ParseReads'. -/
def parseReadsUptoCard : Claim7 := { stood := { row := parseReadsUptoRow, standIns := [], harness := (true, "58807fc9788f1644e505eabc602c6b5c18d0598ea26e4b3ab535ecc627cbe91d"), looks := false }, kinds := [], alts := [], laidByText := true, laidKinds := [.data, .pinned], laidTests := true, laidLooks := .later }
def ParseReadsUptoCardSaid : Prop := Claim7.holds Tryz.pinned (.plain (OpenSpec.upto parseReadsSpec)) parseReadsUptoCard

/-- THE SECOND FORM's CARD OF 'dreylaw10.ParseBinds'. -/
def parseBindsUptoCard : Claim7 := { stood := { row := parseBindsUptoRow, standIns := [], harness := (true, "58807fc9788f1644e505eabc602c6b5c18d0598ea26e4b3ab535ecc627cbe91d"), looks := false }, kinds := [], alts := [], laidByText := true, laidKinds := [.data, .pinned], laidTests := true, laidLooks := .later }
def ParseBindsUptoCardSaid : Prop := Claim7.holds Tryz.pinned (.plain (OpenSpec.upto parseBindsSpec)) parseBindsUptoCard

/-- THE SECOND FORM's CARD OF 'dreylaw10.ParseJoins'. -/
def parseJoinsUptoCard : Claim7 := { stood := { row := parseJoinsUptoRow, standIns := [], harness := (true, "58807fc9788f1644e505eabc602c6b5c18d0598ea26e4b3ab535ecc627cbe91d"), looks := false }, kinds := [], alts := [], laidByText := true, laidKinds := [.data, .pinned], laidTests := true, laidLooks := .later }
def ParseJoinsUptoCardSaid : Prop := Claim7.holds Tryz.pinned (.plain (OpenSpec.upto parseJoinsSpec)) parseJoinsUptoCard

/-- THE SECOND FORM's CARD OF 'dreylaw10.ParseNests'. -/
def parseNestsUptoCard : Claim7 := { stood := { row := parseNestsUptoRow, standIns := [], harness := (true, "58807fc9788f1644e505eabc602c6b5c18d0598ea26e4b3ab535ecc627cbe91d"), looks := false }, kinds := [], alts := [], laidByText := true, laidKinds := [.data, .pinned], laidTests := true, laidLooks := .later }
def ParseNestsUptoCardSaid : Prop := Claim7.holds Tryz.pinned (.plain (OpenSpec.upto parseNestsSpec)) parseNestsUptoCard

/-- THE SECOND FORM's CARD OF 'dreylaw10.ParseTokens'. -/
def parseTokensUptoCard : Claim7 := { stood := { row := parseTokensUptoRow, standIns := [], harness := (true, "58807fc9788f1644e505eabc602c6b5c18d0598ea26e4b3ab535ecc627cbe91d"), looks := false }, kinds := [], alts := [], laidByText := true, laidKinds := [.data, .pinned], laidTests := true, laidLooks := .later }
def ParseTokensUptoCardSaid : Prop := Claim7.holds Tryz.pinned (.plain (OpenSpec.upto parseTokensSpec)) parseTokensUptoCard
end Rows
end Go.Proofs.YtcbgpjlcfkkdlaaGreatDoor
