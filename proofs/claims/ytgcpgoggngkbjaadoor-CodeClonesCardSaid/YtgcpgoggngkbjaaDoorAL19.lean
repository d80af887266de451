/-
  The abstract logic, 19: a frame written out by computation.
-/
import Derived.Test.YtgcpgoggngkbjaaDoorAL18
set_option linter.unusedSimpArgs false
set_option linter.unusedVariables false
namespace Go.AL
open Go Go.RowKit
theorem awp_eqs {P : Program} {c : Code} {Q : APostT} {s s' : List AV} {ds : List (FuncId × List AV)} {h : Heap} (e : s = s') (k : awp P c Q ⟨s', ds⟩ h) : awp P c Q ⟨s, ds⟩ h := by subst e; exact k
theorem apost_eqs {Q : APostT} {x : Exit} {s s' : List AV} {ds : List (FuncId × List AV)} {h : Heap} (e : s = s') (k : Q x ⟨s', ds⟩ h) : Q x ⟨s, ds⟩ h := by subst e; exact k
/-- Held back: simp doesn't look into it. -/
structure Shut (p : Prop) : Type where
  out : p
end Go.AL
