import Derived.Test.YtcbgpjlcfkkdlaaGreatDoorUAE
import Derived.Scope
set_option linter.unusedSimpArgs false
set_option linter.unusedVariables false
namespace Go.AL
open Go Go.RowKit
def NoGotoA (Q : APostT) : APostT := fun e α h => match e with
 | .goto _ => False
 | e => Q e α h
theorem awp_scope {P : Program} {c : Code} {Q : APostT} {α : AAct} {h : Heap} (e : awp P c (NoGotoA Q) α h) : awp P (.scope c) Q α h := by
 intro w0 F a w hi hr
 refine wp_scope_straight (wp_mono (e w0 F a w hi hr) ?_)
 intro e a w ⟨F', α', h', h1, h2, h3, h4⟩
 cases e with
 | goto l => exact h4.elim
 | normal => exact ⟨F', α', h', h1, h2, h3, h4⟩
 | exit id => exact ⟨F', α', h', h1, h2, h3, h4⟩
 | ret => exact ⟨F', α', h', h1, h2, h3, h4⟩
 | panic ch => exact ⟨F', α', h', h1, h2, h3, h4⟩
 | outgrown => exact ⟨F', α', h', h1, h2, h3, h4⟩
theorem awp_label {P : Program} {l : Nat} {Q : APostT} {α : AAct} {h : Heap} (e : Q .normal α h) : awp P (.label l) Q α h := by
 intro w0 F a w hi hr
 exact wp_label ⟨F, α, h, .refl F, hi, hr, e⟩
end Go.AL

