/-
  The abstract logic, 16: a cut: what is told of the frame and of memory behind a piece of code.
-/
import Derived.Test.YtgcpgoggngkbjaaDoorAL10
set_option linter.unusedSimpArgs false
set_option linter.unusedVariables false
namespace Go.AL
open Go Go.RowKit

/-- Behind a piece of code that writes the slots in W alone. -/
def CutAt (W : List Nat) (α : AAct) (I : (Nat → AV) → Heap → Prop) (α' : AAct) (h' : Heap) : Prop :=
  α'.s = hav W (fun i => α'.s.getD i .any) 0 α.s ∧ α'.ds = α.ds ∧ ∃ g, Sub g h' ∧ I (fun i => α'.s.getD i .any) g

theorem awp_cut {P : Program} {c y : Code} {K : AAct → Heap → Prop} {Q Q' : APostT} {α : AAct} {h : Heap} (k : Keep K (awp P y Q')) (W : List Nat) (I : (Nat → AV) → Heap → Prop)
    (hx : ∀ K', Keep K' (CutAt W α I) → awp P c (AThen K' Q) α h) (hk : ∀ x g, I x g → awp P y Q' ⟨hav W x 0 α.s, α.ds⟩ g) : awp P c (AThen K Q) α h := by
  refine awp_mono ?_ (hx _ ⟨fun _ _ h => h⟩)
  intro e α' h' hq
  cases e with
  | normal =>
    obtain ⟨h1, h2, g, h3, h4⟩ := hq
    have h5 := hk _ g h4
    obtain ⟨s', ds'⟩ := α'
    simp only at h1 h2
    subst h2
    rw [← h1] at h5
    exact k.keep _ _ (awp_sub h3 h5)
  | exit id => exact hq
  | goto l => exact hq
  | ret => exact hq
  | panic ch => exact hq
  | outgrown => exact hq

/-- Memory, told by what is known of it. -/
theorem awp_heap {P : Program} {c : Code} {Q : APostT} {α : AAct} {h : Heap} (S : Heap → Prop) (hS : S h) (k : ∀ g, S g → awp P c Q α g) : awp P c Q α h := k h hS

end Go.AL
