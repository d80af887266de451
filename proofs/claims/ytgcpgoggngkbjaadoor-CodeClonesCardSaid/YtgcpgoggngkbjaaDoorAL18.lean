/-
  The abstract logic, 18: a loop by itself, as a theorem of its own.
-/
import Derived.Test.YtgcpgoggngkbjaaDoorAL16
set_option linter.unusedSimpArgs false
set_option linter.unusedVariables false
namespace Go.AL
open Go Go.RowKit

/-- The loops' bodies of a piece of code, in the text's order. -/
def loopsOf : Code → List Code
  | .seq a b => loopsOf a ++ loopsOf b
  | .cond _ a b => loopsOf a ++ loopsOf b
  | .block _ b => loopsOf b
  | .loop b => b :: loopsOf b
  | .scope b => loopsOf b
  | .rangeFunc _ _ a b => loopsOf a ++ loopsOf b
  | _ => []

/-- A frame, slot by slot. -/
def fr (x : Nat → AV) : Nat → Nat → List AV
  | 0, _ => []
  | n + 1, i => x i :: fr x n (i + 1)

theorem fr_getD (s : List AV) : ∀ (n i : Nat), s.length = i + n → fr (fun j => s.getD j .any) n i = s.drop i
  | 0, i, h => by rw [List.drop_eq_nil_of_le (by omega)]; rfl
  | n + 1, i, h => by
    have hi : i < s.length := by omega
    rw [List.drop_eq_getElem_cons hi]
    simp only [fr]
    rw [fr_getD s n (i + 1) (by omega)]
    simp [List.getD, hi]
theorem fr_of {s : List AV} {n : Nat} (h : s.length = n) : s = fr (fun j => s.getD j .any) n 0 := by
  rw [fr_getD s n 0 (by omega)]; rfl

theorem exit_hav {Q : APostT} {e : Exit} {α' : AAct} {g' : Heap} (W : List Nat) (s0 : List AV) (hs : α'.s = hav W (fun i => α'.s.getD i .any) 0 s0) (hd : α'.ds = [])
    (k : ∀ x : Nat → AV, (∀ i, x i = α'.s.getD i .any) → Q e ⟨hav W x 0 s0, []⟩ g') : Q e α' g' := by
  have h1 := k (fun i => α'.s.getD i .any) (fun _ => rfl)
  obtain ⟨s', ds'⟩ := α'
  simp only at hs hd h1 ⊢
  subst hd
  rw [← hs] at h1
  exact h1
end Go.AL
