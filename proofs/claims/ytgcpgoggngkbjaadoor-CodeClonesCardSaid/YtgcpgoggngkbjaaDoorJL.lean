import Derived.Test.YtgcpgoggngkbjaaDoorQB
import Derived.Lib.Join
set_option linter.unusedSimpArgs false
set_option linter.unusedVariables false
namespace Go.Proofs.YtgcpgoggngkbjaaDoor
open Go Go.AL Go.Proofs
theorem join_len (M : Nat) (sep : List UInt8) : ∀ l : List (List UInt8), (∀ x ∈ l, x.length ≤ M) → (Lib.join l sep).length ≤ l.length * (M + sep.length)
  | [], _ => by simp [Lib.join, List.intercalate]
  | [x], h => by
    have := h x (by simp)
    simp [Lib.join, List.intercalate]
    omega
  | x :: y :: l, h => by
    have h1 := h x (by simp)
    have h2 := join_len M sep (y :: l) (fun z hz => h z (by simp [hz]))
    have h3 : Lib.join (x :: y :: l) sep = x ++ sep ++ Lib.join (y :: l) sep := by simp [Lib.join, List.intercalate]
    rw [h3]
    simp only [List.length_append, List.length_cons] at h2 ⊢
    have h4 : (l.length + 1 + 1) * (M + sep.length) = (l.length + 1) * (M + sep.length) + (M + sep.length) := by rw [Nat.add_mul (l.length + 1) 1, Nat.one_mul]
    omega
theorem lines_bound {P : Int → Prop} {H : Heap → Prop} (hI : ItoaOn P H) : ∀ (l : List Stp) (i : Nat), (∀ j, i ≤ j → j < i + l.length → P j) → (∀ s ∈ l, P s.a ∧ P s.b ∧ P s.c) → ∀ x ∈ linesFrom i l, x.length ≤ 5004
  | [], i, _, _, x, hx => by cases hx
  | s :: l, i, hi, hs, x, hx => by
    simp only [linesFrom, List.mem_cons] at hx
    rcases hx with rfl | hx
    · obtain ⟨p1, p2, p3⟩ := hs s (by simp)
      have q0 := hI.1 _ (hi i (by omega) (by simp))
      have q1 := hI.1 _ p1
      have q2 := hI.1 _ p2
      have q3 := hI.1 _ p3
      have q4 := nameAt_len s.op
      simp only [lineL, List.length_append, List.length_cons, List.length_nil]
      omega
    · exact lines_bound hI l (i + 1) (fun j h1 h2 => hi j (by omega) (by simp only [List.length_cons]; omega)) (fun s hs' => hs s (by simp [hs'])) x hx
theorem lines_join {P : Int → Prop} {H : Heap → Prop} (hI : ItoaOn P H) (f : Fn) (hf : f.steps.length ≤ 400) (hP : ∀ i : Nat, i < f.steps.length → P i) (hS : ∀ s ∈ f.steps, P s.a ∧ P s.b ∧ P s.c) :
    (linesL f).length ≤ 140737488355328 ∧ (Lib.join (linesL f) [10]).length ≤ 140737488355328 := by
  have h1 := join_len 5004 [10] (linesL f) (lines_bound hI f.steps 0 (fun j _ h2 => hP j (by omega)) hS)
  have h2 : (linesL f).length = f.steps.length := linesFrom_length f.steps 0
  constructor
  · omega
  · rw [h2] at h1
    simp only [List.length_singleton] at h1
    omega
/-- strings.Join, as the shelf proves it. -/
def JoinOk : Prop := ∀ (l : List (List UInt8)) (sep : List UInt8) (_ : l.length ≤ 140737488355328) (_ : (Lib.join l sep).length ≤ 140737488355328) (h : Heap) (R : AV → Heap → Prop) (_ : R (.str (Lib.join l sep)) h), ACalls Tryd.prog 13 [.list 1 (strs1 l) .no, .str sep] h R
end Go.Proofs.YtgcpgoggngkbjaaDoor
