import Derived.Test.YtmnkalojpefclaaDoorRV
import Derived.Test.YtmnkalojpefclaaDoorM
import Derived.Test.YtmnkalojpefclaaDoorFT
import Derived.Test.YtmnkalojpefclaaDoorSM
set_option linter.unusedSimpArgs false
set_option linter.unusedVariables false
namespace Go.Proofs.YtmnkalojpefclaaDoor
open Go Go.AL Go.Proofs
/-! ### A node's kids: the program's shapes against the document's patterns -/
def kindR (nodes : List Nd) (k : Int) : Int := if k < 0 then 0 else kindAt nodes k
theorem fit1 (k : Int) : fitsL k 1 = isL k 69 := by simp [fitsL, isL, show bitAnd .i64 1 1 = 1 by decide]
theorem fit2 (k : Int) : fitsL k 2 = isL k 83 := by
  have : (k < 44) = (k ≤ 43) := propext ⟨fun _ => by omega, fun _ => by omega⟩
  simp [fitsL, isL, this, show bitAnd .i64 2 1 = 0 by decide, show bitAnd .i64 2 2 = 2 by decide]
theorem fit4 (k : Int) : fitsL k 4 = isL k 84 := by simp [fitsL, isL, show bitAnd .i64 4 1 = 0 by decide, show bitAnd .i64 4 2 = 0 by decide, show bitAnd .i64 4 4 = 4 by decide]
theorem fit8 (k : Int) : fitsL k 8 = isL k 76 := by simp [fitsL, isL, show bitAnd .i64 8 1 = 0 by decide, show bitAnd .i64 8 2 = 0 by decide, show bitAnd .i64 8 4 = 0 by decide, show bitAnd .i64 8 8 = 8 by decide]
theorem fit16 (k : Int) : fitsL k 16 = isL k 80 := by simp [fitsL, isL, show bitAnd .i64 16 1 = 0 by decide, show bitAnd .i64 16 2 = 0 by decide, show bitAnd .i64 16 4 = 0 by decide, show bitAnd .i64 16 8 = 0 by decide, show bitAnd .i64 16 16 = 16 by decide]
theorem fit32 (k : Int) : fitsL k 32 = isL k 77 := by simp [fitsL, isL, show bitAnd .i64 32 1 = 0 by decide, show bitAnd .i64 32 2 = 0 by decide, show bitAnd .i64 32 4 = 0 by decide, show bitAnd .i64 32 8 = 0 by decide, show bitAnd .i64 32 16 = 0 by decide, show bitAnd .i64 32 32 = 32 by decide]
theorem fit64 (k : Int) : fitsL k 64 = isL k 67 := by simp [fitsL, isL, show bitAnd .i64 64 1 = 0 by decide, show bitAnd .i64 64 2 = 0 by decide, show bitAnd .i64 64 4 = 0 by decide, show bitAnd .i64 64 8 = 0 by decide, show bitAnd .i64 64 16 = 0 by decide, show bitAnd .i64 64 32 = 0 by decide, show bitAnd .i64 64 64 = 64 by decide]
theorem fit128 (k : Int) : fitsL k 128 = isL k 73 := by simp [fitsL, isL, show bitAnd .i64 128 1 = 0 by decide, show bitAnd .i64 128 2 = 0 by decide, show bitAnd .i64 128 4 = 0 by decide, show bitAnd .i64 128 8 = 0 by decide, show bitAnd .i64 128 16 = 0 by decide, show bitAnd .i64 128 32 = 0 by decide, show bitAnd .i64 128 64 = 0 by decide, show bitAnd .i64 128 128 = 128 by decide]
theorem fit512 (k : Int) : fitsL k 512 = isL k 66 := by simp [fitsL, isL, show bitAnd .i64 512 1 = 0 by decide, show bitAnd .i64 512 2 = 0 by decide, show bitAnd .i64 512 4 = 0 by decide, show bitAnd .i64 512 8 = 0 by decide, show bitAnd .i64 512 16 = 0 by decide, show bitAnd .i64 512 32 = 0 by decide, show bitAnd .i64 512 64 = 0 by decide, show bitAnd .i64 512 128 = 0 by decide, show bitAnd .i64 512 256 = 0 by decide, show bitAnd .i64 512 512 = 512 by decide]
theorem fit4097 (k : Int) : fitsL k 4097 = isL k 69 := by simp [fitsL, isL, show bitAnd .i64 4097 1 = 1 by decide]
theorem fit5120 (k : Int) : fitsL k 5120 = isL k 88 := by simp [fitsL, isL, show bitAnd .i64 5120 1 = 0 by decide, show bitAnd .i64 5120 2 = 0 by decide, show bitAnd .i64 5120 4 = 0 by decide, show bitAnd .i64 5120 8 = 0 by decide, show bitAnd .i64 5120 16 = 0 by decide, show bitAnd .i64 5120 32 = 0 by decide, show bitAnd .i64 5120 64 = 0 by decide, show bitAnd .i64 5120 128 = 0 by decide, show bitAnd .i64 5120 256 = 0 by decide, show bitAnd .i64 5120 512 = 0 by decide, show bitAnd .i64 5120 1024 = 1024 by decide]
theorem fit6144 (k : Int) : fitsL k 6144 = isL k 70 := by simp [fitsL, isL, show bitAnd .i64 6144 1 = 0 by decide, show bitAnd .i64 6144 2 = 0 by decide, show bitAnd .i64 6144 4 = 0 by decide, show bitAnd .i64 6144 8 = 0 by decide, show bitAnd .i64 6144 16 = 0 by decide, show bitAnd .i64 6144 32 = 0 by decide, show bitAnd .i64 6144 64 = 0 by decide, show bitAnd .i64 6144 128 = 0 by decide, show bitAnd .i64 6144 256 = 0 by decide, show bitAnd .i64 6144 512 = 0 by decide, show bitAnd .i64 6144 1024 = 0 by decide, show bitAnd .i64 6144 2048 = 2048 by decide]
theorem is_zero (l : Int) : isL 0 l = false := by unfold isL; repeat' split <;> try simp
/-- What is known of a node's kids where it is asked whether they may stand there. -/
def KidOk (nodes : List Nd) (k : Int) : Prop := k = -1 ∨ (0 ≤ k ∧ 1 ≤ kindAt nodes k)
theorem fine_must {nodes : List Nd} {k w l : Int} (hk : KidOk nodes k) (hw : bitAnd .i64 w 4096 = 0) (hf : ∀ k, fitsL k w = isL k l) : kidFine nodes k w = isL (kindR nodes k) l := by
  rcases hk with rfl | ⟨h1, h2⟩
  · simp [kidFine, hw, kindR, is_zero]
  · have h3 : ¬ k = -1 := by omega
    have h4 : ¬ k < 0 := by omega
    simp [kidFine, h3, h1, kindR, h4, hf]
theorem fine_may {nodes : List Nd} {k w l : Int} (hk : KidOk nodes k) (hw : ¬ bitAnd .i64 w 4096 = 0) (hf : ∀ k, fitsL k w = isL k l) : kidFine nodes k w = (decide (kindR nodes k = 0) || isL (kindR nodes k) l) := by
  rcases hk with rfl | ⟨h1, h2⟩
  · simp [kidFine, hw, kindR]
  · have h3 : ¬ k = -1 := by omega
    have h4 : ¬ k < 0 := by omega
    have h5 : ¬ kindAt nodes k = 0 := by omega
    simp [kidFine, h3, h1, kindR, h4, hf, h5]
/-- The first ones, then all others. -/
def fineAll (nodes : List Nd) (r : Int) : List Int → List Int → Bool
  | [], [] => true
  | _ :: _, [] => false
  | [], k :: ks => decide (¬ r = 0) && kidFine nodes k r && fineAll nodes r [] ks
  | w :: ws, k :: ks => kidFine nodes k w && fineAll nodes r ws ks
theorem fineAll_spec (nodes : List Nd) (r : Int) : ∀ (fs ks : List Int), (!(decide (ks.length < fs.length) || (decide (r = 0) && decide (fs.length < ks.length))) && decide (∀ i (h : i < ks.length), kidFine nodes ks[i] (fs.getD i r) = true)) = fineAll nodes r fs ks
  | [], [] => by simp [fineAll]
  | w :: ws, [] => by simp [fineAll]
  | [], k :: ks => by
    have ih := fineAll_spec nodes r [] ks
    rw [fineAll, ← ih, Bool.eq_iff_iff]
    simp only [Bool.and_eq_true, Bool.not_eq_true', Bool.or_eq_false_iff, Bool.and_eq_false_iff, decide_eq_true_eq, decide_eq_false_iff_not, List.length_nil, List.length_cons, List.getD_nil]
    constructor
    · rintro ⟨⟨h1, h2⟩, h3⟩
      have h3 := of_decide_eq_true h3
      refine ⟨⟨by rcases h2 with h2 | h2; exact h2; omega, h3 0 (by omega)⟩, ⟨by omega, by rcases h2 with h2 | h2; exact .inl h2; omega⟩, ?_⟩
      first
        | exact fun i hi => h3 (i + 1) (by omega)
        | exact decide_eq_true fun i hi => h3 (i + 1) (by omega)
    · rintro ⟨⟨h1, h2⟩, ⟨h3, h4⟩, h5⟩
      have h5 : ∀ i (hi : i < ks.length), kidFine nodes ks[i] r = true := by first | exact h5 | exact of_decide_eq_true h5
      refine ⟨⟨by omega, .inl h1⟩, decide_eq_true fun i hi => ?_⟩
      cases i with
      | zero => exact h2
      | succ i => exact h5 i (by omega)
  | w :: ws, k :: ks => by
    have ih := fineAll_spec nodes r ws ks
    rw [fineAll, ← ih, Bool.eq_iff_iff]
    simp only [Bool.and_eq_true, Bool.not_eq_true', Bool.or_eq_false_iff, Bool.and_eq_false_iff, decide_eq_true_eq, decide_eq_false_iff_not, List.length_cons]
    constructor
    · rintro ⟨⟨h1, h2⟩, h3⟩
      refine ⟨h3 0 (by omega), ⟨by omega, by omega⟩, fun i hi => ?_⟩
      have := h3 (i + 1) (by omega)
      simpa using this
    · rintro ⟨h2, ⟨h3, h4⟩, h5⟩
      refine ⟨⟨by omega, by omega⟩, fun i hi => ?_⟩
      cases i with
      | zero => simpa using h2
      | succ i => simpa using h5 i (by omega)

/-- The same over kinds: a letter and whether none may be there; the letter of all others. -/
def matchL (r : Option Int) : List (Int × Bool) → List Int → Bool
  | [], [] => true
  | _ :: _, [] => false
  | [], k :: ks => match r with
    | none => false
    | some l => isL k l && matchL r [] ks
  | (l, b) :: fs, k :: ks => (if b then decide (k = 0) || isL k l else isL k l) && matchL r fs ks
/-- A want and its letter. -/
def Want (w : Int) (p : Int × Bool) : Prop := (∀ k, fitsL k w = isL k p.1) ∧ (p.2 = true ↔ ¬ bitAnd .i64 w 4096 = 0)
theorem fine_want {nodes : List Nd} {k w : Int} {p : Int × Bool} (hk : KidOk nodes k) (hw : Want w p) : kidFine nodes k w = if p.2 then decide (kindR nodes k = 0) || isL (kindR nodes k) p.1 else isL (kindR nodes k) p.1 := by
  cases hp : p.2 with
  | true => rw [fine_may hk (hw.2.1 hp) hw.1]; rfl
  | false => rw [fine_must hk (by by_cases e : bitAnd .i64 w 4096 = 0; exact e; rw [hw.2.2 e] at hp; cases hp) hw.1]; rfl
inductive Wants : List Int → List (Int × Bool) → Prop where
  | nil : Wants [] []
  | cons {w : Int} {p : Int × Bool} {ws : List Int} {ps : List (Int × Bool)} (h : Want w p) (t : Wants ws ps) : Wants (w :: ws) (p :: ps)
theorem fine_match {nodes : List Nd} {r : Int} {ro : Option Int} (hr : (r = 0 ∧ ro = none) ∨ ∃ l, ro = some l ∧ ¬ r = 0 ∧ Want r (l, false)) : ∀ (ws : List Int) (ps : List (Int × Bool)), Wants ws ps → ∀ ks : List Int, (∀ k ∈ ks, KidOk nodes k) →
    fineAll nodes r ws ks = matchL ro ps (ks.map (kindR nodes))
  | _, _, .nil, [], _ => by simp [fineAll, matchL]
  | _, _, .cons _ _, [], _ => by simp [fineAll, matchL]
  | _, _, .nil, k :: ks, hk => by
    have ih := fine_match hr [] [] .nil ks (fun q hq => hk q (by simp [hq]))
    rcases hr with ⟨rfl, rfl⟩ | ⟨l, rfl, h0, hw⟩
    · simp [fineAll, matchL]
    · simp only [fineAll, h0, not_false_eq_true, decide_true, Bool.true_and, ih, List.map_cons, matchL]
      rw [fine_want (hk k (by simp)) hw]
      simp
  | _, _, .cons (p := p) h t, k :: ks, hk => by
    have ih := fine_match hr _ _ t ks (fun q hq => hk q (by simp [hq]))
    obtain ⟨l, b⟩ := p
    simp only [fineAll, ih, List.map_cons, matchL]
    rw [fine_want (hk k (by simp)) h]
theorem bits : ¬ bitAnd .i64 4097 4096 = 0 ∧ ¬ bitAnd .i64 5120 4096 = 0 ∧ ¬ bitAnd .i64 6144 4096 = 0 := by decide
theorem w1 : Want 1 (69, false) := ⟨fit1, by decide⟩
theorem w2 : Want 2 (83, false) := ⟨fit2, by decide⟩
theorem w4 : Want 4 (84, false) := ⟨fit4, by decide⟩
theorem w8 : Want 8 (76, false) := ⟨fit8, by decide⟩
theorem w32 : Want 32 (77, false) := ⟨fit32, by decide⟩
theorem w64' : Want 64 (67, false) := ⟨fit64, by decide⟩
theorem w128 : Want 128 (73, false) := ⟨fit128, by decide⟩
theorem w512 : Want 512 (66, false) := ⟨fit512, by decide⟩
theorem w4097 : Want 4097 (69, true) := ⟨fit4097, by decide⟩
theorem w5120 : Want 5120 (88, true) := ⟨fit5120, by decide⟩
theorem w6144 : Want 6144 (70, true) := ⟨fit6144, by decide⟩
end Go.Proofs.YtmnkalojpefclaaDoor
