import Derived.Test.YtmnkalojpefclaaDoorRN
import Derived.Test.YtmnkalojpefclaaDoorC
set_option linter.unusedSimpArgs false
set_option linter.unusedVariables false
namespace Go.Proofs.YtmnkalojpefclaaDoor
open Go Go.AL Go.Proofs
/-! ### A word between spaces -/
theorem index_infix (sub : List UInt8) : ∀ l : List UInt8, 0 ≤ Lib.index l sub ↔ sub <:+: l
  | [] => by
    simp only [Lib.index]
    cases sub with
    | nil => simp
    | cons a t => simp
  | b :: l => by
    have ih := index_infix sub l
    have hge := Lib.index_ge l sub
    simp only [Lib.index]
    rw [List.infix_cons_iff]
    by_cases hp : sub.isPrefixOf (b :: l) = true
    · simp only [hp, if_true]
      exact ⟨fun _ => .inl (List.isPrefixOf_iff_prefix.1 hp), fun _ => by omega⟩
    · have hp' : ¬ sub <+: b :: l := fun h => hp (List.isPrefixOf_iff_prefix.2 h)
      simp only [hp, Bool.false_eq_true, if_false, hp', false_or]
      rw [← ih]
      by_cases hi : Lib.index l sub = -1
      · simp [hi]
      · have : (Lib.index l sub == -1) = false := by simpa using hi
        simp only [this, Bool.false_eq_true, if_false]
        omega
theorem contains_infix (l sub : List UInt8) : Lib.contains l sub = true ↔ sub <:+: l := by
  rw [Lib.contains, decide_eq_true_eq, index_infix]
theorem infix_skip {s : List UInt8} : ∀ (w r : List UInt8), 32 ∉ w → ((32 :: s) <:+: (w ++ r) ↔ (32 :: s) <:+: r)
  | [], r, _ => Iff.rfl
  | b :: w, r, hw => by
    have hb : ¬ (32 : UInt8) = b := fun e => hw (by simp [e])
    rw [List.cons_append, List.infix_cons_iff, infix_skip w r (fun h => hw (by simp [h]))]
    constructor
    · rintro (h | h)
      · exact absurd (List.cons_prefix_cons.1 h).1 hb
      · exact h
    · exact fun h => .inr h
theorem prefix_word : ∀ (s w r : List UInt8), 32 ∉ s → 32 ∉ w → ((s ++ [32]) <+: (w ++ 32 :: r) ↔ s = w)
  | [], [], r, _, _ => by simp
  | [], b :: w, r, _, hw => by
    have hb : ¬ (32 : UInt8) = b := fun e => hw (by simp [e])
    simp [List.cons_prefix_cons, hb]
  | a :: s, [], r, hs, _ => by
    have ha : ¬ a = (32 : UInt8) := fun e => hs (by simp [e])
    simp [List.cons_prefix_cons, ha]
  | a :: s, b :: w, r, hs, hw => by
    have ih := prefix_word s w r (fun h => hs (by simp [h])) (fun h => hw (by simp [h]))
    simp only [List.cons_append, List.cons_prefix_cons, ih, List.cons.injEq]
def spaced : List (List UInt8) → List UInt8
  | [] => [32]
  | w :: ws => 32 :: w ++ spaced ws
theorem spaced_head : ∀ ws, ∃ r, spaced ws = 32 :: r
  | [] => ⟨[], rfl⟩
  | _ :: _ => ⟨_, rfl⟩
theorem infix_spaced (s : List UInt8) (hs : 32 ∉ s) : ∀ ws : List (List UInt8), (∀ w ∈ ws, 32 ∉ w) → ((32 :: (s ++ [32])) <:+: spaced ws ↔ s ∈ ws)
  | [], _ => by
    simp only [spaced, List.not_mem_nil, iff_false]
    intro h
    have := h.length_le
    simp at this
  | w :: ws, hw => by
    obtain ⟨r, hr⟩ := spaced_head ws
    have hw0 := hw w (by simp)
    have ih := infix_spaced s hs ws (fun v hv => hw v (by simp [hv]))
    have e : spaced (w :: ws) = 32 :: (w ++ 32 :: r) := by simp [spaced, hr]
    rw [e, List.infix_cons_iff, infix_skip w (32 :: r) hw0, ← hr, ih, List.cons_prefix_cons, hr, prefix_word s w r hs hw0]
    simp
theorem wordsB_spaced : wordsB = spaced wordsR := by decide +kernel
theorem wordsR_clean : ∀ w ∈ wordsR, (32 : UInt8) ∉ w := by decide +kernel
theorem key_word {s : List UInt8} (hs : (32 : UInt8) ∉ s) : Lib.contains wordsB ([32] ++ s ++ [32]) = decide (s ∈ wordsR) := by
  rw [Bool.eq_iff_iff, contains_infix, wordsB_spaced, decide_eq_true_eq]
  exact infix_spaced s hs wordsR wordsR_clean
theorem nm_plain (s : List UInt8) : nmL s = (decide (s ≠ []) && !(decide (48 ≤ byteAt s 0) && decide (byteAt s 0 ≤ 57)) && s.all (fun c => innerL (c.toNat : Int))) := by
  cases s with
  | nil => simp [nmL]
  | cons a t =>
    rw [Bool.eq_iff_iff]
    simp only [nmL, decide_eq_true_eq, Bool.and_eq_true, List.all_eq_true]
    have h0 : byteAt (a :: t) 0 = (a.toNat : Int) := rfl
    constructor
    · rintro ⟨h1, h2⟩
      have h3 := h2 0 (by simp)
      simp only [okB, letterB, h0] at h3
      refine ⟨⟨h1, ?_⟩, fun c hc => ?_⟩
      · rw [h0]
        simp at h3 ⊢
        omega
      · obtain ⟨j, hj, rfl⟩ := List.getElem_of_mem hc
        have h4 := h2 j hj
        simp only [okB, letterB, byteAt_get hj] at h4
        simp only [innerL]
        simp at h4 ⊢
        omega
    · rintro ⟨⟨h1, h2⟩, h3⟩
      refine ⟨h1, fun j hj => ?_⟩
      have h4 := h3 _ (List.getElem_mem hj)
      simp only [innerL] at h4
      simp only [okB, letterB, byteAt_get hj]
      by_cases hj0 : j = 0
      · subst hj0
        rw [h0] at h2
        simp at h2 h4 ⊢
        omega
      · simp [hj0] at h4 ⊢
        omega
/-- What the program takes for a name is one by the document. -/
theorem name_plain (s : List UInt8) : nameL s = nameR s := by
  have h1 : nameR s = (nmL s && decide (s ∉ wordsR)) := by rw [nameR, nm_plain]
  rw [h1, nameL, keyL]
  cases hn : nmL s with
  | false => rfl
  | true =>
    have hs : (32 : UInt8) ∉ s := by
      intro hm
      rw [nm_plain] at hn
      simp only [Bool.and_eq_true, List.all_eq_true] at hn
      have := hn.2 32 hm
      exact absurd this (by decide)
    rw [key_word hs]
    simp
end Go.Proofs.YtmnkalojpefclaaDoor
