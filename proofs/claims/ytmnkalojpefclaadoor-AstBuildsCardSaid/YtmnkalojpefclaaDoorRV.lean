import Derived.Test.YtmnkalojpefclaaDoorRU
import Derived.Test.YtmnkalojpefclaaDoorT
set_option linter.unusedSimpArgs false
set_option linter.unusedVariables false
namespace Go.Proofs.YtmnkalojpefclaaDoor
open Go Go.AL Go.Proofs
theorem RText_c (n : Nd) (t : Tok) (hs : n.text.length < 9223372036854775807) (h : Heap) (R : AV → Heap → Prop) (hR : R (.bool (textR n.kind n.text n.num)) h) :
    ACalls Tryd.prog 23 [.agg (ndRow n t)] h R := by
  by_cases h33 : n.kind = 33 ∧ n.num = 0
  · obtain ⟨k, p, text, num, kids⟩ := n
    obtain ⟨e1, e2⟩ := h33
    simp only at e1 e2 hs hR
    subst e1 e2
    refine Text33_c p text kids t hs h R ?_
    have : textR 33 text 0 = pairR text := by simp [textR]
    rwa [this] at hR
  · exact Text_c n t hs (fun e1 e2 => h33 ⟨e1, e2⟩) h R hR
theorem index_one : ∀ l : List UInt8, Lib.index l [9] = match l.findIdx? (fun c => decide (c = 9)) with | some i => (i : Int) | none => -1
  | [] => rfl
  | b :: l => by
    have ih := index_one l
    simp only [Lib.index, List.findIdx?_cons]
    by_cases hb : b = 9
    · subst hb
      simp
    · have h1 : ([9] : List UInt8).isPrefixOf (b :: l) = false := by
        have : ¬ (9 : UInt8) = b := fun e => hb e.symm
        simp [List.isPrefixOf, this]
      simp only [h1, hb, decide_false, Bool.false_eq_true, if_false]
      cases hf : l.findIdx? (fun c => decide (c = 9)) with
      | none =>
        rw [hf] at ih
        simp [ih]
      | some i =>
        rw [hf] at ih
        simp only at ih
        have : ((i : Int) == -1) = false := by simp
        simp [ih, this]
theorem cut_plain (text : List UInt8) : ((Lib.cut text [9]).2.2 && (decide ((Lib.cut text [9]).1 = []) || nameR (Lib.cut text [9]).1) && nameR (Lib.cut text [9]).2.1 && !decide ((Lib.cut text [9]).1 = (Lib.cut text [9]).2.1)) = pairR text := by
  have hi := index_one text
  unfold pairR
  cases hf : text.findIdx? (fun c => decide (c = 9)) with
  | none =>
    rw [hf] at hi
    have : Lib.cut text [9] = (text, [], false) := by
      unfold Lib.cut
      rw [hi]
      simp
    simp [this]
  | some i =>
    rw [hf] at hi
    have : Lib.cut text [9] = (text.take i, text.drop (i + 1), true) := by
      unfold Lib.cut
      rw [hi]
      have h0 : (0 : Int) ≤ (i : Int) := by omega
      simp only [h0, if_true, Int.toNat_natCast, List.length_singleton]
    simp [this]
theorem among_un (s : List UInt8) : amongL s unaryB = decide (s ∈ unL) := by unfold amongL; rw [un_split]
theorem among_as (s : List UInt8) : amongL s assignB = decide (s ∈ asL) := by unfold amongL; rw [as_split]
theorem among_st (s : List UInt8) : amongL s stepB = decide (s ∈ stL) := by unfold amongL; rw [st_split]
/-- A node's text and number, the program's word and the document's; a function's number is held against its kids elsewhere. -/
theorem text_plain (k : Int) (text : List UInt8) (num : Int) : textL k text num = textR k text (if k = 20 then 0 else num) := by
  unfold textL textR
  simp only [name_plain, among_un, among_as, among_st, cut_plain]
  by_cases h4 : k = 4
  · simp [h4]
  by_cases h25 : k = 25
  · simp [h25]
  by_cases h13 : k = 13
  · simp [h13]
  by_cases h20 : k = 20
  · simp [h20]
  by_cases hn : num = 0
  · by_cases h33 : k = 33
    · subst h33
      have := cut_plain text
      simp [hn, this]
    · simp [h4, h25, h13, h20, hn, h33]
  · by_cases h33 : k = 33
    · simp [hn, h33]
    · simp [h4, h25, h13, h20, hn, h33]
end Go.Proofs.YtmnkalojpefclaaDoor
