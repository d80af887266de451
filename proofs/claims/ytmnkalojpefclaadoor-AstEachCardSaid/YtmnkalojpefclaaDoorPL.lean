import Derived.Test.YtmnkalojpefclaaDoorX
set_option linter.unusedSimpArgs false
set_option linter.unusedVariables false
namespace Go.Proofs.YtmnkalojpefclaaDoor
open Go Go.AL Go.Proofs
theorem kidLoop_in2 (i : Nat) : ∀ (ks : List Int) (o : List Bool) (d : List Int) (x : List Bool × List Int), kidLoop i ks o d = .inr x → ∀ k ∈ ks, -1 ≤ k ∧ k < (i : Int)
  | [], _, _, _, _, k, hk => by simp at hk
  | q :: ks, o, d, x, h, k, hk => by
    simp only [kidLoop] at h
    split at h
    · cases h
    · rename_i hq
      rcases List.mem_cons.1 hk with rfl | hk
      · omega
      · split at h
        · exact kidLoop_in2 i ks _ _ x h k hk
        · split at h
          · cases h
          · exact kidLoop_in2 i ks _ _ x h k hk
/-- Each node's kids stand ahead of it, and are nodes or none. -/
def KidsIn (nodes : List Nd) : Prop := ∀ j (hj : j < nodes.length), ∀ k ∈ nodes[j].kids, -1 ≤ k ∧ k < (j : Int)
theorem run_kids {form : Nd → Bool} {good : List Nd → Nd → Bool} (nodes : List Nd) : ∀ (ns : List Nd) (i : Nat) (o : List Bool) (d : List Int), nodes.drop i = ns → (runG form good nodes ns i o d).1 = 0 → ∀ j (hj : j < nodes.length), i ≤ j → ∀ k ∈ nodes[j].kids, -1 ≤ k ∧ k < (j : Int)
  | [], i, o, d, he, _, j, hj, hij, k, _ => by
    have := List.drop_eq_nil_iff.1 he
    omega
  | n :: ns, i, o, d, he, hz, j, hj, hij, k, hk => by
    have hlt : i < nodes.length := by
      by_cases h : i < nodes.length
      · exact h
      · rw [List.drop_eq_nil_of_le (by omega)] at he; cases he
    rw [List.drop_eq_getElem_cons hlt] at he
    injection he with he1 he2
    simp only [runG] at hz
    split at hz
    · simp at hz
    · split at hz
      · rename_i c hkl
        have : c ≠ 0 := kidLoop_err i n.kids o d c hkl
        exact absurd hz this
      · rename_i o' d' hkl
        split at hz
        · simp at hz
        · split at hz
          · simp at hz
          · by_cases e : j = i
            · subst e
              rw [he1] at hk
              exact kidLoop_in2 j n.kids o d _ hkl k hk
            · exact run_kids nodes ns (i + 1) o' d' he2 hz j hj (by omega) k hk
where
  kidLoop_err (i : Nat) : ∀ (ks : List Int) (o : List Bool) (d : List Int) (c : Int), kidLoop i ks o d = .inl c → c ≠ 0
  | [], _, _, _, h => by simp [kidLoop] at h
  | q :: ks, o, d, c, h => by
    simp only [kidLoop] at h
    split at h
    · injection h with h; omega
    · split at h
      · exact kidLoop_err i ks _ _ c h
      · split at h
        · injection h with h; omega
        · exact kidLoop_err i ks _ _ c h
theorem check_kids {nodes : List Nd} (h : (checkL nodes).1 = 0) : KidsIn nodes := by
  simp only [checkL, checkG] at h
  split at h
  · simp at h
  · exact fun j hj k hk => run_kids nodes nodes 0 _ _ rfl h j hj (by omega) k hk
theorem KidsIn.down {nodes : List Nd} (h : KidsIn nodes) : Down nodes := fun i hi k hk => (h i hi k hk).2
theorem KidsIn.lt {nodes : List Nd} (h : KidsIn nodes) : ∀ n ∈ nodes, ∀ k ∈ n.kids, k < (nodes.length : Int) := fun n hn k hk => by
  obtain ⟨i, hi, rfl⟩ := List.getElem_of_mem hn
  have := (h i hi k hk).2
  omega
theorem sameF_self {nodes : List Nd} (hd : Down nodes) : ∀ (f : Nat) (i : Int), i < f → i < nodes.length → sameF nodes nodes f i i = true
  | 0, i, _, _ => by simp [sameF]
  | f + 1, i, hf, hi => by
    simp only [sameF]
    split
    · simp
    · rename_i h0
      have hlt : i.toNat < nodes.length := by omega
      rw [List.getElem?_eq_getElem hlt]
      simp only [decide_true, Bool.true_and, List.all_eq_true]
      intro p hp
      have h1 : p.1 = p.2 ∧ p.1 ∈ nodes[i.toNat].kids := by
        obtain ⟨s, hs, rfl⟩ := List.getElem_of_mem hp
        simp at hs ⊢
      have h2 := hd i.toNat hlt p.1 h1.2
      obtain ⟨p1, p2⟩ := p
      simp only at h1 h2 ⊢
      rw [← h1.1]
      exact sameF_self hd f p1 (by omega) (by omega)
theorem sameL_self {nodes : List Nd} (hd : Down nodes) : sameL nodes nodes = true := by
  simp only [sameL, decide_true, Bool.true_and, Bool.or_eq_true, decide_eq_true_eq]
  exact .inr (sameF_self hd _ _ (by omega) (by omega))
end Go.Proofs.YtmnkalojpefclaaDoor
