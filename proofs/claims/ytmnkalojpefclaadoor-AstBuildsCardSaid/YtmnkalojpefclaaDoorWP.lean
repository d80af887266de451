import Derived.Test.YtmnkalojpefclaaDoorNT
import Derived.Test.YtmnkalojpefclaaDoorAL14
import Derived.Test.YtmnkalojpefclaaDoorAL18
set_option linter.unusedSimpArgs false
set_option linter.unusedVariables false
namespace Go.Proofs.YtmnkalojpefclaaDoor
open Go Go.AL Go.Proofs
-- NOPICK
attribute [local simp] pickV_b pickV_s pickV_i
section
variable {form : Nd → Bool} {good : List Nd → Nd → Bool}
theorem runG_form {nodes : List Nd} {i : Nat} {o : List Bool} {d : List Int} (hi : i < nodes.length) (h : form nodes[i] = false) : runG form good nodes (nodes.drop i) i o d = (5, (i : Int)) := by
  rw [List.drop_eq_getElem_cons hi]; simp only [runG, h, if_true]
theorem runG_kid {nodes : List Nd} {i : Nat} {o : List Bool} {d : List Int} {c : Int} (hi : i < nodes.length) (h : form nodes[i] = true) (hk : kidLoop i nodes[i].kids o d = .inl c) : runG form good nodes (nodes.drop i) i o d = (c, (i : Int)) := by
  rw [List.drop_eq_getElem_cons hi]; simp only [runG, h, hk]; rfl
theorem runG_good {nodes : List Nd} {i : Nat} {o o' : List Bool} {d d' : List Int} (hi : i < nodes.length) (h : form nodes[i] = true) (hk : kidLoop i nodes[i].kids o d = .inr (o', d')) (hg : good nodes nodes[i] = false) : runG form good nodes (nodes.drop i) i o d = (30, (i : Int)) := by
  rw [List.drop_eq_getElem_cons hi]; simp only [runG, h, hk, hg]; rfl
theorem runG_deep {nodes : List Nd} {i : Nat} {o o' : List Bool} {d d' : List Int} (hi : i < nodes.length) (h : form nodes[i] = true) (hk : kidLoop i nodes[i].kids o d = .inr (o', d')) (hg : good nodes nodes[i] = true) (hd : 200 < d'.getD i 0) : runG form good nodes (nodes.drop i) i o d = (6, (i : Int)) := by
  rw [List.drop_eq_getElem_cons hi]; simp only [runG, h, hk, hg, hd]; rfl
theorem runG_next {nodes : List Nd} {i : Nat} {o o' : List Bool} {d d' : List Int} (hi : i < nodes.length) (h : form nodes[i] = true) (hk : kidLoop i nodes[i].kids o d = .inr (o', d')) (hg : good nodes nodes[i] = true) (hd : ¬ 200 < d'.getD i 0) : runG form good nodes (nodes.drop i) i o d = runG form good nodes (nodes.drop (i + 1)) (i + 1) o' d' := by
  rw [List.drop_eq_getElem_cons hi]; simp only [runG, h, hk, hg, hd]; rfl
theorem runG_last {nodes : List Nd} {i : Nat} {o : List Bool} {d : List Int} (hi : nodes.length ≤ i) : runG form good nodes (nodes.drop i) i o d = lastL nodes o := by
  rw [List.drop_eq_nil_of_le hi]; rfl
end
theorem ite_len {c : Prop} [Decidable c] {x y : List UInt8} {n : Nat} (hx : x.length ≤ n) (hy : y.length ≤ n) : (if c then x else y).length ≤ n := by
  split
  · exact hx
  · exact hy
theorem patL_length (k : Int) (text : List UInt8) : (patL k text).length ≤ 100 := by
  unfold patL
  repeat' (first | refine ite_len ?_ ?_ | decide)
theorem caseR_kids {nodes : List Nd} {n : Nd} (h : goodR nodes n = true) (hk : n.kind = 24) : n.kids ≠ [] := by
  intro e
  simp [goodR, hk, e, patL, fitsR] at h
/-- Owners, counted. -/
abbrev cnts (o : List Bool) : List AV := o.map fun b => AV.int .i64 (if b then 1 else 0)
/-- What the memory holds while the document's answer is sought. -/
structure WMem (h H : Heap) (nodes : List Nd) (b1 bo bd : Nat) (o : List Bool) (d : List Int) : Prop where
  tree : H b1 = some (.cells [AV.list 5 (nodes.map row) .no])
  own : H bo = some (.cells (cnts o))
  deep : H bd = some (.cells (nums d))
  sub : AL.Sub h H
/-- A list that grows leaves cells where they are. -/
theorem grow_keep {H : Heap} {tok : Tok} {b k e c : Nat} {cs : List AV} (hc : H c = some (.cells cs)) (ht : TokIn H tok) (hb : SpareNew H tok b) : ((tok.rid H).set b (.spare k e)) c = some (.cells cs) := by
  have h1 : ∀ b' k' e', tok = .own b' k' e' → ¬ c = b' := fun b' k' e' q e2 => by
    subst q e2
    have : H c = some (.spare k' e') := ht
    rw [hc] at this; cases this
  have h2 : ¬ c = b := fun e2 => by
    subst e2
    rcases hb with hb | ⟨k', e', hb⟩
    · rw [hc] at hb; cases hb
    · exact h1 _ _ _ hb rfl
  rw [Heap.set_other _ _ _ _ h2]
  cases tok with
  | own b' k' e' => exact (Heap.del_other _ _ _ (h1 b' k' e' rfl)).trans hc
  | no => exact hc
  | nil => exact hc
  | full => exact hc
theorem grow_sub {h H : Heap} {tok : Tok} {b k e : Nat} (hs : AL.Sub h H) (hn : ∀ b' k' e', tok = .own b' k' e' → h b' = none) (hb : SpareNew H tok b) : AL.Sub h ((tok.rid H).set b (.spare k e)) := by
  intro c x hx
  have h0 := hs c x hx
  have h1 : ∀ b' k' e', tok = .own b' k' e' → ¬ c = b' := fun b' k' e' q e2 => by
    subst e2
    rw [hn _ _ _ q] at hx; cases hx
  have h2 : ¬ c = b := fun e2 => by
    subst e2
    rcases hb with hb | ⟨k', e', hb⟩
    · rw [h0] at hb; cases hb
    · exact h1 _ _ _ hb rfl
  rw [Heap.set_other _ _ _ _ h2]
  cases tok with
  | own b' k' e' => exact (Heap.del_other _ _ _ (h1 b' k' e' rfl)).trans h0
  | no => exact h0
  | nil => exact h0
  | full => exact h0
theorem tok_set {H : Heap} {tok : Tok} {c : Nat} {cs : List AV} {x : Blk} (hc : H c = some (.cells cs)) (ht : TokIn H tok) : TokIn (H.set c x) tok := by
  cases tok with
  | own b k e =>
    have h1 : H b = some (.spare k e) := ht
    have h2 : ¬ b = c := fun q => by rw [q, hc] at h1; cases h1
    show (H.set c x) b = _
    rw [Heap.set_other _ _ _ _ h2]; exact h1
  | no => exact ht
  | nil => trivial
  | full => trivial
theorem sub_none {h g : Heap} {b : Nat} (hs : AL.Sub h g) (hb : g b = none) : h b = none := by
  cases e : h b with
  | none => rfl
  | some x => rw [hs b x e] at hb; cases hb
end Go.Proofs.YtmnkalojpefclaaDoor
