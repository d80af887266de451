import Derived.Test.YtmnkalojpefclaaDoorEC
set_option linter.unusedSimpArgs false
set_option linter.unusedVariables false
namespace Go.Proofs.YtmnkalojpefclaaDoor
open Go Go.AL Go.Proofs
theorem preL_fuel {nodes : List Nd} (hd : KidsIn nodes) : ∀ (f g : Nat) (i : Int), i < f → i < g → i < nodes.length → preL nodes f i = preL nodes g i
  | 0, g, i, hf, hg, _ => by
    have : i < 0 := by omega
    cases g <;> simp [preL, this]
  | f + 1, 0, i, hf, hg, _ => by
    have : i < 0 := by omega
    simp [preL, this]
  | f + 1, g + 1, i, hf, hg, hi => by
    simp only [preL]
    split
    · rfl
    · rename_i h0
      have hlt : i.toNat < nodes.length := by omega
      rw [List.getElem?_eq_getElem hlt]
      simp only [Option.map_some, Option.getD_some]
      congr 1
      have hk := hd i.toNat hlt
      generalize nodes[i.toNat].kids = ks at hk
      induction ks with
      | nil => rfl
      | cons k ks ih =>
        have h1 := hk k (by simp)
        rw [List.flatMap_cons, List.flatMap_cons, ih fun q hq => hk q (by simp [hq]), preL_fuel hd f g k (by omega) (by omega) (by omega)]
abbrev pre (nodes : List Nd) (i : Nat) : List Nat := preL nodes nodes.length i
/-- The kids that are there. -/
def realK (ks : List Int) : List Nat := (ks.filter fun k => decide (0 ≤ k)).map Int.toNat
theorem pre_cons {nodes : List Nd} (hd : KidsIn nodes) {i : Nat} (hi : i < nodes.length) : pre nodes i = i :: (realK nodes[i].kids).flatMap (pre nodes) := by
  unfold pre
  obtain ⟨m, hm⟩ : ∃ m, nodes.length = m + 1 := ⟨nodes.length - 1, by omega⟩
  rw [hm]
  simp only [preL]
  have h0 : ¬ ((i : Int) < 0) := by omega
  simp only [h0, if_false, Int.toNat_natCast, List.getElem?_eq_getElem hi, Option.map_some, Option.getD_some]
  congr 1
  have hk := hd i hi
  generalize nodes[i].kids = ks at hk
  induction ks with
  | nil => rfl
  | cons k ks ih =>
    have h1 := hk k (by simp)
    have ih' := ih fun q hq => hk q (by simp [hq])
    rw [List.flatMap_cons, ih']
    by_cases h2 : 0 ≤ k
    · have h3 : realK (k :: ks) = k.toNat :: realK ks := by simp [realK, h2]
      rw [h3, List.flatMap_cons]
      congr 1
      rw [show ((k.toNat : Nat) : Int) = k by omega]
      exact preL_fuel hd m (m + 1) k (by omega) (by omega) (by omega)
    · have h3 : realK (k :: ks) = realK ks := by simp [realK, h2]
      have h4 : preL nodes m k = [] := by cases m <;> simp [preL]; omega
      rw [h3, h4, List.nil_append]
def roots (i : Nat) (o : List Bool) : List Nat := (List.range i).filter fun r => !(o.getD r false)
theorem roots_set {i k : Nat} {o : List Bool} (hk : k < i) (hko : k < o.length) (h : o.getD k false = false) : (roots i o).Perm (k :: roots i (o.set k true)) := by
  have hm : k ∈ roots i o := by simp only [roots, List.mem_filter, List.mem_range, h]; exact ⟨hk, rfl⟩
  refine (List.perm_cons_erase hm).trans ?_
  have hnd : (roots i o).Nodup := List.Pairwise.filter _ List.nodup_range
  rw [hnd.erase_eq_filter]
  unfold roots
  rw [List.filter_filter]
  refine List.Perm.cons _ (List.Perm.of_eq ?_)
  refine List.filter_congr fun r _ => ?_
  by_cases e : r = k
  · subst e
    simp [List.getD, hko]
  · have e' : ¬ k = r := fun q => e q.symm
    simp [List.getD, List.getElem?_set, e', e]
theorem kidLoop_roots (i : Nat) : ∀ (ks : List Int) (o : List Bool) (d : List Int) (o' : List Bool) (d' : List Int), i ≤ o.length → kidLoop i ks o d = .inr (o', d') →
    (roots i o).Perm (realK ks ++ roots i o') ∧ o'.length = o.length ∧ ∀ r, i ≤ r → o'.getD r false = o.getD r false
  | [], o, d, o', d', _, h => by
    simp only [kidLoop] at h
    injection h with h
    injection h with h1 h2
    subst h1
    exact ⟨.refl _, rfl, fun _ _ => rfl⟩
  | k :: ks, o, d, o', d', hl, h => by
    simp only [kidLoop] at h
    split at h
    · cases h
    · rename_i hk
      split at h
      · rename_i h0
        have h3 : realK (k :: ks) = realK ks := by
          have : ¬ 0 ≤ k := by omega
          simp [realK, this]
        rw [h3]
        exact kidLoop_roots i ks o d o' d' hl h
      · rename_i h0
        have h3 : realK (k :: ks) = k.toNat :: realK ks := by
          have : 0 ≤ k := by omega
          simp [realK, this]
        split at h
        · cases h
        · rename_i ho
          have ho' : o.getD k.toNat false = false := by simpa using ho
          obtain ⟨h5, h6, h7⟩ := kidLoop_roots i ks _ _ o' d' (by simpa using hl) h
          refine ⟨?_, by simpa using h6, fun r hr => ?_⟩
          · rw [h3]
            exact (roots_set (by omega) (by omega) ho').trans (h5.cons _)
          · rw [h7 r hr]
            have : ¬ k.toNat = r := by omega
            simp [List.getD, List.getElem?_set, this]
theorem kidLoop_err (i : Nat) : ∀ (ks : List Int) (o : List Bool) (d : List Int) (c : Int), kidLoop i ks o d = .inl c → c ≠ 0
  | [], _, _, _, h => by simp [kidLoop] at h
  | q :: ks, o, d, c, h => by
    simp only [kidLoop] at h
    split at h
    · injection h with h; omega
    · split at h
      · exact kidLoop_err i ks _ _ c h
      · split at h
        · injection h with h; omega
        · exact kidLoop_err i ks _ _ c h
theorem run_pre {form : Nd → Bool} {good : List Nd → Nd → Bool} {nodes : List Nd} (hd : KidsIn nodes) : ∀ (ns : List Nd) (i : Nat) (o : List Bool) (d : List Int), nodes.drop i = ns → i ≤ nodes.length → o.length = nodes.length → (runG form good nodes ns i o d).1 = 0 →
    (∀ r, i ≤ r + 1 → o.getD r false = false) → ((roots i o).flatMap (pre nodes)).Perm (List.range i) → nodes ≠ [] → (pre nodes (nodes.length - 1)).Perm (List.range nodes.length)
  | [], i, o, d, he, hil, hol, hz, hro, hp, hne => by
    have hi : i = nodes.length := by
      have := List.drop_eq_nil_iff.1 he
      omega
    subst hi
    have hpos : 0 < nodes.length := List.length_pos_iff.2 hne
    simp only [runG, lastL] at hz
    split at hz
    · simp at hz
    · split at hz
      · simp at hz
      · rename_i hf
        have hall : ∀ j (hj : j < (o.take (nodes.length - 1)).length), (o.take (nodes.length - 1))[j] = true := by
          intro j hj
          cases hv : (o.take (nodes.length - 1))[j] with
          | true => rfl
          | false =>
            exfalso
            apply hf
            unfold firstNo
            split
            · omega
            · rename_i hnone
              rw [List.findIdx?_eq_none_iff] at hnone
              have := hnone _ (List.getElem_mem hj)
              rw [hv] at this
              simp at this
        have hr : roots nodes.length o = [nodes.length - 1] := by
          unfold roots
          obtain ⟨m, hm⟩ : ∃ m, nodes.length = m + 1 := ⟨nodes.length - 1, by omega⟩
          rw [hm] at hall hol hro ⊢
          rw [List.range_succ, List.filter_append]
          have h1 : (List.range m).filter (fun r => !(o.getD r false)) = [] := by
            rw [List.filter_eq_nil_iff]
            intro r hr
            have hr' := List.mem_range.1 hr
            have hj : r < (o.take (m + 1 - 1)).length := by simp; omega
            have h2 := hall r hj
            have h3 : r < o.length := by omega
            simp only [List.getElem_take] at h2
            simp [List.getD, h3, h2]
          rw [h1]
          have h2 : o.getD m false = false := by
            have hd0 : m < o.length := by omega
            exact hro m (by omega)
          rw [List.getD_eq_getElem?_getD] at h2
          simp [h2]
        rw [hr] at hp
        simpa using hp
  | n :: ns, i, o, d, he, hil, hol, hz, hro, hp, hne => by
    have hlt : i < nodes.length := by
      by_cases h : i < nodes.length
      · exact h
      · rw [List.drop_eq_nil_of_le (by omega)] at he; cases he
    rw [List.drop_eq_getElem_cons hlt] at he
    injection he with he1 he2
    simp only [runG] at hz
    split at hz
    · simp at hz
    · split at hz
      · rename_i c hkl
        exact absurd hz (kidLoop_err i n.kids o d c hkl)
      · rename_i o' d' hkl
        split at hz
        · simp at hz
        · split at hz
          · simp at hz
          · obtain ⟨h1, h2, h3⟩ := kidLoop_roots i n.kids o d o' d' (by omega) hkl
            refine run_pre hd ns (i + 1) o' d' he2 (by omega) (by omega) hz (fun r hr => by rw [h3 r (by omega)]; exact hro r (by omega)) ?_ hne
            have h4 : roots (i + 1) o' = roots i o' ++ [i] := by
              unfold roots
              rw [List.range_succ, List.filter_append]
              have : o'.getD i false = false := by rw [h3 i (by omega)]; exact hro i (by omega)
              rw [List.getD_eq_getElem?_getD] at this
              simp [this]
            rw [h4, List.flatMap_append]
            have h5 : pre nodes i = i :: (realK n.kids).flatMap (pre nodes) := by rw [pre_cons hd hlt, he1]
            simp only [List.flatMap_cons, List.flatMap_nil, List.append_nil]
            rw [h5, List.range_succ]
            have h6 : ((roots i o).flatMap (pre nodes)).Perm ((realK n.kids).flatMap (pre nodes) ++ (roots i o').flatMap (pre nodes)) := by
              have := h1.flatMap_right (pre nodes)
              rwa [List.flatMap_append] at this
            refine List.perm_middle.trans ?_
            refine List.Perm.trans ?_ (List.perm_append_comm (l₁ := [i]))
            refine List.Perm.cons _ ?_
            exact (List.perm_append_comm.trans h6.symm).trans hp
/-- Of a tree that may be all nodes are met, each once. -/
theorem pre_perm {nodes : List Nd} (h : (checkL nodes).1 = 0) : (pre nodes (nodes.length - 1)).Perm (List.range nodes.length) := by
  have hd := check_kids h
  have h' := h
  simp only [checkL, checkG] at h'
  split at h'
  · simp at h'
  · rename_i hne
    have hne' : nodes ≠ [] := fun e => hne (.inl e)
    have hf : ∀ r, (List.replicate nodes.length false).getD r false = false := fun r => by
      simp only [List.getD, List.getElem?_replicate]; split <;> rfl
    exact run_pre hd nodes 0 _ _ rfl (by omega) (by simp) h' (fun r _ => hf r) (by simp [roots]) hne'
/-- A node stands ahead of its kids, and these in order. -/
theorem pre_sub {nodes : List Nd} (hd : KidsIn nodes) : ∀ (r i : Nat) (hi : i < nodes.length), r < nodes.length → i ∈ pre nodes r → (i :: realK nodes[i].kids).Sublist (pre nodes r) := by
  have hk : ∀ ks : List Nat, (∀ k ∈ ks, k < nodes.length) → ks.Sublist (ks.flatMap (pre nodes)) := by
    intro ks
    induction ks with
    | nil => intro _; simp
    | cons k ks ih =>
      intro h
      rw [List.flatMap_cons, pre_cons hd (h k (by simp)), List.cons_append]
      exact ((ih fun q hq => h q (by simp [hq])).trans (List.sublist_append_right ..)).cons_cons k
  have hlt : ∀ (i : Nat) (hi : i < nodes.length), ∀ k ∈ realK nodes[i].kids, k < i := by
    intro i hi k hk
    simp only [realK, List.mem_map, List.mem_filter, decide_eq_true_eq] at hk
    obtain ⟨q, ⟨h1, h2⟩, rfl⟩ := hk
    have := hd i hi q h1
    omega
  intro r
  induction r using Nat.strongRecOn with
  | ind r ih =>
    intro i hi hr hmem
    rw [pre_cons hd hr] at hmem ⊢
    rcases List.mem_cons.1 hmem with rfl | hmem
    · exact (hk _ fun k hk => by have := hlt i hi k hk; omega).cons_cons i
    · obtain ⟨k, h1, h2⟩ := List.mem_flatMap.1 hmem
      have h3 := hlt r hr k h1
      have h4 := ih k h3 i hi (by omega) h2
      refine .cons _ (h4.trans ?_)
      clear h4 h2 hmem
      generalize realK nodes[r].kids = ks at h1
      induction ks with
      | nil => simp at h1
      | cons q ks ih2 =>
        rw [List.flatMap_cons]
        rcases List.mem_cons.1 h1 with rfl | h1
        · exact List.sublist_append_left ..
        · exact (ih2 h1).trans (List.sublist_append_right ..)
/-- Where a node stands among those that are met. -/
def posOf (l : List Nat) (i : Nat) : Nat := l.idxOf i
theorem pos_pairwise {l : List Nat} (h : l.Nodup) : l.Pairwise fun a b => posOf l a < posOf l b := by
  rw [List.pairwise_iff_getElem]
  intro i j hi hj hij
  unfold posOf
  rw [h.idxOf_getElem i hi, h.idxOf_getElem j hj]
  exact hij
/-- A node is met: what is counted, and written. -/
def stepM (s : Int × List Int) (i : Nat) : (Int × List Int) × Bool := ((IntKind.i64.wrap (s.1 + 1), s.2.set i (IntKind.i64.wrap (s.1 + 1))), true)
theorem met_run : ∀ (l : List Nat) (c : Nat) (m : List Int), l.Nodup → (∀ i ∈ l, i < m.length) → c + l.length ≤ 1000000 →
    ∃ m' : List Int, runS stepM (c, m) l = ((((c + l.length : Nat) : Int), m'), true) ∧ m'.length = m.length ∧ (∀ i ∈ l, m'.getD i 0 = c + posOf l i + 1) ∧ ∀ i, i ∉ l → m'.getD i 0 = m.getD i 0
  | [], c, m, _, _, _ => ⟨m, by simp [runS], rfl, by simp, fun _ _ => rfl⟩
  | i :: l, c, m, hn, hl, hc => by
    simp only [List.length_cons] at hc
    have h1 := List.nodup_cons.1 hn
    have w : IntKind.i64.wrap ((c : Int) + 1) = ((c + 1 : Nat) : Int) := by rw [w64 (by omega) (by omega)]; omega
    obtain ⟨m', e1, e2, e3, e4⟩ := met_run l (c + 1) (m.set i ((c + 1 : Nat) : Int)) h1.2 (fun q hq => by simpa using hl q (by simp [hq])) (by omega)
    refine ⟨m', ?_, by simpa using e2, fun q hq => ?_, fun q hq => ?_⟩
    · simp only [runS, stepM, w, if_true]
      have : (c + (i :: l).length : Nat) = c + 1 + l.length := by simp; omega
      rw [this]
      exact e1
    · by_cases e : q = i
      · subst e
        rw [e4 q h1.1]
        have := hl q (by simp)
        simp [List.getD, this, posOf]
      · have hq' : q ∈ l := by
          rcases List.mem_cons.1 hq with h | h
          · exact absurd h e
          · exact h
        rw [e3 q hq']
        have e' : ¬ i = q := fun h => e h.symm
        have : posOf (i :: l) q = posOf l q + 1 := by
          unfold posOf
          rw [List.idxOf_cons, beq_false_of_ne e']
          rfl
        rw [this]; omega
    · have h2 : q ≠ i ∧ q ∉ l := by simpa using hq
      rw [e4 q h2.2]
      have e' : ¬ i = q := fun h => h2.1 h.symm
      simp [List.getD, List.getElem?_set, e']
/-- So many are met before it is told to stop. -/
def stepF (stop : Int) (c : Int) (_ : Nat) : Int × Bool := (IntKind.i64.wrap (c + 1), decide (IntKind.i64.wrap (c + 1) < stop))
theorem few_run (stop : Int) : ∀ (l : List Nat) (c : Nat), c + l.length ≤ 1000000 → l ≠ [] →
    runS (stepF stop) c l = (if stop ≤ c + 1 then (((c + 1 : Nat) : Int), false) else if stop ≤ c + l.length then (stop, false) else (((c + l.length : Nat) : Int), true))
  | [], c, _, h => absurd rfl h
  | i :: l, c, hc, _ => by
    simp only [List.length_cons] at hc
    have w : IntKind.i64.wrap ((c : Int) + 1) = ((c + 1 : Nat) : Int) := by rw [w64 (by omega) (by omega)]; omega
    simp only [runS, stepF, w]
    by_cases h1 : stop ≤ (c : Int) + 1
    · have h2 : ¬ (((c + 1 : Nat) : Int) < stop) := by omega
      simp only [h1, if_true, h2, decide_false, Bool.false_eq_true, if_false]
    · have h2 : (((c + 1 : Nat) : Int) < stop) := by omega
      simp only [h1, if_false, h2, decide_true, if_true]
      cases l with
      | nil =>
        have h3 : ¬ stop ≤ (c : Int) + ((1 : Nat) : Int) := by omega
        simp only [List.length_singleton, h3, if_false, runS]
      | cons j l =>
        have := few_run stop (j :: l) (c + 1) (by simp at hc ⊢; omega) (by simp)
        refine Eq.trans this ?_
        simp only [List.length_cons]
        by_cases h4 : stop ≤ ((c + 1 : Nat) : Int) + 1
        · have h5 : stop = ((c + 1 + 1 : Nat) : Int) := by omega
          have h6 : stop ≤ (c : Int) + ((l.length + 1 + 1 : Nat) : Int) := by omega
          rw [if_pos h4, if_pos h6, ← h5]
        · by_cases h5 : stop ≤ ((c + 1 : Nat) : Int) + ((l.length + 1 : Nat) : Int)
          · have h6 : stop ≤ (c : Int) + ((l.length + 1 + 1 : Nat) : Int) := by omega
            simp only [h4, if_false, h5, if_true, h6]
          · have h6 : ¬ stop ≤ (c : Int) + ((l.length + 1 + 1 : Nat) : Int) := by omega
            simp only [h4, if_false, h5, h6]
            congr 2
            omega
end Go.Proofs.YtmnkalojpefclaaDoor
