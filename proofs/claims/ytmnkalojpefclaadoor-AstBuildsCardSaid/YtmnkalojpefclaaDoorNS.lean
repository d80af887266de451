import Derived.Test.YtmnkalojpefclaaDoorNQ
set_option linter.unusedSimpArgs false
set_option linter.unusedVariables false
namespace Go.Proofs.YtmnkalojpefclaaDoor
open Go Go.AL Go.Proofs
theorem match_all (l : Int) : ∀ ks : List Int, matchL (some l) [] ks = ks.all (fun k => isL k l)
  | [] => rfl
  | k :: ks => by simp [matchL, match_all l ks]
theorem match_none (ks : List Int) : matchL none [] ks = decide (ks = []) := by cases ks <;> simp [matchL]
theorem fits_star (c : UInt8) (ks : List Int) : fitsR [c, 42] ks = ks.all (fun k => isL k (bI c)) := by simp [fitsR]
theorem fp_E (ks : List Int) : fitsR [69] ks = matchL none [(69, false)] ks := by
  rcases ks with _ | ⟨a0, ks⟩ <;> first
    | (simp [fitsR, matchL, match_all, match_none]; done)
    | (simp [fitsR, matchL, match_all, match_none]; rfl)
theorem fp_EE (ks : List Int) : fitsR [69, 69] ks = matchL none [(69, false), (69, false)] ks := by
  rcases ks with _ | ⟨a0, _ | ⟨a1, ks⟩⟩ <;> first
    | (simp [fitsR, matchL, match_all, match_none]; done)
    | (simp [fitsR, matchL, match_all, match_none]; rfl)
theorem fp_EEE (ks : List Int) : fitsR [69, 69, 69] ks = matchL none [(69, false), (69, false), (69, false)] ks := by
  rcases ks with _ | ⟨a0, _ | ⟨a1, _ | ⟨a2, ks⟩⟩⟩ <;> first
    | (simp [fitsR, matchL, match_all, match_none]; done)
    | (simp [fitsR, matchL, match_all, match_none]; rfl)
theorem fp_TE (ks : List Int) : fitsR [84, 69] ks = matchL none [(84, false), (69, false)] ks := by
  rcases ks with _ | ⟨a0, _ | ⟨a1, ks⟩⟩ <;> first
    | (simp [fitsR, matchL, match_all, match_none]; done)
    | (simp [fitsR, matchL, match_all, match_none]; rfl)
theorem fp_T (ks : List Int) : fitsR [84] ks = matchL none [(84, false)] ks := by
  rcases ks with _ | ⟨a0, ks⟩ <;> first
    | (simp [fitsR, matchL, match_all, match_none]; done)
    | (simp [fitsR, matchL, match_all, match_none]; rfl)
theorem fp_EEs (ks : List Int) : fitsR [69, 69, 42] ks = matchL (some 69) [(69, false)] ks := by
  rcases ks with _ | ⟨a0, ks⟩ <;> first
    | (simp [fitsR, matchL, match_all, match_none]; done)
    | (simp [fitsR, matchL, match_all, match_none]; rfl)
theorem fp_Es (ks : List Int) : fitsR [69, 42] ks = matchL (some 69) [] ks := by
  simp [fitsR, match_all]; rfl
theorem fp_EoMs (ks : List Int) : fitsR [69, 63, 77, 42] ks = matchL (some 77) [(69, true)] ks := by
  rcases ks with _ | ⟨a0, ks⟩ <;> first
    | (simp [fitsR, matchL, match_all, match_none]; done)
    | (simp [fitsR, matchL, match_all, match_none]; rfl)
theorem fp_Eo (ks : List Int) : fitsR [69, 63] ks = matchL none [(69, true)] ks := by
  rcases ks with _ | ⟨a0, ks⟩ <;> first
    | (simp [fitsR, matchL, match_all, match_none]; done)
    | (simp [fitsR, matchL, match_all, match_none]; rfl)
theorem fp_EoSs (ks : List Int) : fitsR [69, 63, 83, 42] ks = matchL (some 83) [(69, true)] ks := by
  rcases ks with _ | ⟨a0, ks⟩ <;> first
    | (simp [fitsR, matchL, match_all, match_none]; done)
    | (simp [fitsR, matchL, match_all, match_none]; rfl)
theorem fp_Ss (ks : List Int) : fitsR [83, 42] ks = matchL (some 83) [] ks := by
  simp [fitsR, match_all]; rfl
theorem fp_EBXo (ks : List Int) : fitsR [69, 66, 88, 63] ks = matchL none [(69, false), (66, false), (88, true)] ks := by
  rcases ks with _ | ⟨a0, _ | ⟨a1, _ | ⟨a2, ks⟩⟩⟩ <;> first
    | (simp [fitsR, matchL, match_all, match_none]; done)
    | (simp [fitsR, matchL, match_all, match_none]; rfl)
theorem fp_EB (ks : List Int) : fitsR [69, 66] ks = matchL none [(69, false), (66, false)] ks := by
  rcases ks with _ | ⟨a0, _ | ⟨a1, ks⟩⟩ <;> first
    | (simp [fitsR, matchL, match_all, match_none]; done)
    | (simp [fitsR, matchL, match_all, match_none]; rfl)
theorem fp_BE (ks : List Int) : fitsR [66, 69] ks = matchL none [(66, false), (69, false)] ks := by
  rcases ks with _ | ⟨a0, _ | ⟨a1, ks⟩⟩ <;> first
    | (simp [fitsR, matchL, match_all, match_none]; done)
    | (simp [fitsR, matchL, match_all, match_none]; rfl)
theorem fp_FoEoEoB (ks : List Int) : fitsR [70, 63, 69, 63, 69, 63, 66] ks = matchL none [(70, true), (69, true), (69, true), (66, false)] ks := by
  rcases ks with _ | ⟨a0, _ | ⟨a1, _ | ⟨a2, _ | ⟨a3, ks⟩⟩⟩⟩ <;> first
    | (simp [fitsR, matchL, match_all, match_none]; done)
    | (simp [fitsR, matchL, match_all, match_none]; rfl)
theorem fp_ECs (ks : List Int) : fitsR [69, 67, 42] ks = matchL (some 67) [(69, false)] ks := by
  rcases ks with _ | ⟨a0, ks⟩ <;> first
    | (simp [fitsR, matchL, match_all, match_none]; done)
    | (simp [fitsR, matchL, match_all, match_none]; rfl)
theorem fp_BB (ks : List Int) : fitsR [66, 66] ks = matchL none [(66, false), (66, false)] ks := by
  rcases ks with _ | ⟨a0, _ | ⟨a1, ks⟩⟩ <;> first
    | (simp [fitsR, matchL, match_all, match_none]; done)
    | (simp [fitsR, matchL, match_all, match_none]; rfl)
theorem fp_L (ks : List Int) : fitsR [76] ks = matchL none [(76, false)] ks := by
  rcases ks with _ | ⟨a0, ks⟩ <;> first
    | (simp [fitsR, matchL, match_all, match_none]; done)
    | (simp [fitsR, matchL, match_all, match_none]; rfl)
theorem fp_Is (ks : List Int) : fitsR [73, 42] ks = matchL (some 73) [] ks := by
  simp [fitsR, match_all]; rfl
/-- What a kind's kids must be, the program's way and the document's. -/
structure Shape (k : Int) (text : List UInt8) : Prop where
  out : ∃ ps ro, Wants (shapeL k text).1 ps ∧ (((shapeL k text).2 = 0 ∧ ro = none) ∨ ∃ l, ro = some l ∧ ¬ (shapeL k text).2 = 0 ∧ Want (shapeL k text).2 (l, false)) ∧ (∀ ks, fitsR (patL k text) ks = matchL ro ps ks) ∧ (¬ k = 34 → (∀ p ∈ ps, ¬ p.1 = 67) ∧ ¬ ro = some 67)
theorem shape_of {k : Int} {text : List UInt8} {fs : List Int} {r : Int} {pat : List UInt8} (h1 : shapeL k text = (fs, r)) (h2 : patL k text = pat) (ps : List (Int × Bool)) (ro : Option Int) (w : Wants fs ps)
    (hr : (r = 0 ∧ ro = none) ∨ ∃ l, ro = some l ∧ ¬ r = 0 ∧ Want r (l, false)) (hf : ∀ ks, fitsR pat ks = matchL ro ps ks) (h34 : ¬ k = 34 → (∀ p ∈ ps, ¬ p.1 = 67) ∧ ¬ ro = some 67) : Shape k text :=
  ⟨ps, ro, by rw [h1]; exact w, by rw [h1]; exact hr, by rw [h2]; exact hf, h34⟩
theorem shape_leaf {k : Int} {text : List UInt8} (h1 : shapeL k text = ([], 0)) (h2 : patL k text = []) : Shape k text :=
  shape_of h1 h2 [] none .nil (.inl ⟨rfl, rfl⟩) (fun ks => by simp [fitsR, match_none]) (fun _ => ⟨by simp, by simp⟩)
theorem shape_all (k : Int) (text : List UInt8) (h1 : 1 ≤ k) (h2 : k ≤ 43) (h20 : ¬ k = 20) : Shape k text := by
  have hk : k = 1 ∨ k = 2 ∨ k = 3 ∨ k = 4 ∨ k = 5 ∨ k = 6 ∨ k = 7 ∨ k = 8 ∨ k = 9 ∨ k = 10 ∨ k = 11 ∨ k = 12 ∨ k = 13 ∨ k = 14 ∨ k = 15 ∨ k = 16 ∨ k = 17 ∨ k = 18 ∨ k = 19 ∨ k = 21 ∨ k = 22 ∨ k = 23 ∨ k = 24 ∨ k = 25 ∨ k = 26 ∨ k = 27 ∨ k = 28 ∨ k = 29 ∨ k = 30 ∨ k = 31 ∨ k = 32 ∨ k = 33 ∨ k = 34 ∨ k = 35 ∨ k = 36 ∨ k = 37 ∨ k = 38 ∨ k = 39 ∨ k = 40 ∨ k = 41 ∨ k = 42 ∨ k = 43 := by omega
  rcases hk with rfl | rfl | rfl | rfl | rfl | rfl | rfl | rfl | rfl | rfl | rfl | rfl | rfl | rfl | rfl | rfl | rfl | rfl | rfl | rfl | rfl | rfl | rfl | rfl | rfl | rfl | rfl | rfl | rfl | rfl | rfl | rfl | rfl | rfl | rfl | rfl | rfl | rfl | rfl | rfl | rfl | rfl
  · exact shape_leaf (by simp [shapeL]) (by simp [patL])
  · exact shape_leaf (by simp [shapeL]) (by simp [patL])
  · exact shape_leaf (by simp [shapeL]) (by simp [patL])
  · exact shape_leaf (by simp [shapeL]) (by simp [patL])
  · exact shape_leaf (by simp [shapeL]) (by simp [patL])
  · exact shape_leaf (by simp [shapeL]) (by simp [patL])
  · exact shape_leaf (by simp [shapeL]) (by simp [patL])
  · exact shape_leaf (by simp [shapeL]) (by simp [patL])
  · by_cases ht : text = [100, 101, 108, 101, 116, 101]
    · exact shape_of (by simp [shapeL, ht]) (by simp [patL, ht]) [(84, false)] none (.cons w4 .nil) (.inl ⟨rfl, rfl⟩) fp_T (fun _ => by decide)
    · exact shape_of (by simp [shapeL, ht]) (by simp [patL, ht]) [(69, false)] none (.cons w1 .nil) (.inl ⟨rfl, rfl⟩) fp_E (fun _ => by decide)
  · exact shape_of (by simp [shapeL]) (by simp [patL]) [(69, false), (69, false)] none (.cons w1 (.cons w1 .nil)) (.inl ⟨rfl, rfl⟩) fp_EE (fun _ => by decide)
  · exact shape_of (by simp [shapeL]) (by simp [patL]) [(69, false), (69, false), (69, false)] none (.cons w1 (.cons w1 (.cons w1 .nil))) (.inl ⟨rfl, rfl⟩) fp_EEE (fun _ => by decide)
  · exact shape_of (by simp [shapeL]) (by simp [patL]) [(84, false), (69, false)] none (.cons w4 (.cons w1 .nil)) (.inl ⟨rfl, rfl⟩) fp_TE (fun _ => by decide)
  · exact shape_of (by simp [shapeL]) (by simp [patL]) [(84, false)] none (.cons w4 .nil) (.inl ⟨rfl, rfl⟩) fp_T (fun _ => by decide)
  · exact shape_of (by simp [shapeL]) (by simp [patL]) [(69, false), (69, false)] none (.cons w1 (.cons w1 .nil)) (.inl ⟨rfl, rfl⟩) fp_EE (fun _ => by decide)
  · exact shape_of (by simp [shapeL]) (by simp [patL]) [(69, false)] none (.cons w1 .nil) (.inl ⟨rfl, rfl⟩) fp_E (fun _ => by decide)
  · exact shape_leaf (by simp [shapeL]) (by simp [patL])
  · exact shape_of (by simp [shapeL]) (by simp [patL]) [(69, false)] (some 69) (.cons w1 .nil) (.inr ⟨_, rfl, by decide, w1⟩) fp_EEs (fun _ => by decide)
  · exact shape_of (by simp [shapeL]) (by simp [patL]) [] (some 69) .nil (.inr ⟨_, rfl, by decide, w1⟩) fp_Es (fun _ => by decide)
  · exact shape_of (by simp [shapeL]) (by simp [patL]) [] (some 69) .nil (.inr ⟨_, rfl, by decide, w1⟩) fp_Es (fun _ => by decide)
  · exact shape_of (by simp [shapeL]) (by simp [patL]) [(69, true)] (some 77) (.cons w4097 .nil) (.inr ⟨_, rfl, by decide, w32⟩) fp_EoMs (fun _ => by decide)
  · exact shape_of (by simp [shapeL]) (by simp [patL]) [(69, true)] none (.cons w4097 .nil) (.inl ⟨rfl, rfl⟩) fp_Eo (fun _ => by decide)
  · exact shape_of (by simp [shapeL]) (by simp [patL]) [(69, false), (69, false)] none (.cons w1 (.cons w1 .nil)) (.inl ⟨rfl, rfl⟩) fp_EE (fun _ => by decide)
  · exact shape_of (by simp [shapeL]) (by simp [patL]) [(69, true)] (some 83) (.cons w4097 .nil) (.inr ⟨_, rfl, by decide, w2⟩) fp_EoSs (fun _ => by decide)
  · exact shape_leaf (by simp [shapeL]) (by simp [patL])
  · exact shape_of (by simp [shapeL]) (by simp [patL]) [] (some 83) .nil (.inr ⟨_, rfl, by decide, w2⟩) fp_Ss (fun _ => by decide)
  · exact shape_of (by simp [shapeL]) (by simp [patL]) [(69, true)] none (.cons w4097 .nil) (.inl ⟨rfl, rfl⟩) fp_Eo (fun _ => by decide)
  · exact shape_of (by simp [shapeL]) (by simp [patL]) [(69, false)] none (.cons w1 .nil) (.inl ⟨rfl, rfl⟩) fp_E (fun _ => by decide)
  · exact shape_of (by simp [shapeL]) (by simp [patL]) [(69, false), (66, false), (88, true)] none (.cons w1 (.cons w512 (.cons w5120 .nil))) (.inl ⟨rfl, rfl⟩) fp_EBXo (fun _ => by decide)
  · exact shape_of (by simp [shapeL]) (by simp [patL]) [(69, false), (66, false)] none (.cons w1 (.cons w512 .nil)) (.inl ⟨rfl, rfl⟩) fp_EB (fun _ => by decide)
  · exact shape_of (by simp [shapeL]) (by simp [patL]) [(66, false), (69, false)] none (.cons w512 (.cons w1 .nil)) (.inl ⟨rfl, rfl⟩) fp_BE (fun _ => by decide)
  · exact shape_of (by simp [shapeL]) (by simp [patL]) [(70, true), (69, true), (69, true), (66, false)] none (.cons w6144 (.cons w4097 (.cons w4097 (.cons w512 .nil)))) (.inl ⟨rfl, rfl⟩) fp_FoEoEoB (fun _ => by decide)
  · exact shape_of (by simp [shapeL]) (by simp [patL]) [(69, false), (66, false)] none (.cons w1 (.cons w512 .nil)) (.inl ⟨rfl, rfl⟩) fp_EB (fun _ => by decide)
  · exact shape_of (by simp [shapeL]) (by simp [patL]) [(69, false)] (some 67) (.cons w1 .nil) (.inr ⟨_, rfl, by decide, w64'⟩) fp_ECs (fun h => absurd rfl h)
  · exact shape_leaf (by simp [shapeL]) (by simp [patL])
  · exact shape_leaf (by simp [shapeL]) (by simp [patL])
  · exact shape_of (by simp [shapeL]) (by simp [patL]) [(69, true)] none (.cons w4097 .nil) (.inl ⟨rfl, rfl⟩) fp_Eo (fun _ => by decide)
  · exact shape_of (by simp [shapeL]) (by simp [patL]) [(69, true)] none (.cons w4097 .nil) (.inl ⟨rfl, rfl⟩) fp_Eo (fun _ => by decide)
  · exact shape_of (by simp [shapeL]) (by simp [patL]) [(69, false)] none (.cons w1 .nil) (.inl ⟨rfl, rfl⟩) fp_E (fun _ => by decide)
  · exact shape_of (by simp [shapeL]) (by simp [patL]) [(66, false), (66, false)] none (.cons w512 (.cons w512 .nil)) (.inl ⟨rfl, rfl⟩) fp_BB (fun _ => by decide)
  · exact shape_of (by simp [shapeL]) (by simp [patL]) [(76, false)] none (.cons w8 .nil) (.inl ⟨rfl, rfl⟩) fp_L (fun _ => by decide)
  · exact shape_of (by simp [shapeL]) (by simp [patL]) [] (some 73) .nil (.inr ⟨_, rfl, by decide, w128⟩) fp_Is (fun _ => by decide)
  · exact shape_leaf (by simp [shapeL]) (by simp [patL])

/-- dreyref09.Wrong, of one node's kids. -/
def othersR (nodes : List Nd) (n : Nd) : Nat := if n.kind = 34 then n.kids.countP (isDefault nodes) else 0
def goodR (nodes : List Nd) (n : Nd) : Bool :=
  fitsR (patL n.kind n.text) (n.kids.map (kindR nodes)) && !((decide (n.kind = 20) && !decide (n.num = (n.kids.length : Int) - 1)) || (decide (n.kind = 19) && decide (n.kids.length % 2 = 1))) && decide (othersR nodes n ≤ 1)
theorem is24 {l : Int} (h : isL 24 l = true) : l = 67 := by
  unfold isL at h
  repeat' split at h
  all_goals first
    | (simp at h; done)
    | assumption
theorem match_no24 {ro : Option Int} (hr : ¬ ro = some 67) : ∀ (ps : List (Int × Bool)), (∀ p ∈ ps, ¬ p.1 = 67) → ∀ ks : List Int, matchL ro ps ks = true → ∀ k ∈ ks, ¬ k = 24
  | _, _, [], _, k, hk => by simp at hk
  | [], _, q :: ks, h, k, hk => by
    cases ro with
    | none => simp [matchL] at h
    | some l =>
      simp only [matchL, Bool.and_eq_true] at h
      rcases List.mem_cons.1 hk with rfl | hk
      · intro e
        subst e
        exact hr (by rw [is24 h.1])
      · exact match_no24 hr [] (by simp) ks h.2 k hk
  | (l, b) :: ps, hp, q :: ks, h, k, hk => by
    simp only [matchL, Bool.and_eq_true] at h
    have hl : ¬ l = 67 := hp (l, b) (by simp)
    rcases List.mem_cons.1 hk with rfl | hk
    · intro e
      subst e
      cases b with
      | true =>
        have := h.1
        simp at this
        exact hl (is24 this)
      | false =>
        have := h.1
        simp at this
        exact hl (is24 this)
    · exact match_no24 hr ps (fun p hpm => hp p (by simp [hpm])) ks h.2 k hk
theorem default_kind {nodes : List Nd} {k : Int} (h : isDefault nodes k = true) : kindR nodes k = 24 := by
  simp only [isDefault, Bool.and_eq_true, decide_eq_true_eq] at h
  have : ¬ k < 0 := by omega
  simp [kindR, this, h.1.2]
/-- Of a node that is no function: the program's word on its kids is the document's. -/
theorem kids_plain {nodes : List Nd} {n : Nd} (h1 : 1 ≤ n.kind) (h2 : n.kind ≤ 43) (h20 : ¬ n.kind = 20) (hk : ∀ k ∈ n.kids, KidOk nodes k) : kidsL nodes n = goodR nodes n := by
  obtain ⟨ps, ro, hw, hr, hf, h34⟩ := (shape_all n.kind n.text h1 h2 h20).out
  have e1 := fineAll_spec nodes (shapeL n.kind n.text).2 (shapeL n.kind n.text).1 n.kids
  have e2 := fine_match (nodes := nodes) hr _ _ hw n.kids hk
  have e3 := hf (n.kids.map (kindR nodes))
  have e4 : kidsL nodes n = (matchL ro ps (n.kids.map (kindR nodes)) && !(decide (n.kind = 19) && decide (n.kids.length % 2 = 1)) && decide (n.kids.countP (isDefault nodes) ≤ 1)) := by
    rw [← e2, ← e1]
    have h19 : (decide (n.kind = 19) && decide (¬ n.kids.length % 2 = 0)) = (decide (n.kind = 19) && decide (n.kids.length % 2 = 1)) := by
      congr 1
      rw [decide_eq_decide]
      omega
    simp only [kidsL, h20, if_false, h19]
    unfold wantAt
    generalize decide (n.kids.length < (shapeL n.kind n.text).1.length) = a
    generalize (decide ((shapeL n.kind n.text).2 = 0) && decide ((shapeL n.kind n.text).1.length < n.kids.length)) = b
    generalize (decide (n.kind = 19) && decide (n.kids.length % 2 = 1)) = c
    generalize decide (n.kids.countP (isDefault nodes) ≤ 1) = d
    generalize hg : decide (∀ (i : Nat) (h : i < n.kids.length), kidFine nodes n.kids[i] ((shapeL n.kind n.text).1.getD i (shapeL n.kind n.text).2) = true) = e
    cases a <;> cases b <;> cases c <;> cases d <;> cases e <;> rfl
  have e5 : goodR nodes n = (matchL ro ps (n.kids.map (kindR nodes)) && !(decide (n.kind = 19) && decide (n.kids.length % 2 = 1)) && decide (othersR nodes n ≤ 1)) := by
    simp only [goodR, e3, h20, decide_false, Bool.false_and, Bool.false_or]
  rw [e4, e5]
  by_cases hk34 : n.kind = 34
  · simp [othersR, hk34]
  · cases hm : matchL ro ps (n.kids.map (kindR nodes)) with
    | false => rfl
    | true =>
      have hno := match_no24 (h34 hk34).2 ps (h34 hk34).1 _ hm
      have hz : n.kids.countP (isDefault nodes) = 0 := by
        rw [List.countP_eq_zero]
        intro k hkm hd
        exact hno (kindR nodes k) (List.mem_map.2 ⟨k, hkm, rfl⟩) (default_kind hd)
      simp [othersR, hk34, hz]
end Go.Proofs.YtmnkalojpefclaaDoor
