import Derived.Test.YtmnkalojpefclaaDoorNS
set_option linter.unusedSimpArgs false
set_option linter.unusedVariables false
namespace Go.Proofs.YtmnkalojpefclaaDoor
open Go Go.AL Go.Proofs
theorem fits_func (kr : List Int) : fitsR [80, 42, 66] kr = true ↔ 0 < kr.length ∧ ∀ i (h : i < kr.length), isL kr[i] (if i + 1 = kr.length then 66 else 80) = true := by
  rcases List.eq_nil_or_concat kr with rfl | ⟨l, a, rfl⟩
  · simp [fitsR]
  · rw [List.concat_eq_append]
    have e1 : fitsR [80, 42, 66] (l ++ [a]) = (l.all (fun k => isL k 80) && isL a 66) := by
      have h1 : (l ++ [a]).take ((l ++ [a]).length - 1) = l := by simp
      have h2 : (l ++ [a]).drop ((l ++ [a]).length - 1) = [a] := by simp
      have h3 : fitsR [80, 42, 66] (l ++ [a]) = (((l ++ [a]).take ((l ++ [a]).length - 1)).all (fun k => isL k (bI 80)) && fitsR [66] ((l ++ [a]).drop ((l ++ [a]).length - 1))) := by simp [fitsR]
      rw [h3, h1, h2]
      have h4 : fitsR [66] [a] = isL a 66 := by simp [fitsR]; rfl
      rw [h4]
      rfl
    rw [e1, Bool.and_eq_true, List.all_eq_true]
    constructor
    · rintro ⟨h1, h2⟩
      refine ⟨by simp, fun i hi => ?_⟩
      by_cases hl : i < l.length
      · have h3 : ¬ i + 1 = (l ++ [a]).length := by simp; omega
        rw [if_neg h3, List.getElem_append_left hl]
        exact h1 _ (List.getElem_mem hl)
      · have h3 : i = l.length := by simp at hi; omega
        subst h3
        simpa using h2
    · rintro ⟨_, h⟩
      refine ⟨fun k hk => ?_, ?_⟩
      · obtain ⟨i, hi, rfl⟩ := List.getElem_of_mem hk
        have h3 := h i (by simp; omega)
        have h4 : ¬ i + 1 = (l ++ [a]).length := by simp; omega
        rwa [if_neg h4, List.getElem_append_left hi] at h3
      · have h3 := h l.length (by simp)
        simpa using h3
theorem kid_is {nodes : List Nd} {k w l : Int} (hk : KidOk nodes k) (hf : ∀ k, fitsL k w = isL k l) : (0 ≤ k ∧ fitsL (kindAt nodes k) w = true) ↔ isL (kindR nodes k) l = true := by
  rcases hk with rfl | ⟨h1, h2⟩
  · simp [kindR, is_zero]
  · have h4 : ¬ k < 0 := by omega
    simp [kindR, h4, h1, hf]
/-- Of a function likewise. -/
theorem func_plain {nodes : List Nd} {n : Nd} (h20 : n.kind = 20) (hk : ∀ k ∈ n.kids, KidOk nodes k) : kidsL nodes n = goodR nodes n := by
  have hp : patL n.kind n.text = [80, 42, 66] := by simp [h20, patL]
  have ho : othersR nodes n = 0 := by simp [othersR, h20]
  rw [Bool.eq_iff_iff]
  simp only [kidsL, h20, if_true, funcKidsL, goodR]
  rw [← h20, hp, ho]
  simp only [Bool.and_eq_true, decide_eq_true_eq, Bool.not_eq_true', Bool.or_eq_false_iff, Bool.and_eq_false_iff, Bool.not_eq_false', decide_eq_false_iff_not, fits_func, List.length_map]
  have hall : (∀ i (h : i < n.kids.length), 0 ≤ n.kids[i] ∧ fitsL (kindAt nodes n.kids[i]) (wantF n i) = true) ↔ ∀ i (h : i < (n.kids.map (kindR nodes)).length), isL (n.kids.map (kindR nodes))[i] (if i + 1 = n.kids.length then 66 else 80) = true := by
    constructor
    · intro h i hi
      have hi' : i < n.kids.length := by simpa using hi
      have h1 := h i hi'
      have hko := hk _ (List.getElem_mem hi')
      rw [List.getElem_map]
      unfold wantF at h1
      split at h1
      · rename_i e; rw [if_pos e]; exact (kid_is hko fit512).1 h1
      · rename_i e; rw [if_neg e]; exact (kid_is hko fit16).1 h1
    · intro h i hi
      have h1 := h i (by simpa using hi)
      have hko := hk _ (List.getElem_mem hi)
      rw [List.getElem_map] at h1
      unfold wantF
      split
      · rename_i e; rw [if_pos e] at h1; exact (kid_is hko fit512).2 h1
      · rename_i e; rw [if_neg e] at h1; exact (kid_is hko fit16).2 h1
  constructor
  · rintro ⟨⟨h1, h2⟩, h3⟩
    refine ⟨⟨⟨by omega, fun i hi => hall.1 h3 i (by simpa using hi)⟩, .inr (by omega), .inl (by omega)⟩, by omega⟩
  · rintro ⟨⟨⟨h1, h2⟩, h3, _⟩, _⟩
    refine ⟨⟨?_, ?_⟩, hall.2 fun i hi => h2 i (by simpa using hi)⟩
    · rcases h3 with h3 | h3
      · simp [h20] at h3
      · omega
    · rcases h3 with h3 | h3
      · simp [h20] at h3
      · omega
/-- dreyref09.Wrong, of one node by itself. -/
def formR (n : Nd) : Bool := decide (1 ≤ n.kind) && decide (n.kind ≤ 43) && decide (0 ≤ n.pos) && textR n.kind n.text (if n.kind = 20 then 0 else n.num)
theorem form_plain (n : Nd) : formL n = formR n := by
  have : (n.kind < 44) = (n.kind ≤ 43) := propext ⟨fun _ => by omega, fun _ => by omega⟩
  simp only [formL, formR, text_plain, this]
theorem kidLoop_in (i : Nat) : ∀ (ks : List Int) (o : List Bool) (d : List Int) (x : List Bool × List Int), kidLoop i ks o d = .inr x → ∀ k ∈ ks, -1 ≤ k ∧ k < (i : Int)
  | [], _, _, _, _, k, hk => by simp at hk
  | q :: ks, o, d, x, h, k, hk => by
    simp only [kidLoop] at h
    split at h
    · cases h
    · rename_i hq
      rcases List.mem_cons.1 hk with rfl | hk
      · omega
      · split at h
        · exact kidLoop_in i ks _ _ x h k hk
        · split at h
          · cases h
          · exact kidLoop_in i ks _ _ x h k hk
theorem run_plain (nodes : List Nd) : ∀ (ns : List Nd) (i : Nat) (o : List Bool) (d : List Int), nodes.drop i = ns → (∀ j (hj : j < nodes.length), j < i → 1 ≤ nodes[j].kind) → runG formL kidsL nodes ns i o d = runG formR goodR nodes ns i o d
  | [], _, _, _, _, _ => rfl
  | n :: ns, i, o, d, he, hpre => by
    have hlt : i < nodes.length := by
      by_cases h : i < nodes.length
      · exact h
      · rw [List.drop_eq_nil_of_le (by omega)] at he; cases he
    rw [List.drop_eq_getElem_cons hlt] at he
    injection he with he1 he2
    simp only [runG, form_plain]
    cases hf : formR n with
    | false => rfl
    | true =>
      simp only [Bool.true_eq_false, if_false]
      cases hkl : kidLoop i n.kids o d with
      | inl c => rfl
      | inr x =>
        obtain ⟨o', d'⟩ := x
        have hin := kidLoop_in i n.kids o d _ hkl
        have hko : ∀ k ∈ n.kids, KidOk nodes k := fun k hk => by
          have h1 := hin k hk
          by_cases h2 : k = -1
          · exact .inl h2
          · obtain ⟨m, hm⟩ := Int.eq_ofNat_of_zero_le (a := k) (by omega)
            have hml : m < nodes.length := by omega
            refine .inr ⟨by omega, ?_⟩
            rw [hm, kindAt_get hml]
            exact hpre m hml (by omega)
        have hf' := hf
        simp only [formR, Bool.and_eq_true, decide_eq_true_eq] at hf'
        have hg : kidsL nodes n = goodR nodes n := by
          by_cases h20 : n.kind = 20
          · exact func_plain h20 hko
          · exact kids_plain hf'.1.1.1 hf'.1.1.2 h20 hko
        simp only [hg]
        split
        · rfl
        · split
          · rfl
          · refine run_plain nodes ns (i + 1) o' d' he2 fun j hj hji => ?_
            by_cases e : j < i
            · exact hpre j hj e
            · have : j = i := by omega
              subst this
              rw [he1]; exact hf'.1.1.1
def wrongL (nodes : List Nd) : Int × Int := checkG formR goodR nodes
/-- What Check says of a tree is what the document says. -/
theorem check_plain (nodes : List Nd) : checkL nodes = wrongL nodes := by
  simp only [checkL, wrongL, checkG]
  split
  · rfl
  · exact run_plain nodes nodes 0 _ _ rfl (fun j _ hj => by omega)
end Go.Proofs.YtmnkalojpefclaaDoor
