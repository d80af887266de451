import Derived.Test.YtmnkalojpefclaaDoorK
set_option linter.unusedSimpArgs false
set_option linter.unusedVariables false
namespace Go.Proofs.YtmnkalojpefclaaDoor
open Go Go.AL Go.Proofs
def wantAt (n : Nd) (i : Nat) : Int := (shapeL n.kind n.text).1.getD i (shapeL n.kind n.text).2
def firstKid (nodes : List Nd) (k : Int) : Int := ((nodes[k.toNat]?).map fun n => n.kids.headD 0).getD 0
def isDefault (nodes : List Nd) (k : Int) : Bool := decide (0 ≤ k) && decide (kindAt nodes k = 24) && decide (firstKid nodes k = -1)
def kidsL (nodes : List Nd) (n : Nd) : Bool :=
  if n.kind = 20 then funcKidsL nodes n
  else !(decide (n.kids.length < (shapeL n.kind n.text).1.length) || (decide ((shapeL n.kind n.text).2 = 0) && decide ((shapeL n.kind n.text).1.length < n.kids.length)) || (decide (n.kind = 19) && decide (¬ n.kids.length % 2 = 0))) &&
    decide (∀ i (h : i < n.kids.length), kidFine nodes n.kids[i] (wantAt n i) = true) && decide (n.kids.countP (isDefault nodes) ≤ 1)
theorem kids_bad {nodes : List Nd} {n : Nd} {i : Nat} (h20 : ¬ n.kind = 20) (h : i < n.kids.length) (hb : kidFine nodes n.kids[i] (wantAt n i) = false) : kidsL nodes n = false := by
  simp only [kidsL, h20, if_false, Bool.and_eq_false_iff, decide_eq_false_iff_not]
  exact .inl (.inr fun h' => by rw [h' i h] at hb; cases hb)
theorem firstKid_get {nodes : List Nd} {k : Nat} (h : k < nodes.length) : firstKid nodes (k : Int) = nodes[k].kids.headD 0 := by simp [firstKid, h]
theorem countP_take_succ {p : Int → Bool} {l : List Int} {i : Nat} (h : i < l.length) : (l.take (i + 1)).countP p = (l.take i).countP p + if p l[i] = true then 1 else 0 := by
  rw [List.take_add_one, List.getElem?_eq_getElem h]
  simp only [Option.toList_some, List.countP_append, List.countP_cons, List.countP_nil, Nat.zero_add]
set_option maxRecDepth 100000 in
set_option maxHeartbeats 8000000 in
theorem kids_c (nodes : List Nd) (n : Nd) (t : Tok) (hl : nodes.length ≤ 131072) (hkl : n.kids.length ≤ 281474976710656) (hn : n.num ≤ 9223372036854775807) (hk : ∀ k ∈ n.kids, -1 ≤ k ∧ k < nodes.length)
    (hc : ∀ m (hm : m < nodes.length), (m : Int) ∈ n.kids → nodes[m].kind = 24 → nodes[m].kids ≠ []) (h : Heap) (R : AV → Heap → Prop)
    (hR : R (.bool (kidsL nodes n)) h) : ACalls Tryd.prog 34 [treeAV nodes t, .agg (row n)] h R := by
  refine ACalls.pure ?_ hR
  clear hR
  have hmod : (n.kids.length : Int).tmod 2 = ((n.kids.length % 2 : Nat) : Int) := rfl
  cases h20' : decide (n.kind = 20)
  rotate_left
  · refine acalls_of Tryd.func34 rfl Tryd.ntmps34 (congrArg Array.toList Tryd.results34) fun Q hQ => ?_
    repeat' (first | refine Keep.go (by assumption) ?_ | refine awp_seq_k fun K hK => ?_ | (refine awp_region ?_; try simp [Heap.set_get, *]) | refine awp_block ?_ | (refine awp_ret ?_; try simp) | (refine awp_skip ?_; try simp) | (refine awp_exit ?_; try simp) | (refine KeepQ.go (by assumption) ?_; try simp [Heap.set_get, *]) | (refine awp_cond' ?_; try simp [Heap.set_get, *]) | refine And.intro (by omega) ?_ | refine And.intro (by assumption) ?_ | refine and_lf (by omega) ?_ | refine and_rf ?_ (by omega) | refine and_imps (fun _ => ?_) (fun _ => ?_) | refine arounds_k fun K hK => ?_ | refine Or.inl ⟨by omega, ?_⟩ | refine Or.inr ⟨by omega, ?_⟩ | refine or_split (fun _ => ?_) (fun _ => ?_) | exact Sub.refl _ | refine imp_in fun _ => ?_ | refine and_ri ?_ (fun _ => ?_) | refine and_li (fun _ => ?_) ?_ | (refine And.intro ?_ ?_; focus (intros; simp [*]; done)) | fail)
    intro b1 hb1; simp only [Fresh, Heap.set_none] at hb1; try simp [Heap.set_get, *]
    intro b2 hb2; simp only [Fresh, Heap.set_none] at hb2; try simp [Heap.set_get, *]
    repeat' (first | refine Keep.go (by assumption) ?_ | refine awp_seq_k fun K hK => ?_ | (refine awp_region ?_; try simp [Heap.set_get, *]) | refine awp_block ?_ | (refine awp_ret ?_; try simp) | (refine awp_skip ?_; try simp) | (refine awp_exit ?_; try simp) | (refine KeepQ.go (by assumption) ?_; try simp [Heap.set_get, *]) | (refine awp_cond' ?_; try simp [Heap.set_get, *]) | refine And.intro (by omega) ?_ | refine And.intro (by assumption) ?_ | refine and_lf (by omega) ?_ | refine and_rf ?_ (by omega) | refine and_imps (fun _ => ?_) (fun _ => ?_) | refine arounds_k fun K hK => ?_ | refine Or.inl ⟨by omega, ?_⟩ | refine Or.inr ⟨by omega, ?_⟩ | refine or_split (fun _ => ?_) (fun _ => ?_) | exact Sub.refl _ | refine imp_in fun _ => ?_ | refine and_ri ?_ (fun _ => ?_) | refine and_li (fun _ => ?_) ?_ | (refine And.intro ?_ ?_; focus (intros; simp [*]; done)) | fail)
    refine shape_c n .no _ _ (fun tok => ?_)
    simp [Heap.set_get, *]
    repeat' (first | refine Keep.go (by assumption) ?_ | refine awp_seq_k fun K hK => ?_ | (refine awp_region ?_; try simp [Heap.set_get, *]) | refine awp_block ?_ | (refine awp_ret ?_; try simp) | (refine awp_skip ?_; try simp) | (refine awp_exit ?_; try simp) | (refine KeepQ.go (by assumption) ?_; try simp [Heap.set_get, *]) | (refine awp_cond' ?_; try simp [Heap.set_get, *]) | refine And.intro (by omega) ?_ | refine And.intro (by assumption) ?_ | refine and_lf (by omega) ?_ | refine and_rf ?_ (by omega) | refine and_imps (fun _ => ?_) (fun _ => ?_) | refine arounds_k fun K hK => ?_ | refine Or.inl ⟨by omega, ?_⟩ | refine Or.inr ⟨by omega, ?_⟩ | refine or_split (fun _ => ?_) (fun _ => ?_) | exact Sub.refl _ | refine imp_in fun _ => ?_ | refine and_ri ?_ (fun _ => ?_) | refine and_li (fun _ => ?_) ?_ | (refine And.intro ?_ ?_; focus (intros; simp [*]; done)) | fail)
    refine funcKids_c nodes n t hl hkl hn hk _ _ ?_
    simp [Heap.set_get, *]
    repeat' (first | refine Keep.go (by assumption) ?_ | refine awp_seq_k fun K hK => ?_ | (refine awp_region ?_; try simp [Heap.set_get, *]) | refine awp_block ?_ | (refine awp_ret ?_; try simp) | (refine awp_skip ?_; try simp) | (refine awp_exit ?_; try simp) | (refine KeepQ.go (by assumption) ?_; try simp [Heap.set_get, *]) | (refine awp_cond' ?_; try simp [Heap.set_get, *]) | refine And.intro (by omega) ?_ | refine And.intro (by assumption) ?_ | refine and_lf (by omega) ?_ | refine and_rf ?_ (by omega) | refine and_imps (fun _ => ?_) (fun _ => ?_) | refine arounds_k fun K hK => ?_ | refine Or.inl ⟨by omega, ?_⟩ | refine Or.inr ⟨by omega, ?_⟩ | refine or_split (fun _ => ?_) (fun _ => ?_) | exact Sub.refl _ | refine imp_in fun _ => ?_ | refine and_ri ?_ (fun _ => ?_) | refine and_li (fun _ => ?_) ?_ | (refine And.intro ?_ ?_; focus (intros; simp [*]; done)) | fail)
    have h20 : n.kind = 20 := by simpa using h20'
    exact ⟨by simp [kidsL, h20], ((Sub.refl h).loc hb1 _).loc (by simp [*]) _⟩
  have h20 : ¬ n.kind = 20 := by simpa using h20'
  clear h20'
  obtain ⟨fs, hfs⟩ : ∃ fs, (shapeL n.kind n.text).1 = fs := ⟨_, rfl⟩
  obtain ⟨r, hr⟩ : ∃ r, (shapeL n.kind n.text).2 = r := ⟨_, rfl⟩
  refine acalls_of Tryd.func34 rfl Tryd.ntmps34 (congrArg Array.toList Tryd.results34) fun Q hQ => ?_
  repeat' (first | refine Keep.go (by assumption) ?_ | refine awp_seq_k fun K hK => ?_ | (refine awp_region ?_; try simp [Heap.set_get, *]) | refine awp_block ?_ | (refine awp_ret ?_; try simp) | (refine awp_skip ?_; try simp) | (refine awp_exit ?_; try simp) | (refine KeepQ.go (by assumption) ?_; try simp [Heap.set_get, *]) | (refine awp_cond' ?_; try simp [Heap.set_get, *]) | refine And.intro (by omega) ?_ | refine And.intro (by assumption) ?_ | refine and_lf (by omega) ?_ | refine and_rf ?_ (by omega) | refine and_imps (fun _ => ?_) (fun _ => ?_) | refine arounds_k fun K hK => ?_ | refine Or.inl ⟨by omega, ?_⟩ | refine Or.inr ⟨by omega, ?_⟩ | refine or_split (fun _ => ?_) (fun _ => ?_) | exact Sub.refl _ | refine imp_in fun _ => ?_ | refine and_ri ?_ (fun _ => ?_) | refine and_li (fun _ => ?_) ?_ | (refine And.intro ?_ ?_; focus (intros; simp [*]; done)) | fail)
  intro b1 hb1; simp only [Fresh, Heap.set_none] at hb1; try simp [Heap.set_get, *]
  intro b2 hb2; simp only [Fresh, Heap.set_none] at hb2; try simp [Heap.set_get, *]
  repeat' (first | refine Keep.go (by assumption) ?_ | refine awp_seq_k fun K hK => ?_ | (refine awp_region ?_; try simp [Heap.set_get, *]) | refine awp_block ?_ | (refine awp_ret ?_; try simp) | (refine awp_skip ?_; try simp) | (refine awp_exit ?_; try simp) | (refine KeepQ.go (by assumption) ?_; try simp [Heap.set_get, *]) | (refine awp_cond' ?_; try simp [Heap.set_get, *]) | refine And.intro (by omega) ?_ | refine And.intro (by assumption) ?_ | refine and_lf (by omega) ?_ | refine and_rf ?_ (by omega) | refine and_imps (fun _ => ?_) (fun _ => ?_) | refine arounds_k fun K hK => ?_ | refine Or.inl ⟨by omega, ?_⟩ | refine Or.inr ⟨by omega, ?_⟩ | refine or_split (fun _ => ?_) (fun _ => ?_) | exact Sub.refl _ | refine imp_in fun _ => ?_ | refine and_ri ?_ (fun _ => ?_) | refine and_li (fun _ => ?_) ?_ | (refine And.intro ?_ ?_; focus (intros; simp [*]; done)) | fail)
  refine shape_c n .no _ _ (fun tok => ?_)
  simp [Heap.set_get, *]
  repeat' (first | refine Keep.go (by assumption) ?_ | refine awp_seq_k fun K hK => ?_ | (refine awp_region ?_; try simp [Heap.set_get, *]) | refine awp_block ?_ | (refine awp_ret ?_; try simp) | (refine awp_skip ?_; try simp) | (refine awp_exit ?_; try simp) | (refine KeepQ.go (by assumption) ?_; try simp [Heap.set_get, *]) | (refine awp_cond' ?_; try simp [Heap.set_get, *]) | refine And.intro (by omega) ?_ | refine And.intro (by assumption) ?_ | refine and_lf (by omega) ?_ | refine and_rf ?_ (by omega) | refine and_imps (fun _ => ?_) (fun _ => ?_) | refine arounds_k fun K hK => ?_ | refine Or.inl ⟨by omega, ?_⟩ | refine Or.inr ⟨by omega, ?_⟩ | refine or_split (fun _ => ?_) (fun _ => ?_) | exact Sub.refl _ | refine imp_in fun _ => ?_ | refine and_ri ?_ (fun _ => ?_) | refine and_li (fun _ => ?_) ?_ | (refine And.intro ?_ ?_; focus (intros; simp [*]; done)) | fail)
  · refine ⟨?_, ((Sub.refl h).loc hb1 _).loc (by simp [*]) _⟩
    simp only [kidsL, h20, if_false, hfs, hr, Bool.and_eq_false_iff, Bool.not_eq_false', Bool.or_eq_true, decide_eq_true_eq, Bool.and_eq_true]
    refine .inl (.inl ?_)
    omega
  have hsub : AL.Sub h ((h.set b1 (.cells [AV.list 5 (List.map row nodes) t])).set b2 (.cells (row n))) := ((Sub.refl h).loc hb1 _).loc (by simp [*]) _
  refine awp_loop_h [4, 7, 8, 9, 10, 11, 56, 57, 58, 59, 60, 61, 62, 63, 64, 65, 66, 67, 68, 69, 70, 71, 72, 73, 74, 75, 76, 77, 78, 79, 80, 81, 82, 83, 84, 85, 86, 87, 88, 89, 90, 91, 92, 93, 94, 95, 96, 97, 98, 99, 100, 101, 102, 103, 104, 105, 106, 107] (fun m x g => ∃ i : Nat, i ≤ n.kids.length ∧ m = n.kids.length - i ∧ x 56 = .int .i64 i ∧ x 7 = .int .i64 ((n.kids.take i).countP (isDefault nodes) : Nat) ∧ (∀ j (hj : j < n.kids.length), j < i → kidFine nodes n.kids[j] (wantAt n j) = true) ∧
    g = (h.set b1 (.cells [AV.list 5 (List.map row nodes) t])).set b2 (.cells (row n))) n.kids.length ⟨0, by omega, by omega, rfl, by simp, by simp, rfl⟩ (fun m x g hI K hK => ?_)
  obtain ⟨i, hi, rfl, hx, hx7, hn, rfl⟩ := hI
  have w3 : IntKind.i64.wrap ((i : Int) + 1) = i + 1 := w64 (by omega) (by omega)
  obtain ⟨c, hcc⟩ : ∃ c, (n.kids.take i).countP (isDefault nodes) = c := ⟨_, rfl⟩
  have hcl : c ≤ i := by rw [← hcc]; exact Nat.le_trans (List.countP_le_length) (by simp; omega)
  have w4 : IntKind.i64.wrap ((c : Int) + 1) = c + 1 := w64 (by omega) (by omega)
  rw [hcc] at hx7
  by_cases hlt : i < n.kids.length
  · obtain ⟨w, hw⟩ : ∃ w, wantAt n i = w := ⟨_, rfl⟩
    have hkm := hk n.kids[i] (List.getElem_mem hlt)
    have hmem := List.getElem_mem hlt
    have hgo : kidFine nodes n.kids[i] w = true → ∀ j (hj : j < n.kids.length), j < i + 1 → kidFine nodes n.kids[j] (wantAt n j) = true := by
      intro hf j hj hji
      by_cases e : j < i
      · exact hn j hj e
      · have : j = i := by omega
        subst this
        rw [hw]; exact hf
    have hct : (n.kids.take (i + 1)).countP (isDefault nodes) = c + if isDefault nodes n.kids[i] = true then 1 else 0 := by rw [countP_take_succ hlt, hcc]
    obtain ⟨k, hkk⟩ : ∃ k, n.kids[i] = k := ⟨_, rfl⟩
    have hstop : kidFine nodes k w = false → kidsL nodes n = false := fun hf => kids_bad h20 hlt (by rw [hw, hkk]; exact hf)
    rw [hkk] at hkm hgo hct hmem
    have hwant : (∃ hh : i < fs.length, fs[i] = w) ∨ (fs.length ≤ i ∧ r = w) := by
      unfold wantAt at hw
      rw [hfs, hr] at hw
      by_cases e : i < fs.length
      · exact .inl ⟨e, by simpa [List.getD, e] using hw⟩
      · exact .inr ⟨by omega, by simpa [List.getD, List.getElem?_eq_none (Nat.le_of_not_lt e)] using hw⟩
    have hk0 : k = -1 ∨ ∃ m, k = (m : Nat) ∧ ∃ hm : m < nodes.length, nodes[m].kind = nodes[m].kind := by
      by_cases e : k = -1
      · exact .inl e
      · obtain ⟨m, hm⟩ := Int.eq_ofNat_of_zero_le (a := k) (by omega)
        exact .inr ⟨m, hm, by omega, rfl⟩
    rcases hk0 with hk1 | ⟨m, hm, hml, -⟩
    · by_cases hb : bitAnd .i64 w 4096 = 0
      · have hs := hstop (by simp [kidFine, hk1, hb])
        rcases hwant with ⟨e1, e2⟩ | ⟨e1, rfl⟩
        · simp (maxSteps := 10000000) only [AgainAt, hav, List.contains_cons, List.contains_nil, Bool.or_false, Nat.reduceAdd, Nat.reduceBEq, Bool.or_true, Bool.true_or, Bool.false_or, if_true, if_false, Bool.false_eq_true]
          repeat' (first | refine Keep.go (by assumption) ?_ | refine awp_seq_k fun K hK => ?_ | (refine awp_region ?_; try simp [Heap.set_get, *]) | refine awp_block ?_ | (refine awp_ret ?_; try simp) | (refine awp_skip ?_; try simp) | (refine awp_exit ?_; try simp) | (refine KeepQ.go (by assumption) ?_; try simp [Heap.set_get, *]) | (refine awp_cond' ?_; try simp [Heap.set_get, *]) | refine And.intro (by omega) ?_ | refine And.intro (by assumption) ?_ | refine and_lf (by omega) ?_ | refine and_rf ?_ (by omega) | refine and_imps (fun _ => ?_) (fun _ => ?_) | refine arounds_k fun K hK => ?_ | refine Or.inl ⟨by omega, ?_⟩ | refine Or.inr ⟨by omega, ?_⟩ | refine or_split (fun _ => ?_) (fun _ => ?_) | exact Sub.refl _ | refine imp_in fun _ => ?_ | refine and_ri ?_ (fun _ => ?_) | refine and_li (fun _ => ?_) ?_ | (refine And.intro ?_ ?_; focus (intros; simp [*]; done)) | fail)
        · simp (maxSteps := 10000000) only [AgainAt, hav, List.contains_cons, List.contains_nil, Bool.or_false, Nat.reduceAdd, Nat.reduceBEq, Bool.or_true, Bool.true_or, Bool.false_or, if_true, if_false, Bool.false_eq_true]
          repeat' (first | refine Keep.go (by assumption) ?_ | refine awp_seq_k fun K hK => ?_ | (refine awp_region ?_; try simp [Heap.set_get, *]) | refine awp_block ?_ | (refine awp_ret ?_; try simp) | (refine awp_skip ?_; try simp) | (refine awp_exit ?_; try simp) | (refine KeepQ.go (by assumption) ?_; try simp [Heap.set_get, *]) | (refine awp_cond' ?_; try simp [Heap.set_get, *]) | refine And.intro (by omega) ?_ | refine And.intro (by assumption) ?_ | refine and_lf (by omega) ?_ | refine and_rf ?_ (by omega) | refine and_imps (fun _ => ?_) (fun _ => ?_) | refine arounds_k fun K hK => ?_ | refine Or.inl ⟨by omega, ?_⟩ | refine Or.inr ⟨by omega, ?_⟩ | refine or_split (fun _ => ?_) (fun _ => ?_) | exact Sub.refl _ | refine imp_in fun _ => ?_ | refine and_ri ?_ (fun _ => ?_) | refine and_li (fun _ => ?_) ?_ | (refine And.intro ?_ ?_; focus (intros; simp [*]; done)) | fail)
      · have hg := hgo (by simp [kidFine, hk1, hb])
        have hct' : (n.kids.take (i + 1)).countP (isDefault nodes) = c := by rw [hct, hk1]; simp [isDefault]
        rcases hwant with ⟨e1, e2⟩ | ⟨e1, rfl⟩
        · simp (maxSteps := 10000000) only [AgainAt, hav, List.contains_cons, List.contains_nil, Bool.or_false, Nat.reduceAdd, Nat.reduceBEq, Bool.or_true, Bool.true_or, Bool.false_or, if_true, if_false, Bool.false_eq_true]
          repeat' (first | refine Keep.go (by assumption) ?_ | refine awp_seq_k fun K hK => ?_ | (refine awp_region ?_; try simp [Heap.set_get, *]) | refine awp_block ?_ | (refine awp_ret ?_; try simp) | (refine awp_skip ?_; try simp) | (refine awp_exit ?_; try simp) | (refine KeepQ.go (by assumption) ?_; try simp [Heap.set_get, *]) | (refine awp_cond' ?_; try simp [Heap.set_get, *]) | refine And.intro (by omega) ?_ | refine And.intro (by assumption) ?_ | refine and_lf (by omega) ?_ | refine and_rf ?_ (by omega) | refine and_imps (fun _ => ?_) (fun _ => ?_) | refine arounds_k fun K hK => ?_ | refine Or.inl ⟨by omega, ?_⟩ | refine Or.inr ⟨by omega, ?_⟩ | refine or_split (fun _ => ?_) (fun _ => ?_) | exact Sub.refl _ | refine imp_in fun _ => ?_ | refine and_ri ?_ (fun _ => ?_) | refine and_li (fun _ => ?_) ?_ | (refine And.intro ?_ ?_; focus (intros; simp [*]; done)) | fail)
          exact ⟨by simp [hav], rfl, n.kids.length - (i + 1), _, by omega, Sub.refl _, i + 1, by omega, rfl, by simp, by rw [hct']; simp, hg, rfl⟩
        · simp (maxSteps := 10000000) only [AgainAt, hav, List.contains_cons, List.contains_nil, Bool.or_false, Nat.reduceAdd, Nat.reduceBEq, Bool.or_true, Bool.true_or, Bool.false_or, if_true, if_false, Bool.false_eq_true]
          repeat' (first | refine Keep.go (by assumption) ?_ | refine awp_seq_k fun K hK => ?_ | (refine awp_region ?_; try simp [Heap.set_get, *]) | refine awp_block ?_ | (refine awp_ret ?_; try simp) | (refine awp_skip ?_; try simp) | (refine awp_exit ?_; try simp) | (refine KeepQ.go (by assumption) ?_; try simp [Heap.set_get, *]) | (refine awp_cond' ?_; try simp [Heap.set_get, *]) | refine And.intro (by omega) ?_ | refine And.intro (by assumption) ?_ | refine and_lf (by omega) ?_ | refine and_rf ?_ (by omega) | refine and_imps (fun _ => ?_) (fun _ => ?_) | refine arounds_k fun K hK => ?_ | refine Or.inl ⟨by omega, ?_⟩ | refine Or.inr ⟨by omega, ?_⟩ | refine or_split (fun _ => ?_) (fun _ => ?_) | exact Sub.refl _ | refine imp_in fun _ => ?_ | refine and_ri ?_ (fun _ => ?_) | refine and_li (fun _ => ?_) ?_ | (refine And.intro ?_ ?_; focus (intros; simp [*]; done)) | fail)
          exact ⟨by simp [hav], rfl, n.kids.length - (i + 1), _, by omega, Sub.refl _, i + 1, by omega, rfl, by simp, by rw [hct']; simp, hg, rfl⟩
    · have hkind := kindAt_get hml
      have hfk := firstKid_get hml
      have hfine : kidFine nodes k w = fitsL nodes[m].kind w := by
        have : ¬ ((m : Int) = -1) := by omega
        simp [kidFine, hm, this, hkind]
      have hdef : isDefault nodes k = (decide (nodes[m].kind = 24) && decide (nodes[m].kids.headD 0 = -1)) := by simp [isDefault, hm, hkind, hfk]
      rw [hm] at hmem
      have hcm := hc m hml hmem
      have hm0 : ¬ ((m : Int) < 0) := by omega
      have hm1 : ¬ ((m : Int) = -1) := by omega
      cases hf : fitsL nodes[m].kind w
      · have hs := hstop (hfine.trans hf)
        rcases hwant with ⟨e1, e2⟩ | ⟨e1, rfl⟩
        all_goals
          simp (maxSteps := 10000000) only [AgainAt, hav, List.contains_cons, List.contains_nil, Bool.or_false, Nat.reduceAdd, Nat.reduceBEq, Bool.or_true, Bool.true_or, Bool.false_or, if_true, if_false, Bool.false_eq_true]
          repeat' (first | refine Keep.go (by assumption) ?_ | refine awp_seq_k fun K hK => ?_ | (refine awp_region ?_; try simp [Heap.set_get, *]) | refine awp_block ?_ | (refine awp_ret ?_; try simp) | (refine awp_skip ?_; try simp) | (refine awp_exit ?_; try simp) | (refine KeepQ.go (by assumption) ?_; try simp [Heap.set_get, *]) | (refine awp_cond' ?_; try simp [Heap.set_get, *]) | refine And.intro (by omega) ?_ | refine And.intro (by assumption) ?_ | refine and_lf (by omega) ?_ | refine and_rf ?_ (by omega) | refine and_imps (fun _ => ?_) (fun _ => ?_) | refine arounds_k fun K hK => ?_ | refine Or.inl ⟨by omega, ?_⟩ | refine Or.inr ⟨by omega, ?_⟩ | refine or_split (fun _ => ?_) (fun _ => ?_) | exact Sub.refl _ | refine imp_in fun _ => ?_ | refine and_ri ?_ (fun _ => ?_) | refine and_li (fun _ => ?_) ?_ | (refine And.intro ?_ ?_; focus (intros; simp [*]; done)) | fail)
          refine fits_c _ _ _ _ ?_
          simp [Heap.set_get, *]
          repeat' (first | refine Keep.go (by assumption) ?_ | refine awp_seq_k fun K hK => ?_ | (refine awp_region ?_; try simp [Heap.set_get, *]) | refine awp_block ?_ | (refine awp_ret ?_; try simp) | (refine awp_skip ?_; try simp) | (refine awp_exit ?_; try simp) | (refine KeepQ.go (by assumption) ?_; try simp [Heap.set_get, *]) | (refine awp_cond' ?_; try simp [Heap.set_get, *]) | refine And.intro (by omega) ?_ | refine And.intro (by assumption) ?_ | refine and_lf (by omega) ?_ | refine and_rf ?_ (by omega) | refine and_imps (fun _ => ?_) (fun _ => ?_) | refine arounds_k fun K hK => ?_ | refine Or.inl ⟨by omega, ?_⟩ | refine Or.inr ⟨by omega, ?_⟩ | refine or_split (fun _ => ?_) (fun _ => ?_) | exact Sub.refl _ | refine imp_in fun _ => ?_ | refine and_ri ?_ (fun _ => ?_) | refine and_li (fun _ => ?_) ?_ | (refine And.intro ?_ ?_; focus (intros; simp [*]; done)) | fail)
      rcases hwant with ⟨e1, e2⟩ | ⟨e1, rfl⟩
      all_goals
        have hg := hgo (hfine.trans hf)
        simp (maxSteps := 10000000) only [AgainAt, hav, List.contains_cons, List.contains_nil, Bool.or_false, Nat.reduceAdd, Nat.reduceBEq, Bool.or_true, Bool.true_or, Bool.false_or, if_true, if_false, Bool.false_eq_true]
        repeat' (first | refine Keep.go (by assumption) ?_ | refine awp_seq_k fun K hK => ?_ | (refine awp_region ?_; try simp [Heap.set_get, *]) | refine awp_block ?_ | (refine awp_ret ?_; try simp) | (refine awp_skip ?_; try simp) | (refine awp_exit ?_; try simp) | (refine KeepQ.go (by assumption) ?_; try simp [Heap.set_get, *]) | (refine awp_cond' ?_; try simp [Heap.set_get, *]) | refine And.intro (by omega) ?_ | refine And.intro (by assumption) ?_ | refine and_lf (by omega) ?_ | refine and_rf ?_ (by omega) | refine and_imps (fun _ => ?_) (fun _ => ?_) | refine arounds_k fun K hK => ?_ | refine Or.inl ⟨by omega, ?_⟩ | refine Or.inr ⟨by omega, ?_⟩ | refine or_split (fun _ => ?_) (fun _ => ?_) | exact Sub.refl _ | refine imp_in fun _ => ?_ | refine and_ri ?_ (fun _ => ?_) | refine and_li (fun _ => ?_) ?_ | (refine And.intro ?_ ?_; focus (intros; simp [*]; done)) | fail)
        refine fits_c _ _ _ _ ?_
        simp [Heap.set_get, *]
        repeat' (first | refine Keep.go (by assumption) ?_ | refine awp_seq_k fun K hK => ?_ | (refine awp_region ?_; try simp [Heap.set_get, *]) | refine awp_block ?_ | (refine awp_ret ?_; try simp) | (refine awp_skip ?_; try simp) | (refine awp_exit ?_; try simp) | (refine KeepQ.go (by assumption) ?_; try simp [Heap.set_get, *]) | (refine awp_cond' ?_; try simp [Heap.set_get, *]) | refine And.intro (by omega) ?_ | refine And.intro (by assumption) ?_ | refine and_lf (by omega) ?_ | refine and_rf ?_ (by omega) | refine and_imps (fun _ => ?_) (fun _ => ?_) | refine arounds_k fun K hK => ?_ | refine Or.inl ⟨by omega, ?_⟩ | refine Or.inr ⟨by omega, ?_⟩ | refine or_split (fun _ => ?_) (fun _ => ?_) | exact Sub.refl _ | refine imp_in fun _ => ?_ | refine and_ri ?_ (fun _ => ?_) | refine and_li (fun _ => ?_) ?_ | (refine And.intro ?_ ?_; focus (intros; simp [*]; done)) | fail)
        intro b3 hb3; simp only [Fresh, Heap.set_none] at hb3; try simp [Heap.set_get, *]
        by_cases h24 : nodes[m].kind = 24
        · obtain ⟨c0, cs, hcs⟩ : ∃ c0 cs, nodes[m].kids = c0 :: cs := by
            cases e : nodes[m].kids with
            | nil => exact absurd e (hcm h24)
            | cons c0 cs => exact ⟨c0, cs, rfl⟩
          have hh : nodes[m].kids.headD 0 = c0 := by rw [hcs]; rfl
          repeat' (first | refine Keep.go (by assumption) ?_ | refine awp_seq_k fun K hK => ?_ | (refine awp_region ?_; try simp [Heap.set_get, *]) | refine awp_block ?_ | (refine awp_ret ?_; try simp) | (refine awp_skip ?_; try simp) | (refine awp_exit ?_; try simp) | (refine KeepQ.go (by assumption) ?_; try simp [Heap.set_get, *]) | (refine awp_cond' ?_; try simp [Heap.set_get, *]) | refine And.intro (by omega) ?_ | refine And.intro (by assumption) ?_ | refine and_lf (by omega) ?_ | refine and_rf ?_ (by omega) | refine and_imps (fun _ => ?_) (fun _ => ?_) | refine arounds_k fun K hK => ?_ | refine Or.inl ⟨by omega, ?_⟩ | refine Or.inr ⟨by omega, ?_⟩ | refine or_split (fun _ => ?_) (fun _ => ?_) | exact Sub.refl _ | refine imp_in fun _ => ?_ | refine and_ri ?_ (fun _ => ?_) | refine and_li (fun _ => ?_) ?_ | (refine And.intro ?_ ?_; focus (intros; simp [*]; done)) | fail)
          all_goals
            rename_i hc0
            refine ⟨by simp [hav], rfl, n.kids.length - (i + 1), _, by omega, ?_, i + 1, by omega, rfl, by simp, ?_, hg, rfl⟩
            · exact (Sub.refl _).loc (by simp [*]) _
            · rw [hct, hdef, hh]
              simp [h24, hc0]
        · have hd0 : isDefault nodes k = false := by rw [hdef]; simp [h24]
          cases hk0 : nodes[m].kids
          all_goals
            repeat' (first | refine Keep.go (by assumption) ?_ | refine awp_seq_k fun K hK => ?_ | (refine awp_region ?_; try simp [Heap.set_get, *]) | refine awp_block ?_ | (refine awp_ret ?_; try simp) | (refine awp_skip ?_; try simp) | (refine awp_exit ?_; try simp) | (refine KeepQ.go (by assumption) ?_; try simp [Heap.set_get, *]) | (refine awp_cond' ?_; try simp [Heap.set_get, *]) | refine And.intro (by omega) ?_ | refine And.intro (by assumption) ?_ | refine and_lf (by omega) ?_ | refine and_rf ?_ (by omega) | refine and_imps (fun _ => ?_) (fun _ => ?_) | refine arounds_k fun K hK => ?_ | refine Or.inl ⟨by omega, ?_⟩ | refine Or.inr ⟨by omega, ?_⟩ | refine or_split (fun _ => ?_) (fun _ => ?_) | exact Sub.refl _ | refine imp_in fun _ => ?_ | refine and_ri ?_ (fun _ => ?_) | refine and_li (fun _ => ?_) ?_ | (refine And.intro ?_ ?_; focus (intros; simp [*]; done)) | fail)
            refine ⟨by simp [hav], rfl, n.kids.length - (i + 1), _, by omega, ?_, i + 1, by omega, rfl, by simp, ?_, hg, rfl⟩
            · exact (Sub.refl _).loc (by simp [*]) _
            · rw [hct, hd0]
              simp
  · have hge : n.kids.length ≤ i := by omega
    simp (maxSteps := 10000000) only [AgainAt, hav, List.contains_cons, List.contains_nil, Bool.or_false, Nat.reduceAdd, Nat.reduceBEq, Bool.or_true, Bool.true_or, Bool.false_or, if_true, if_false, Bool.false_eq_true]
    repeat' (first | refine Keep.go (by assumption) ?_ | refine awp_seq_k fun K hK => ?_ | (refine awp_region ?_; try simp [Heap.set_get, *]) | refine awp_block ?_ | (refine awp_ret ?_; try simp) | (refine awp_skip ?_; try simp) | (refine awp_exit ?_; try simp) | (refine KeepQ.go (by assumption) ?_; try simp [Heap.set_get, *]) | (refine awp_cond' ?_; try simp [Heap.set_get, *]) | refine And.intro (by omega) ?_ | refine And.intro (by assumption) ?_ | refine and_lf (by omega) ?_ | refine and_rf ?_ (by omega) | refine and_imps (fun _ => ?_) (fun _ => ?_) | refine arounds_k fun K hK => ?_ | refine Or.inl ⟨by omega, ?_⟩ | refine Or.inr ⟨by omega, ?_⟩ | refine or_split (fun _ => ?_) (fun _ => ?_) | exact Sub.refl _ | refine imp_in fun _ => ?_ | refine and_ri ?_ (fun _ => ?_) | refine and_li (fun _ => ?_) ?_ | (refine And.intro ?_ ?_; focus (intros; simp [*]; done)) | fail)
    rw [← hcc, List.take_of_length_le hge]
    simp only [kidsL, h20, if_false, hfs, hr]
    have e1 : decide (∀ (i : Nat) (h : i < n.kids.length), kidFine nodes n.kids[i] (wantAt n i) = true) = true := by simpa using fun j hj => hn j hj (by omega)
    rw [e1]
    have e2 : decide (n.kids.length < fs.length) = false := by simpa using (by assumption : fs.length ≤ n.kids.length)
    have e3 : (decide (r = 0) && decide (fs.length < n.kids.length)) = false := by
      simp only [Bool.and_eq_false_iff, decide_eq_false_iff_not]
      by_cases e : r = 0
      · exact .inr (Nat.not_lt.2 ((by assumption : r = 0 → n.kids.length ≤ fs.length) e))
      · exact .inl e
    have e4 : (decide (n.kind = 19) && decide (¬ n.kids.length % 2 = 0)) = false := by
      simp only [Bool.and_eq_false_iff, decide_eq_false_iff_not]
      by_cases e : n.kind = 19
      · have := (by assumption : n.kind = 19 → (n.kids.length : Int) % 2 = 0) e
        exact .inr (by omega)
      · exact .inl e
    rw [e2, e3, e4]
    simp
    omega
end Go.Proofs.YtmnkalojpefclaaDoor
