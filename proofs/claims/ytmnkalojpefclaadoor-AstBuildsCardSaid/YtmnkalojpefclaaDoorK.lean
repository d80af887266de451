import Derived.Test.YtmnkalojpefclaaDoorE
set_option linter.unusedSimpArgs false
set_option linter.unusedVariables false
namespace Go.Proofs.YtmnkalojpefclaaDoor
open Go Go.AL Go.Proofs
abbrev row (n : Nd) : List AV := ndRow n .no
abbrev treeAV (nodes : List Nd) (t : Tok) : AV := .agg [.list 5 (nodes.map row) t]
def kindAt (nodes : List Nd) (k : Int) : Int := ((nodes[k.toNat]?).map Nd.kind).getD 0
def kidFine (nodes : List Nd) (k w : Int) : Bool := if k = -1 ∧ ¬ bitAnd .i64 w 4096 = 0 then true else decide (0 ≤ k) && fitsL (kindAt nodes k) w
def wantF (n : Nd) (i : Nat) : Int := if i + 1 = n.kids.length then 512 else 16
def funcKidsL (nodes : List Nd) (n : Nd) : Bool := decide (0 ≤ n.num) && decide ((n.kids.length : Int) = n.num + 1) && decide (∀ i (h : i < n.kids.length), 0 ≤ n.kids[i] ∧ fitsL (kindAt nodes n.kids[i]) (wantF n i) = true)
theorem kindAt_get {nodes : List Nd} {k : Nat} (h : k < nodes.length) : kindAt nodes (k : Int) = nodes[k].kind := by simp [kindAt, h]
theorem funcKids_bad {nodes : List Nd} {n : Nd} {i : Nat} (h : i < n.kids.length) (hb : ¬ (0 ≤ n.kids[i] ∧ fitsL (kindAt nodes n.kids[i]) (wantF n i) = true)) : funcKidsL nodes n = false := by
  simp only [funcKidsL, Bool.and_eq_false_iff, decide_eq_false_iff_not]
  exact .inr fun h' => hb (h' i h)
set_option maxRecDepth 100000 in
set_option maxHeartbeats 4000000 in
theorem funcKids_c (nodes : List Nd) (n : Nd) (t : Tok) (hl : nodes.length ≤ 131072) (hkl : n.kids.length ≤ 281474976710656) (hn : n.num ≤ 9223372036854775807) (hk : ∀ k ∈ n.kids, -1 ≤ k ∧ k < nodes.length) (h : Heap) (R : AV → Heap → Prop)
    (hR : R (.bool (funcKidsL nodes n)) h) : ACalls Tryd.prog 49 [treeAV nodes t, .agg (row n)] h R := by
  refine ACalls.pure ?_ hR
  clear hR
  by_cases h1 : n.num < 0
  · refine acalls_of Tryd.func49 rfl Tryd.ntmps49 (congrArg Array.toList Tryd.results49) fun Q hQ => ?_
    repeat' (first | refine Keep.go (by assumption) ?_ | refine awp_seq_k fun K hK => ?_ | (refine awp_region ?_; try simp [Heap.set_get, *]) | refine awp_block ?_ | (refine awp_ret ?_; try simp) | (refine awp_skip ?_; try simp) | (refine awp_exit ?_; try simp) | (refine KeepQ.go (by assumption) ?_; try simp [Heap.set_get, *]) | (refine awp_cond' ?_; try simp [Heap.set_get, *]) | refine And.intro (by omega) ?_ | refine And.intro (by assumption) ?_ | refine and_lf (by omega) ?_ | refine and_rf ?_ (by omega) | refine and_imps (fun _ => ?_) (fun _ => ?_) | refine arounds_k fun K hK => ?_ | refine Or.inl ⟨by omega, ?_⟩ | refine Or.inr ⟨by omega, ?_⟩ | refine or_split (fun _ => ?_) (fun _ => ?_) | exact Sub.refl _ | refine imp_in fun _ => ?_ | refine and_ri ?_ (fun _ => ?_) | refine and_li (fun _ => ?_) ?_ | (refine And.intro ?_ ?_; focus (intros; simp [*]; done)) | fail)
    intro b1 hb1; simp only [Fresh, Heap.set_none] at hb1; try simp [Heap.set_get, *]
    intro b2 hb2; simp only [Fresh, Heap.set_none] at hb2; try simp [Heap.set_get, *]
    repeat' (first | refine Keep.go (by assumption) ?_ | refine awp_seq_k fun K hK => ?_ | (refine awp_region ?_; try simp [Heap.set_get, *]) | refine awp_block ?_ | (refine awp_ret ?_; try simp) | (refine awp_skip ?_; try simp) | (refine awp_exit ?_; try simp) | (refine KeepQ.go (by assumption) ?_; try simp [Heap.set_get, *]) | (refine awp_cond' ?_; try simp [Heap.set_get, *]) | refine And.intro (by omega) ?_ | refine And.intro (by assumption) ?_ | refine and_lf (by omega) ?_ | refine and_rf ?_ (by omega) | refine and_imps (fun _ => ?_) (fun _ => ?_) | refine arounds_k fun K hK => ?_ | refine Or.inl ⟨by omega, ?_⟩ | refine Or.inr ⟨by omega, ?_⟩ | refine or_split (fun _ => ?_) (fun _ => ?_) | exact Sub.refl _ | refine imp_in fun _ => ?_ | refine and_ri ?_ (fun _ => ?_) | refine and_li (fun _ => ?_) ?_ | (refine And.intro ?_ ?_; focus (intros; simp [*]; done)) | fail)
    exact ⟨by simp [funcKidsL]; omega, ((Sub.refl h).loc hb1 _).loc (by simp [*]) _⟩
  by_cases h2 : (n.kids.length : Int) = n.num + 1
  · have w1 : IntKind.i64.wrap (n.num + 1) = n.num + 1 := w64 (by omega) (by omega)
    have w2 : IntKind.i64.wrap n.num = n.num := w64 (by omega) (by omega)
    refine acalls_of Tryd.func49 rfl Tryd.ntmps49 (congrArg Array.toList Tryd.results49) fun Q hQ => ?_
    repeat' (first | refine Keep.go (by assumption) ?_ | refine awp_seq_k fun K hK => ?_ | (refine awp_region ?_; try simp [Heap.set_get, *]) | refine awp_block ?_ | (refine awp_ret ?_; try simp) | (refine awp_skip ?_; try simp) | (refine awp_exit ?_; try simp) | (refine KeepQ.go (by assumption) ?_; try simp [Heap.set_get, *]) | (refine awp_cond' ?_; try simp [Heap.set_get, *]) | refine And.intro (by omega) ?_ | refine And.intro (by assumption) ?_ | refine and_lf (by omega) ?_ | refine and_rf ?_ (by omega) | refine and_imps (fun _ => ?_) (fun _ => ?_) | refine arounds_k fun K hK => ?_ | refine Or.inl ⟨by omega, ?_⟩ | refine Or.inr ⟨by omega, ?_⟩ | refine or_split (fun _ => ?_) (fun _ => ?_) | exact Sub.refl _ | refine imp_in fun _ => ?_ | refine and_ri ?_ (fun _ => ?_) | refine and_li (fun _ => ?_) ?_ | (refine And.intro ?_ ?_; focus (intros; simp [*]; done)) | fail)
    intro b1 hb1; simp only [Fresh, Heap.set_none] at hb1; try simp [Heap.set_get, *]
    intro b2 hb2; simp only [Fresh, Heap.set_none] at hb2; try simp [Heap.set_get, *]
    repeat' (first | refine Keep.go (by assumption) ?_ | refine awp_seq_k fun K hK => ?_ | (refine awp_region ?_; try simp [Heap.set_get, *]) | refine awp_block ?_ | (refine awp_ret ?_; try simp) | (refine awp_skip ?_; try simp) | (refine awp_exit ?_; try simp) | (refine KeepQ.go (by assumption) ?_; try simp [Heap.set_get, *]) | (refine awp_cond' ?_; try simp [Heap.set_get, *]) | refine And.intro (by omega) ?_ | refine And.intro (by assumption) ?_ | refine and_lf (by omega) ?_ | refine and_rf ?_ (by omega) | refine and_imps (fun _ => ?_) (fun _ => ?_) | refine arounds_k fun K hK => ?_ | refine Or.inl ⟨by omega, ?_⟩ | refine Or.inr ⟨by omega, ?_⟩ | refine or_split (fun _ => ?_) (fun _ => ?_) | exact Sub.refl _ | refine imp_in fun _ => ?_ | refine and_ri ?_ (fun _ => ?_) | refine and_li (fun _ => ?_) ?_ | (refine And.intro ?_ ?_; focus (intros; simp [*]; done)) | fail)
    refine awp_loop_h [4, 5, 6, 7, 23, 24, 25, 26, 27, 28, 29, 30, 31, 32, 33, 34, 35, 36, 37, 38, 39, 40, 41, 42, 43, 44, 45, 46, 47] (fun m x g => ∃ i : Nat, i ≤ n.kids.length ∧ m = n.kids.length - i ∧ x 23 = .int .i64 i ∧ (∀ j (hj : j < n.kids.length), j < i → 0 ≤ n.kids[j] ∧ fitsL (kindAt nodes n.kids[j]) (wantF n j) = true) ∧ g = (h.set b1 (.cells [AV.list 5 (List.map row nodes) t])).set b2 (.cells (row n))) n.kids.length ⟨0, by omega, by omega, rfl, by simp, rfl⟩ (fun m x g hI K hK => ?_)
    obtain ⟨i, hi, rfl, hx, hn, rfl⟩ := hI
    have w3 : IntKind.i64.wrap ((i : Int) + 1) = i + 1 := w64 (by omega) (by omega)
    by_cases hlt : i < n.kids.length
    · have hlt2 : (i : Int) < n.num + 1 := by omega
      have hkm := hk n.kids[i] (List.getElem_mem hlt)
      have hsub : AL.Sub h ((h.set b1 (.cells [AV.list 5 (List.map row nodes) t])).set b2 (.cells (row n))) := ((Sub.refl h).loc hb1 _).loc (by simp [*]) _
      by_cases h0 : n.kids[i] < 0
      · simp (maxSteps := 10000000) only [AgainAt, hav, List.contains_cons, List.contains_nil, Bool.or_false, Nat.reduceAdd, Nat.reduceBEq, Bool.or_true, Bool.true_or, Bool.false_or, if_true, if_false, Bool.false_eq_true]
        repeat' (first | refine Keep.go (by assumption) ?_ | refine awp_seq_k fun K hK => ?_ | (refine awp_region ?_; try simp [Heap.set_get, *]) | refine awp_block ?_ | (refine awp_ret ?_; try simp) | (refine awp_skip ?_; try simp) | (refine awp_exit ?_; try simp) | (refine KeepQ.go (by assumption) ?_; try simp [Heap.set_get, *]) | (refine awp_cond' ?_; try simp [Heap.set_get, *]) | refine And.intro (by omega) ?_ | refine And.intro (by assumption) ?_ | refine and_lf (by omega) ?_ | refine and_rf ?_ (by omega) | refine and_imps (fun _ => ?_) (fun _ => ?_) | refine arounds_k fun K hK => ?_ | refine Or.inl ⟨by omega, ?_⟩ | refine Or.inr ⟨by omega, ?_⟩ | refine or_split (fun _ => ?_) (fun _ => ?_) | exact Sub.refl _ | refine imp_in fun _ => ?_ | refine and_ri ?_ (fun _ => ?_) | refine and_li (fun _ => ?_) ?_ | (refine And.intro ?_ ?_; focus (intros; simp [*]; done)) | fail)
        all_goals exact funcKids_bad hlt (by omega)
      · obtain ⟨m, hm⟩ := Int.eq_ofNat_of_zero_le (a := n.kids[i]) (by omega)
        have hml : m < nodes.length := by omega
        have hkind := kindAt_get hml
        have hgo : ∀ w, fitsL nodes[m].kind w = true → w = wantF n i → ∀ j (hj : j < n.kids.length), j < i + 1 → 0 ≤ n.kids[j] ∧ fitsL (kindAt nodes n.kids[j]) (wantF n j) = true := by
          intro w hf hw j hj hji
          by_cases e : j < i
          · exact hn j hj e
          · have : j = i := by omega
            subst this
            rw [hm, hkind, ← hw]; exact ⟨by omega, hf⟩
        have hstop : ∀ w, ((m : Int) < 0 ∨ fitsL nodes[m].kind w = false) → w = wantF n i → funcKidsL nodes n = false := by
          intro w hf hw
          have hf : fitsL nodes[m].kind w = false := by rcases hf with hf | hf; omega; exact hf
          refine funcKids_bad hlt ?_
          rw [hm, hkind, ← hw, hf]; simp
        simp (maxSteps := 10000000) only [AgainAt, hav, List.contains_cons, List.contains_nil, Bool.or_false, Nat.reduceAdd, Nat.reduceBEq, Bool.or_true, Bool.true_or, Bool.false_or, if_true, if_false, Bool.false_eq_true]
        repeat' (first | refine Keep.go (by assumption) ?_ | refine awp_seq_k fun K hK => ?_ | (refine awp_region ?_; try simp [Heap.set_get, *]) | refine awp_block ?_ | (refine awp_ret ?_; try simp) | (refine awp_skip ?_; try simp) | (refine awp_exit ?_; try simp) | (refine KeepQ.go (by assumption) ?_; try simp [Heap.set_get, *]) | (refine awp_cond' ?_; try simp [Heap.set_get, *]) | refine And.intro (by omega) ?_ | refine And.intro (by assumption) ?_ | refine and_lf (by omega) ?_ | refine and_rf ?_ (by omega) | refine and_imps (fun _ => ?_) (fun _ => ?_) | refine arounds_k fun K hK => ?_ | refine Or.inl ⟨by omega, ?_⟩ | refine Or.inr ⟨by omega, ?_⟩ | refine or_split (fun _ => ?_) (fun _ => ?_) | exact Sub.refl _ | refine imp_in fun _ => ?_ | refine and_ri ?_ (fun _ => ?_) | refine and_li (fun _ => ?_) ?_ | (refine And.intro ?_ ?_; focus (intros; simp [*]; done)) | fail)
        all_goals (refine fits_c _ _ _ _ ?_; simp [Heap.set_get, *]; repeat' (first | refine Keep.go (by assumption) ?_ | refine awp_seq_k fun K hK => ?_ | (refine awp_region ?_; try simp [Heap.set_get, *]) | refine awp_block ?_ | (refine awp_ret ?_; try simp) | (refine awp_skip ?_; try simp) | (refine awp_exit ?_; try simp) | (refine KeepQ.go (by assumption) ?_; try simp [Heap.set_get, *]) | (refine awp_cond' ?_; try simp [Heap.set_get, *]) | refine And.intro (by omega) ?_ | refine And.intro (by assumption) ?_ | refine and_lf (by omega) ?_ | refine and_rf ?_ (by omega) | refine and_imps (fun _ => ?_) (fun _ => ?_) | refine arounds_k fun K hK => ?_ | refine Or.inl ⟨by omega, ?_⟩ | refine Or.inr ⟨by omega, ?_⟩ | refine or_split (fun _ => ?_) (fun _ => ?_) | exact Sub.refl _ | refine imp_in fun _ => ?_ | refine and_ri ?_ (fun _ => ?_) | refine and_li (fun _ => ?_) ?_ | (refine And.intro ?_ ?_; focus (intros; simp [*]; done)) | fail))
        all_goals first
          | exact hstop _ (.inr (by assumption)) (by simp only [wantF]; split <;> first | rfl | omega)
          | exact ⟨by simp [hav], rfl, n.kids.length - (i + 1), _, by omega, Sub.refl _, i + 1, by omega, rfl, by simp; try omega, hgo _ (by assumption) (by simp only [wantF]; split <;> first | rfl | omega), rfl⟩
          | trace_state
    · have hge : ¬ (i : Int) < n.num + 1 := by omega
      simp (maxSteps := 10000000) only [AgainAt, hav, List.contains_cons, List.contains_nil, Bool.or_false, Nat.reduceAdd, Nat.reduceBEq, Bool.or_true, Bool.true_or, Bool.false_or, if_true, if_false, Bool.false_eq_true]
      repeat' (first | refine Keep.go (by assumption) ?_ | refine awp_seq_k fun K hK => ?_ | (refine awp_region ?_; try simp [Heap.set_get, *]) | refine awp_block ?_ | (refine awp_ret ?_; try simp) | (refine awp_skip ?_; try simp) | (refine awp_exit ?_; try simp) | (refine KeepQ.go (by assumption) ?_; try simp [Heap.set_get, *]) | (refine awp_cond' ?_; try simp [Heap.set_get, *]) | refine And.intro (by omega) ?_ | refine And.intro (by assumption) ?_ | refine and_lf (by omega) ?_ | refine and_rf ?_ (by omega) | refine and_imps (fun _ => ?_) (fun _ => ?_) | refine arounds_k fun K hK => ?_ | refine Or.inl ⟨by omega, ?_⟩ | refine Or.inr ⟨by omega, ?_⟩ | refine or_split (fun _ => ?_) (fun _ => ?_) | exact Sub.refl _ | refine imp_in fun _ => ?_ | refine and_ri ?_ (fun _ => ?_) | refine and_li (fun _ => ?_) ?_ | (refine And.intro ?_ ?_; focus (intros; simp [*]; done)) | fail)
      refine ⟨?_, ((Sub.refl h).loc hb1 _).loc (by simp [*]) _⟩
      simp only [funcKidsL, Bool.and_eq_true, decide_eq_true_eq]
      exact ⟨⟨by omega, h2⟩, fun j hj => hn j hj (by omega)⟩
  · have w1 : ¬ (n.kids.length : Int) = IntKind.i64.wrap (n.num + 1) := by
      rw [IntKind.wrap_i64]; omega
    refine acalls_of Tryd.func49 rfl Tryd.ntmps49 (congrArg Array.toList Tryd.results49) fun Q hQ => ?_
    repeat' (first | refine Keep.go (by assumption) ?_ | refine awp_seq_k fun K hK => ?_ | (refine awp_region ?_; try simp [Heap.set_get, *]) | refine awp_block ?_ | (refine awp_ret ?_; try simp) | (refine awp_skip ?_; try simp) | (refine awp_exit ?_; try simp) | (refine KeepQ.go (by assumption) ?_; try simp [Heap.set_get, *]) | (refine awp_cond' ?_; try simp [Heap.set_get, *]) | refine And.intro (by omega) ?_ | refine And.intro (by assumption) ?_ | refine and_lf (by omega) ?_ | refine and_rf ?_ (by omega) | refine and_imps (fun _ => ?_) (fun _ => ?_) | refine arounds_k fun K hK => ?_ | refine Or.inl ⟨by omega, ?_⟩ | refine Or.inr ⟨by omega, ?_⟩ | refine or_split (fun _ => ?_) (fun _ => ?_) | exact Sub.refl _ | refine imp_in fun _ => ?_ | refine and_ri ?_ (fun _ => ?_) | refine and_li (fun _ => ?_) ?_ | (refine And.intro ?_ ?_; focus (intros; simp [*]; done)) | fail)
    intro b1 hb1; simp only [Fresh, Heap.set_none] at hb1; try simp [Heap.set_get, *]
    intro b2 hb2; simp only [Fresh, Heap.set_none] at hb2; try simp [Heap.set_get, *]
    repeat' (first | refine Keep.go (by assumption) ?_ | refine awp_seq_k fun K hK => ?_ | (refine awp_region ?_; try simp [Heap.set_get, *]) | refine awp_block ?_ | (refine awp_ret ?_; try simp) | (refine awp_skip ?_; try simp) | (refine awp_exit ?_; try simp) | (refine KeepQ.go (by assumption) ?_; try simp [Heap.set_get, *]) | (refine awp_cond' ?_; try simp [Heap.set_get, *]) | refine And.intro (by omega) ?_ | refine And.intro (by assumption) ?_ | refine and_lf (by omega) ?_ | refine and_rf ?_ (by omega) | refine and_imps (fun _ => ?_) (fun _ => ?_) | refine arounds_k fun K hK => ?_ | refine Or.inl ⟨by omega, ?_⟩ | refine Or.inr ⟨by omega, ?_⟩ | refine or_split (fun _ => ?_) (fun _ => ?_) | exact Sub.refl _ | refine imp_in fun _ => ?_ | refine and_ri ?_ (fun _ => ?_) | refine and_li (fun _ => ?_) ?_ | (refine And.intro ?_ ?_; focus (intros; simp [*]; done)) | fail)
    exact ⟨by simp [funcKidsL, h2], ((Sub.refl h).loc hb1 _).loc (by simp [*]) _⟩
end Go.Proofs.YtmnkalojpefclaaDoor
