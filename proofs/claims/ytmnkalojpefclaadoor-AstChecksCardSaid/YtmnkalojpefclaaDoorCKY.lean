import Derived.Test.YtmnkalojpefclaaDoorSM
import Derived.Test.YtmnkalojpefclaaDoorM
import Derived.Test.YtmnkalojpefclaaDoorK
import Derived.Test.YtmnkalojpefclaaDoorAL12
import Derived.Test.YtmnkalojpefclaaDoorWR
import Derived.Test.YtmnkalojpefclaaDoorY
set_option linter.unusedSimpArgs false
set_option linter.unusedVariables false
namespace Go.Proofs.YtmnkalojpefclaaDoor
open Go Go.AL Go.Proofs
set_option maxRecDepth 100000 in
theorem small2_c (nodes : List Nd) (t : Tok) (hl : nodes.length ≤ 9223372036854775807) (h : Heap) (R : AV → Heap → Prop) (hR : R (.bool (smallL nodes)) h) :
    ACalls Tryd.prog 8 [treeAV nodes t] h R := by
  refine ACalls.pure ?_ hR
  clear hR
  refine acalls_of Tryd.func8 rfl Tryd.ntmps8 (congrArg Array.toList Tryd.results8) fun Q hQ => ?_
  repeat' (first | refine Keep.go (by assumption) ?_ | refine awp_seq_k fun K hK => ?_ | (refine awp_region ?_; try simp [Heap.set_get, *]) | refine awp_block ?_ | (refine awp_ret ?_; try simp) | (refine awp_skip ?_; try simp) | (refine awp_exit ?_; try simp) | (refine KeepQ.go (by assumption) ?_; try simp [Heap.set_get, *]) | (refine awp_cond' ?_; try simp [Heap.set_get, *]) | refine And.intro (by omega) ?_ | refine And.intro (by assumption) ?_ | refine and_lf (by omega) ?_ | refine and_rf ?_ (by omega) | refine and_imps (fun _ => ?_) (fun _ => ?_) | refine arounds_k fun K hK => ?_ | refine Or.inl ⟨by omega, ?_⟩ | refine Or.inr ⟨by omega, ?_⟩ | refine or_split (fun _ => ?_) (fun _ => ?_) | exact Sub.refl _ | refine imp_in fun _ => ?_ | refine and_ri ?_ (fun _ => ?_) | refine and_li (fun _ => ?_) ?_ | (refine And.intro ?_ ?_; focus (intros; simp [*]; done)) | fail)
  intro b1 hb1; simp only [Fresh, Heap.set_none] at hb1; try simp [Heap.set_get, *]
  repeat' (first | refine Keep.go (by assumption) ?_ | refine awp_seq_k fun K hK => ?_ | (refine awp_region ?_; try simp [Heap.set_get, *]) | refine awp_block ?_ | (refine awp_ret ?_; try simp) | (refine awp_skip ?_; try simp) | (refine awp_exit ?_; try simp) | (refine KeepQ.go (by assumption) ?_; try simp [Heap.set_get, *]) | (refine awp_cond' ?_; try simp [Heap.set_get, *]) | refine And.intro (by omega) ?_ | refine And.intro (by assumption) ?_ | refine and_lf (by omega) ?_ | refine and_rf ?_ (by omega) | refine and_imps (fun _ => ?_) (fun _ => ?_) | refine arounds_k fun K hK => ?_ | refine Or.inl ⟨by omega, ?_⟩ | refine Or.inr ⟨by omega, ?_⟩ | refine or_split (fun _ => ?_) (fun _ => ?_) | exact Sub.refl _ | refine imp_in fun _ => ?_ | refine and_ri ?_ (fun _ => ?_) | refine and_li (fun _ => ?_) ?_ | (refine And.intro ?_ ?_; focus (intros; simp [*]; done)) | fail)
  refine awp_loop_h [2, 4, 8, 9, 10, 11, 12, 13, 14, 15, 16, 17, 18, 19, 20, 21, 22] (fun m x g => ∃ i : Nat, i ≤ nodes.length ∧ m = nodes.length - i ∧ x 8 = .int .i64 i ∧ (∀ j (hj : j < nodes.length), j < i → nodes[j].kids.length ≤ 100 ∧ nodes[j].text.length ≤ 200) ∧ g = h.set b1 (.cells [AV.list 5 (List.map row nodes) t])) nodes.length ⟨0, by omega, by omega, rfl, by simp, rfl⟩ (fun m x g hI K hK => ?_)
  obtain ⟨i, hi, rfl, hx, hn, rfl⟩ := hI
  by_cases hlt : i < nodes.length
  · have w1 : IntKind.i64.wrap ((i : Int) + 1) = i + 1 := w64 (by omega) (by omega)
    obtain ⟨n, hnn⟩ : ∃ n, nodes[i] = n := ⟨_, rfl⟩
    by_cases hs : n.kids.length ≤ 100 ∧ n.text.length ≤ 200
    · obtain ⟨hs1, hs2⟩ := hs
      have hs3 : ¬ 100 < n.kids.length := by omega
      have hs4 : ¬ 200 < n.text.length := by omega
      simp (maxSteps := 10000000) only [AgainAt, hav, List.contains_cons, List.contains_nil, Bool.or_false, Nat.reduceAdd, Nat.reduceBEq, Bool.or_true, Bool.true_or, Bool.false_or, if_true, if_false, Bool.false_eq_true]
      repeat' (first | refine Keep.go (by assumption) ?_ | refine awp_seq_k fun K hK => ?_ | (refine awp_region ?_; try simp [Heap.set_get, *]) | refine awp_block ?_ | (refine awp_ret ?_; try simp) | (refine awp_skip ?_; try simp) | (refine awp_exit ?_; try simp) | (refine KeepQ.go (by assumption) ?_; try simp [Heap.set_get, *]) | (refine awp_cond' ?_; try simp [Heap.set_get, *]) | refine And.intro (by omega) ?_ | refine And.intro (by assumption) ?_ | refine and_lf (by omega) ?_ | refine and_rf ?_ (by omega) | refine and_imps (fun _ => ?_) (fun _ => ?_) | refine arounds_k fun K hK => ?_ | refine Or.inl ⟨by omega, ?_⟩ | refine Or.inr ⟨by omega, ?_⟩ | refine or_split (fun _ => ?_) (fun _ => ?_) | exact Sub.refl _ | refine imp_in fun _ => ?_ | refine and_ri ?_ (fun _ => ?_) | refine and_li (fun _ => ?_) ?_ | (refine And.intro ?_ ?_; focus (intros; simp [*]; done)) | fail)
      intro b4 hb4; simp only [Fresh, Heap.set_none] at hb4; try simp [Heap.set_get, *]
      repeat' (first | refine Keep.go (by assumption) ?_ | refine awp_seq_k fun K hK => ?_ | (refine awp_region ?_; try simp [Heap.set_get, *]) | refine awp_block ?_ | (refine awp_ret ?_; try simp) | (refine awp_skip ?_; try simp) | (refine awp_exit ?_; try simp) | (refine KeepQ.go (by assumption) ?_; try simp [Heap.set_get, *]) | (refine awp_cond' ?_; try simp [Heap.set_get, *]) | refine And.intro (by omega) ?_ | refine And.intro (by assumption) ?_ | refine and_lf (by omega) ?_ | refine and_rf ?_ (by omega) | refine and_imps (fun _ => ?_) (fun _ => ?_) | refine arounds_k fun K hK => ?_ | refine Or.inl ⟨by omega, ?_⟩ | refine Or.inr ⟨by omega, ?_⟩ | refine or_split (fun _ => ?_) (fun _ => ?_) | exact Sub.refl _ | refine imp_in fun _ => ?_ | refine and_ri ?_ (fun _ => ?_) | refine and_li (fun _ => ?_) ?_ | (refine And.intro ?_ ?_; focus (intros; simp [*]; done)) | fail)
      all_goals first
        | (refine ⟨by simp [hav], rfl, nodes.length - (i + 1), _, by omega, (Sub.refl _).loc (by simp [*]) _, i + 1, by omega, rfl, by simp, fun j hj hji => ?_, rfl⟩
           by_cases e : j < i
           · exact hn j hj e
           · have : j = i := by omega
             subst this
             simp only [hnn]
             exact ⟨hs1, hs2⟩)
        | (refine ⟨nodes.length - (i + 1), _, by omega, (Sub.refl _).loc (by simp [*]) _, i + 1, by omega, rfl, by simp, fun j hj hji => ?_, rfl⟩
           by_cases e : j < i
           · exact hn j hj e
           · have : j = i := by omega
             subst this
             simp only [hnn]
             exact ⟨hs1, hs2⟩)
        | (exfalso; omega)
        | trace_state
    · have hf : smallL nodes = false := by
        simp only [smallL, Bool.and_eq_false_iff]
        refine .inl (List.all_eq_false.2 ⟨n, hnn ▸ List.getElem_mem hlt, ?_⟩)
        simp only [Bool.and_eq_true, decide_eq_true_eq]
        exact hs
      simp (maxSteps := 10000000) only [AgainAt, hav, List.contains_cons, List.contains_nil, Bool.or_false, Nat.reduceAdd, Nat.reduceBEq, Bool.or_true, Bool.true_or, Bool.false_or, if_true, if_false, Bool.false_eq_true]
      repeat' (first | refine Keep.go (by assumption) ?_ | refine awp_seq_k fun K hK => ?_ | (refine awp_region ?_; try simp [Heap.set_get, *]) | refine awp_block ?_ | (refine awp_ret ?_; try simp) | (refine awp_skip ?_; try simp) | (refine awp_exit ?_; try simp) | (refine KeepQ.go (by assumption) ?_; try simp [Heap.set_get, *]) | (refine awp_cond' ?_; try simp [Heap.set_get, *]) | refine And.intro (by omega) ?_ | refine And.intro (by assumption) ?_ | refine and_lf (by omega) ?_ | refine and_rf ?_ (by omega) | refine and_imps (fun _ => ?_) (fun _ => ?_) | refine arounds_k fun K hK => ?_ | refine Or.inl ⟨by omega, ?_⟩ | refine Or.inr ⟨by omega, ?_⟩ | refine or_split (fun _ => ?_) (fun _ => ?_) | exact Sub.refl _ | refine imp_in fun _ => ?_ | refine and_ri ?_ (fun _ => ?_) | refine and_li (fun _ => ?_) ?_ | (refine And.intro ?_ ?_; focus (intros; simp [*]; done)) | fail)
      intro b4 hb4; simp only [Fresh, Heap.set_none] at hb4; try simp [Heap.set_get, *]
      repeat' (first | refine Keep.go (by assumption) ?_ | refine awp_seq_k fun K hK => ?_ | (refine awp_region ?_; try simp [Heap.set_get, *]) | refine awp_block ?_ | (refine awp_ret ?_; try simp) | (refine awp_skip ?_; try simp) | (refine awp_exit ?_; try simp) | (refine KeepQ.go (by assumption) ?_; try simp [Heap.set_get, *]) | (refine awp_cond' ?_; try simp [Heap.set_get, *]) | refine And.intro (by omega) ?_ | refine And.intro (by assumption) ?_ | refine and_lf (by omega) ?_ | refine and_rf ?_ (by omega) | refine and_imps (fun _ => ?_) (fun _ => ?_) | refine arounds_k fun K hK => ?_ | refine Or.inl ⟨by omega, ?_⟩ | refine Or.inr ⟨by omega, ?_⟩ | refine or_split (fun _ => ?_) (fun _ => ?_) | exact Sub.refl _ | refine imp_in fun _ => ?_ | refine and_ri ?_ (fun _ => ?_) | refine and_li (fun _ => ?_) ?_ | (refine And.intro ?_ ?_; focus (intros; simp [*]; done)) | fail)
      all_goals first
        | exact ⟨hf.symm, by (repeat (first | exact Sub.refl _ | refine Sub.loc ?_ (by simp [*]) _))⟩
        | ((repeat (first | exact Sub.refl _ | refine Sub.loc ?_ (by simp [*]) _)); done)
        | exact absurd ⟨by omega, by omega⟩ hs
        | trace_state
  · have hf : smallL nodes = decide (nodes.length ≤ 400) := by
      simp only [smallL]
      rw [List.all_eq_true.2 fun n hm => ?_, Bool.true_and]
      obtain ⟨j, hj, rfl⟩ := List.getElem_of_mem hm
      simpa using hn j hj (by omega)
    simp (maxSteps := 10000000) only [AgainAt, hav, List.contains_cons, List.contains_nil, Bool.or_false, Nat.reduceAdd, Nat.reduceBEq, Bool.or_true, Bool.true_or, Bool.false_or, if_true, if_false, Bool.false_eq_true]
    repeat' (first | refine Keep.go (by assumption) ?_ | refine awp_seq_k fun K hK => ?_ | (refine awp_region ?_; try simp [Heap.set_get, *]) | refine awp_block ?_ | (refine awp_ret ?_; try simp) | (refine awp_skip ?_; try simp) | (refine awp_exit ?_; try simp) | (refine KeepQ.go (by assumption) ?_; try simp [Heap.set_get, *]) | (refine awp_cond' ?_; try simp [Heap.set_get, *]) | refine And.intro (by omega) ?_ | refine And.intro (by assumption) ?_ | refine and_lf (by omega) ?_ | refine and_rf ?_ (by omega) | refine and_imps (fun _ => ?_) (fun _ => ?_) | refine arounds_k fun K hK => ?_ | refine Or.inl ⟨by omega, ?_⟩ | refine Or.inr ⟨by omega, ?_⟩ | refine or_split (fun _ => ?_) (fun _ => ?_) | exact Sub.refl _ | refine imp_in fun _ => ?_ | refine and_ri ?_ (fun _ => ?_) | refine and_li (fun _ => ?_) ?_ | (refine And.intro ?_ ?_; focus (intros; simp [*]; done)) | fail)
    all_goals first
      | exact ⟨by rw [hf]; simp, by (repeat (first | exact Sub.refl _ | refine Sub.loc ?_ (by simp [*]) _))⟩
      | ((repeat (first | exact Sub.refl _ | refine Sub.loc ?_ (by simp [*]) _)); done)
      | trace_state
theorem small_ok {nodes : List Nd} (h : smallL nodes = true) : nodes.length ≤ 400 ∧ ∀ n ∈ nodes, n.kids.length ≤ 100 ∧ n.text.length ≤ 200 := by
  simp only [smallL, Bool.and_eq_true, decide_eq_true_eq, List.all_eq_true] at h
  exact ⟨h.2, h.1⟩
theorem small_nd {nodes : List Nd} (h : smallL nodes = true) (hn : ∀ n ∈ nodes, n.num ≤ 9223372036854775807) : ∀ n ∈ nodes, NdOk n := fun n hm => by
  have := (small_ok h).2 n hm
  exact ⟨by omega, by omega, hn n hm⟩
end Go.Proofs.YtmnkalojpefclaaDoor
namespace Go.Proofs.YtmnkalojpefclaaDoor
open Go Go.AL Go.Proofs
theorem cells37 : Tryd.prog.cellsOf 37 = 5 := by kernel_rfl
theorem cells3 : Tryd.prog.cellsOf 3 = 1 := by kernel_rfl
section
variable {H : Type}
theorem ints_arg {m : Nat} {d : DataW H} (hf : fitD Tryd.prog (m + 2) 35 d) : ∃ l : List Int, avL Tryd.prog (m + 2) 35 d = [.list 1 (ints l) .no] := by
  obtain ⟨l, -, h2, -, -⟩ := slice_arg (A := Int) (Q := fun _ => True) (g := fun n => [.int .i64 n]) Tryd.underlying35 (fun x hx => by
    obtain ⟨n, rfl, -⟩ := fit_int (m := m) Tryd.underlying3 hx
    exact ⟨n, trivial, avL_int Tryd.underlying3⟩) hf
  rw [cells3] at h2
  exact ⟨l, h2⟩
theorem node_arg {m : Nat} {d : DataW H} (hf : fitD Tryd.prog (m + 3) 37 d) : ∃ n : Nd, n.num ≤ 9223372036854775807 ∧ avL Tryd.prog (m + 3) 37 d = ndRow n .no := by
  obtain ⟨parts, rfl, hl, hx⟩ := fit_struct Tryd.underlying37 hf
  rcases parts with _ | ⟨d1, _ | ⟨d2, _ | ⟨d3, _ | ⟨d4, _ | ⟨d5, _ | ⟨d6, ps⟩⟩⟩⟩⟩⟩ <;> simp at hl
  simp only [List.zip_cons_cons, List.zip_nil_right, List.mem_cons, List.not_mem_nil, or_false, forall_eq_or_imp, forall_eq] at hx
  obtain ⟨h1, h2, h3, h4, h5⟩ := hx
  obtain ⟨k, rfl, -⟩ := fit_int (m := m + 1) Tryd.underlying3 h1
  obtain ⟨p, rfl, -⟩ := fit_int (m := m + 1) Tryd.underlying3 h2
  obtain ⟨t, rfl, -⟩ := fit_string (m := m + 1) Tryd.underlying9 h3
  obtain ⟨u, rfl, hw⟩ := fit_int (m := m + 1) Tryd.underlying2 h4
  obtain ⟨l, h5⟩ := ints_arg h5
  refine ⟨⟨k, p, t, u, l⟩, ?_, ?_⟩
  · simp only [Lit.wf, Bool.and_eq_true, decide_eq_true_eq] at hw
    exact hw.2
  · rw [avL_struct Tryd.underlying37]
    simp only [List.zipWith_cons_cons, List.zipWith_nil_right, List.flatten_cons, List.flatten_nil, avL_int Tryd.underlying3, avL_string Tryd.underlying9, avL_int Tryd.underlying2, h5, List.cons_append, List.nil_append, List.append_nil]
theorem tree_arg {m : Nat} {d : DataW H} (hf : fitD Tryd.prog (m + 5) 24 d) : ∃ nodes : List Nd, lawArg Tryd.prog (m + 5) 24 d = treeAV nodes .no ∧ (∀ n ∈ nodes, n.num ≤ 9223372036854775807) ∧ nodes.length ≤ maxLen := by
  obtain ⟨parts, rfl, hl, hx⟩ := fit_struct Tryd.underlying24 hf
  rcases parts with _ | ⟨d1, _ | ⟨d2, ps⟩⟩ <;> simp at hl
  simp only [List.zip_cons_cons, List.zip_nil_right, List.mem_cons, List.not_mem_nil, or_false, forall_eq] at hx
  obtain ⟨l, -, h2, h3, h4⟩ := slice_arg (A := Nd) (Q := fun n => n.num ≤ 9223372036854775807) (g := fun n => ndRow n .no) Tryd.underlying22 (fun x hx => node_arg hx) hx
  refine ⟨l, ?_, h3, h4⟩
  rw [lawArg_struct Tryd.underlying24, avL_struct Tryd.underlying24]
  simp only [List.zipWith_cons_cons, List.zipWith_nil_right, List.flatten_cons, List.flatten_nil, List.append_nil]
  rw [h2, cells37]
end
end Go.Proofs.YtmnkalojpefclaaDoor
namespace Go.Proofs.YtmnkalojpefclaaDoor
open Go Go.AL Go.Proofs
set_option maxRecDepth 100000 in
set_option maxHeartbeats 8000000 in
theorem AstChecks_c (nodes : List Nd) (hn : ∀ n ∈ nodes, n.num ≤ 9223372036854775807) (hl : nodes.length ≤ 9223372036854775807) (h : Heap) (hg : h 0 = some .gint) (R : AV → Heap → Prop) (hR : R (.bool true) h) :
    ACalls Tryd.prog 3 [treeAV nodes .no] h R := by
  refine ACalls.pure ?_ hR
  clear hR
  refine acalls_of Tryd.func3 rfl Tryd.ntmps3 (congrArg Array.toList Tryd.results3) fun Q hQ => ?_
  repeat' (first | refine Keep.go (by assumption) ?_ | refine awp_seq_k fun K hK => ?_ | (refine awp_region ?_; try simp [Heap.set_get, *]) | refine awp_block ?_ | (refine awp_ret ?_; try simp) | (refine awp_skip ?_; try simp) | (refine awp_exit ?_; try simp) | (refine KeepQ.go (by assumption) ?_; try simp [Heap.set_get, *]) | (refine awp_cond' ?_; try simp [Heap.set_get, *]) | refine And.intro (by omega) ?_ | refine And.intro (by assumption) ?_ | refine and_lf (by omega) ?_ | refine and_rf ?_ (by omega) | refine and_imps (fun _ => ?_) (fun _ => ?_) | refine arounds_k fun K hK => ?_ | refine Or.inl ⟨by omega, ?_⟩ | refine Or.inr ⟨by omega, ?_⟩ | refine or_split (fun _ => ?_) (fun _ => ?_) | exact Sub.refl _ | refine imp_in fun _ => ?_ | refine and_ri ?_ (fun _ => ?_) | refine and_li (fun _ => ?_) ?_ | (refine And.intro ?_ ?_; focus (intros; simp [*]; done)) | fail)
  intro b1 hb1; simp only [Fresh, Heap.set_none] at hb1; try simp [Heap.set_get, *]
  repeat' (first | refine Keep.go (by assumption) ?_ | refine awp_seq_k fun K hK => ?_ | (refine awp_region ?_; try simp [Heap.set_get, *]) | refine awp_block ?_ | (refine awp_ret ?_; try simp) | (refine awp_skip ?_; try simp) | (refine awp_exit ?_; try simp) | (refine KeepQ.go (by assumption) ?_; try simp [Heap.set_get, *]) | (refine awp_cond' ?_; try simp [Heap.set_get, *]) | refine And.intro (by omega) ?_ | refine And.intro (by assumption) ?_ | refine and_lf (by omega) ?_ | refine and_rf ?_ (by omega) | refine and_imps (fun _ => ?_) (fun _ => ?_) | refine arounds_k fun K hK => ?_ | refine Or.inl ⟨by omega, ?_⟩ | refine Or.inr ⟨by omega, ?_⟩ | refine or_split (fun _ => ?_) (fun _ => ?_) | exact Sub.refl _ | refine imp_in fun _ => ?_ | refine and_ri ?_ (fun _ => ?_) | refine and_li (fun _ => ?_) ?_ | (refine And.intro ?_ ?_; focus (intros; simp [*]; done)) | fail)
  refine builds_c _ ((show AL.Sub h _ by (repeat (first | exact Sub.refl _ | refine Sub.loc ?_ (by simp [*]) _))) 0 _ hg) _ ?_
  simp [Heap.set_get, *]
  repeat' (first | refine Keep.go (by assumption) ?_ | refine awp_seq_k fun K hK => ?_ | (refine awp_region ?_; try simp [Heap.set_get, *]) | refine awp_block ?_ | (refine awp_ret ?_; try simp) | (refine awp_skip ?_; try simp) | (refine awp_exit ?_; try simp) | (refine KeepQ.go (by assumption) ?_; try simp [Heap.set_get, *]) | (refine awp_cond' ?_; try simp [Heap.set_get, *]) | refine And.intro (by omega) ?_ | refine And.intro (by assumption) ?_ | refine and_lf (by omega) ?_ | refine and_rf ?_ (by omega) | refine and_imps (fun _ => ?_) (fun _ => ?_) | refine arounds_k fun K hK => ?_ | refine Or.inl ⟨by omega, ?_⟩ | refine Or.inr ⟨by omega, ?_⟩ | refine or_split (fun _ => ?_) (fun _ => ?_) | exact Sub.refl _ | refine imp_in fun _ => ?_ | refine and_ri ?_ (fun _ => ?_) | refine and_li (fun _ => ?_) ?_ | (refine And.intro ?_ ?_; focus (intros; simp [*]; done)) | fail)
  refine small2_c nodes .no hl _ _ ?_
  cases hs : smallL nodes
  · simp [Heap.set_get, *]
    repeat' (first | refine Keep.go (by assumption) ?_ | refine awp_seq_k fun K hK => ?_ | (refine awp_region ?_; try simp [Heap.set_get, *]) | refine awp_block ?_ | (refine awp_ret ?_; try simp) | (refine awp_skip ?_; try simp) | (refine awp_exit ?_; try simp) | (refine KeepQ.go (by assumption) ?_; try simp [Heap.set_get, *]) | (refine awp_cond' ?_; try simp [Heap.set_get, *]) | refine And.intro (by omega) ?_ | refine And.intro (by assumption) ?_ | refine and_lf (by omega) ?_ | refine and_rf ?_ (by omega) | refine and_imps (fun _ => ?_) (fun _ => ?_) | refine arounds_k fun K hK => ?_ | refine Or.inl ⟨by omega, ?_⟩ | refine Or.inr ⟨by omega, ?_⟩ | refine or_split (fun _ => ?_) (fun _ => ?_) | exact Sub.refl _ | refine imp_in fun _ => ?_ | refine and_ri ?_ (fun _ => ?_) | refine and_li (fun _ => ?_) ?_ | (refine And.intro ?_ ?_; focus (intros; simp [*]; done)) | fail)
    all_goals (repeat (first | exact Sub.refl _ | refine Sub.loc ?_ (by simp [*]) _))
  have hs1 := small_ok hs
  have hok := small_nd hs hn
  simp [Heap.set_get, *]
  repeat' (first | refine Keep.go (by assumption) ?_ | refine awp_seq_k fun K hK => ?_ | (refine awp_region ?_; try simp [Heap.set_get, *]) | refine awp_block ?_ | (refine awp_ret ?_; try simp) | (refine awp_skip ?_; try simp) | (refine awp_exit ?_; try simp) | (refine KeepQ.go (by assumption) ?_; try simp [Heap.set_get, *]) | (refine awp_cond' ?_; try simp [Heap.set_get, *]) | refine And.intro (by omega) ?_ | refine And.intro (by assumption) ?_ | refine and_lf (by omega) ?_ | refine and_rf ?_ (by omega) | refine and_imps (fun _ => ?_) (fun _ => ?_) | refine arounds_k fun K hK => ?_ | refine Or.inl ⟨by omega, ?_⟩ | refine Or.inr ⟨by omega, ?_⟩ | refine or_split (fun _ => ?_) (fun _ => ?_) | exact Sub.refl _ | refine imp_in fun _ => ?_ | refine and_ri ?_ (fun _ => ?_) | refine and_li (fun _ => ?_) ?_ | (refine And.intro ?_ ?_; focus (intros; simp [*]; done)) | fail)
  refine Wrong_c nodes hok (fun n hm => by have := (hs1.2 n hm).1; omega) (by omega) _ _ ?_
  simp [Heap.set_get, *]
  repeat' (first | refine Keep.go (by assumption) ?_ | refine awp_seq_k fun K hK => ?_ | (refine awp_region ?_; try simp [Heap.set_get, *]) | refine awp_block ?_ | (refine awp_ret ?_; try simp) | (refine awp_skip ?_; try simp) | (refine awp_exit ?_; try simp) | (refine KeepQ.go (by assumption) ?_; try simp [Heap.set_get, *]) | (refine awp_cond' ?_; try simp [Heap.set_get, *]) | refine And.intro (by omega) ?_ | refine And.intro (by assumption) ?_ | refine and_lf (by omega) ?_ | refine and_rf ?_ (by omega) | refine and_imps (fun _ => ?_) (fun _ => ?_) | refine arounds_k fun K hK => ?_ | refine Or.inl ⟨by omega, ?_⟩ | refine Or.inr ⟨by omega, ?_⟩ | refine or_split (fun _ => ?_) (fun _ => ?_) | exact Sub.refl _ | refine imp_in fun _ => ?_ | refine and_ri ?_ (fun _ => ?_) | refine and_li (fun _ => ?_) ?_ | (refine And.intro ?_ ?_; focus (intros; simp [*]; done)) | fail)
  refine Check_c nodes .no hok (by omega) _ ((show AL.Sub h _ by (repeat (first | exact Sub.refl _ | refine Sub.loc ?_ (by simp [*]) _))) 0 _ hg) _ ?_
  rw [check_plain]
  simp [Heap.set_get, *]
  repeat' (first | refine Keep.go (by assumption) ?_ | refine awp_seq_k fun K hK => ?_ | (refine awp_region ?_; try simp [Heap.set_get, *]) | refine awp_block ?_ | (refine awp_ret ?_; try simp) | (refine awp_skip ?_; try simp) | (refine awp_exit ?_; try simp) | (refine KeepQ.go (by assumption) ?_; try simp [Heap.set_get, *]) | (refine awp_cond' ?_; try simp [Heap.set_get, *]) | refine And.intro (by omega) ?_ | refine And.intro (by assumption) ?_ | refine and_lf (by omega) ?_ | refine and_rf ?_ (by omega) | refine and_imps (fun _ => ?_) (fun _ => ?_) | refine arounds_k fun K hK => ?_ | refine Or.inl ⟨by omega, ?_⟩ | refine Or.inr ⟨by omega, ?_⟩ | refine or_split (fun _ => ?_) (fun _ => ?_) | exact Sub.refl _ | refine imp_in fun _ => ?_ | refine and_ri ?_ (fun _ => ?_) | refine and_li (fun _ => ?_) ?_ | (refine And.intro ?_ ?_; focus (intros; simp [*]; done)) | fail)
  all_goals first
    | (repeat (first | exact Sub.refl _ | refine Sub.loc ?_ (by simp [*]) _))
end Go.Proofs.YtmnkalojpefclaaDoor
