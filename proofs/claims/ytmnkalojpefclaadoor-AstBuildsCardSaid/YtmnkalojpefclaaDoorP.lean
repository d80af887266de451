/-
  Contracts of functions that reach no library that is laid.
-/
import Derived.Test.YtmnkalojpefclaaDoorF
set_option linter.unusedSimpArgs false
set_option linter.unusedVariables false
namespace Go.Proofs.YtmnkalojpefclaaDoor
open Go Go.AL Go.Proofs
abbrev strs (l : List (List UInt8)) : List (List AV) := l.map fun p => [.str p]
theorem w64 {n : Int} (h0 : -9223372036854775808 ≤ n) (h1 : n ≤ 9223372036854775807) : IntKind.i64.wrap n = n := by rw [IntKind.wrap_i64]; omega

set_option maxRecDepth 100000 in
theorem Index_c (l : List (List UInt8)) (v : List UInt8) (tok : Tok) (hl : l.length < 9223372036854775807) (h : Heap) (R : AV → Heap → Prop) (hR : ∀ k : Int, (0 ≤ k ↔ v ∈ l) → R (.int .i64 k) h) :
    ACalls Tryd.prog 52 [.list 1 (strs l) tok, .str v] h R := by
  refine ACalls.subR (R := fun y h' => ∃ k : Int, y = .int .i64 k ∧ (0 ≤ k ↔ v ∈ l) ∧ h' = h) ?_ (fun x h' ⟨k, h1, h2, h3⟩ => ⟨h, h3 ▸ Sub.refl _, h1 ▸ hR k h2⟩)
  clear hR
  refine acalls_of Tryd.func52 rfl Tryd.ntmps52 (congrArg Array.toList Tryd.results52) fun Q hQ => ?_
  repeat' (first | refine Keep.go (by assumption) ?_ | refine awp_seq_k fun K hK => ?_ | (refine awp_region ?_; try simp [Heap.set_get, *]) | refine awp_block ?_ | (refine awp_ret ?_; try simp) | (refine awp_skip ?_; try simp) | (refine awp_exit ?_; try simp) | (refine KeepQ.go (by assumption) ?_; try simp [Heap.set_get, *]) | (refine awp_cond' ?_; try simp [Heap.set_get, *]) | refine And.intro (by omega) ?_ | refine And.intro (by assumption) ?_ | refine and_lf (by omega) ?_ | refine and_rf ?_ (by omega) | refine and_imps (fun _ => ?_) (fun _ => ?_) | refine arounds_k fun K hK => ?_ | refine Or.inl ⟨by omega, ?_⟩ | refine Or.inr ⟨by omega, ?_⟩ | refine or_split (fun _ => ?_) (fun _ => ?_) | exact Sub.refl _ | refine imp_in fun _ => ?_ | refine and_ri ?_ (fun _ => ?_) | refine and_li (fun _ => ?_) ?_ | (refine And.intro ?_ ?_; focus (intros; simp [*]; done)) | fail)
  refine awp_loop_h [4, 5, 8, 9, 10, 11, 12, 13, 14, 15, 16, 17, 18] (fun n x g => ∃ i : Nat, i ≤ l.length ∧ n = l.length - i ∧ x 8 = .int .i64 i ∧ (∀ j, j < i → l[j]? ≠ some v) ∧ g = h) l.length ⟨0, by omega, by omega, rfl, by simp, rfl⟩ (fun n x g hI K hK => ?_)
  obtain ⟨i, hi, rfl, hx, hn, rfl⟩ := hI
  have w1 : IntKind.i64.wrap ((i : Int) + 1) = i + 1 := w64 (by omega) (by omega)
  simp (maxSteps := 10000000) only [AgainAt, hav, List.contains_cons, List.contains_nil, Bool.or_false, Nat.reduceAdd, Nat.reduceBEq, Bool.or_true, Bool.true_or, Bool.false_or, if_true, if_false, Bool.false_eq_true]
  repeat' (first | refine Keep.go (by assumption) ?_ | refine awp_seq_k fun K hK => ?_ | (refine awp_region ?_; try simp [Heap.set_get, *]) | refine awp_block ?_ | (refine awp_ret ?_; try simp) | (refine awp_skip ?_; try simp) | (refine awp_exit ?_; try simp) | (refine KeepQ.go (by assumption) ?_; try simp [Heap.set_get, *]) | (refine awp_cond' ?_; try simp [Heap.set_get, *]) | refine And.intro (by omega) ?_ | refine And.intro (by assumption) ?_ | refine and_lf (by omega) ?_ | refine and_rf ?_ (by omega) | refine and_imps (fun _ => ?_) (fun _ => ?_) | refine arounds_k fun K hK => ?_ | refine Or.inl ⟨by omega, ?_⟩ | refine Or.inr ⟨by omega, ?_⟩ | refine or_split (fun _ => ?_) (fun _ => ?_) | exact Sub.refl _ | refine imp_in fun _ => ?_ | refine and_ri ?_ (fun _ => ?_) | refine and_li (fun _ => ?_) ?_ | (refine And.intro ?_ ?_; focus (intros; simp [*]; done)) | fail)
  · have h1 : i < l.length := by assumption
    have h2 : ¬ v = l[i] := by assumption
    have hj : ∀ j, j < i + 1 → l[j]? ≠ some v := fun j hj e => by
      by_cases hji : j < i
      · exact hn j hji e
      · have : j = i := by omega
        subst this
        rw [List.getElem?_eq_getElem h1] at e
        exact h2 (Option.some.inj e).symm
    exact ⟨by simp [hav], rfl, l.length - (i + 1), _, by omega, Sub.refl _, i + 1, by omega, rfl, by simp, hj, rfl⟩
  · rename_i h2
    obtain ⟨j, hj, e⟩ := List.getElem_of_mem h2
    exact hn j (by omega) (by rw [List.getElem?_eq_getElem hj, e])

theorem Has_c (l : List (List UInt8)) (v : List UInt8) (tok : Tok) (hl : l.length < 9223372036854775807) (h : Heap) (R : AV → Heap → Prop) (hR : R (.bool (decide (v ∈ l))) h) :
    ACalls Tryd.prog 39 [.list 1 (strs l) tok, .str v] h R := by
  refine ACalls.pure ?_ hR
  refine acalls_of Tryd.func39 rfl Tryd.ntmps39 (congrArg Array.toList Tryd.results39) fun Q hQ => ?_
  repeat' (first | refine Keep.go (by assumption) ?_ | refine awp_seq_k fun K hK => ?_ | (refine awp_region ?_; try simp [Heap.set_get, *]) | refine awp_block ?_ | (refine awp_ret ?_; try simp) | (refine awp_skip ?_; try simp) | (refine awp_exit ?_; try simp) | (refine KeepQ.go (by assumption) ?_; try simp [Heap.set_get, *]) | (refine awp_cond' ?_; try simp [Heap.set_get, *]) | refine And.intro (by omega) ?_ | refine And.intro (by assumption) ?_ | refine and_lf (by omega) ?_ | refine and_rf ?_ (by omega) | refine and_imps (fun _ => ?_) (fun _ => ?_) | refine arounds_k fun K hK => ?_ | refine Or.inl ⟨by omega, ?_⟩ | refine Or.inr ⟨by omega, ?_⟩ | refine or_split (fun _ => ?_) (fun _ => ?_) | exact Sub.refl _ | refine imp_in fun _ => ?_ | refine and_ri ?_ (fun _ => ?_) | refine and_li (fun _ => ?_) ?_ | (refine And.intro ?_ ?_; focus (intros; simp [*]; done)) | fail)
  refine Index_c l v tok hl _ _ (fun k hk => ?_)
  simp [Heap.set_get, hk, *]
  repeat' (first | refine Keep.go (by assumption) ?_ | refine awp_seq_k fun K hK => ?_ | (refine awp_region ?_; try simp [Heap.set_get, *]) | refine awp_block ?_ | (refine awp_ret ?_; try simp) | (refine awp_skip ?_; try simp) | (refine awp_exit ?_; try simp) | (refine KeepQ.go (by assumption) ?_; try simp [Heap.set_get, *]) | (refine awp_cond' ?_; try simp [Heap.set_get, *]) | refine And.intro (by omega) ?_ | refine And.intro (by assumption) ?_ | refine and_lf (by omega) ?_ | refine and_rf ?_ (by omega) | refine and_imps (fun _ => ?_) (fun _ => ?_) | refine arounds_k fun K hK => ?_ | refine Or.inl ⟨by omega, ?_⟩ | refine Or.inr ⟨by omega, ?_⟩ | refine or_split (fun _ => ?_) (fun _ => ?_) | exact Sub.refl _ | refine imp_in fun _ => ?_ | refine and_ri ?_ (fun _ => ?_) | refine and_li (fun _ => ?_) ?_ | (refine And.intro ?_ ?_; focus (intros; simp [*]; done)) | fail)
  all_goals ((repeat (refine Sub.loc ?_ (by simp [Heap.set_get, *]) _)); first | exact Sub.refl _ | exact (Sub.refl _).upd _ _ | assumption)

theorem Expr_c (k : Int) (h : Heap) (R : AV → Heap → Prop) (hR : R (.bool (decide (1 ≤ k) && decide (k ≤ 21))) h) : ACalls Tryd.prog 15 [.int .i64 k] h R := by
  refine ACalls.pure ?_ hR
  clear hR
  refine acalls_of Tryd.func15 rfl Tryd.ntmps15 (congrArg Array.toList Tryd.results15) fun Q hQ => ?_
  repeat' (first | refine Keep.go (by assumption) ?_ | refine awp_seq_k fun K hK => ?_ | (refine awp_region ?_; try simp [Heap.set_get, *]) | refine awp_block ?_ | (refine awp_ret ?_; try simp) | (refine awp_skip ?_; try simp) | (refine awp_exit ?_; try simp) | (refine KeepQ.go (by assumption) ?_; try simp [Heap.set_get, *]) | (refine awp_cond' ?_; try simp [Heap.set_get, *]) | refine And.intro (by omega) ?_ | refine And.intro (by assumption) ?_ | refine and_lf (by omega) ?_ | refine and_rf ?_ (by omega) | refine and_imps (fun _ => ?_) (fun _ => ?_) | refine arounds_k fun K hK => ?_ | refine Or.inl ⟨by omega, ?_⟩ | refine Or.inr ⟨by omega, ?_⟩ | refine or_split (fun _ => ?_) (fun _ => ?_) | exact Sub.refl _ | refine imp_in fun _ => ?_ | refine and_ri ?_ (fun _ => ?_) | refine and_li (fun _ => ?_) ?_ | (refine And.intro ?_ ?_; focus (intros; simp [*]; done)) | fail)
  all_goals exact Sub.refl _

theorem Stmt_c (k : Int) (h : Heap) (R : AV → Heap → Prop) (hR : R (.bool (decide (26 ≤ k) && decide (k < 44))) h) : ACalls Tryd.prog 17 [.int .i64 k] h R := by
  refine ACalls.pure ?_ hR
  clear hR
  refine acalls_of Tryd.func17 rfl Tryd.ntmps17 (congrArg Array.toList Tryd.results17) fun Q hQ => ?_
  repeat' (first | refine Keep.go (by assumption) ?_ | refine awp_seq_k fun K hK => ?_ | (refine awp_region ?_; try simp [Heap.set_get, *]) | refine awp_block ?_ | (refine awp_ret ?_; try simp) | (refine awp_skip ?_; try simp) | (refine awp_exit ?_; try simp) | (refine KeepQ.go (by assumption) ?_; try simp [Heap.set_get, *]) | (refine awp_cond' ?_; try simp [Heap.set_get, *]) | refine And.intro (by omega) ?_ | refine And.intro (by assumption) ?_ | refine and_lf (by omega) ?_ | refine and_rf ?_ (by omega) | refine and_imps (fun _ => ?_) (fun _ => ?_) | refine arounds_k fun K hK => ?_ | refine Or.inl ⟨by omega, ?_⟩ | refine Or.inr ⟨by omega, ?_⟩ | refine or_split (fun _ => ?_) (fun _ => ?_) | exact Sub.refl _ | refine imp_in fun _ => ?_ | refine and_ri ?_ (fun _ => ?_) | refine and_li (fun _ => ?_) ?_ | (refine And.intro ?_ ?_; focus (intros; simp [*]; done)) | fail)
  all_goals exact Sub.refl _

theorem Target_c (k : Int) (h : Heap) (R : AV → Heap → Prop) (hR : R (.bool (decide (k = 6) || decide (k = 8) || decide (k = 14) || decide (k = 15))) h) : ACalls Tryd.prog 18 [.int .i64 k] h R := by
  refine ACalls.pure ?_ hR
  clear hR
  refine acalls_of Tryd.func18 rfl Tryd.ntmps18 (congrArg Array.toList Tryd.results18) fun Q hQ => ?_
  repeat' (first | refine Keep.go (by assumption) ?_ | refine awp_seq_k fun K hK => ?_ | (refine awp_region ?_; try simp [Heap.set_get, *]) | refine awp_block ?_ | (refine awp_ret ?_; try simp) | (refine awp_skip ?_; try simp) | (refine awp_exit ?_; try simp) | (refine KeepQ.go (by assumption) ?_; try simp [Heap.set_get, *]) | (refine awp_cond' ?_; try simp [Heap.set_get, *]) | refine And.intro (by omega) ?_ | refine And.intro (by assumption) ?_ | refine and_lf (by omega) ?_ | refine and_rf ?_ (by omega) | refine and_imps (fun _ => ?_) (fun _ => ?_) | refine arounds_k fun K hK => ?_ | refine Or.inl ⟨by omega, ?_⟩ | refine Or.inr ⟨by omega, ?_⟩ | refine or_split (fun _ => ?_) (fun _ => ?_) | exact Sub.refl _ | refine imp_in fun _ => ?_ | refine and_ri ?_ (fun _ => ?_) | refine and_li (fun _ => ?_) ?_ | (refine And.intro ?_ ?_; focus (intros; simp [*]; done)) | fail)
  all_goals exact Sub.refl _

theorem Literal_c (k : Int) (h : Heap) (R : AV → Heap → Prop) (hR : R (.bool (decide (1 ≤ k) && decide (k ≤ 5))) h) : ACalls Tryd.prog 19 [.int .i64 k] h R := by
  refine ACalls.pure ?_ hR
  clear hR
  refine acalls_of Tryd.func19 rfl Tryd.ntmps19 (congrArg Array.toList Tryd.results19) fun Q hQ => ?_
  repeat' (first | refine Keep.go (by assumption) ?_ | refine awp_seq_k fun K hK => ?_ | (refine awp_region ?_; try simp [Heap.set_get, *]) | refine awp_block ?_ | (refine awp_ret ?_; try simp) | (refine awp_skip ?_; try simp) | (refine awp_exit ?_; try simp) | (refine KeepQ.go (by assumption) ?_; try simp [Heap.set_get, *]) | (refine awp_cond' ?_; try simp [Heap.set_get, *]) | refine And.intro (by omega) ?_ | refine And.intro (by assumption) ?_ | refine and_lf (by omega) ?_ | refine and_rf ?_ (by omega) | refine and_imps (fun _ => ?_) (fun _ => ?_) | refine arounds_k fun K hK => ?_ | refine Or.inl ⟨by omega, ?_⟩ | refine Or.inr ⟨by omega, ?_⟩ | refine or_split (fun _ => ?_) (fun _ => ?_) | exact Sub.refl _ | refine imp_in fun _ => ?_ | refine and_ri ?_ (fun _ => ?_) | refine and_li (fun _ => ?_) ?_ | (refine And.intro ?_ ?_; focus (intros; simp [*]; done)) | fail)
  all_goals exact Sub.refl _
end Go.Proofs.YtmnkalojpefclaaDoor
