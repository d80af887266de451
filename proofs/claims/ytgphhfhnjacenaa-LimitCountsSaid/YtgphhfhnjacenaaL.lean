import Derived.Test.YtgphhfhnjacenaaC
set_option linter.unusedSimpArgs false
set_option linter.unusedVariables false
namespace Go.Proofs.Ytgphhfhnjacenaa
open Go Go.AL Go.Proofs
theorem w64 {n : Int} (h0 : -9223372036854775808 ≤ n) (h1 : n ≤ 9223372036854775807) : IntKind.i64.wrap n = n := by rw [IntKind.wrap_i64]; omega
set_option maxRecDepth 100000 in
theorem counts_c (h : Heap) (R : AV → Heap → Prop) (hR : R (.bool true) h) : ACalls Try.prog 6 [] h R := by
  refine ACalls.pure ?_ hR
  have e1 : IntKind.i64.wrap (0 + 1) = 1 := by decide
  have e2 : IntKind.i64.wrap (1 + 1) = 2 := by decide
  have e3 : IntKind.i64.wrap 1 = 1 := by decide
  have e4 : IntKind.i64.wrap 2 = 2 := by decide
  have e5 : max (0 : Int) 1 = 1 := by decide
  refine acalls_of Try.func6 rfl Try.ntmps6 (congrArg Array.toList Try.results6) fun Q hQ => ?_
  repeat' (first | refine Keep.go (by assumption) ?_ | refine awp_seq_k fun K hK => ?_ | (refine awp_region ?_; try simp [Heap.set_get, *]) | refine awp_block ?_ | (refine awp_ret ?_; try simp) | (refine awp_skip ?_; try simp) | (refine awp_exit ?_; try simp) | (refine KeepQ.go (by assumption) ?_; try simp [Heap.set_get, *]) | (refine awp_cond' ?_; try simp [Heap.set_get, *]) | refine And.intro (fun _ => ?_) (fun _ => ?_) | fail)
  refine New_c _ _ _ _ _ _ (fun p hp => ?_)
  simp [Heap.set_get, Int.min_def, Int.max_def, *]
  repeat' (first | refine Keep.go (by assumption) ?_ | refine awp_seq_k fun K hK => ?_ | (refine awp_region ?_; try simp [Heap.set_get, *]) | refine awp_block ?_ | (refine awp_ret ?_; try simp) | (refine awp_skip ?_; try simp) | (refine awp_exit ?_; try simp) | (refine KeepQ.go (by assumption) ?_; try simp [Heap.set_get, *]) | (refine awp_cond' ?_; try simp [Heap.set_get, *]) | refine And.intro (fun _ => ?_) (fun _ => ?_) | fail)
  refine Step_c _ _ _ _ _ _ _ _ _ (Heap.set_same _ _ _) _ ?_
  simp [Heap.set_get, *]
  refine Step_c _ _ _ _ _ _ _ _ _ (Heap.set_same _ _ _) _ ?_
  simp [Heap.set_get, *]
  refine Step_c _ _ _ _ _ _ _ _ _ (Heap.set_same _ _ _) _ ?_
  simp [Heap.set_get, *]
  refine Enter_c _ _ _ _ _ _ _ _ _ (Heap.set_same _ _ _) _ ?_
  simp [Heap.set_get, *]
  refine Enter_c _ _ _ _ _ _ _ _ _ (Heap.set_same _ _ _) _ ?_
  simp [Heap.set_get, *]
  repeat' (first | refine Keep.go (by assumption) ?_ | refine awp_seq_k fun K hK => ?_ | (refine awp_region ?_; try simp [Heap.set_get, *]) | refine awp_block ?_ | (refine awp_ret ?_; try simp) | (refine awp_skip ?_; try simp) | (refine awp_exit ?_; try simp) | (refine KeepQ.go (by assumption) ?_; try simp [Heap.set_get, *]) | (refine awp_cond' ?_; try simp [Heap.set_get, *]) | refine And.intro (fun _ => ?_) (fun _ => ?_) | fail)
  refine Used_c _ _ _ _ _ _ _ _ _ (Heap.set_same _ _ _) _ ?_
  simp [Heap.set_get, *]
  repeat' (first | refine Keep.go (by assumption) ?_ | refine awp_seq_k fun K hK => ?_ | (refine awp_region ?_; try simp [Heap.set_get, *]) | refine awp_block ?_ | (refine awp_ret ?_; try simp) | (refine awp_skip ?_; try simp) | (refine awp_exit ?_; try simp) | (refine KeepQ.go (by assumption) ?_; try simp [Heap.set_get, *]) | (refine awp_cond' ?_; try simp [Heap.set_get, *]) | refine And.intro (fun _ => ?_) (fun _ => ?_) | fail)
  refine most_c _ _ ?_
  simp [Heap.set_get, *]
  intro b hb; simp only [Fresh, Heap.set_none] at hb; try simp [Heap.set_get, *]
  repeat' (first | refine Keep.go (by assumption) ?_ | refine awp_seq_k fun K hK => ?_ | (refine awp_region ?_; try simp [Heap.set_get, *]) | refine awp_block ?_ | (refine awp_ret ?_; try simp) | (refine awp_skip ?_; try simp) | (refine awp_exit ?_; try simp) | (refine KeepQ.go (by assumption) ?_; try simp [Heap.set_get, *]) | (refine awp_cond' ?_; try simp [Heap.set_get, *]) | refine And.intro (fun _ => ?_) (fun _ => ?_) | fail)
  refine Name_c _ _ _ _ rfl ?_
  simp [Heap.set_get, *]
  refine Name_c _ _ _ _ rfl ?_
  simp [Heap.set_get, *]
  refine Limits_c p _ _ _ _ _ _ _ _ (by simp [Heap.set_get, *]; exact ⟨rfl, rfl, rfl, rfl, rfl, rfl, rfl⟩) _ ?_
  simp [Heap.set_get, *]
  repeat' (first | refine Keep.go (by assumption) ?_ | refine awp_seq_k fun K hK => ?_ | (refine awp_region ?_; try simp [Heap.set_get, *]) | refine awp_block ?_ | (refine awp_ret ?_; try simp) | (refine awp_skip ?_; try simp) | (refine awp_exit ?_; try simp) | (refine KeepQ.go (by assumption) ?_; try simp [Heap.set_get, *]) | (refine awp_cond' ?_; try simp [Heap.set_get, *]) | refine And.intro (fun _ => ?_) (fun _ => ?_) | fail)
  (repeat (refine Sub.loc ?_ (by simp [Heap.set_get, *]) _)); first | exact Sub.refl _ | exact (Sub.refl _).upd _ _ | assumption
end Go.Proofs.Ytgphhfhnjacenaa
