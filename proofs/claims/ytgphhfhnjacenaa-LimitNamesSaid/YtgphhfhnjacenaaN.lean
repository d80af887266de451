import Derived.Test.YtgphhfhnjacenaaL
namespace Go.Proofs.Ytgphhfhnjacenaa
open Go Go.AL Go.Proofs
set_option maxRecDepth 100000 in
theorem names_law (n : Int) (h : Heap) : ACalls Try.prog 4 [.int .i64 n] h fun x _ => x = .bool true := by
  have e0 : IntKind.i64.wrap 0 = 0 := by decide
  have e1 : IntKind.i64.wrap 1 = 1 := by decide
  have e2 : IntKind.i64.wrap 2 = 2 := by decide
  have e3 : IntKind.i64.wrap 3 = 3 := by decide
  have hc : n = 1 ∨ n = 2 ∨ n = 3 ∨ n = 4 ∨ n < 1 ∨ 4 < n := by omega
  rcases hc with rfl | rfl | rfl | rfl | hc | hc
  iterate 4
    · refine acalls_of Try.func4 rfl Try.ntmps4 (congrArg Array.toList Try.results4) fun Q hQ => ?_
      repeat' (first | refine Keep.go (by assumption) ?_ | refine awp_seq_k fun K hK => ?_ | (refine awp_region ?_; try simp [Heap.set_get, *]) | refine awp_block ?_ | (refine awp_ret ?_; try simp) | (refine awp_skip ?_; try simp) | (refine awp_exit ?_; try simp) | (refine KeepQ.go (by assumption) ?_; try simp [Heap.set_get, *]) | (refine awp_cond' ?_; try simp [Heap.set_get, *]) | refine And.intro (fun _ => ?_) (fun _ => ?_) | fail)
      refine counts_c _ _ ?_
      simp [Heap.set_get, *]
      repeat' (first | refine Keep.go (by assumption) ?_ | refine awp_seq_k fun K hK => ?_ | (refine awp_region ?_; try simp [Heap.set_get, *]) | refine awp_block ?_ | (refine awp_ret ?_; try simp) | (refine awp_skip ?_; try simp) | (refine awp_exit ?_; try simp) | (refine KeepQ.go (by assumption) ?_; try simp [Heap.set_get, *]) | (refine awp_cond' ?_; try simp [Heap.set_get, *]) | refine And.intro (fun _ => ?_) (fun _ => ?_) | fail)
      refine Name_c _ _ _ _ rfl ?_
      simp [Heap.set_get, *]
      repeat' (first | refine Keep.go (by assumption) ?_ | refine awp_seq_k fun K hK => ?_ | (refine awp_region ?_; try simp [Heap.set_get, *]) | refine awp_block ?_ | (refine awp_ret ?_; try simp) | (refine awp_skip ?_; try simp) | (refine awp_exit ?_; try simp) | (refine KeepQ.go (by assumption) ?_; try simp [Heap.set_get, *]) | (refine awp_cond' ?_; try simp [Heap.set_get, *]) | refine And.intro (fun _ => ?_) (fun _ => ?_) | fail)
  · have k0 : ¬ 1 ≤ n := by omega
    have k1 : ¬ n = 1 := by omega
    have k2 : ¬ n = 2 := by omega
    have k3 : ¬ n = 3 := by omega
    have k4 : ¬ n = 4 := by omega
    refine acalls_of Try.func4 rfl Try.ntmps4 (congrArg Array.toList Try.results4) fun Q hQ => ?_
    repeat' (first | refine Keep.go (by assumption) ?_ | refine awp_seq_k fun K hK => ?_ | (refine awp_region ?_; try simp [Heap.set_get, *]) | refine awp_block ?_ | (refine awp_ret ?_; try simp) | (refine awp_skip ?_; try simp) | (refine awp_exit ?_; try simp) | (refine KeepQ.go (by assumption) ?_; try simp [Heap.set_get, *]) | (refine awp_cond' ?_; try simp [Heap.set_get, *]) | refine And.intro (fun _ => ?_) (fun _ => ?_) | fail)
    refine counts_c _ _ ?_
    simp [Heap.set_get, *]
    repeat' (first | refine Keep.go (by assumption) ?_ | refine awp_seq_k fun K hK => ?_ | (refine awp_region ?_; try simp [Heap.set_get, *]) | refine awp_block ?_ | (refine awp_ret ?_; try simp) | (refine awp_skip ?_; try simp) | (refine awp_exit ?_; try simp) | (refine KeepQ.go (by assumption) ?_; try simp [Heap.set_get, *]) | (refine awp_cond' ?_; try simp [Heap.set_get, *]) | refine And.intro (fun _ => ?_) (fun _ => ?_) | fail)
    refine Name_c _ _ _ _ rfl ?_
    simp [Heap.set_get, *]
    repeat' (first | refine Keep.go (by assumption) ?_ | refine awp_seq_k fun K hK => ?_ | (refine awp_region ?_; try simp [Heap.set_get, *]) | refine awp_block ?_ | (refine awp_ret ?_; try simp) | (refine awp_skip ?_; try simp) | (refine awp_exit ?_; try simp) | (refine KeepQ.go (by assumption) ?_; try simp [Heap.set_get, *]) | (refine awp_cond' ?_; try simp [Heap.set_get, *]) | refine And.intro (fun _ => ?_) (fun _ => ?_) | fail)
  · have k0 : 1 ≤ n := by omega
    have k5 : ¬ n ≤ 4 := by omega
    have k1 : ¬ n = 1 := by omega
    have k2 : ¬ n = 2 := by omega
    have k3 : ¬ n = 3 := by omega
    have k4 : ¬ n = 4 := by omega
    refine acalls_of Try.func4 rfl Try.ntmps4 (congrArg Array.toList Try.results4) fun Q hQ => ?_
    repeat' (first | refine Keep.go (by assumption) ?_ | refine awp_seq_k fun K hK => ?_ | (refine awp_region ?_; try simp [Heap.set_get, *]) | refine awp_block ?_ | (refine awp_ret ?_; try simp) | (refine awp_skip ?_; try simp) | (refine awp_exit ?_; try simp) | (refine KeepQ.go (by assumption) ?_; try simp [Heap.set_get, *]) | (refine awp_cond' ?_; try simp [Heap.set_get, *]) | refine And.intro (fun _ => ?_) (fun _ => ?_) | fail)
    refine counts_c _ _ ?_
    simp [Heap.set_get, *]
    repeat' (first | refine Keep.go (by assumption) ?_ | refine awp_seq_k fun K hK => ?_ | (refine awp_region ?_; try simp [Heap.set_get, *]) | refine awp_block ?_ | (refine awp_ret ?_; try simp) | (refine awp_skip ?_; try simp) | (refine awp_exit ?_; try simp) | (refine KeepQ.go (by assumption) ?_; try simp [Heap.set_get, *]) | (refine awp_cond' ?_; try simp [Heap.set_get, *]) | refine And.intro (fun _ => ?_) (fun _ => ?_) | fail)
    refine Name_c _ _ _ _ rfl ?_
    simp [Heap.set_get, *]
    repeat' (first | refine Keep.go (by assumption) ?_ | refine awp_seq_k fun K hK => ?_ | (refine awp_region ?_; try simp [Heap.set_get, *]) | refine awp_block ?_ | (refine awp_ret ?_; try simp) | (refine awp_skip ?_; try simp) | (refine awp_exit ?_; try simp) | (refine KeepQ.go (by assumption) ?_; try simp [Heap.set_get, *]) | (refine awp_cond' ?_; try simp [Heap.set_get, *]) | refine And.intro (fun _ => ?_) (fun _ => ?_) | fail)
end Go.Proofs.Ytgphhfhnjacenaa
