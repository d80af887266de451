import Derived.Test.YtgphhfhnjacenaaL
set_option linter.unusedSimpArgs false
set_option linter.unusedVariables false
namespace Go.Proofs.Ytgphhfhnjacenaa
open Go Go.AL Go.Proofs
set_option maxRecDepth 100000 in
set_option maxHeartbeats 4000000 in
theorem counts_law (ns : List Int) (a b c d : Int) (h : Heap) : ACalls Try.prog 5 [.list 1 (ns.map fun n => [.int .i64 n]) .no, .agg [.int .i64 a, .int .i64 b, .int .i64 c, .int .i64 d]] h fun x _ => x = .bool true := by
  refine acalls_of Try.func5 rfl Try.ntmps5 (congrArg Array.toList Try.results5) fun Q hQ => ?_
  repeat' (first | refine Keep.go (by assumption) ?_ | refine awp_seq_k fun K hK => ?_ | (refine awp_region ?_; try simp [Heap.set_get, *]) | refine awp_block ?_ | (refine awp_ret ?_; try simp) | (refine awp_skip ?_; try simp) | (refine awp_exit ?_; try simp) | (refine KeepQ.go (by assumption) ?_; try simp [Heap.set_get, *]) | (refine awp_cond' ?_; try simp [Heap.set_get, *]) | refine And.intro (fun _ => ?_) (fun _ => ?_) | refine arounds_k fun K hK => ?_ | refine Or.inl ⟨by omega, ?_⟩ | refine Or.inr ⟨by omega, ?_⟩ | fail)
  intro b1 hb1; simp only [Fresh, Heap.set_none] at hb1; try simp [Heap.set_get, *]
  repeat' (first | refine Keep.go (by assumption) ?_ | refine awp_seq_k fun K hK => ?_ | (refine awp_region ?_; try simp [Heap.set_get, *]) | refine awp_block ?_ | (refine awp_ret ?_; try simp) | (refine awp_skip ?_; try simp) | (refine awp_exit ?_; try simp) | (refine KeepQ.go (by assumption) ?_; try simp [Heap.set_get, *]) | (refine awp_cond' ?_; try simp [Heap.set_get, *]) | refine And.intro (fun _ => ?_) (fun _ => ?_) | refine arounds_k fun K hK => ?_ | refine Or.inl ⟨by omega, ?_⟩ | refine Or.inr ⟨by omega, ?_⟩ | fail)
  refine counts_c _ _ ?_
  simp [Heap.set_get, *]
  repeat' (first | refine Keep.go (by assumption) ?_ | refine awp_seq_k fun K hK => ?_ | (refine awp_region ?_; try simp [Heap.set_get, *]) | refine awp_block ?_ | (refine awp_ret ?_; try simp) | (refine awp_skip ?_; try simp) | (refine awp_exit ?_; try simp) | (refine KeepQ.go (by assumption) ?_; try simp [Heap.set_get, *]) | (refine awp_cond' ?_; try simp [Heap.set_get, *]) | refine And.intro (fun _ => ?_) (fun _ => ?_) | refine arounds_k fun K hK => ?_ | refine Or.inl ⟨by omega, ?_⟩ | refine Or.inr ⟨by omega, ?_⟩ | fail)
  refine New_c _ _ _ _ _ _ (fun p hp => ?_)
  simp [Heap.set_get, *]
  rename_i hlen
  simp only [Heap.set_none] at hp
  repeat' (first | refine Keep.go (by assumption) ?_ | refine awp_seq_k fun K hK => ?_ | (refine awp_region ?_; try simp [Heap.set_get, *]) | refine awp_block ?_ | (refine awp_ret ?_; try simp) | (refine awp_skip ?_; try simp) | (refine awp_exit ?_; try simp) | (refine KeepQ.go (by assumption) ?_; try simp [Heap.set_get, *]) | (refine awp_cond' ?_; try simp [Heap.set_get, *]) | refine And.intro (fun _ => ?_) (fun _ => ?_) | refine arounds_k fun K hK => ?_ | refine Or.inl ⟨by omega, ?_⟩ | refine Or.inr ⟨by omega, ?_⟩ | fail)
  refine Clip_c _ _ _ _ _ _ ?_
  simp [Heap.set_get, *]
  intro b2 hb2; simp only [Fresh, Heap.set_none] at hb2; try simp [Heap.set_get, *]
  repeat' (first | refine Keep.go (by assumption) ?_ | refine awp_seq_k fun K hK => ?_ | (refine awp_region ?_; try simp [Heap.set_get, *]) | refine awp_block ?_ | (refine awp_ret ?_; try simp) | (refine awp_skip ?_; try simp) | (refine awp_exit ?_; try simp) | (refine KeepQ.go (by assumption) ?_; try simp [Heap.set_get, *]) | (refine awp_cond' ?_; try simp [Heap.set_get, *]) | refine And.intro (fun _ => ?_) (fun _ => ?_) | refine arounds_k fun K hK => ?_ | refine Or.inl ⟨by omega, ?_⟩ | refine Or.inr ⟨by omega, ?_⟩ | fail)
  refine awp_loop_h [4, 7, 8, 9, 11, 12, 13, 14, 15, 16, 17, 34, 35, 36, 37, 38, 39, 40, 41, 42, 43, 44, 45, 46, 47, 48, 49, 50, 51, 52, 53, 54, 55, 56, 57, 58, 59, 60, 61, 62, 63, 64, 65, 66, 67, 68, 69, 70, 71, 72, 73, 74, 75, 76, 77, 78, 79, 80, 81, 82, 83, 84, 85, 86, 87, 88, 89, 90, 91, 92, 93, 94, 95, 96, 97, 98, 99, 100, 101, 102, 103] (fun n x g => ∃ (i : Nat) (s q m : Int), i ≤ ns.length ∧ n = ns.length - i ∧ x 34 = .int .i64 i ∧ x 7 = .int .i64 s ∧ x 8 = .int .i64 q ∧ x 9 = .int .i64 m ∧
    (0 ≤ s ∧ s ≤ i) ∧ (0 ≤ q ∧ q ≤ i) ∧ g p = some (meter (min (max a 0) 16777216) (min (max b 0) 262144) (min (max c 0) 4096) (min (max d 0) 1048576) s q m) ∧
    g b2 = some (.cells [.int .i64 (min (max a 0) 16777216), .int .i64 (min (max b 0) 262144), .int .i64 (min (max c 0) 4096), .int .i64 (min (max d 0) 1048576)])) ns.length
    ⟨0, 0, 0, 0, by omega, by omega, rfl, rfl, rfl, rfl, by omega, by omega, by simp [Heap.set_get, *], by simp [Heap.set_get, *]⟩ (fun n x g hI K hK => ?_)
  have n1 : ¬ p = b2 := fun e => by simp [e] at hb2
  have n2 : ¬ b2 = p := fun e => n1 e.symm
  clear hb1 hp hb2
  obtain ⟨i, s, q, m, hi, rfl, x34, x7, x8, x9, hs, hq, gp, gb2⟩ := hI
  have w1 : IntKind.i64.wrap (s + 1) = s + 1 := w64 (by omega) (by omega)
  have w0 : IntKind.i64.wrap ((i : Int) + 1) = i + 1 := w64 (by omega) (by omega)
  have w2 : IntKind.i64.wrap (q + 1) = q + 1 := w64 (by omega) (by omega)
  simp only [AgainAt, hav, List.contains_cons, List.contains_nil, Bool.or_false, Nat.reduceAdd, Nat.reduceBEq, Bool.or_true, Bool.true_or, Bool.false_or, if_true, if_false, Bool.false_eq_true]
  repeat' (first | refine Keep.go (by assumption) ?_ | refine awp_seq_k fun K hK => ?_ | (refine awp_region ?_; try simp [Heap.set_get, *]) | refine awp_block ?_ | (refine awp_ret ?_; try simp) | (refine awp_skip ?_; try simp) | (refine awp_exit ?_; try simp) | (refine KeepQ.go (by assumption) ?_; try simp [Heap.set_get, *]) | (refine awp_cond' ?_; try simp [Heap.set_get, *]) | refine And.intro (fun _ => ?_) (fun _ => ?_) | refine arounds_k fun K hK => ?_ | refine Or.inl ⟨by omega, ?_⟩ | refine Or.inr ⟨by omega, ?_⟩ | fail)
  · by_cases hA : min (max a 0) 16777216 ≤ s
    · have hA' : ¬ s < min (max a 0) 16777216 := by omega
      refine Step_c _ _ _ _ _ _ _ _ _ gp _ ?_
      simp [Heap.set_get, *]
      repeat' (first | refine Keep.go (by assumption) ?_ | refine awp_seq_k fun K hK => ?_ | (refine awp_region ?_; try simp [Heap.set_get, *]) | refine awp_block ?_ | (refine awp_ret ?_; try simp) | (refine awp_skip ?_; try simp) | (refine awp_exit ?_; try simp) | (refine KeepQ.go (by assumption) ?_; try simp [Heap.set_get, *]) | (refine awp_cond' ?_; try simp [Heap.set_get, *]) | refine And.intro (fun _ => ?_) (fun _ => ?_) | refine arounds_k fun K hK => ?_ | refine Or.inl ⟨by omega, ?_⟩ | refine Or.inr ⟨by omega, ?_⟩ | fail)
      refine Used_c p _ _ _ _ _ _ _ _ gp _ ?_
      simp [Heap.set_get, *]
      repeat' (first | refine Keep.go (by assumption) ?_ | refine awp_seq_k fun K hK => ?_ | (refine awp_region ?_; try simp [Heap.set_get, *]) | refine awp_block ?_ | (refine awp_ret ?_; try simp) | (refine awp_skip ?_; try simp) | (refine awp_exit ?_; try simp) | (refine KeepQ.go (by assumption) ?_; try simp [Heap.set_get, *]) | (refine awp_cond' ?_; try simp [Heap.set_get, *]) | refine And.intro (fun _ => ?_) (fun _ => ?_) | refine arounds_k fun K hK => ?_ | refine Or.inl ⟨by omega, ?_⟩ | refine Or.inr ⟨by omega, ?_⟩ | fail)
      exact ⟨by simp [hav], rfl, ns.length - (i + 1), _, by omega, Sub.refl _, i + 1, s, q, m, by omega, rfl, by simp, rfl, rfl, rfl, by omega, by omega, by simp [Heap.set_get, *], by simp [Heap.set_get, *]⟩
    · have hA' : s < min (max a 0) 16777216 := by omega
      refine Step_c _ _ _ _ _ _ _ _ _ gp _ ?_
      simp [Heap.set_get, *]
      repeat' (first | refine Keep.go (by assumption) ?_ | refine awp_seq_k fun K hK => ?_ | (refine awp_region ?_; try simp [Heap.set_get, *]) | refine awp_block ?_ | (refine awp_ret ?_; try simp) | (refine awp_skip ?_; try simp) | (refine awp_exit ?_; try simp) | (refine KeepQ.go (by assumption) ?_; try simp [Heap.set_get, *]) | (refine awp_cond' ?_; try simp [Heap.set_get, *]) | refine And.intro (fun _ => ?_) (fun _ => ?_) | refine arounds_k fun K hK => ?_ | refine Or.inl ⟨by omega, ?_⟩ | refine Or.inr ⟨by omega, ?_⟩ | fail)
      refine Used_c p _ _ _ _ _ _ _ _ (by simp [Heap.set_get, *]; exact ⟨rfl, rfl, rfl, rfl, rfl, rfl, rfl⟩) _ ?_
      simp [Heap.set_get, *]
      repeat' (first | refine Keep.go (by assumption) ?_ | refine awp_seq_k fun K hK => ?_ | (refine awp_region ?_; try simp [Heap.set_get, *]) | refine awp_block ?_ | (refine awp_ret ?_; try simp) | (refine awp_skip ?_; try simp) | (refine awp_exit ?_; try simp) | (refine KeepQ.go (by assumption) ?_; try simp [Heap.set_get, *]) | (refine awp_cond' ?_; try simp [Heap.set_get, *]) | refine And.intro (fun _ => ?_) (fun _ => ?_) | refine arounds_k fun K hK => ?_ | refine Or.inl ⟨by omega, ?_⟩ | refine Or.inr ⟨by omega, ?_⟩ | fail)
      exact ⟨by simp [hav], rfl, ns.length - (i + 1), _, by omega, Sub.refl _, i + 1, s + 1, q, m, by omega, rfl, by simp, rfl, rfl, rfl, by omega, by omega, by simp [Heap.set_get, *], by simp [Heap.set_get, *]⟩
  · by_cases hA : min (max c 0) 4096 ≤ q
    · have hA' : ¬ q < min (max c 0) 4096 := by omega
      refine Enter_c _ _ _ _ _ _ _ _ _ gp _ ?_
      simp [Heap.set_get, *]
      repeat' (first | refine Keep.go (by assumption) ?_ | refine awp_seq_k fun K hK => ?_ | (refine awp_region ?_; try simp [Heap.set_get, *]) | refine awp_block ?_ | (refine awp_ret ?_; try simp) | (refine awp_skip ?_; try simp) | (refine awp_exit ?_; try simp) | (refine KeepQ.go (by assumption) ?_; try simp [Heap.set_get, *]) | (refine awp_cond' ?_; try simp [Heap.set_get, *]) | refine And.intro (fun _ => ?_) (fun _ => ?_) | refine arounds_k fun K hK => ?_ | refine Or.inl ⟨by omega, ?_⟩ | refine Or.inr ⟨by omega, ?_⟩ | fail)
      refine Used_c p _ _ _ _ _ _ _ _ gp _ ?_
      simp [Heap.set_get, *]
      repeat' (first | refine Keep.go (by assumption) ?_ | refine awp_seq_k fun K hK => ?_ | (refine awp_region ?_; try simp [Heap.set_get, *]) | refine awp_block ?_ | (refine awp_ret ?_; try simp) | (refine awp_skip ?_; try simp) | (refine awp_exit ?_; try simp) | (refine KeepQ.go (by assumption) ?_; try simp [Heap.set_get, *]) | (refine awp_cond' ?_; try simp [Heap.set_get, *]) | refine And.intro (fun _ => ?_) (fun _ => ?_) | refine arounds_k fun K hK => ?_ | refine Or.inl ⟨by omega, ?_⟩ | refine Or.inr ⟨by omega, ?_⟩ | fail)
      exact ⟨by simp [hav], rfl, ns.length - (i + 1), _, by omega, Sub.refl _, i + 1, s, q, m, by omega, rfl, by simp, rfl, rfl, rfl, by omega, by omega, by simp [Heap.set_get, *], by simp [Heap.set_get, *]⟩
    · have hA' : q < min (max c 0) 4096 := by omega
      refine Enter_c _ _ _ _ _ _ _ _ _ gp _ ?_
      simp [Heap.set_get, *]
      repeat' (first | refine Keep.go (by assumption) ?_ | refine awp_seq_k fun K hK => ?_ | (refine awp_region ?_; try simp [Heap.set_get, *]) | refine awp_block ?_ | (refine awp_ret ?_; try simp) | (refine awp_skip ?_; try simp) | (refine awp_exit ?_; try simp) | (refine KeepQ.go (by assumption) ?_; try simp [Heap.set_get, *]) | (refine awp_cond' ?_; try simp [Heap.set_get, *]) | refine And.intro (fun _ => ?_) (fun _ => ?_) | refine arounds_k fun K hK => ?_ | refine Or.inl ⟨by omega, ?_⟩ | refine Or.inr ⟨by omega, ?_⟩ | fail)
      refine Used_c p _ _ _ _ _ _ _ _ (by simp [Heap.set_get, *]; exact ⟨rfl, rfl, rfl, rfl, rfl, rfl, rfl⟩) _ ?_
      simp [Heap.set_get, *]
      repeat' (first | refine Keep.go (by assumption) ?_ | refine awp_seq_k fun K hK => ?_ | (refine awp_region ?_; try simp [Heap.set_get, *]) | refine awp_block ?_ | (refine awp_ret ?_; try simp) | (refine awp_skip ?_; try simp) | (refine awp_exit ?_; try simp) | (refine KeepQ.go (by assumption) ?_; try simp [Heap.set_get, *]) | (refine awp_cond' ?_; try simp [Heap.set_get, *]) | refine And.intro (fun _ => ?_) (fun _ => ?_) | refine arounds_k fun K hK => ?_ | refine Or.inl ⟨by omega, ?_⟩ | refine Or.inr ⟨by omega, ?_⟩ | fail)
      exact ⟨by simp [hav], rfl, ns.length - (i + 1), _, by omega, Sub.refl _, i + 1, s, q + 1, max m (q + 1), by omega, rfl, by simp, rfl, rfl, rfl, by omega, by omega, by simp [Heap.set_get, *], by simp [Heap.set_get, *]⟩
  · rename_i k1 k2 k3 k4
    have wn : IntKind.i64.wrap (-ns[i]) = -ns[i] := w64 (by omega) (by omega)
    rw [wn]
    generalize hy : -ns[i] = y
    clear wn
    have wq : IntKind.i64.wrap (q - y) = q - y := w64 (by omega) (by omega)
    have wm : max 0 y = y := by omega
    refine Leave_c _ _ _ _ _ _ _ _ _ _ gp _ ?_
    simp [Heap.set_get, *]
    repeat' (first | refine Keep.go (by assumption) ?_ | refine awp_seq_k fun K hK => ?_ | (refine awp_region ?_; try simp [Heap.set_get, *]) | refine awp_block ?_ | (refine awp_ret ?_; try simp) | (refine awp_skip ?_; try simp) | (refine awp_exit ?_; try simp) | (refine KeepQ.go (by assumption) ?_; try simp [Heap.set_get, *]) | (refine awp_cond' ?_; try simp [Heap.set_get, *]) | refine And.intro (fun _ => ?_) (fun _ => ?_) | refine arounds_k fun K hK => ?_ | refine Or.inl ⟨by omega, ?_⟩ | refine Or.inr ⟨by omega, ?_⟩ | fail)
    refine Used_c p _ _ _ _ _ _ _ _ (by simp [Heap.set_get, *]; exact ⟨rfl, rfl, rfl, rfl, rfl, rfl, rfl⟩) _ ?_
    simp [Heap.set_get, *]
    repeat' (first | refine Keep.go (by assumption) ?_ | refine awp_seq_k fun K hK => ?_ | (refine awp_region ?_; try simp [Heap.set_get, *]) | refine awp_block ?_ | (refine awp_ret ?_; try simp) | (refine awp_skip ?_; try simp) | (refine awp_exit ?_; try simp) | (refine KeepQ.go (by assumption) ?_; try simp [Heap.set_get, *]) | (refine awp_cond' ?_; try simp [Heap.set_get, *]) | refine And.intro (fun _ => ?_) (fun _ => ?_) | refine arounds_k fun K hK => ?_ | refine Or.inl ⟨by omega, ?_⟩ | refine Or.inr ⟨by omega, ?_⟩ | fail)
    exact ⟨by simp [hav], rfl, ns.length - (i + 1), _, by omega, Sub.refl _, i + 1, s, max 0 (q - y), m, by omega, rfl, by simp, rfl, rfl, rfl, by omega, by omega, by simp [Heap.set_get, *], by simp [Heap.set_get, *]⟩
  · have wq : IntKind.i64.wrap (q - 3) = q - 3 := w64 (by omega) (by omega)
    have wm : max 0 (3 : Int) = 3 := by decide
    refine Leave_c _ _ _ _ _ _ _ _ _ _ gp _ ?_
    simp [Heap.set_get, *]
    repeat' (first | refine Keep.go (by assumption) ?_ | refine awp_seq_k fun K hK => ?_ | (refine awp_region ?_; try simp [Heap.set_get, *]) | refine awp_block ?_ | (refine awp_ret ?_; try simp) | (refine awp_skip ?_; try simp) | (refine awp_exit ?_; try simp) | (refine KeepQ.go (by assumption) ?_; try simp [Heap.set_get, *]) | (refine awp_cond' ?_; try simp [Heap.set_get, *]) | refine And.intro (fun _ => ?_) (fun _ => ?_) | refine arounds_k fun K hK => ?_ | refine Or.inl ⟨by omega, ?_⟩ | refine Or.inr ⟨by omega, ?_⟩ | fail)
    refine Used_c p _ _ _ _ _ _ _ _ (by simp [Heap.set_get, *]; exact ⟨rfl, rfl, rfl, rfl, rfl, rfl, rfl⟩) _ ?_
    simp [Heap.set_get, *]
    repeat' (first | refine Keep.go (by assumption) ?_ | refine awp_seq_k fun K hK => ?_ | (refine awp_region ?_; try simp [Heap.set_get, *]) | refine awp_block ?_ | (refine awp_ret ?_; try simp) | (refine awp_skip ?_; try simp) | (refine awp_exit ?_; try simp) | (refine KeepQ.go (by assumption) ?_; try simp [Heap.set_get, *]) | (refine awp_cond' ?_; try simp [Heap.set_get, *]) | refine And.intro (fun _ => ?_) (fun _ => ?_) | refine arounds_k fun K hK => ?_ | refine Or.inl ⟨by omega, ?_⟩ | refine Or.inr ⟨by omega, ?_⟩ | fail)
    exact ⟨by simp [hav], rfl, ns.length - (i + 1), _, by omega, Sub.refl _, i + 1, s, max 0 (q - 3), m, by omega, rfl, by simp, rfl, rfl, rfl, by omega, by omega, by simp [Heap.set_get, *], by simp [Heap.set_get, *]⟩
  · have wq : IntKind.i64.wrap q = q := w64 (by omega) (by omega)
    have wm : max 0 q = q := by omega
    have wm5 : max 0 (-5 : Int) = 0 := by decide
    refine Leave_c _ _ _ _ _ _ _ _ _ _ gp _ ?_
    simp [Heap.set_get, *]
    repeat' (first | refine Keep.go (by assumption) ?_ | refine awp_seq_k fun K hK => ?_ | (refine awp_region ?_; try simp [Heap.set_get, *]) | refine awp_block ?_ | (refine awp_ret ?_; try simp) | (refine awp_skip ?_; try simp) | (refine awp_exit ?_; try simp) | (refine KeepQ.go (by assumption) ?_; try simp [Heap.set_get, *]) | (refine awp_cond' ?_; try simp [Heap.set_get, *]) | refine And.intro (fun _ => ?_) (fun _ => ?_) | refine arounds_k fun K hK => ?_ | refine Or.inl ⟨by omega, ?_⟩ | refine Or.inr ⟨by omega, ?_⟩ | fail)
    refine Used_c p _ _ _ _ _ _ _ _ (by simp [Heap.set_get, *]; exact ⟨rfl, rfl, rfl, rfl, rfl, rfl, rfl⟩) _ ?_
    simp [Heap.set_get, *]
    repeat' (first | refine Keep.go (by assumption) ?_ | refine awp_seq_k fun K hK => ?_ | (refine awp_region ?_; try simp [Heap.set_get, *]) | refine awp_block ?_ | (refine awp_ret ?_; try simp) | (refine awp_skip ?_; try simp) | (refine awp_exit ?_; try simp) | (refine KeepQ.go (by assumption) ?_; try simp [Heap.set_get, *]) | (refine awp_cond' ?_; try simp [Heap.set_get, *]) | refine And.intro (fun _ => ?_) (fun _ => ?_) | refine arounds_k fun K hK => ?_ | refine Or.inl ⟨by omega, ?_⟩ | refine Or.inr ⟨by omega, ?_⟩ | fail)
end Go.Proofs.Ytgphhfhnjacenaa
