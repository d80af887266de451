import Derived.Test.YtgphhfhnjacenaaF
set_option linter.unusedSimpArgs false
set_option linter.unusedVariables false
namespace Go.Proofs.Ytgphhfhnjacenaa
open Go Go.AL Go.Proofs
theorem clip_c (n m : Int) (h : Heap) (R : AV → Heap → Prop) (hR : R (.int .i64 (min (max n 0) m)) h) : ACalls Try.prog 16 [.int .i64 n, .int .i64 m] h R := by
  refine ACalls.pure (x := .int .i64 (min (max n 0) m)) ?_ hR
  refine acalls_of Try.func16 rfl Try.ntmps16 (congrArg Array.toList Try.results16) fun Q hQ => ?_
  repeat' (first | refine Keep.go (by assumption) ?_ | refine awp_seq_k fun K hK => ?_ | (refine awp_region ?_; try simp [Heap.set_get, *]) | refine awp_block ?_ | (refine awp_ret ?_; try simp) | (refine awp_skip ?_; try simp) | (refine awp_exit ?_; try simp) | (refine KeepQ.go (by assumption) ?_; try simp [Heap.set_get, *]) | (refine awp_cond' ?_; try simp [Heap.set_get, *]) | refine And.intro (fun _ => ?_) (fun _ => ?_) | fail)
  exact Sub.refl _
theorem most_c (h : Heap) (R : AV → Heap → Prop) (hR : R (.agg [.int .i64 16777216, .int .i64 262144, .int .i64 4096, .int .i64 1048576]) h) : ACalls Try.prog 8 [] h R := by
  refine ACalls.pure ?_ hR
  refine acalls_of Try.func8 rfl Try.ntmps8 (congrArg Array.toList Try.results8) fun Q hQ => ?_
  repeat' (first | refine Keep.go (by assumption) ?_ | refine awp_seq_k fun K hK => ?_ | (refine awp_region ?_; try simp [Heap.set_get, *]) | refine awp_block ?_ | (refine awp_ret ?_; try simp) | (refine awp_skip ?_; try simp) | (refine awp_exit ?_; try simp) | (refine KeepQ.go (by assumption) ?_; try simp [Heap.set_get, *]) | (refine awp_cond' ?_; try simp [Heap.set_get, *]) | refine And.intro (fun _ => ?_) (fun _ => ?_) | fail)
  intro b hb; simp only [Fresh, Heap.set_none] at hb; try simp [Heap.set_get, *]
  repeat' (first | refine Keep.go (by assumption) ?_ | refine awp_seq_k fun K hK => ?_ | (refine awp_region ?_; try simp [Heap.set_get, *]) | refine awp_block ?_ | (refine awp_ret ?_; try simp) | (refine awp_skip ?_; try simp) | (refine awp_exit ?_; try simp) | (refine KeepQ.go (by assumption) ?_; try simp [Heap.set_get, *]) | (refine awp_cond' ?_; try simp [Heap.set_get, *]) | refine And.intro (fun _ => ?_) (fun _ => ?_) | fail)
  (repeat (refine Sub.loc ?_ (by simp [Heap.set_get, *]) _)); first | exact Sub.refl _ | exact (Sub.refl _).upd _ _ | assumption
theorem Clip_c (a b c d : Int) (h : Heap) (R : AV → Heap → Prop) (hR : R (.agg [.int .i64 (min (max a 0) 16777216), .int .i64 (min (max b 0) 262144), .int .i64 (min (max c 0) 4096), .int .i64 (min (max d 0) 1048576)]) h) :
    ACalls Try.prog 7 [.agg [.int .i64 a, .int .i64 b, .int .i64 c, .int .i64 d]] h R := by
  refine ACalls.pure ?_ hR
  refine acalls_of Try.func7 rfl Try.ntmps7 (congrArg Array.toList Try.results7) fun Q hQ => ?_
  repeat' (first | refine Keep.go (by assumption) ?_ | refine awp_seq_k fun K hK => ?_ | (refine awp_region ?_; try simp [Heap.set_get, *]) | refine awp_block ?_ | (refine awp_ret ?_; try simp) | (refine awp_skip ?_; try simp) | (refine awp_exit ?_; try simp) | (refine KeepQ.go (by assumption) ?_; try simp [Heap.set_get, *]) | (refine awp_cond' ?_; try simp [Heap.set_get, *]) | refine And.intro (fun _ => ?_) (fun _ => ?_) | fail)
  intro b1 hb1; simp only [Fresh, Heap.set_none] at hb1; try simp [Heap.set_get, *]
  intro b2 hb2; simp only [Fresh, Heap.set_none] at hb2; try simp [Heap.set_get, *]
  repeat' (first | refine Keep.go (by assumption) ?_ | refine awp_seq_k fun K hK => ?_ | (refine awp_region ?_; try simp [Heap.set_get, *]) | refine awp_block ?_ | (refine awp_ret ?_; try simp) | (refine awp_skip ?_; try simp) | (refine awp_exit ?_; try simp) | (refine KeepQ.go (by assumption) ?_; try simp [Heap.set_get, *]) | (refine awp_cond' ?_; try simp [Heap.set_get, *]) | refine And.intro (fun _ => ?_) (fun _ => ?_) | fail)
  refine most_c _ _ ?_
  simp [Heap.set_get, *]
  intro b3 hb3; simp only [Fresh, Heap.set_none] at hb3; try simp [Heap.set_get, *]
  repeat' (first | refine Keep.go (by assumption) ?_ | refine awp_seq_k fun K hK => ?_ | (refine awp_region ?_; try simp [Heap.set_get, *]) | refine awp_block ?_ | (refine awp_ret ?_; try simp) | (refine awp_skip ?_; try simp) | (refine awp_exit ?_; try simp) | (refine KeepQ.go (by assumption) ?_; try simp [Heap.set_get, *]) | (refine awp_cond' ?_; try simp [Heap.set_get, *]) | refine And.intro (fun _ => ?_) (fun _ => ?_) | fail)
  refine awp_region_draw [b1, b3] [(0, true), (1, true), (2, true), (3, true), (5, true), (6, true), (7, true), (8, true), (10, true), (11, true), (12, true), (13, true), (15, true), (16, true), (17, true), (18, true), (4, false), (9, false), (14, false), (19, false), (20, true)] [21] follows (by kernel_rfl) rfl (by kernel_rfl) ?_; simp [Heap.set_get, Heap.plus_set, *]
  iterate 4 (refine clip_c _ _ _ _ ?_; simp [Heap.set_get, *])
  repeat' (first | refine Keep.go (by assumption) ?_ | refine awp_seq_k fun K hK => ?_ | (refine awp_region ?_; try simp [Heap.set_get, *]) | refine awp_block ?_ | (refine awp_ret ?_; try simp) | (refine awp_skip ?_; try simp) | (refine awp_exit ?_; try simp) | (refine KeepQ.go (by assumption) ?_; try simp [Heap.set_get, *]) | (refine awp_cond' ?_; try simp [Heap.set_get, *]) | refine And.intro (fun _ => ?_) (fun _ => ?_) | fail)
  (repeat (refine Sub.loc ?_ (by simp [Heap.set_get, *]) _)); first | exact Sub.refl _ | exact (Sub.refl _).upd _ _ | assumption
@[simp] def meter (a b c d s p m : Int) : Blk := .cells [.int .i64 a, .int .i64 b, .int .i64 c, .int .i64 d, .int .i64 s, .int .i64 p, .int .i64 m]
theorem New_c (a b c d : Int) (h : Heap) (R : AV → Heap → Prop)
    (hR : ∀ p, h p = none → R (.ptr p 0) (h.set p (meter (min (max a 0) 16777216) (min (max b 0) 262144) (min (max c 0) 4096) (min (max d 0) 1048576) 0 0 0))) :
    ACalls Try.prog 9 [.agg [.int .i64 a, .int .i64 b, .int .i64 c, .int .i64 d]] h R := by
  refine ACalls.subR (R := fun y h' => ∃ p, h p = none ∧ y = .ptr p 0 ∧ Sub (h.set p (meter (min (max a 0) 16777216) (min (max b 0) 262144) (min (max c 0) 4096) (min (max d 0) 1048576) 0 0 0)) h') ?_ (fun x h' ⟨p, h1, h2, h3⟩ => ⟨_, h3, h2 ▸ hR p h1⟩)
  refine acalls_of Try.func9 rfl Try.ntmps9 (congrArg Array.toList Try.results9) fun Q hQ => ?_
  repeat' (first | refine Keep.go (by assumption) ?_ | refine awp_seq_k fun K hK => ?_ | (refine awp_region ?_; try simp [Heap.set_get, *]) | refine awp_block ?_ | (refine awp_ret ?_; try simp) | (refine awp_skip ?_; try simp) | (refine awp_exit ?_; try simp) | (refine KeepQ.go (by assumption) ?_; try simp [Heap.set_get, *]) | (refine awp_cond' ?_; try simp [Heap.set_get, *]) | refine And.intro (fun _ => ?_) (fun _ => ?_) | fail)
  intro b1 hb1; simp only [Fresh, Heap.set_none] at hb1; try simp [Heap.set_get, *]
  repeat' (first | refine Keep.go (by assumption) ?_ | refine awp_seq_k fun K hK => ?_ | (refine awp_region ?_; try simp [Heap.set_get, *]) | refine awp_block ?_ | (refine awp_ret ?_; try simp) | (refine awp_skip ?_; try simp) | (refine awp_exit ?_; try simp) | (refine KeepQ.go (by assumption) ?_; try simp [Heap.set_get, *]) | (refine awp_cond' ?_; try simp [Heap.set_get, *]) | refine And.intro (fun _ => ?_) (fun _ => ?_) | fail)
  refine Clip_c _ _ _ _ _ _ ?_
  simp [Heap.set_get, *]
  intro b2 hb2; simp only [Fresh, Heap.set_none] at hb2; try simp [Heap.set_get, *]
  repeat' (first | refine Keep.go (by assumption) ?_ | refine awp_seq_k fun K hK => ?_ | (refine awp_region ?_; try simp [Heap.set_get, *]) | refine awp_block ?_ | (refine awp_ret ?_; try simp) | (refine awp_skip ?_; try simp) | (refine awp_exit ?_; try simp) | (refine KeepQ.go (by assumption) ?_; try simp [Heap.set_get, *]) | (refine awp_cond' ?_; try simp [Heap.set_get, *]) | refine And.intro (fun _ => ?_) (fun _ => ?_) | fail)
  exact ⟨b2, hb2.2.2, rfl, ((Sub.refl h).loc hb1 _).upd _ _⟩
theorem Limits_c (p : Nat) (a b c d s q m : Int) (h : Heap) (hp : h p = some (meter a b c d s q m)) (R : AV → Heap → Prop) (hR : R (.agg [.int .i64 a, .int .i64 b, .int .i64 c, .int .i64 d]) h) :
    ACalls Try.prog 10 [.ptr p 0] h R := by
  refine ACalls.pure ?_ hR
  refine acalls_of Try.func10 rfl Try.ntmps10 (congrArg Array.toList Try.results10) fun Q hQ => ?_
  repeat' (first | refine Keep.go (by assumption) ?_ | refine awp_seq_k fun K hK => ?_ | (refine awp_region ?_; try simp [Heap.set_get, *]) | refine awp_block ?_ | (refine awp_ret ?_; try simp) | (refine awp_skip ?_; try simp) | (refine awp_exit ?_; try simp) | (refine KeepQ.go (by assumption) ?_; try simp [Heap.set_get, *]) | (refine awp_cond' ?_; try simp [Heap.set_get, *]) | refine And.intro (fun _ => ?_) (fun _ => ?_) | fail)
  intro b1 hb1; simp only [Fresh, Heap.set_none] at hb1; have n_b1_p := ne_of_fresh hp (b := b1) (by simp [*]); try simp [Heap.set_get, *]
  repeat' (first | refine Keep.go (by assumption) ?_ | refine awp_seq_k fun K hK => ?_ | (refine awp_region ?_; try simp [Heap.set_get, *]) | refine awp_block ?_ | (refine awp_ret ?_; try simp) | (refine awp_skip ?_; try simp) | (refine awp_exit ?_; try simp) | (refine KeepQ.go (by assumption) ?_; try simp [Heap.set_get, *]) | (refine awp_cond' ?_; try simp [Heap.set_get, *]) | refine And.intro (fun _ => ?_) (fun _ => ?_) | fail)
  (repeat (refine Sub.loc ?_ (by simp [Heap.set_get, *]) _)); first | exact Sub.refl _ | exact (Sub.refl _).upd _ _ | assumption
theorem Name_c (n : Int) (h : Heap) (R : AV → Heap → Prop) (x : List UInt8) (hx : x = if n = 1 then [115, 116, 101, 112, 115] else if n = 2 then [99, 101, 108, 108, 115] else if n = 3 then [100, 101, 112, 116, 104] else if n = 4 then [111, 117, 116, 112, 117, 116] else []) (hR : R (.str x) h) :
    ACalls Try.prog 11 [.int .i64 n] h R := by
  refine ACalls.pure ?_ hR
  clear hR
  subst hx
  refine acalls_of Try.func11 rfl Try.ntmps11 (congrArg Array.toList Try.results11) fun Q hQ => ?_
  repeat' (first | refine Keep.go (by assumption) ?_ | refine awp_seq_k fun K hK => ?_ | (refine awp_region ?_; try simp [Heap.set_get, *]) | refine awp_block ?_ | (refine awp_ret ?_; try simp) | (refine awp_skip ?_; try simp) | (refine awp_exit ?_; try simp) | (refine KeepQ.go (by assumption) ?_; try simp [Heap.set_get, *]) | (refine awp_cond' ?_; try simp [Heap.set_get, *]) | refine And.intro (fun _ => ?_) (fun _ => ?_) | fail)
  all_goals exact Sub.refl _
theorem Step_c (p : Nat) (a b c d s q m : Int) (h : Heap) (hp : h p = some (meter a b c d s q m)) (R : AV → Heap → Prop)
    (hR : R (.int .i64 (if a ≤ s then 40 else 0)) (if a ≤ s then h else h.set p (meter a b c d (IntKind.i64.wrap (s + 1)) q m))) : ACalls Try.prog 12 [.ptr p 0] h R := by
  refine ACalls.subR (R := fun y h' => y = .int .i64 (if a ≤ s then 40 else 0) ∧ h' = if a ≤ s then h else h.set p (meter a b c d (IntKind.i64.wrap (s + 1)) q m)) ?_ (fun x h' ⟨h1, h2⟩ => ⟨h', Sub.refl _, by rw [h1, h2]; exact hR⟩)
  clear hR
  refine acalls_of Try.func12 rfl Try.ntmps12 (congrArg Array.toList Try.results12) fun Q hQ => ?_
  repeat' (first | refine Keep.go (by assumption) ?_ | refine awp_seq_k fun K hK => ?_ | (refine awp_region ?_; try simp [Heap.set_get, *]) | refine awp_block ?_ | (refine awp_ret ?_; try simp) | (refine awp_skip ?_; try simp) | (refine awp_exit ?_; try simp) | (refine KeepQ.go (by assumption) ?_; try simp [Heap.set_get, *]) | (refine awp_cond' ?_; try simp [Heap.set_get, *]) | refine And.intro (fun _ => ?_) (fun _ => ?_) | fail)
  refine awp_region_quiet follows (by kernel_rfl) ?_; simp [Heap.set_get, *]
  repeat' (first | refine Keep.go (by assumption) ?_ | refine awp_seq_k fun K hK => ?_ | (refine awp_region ?_; try simp [Heap.set_get, *]) | refine awp_block ?_ | (refine awp_ret ?_; try simp) | (refine awp_skip ?_; try simp) | (refine awp_exit ?_; try simp) | (refine KeepQ.go (by assumption) ?_; try simp [Heap.set_get, *]) | (refine awp_cond' ?_; try simp [Heap.set_get, *]) | refine And.intro (fun _ => ?_) (fun _ => ?_) | fail)
  all_goals (intro hc; omega)
theorem Enter_c (p : Nat) (a b c d s q m : Int) (h : Heap) (hp : h p = some (meter a b c d s q m)) (R : AV → Heap → Prop)
    (hR : R (.int .i64 (if c ≤ q then 40 else 0)) (if c ≤ q then h else h.set p (meter a b c d s (IntKind.i64.wrap (q + 1)) (max m (IntKind.i64.wrap (q + 1)))))) : ACalls Try.prog 13 [.ptr p 0] h R := by
  refine ACalls.subR (R := fun y h' => y = .int .i64 (if c ≤ q then 40 else 0) ∧ h' = if c ≤ q then h else h.set p (meter a b c d s (IntKind.i64.wrap (q + 1)) (max m (IntKind.i64.wrap (q + 1))))) ?_ (fun x h' ⟨h1, h2⟩ => ⟨h', Sub.refl _, by rw [h1, h2]; exact hR⟩)
  clear hR
  refine acalls_of Try.func13 rfl Try.ntmps13 (congrArg Array.toList Try.results13) fun Q hQ => ?_
  repeat' (first | refine Keep.go (by assumption) ?_ | refine awp_seq_k fun K hK => ?_ | (refine awp_region ?_; try simp [Heap.set_get, *]) | refine awp_block ?_ | (refine awp_ret ?_; try simp) | (refine awp_skip ?_; try simp) | (refine awp_exit ?_; try simp) | (refine KeepQ.go (by assumption) ?_; try simp [Heap.set_get, *]) | (refine awp_cond' ?_; try simp [Heap.set_get, *]) | refine And.intro (fun _ => ?_) (fun _ => ?_) | fail)
  refine awp_region_quiet follows (by kernel_rfl) ?_; simp [Heap.set_get, *]
  repeat' (first | refine Keep.go (by assumption) ?_ | refine awp_seq_k fun K hK => ?_ | (refine awp_region ?_; try simp [Heap.set_get, *]) | refine awp_block ?_ | (refine awp_ret ?_; try simp) | (refine awp_skip ?_; try simp) | (refine awp_exit ?_; try simp) | (refine KeepQ.go (by assumption) ?_; try simp [Heap.set_get, *]) | (refine awp_cond' ?_; try simp [Heap.set_get, *]) | refine And.intro (fun _ => ?_) (fun _ => ?_) | fail)
  refine awp_region_draw [p] [(0, true), (1, true), (2, true), (3, true), (4, true), (5, true), (6, true), (7, true), (8, true), (9, true)] [10, 11, 12] follows (by kernel_rfl) rfl (by kernel_rfl) ?_; simp [Heap.set_get, Heap.plus_set, *]
  repeat' (first | refine Keep.go (by assumption) ?_ | refine awp_seq_k fun K hK => ?_ | (refine awp_region ?_; try simp [Heap.set_get, *]) | refine awp_block ?_ | (refine awp_ret ?_; try simp) | (refine awp_skip ?_; try simp) | (refine awp_exit ?_; try simp) | (refine KeepQ.go (by assumption) ?_; try simp [Heap.set_get, *]) | (refine awp_cond' ?_; try simp [Heap.set_get, *]) | refine And.intro (fun _ => ?_) (fun _ => ?_) | fail)
  all_goals (intro hc; omega)
theorem Leave_c (p : Nat) (a b c d s q m n : Int) (h : Heap) (hp : h p = some (meter a b c d s q m)) (R : AV → Heap → Prop)
    (hR : R (.tup []) (h.set p (meter a b c d s (max 0 (IntKind.i64.wrap (q - max 0 n))) m))) : ACalls Try.prog 14 [.ptr p 0, .int .i64 n] h R := by
  refine ACalls.subR (R := fun y h' => y = .tup [] ∧ h' = h.set p (meter a b c d s (max 0 (IntKind.i64.wrap (q - max 0 n))) m)) ?_ (fun x h' ⟨h1, h2⟩ => ⟨h', Sub.refl _, by rw [h1, h2]; exact hR⟩)
  clear hR
  refine acalls_of Try.func14 rfl Try.ntmps14 (congrArg Array.toList Try.results14) fun Q hQ => ?_
  repeat' (first | refine Keep.go (by assumption) ?_ | refine awp_seq_k fun K hK => ?_ | (refine awp_region ?_; try simp [Heap.set_get, *]) | refine awp_block ?_ | (refine awp_ret ?_; try simp) | (refine awp_skip ?_; try simp) | (refine awp_exit ?_; try simp) | (refine KeepQ.go (by assumption) ?_; try simp [Heap.set_get, *]) | (refine awp_cond' ?_; try simp [Heap.set_get, *]) | refine And.intro (fun _ => ?_) (fun _ => ?_) | fail)
theorem Used_c (p : Nat) (a b c d s q m : Int) (h : Heap) (hp : h p = some (meter a b c d s q m)) (R : AV → Heap → Prop)
    (hR : R (.tup [.int .i64 s, .int .i64 q, .int .i64 m]) h) : ACalls Try.prog 15 [.ptr p 0] h R := by
  refine ACalls.pure ?_ hR
  refine acalls_of Try.func15 rfl Try.ntmps15 (congrArg Array.toList Try.results15) fun Q hQ => ?_
  repeat' (first | refine Keep.go (by assumption) ?_ | refine awp_seq_k fun K hK => ?_ | (refine awp_region ?_; try simp [Heap.set_get, *]) | refine awp_block ?_ | (refine awp_ret ?_; try simp) | (refine awp_skip ?_; try simp) | (refine awp_exit ?_; try simp) | (refine KeepQ.go (by assumption) ?_; try simp [Heap.set_get, *]) | (refine awp_cond' ?_; try simp [Heap.set_get, *]) | refine And.intro (fun _ => ?_) (fun _ => ?_) | fail)
  refine awp_region_quiet follows (by kernel_rfl) ?_; simp [Heap.set_get, *]
  repeat' (first | refine Keep.go (by assumption) ?_ | refine awp_seq_k fun K hK => ?_ | (refine awp_region ?_; try simp [Heap.set_get, *]) | refine awp_block ?_ | (refine awp_ret ?_; try simp) | (refine awp_skip ?_; try simp) | (refine awp_exit ?_; try simp) | (refine KeepQ.go (by assumption) ?_; try simp [Heap.set_get, *]) | (refine awp_cond' ?_; try simp [Heap.set_get, *]) | refine And.intro (fun _ => ?_) (fun _ => ?_) | fail)
  all_goals exact Sub.refl _
end Go.Proofs.Ytgphhfhnjacenaa
