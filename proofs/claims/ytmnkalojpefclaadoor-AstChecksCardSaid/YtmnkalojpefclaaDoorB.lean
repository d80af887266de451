import Derived.Test.YtmnkalojpefclaaDoorP
set_option linter.unusedSimpArgs false
set_option linter.unusedVariables false
namespace Go.Proofs.YtmnkalojpefclaaDoor
open Go Go.AL Go.Proofs
abbrev has (w k : Int) : Bool := decide (¬ bitAnd .i64 w k = 0)
def fitsL (k w : Int) : Bool :=
  if bitAnd .i64 w 1 = 0 then
  if bitAnd .i64 w 2 = 0 then
  if bitAnd .i64 w 4 = 0 then
  if bitAnd .i64 w 8 = 0 then
  if bitAnd .i64 w 16 = 0 then
  if bitAnd .i64 w 32 = 0 then
  if bitAnd .i64 w 64 = 0 then
  if bitAnd .i64 w 128 = 0 then
  if bitAnd .i64 w 256 = 0 then
  if bitAnd .i64 w 512 = 0 then
  if bitAnd .i64 w 1024 = 0 then
  if bitAnd .i64 w 2048 = 0 then false
  else decide (k = 27) || decide (k = 28)
  else decide (k = 26) || decide (k = 29)
  else decide (k = 26)
  else decide (k = 20)
  else decide (k = 25)
  else decide (k = 24)
  else decide (k = 23)
  else decide (k = 22)
  else decide (1 ≤ k) && decide (k ≤ 5)
  else decide (k = 6) || decide (k = 8) || decide (k = 14) || decide (k = 15)
  else decide (26 ≤ k) && decide (k < 44)
  else decide (1 ≤ k) && decide (k ≤ 21)
set_option maxRecDepth 100000 in
theorem fits_c (k w : Int) (h : Heap) (R : AV → Heap → Prop) (hR : R (.bool (fitsL k w)) h) : ACalls Tryd.prog 50 [.int .i64 k, .int .i64 w] h R := by
  refine ACalls.pure ?_ hR
  clear hR
  unfold fitsL
  refine acalls_of Tryd.func50 rfl Tryd.ntmps50 (congrArg Array.toList Tryd.results50) fun Q hQ => ?_
  repeat' (first | refine Keep.go (by assumption) ?_ | refine awp_seq_k fun K hK => ?_ | (refine awp_region ?_; try simp [Heap.set_get, *]) | refine awp_block ?_ | (refine awp_ret ?_; try simp) | (refine awp_skip ?_; try simp) | (refine awp_exit ?_; try simp) | (refine KeepQ.go (by assumption) ?_; try simp [Heap.set_get, *]) | (refine awp_cond' ?_; try simp [Heap.set_get, *]) | refine And.intro (by omega) ?_ | refine And.intro (by assumption) ?_ | refine and_lf (by omega) ?_ | refine and_rf ?_ (by omega) | refine and_imps (fun _ => ?_) (fun _ => ?_) | refine arounds_k fun K hK => ?_ | refine Or.inl ⟨by omega, ?_⟩ | refine Or.inr ⟨by omega, ?_⟩ | refine or_split (fun _ => ?_) (fun _ => ?_) | exact Sub.refl _ | refine imp_in fun _ => ?_ | refine and_ri ?_ (fun _ => ?_) | refine and_li (fun _ => ?_) ?_ | (refine And.intro ?_ ?_; focus (intros; simp [*]; done)) | fail)
  all_goals (first | refine Expr_c _ _ _ ?_ | refine Stmt_c _ _ _ ?_ | refine Target_c _ _ _ ?_ | refine Literal_c _ _ _ ?_)
  all_goals (simp [*]; repeat' (first | refine Keep.go (by assumption) ?_ | refine awp_seq_k fun K hK => ?_ | (refine awp_region ?_; try simp [Heap.set_get, *]) | refine awp_block ?_ | (refine awp_ret ?_; try simp) | (refine awp_skip ?_; try simp) | (refine awp_exit ?_; try simp) | (refine KeepQ.go (by assumption) ?_; try simp [Heap.set_get, *]) | (refine awp_cond' ?_; try simp [Heap.set_get, *]) | refine And.intro (by omega) ?_ | refine And.intro (by assumption) ?_ | refine and_lf (by omega) ?_ | refine and_rf ?_ (by omega) | refine and_imps (fun _ => ?_) (fun _ => ?_) | refine arounds_k fun K hK => ?_ | refine Or.inl ⟨by omega, ?_⟩ | refine Or.inr ⟨by omega, ?_⟩ | refine or_split (fun _ => ?_) (fun _ => ?_) | exact Sub.refl _ | refine imp_in fun _ => ?_ | refine and_ri ?_ (fun _ => ?_) | refine and_li (fun _ => ?_) ?_ | (refine And.intro ?_ ?_; focus (intros; simp [*]; done)) | fail))

/-- dreyref09.Is. -/
def isL (k : Int) (l : Int) : Bool :=
  if l = 69 then decide (1 ≤ k) && decide (k ≤ 21)
  else if l = 83 then decide (26 ≤ k) && decide (k ≤ 43)
  else if l = 84 then decide (k = 6) || decide (k = 8) || decide (k = 14) || decide (k = 15)
  else if l = 76 then decide (1 ≤ k) && decide (k ≤ 5)
  else if l = 80 then decide (k = 22)
  else if l = 77 then decide (k = 23)
  else if l = 67 then decide (k = 24)
  else if l = 73 then decide (k = 25)
  else if l = 66 then decide (k = 26)
  else if l = 88 then decide (k = 26) || decide (k = 29)
  else if l = 70 then decide (k = 27) || decide (k = 28)
  else false
set_option maxRecDepth 100000 in
theorem Is_c (k l : Int) (h : Heap) (R : AV → Heap → Prop) (hR : R (.bool (isL k l)) h) : ACalls Tryd.prog 16 [.int .i64 k, .int .u8 l] h R := by
  refine ACalls.pure ?_ hR
  clear hR
  unfold isL
  refine acalls_of Tryd.func16 rfl Tryd.ntmps16 (congrArg Array.toList Tryd.results16) fun Q hQ => ?_
  repeat' (first | refine Keep.go (by assumption) ?_ | refine awp_seq_k fun K hK => ?_ | (refine awp_region ?_; try simp [Heap.set_get, *]) | refine awp_block ?_ | (refine awp_ret ?_; try simp) | (refine awp_skip ?_; try simp) | (refine awp_exit ?_; try simp) | (refine KeepQ.go (by assumption) ?_; try simp [Heap.set_get, *]) | (refine awp_cond' ?_; try simp [Heap.set_get, *]) | refine And.intro (by omega) ?_ | refine And.intro (by assumption) ?_ | refine and_lf (by omega) ?_ | refine and_rf ?_ (by omega) | refine and_imps (fun _ => ?_) (fun _ => ?_) | refine arounds_k fun K hK => ?_ | refine Or.inl ⟨by omega, ?_⟩ | refine Or.inr ⟨by omega, ?_⟩ | refine or_split (fun _ => ?_) (fun _ => ?_) | exact Sub.refl _ | refine imp_in fun _ => ?_ | refine and_ri ?_ (fun _ => ?_) | refine and_li (fun _ => ?_) ?_ | (refine And.intro ?_ ?_; focus (intros; simp [*]; done)) | fail)
  all_goals trace_state

/-- A byte that may stand in a name. -/
def innerL (c : Int) : Bool := decide (c = 95) || decide (48 ≤ c) && decide (c ≤ 57) || decide (65 ≤ c) && decide (c ≤ 90) || decide (97 ≤ c) && decide (c ≤ 122)
theorem Inner_c (c : Int) (h : Heap) (R : AV → Heap → Prop) (hR : R (.bool (innerL c)) h) : ACalls Tryd.prog 53 [.int .u8 c] h R := by
  refine ACalls.pure ?_ hR
  clear hR
  unfold innerL
  refine acalls_of Tryd.func53 rfl Tryd.ntmps53 (congrArg Array.toList Tryd.results53) fun Q hQ => ?_
  repeat' (first | refine Keep.go (by assumption) ?_ | refine awp_seq_k fun K hK => ?_ | (refine awp_region ?_; try simp [Heap.set_get, *]) | refine awp_block ?_ | (refine awp_ret ?_; try simp) | (refine awp_skip ?_; try simp) | (refine awp_exit ?_; try simp) | (refine KeepQ.go (by assumption) ?_; try simp [Heap.set_get, *]) | (refine awp_cond' ?_; try simp [Heap.set_get, *]) | refine And.intro (by omega) ?_ | refine And.intro (by assumption) ?_ | refine and_lf (by omega) ?_ | refine and_rf ?_ (by omega) | refine and_imps (fun _ => ?_) (fun _ => ?_) | refine arounds_k fun K hK => ?_ | refine Or.inl ⟨by omega, ?_⟩ | refine Or.inr ⟨by omega, ?_⟩ | refine or_split (fun _ => ?_) (fun _ => ?_) | exact Sub.refl _ | refine imp_in fun _ => ?_ | refine and_ri ?_ (fun _ => ?_) | refine and_li (fun _ => ?_) ?_ | (refine And.intro ?_ ?_; focus (intros; simp [*]; done)) | fail)
  all_goals trace_state
end Go.Proofs.YtmnkalojpefclaaDoor
