import Derived.Test.YtmnkalojpefclaaDoorY
import Derived.Test.YtmnkalojpefclaaDoorZ
set_option linter.unusedSimpArgs false
set_option linter.unusedVariables false
namespace Go.Proofs.YtmnkalojpefclaaDoor
open Go Go.AL Go.Proofs
set_option maxRecDepth 100000 in
set_option maxHeartbeats 8000000 in
theorem AstKinds_c (k : Int) (op : List UInt8) (hop : op.length ≤ 9223372036854775807) (h : Heap) (hg : h 0 = some .gint) (R : AV → Heap → Prop) (hR : R (.bool true) h) :
    ACalls Tryd.prog 5 [.int .i64 k, .str op] h R := by
  refine ACalls.pure ?_ hR
  clear hR
  obtain ⟨bE, hE⟩ : ∃ b, (decide (1 ≤ k) && decide (k ≤ 21)) = b := ⟨_, rfl⟩
  obtain ⟨bS, hS⟩ : ∃ b, (decide (26 ≤ k) && decide (k < 44)) = b := ⟨_, rfl⟩
  obtain ⟨bT, hT⟩ : ∃ b, (decide (k = 6) || decide (k = 8) || decide (k = 14) || decide (k = 15)) = b := ⟨_, rfl⟩
  obtain ⟨bL, hL⟩ : ∃ b, (decide (1 ≤ k) && decide (k ≤ 5)) = b := ⟨_, rfl⟩
  have iE : isL k 69 = bE := by rw [← hE]; simp [isL]
  have iS : isL k 83 = bS := by
    rw [← hS]
    have : (k ≤ 43) = (k < 44) := propext ⟨fun _ => by omega, fun _ => by omega⟩
    simp [isL, this]
  have iT : isL k 84 = bT := by rw [← hT]; simp [isL]
  have iL : isL k 76 = bL := by rw [← hL]; simp [isL]
  obtain ⟨lv, hlv⟩ : ∃ b, levelL op = b := ⟨_, rfl⟩
  obtain ⟨bU, hU⟩ : ∃ b, decide (op ∈ unL) = b := ⟨_, rfl⟩
  obtain ⟨bA, hA⟩ : ∃ b, decide (op ∈ asL) = b := ⟨_, rfl⟩
  obtain ⟨bP, hP⟩ : ∃ b, decide (op ∈ stL) = b := ⟨_, rfl⟩
  have jU : amongL op [45, 32, 33, 32, 126, 32, 116, 121, 112, 101, 111, 102, 32, 99, 108, 111, 110, 101, 32, 114, 101, 115, 117, 109, 101, 32, 100, 101, 108, 101, 116, 101] = bU := by
    rw [← hU]; unfold amongL; rw [show Lib.split [45, 32, 33, 32, 126, 32, 116, 121, 112, 101, 111, 102, 32, 99, 108, 111, 110, 101, 32, 114, 101, 115, 117, 109, 101, 32, 100, 101, 108, 101, 116, 101] [32] = unL from un_split]
  have jA : amongL op assignB = bA := by rw [← hA]; unfold amongL; rw [as_split]
  have jP : amongL op stepB = bP := by rw [← hP]; unfold amongL; rw [st_split]
  refine acalls_of Tryd.func5 rfl Tryd.ntmps5 (congrArg Array.toList Tryd.results5) fun Q hQ => ?_
  repeat' (first | refine Keep.go (by assumption) ?_ | refine awp_seq_k fun K hK => ?_ | (refine awp_region ?_; try simp [Heap.set_get, *]) | refine awp_block ?_ | (refine awp_ret ?_; try simp) | (refine awp_skip ?_; try simp) | (refine awp_exit ?_; try simp) | (refine KeepQ.go (by assumption) ?_; try simp [Heap.set_get, *]) | (refine awp_cond' ?_; try simp [Heap.set_get, *]) | refine And.intro (by omega) ?_ | refine And.intro (by assumption) ?_ | refine and_lf (by omega) ?_ | refine and_rf ?_ (by omega) | refine and_imps (fun _ => ?_) (fun _ => ?_) | refine arounds_k fun K hK => ?_ | refine Or.inl ⟨by omega, ?_⟩ | refine Or.inr ⟨by omega, ?_⟩ | refine or_split (fun _ => ?_) (fun _ => ?_) | exact Sub.refl _ | refine imp_in fun _ => ?_ | refine and_ri ?_ (fun _ => ?_) | refine and_li (fun _ => ?_) ?_ | (refine And.intro ?_ ?_; focus (intros; simp [*]; done)) | fail)
  refine builds_c _ hg _ ?_
  by_cases h50 : 50 < op.length
  · simp [Heap.set_get, *]
    repeat' (first | refine Keep.go (by assumption) ?_ | refine awp_seq_k fun K hK => ?_ | (refine awp_region ?_; try simp [Heap.set_get, *]) | refine awp_block ?_ | (refine awp_ret ?_; try simp) | (refine awp_skip ?_; try simp) | (refine awp_exit ?_; try simp) | (refine KeepQ.go (by assumption) ?_; try simp [Heap.set_get, *]) | (refine awp_cond' ?_; try simp [Heap.set_get, *]) | refine And.intro (by omega) ?_ | refine And.intro (by assumption) ?_ | refine and_lf (by omega) ?_ | refine and_rf ?_ (by omega) | refine and_imps (fun _ => ?_) (fun _ => ?_) | refine arounds_k fun K hK => ?_ | refine Or.inl ⟨by omega, ?_⟩ | refine Or.inr ⟨by omega, ?_⟩ | refine or_split (fun _ => ?_) (fun _ => ?_) | exact Sub.refl _ | refine imp_in fun _ => ?_ | refine and_ri ?_ (fun _ => ?_) | refine and_li (fun _ => ?_) ?_ | (refine And.intro ?_ ?_; focus (intros; simp [*]; done)) | fail)
    all_goals first
      | exact Sub.refl _
      | (exfalso; omega)
      | trace_state
  simp [Heap.set_get, *]
  repeat' (first | refine Keep.go (by assumption) ?_ | refine awp_seq_k fun K hK => ?_ | (refine awp_region ?_; try simp [Heap.set_get, *]) | refine awp_block ?_ | (refine awp_ret ?_; try simp) | (refine awp_skip ?_; try simp) | (refine awp_exit ?_; try simp) | (refine KeepQ.go (by assumption) ?_; try simp [Heap.set_get, *]) | (refine awp_cond' ?_; try simp [Heap.set_get, *]) | refine And.intro (by omega) ?_ | refine And.intro (by assumption) ?_ | refine and_lf (by omega) ?_ | refine and_rf ?_ (by omega) | refine and_imps (fun _ => ?_) (fun _ => ?_) | refine arounds_k fun K hK => ?_ | refine Or.inl ⟨by omega, ?_⟩ | refine Or.inr ⟨by omega, ?_⟩ | refine or_split (fun _ => ?_) (fun _ => ?_) | exact Sub.refl _ | refine imp_in fun _ => ?_ | refine and_ri ?_ (fun _ => ?_) | refine and_li (fun _ => ?_) ?_ | (refine And.intro ?_ ?_; focus (intros; simp [*]; done)) | fail)
  refine Expr_c k _ _ ?_
  rw [hE]
  simp [Heap.set_get, *]
  refine Is_c k 69 _ _ ?_
  rw [iE]
  simp [Heap.set_get, *]
  refine Stmt_c k _ _ ?_
  rw [hS]
  simp [Heap.set_get, *]
  refine Is_c k 83 _ _ ?_
  rw [iS]
  simp [Heap.set_get, *]
  refine Target_c k _ _ ?_
  rw [hT]
  simp [Heap.set_get, *]
  refine Is_c k 84 _ _ ?_
  rw [iT]
  simp [Heap.set_get, *]
  refine Literal_c k _ _ ?_
  rw [hL]
  simp [Heap.set_get, *]
  refine Is_c k 76 _ _ ?_
  rw [iL]
  simp [Heap.set_get, *]
  repeat' (first | refine Keep.go (by assumption) ?_ | refine awp_seq_k fun K hK => ?_ | (refine awp_region ?_; try simp [Heap.set_get, *]) | refine awp_block ?_ | (refine awp_ret ?_; try simp) | (refine awp_skip ?_; try simp) | (refine awp_exit ?_; try simp) | (refine KeepQ.go (by assumption) ?_; try simp [Heap.set_get, *]) | (refine awp_cond' ?_; try simp [Heap.set_get, *]) | refine And.intro (by omega) ?_ | refine And.intro (by assumption) ?_ | refine and_lf (by omega) ?_ | refine and_rf ?_ (by omega) | refine and_imps (fun _ => ?_) (fun _ => ?_) | refine arounds_k fun K hK => ?_ | refine Or.inl ⟨by omega, ?_⟩ | refine Or.inr ⟨by omega, ?_⟩ | refine or_split (fun _ => ?_) (fun _ => ?_) | exact Sub.refl _ | refine imp_in fun _ => ?_ | refine and_ri ?_ (fun _ => ?_) | refine and_li (fun _ => ?_) ?_ | (refine And.intro ?_ ?_; focus (intros; simp [*]; done)) | fail)
  intro b5 hb5; simp only [Fresh, Heap.set_none] at hb5; try simp [Heap.set_get, *]
  intro b6 hb6; simp only [Fresh, Heap.set_none] at hb6; try simp [Heap.set_get, *]
  intro b7 hb7; simp only [Fresh, Heap.set_none] at hb7; try simp [Heap.set_get, *]
  repeat' (first | refine Keep.go (by assumption) ?_ | refine awp_seq_k fun K hK => ?_ | (refine awp_region ?_; try simp [Heap.set_get, *]) | refine awp_block ?_ | (refine awp_ret ?_; try simp) | (refine awp_skip ?_; try simp) | (refine awp_exit ?_; try simp) | (refine KeepQ.go (by assumption) ?_; try simp [Heap.set_get, *]) | (refine awp_cond' ?_; try simp [Heap.set_get, *]) | refine And.intro (by omega) ?_ | refine And.intro (by assumption) ?_ | refine and_lf (by omega) ?_ | refine and_rf ?_ (by omega) | refine and_imps (fun _ => ?_) (fun _ => ?_) | refine arounds_k fun K hK => ?_ | refine Or.inl ⟨by omega, ?_⟩ | refine Or.inr ⟨by omega, ?_⟩ | refine or_split (fun _ => ?_) (fun _ => ?_) | exact Sub.refl _ | refine imp_in fun _ => ?_ | refine and_ri ?_ (fun _ => ?_) | refine and_li (fun _ => ?_) ?_ | (refine And.intro ?_ ?_; focus (intros; simp [*]; done)) | fail)
  have z5 : ¬ (0 : Nat) = b5 := ne_of_fresh hg hb5
  have z6 : ¬ (0 : Nat) = b6 := ne_of_fresh hg hb6.2.2
  have z7 : ¬ (0 : Nat) = b7 := ne_of_fresh hg hb7.2.2.2.2
  have y5 : ¬ b5 = 0 := fun e => z5 e.symm
  have y6 : ¬ b6 = 0 := fun e => z6 e.symm
  have y7 : ¬ b7 = 0 := fun e => z7 e.symm
  refine awp_region_draw [b5, b6, b7] [(0, true), (2, true), (1, false), (3, false), (4, true), (5, true), (6, true), (8, true), (7, false), (9, false), (10, true), (11, true), (12, true), (13, true), (15, true), (14, false), (16, false), (17, true), (18, true), (19, true), (20, true), (22, true), (21, false), (23, false), (24, true), (25, true)] [26] follows (by kernel_rfl) rfl (by kernel_rfl) ?_; simp [Heap.set_get, Heap.plus_set, *]
  refine Level_c op _ (by simp [Heap.set_get, *]) _ ?_
  rw [hlv]
  simp [Heap.set_get, Heap.plus_set, *]
  refine RLevel_c op _ _ ?_
  rw [hlv]
  simp [Heap.set_get, Heap.plus_set, *]
  refine Unary_c op _ (by simp [Heap.set_get, *]) _ ?_
  rw [jU]
  simp [Heap.set_get, Heap.plus_set, *]
  refine TextU_c op _ _ ?_
  rw [hU]
  simp [Heap.set_get, Heap.plus_set, *]
  refine Assign_c op _ (by simp [Heap.set_get, *]) _ ?_
  rw [jA]
  simp [Heap.set_get, Heap.plus_set, *]
  refine TextA_c op _ _ ?_
  rw [hA]
  simp [Heap.set_get, Heap.plus_set, *]
  refine Step_c op _ (by simp [Heap.set_get, *]) _ ?_
  rw [jP]
  simp [Heap.set_get, Heap.plus_set, *]
  refine TextS_c op _ _ ?_
  rw [hP]
  simp [Heap.set_get, Heap.plus_set, *]
  repeat' (first | refine Keep.go (by assumption) ?_ | refine awp_seq_k fun K hK => ?_ | (refine awp_region ?_; try simp [Heap.set_get, *]) | refine awp_block ?_ | (refine awp_ret ?_; try simp) | (refine awp_skip ?_; try simp) | (refine awp_exit ?_; try simp) | (refine KeepQ.go (by assumption) ?_; try simp [Heap.set_get, *]) | (refine awp_cond' ?_; try simp [Heap.set_get, *]) | refine And.intro (by omega) ?_ | refine And.intro (by assumption) ?_ | refine and_lf (by omega) ?_ | refine and_rf ?_ (by omega) | refine and_imps (fun _ => ?_) (fun _ => ?_) | refine arounds_k fun K hK => ?_ | refine Or.inl ⟨by omega, ?_⟩ | refine Or.inr ⟨by omega, ?_⟩ | refine or_split (fun _ => ?_) (fun _ => ?_) | exact Sub.refl _ | refine imp_in fun _ => ?_ | refine and_ri ?_ (fun _ => ?_) | refine and_li (fun _ => ?_) ?_ | (refine And.intro ?_ ?_; focus (intros; simp [*]; done)) | fail)
  all_goals first
    | exact (by repeat (first | exact Sub.refl _ | refine Sub.loc ?_ (by simp [*]) _))
    | trace_state
end Go.Proofs.YtmnkalojpefclaaDoor
