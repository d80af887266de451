import Derived.Test.YtmnkalojpefclaaDoorPR
import Derived.Test.YtmnkalojpefclaaDoorY
import Derived.Test.YtmnkalojpefclaaDoorSO
set_option linter.unusedSimpArgs false
set_option linter.unusedVariables false
namespace Go.Proofs.YtmnkalojpefclaaDoor
open Go Go.AL Go.Proofs
-- NOPICK
attribute [local simp] pickV_b pickV_s pickV_i
theorem splice_nums (d : List Int) (i : Nat) (x : Int) (h : i < d.length) : List.take i (nums d) ++ AV.int .i64 x :: List.drop (i + 1) (nums d) = nums (d.set i x) := by
  have := splice_map (AV.int .i64) d i x h
  simpa [splice] using this
theorem sub_none' {h g : Heap} {b : Nat} (hs : AL.Sub h g) (hb : g b = none) : h b = none := by
  cases e : h b with
  | none => rfl
  | some x => rw [hs b x e] at hb; cases hb
theorem call1 : callable Tryd.prog 28 = true := by kernel_rfl
theorem call2 : callable Tryd.prog 29 = true := by kernel_rfl
/-- What the first function that is handed over holds. -/
def memM (b6 b5 bm n : Nat) (s : Int × List Int) (h : Heap) : Prop := ¬ b6 = b5 ∧ ¬ b6 = bm ∧ ¬ b5 = bm ∧ h b6 = some (.cells [.int .i64 s.1]) ∧ h b5 = some (.cells [.arr bm 0 n n]) ∧ h bm = some (.cells (nums s.2)) ∧ s.2.length = n
theorem clo1 (b6 b5 bm n : Nat) : Clo Tryd.prog 28 [.ptr b6 0, .ptr b5 0] n stepM (memM b6 b5 bm n) (fun b => b = b6 ∨ b = b5 ∨ b = bm) where
  call := by
    rintro ⟨c, m⟩ i h R hi ⟨n1, n2, n3, h6, h5, hm, hl⟩ hR
    simp only at h6 hm hl
    have n1' : ¬ b5 = b6 := fun e => n1 e.symm
    have n2' : ¬ bm = b6 := fun e => n2 e.symm
    have n3' : ¬ bm = b5 := fun e => n3 e.symm
    have him : i < m.length := by omega
    refine acalls_of Tryd.func28 rfl Tryd.ntmps28 (congrArg Array.toList Tryd.results28) fun Q hQ => ?_
    repeat' (first | refine Keep.go (by assumption) ?_ | refine awp_seq_k fun K hK => ?_ | (refine awp_region ?_; try simp [Heap.set_get, -pickV, *]) | refine awp_block ?_ | (refine awp_ret ?_; try simp) | (refine awp_skip ?_; try simp) | (refine awp_exit ?_; try simp) | (refine KeepQ.go (by assumption) ?_; try simp [Heap.set_get, -pickV, *]) | (refine awp_cond' ?_; try simp [Heap.set_get, -pickV, *]) | refine And.intro (by omega) ?_ | refine And.intro (by assumption) ?_ | refine and_lf (by omega) ?_ | refine and_rf ?_ (by omega) | refine and_imps (fun _ => ?_) (fun _ => ?_) | refine arounds_k fun K hK => ?_ | refine Or.inl ⟨by omega, ?_⟩ | refine Or.inr ⟨by omega, ?_⟩ | refine or_split (fun _ => ?_) (fun _ => ?_) | exact Sub.refl _ | refine imp_in fun _ => ?_ | refine and_ri ?_ (fun _ => ?_) | refine and_li (fun _ => ?_) ?_ | (refine And.intro ?_ ?_; focus (intros; simp [*]; done)) | fail)
    have hsp := splice_nums m i (IntKind.i64.wrap (c + 1)) him
    refine hR _ ⟨n1, n2, n3, by simp [Heap.set_get, stepM, *], by simp [Heap.set_get, *], by rw [Heap.set_same, hsp]; rfl, by simpa [stepM] using hl⟩ (fun b x hB hx => ?_)
    have b1 : ¬ b = b6 := fun e => hB (.inl e)
    have b2 : ¬ b = bm := fun e => hB (.inr (.inr e))
    simp [Heap.set_get, b1, b2, hx]
  frame := by
    rintro ⟨c, m⟩ h h' ⟨n1, n2, n3, h6, h5, hm, hl⟩ hf
    exact ⟨n1, n2, n3, hf _ _ (.inl rfl) h6, hf _ _ (.inr (.inl rfl)) h5, hf _ _ (.inr (.inr rfl)) hm, hl⟩
  has := by
    rintro ⟨c, m⟩ h b ⟨n1, n2, n3, h6, h5, hm, hl⟩ (rfl | rfl | rfl) e
    · rw [e] at h6; cases h6
    · rw [e] at h5; cases h5
    · rw [e] at hm; cases hm
def memF (b13 b3 : Nat) (stop : Int) (s : Int) (h : Heap) : Prop := ¬ b13 = b3 ∧ h b13 = some (.cells [.int .i64 s]) ∧ h b3 = some (.cells [.int .i64 stop])
theorem clo2 (b13 b3 n : Nat) (stop : Int) : Clo Tryd.prog 29 [.ptr b13 0, .ptr b3 0] n (stepF stop) (memF b13 b3 stop) (fun b => b = b13 ∨ b = b3) where
  call := by
    rintro c i h R hi ⟨n1, h6, h5⟩ hR
    have n1' : ¬ b3 = b13 := fun e => n1 e.symm
    refine acalls_of Tryd.func29 rfl Tryd.ntmps29 (congrArg Array.toList Tryd.results29) fun Q hQ => ?_
    repeat' (first | refine Keep.go (by assumption) ?_ | refine awp_seq_k fun K hK => ?_ | (refine awp_region ?_; try simp [Heap.set_get, -pickV, *]) | refine awp_block ?_ | (refine awp_ret ?_; try simp) | (refine awp_skip ?_; try simp) | (refine awp_exit ?_; try simp) | (refine KeepQ.go (by assumption) ?_; try simp [Heap.set_get, -pickV, *]) | (refine awp_cond' ?_; try simp [Heap.set_get, -pickV, *]) | refine And.intro (by omega) ?_ | refine And.intro (by assumption) ?_ | refine and_lf (by omega) ?_ | refine and_rf ?_ (by omega) | refine and_imps (fun _ => ?_) (fun _ => ?_) | refine arounds_k fun K hK => ?_ | refine Or.inl ⟨by omega, ?_⟩ | refine Or.inr ⟨by omega, ?_⟩ | refine or_split (fun _ => ?_) (fun _ => ?_) | exact Sub.refl _ | refine imp_in fun _ => ?_ | refine and_ri ?_ (fun _ => ?_) | refine and_li (fun _ => ?_) ?_ | (refine And.intro ?_ ?_; focus (intros; simp [*]; done)) | fail)
    refine hR _ ⟨n1, by simp [Heap.set_get, stepF], by simp [Heap.set_get, *]⟩ (fun b x hB hx => ?_)
    have b1 : ¬ b = b13 := fun e => hB (.inl e)
    simp [Heap.set_get, b1, hx]
  frame := by
    rintro c h h' ⟨n1, h6, h5⟩ hf
    exact ⟨n1, hf _ _ (.inl rfl) h6, hf _ _ (.inr rfl) h5⟩
  has := by
    rintro c h b ⟨n1, h6, h5⟩ (rfl | rfl) e
    · rw [e] at h6; cases h6
    · rw [e] at h5; cases h5
set_option maxRecDepth 100000 in
set_option maxHeartbeats 8000000 in
theorem AstEach_c (nodes : List Nd) (stop : Int) (hn : ∀ n ∈ nodes, n.num ≤ 9223372036854775807) (hl : nodes.length ≤ 9223372036854775807) (h : Heap) (hg : h 0 = some .gint) (R : AV → Heap → Prop) (hR : R (.bool true) h) :
    ACalls Tryd.prog 6 [treeAV nodes .no, .int .i64 stop] h R := by
  refine ACalls.pure ?_ hR
  clear hR
  refine acalls_of Tryd.func6 rfl Tryd.ntmps6 (congrArg Array.toList Tryd.results6) fun Q hQ => ?_
  repeat' (first | refine Keep.go (by assumption) ?_ | refine awp_seq_k fun K hK => ?_ | (refine awp_region ?_; try simp [Heap.set_get, -pickV, *]) | refine awp_block ?_ | (refine awp_ret ?_; try simp) | (refine awp_skip ?_; try simp) | (refine awp_exit ?_; try simp) | (refine KeepQ.go (by assumption) ?_; try simp [Heap.set_get, -pickV, *]) | (refine awp_cond' ?_; try simp [Heap.set_get, -pickV, *]) | refine And.intro (by omega) ?_ | refine And.intro (by assumption) ?_ | refine and_lf (by omega) ?_ | refine and_rf ?_ (by omega) | refine and_imps (fun _ => ?_) (fun _ => ?_) | refine arounds_k fun K hK => ?_ | refine Or.inl ⟨by omega, ?_⟩ | refine Or.inr ⟨by omega, ?_⟩ | refine or_split (fun _ => ?_) (fun _ => ?_) | exact Sub.refl _ | refine imp_in fun _ => ?_ | refine and_ri ?_ (fun _ => ?_) | refine and_li (fun _ => ?_) ?_ | (refine And.intro ?_ ?_; focus (intros; simp [*]; done)) | fail)
  intro b2 hb2; simp only [Fresh, Heap.set_none] at hb2; try simp [Heap.set_get, -pickV, *]
  intro b3 hb3; simp only [Fresh, Heap.set_none] at hb3; try simp [Heap.set_get, -pickV, *]
  repeat' (first | refine Keep.go (by assumption) ?_ | refine awp_seq_k fun K hK => ?_ | (refine awp_region ?_; try simp [Heap.set_get, -pickV, *]) | refine awp_block ?_ | (refine awp_ret ?_; try simp) | (refine awp_skip ?_; try simp) | (refine awp_exit ?_; try simp) | (refine KeepQ.go (by assumption) ?_; try simp [Heap.set_get, -pickV, *]) | (refine awp_cond' ?_; try simp [Heap.set_get, -pickV, *]) | refine And.intro (by omega) ?_ | refine And.intro (by assumption) ?_ | refine and_lf (by omega) ?_ | refine and_rf ?_ (by omega) | refine and_imps (fun _ => ?_) (fun _ => ?_) | refine arounds_k fun K hK => ?_ | refine Or.inl ⟨by omega, ?_⟩ | refine Or.inr ⟨by omega, ?_⟩ | refine or_split (fun _ => ?_) (fun _ => ?_) | exact Sub.refl _ | refine imp_in fun _ => ?_ | refine and_ri ?_ (fun _ => ?_) | refine and_li (fun _ => ?_) ?_ | (refine And.intro ?_ ?_; focus (intros; simp [*]; done)) | fail)
  refine builds_c _ ((show AL.Sub h _ by (repeat (first | exact Sub.refl _ | refine Sub.loc ?_ (by simp [*]) _))) 0 _ hg) _ ?_
  simp [Heap.set_get, -pickV, *]
  repeat' (first | refine Keep.go (by assumption) ?_ | refine awp_seq_k fun K hK => ?_ | (refine awp_region ?_; try simp [Heap.set_get, -pickV, *]) | refine awp_block ?_ | (refine awp_ret ?_; try simp) | (refine awp_skip ?_; try simp) | (refine awp_exit ?_; try simp) | (refine KeepQ.go (by assumption) ?_; try simp [Heap.set_get, -pickV, *]) | (refine awp_cond' ?_; try simp [Heap.set_get, -pickV, *]) | refine And.intro (by omega) ?_ | refine And.intro (by assumption) ?_ | refine and_lf (by omega) ?_ | refine and_rf ?_ (by omega) | refine and_imps (fun _ => ?_) (fun _ => ?_) | refine arounds_k fun K hK => ?_ | refine Or.inl ⟨by omega, ?_⟩ | refine Or.inr ⟨by omega, ?_⟩ | refine or_split (fun _ => ?_) (fun _ => ?_) | exact Sub.refl _ | refine imp_in fun _ => ?_ | refine and_ri ?_ (fun _ => ?_) | refine and_li (fun _ => ?_) ?_ | (refine And.intro ?_ ?_; focus (intros; simp [*]; done)) | fail)
  refine small2_c nodes .no hl _ _ ?_
  cases hs : smallL nodes
  · simp [Heap.set_get, -pickV, *]
    repeat' (first | refine Keep.go (by assumption) ?_ | refine awp_seq_k fun K hK => ?_ | (refine awp_region ?_; try simp [Heap.set_get, -pickV, *]) | refine awp_block ?_ | (refine awp_ret ?_; try simp) | (refine awp_skip ?_; try simp) | (refine awp_exit ?_; try simp) | (refine KeepQ.go (by assumption) ?_; try simp [Heap.set_get, -pickV, *]) | (refine awp_cond' ?_; try simp [Heap.set_get, -pickV, *]) | refine And.intro (by omega) ?_ | refine And.intro (by assumption) ?_ | refine and_lf (by omega) ?_ | refine and_rf ?_ (by omega) | refine and_imps (fun _ => ?_) (fun _ => ?_) | refine arounds_k fun K hK => ?_ | refine Or.inl ⟨by omega, ?_⟩ | refine Or.inr ⟨by omega, ?_⟩ | refine or_split (fun _ => ?_) (fun _ => ?_) | exact Sub.refl _ | refine imp_in fun _ => ?_ | refine and_ri ?_ (fun _ => ?_) | refine and_li (fun _ => ?_) ?_ | (refine And.intro ?_ ?_; focus (intros; simp [*]; done)) | fail)
    all_goals (repeat (first | exact Sub.refl _ | refine Sub.loc ?_ (by simp [*]) _))
  have hs1 := small_ok hs
  have hok := small_nd hs hn
  have hks : ∀ n ∈ nodes, n.kids.length ≤ 281474976710 := fun n hm => by have := (hs1.2 n hm).1; omega
  simp [Heap.set_get, -pickV, *]
  repeat' (first | refine Keep.go (by assumption) ?_ | refine awp_seq_k fun K hK => ?_ | (refine awp_region ?_; try simp [Heap.set_get, -pickV, *]) | refine awp_block ?_ | (refine awp_ret ?_; try simp) | (refine awp_skip ?_; try simp) | (refine awp_exit ?_; try simp) | (refine KeepQ.go (by assumption) ?_; try simp [Heap.set_get, -pickV, *]) | (refine awp_cond' ?_; try simp [Heap.set_get, -pickV, *]) | refine And.intro (by omega) ?_ | refine And.intro (by assumption) ?_ | refine and_lf (by omega) ?_ | refine and_rf ?_ (by omega) | refine and_imps (fun _ => ?_) (fun _ => ?_) | refine arounds_k fun K hK => ?_ | refine Or.inl ⟨by omega, ?_⟩ | refine Or.inr ⟨by omega, ?_⟩ | refine or_split (fun _ => ?_) (fun _ => ?_) | exact Sub.refl _ | refine imp_in fun _ => ?_ | refine and_ri ?_ (fun _ => ?_) | refine and_li (fun _ => ?_) ?_ | (refine And.intro ?_ ?_; focus (intros; simp [*]; done)) | fail)
  refine Check_c nodes .no hok (by omega) _ ((show AL.Sub h _ by (repeat (first | exact Sub.refl _ | refine Sub.loc ?_ (by simp [*]) _))) 0 _ hg) _ ?_
  cases hc : decide ((checkL nodes).1 = 0)
  · have hc' := of_decide_eq_false hc
    simp [Heap.set_get, -pickV, *]
    repeat' (first | refine Keep.go (by assumption) ?_ | refine awp_seq_k fun K hK => ?_ | (refine awp_region ?_; try simp [Heap.set_get, -pickV, *]) | refine awp_block ?_ | (refine awp_ret ?_; try simp) | (refine awp_skip ?_; try simp) | (refine awp_exit ?_; try simp) | (refine KeepQ.go (by assumption) ?_; try simp [Heap.set_get, -pickV, *]) | (refine awp_cond' ?_; try simp [Heap.set_get, -pickV, *]) | refine And.intro (by omega) ?_ | refine And.intro (by assumption) ?_ | refine and_lf (by omega) ?_ | refine and_rf ?_ (by omega) | refine and_imps (fun _ => ?_) (fun _ => ?_) | refine arounds_k fun K hK => ?_ | refine Or.inl ⟨by omega, ?_⟩ | refine Or.inr ⟨by omega, ?_⟩ | refine or_split (fun _ => ?_) (fun _ => ?_) | exact Sub.refl _ | refine imp_in fun _ => ?_ | refine and_ri ?_ (fun _ => ?_) | refine and_li (fun _ => ?_) ?_ | (refine And.intro ?_ ?_; focus (intros; simp [*]; done)) | fail)
    all_goals (repeat (first | exact Sub.refl _ | refine Sub.loc ?_ (by simp [*]) _))
  have hc' := of_decide_eq_true hc
  simp [Heap.set_get, -pickV, *]
  repeat' (first | refine Keep.go (by assumption) ?_ | refine awp_seq_k fun K hK => ?_ | (refine awp_region ?_; try simp [Heap.set_get, -pickV, *]) | refine awp_block ?_ | (refine awp_ret ?_; try simp) | (refine awp_skip ?_; try simp) | (refine awp_exit ?_; try simp) | (refine KeepQ.go (by assumption) ?_; try simp [Heap.set_get, -pickV, *]) | (refine awp_cond' ?_; try simp [Heap.set_get, -pickV, *]) | refine And.intro (by omega) ?_ | refine And.intro (by assumption) ?_ | refine and_lf (by omega) ?_ | refine and_rf ?_ (by omega) | refine and_imps (fun _ => ?_) (fun _ => ?_) | refine arounds_k fun K hK => ?_ | refine Or.inl ⟨by omega, ?_⟩ | refine Or.inr ⟨by omega, ?_⟩ | refine or_split (fun _ => ?_) (fun _ => ?_) | exact Sub.refl _ | refine imp_in fun _ => ?_ | refine and_ri ?_ (fun _ => ?_) | refine and_li (fun _ => ?_) ?_ | (refine And.intro ?_ ?_; focus (intros; simp [*]; done)) | fail)
  have hd := check_kids hc'
  have hperm := pre_perm hc'
  have hne : nodes ≠ [] := fun e => by subst e; rw [chk0] at hc'; simp at hc'
  have hpos : 0 < nodes.length := List.length_pos_iff.2 hne
  obtain ⟨l, hpl⟩ : ∃ l, pre nodes (nodes.length - 1) = l := ⟨_, rfl⟩
  rw [hpl] at hperm
  have hln : l.length = nodes.length := by rw [hperm.length_eq]; simp
  have hnd : l.Nodup := hperm.nodup_iff.2 List.nodup_range
  have hmem : ∀ i, i ∈ l ↔ i < nodes.length := fun i => by rw [hperm.mem_iff, List.mem_range]
  have hlne : l ≠ [] := List.ne_nil_of_length_pos (by omega)
  have hpl' : preL nodes nodes.length ((nodes.length : Int) - 1) = l := by rw [← hpl]; unfold pre; congr 1; omega
  refine MakeK.arr fun bm hbm => ?_
  simp only [Fresh, Heap.set_none] at hbm
  simp [Heap.set_get, -pickV, *]
  repeat' (first | refine Keep.go (by assumption) ?_ | refine awp_seq_k fun K hK => ?_ | (refine awp_region ?_; try simp [Heap.set_get, -pickV, *]) | refine awp_block ?_ | (refine awp_ret ?_; try simp) | (refine awp_skip ?_; try simp) | (refine awp_exit ?_; try simp) | (refine KeepQ.go (by assumption) ?_; try simp [Heap.set_get, -pickV, *]) | (refine awp_cond' ?_; try simp [Heap.set_get, -pickV, *]) | refine And.intro (by omega) ?_ | refine And.intro (by assumption) ?_ | refine and_lf (by omega) ?_ | refine and_rf ?_ (by omega) | refine and_imps (fun _ => ?_) (fun _ => ?_) | refine arounds_k fun K hK => ?_ | refine Or.inl ⟨by omega, ?_⟩ | refine Or.inr ⟨by omega, ?_⟩ | refine or_split (fun _ => ?_) (fun _ => ?_) | exact Sub.refl _ | refine imp_in fun _ => ?_ | refine and_ri ?_ (fun _ => ?_) | refine and_li (fun _ => ?_) ?_ | (refine And.intro ?_ ?_; focus (intros; simp [*]; done)) | fail)
  intro b5 hb5; simp only [Fresh, Heap.set_none] at hb5; try simp [Heap.set_get, -pickV, *]
  repeat' (first | refine Keep.go (by assumption) ?_ | refine awp_seq_k fun K hK => ?_ | (refine awp_region ?_; try simp [Heap.set_get, -pickV, *]) | refine awp_block ?_ | (refine awp_ret ?_; try simp) | (refine awp_skip ?_; try simp) | (refine awp_exit ?_; try simp) | (refine KeepQ.go (by assumption) ?_; try simp [Heap.set_get, -pickV, *]) | (refine awp_cond' ?_; try simp [Heap.set_get, -pickV, *]) | refine And.intro (by omega) ?_ | refine And.intro (by assumption) ?_ | refine and_lf (by omega) ?_ | refine and_rf ?_ (by omega) | refine and_imps (fun _ => ?_) (fun _ => ?_) | refine arounds_k fun K hK => ?_ | refine Or.inl ⟨by omega, ?_⟩ | refine Or.inr ⟨by omega, ?_⟩ | refine or_split (fun _ => ?_) (fun _ => ?_) | exact Sub.refl _ | refine imp_in fun _ => ?_ | refine and_ri ?_ (fun _ => ?_) | refine and_li (fun _ => ?_) ?_ | (refine And.intro ?_ ?_; focus (intros; simp [*]; done)) | fail)
  intro b6 hb6; simp only [Fresh, Heap.set_none] at hb6; try simp [Heap.set_get, -pickV, *]
  repeat' (first | refine Keep.go (by assumption) ?_ | refine awp_seq_k fun K hK => ?_ | (refine awp_region ?_; try simp [Heap.set_get, -pickV, *]) | refine awp_block ?_ | (refine awp_ret ?_; try simp) | (refine awp_skip ?_; try simp) | (refine awp_exit ?_; try simp) | (refine KeepQ.go (by assumption) ?_; try simp [Heap.set_get, -pickV, *]) | (refine awp_cond' ?_; try simp [Heap.set_get, -pickV, *]) | refine And.intro (by omega) ?_ | refine And.intro (by assumption) ?_ | refine and_lf (by omega) ?_ | refine and_rf ?_ (by omega) | refine and_imps (fun _ => ?_) (fun _ => ?_) | refine arounds_k fun K hK => ?_ | refine Or.inl ⟨by omega, ?_⟩ | refine Or.inr ⟨by omega, ?_⟩ | refine or_split (fun _ => ?_) (fun _ => ?_) | exact Sub.refl _ | refine imp_in fun _ => ?_ | refine and_ri ?_ (fun _ => ?_) | refine and_li (fun _ => ?_) ?_ | (refine And.intro ?_ ?_; focus (intros; simp [*]; done)) | fail)
  obtain ⟨m', hm1, hm2, hm3, -⟩ := met_run l 0 (List.replicate nodes.length 0) hnd (fun i hi => by have := (hmem i).1 hi; simpa using this) (by omega)
  have hs0 : AL.Sub h (((((h.set b2 (.cells [AV.list 5 (nodes.map row) .no])).set b3 (.cells [.int .i64 stop])).set bm (.cells (List.replicate nodes.length (.int .i64 0)))).set b5 (.cells [.arr bm 0 nodes.length nodes.length])).set b6 (.cells [.int .i64 0])) := by (repeat (first | exact Sub.refl _ | refine Sub.loc ?_ (by simp [*]) _))
  refine awp_heap (fun g => g b2 = some (.cells [AV.list 5 (nodes.map row) .no]) ∧ g b3 = some (.cells [.int .i64 stop]) ∧ g b5 = some (.cells [.arr bm 0 nodes.length nodes.length]) ∧ g b6 = some (.cells [.int .i64 0]) ∧ g bm = some (.cells (nums (List.replicate nodes.length 0))) ∧ AL.Sub h g)
    ⟨by simp [Heap.set_get, *], by simp [Heap.set_get, *], by simp [Heap.set_get, *], by simp [Heap.set_get, *], by simp [Heap.set_get, *], by (repeat (first | exact Sub.refl _ | refine Sub.loc ?_ (by simp [*]) _))⟩ (fun G0 hG0 => ?_)
  obtain ⟨g2, g3, g5, g6, gm, gs⟩ := hG0
  have e25 : ¬ b2 = b5 := hb5.2.2.2.2.1
  have e52 : ¬ b5 = b2 := fun e => e25 e.symm
  have e26 : ¬ b2 = b6 := fun e => by simp [e] at hb6
  have e62 : ¬ b6 = b2 := fun e => e26 e.symm
  have e36 : ¬ b3 = b6 := fun e => by simp [e] at hb6
  have e35 : ¬ b3 = b5 := fun e => by simp [e] at hb5
  have e3m : ¬ b3 = bm := hbm.1
  have e2m : ¬ b2 = bm := hbm.2.2.1
  have em2 : ¬ bm = b2 := fun e => e2m e.symm
  have e32 : ¬ b3 = b2 := fun e => by simp [e] at hb3
  have e23 : ¬ b2 = b3 := fun e => e32 e.symm
  have e65 : ¬ b6 = b5 := fun e => by simp [e] at hb6
  have e6m : ¬ b6 = bm := fun e => by simp [e] at hb6
  have e5m : ¬ b5 = bm := fun e => by simp [e] at hb5
  have zm : h bm = none := hbm.2.2.2.2
  have z5 : h b5 = none := hb5.2.2.2.2.2.2
  have z6 : h b6 = none := hb6.2.2.2.2.2.2.2.2
  have z2 : h b2 = none := hb2
  have z3 : h b3 = none := hb3.2.2
  clear hs0 hbm hb5 hb6 hb2 hb3
  refine awp_region_draw [b2] [(0, true), (1, true), (3, true), (2, false), (4, false)] [5] follows (by kernel_rfl) rfl (by kernel_rfl) ?_; simp [Heap.set_get, Heap.plus_set, -pickV, *]
  refine Root_c nodes .no (by omega) _ _ ?_
  simp [Heap.set_get, Heap.plus_set, *]
  refine Each_c nodes .no hd (by omega) hks call1 (clo1 b6 b5 bm nodes.length) nodes.length _ (by omega) (by omega) (0, List.replicate nodes.length 0) _ _ ⟨e65, e6m, e5m, by simp [*], by simp [*], by simp [*], by simp⟩ (fun g1 hM1 hfr => ?_)
  have hm1' : runS stepM (0, List.replicate nodes.length 0) l = (((l.length : Int), m'), true) := by simpa using hm1
  rw [hpl', hm1'] at hM1 ⊢
  obtain ⟨-, -, -, k6, k5, km, kl⟩ := hM1
  simp only at k6 k5 km kl
  have k3 := hfr b3 (.cells [.int .i64 stop]) (by rintro (e | e | e) <;> simp_all) (by simp [*])
  have ks : ∀ b x, h b = some x → g1 b = some x := fun b x hx => by
    refine hfr b x ?_ ?_
    · rintro (e | e | e)
      · rw [e, z6] at hx; cases hx
      · rw [e, z5] at hx; cases hx
      · rw [e, zm] at hx; cases hx
    · have : ¬ b = b2 := fun e => by rw [e, z2] at hx; cases hx
      simp [this, gs b x hx]
  clear hfr
  simp [Heap.set_get, Heap.plus_set, *]
  intro hb2n
  refine Keep.go (by assumption) ?_
  refine awp_heap (fun g => g b2 = some (.cells [AV.list 5 (nodes.map row) .no]) ∧ g b3 = some (.cells [.int .i64 stop]) ∧ g b5 = some (.cells [.arr bm 0 nodes.length nodes.length]) ∧ g b6 = some (.cells [.int .i64 nodes.length]) ∧ g bm = some (.cells (nums m')) ∧ AL.Sub h g)
    ⟨by simp [*], by simp [*], by simp [*], by simp [*], by simp [*], fun b x hx => by
      have : ¬ b = b2 := fun e => by rw [e, z2] at hx; cases hx
      simp [this, ks b x hx]⟩ (fun G1 hG1 => ?_)
  clear g2 g3 g5 g6 gm gs k3 k5 k6 km ks hb2n
  obtain ⟨g2, g3, g5, g6, gm, gs⟩ := hG1
  repeat' (first | refine Keep.go (by assumption) ?_ | refine awp_seq_k fun K hK => ?_ | (refine awp_region ?_; try simp [Heap.set_get, -pickV, *]) | refine awp_block ?_ | (refine awp_ret ?_; try simp) | (refine awp_skip ?_; try simp) | (refine awp_exit ?_; try simp) | (refine KeepQ.go (by assumption) ?_; try simp [Heap.set_get, -pickV, *]) | (refine awp_cond' ?_; try simp [Heap.set_get, -pickV, *]) | refine And.intro (by omega) ?_ | refine And.intro (by assumption) ?_ | refine and_lf (by omega) ?_ | refine and_rf ?_ (by omega) | refine and_imps (fun _ => ?_) (fun _ => ?_) | refine arounds_k fun K hK => ?_ | refine Or.inl ⟨by omega, ?_⟩ | refine Or.inr ⟨by omega, ?_⟩ | refine or_split (fun _ => ?_) (fun _ => ?_) | exact Sub.refl _ | refine imp_in fun _ => ?_ | refine and_ri ?_ (fun _ => ?_) | refine and_li (fun _ => ?_) ?_ | (refine And.intro ?_ ?_; focus (intros; simp [*]; done)) | fail)
  have kl' : m'.length = nodes.length := by simpa using hm2
  refine awp_loop_h [4, 8, 9, 10, 12, 47, 48, 49, 50, 51, 52, 53, 54, 55, 56, 57, 58, 59, 60, 61, 62, 63, 64, 65, 66, 67, 68, 69, 70, 71, 72, 73, 74, 75, 76] (fun m x g => ∃ i : Nat, i ≤ nodes.length ∧ m = nodes.length - i ∧ x 47 = .int .i64 i ∧ g b2 = some (.cells [AV.list 5 (nodes.map row) .no]) ∧ g b3 = some (.cells [.int .i64 stop]) ∧ g b5 = some (.cells [.arr bm 0 nodes.length nodes.length]) ∧ g b6 = some (.cells [.int .i64 nodes.length]) ∧ g bm = some (.cells (nums m')) ∧ AL.Sub h g) nodes.length
    ⟨0, by omega, by omega, rfl, g2, g3, g5, g6, gm, gs⟩ (fun m x g hI K hK => ?_)
  clear g2 g3 g5 g6 gm gs
  obtain ⟨i, hi, rfl, hx, g2, g3, g5, g6, gm, gs⟩ := hI
  have w1 : IntKind.i64.wrap ((i : Int) + 1) = i + 1 := w64 (by omega) (by omega)
  have hmet : ∀ j, j < nodes.length → m'[j]? = some ((posOf l j : Int) + 1) := fun j hj => by
    have h1 := hm3 j ((hmem j).2 hj)
    have h2 : j < m'.length := by omega
    rw [List.getElem?_eq_getElem h2]
    simp only [List.getD, List.getElem?_eq_getElem h2, Option.getD_some] at h1
    rw [h1]; simp
  by_cases hlt : i < nodes.length
  · obtain ⟨n, hnn⟩ : ∃ n, nodes[i] = n := ⟨_, rfl⟩
    have hmi := hmet i hlt
    have hmi2 : m'[i]'(by omega) = (posOf l i : Int) + 1 := by
      have := hmi
      rw [List.getElem?_eq_getElem (by omega)] at this
      exact Option.some.inj this
    have hsub := pre_sub hd (nodes.length - 1) i hlt (by omega) (by rw [hpl]; exact (hmem i).2 hlt)
    rw [hpl, hnn] at hsub
    have hpw := (pos_pairwise hnd).sublist hsub
    have hnk := (hs1.2 n (hnn ▸ List.getElem_mem hlt)).1
    have hnd2 : ∀ k ∈ n.kids, -1 ≤ k ∧ k < (i : Int) := fun k hk => hd i hlt k (by rw [hnn]; exact hk)
    clear hsub
    simp (maxSteps := 10000000) only [AgainAt, hav, List.contains_cons, List.contains_nil, Bool.or_false, Nat.reduceAdd, Nat.reduceBEq, Bool.or_true, Bool.true_or, Bool.false_or, if_true, if_false, Bool.false_eq_true]
    repeat' (first | refine Keep.go (by assumption) ?_ | refine awp_seq_k fun K hK => ?_ | (refine awp_region ?_; try simp [Heap.set_get, -pickV, *]) | refine awp_block ?_ | (refine awp_ret ?_; try simp) | (refine awp_skip ?_; try simp) | (refine awp_exit ?_; try simp) | (refine KeepQ.go (by assumption) ?_; try simp [Heap.set_get, -pickV, *]) | (refine awp_cond' ?_; try simp [Heap.set_get, -pickV, *]) | refine And.intro (by omega) ?_ | refine And.intro (by assumption) ?_ | refine and_lf (by omega) ?_ | refine and_rf ?_ (by omega) | refine and_imps (fun _ => ?_) (fun _ => ?_) | refine arounds_k fun K hK => ?_ | refine Or.inl ⟨by omega, ?_⟩ | refine Or.inr ⟨by omega, ?_⟩ | refine or_split (fun _ => ?_) (fun _ => ?_) | exact Sub.refl _ | refine imp_in fun _ => ?_ | refine and_ri ?_ (fun _ => ?_) | refine and_li (fun _ => ?_) ?_ | (refine And.intro ?_ ?_; focus (intros; simp [*]; done)) | fail)
    intro b9 hb9; simp only [Fresh, Heap.set_none] at hb9; try simp [Heap.set_get, -pickV, *]
    have z9 := sub_none' gs hb9
    have e29 := ne_of_fresh g2 hb9
    have e39 := ne_of_fresh g3 hb9
    have e59 := ne_of_fresh g5 hb9
    have e69 := ne_of_fresh g6 hb9
    have em9 := ne_of_fresh gm hb9
    repeat' (first | refine Keep.go (by assumption) ?_ | refine awp_seq_k fun K hK => ?_ | (refine awp_region ?_; try simp [Heap.set_get, -pickV, *]) | refine awp_block ?_ | (refine awp_ret ?_; try simp) | (refine awp_skip ?_; try simp) | (refine awp_exit ?_; try simp) | (refine KeepQ.go (by assumption) ?_; try simp [Heap.set_get, -pickV, *]) | (refine awp_cond' ?_; try simp [Heap.set_get, -pickV, *]) | refine And.intro (by omega) ?_ | refine And.intro (by assumption) ?_ | refine and_lf (by omega) ?_ | refine and_rf ?_ (by omega) | refine and_imps (fun _ => ?_) (fun _ => ?_) | refine arounds_k fun K hK => ?_ | refine Or.inl ⟨by omega, ?_⟩ | refine Or.inr ⟨by omega, ?_⟩ | refine or_split (fun _ => ?_) (fun _ => ?_) | exact Sub.refl _ | refine imp_in fun _ => ?_ | refine and_ri ?_ (fun _ => ?_) | refine and_li (fun _ => ?_) ?_ | (refine And.intro ?_ ?_; focus (intros; simp [*]; done)) | fail)
    refine awp_loop_h [4, 10, 12, 59, 60, 61, 62, 63, 64, 65, 66, 67, 68, 69, 70, 71, 72, 73, 74, 75] (fun m x g' => ∃ j : Nat, j ≤ n.kids.length ∧ m = n.kids.length - j ∧ x 59 = .int .i64 j ∧ x 10 = .int .i64 ((posOf l ((realK (n.kids.take j)).getLastD i) : Int) + 1) ∧ g' = g.set b9 (.cells (row n))) n.kids.length
      ⟨0, by omega, by omega, rfl, by simp [realK, hmi2], rfl⟩ (fun m x2 g' hI K hK => ?_)
    obtain ⟨j, hj, rfl, hx59, hx10, hgg⟩ := hI
    subst g'
    have w2 : IntKind.i64.wrap ((j : Int) + 1) = j + 1 := w64 (by omega) (by omega)
    by_cases hjl : j < n.kids.length
    · obtain ⟨k, hk⟩ : ∃ k, n.kids[j] = k := ⟨_, rfl⟩
      have hkm := hnd2 k (hk ▸ List.getElem_mem hjl)
      by_cases hk1 : k = -1
      · have hrk : realK (n.kids.take (j + 1)) = realK (n.kids.take j) := by
          rw [List.take_add_one, List.getElem?_eq_getElem hjl, hk, hk1]; simp [realK]
        simp (maxSteps := 10000000) only [AgainAt, hav, List.contains_cons, List.contains_nil, Bool.or_false, Nat.reduceAdd, Nat.reduceBEq, Bool.or_true, Bool.true_or, Bool.false_or, if_true, if_false, Bool.false_eq_true]
        repeat' (first | refine Keep.go (by assumption) ?_ | refine awp_seq_k fun K hK => ?_ | (refine awp_region ?_; try simp [Heap.set_get, -pickV, *]) | refine awp_block ?_ | (refine awp_ret ?_; try simp) | (refine awp_skip ?_; try simp) | (refine awp_exit ?_; try simp) | (refine KeepQ.go (by assumption) ?_; try simp [Heap.set_get, -pickV, *]) | (refine awp_cond' ?_; try simp [Heap.set_get, -pickV, *]) | refine And.intro (by omega) ?_ | refine And.intro (by assumption) ?_ | refine and_lf (by omega) ?_ | refine and_rf ?_ (by omega) | refine and_imps (fun _ => ?_) (fun _ => ?_) | refine arounds_k fun K hK => ?_ | refine Or.inl ⟨by omega, ?_⟩ | refine Or.inr ⟨by omega, ?_⟩ | refine or_split (fun _ => ?_) (fun _ => ?_) | exact Sub.refl _ | refine imp_in fun _ => ?_ | refine and_ri ?_ (fun _ => ?_) | refine and_li (fun _ => ?_) ?_ | (refine And.intro ?_ ?_; focus (intros; simp [*]; done)) | fail)
        refine ⟨by simp [hav], rfl, n.kids.length - (j + 1), _, by omega, Sub.refl _, j + 1, by omega, rfl, by simp, by simp [hrk], rfl⟩
      · obtain ⟨q, hq⟩ := Int.eq_ofNat_of_zero_le (a := k) (by omega)
        have hqN : q < nodes.length := by omega
        have hrk : realK (n.kids.take (j + 1)) = realK (n.kids.take j) ++ [q] := by
          rw [List.take_add_one, List.getElem?_eq_getElem hjl, hk, hq]; simp [realK]
        have hrk2 : realK n.kids = realK (n.kids.take j) ++ q :: realK (n.kids.drop (j + 1)) := by
          have h1 : n.kids = n.kids.take j ++ n.kids[j] :: n.kids.drop (j + 1) := by
            rw [← List.drop_eq_getElem_cons hjl, List.take_append_drop]
          rw [hk, hq] at h1
          have h2 : ∀ (u v : List Int), realK (u ++ (q : Int) :: v) = realK u ++ q :: realK v := fun u v => by simp [realK]
          exact (congrArg realK h1).trans (h2 _ _)
        have hlast := hmet q hqN
        have hord : posOf l ((realK (n.kids.take j)).getLastD i) < posOf l q := by
          rw [hrk2, ← List.cons_append, List.pairwise_append] at hpw
          exact hpw.2.2 _ List.getLastD_mem_cons q (by simp)
        have hq0 : ¬ ((q : Int) < 0) := by omega
        have hor2 : ¬ ((posOf l q : Int) ≤ posOf l ((realK (n.kids.take j)).getLastD i)) := by omega
        have hgl : (realK (n.kids.take (j + 1))).getLastD i = q := by rw [hrk]; simp
        have hml : m'[q]'(by omega) = (posOf l q : Int) + 1 := by
          have := hlast
          rw [List.getElem?_eq_getElem (by omega)] at this
          exact Option.some.inj this
        clear hrk hrk2 hpw
        obtain ⟨la, hla⟩ : ∃ la, (realK (n.kids.take j)).getLastD i = la := ⟨_, rfl⟩
        rw [hla] at hx10 hord hor2
        clear hla
        simp (maxSteps := 10000000) only [AgainAt, hav, List.contains_cons, List.contains_nil, Bool.or_false, Nat.reduceAdd, Nat.reduceBEq, Bool.or_true, Bool.true_or, Bool.false_or, if_true, if_false, Bool.false_eq_true]
        repeat' (first | refine Keep.go (by assumption) ?_ | refine awp_seq_k fun K hK => ?_ | (refine awp_region ?_; try simp [Heap.set_get, -pickV, *]) | refine awp_block ?_ | (refine awp_ret ?_; try simp) | (refine awp_skip ?_; try simp) | (refine awp_exit ?_; try simp) | (refine KeepQ.go (by assumption) ?_; try simp [Heap.set_get, -pickV, *]) | (refine awp_cond' ?_; try simp [Heap.set_get, -pickV, *]) | refine And.intro (by omega) ?_ | refine And.intro (by assumption) ?_ | refine and_lf (by omega) ?_ | refine and_rf ?_ (by omega) | refine and_imps (fun _ => ?_) (fun _ => ?_) | refine arounds_k fun K hK => ?_ | refine Or.inl ⟨by omega, ?_⟩ | refine Or.inr ⟨by omega, ?_⟩ | refine or_split (fun _ => ?_) (fun _ => ?_) | exact Sub.refl _ | refine imp_in fun _ => ?_ | refine and_ri ?_ (fun _ => ?_) | refine and_li (fun _ => ?_) ?_ | (refine And.intro ?_ ?_; focus (intros; simp [*]; done)) | fail)
        all_goals first
          | (exfalso; omega)
          | exact ⟨by simp [hav], rfl, n.kids.length - (j + 1), _, by omega, Sub.refl _, j + 1, by omega, rfl, by simp, by simp only [hgl]; simp [hml], rfl⟩
    · simp (maxSteps := 10000000) only [AgainAt, hav, List.contains_cons, List.contains_nil, Bool.or_false, Nat.reduceAdd, Nat.reduceBEq, Bool.or_true, Bool.true_or, Bool.false_or, if_true, if_false, Bool.false_eq_true]
      repeat' (first | refine Keep.go (by assumption) ?_ | refine awp_seq_k fun K hK => ?_ | (refine awp_region ?_; try simp [Heap.set_get, -pickV, *]) | refine awp_block ?_ | (refine awp_ret ?_; try simp) | (refine awp_skip ?_; try simp) | (refine awp_exit ?_; try simp) | (refine KeepQ.go (by assumption) ?_; try simp [Heap.set_get, -pickV, *]) | (refine awp_cond' ?_; try simp [Heap.set_get, -pickV, *]) | refine And.intro (by omega) ?_ | refine And.intro (by assumption) ?_ | refine and_lf (by omega) ?_ | refine and_rf ?_ (by omega) | refine and_imps (fun _ => ?_) (fun _ => ?_) | refine arounds_k fun K hK => ?_ | refine Or.inl ⟨by omega, ?_⟩ | refine Or.inr ⟨by omega, ?_⟩ | refine or_split (fun _ => ?_) (fun _ => ?_) | exact Sub.refl _ | refine imp_in fun _ => ?_ | refine and_ri ?_ (fun _ => ?_) | refine and_li (fun _ => ?_) ?_ | (refine And.intro ?_ ?_; focus (intros; simp [*]; done)) | fail)
      exact ⟨by simp [hav], rfl, nodes.length - (i + 1), g, by omega, (Sub.refl g).loc hb9 _, i + 1, by omega, rfl, by simp, g2, g3, g5, g6, gm, gs⟩
  · have hi2 : i = nodes.length := by omega
    subst i
    clear w1 hmet
    simp (maxSteps := 10000000) only [AgainAt, hav, List.contains_cons, List.contains_nil, Bool.or_false, Nat.reduceAdd, Nat.reduceBEq, Bool.or_true, Bool.true_or, Bool.false_or, if_true, if_false, Bool.false_eq_true]
    repeat' (first | refine Keep.go (by assumption) ?_ | refine awp_seq_k fun K hK => ?_ | (refine awp_region ?_; try simp [Heap.set_get, -pickV, *]) | refine awp_block ?_ | (refine awp_ret ?_; try simp) | (refine awp_skip ?_; try simp) | (refine awp_exit ?_; try simp) | (refine KeepQ.go (by assumption) ?_; try simp [Heap.set_get, -pickV, *]) | (refine awp_cond' ?_; try simp [Heap.set_get, -pickV, *]) | refine And.intro (by omega) ?_ | refine And.intro (by assumption) ?_ | refine and_lf (by omega) ?_ | refine and_rf ?_ (by omega) | refine and_imps (fun _ => ?_) (fun _ => ?_) | refine arounds_k fun K hK => ?_ | refine Or.inl ⟨by omega, ?_⟩ | refine Or.inr ⟨by omega, ?_⟩ | refine or_split (fun _ => ?_) (fun _ => ?_) | exact Sub.refl _ | refine imp_in fun _ => ?_ | refine and_ri ?_ (fun _ => ?_) | refine and_li (fun _ => ?_) ?_ | (refine And.intro ?_ ?_; focus (intros; simp [*]; done)) | fail)
    intro b13 hb13; simp only [Fresh, Heap.set_none] at hb13; try simp [Heap.set_get, -pickV, *]
    have z13 := sub_none' gs hb13
    have e213 := ne_of_fresh g2 hb13
    have e313 := ne_of_fresh g3 hb13
    have e132 : ¬ b13 = b2 := fun e => e213 e.symm
    have e133 : ¬ b13 = b3 := fun e => e313 e.symm
    have e613 := ne_of_fresh g6 hb13
    have e136 : ¬ b13 = b6 := fun e => e613 e.symm
    repeat' (first | refine Keep.go (by assumption) ?_ | refine awp_seq_k fun K hK => ?_ | (refine awp_region ?_; try simp [Heap.set_get, -pickV, *]) | refine awp_block ?_ | (refine awp_ret ?_; try simp) | (refine awp_skip ?_; try simp) | (refine awp_exit ?_; try simp) | (refine KeepQ.go (by assumption) ?_; try simp [Heap.set_get, -pickV, *]) | (refine awp_cond' ?_; try simp [Heap.set_get, -pickV, *]) | refine And.intro (by omega) ?_ | refine And.intro (by assumption) ?_ | refine and_lf (by omega) ?_ | refine and_rf ?_ (by omega) | refine and_imps (fun _ => ?_) (fun _ => ?_) | refine arounds_k fun K hK => ?_ | refine Or.inl ⟨by omega, ?_⟩ | refine Or.inr ⟨by omega, ?_⟩ | refine or_split (fun _ => ?_) (fun _ => ?_) | exact Sub.refl _ | refine imp_in fun _ => ?_ | refine and_ri ?_ (fun _ => ?_) | refine and_li (fun _ => ?_) ?_ | (refine And.intro ?_ ?_; focus (intros; simp [*]; done)) | fail)
    refine awp_heap (fun g => g b2 = some (.cells [AV.list 5 (nodes.map row) .no]) ∧ g b3 = some (.cells [.int .i64 stop]) ∧ g b6 = some (.cells [.int .i64 nodes.length]) ∧ g b13 = some (.cells [.int .i64 0]) ∧ AL.Sub h g)
      ⟨by simp [Heap.set_get, *], by simp [Heap.set_get, *], by simp [Heap.set_get, *], by simp [Heap.set_get, *], gs.loc z13 _⟩ (fun G0 hG0 => ?_)
    clear g2 g3 g5 g6 gm gs
    obtain ⟨g2, g3, g6, g13, gs⟩ := hG0
    refine awp_region_draw [b2, b6] [(0, true), (1, true), (3, true), (2, false), (4, false)] [5] follows (by kernel_rfl) rfl (by kernel_rfl) ?_; simp [Heap.set_get, Heap.plus_set, -pickV, *]
    refine Root_c nodes .no (by omega) _ _ ?_
    simp [Heap.set_get, Heap.plus_set, *]
    refine Each_c nodes .no hd (by omega) hks call2 (clo2 b13 b3 nodes.length stop) nodes.length _ (by omega) (by omega) 0 _ _ ⟨e133, by simp [*], by simp [*]⟩ (fun g1 hM1 hfr => ?_)
    obtain ⟨fw, wh, hfw, hcs⟩ : ∃ (fw : Int) (wh : Bool), runS (stepF stop) 0 l = (fw, wh) ∧ ((stop < 1 ∧ fw = 1 ∧ wh = false) ∨ (stop = 1 ∧ fw = 1 ∧ wh = false) ∨ (1 < stop ∧ stop ≤ nodes.length ∧ fw = stop ∧ wh = false) ∨ (nodes.length < stop ∧ fw = nodes.length ∧ wh = true)) := by
      have hfew := few_run stop l 0 (by omega) hlne
      rw [show (((0 : Nat) : Int)) = 0 from rfl] at hfew
      rw [hfew]
      by_cases c1 : stop ≤ 0 + 1
      · rw [if_pos c1]
        exact ⟨_, _, rfl, by simp; omega⟩
      · rw [if_neg c1]
        by_cases c2 : stop ≤ 0 + (l.length : Int)
        · rw [if_pos c2]
          exact ⟨_, _, rfl, by simp; omega⟩
        · rw [if_neg c2]
          exact ⟨_, _, rfl, by simp; omega⟩
    rw [hpl', hfw] at hM1 ⊢
    obtain ⟨-, k13, k3⟩ := hM1
    simp only at k13 k3
    have ks : ∀ b x, h b = some x → ¬ b = b2 → ¬ b = b6 → g1 b = some x := fun b x hx c2 c6 => by
      refine hfr b x ?_ ?_
      · rintro (e | e)
        · rw [e, z13] at hx; cases hx
        · rw [e, z3] at hx; cases hx
      · simp [c2, c6, gs b x hx]
    clear hfr hfw
    simp [Heap.set_get, Heap.plus_set, *]
    intro hb2n hb6n
    refine Keep.go (by assumption) ?_
    refine awp_heap (fun g => g b2 = some (.cells [AV.list 5 (nodes.map row) .no]) ∧ g b3 = some (.cells [.int .i64 stop]) ∧ g b6 = some (.cells [.int .i64 nodes.length]) ∧ g b13 = some (.cells [.int .i64 fw]) ∧ AL.Sub h g)
      ⟨by simp [*], by simp [*], by simp [*], by simp [*], fun b x hx => by
        have c2 : ¬ b = b2 := fun e => by rw [e, z2] at hx; cases hx
        have c6 : ¬ b = b6 := fun e => by rw [e, z6] at hx; cases hx
        simp [c2, c6, ks b x hx]⟩ (fun G1 hG1 => ?_)
    clear g2 g3 g6 g13 gs k3 k13 ks hb2n hb6n
    obtain ⟨g2, g3, g6, g13, gs⟩ := hG1
    have hN1 : (1 : Int) ≤ nodes.length := by omega
    rcases hcs with ⟨c1, c2, c3⟩ | ⟨c1, c2, c3⟩ | ⟨c1, c4, c2, c3⟩ | ⟨c1, c2, c3⟩
    · have d1 : ¬ ((nodes.length : Int) < stop) := by omega
      repeat' (first | refine Keep.go (by assumption) ?_ | refine awp_seq_k fun K hK => ?_ | (refine awp_region ?_; try simp [Heap.set_get, -pickV, *]) | refine awp_block ?_ | (refine awp_ret ?_; try simp) | (refine awp_skip ?_; try simp) | (refine awp_exit ?_; try simp) | (refine KeepQ.go (by assumption) ?_; try simp [Heap.set_get, -pickV, *]) | (refine awp_cond' ?_; try simp [Heap.set_get, -pickV, *]) | refine And.intro (by omega) ?_ | refine And.intro (by assumption) ?_ | refine and_lf (by omega) ?_ | refine and_rf ?_ (by omega) | refine and_imps (fun _ => ?_) (fun _ => ?_) | refine arounds_k fun K hK => ?_ | refine Or.inl ⟨by omega, ?_⟩ | refine Or.inr ⟨by omega, ?_⟩ | refine or_split (fun _ => ?_) (fun _ => ?_) | exact Sub.refl _ | refine imp_in fun _ => ?_ | refine and_ri ?_ (fun _ => ?_) | refine and_li (fun _ => ?_) ?_ | (refine And.intro ?_ ?_; focus (intros; simp [*]; done)) | fail)
      refine Each_none nodes .no (-1) (by omega) _ _ _ ?_
      simp [Heap.set_get, -pickV, *]
      repeat' (first | refine Keep.go (by assumption) ?_ | refine awp_seq_k fun K hK => ?_ | (refine awp_region ?_; try simp [Heap.set_get, -pickV, *]) | refine awp_block ?_ | (refine awp_ret ?_; try simp) | (refine awp_skip ?_; try simp) | (refine awp_exit ?_; try simp) | (refine KeepQ.go (by assumption) ?_; try simp [Heap.set_get, -pickV, *]) | (refine awp_cond' ?_; try simp [Heap.set_get, -pickV, *]) | refine And.intro (by omega) ?_ | refine And.intro (by assumption) ?_ | refine and_lf (by omega) ?_ | refine and_rf ?_ (by omega) | refine and_imps (fun _ => ?_) (fun _ => ?_) | refine arounds_k fun K hK => ?_ | refine Or.inl ⟨by omega, ?_⟩ | refine Or.inr ⟨by omega, ?_⟩ | refine or_split (fun _ => ?_) (fun _ => ?_) | exact Sub.refl _ | refine imp_in fun _ => ?_ | refine and_ri ?_ (fun _ => ?_) | refine and_li (fun _ => ?_) ?_ | (refine And.intro ?_ ?_; focus (intros; simp [*]; done)) | fail)
    · have d1 : ¬ ((nodes.length : Int) < 1) := by omega
      have d2 : min (1 : Int) nodes.length = 1 := by omega
      repeat' (first | refine Keep.go (by assumption) ?_ | refine awp_seq_k fun K hK => ?_ | (refine awp_region ?_; try simp [Heap.set_get, -pickV, *]) | refine awp_block ?_ | (refine awp_ret ?_; try simp) | (refine awp_skip ?_; try simp) | (refine awp_exit ?_; try simp) | (refine KeepQ.go (by assumption) ?_; try simp [Heap.set_get, -pickV, *]) | (refine awp_cond' ?_; try simp [Heap.set_get, -pickV, *]) | refine And.intro (by omega) ?_ | refine And.intro (by assumption) ?_ | refine and_lf (by omega) ?_ | refine and_rf ?_ (by omega) | refine and_imps (fun _ => ?_) (fun _ => ?_) | refine arounds_k fun K hK => ?_ | refine Or.inl ⟨by omega, ?_⟩ | refine Or.inr ⟨by omega, ?_⟩ | refine or_split (fun _ => ?_) (fun _ => ?_) | exact Sub.refl _ | refine imp_in fun _ => ?_ | refine and_ri ?_ (fun _ => ?_) | refine and_li (fun _ => ?_) ?_ | (refine And.intro ?_ ?_; focus (intros; simp [*]; done)) | fail)
      refine Each_none nodes .no (-1) (by omega) _ _ _ ?_
      simp [Heap.set_get, -pickV, *]
      repeat' (first | refine Keep.go (by assumption) ?_ | refine awp_seq_k fun K hK => ?_ | (refine awp_region ?_; try simp [Heap.set_get, -pickV, *]) | refine awp_block ?_ | (refine awp_ret ?_; try simp) | (refine awp_skip ?_; try simp) | (refine awp_exit ?_; try simp) | (refine KeepQ.go (by assumption) ?_; try simp [Heap.set_get, -pickV, *]) | (refine awp_cond' ?_; try simp [Heap.set_get, -pickV, *]) | refine And.intro (by omega) ?_ | refine And.intro (by assumption) ?_ | refine and_lf (by omega) ?_ | refine and_rf ?_ (by omega) | refine and_imps (fun _ => ?_) (fun _ => ?_) | refine arounds_k fun K hK => ?_ | refine Or.inl ⟨by omega, ?_⟩ | refine Or.inr ⟨by omega, ?_⟩ | refine or_split (fun _ => ?_) (fun _ => ?_) | exact Sub.refl _ | refine imp_in fun _ => ?_ | refine and_ri ?_ (fun _ => ?_) | refine and_li (fun _ => ?_) ?_ | (refine And.intro ?_ ?_; focus (intros; simp [*]; done)) | fail)
    · have d1 : ¬ ((nodes.length : Int) < stop) := by omega
      have d2 : min stop (nodes.length : Int) = stop := by omega
      have d3 : ¬ stop < 1 := by omega
      have d4 : 1 ≤ stop := by omega
      repeat' (first | refine Keep.go (by assumption) ?_ | refine awp_seq_k fun K hK => ?_ | (refine awp_region ?_; try simp [Heap.set_get, -pickV, *]) | refine awp_block ?_ | (refine awp_ret ?_; try simp) | (refine awp_skip ?_; try simp) | (refine awp_exit ?_; try simp) | (refine KeepQ.go (by assumption) ?_; try simp [Heap.set_get, -pickV, *]) | (refine awp_cond' ?_; try simp [Heap.set_get, -pickV, *]) | refine And.intro (by omega) ?_ | refine And.intro (by assumption) ?_ | refine and_lf (by omega) ?_ | refine and_rf ?_ (by omega) | refine and_imps (fun _ => ?_) (fun _ => ?_) | refine arounds_k fun K hK => ?_ | refine Or.inl ⟨by omega, ?_⟩ | refine Or.inr ⟨by omega, ?_⟩ | refine or_split (fun _ => ?_) (fun _ => ?_) | exact Sub.refl _ | refine imp_in fun _ => ?_ | refine and_ri ?_ (fun _ => ?_) | refine and_li (fun _ => ?_) ?_ | (refine And.intro ?_ ?_; focus (intros; simp [*]; done)) | fail)
      refine Each_none nodes .no (-1) (by omega) _ _ _ ?_
      simp [Heap.set_get, -pickV, *]
      repeat' (first | refine Keep.go (by assumption) ?_ | refine awp_seq_k fun K hK => ?_ | (refine awp_region ?_; try simp [Heap.set_get, -pickV, *]) | refine awp_block ?_ | (refine awp_ret ?_; try simp) | (refine awp_skip ?_; try simp) | (refine awp_exit ?_; try simp) | (refine KeepQ.go (by assumption) ?_; try simp [Heap.set_get, -pickV, *]) | (refine awp_cond' ?_; try simp [Heap.set_get, -pickV, *]) | refine And.intro (by omega) ?_ | refine And.intro (by assumption) ?_ | refine and_lf (by omega) ?_ | refine and_rf ?_ (by omega) | refine and_imps (fun _ => ?_) (fun _ => ?_) | refine arounds_k fun K hK => ?_ | refine Or.inl ⟨by omega, ?_⟩ | refine Or.inr ⟨by omega, ?_⟩ | refine or_split (fun _ => ?_) (fun _ => ?_) | exact Sub.refl _ | refine imp_in fun _ => ?_ | refine and_ri ?_ (fun _ => ?_) | refine and_li (fun _ => ?_) ?_ | (refine And.intro ?_ ?_; focus (intros; simp [*]; done)) | fail)
    · have d2 : min stop (nodes.length : Int) = nodes.length := by omega
      have d3 : ¬ stop < 1 := by omega
      have d4 : 1 ≤ stop := by omega
      repeat' (first | refine Keep.go (by assumption) ?_ | refine awp_seq_k fun K hK => ?_ | (refine awp_region ?_; try simp [Heap.set_get, -pickV, *]) | refine awp_block ?_ | (refine awp_ret ?_; try simp) | (refine awp_skip ?_; try simp) | (refine awp_exit ?_; try simp) | (refine KeepQ.go (by assumption) ?_; try simp [Heap.set_get, -pickV, *]) | (refine awp_cond' ?_; try simp [Heap.set_get, -pickV, *]) | refine And.intro (by omega) ?_ | refine And.intro (by assumption) ?_ | refine and_lf (by omega) ?_ | refine and_rf ?_ (by omega) | refine and_imps (fun _ => ?_) (fun _ => ?_) | refine arounds_k fun K hK => ?_ | refine Or.inl ⟨by omega, ?_⟩ | refine Or.inr ⟨by omega, ?_⟩ | refine or_split (fun _ => ?_) (fun _ => ?_) | exact Sub.refl _ | refine imp_in fun _ => ?_ | refine and_ri ?_ (fun _ => ?_) | refine and_li (fun _ => ?_) ?_ | (refine And.intro ?_ ?_; focus (intros; simp [*]; done)) | fail)
      refine Each_none nodes .no (-1) (by omega) _ _ _ ?_
      simp [Heap.set_get, -pickV, *]
      repeat' (first | refine Keep.go (by assumption) ?_ | refine awp_seq_k fun K hK => ?_ | (refine awp_region ?_; try simp [Heap.set_get, -pickV, *]) | refine awp_block ?_ | (refine awp_ret ?_; try simp) | (refine awp_skip ?_; try simp) | (refine awp_exit ?_; try simp) | (refine KeepQ.go (by assumption) ?_; try simp [Heap.set_get, -pickV, *]) | (refine awp_cond' ?_; try simp [Heap.set_get, -pickV, *]) | refine And.intro (by omega) ?_ | refine And.intro (by assumption) ?_ | refine and_lf (by omega) ?_ | refine and_rf ?_ (by omega) | refine and_imps (fun _ => ?_) (fun _ => ?_) | refine arounds_k fun K hK => ?_ | refine Or.inl ⟨by omega, ?_⟩ | refine Or.inr ⟨by omega, ?_⟩ | refine or_split (fun _ => ?_) (fun _ => ?_) | exact Sub.refl _ | refine imp_in fun _ => ?_ | refine and_ri ?_ (fun _ => ?_) | refine and_li (fun _ => ?_) ?_ | (refine And.intro ?_ ?_; focus (intros; simp [*]; done)) | fail)
end Go.Proofs.YtmnkalojpefclaaDoor
