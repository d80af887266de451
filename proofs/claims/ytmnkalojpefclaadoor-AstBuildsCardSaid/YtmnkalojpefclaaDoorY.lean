import Derived.Test.YtmnkalojpefclaaDoorX
set_option linter.unusedSimpArgs false
set_option linter.unusedVariables false
namespace Go.Proofs.YtmnkalojpefclaaDoor
open Go Go.AL Go.Proofs
theorem Add2_c (nodes : List Nd) (tok kt : Tok) (p : Nat) (n : Nd) (hl : nodes.length < 131072) (hk : n.kids.length ≤ 281474976710) (h : Heap) (hp : h p = some (bld nodes tok)) (ht : TokIn h tok) (R : AV → Heap → Prop)
    (hR : ∀ tok' g, g p = some (bld (nodes ++ [n]) tok') → TokIn g tok' → (∀ q x, q ≠ p → (∀ k e, tok ≠ .own q k e) → h q = some x → g q = some x) → (∀ q k e, tok' = .own q k e → h q = none ∨ ∃ k' e', tok = .own q k' e') → R (.tup [.int .i64 nodes.length, .int .i64 0]) g) :
    ACalls Tryd.prog 11 [.ptr p 0, .int .i64 n.kind, .int .i64 n.pos, .str n.text, .int .i64 n.num, .list 1 (ints n.kids) kt] h R :=
  ACalls.weak (.cons (.refl _) (.cons (.refl _) (.cons (.refl _) (.cons (.refl _) (.cons (.refl _) (.cons (Weak.tok _ _ _) .nil)))))) (Add_c nodes tok p n hl hk h hp ht R hR)
/-- What was there before stays. -/
structure Kept (h g : Heap) (p : Nat) (tok : Tok) : Prop where
  new : h p = none
  sub : AL.Sub h g
  tok : ∀ q k e, tok = .own q k e → h q = none
theorem Kept.step {h g g' : Heap} {p : Nat} {tok tok' : Tok} (hk : Kept h g p tok) (k : ∀ q x, q ≠ p → (∀ k e, tok ≠ .own q k e) → g q = some x → g' q = some x) (kt : ∀ q k e, tok' = .own q k e → g q = none ∨ ∃ k' e', tok = .own q k' e') : Kept h g' p tok' where
  new := hk.new
  sub := fun q x hx => k q x (fun e => by rw [e, hk.new] at hx; cases hx) (fun k' e q' => by rw [hk.tok _ _ _ q'] at hx; cases hx) (hk.sub q x hx)
  tok := fun q k' e q' => by
    rcases kt q k' e q' with h1 | ⟨k2, e2, h1⟩
    · cases hq : h q with
      | none => rfl
      | some x => rw [hk.sub q x hq] at h1; cases h1
    · exact hk.tok _ _ _ h1
def nX : Nd := ⟨6, 0, [120], 0, []⟩
def nY : Nd := ⟨4, 2, [], 1, []⟩
def nZ : Nd := ⟨10, 0, [43], 0, [0, 1]⟩
def nS : Nd := ⟨28, 0, [], 0, [2]⟩
def nB : Nd := ⟨26, 0, [], 0, [3]⟩
def tB : List Nd := [nX, nY, nZ, nS, nB]
theorem chkB : checkL tB = (0, 0) := by decide +kernel
theorem sameB : sameL tB tB = true := by decide +kernel
theorem chk0 : checkL [] = (2, 0) := by decide +kernel
theorem lvB : levelL [42] = 9 := by decide +kernel
theorem unB : amongL [33] [45, 32, 33, 32, 126, 32, 116, 121, 112, 101, 111, 102, 32, 99, 108, 111, 110, 101, 32, 114, 101, 115, 117, 109, 101, 32, 100, 101, 108, 101, 116, 101] = true := by decide +kernel
theorem asB : amongL [60, 45] assignB = true := by decide +kernel
theorem stB : amongL [43, 43] stepB = true := by decide +kernel
theorem okB' : ∀ n ∈ tB, NdOk n := by
  intro n hn
  simp only [tB, List.mem_cons, List.not_mem_nil, or_false] at hn
  rcases hn with rfl | rfl | rfl | rfl | rfl <;> exact ⟨by decide, by decide, by decide⟩
theorem downB : Down tB := by unfold Down; decide +kernel
theorem kidsB : ∀ n ∈ tB, ∀ k ∈ n.kids, k < (tB.length : Int) := by decide +kernel
theorem klB : ∀ n ∈ tB, n.kids.length ≤ 281474976710 := by decide +kernel

set_option maxRecDepth 100000 in
set_option maxHeartbeats 8000000 in
theorem builds_c (h : Heap) (hg : h 0 = some .gint) (R : AV → Heap → Prop) (hR : R (.bool true) h) : ACalls Tryd.prog 7 [] h R := by
  refine ACalls.pure ?_ hR
  clear hR
  have w0 : IntKind.i64.wrap 0 = 0 := by decide
  refine acalls_of Tryd.func7 rfl Tryd.ntmps7 (congrArg Array.toList Tryd.results7) fun Q hQ => ?_
  repeat' (first | refine Keep.go (by assumption) ?_ | refine awp_seq_k fun K hK => ?_ | (refine awp_region ?_; try simp [Heap.set_get, *]) | refine awp_block ?_ | (refine awp_ret ?_; try simp) | (refine awp_skip ?_; try simp) | (refine awp_exit ?_; try simp) | (refine KeepQ.go (by assumption) ?_; try simp [Heap.set_get, *]) | (refine awp_cond' ?_; try simp [Heap.set_get, *]) | refine And.intro (by omega) ?_ | refine And.intro (by assumption) ?_ | refine and_lf (by omega) ?_ | refine and_rf ?_ (by omega) | refine and_imps (fun _ => ?_) (fun _ => ?_) | refine arounds_k fun K hK => ?_ | refine Or.inl ⟨by omega, ?_⟩ | refine Or.inr ⟨by omega, ?_⟩ | refine or_split (fun _ => ?_) (fun _ => ?_) | exact Sub.refl _ | refine imp_in fun _ => ?_ | refine and_ri ?_ (fun _ => ?_) | refine and_li (fun _ => ?_) ?_ | (refine And.intro ?_ ?_; focus (intros; simp [*]; done)) | fail)
  intro p hp0
  have hpn : h p = none := hp0
  simp [Heap.set_get, *]
  repeat' (first | refine Keep.go (by assumption) ?_ | refine awp_seq_k fun K hK => ?_ | (refine awp_region ?_; try simp [Heap.set_get, *]) | refine awp_block ?_ | (refine awp_ret ?_; try simp) | (refine awp_skip ?_; try simp) | (refine awp_exit ?_; try simp) | (refine KeepQ.go (by assumption) ?_; try simp [Heap.set_get, *]) | (refine awp_cond' ?_; try simp [Heap.set_get, *]) | refine And.intro (by omega) ?_ | refine And.intro (by assumption) ?_ | refine and_lf (by omega) ?_ | refine and_rf ?_ (by omega) | refine and_imps (fun _ => ?_) (fun _ => ?_) | refine arounds_k fun K hK => ?_ | refine Or.inl ⟨by omega, ?_⟩ | refine Or.inr ⟨by omega, ?_⟩ | refine or_split (fun _ => ?_) (fun _ => ?_) | exact Sub.refl _ | refine imp_in fun _ => ?_ | refine and_ri ?_ (fun _ => ?_) | refine and_li (fun _ => ?_) ?_ | (refine And.intro ?_ ?_; focus (intros; simp [*]; done)) | fail)
  have h1p : (h.set p (.cells [AV.list 5 [] Tok.nil])) p = some (bld [] .nil) := by simp
  have h1k : Kept h (h.set p (.cells [AV.list 5 [] Tok.nil])) p .nil := ⟨hpn, (Sub.refl h).loc hpn _, fun q k e h => by cases h⟩
  refine Add2_c [] .nil .nil p nX (by decide) (by decide) _ h1p trivial _ (fun t2 g2 h2p h2t h2k h2q => ?_)
  have h2 := h1k.step h2k h2q
  clear h2k h2q h1p h1k
  simp [Heap.set_get, *]
  repeat' (first | refine Keep.go (by assumption) ?_ | refine awp_seq_k fun K hK => ?_ | (refine awp_region ?_; try simp [Heap.set_get, *]) | refine awp_block ?_ | (refine awp_ret ?_; try simp) | (refine awp_skip ?_; try simp) | (refine awp_exit ?_; try simp) | (refine KeepQ.go (by assumption) ?_; try simp [Heap.set_get, *]) | (refine awp_cond' ?_; try simp [Heap.set_get, *]) | refine And.intro (by omega) ?_ | refine And.intro (by assumption) ?_ | refine and_lf (by omega) ?_ | refine and_rf ?_ (by omega) | refine and_imps (fun _ => ?_) (fun _ => ?_) | refine arounds_k fun K hK => ?_ | refine Or.inl ⟨by omega, ?_⟩ | refine Or.inr ⟨by omega, ?_⟩ | refine or_split (fun _ => ?_) (fun _ => ?_) | exact Sub.refl _ | refine imp_in fun _ => ?_ | refine and_ri ?_ (fun _ => ?_) | refine and_li (fun _ => ?_) ?_ | (refine And.intro ?_ ?_; focus (intros; simp [*]; done)) | fail)
  refine Add2_c [nX] t2 .nil p nY (by decide) (by decide) _ h2p h2t _ (fun t3 g3 h3p h3t h3k h3q => ?_)
  have h3 := h2.step h3k h3q
  clear h3k h3q h2p h2t h2
  simp [Heap.set_get, *]
  repeat' (first | refine Keep.go (by assumption) ?_ | refine awp_seq_k fun K hK => ?_ | (refine awp_region ?_; try simp [Heap.set_get, *]) | refine awp_block ?_ | (refine awp_ret ?_; try simp) | (refine awp_skip ?_; try simp) | (refine awp_exit ?_; try simp) | (refine KeepQ.go (by assumption) ?_; try simp [Heap.set_get, *]) | (refine awp_cond' ?_; try simp [Heap.set_get, *]) | refine And.intro (by omega) ?_ | refine And.intro (by assumption) ?_ | refine and_lf (by omega) ?_ | refine and_rf ?_ (by omega) | refine and_imps (fun _ => ?_) (fun _ => ?_) | refine arounds_k fun K hK => ?_ | refine Or.inl ⟨by omega, ?_⟩ | refine Or.inr ⟨by omega, ?_⟩ | refine or_split (fun _ => ?_) (fun _ => ?_) | exact Sub.refl _ | refine imp_in fun _ => ?_ | refine and_ri ?_ (fun _ => ?_) | refine and_li (fun _ => ?_) ?_ | (refine And.intro ?_ ?_; focus (intros; simp [*]; done)) | fail)
  refine Add2_c [nX, nY] t3 .full p nZ (by decide) (by decide) _ h3p h3t _ (fun t4 g4 h4p h4t h4k h4q => ?_)
  have h4 := h3.step h4k h4q
  clear h4k h4q h3p h3t h3
  simp [Heap.set_get, *]
  repeat' (first | refine Keep.go (by assumption) ?_ | refine awp_seq_k fun K hK => ?_ | (refine awp_region ?_; try simp [Heap.set_get, *]) | refine awp_block ?_ | (refine awp_ret ?_; try simp) | (refine awp_skip ?_; try simp) | (refine awp_exit ?_; try simp) | (refine KeepQ.go (by assumption) ?_; try simp [Heap.set_get, *]) | (refine awp_cond' ?_; try simp [Heap.set_get, *]) | refine And.intro (by omega) ?_ | refine And.intro (by assumption) ?_ | refine and_lf (by omega) ?_ | refine and_rf ?_ (by omega) | refine and_imps (fun _ => ?_) (fun _ => ?_) | refine arounds_k fun K hK => ?_ | refine Or.inl ⟨by omega, ?_⟩ | refine Or.inr ⟨by omega, ?_⟩ | refine or_split (fun _ => ?_) (fun _ => ?_) | exact Sub.refl _ | refine imp_in fun _ => ?_ | refine and_ri ?_ (fun _ => ?_) | refine and_li (fun _ => ?_) ?_ | (refine And.intro ?_ ?_; focus (intros; simp [*]; done)) | fail)
  refine Add2_c [nX, nY, nZ] t4 .full p nS (by decide) (by decide) _ h4p h4t _ (fun t5 g5 h5p h5t h5k h5q => ?_)
  have h5 := h4.step h5k h5q
  clear h5k h5q h4p h4t h4
  simp [Heap.set_get, *]
  repeat' (first | refine Keep.go (by assumption) ?_ | refine awp_seq_k fun K hK => ?_ | (refine awp_region ?_; try simp [Heap.set_get, *]) | refine awp_block ?_ | (refine awp_ret ?_; try simp) | (refine awp_skip ?_; try simp) | (refine awp_exit ?_; try simp) | (refine KeepQ.go (by assumption) ?_; try simp [Heap.set_get, *]) | (refine awp_cond' ?_; try simp [Heap.set_get, *]) | refine And.intro (by omega) ?_ | refine And.intro (by assumption) ?_ | refine and_lf (by omega) ?_ | refine and_rf ?_ (by omega) | refine and_imps (fun _ => ?_) (fun _ => ?_) | refine arounds_k fun K hK => ?_ | refine Or.inl ⟨by omega, ?_⟩ | refine Or.inr ⟨by omega, ?_⟩ | refine or_split (fun _ => ?_) (fun _ => ?_) | exact Sub.refl _ | refine imp_in fun _ => ?_ | refine and_ri ?_ (fun _ => ?_) | refine and_li (fun _ => ?_) ?_ | (refine And.intro ?_ ?_; focus (intros; simp [*]; done)) | fail)
  refine Add2_c [nX, nY, nZ, nS] t5 .full p nB (by decide) (by decide) _ h5p h5t _ (fun t6 g6 h6p h6t h6k h6q => ?_)
  have h6 := h5.step h6k h6q
  clear h6k h6q h5p h5t h5
  simp [Heap.set_get, *]
  repeat' (first | refine Keep.go (by assumption) ?_ | refine awp_seq_k fun K hK => ?_ | (refine awp_region ?_; try simp [Heap.set_get, *]) | refine awp_block ?_ | (refine awp_ret ?_; try simp) | (refine awp_skip ?_; try simp) | (refine awp_exit ?_; try simp) | (refine KeepQ.go (by assumption) ?_; try simp [Heap.set_get, *]) | (refine awp_cond' ?_; try simp [Heap.set_get, *]) | refine And.intro (by omega) ?_ | refine And.intro (by assumption) ?_ | refine and_lf (by omega) ?_ | refine and_rf ?_ (by omega) | refine and_imps (fun _ => ?_) (fun _ => ?_) | refine arounds_k fun K hK => ?_ | refine Or.inl ⟨by omega, ?_⟩ | refine Or.inr ⟨by omega, ?_⟩ | refine or_split (fun _ => ?_) (fun _ => ?_) | exact Sub.refl _ | refine imp_in fun _ => ?_ | refine and_ri ?_ (fun _ => ?_) | refine and_li (fun _ => ?_) ?_ | (refine And.intro ?_ ?_; focus (intros; simp [*]; done)) | fail)
  have hp : g6 p = some (bld tB t6) := h6p
  clear h6p
  have hs6 := h6.sub
  refine Tree_c tB t6 p okB' klB (by decide) (by decide) _ (hs6 0 _ hg) hp _ ?_
  rw [chkB]
  simp [Heap.set_get, *]
  repeat' (first | refine Keep.go (by assumption) ?_ | refine awp_seq_k fun K hK => ?_ | (refine awp_region ?_; try simp [Heap.set_get, *]) | refine awp_block ?_ | (refine awp_ret ?_; try simp) | (refine awp_skip ?_; try simp) | (refine awp_exit ?_; try simp) | (refine KeepQ.go (by assumption) ?_; try simp [Heap.set_get, *]) | (refine awp_cond' ?_; try simp [Heap.set_get, *]) | refine And.intro (by omega) ?_ | refine And.intro (by assumption) ?_ | refine and_lf (by omega) ?_ | refine and_rf ?_ (by omega) | refine and_imps (fun _ => ?_) (fun _ => ?_) | refine arounds_k fun K hK => ?_ | refine Or.inl ⟨by omega, ?_⟩ | refine Or.inr ⟨by omega, ?_⟩ | refine or_split (fun _ => ?_) (fun _ => ?_) | exact Sub.refl _ | refine imp_in fun _ => ?_ | refine and_ri ?_ (fun _ => ?_) | refine and_li (fun _ => ?_) ?_ | (refine And.intro ?_ ?_; focus (intros; simp [*]; done)) | fail)
  intro b12 hb12; simp only [Fresh, Heap.set_none] at hb12; have n_b12_p := ne_of_fresh hp (b := b12) (by simp [*]); try simp [Heap.set_get, *]
  intro b13 hb13; simp only [Fresh, Heap.set_none] at hb13; have n_b13_p := ne_of_fresh hp (b := b13) (by simp [*]); try simp [Heap.set_get, *]
  repeat' (first | refine Keep.go (by assumption) ?_ | refine awp_seq_k fun K hK => ?_ | (refine awp_region ?_; try simp [Heap.set_get, *]) | refine awp_block ?_ | (refine awp_ret ?_; try simp) | (refine awp_skip ?_; try simp) | (refine awp_exit ?_; try simp) | (refine KeepQ.go (by assumption) ?_; try simp [Heap.set_get, *]) | (refine awp_cond' ?_; try simp [Heap.set_get, *]) | refine And.intro (by omega) ?_ | refine And.intro (by assumption) ?_ | refine and_lf (by omega) ?_ | refine and_rf ?_ (by omega) | refine and_imps (fun _ => ?_) (fun _ => ?_) | refine arounds_k fun K hK => ?_ | refine Or.inl ⟨by omega, ?_⟩ | refine Or.inr ⟨by omega, ?_⟩ | refine or_split (fun _ => ?_) (fun _ => ?_) | exact Sub.refl _ | refine imp_in fun _ => ?_ | refine and_ri ?_ (fun _ => ?_) | refine and_li (fun _ => ?_) ?_ | (refine And.intro ?_ ?_; focus (intros; simp [*]; done)) | fail)
  refine Node_c tB t6 p 2 (by decide) _ (by simp [Heap.set_get, *]) _ ?_
  simp only [show (0 : Int) ≤ 2 ∧ (2 : Int) < (tB.length : Int) by decide, dif_pos]
  simp [Heap.set_get, *]
  intro b14 hb14; simp only [Fresh, Heap.set_none] at hb14; have n_b14_p := ne_of_fresh hp (b := b14) (by simp [*]); try simp [Heap.set_get, *]
  repeat' (first | refine Keep.go (by assumption) ?_ | refine awp_seq_k fun K hK => ?_ | (refine awp_region ?_; try simp [Heap.set_get, *]) | refine awp_block ?_ | (refine awp_ret ?_; try simp) | (refine awp_skip ?_; try simp) | (refine awp_exit ?_; try simp) | (refine KeepQ.go (by assumption) ?_; try simp [Heap.set_get, *]) | (refine awp_cond' ?_; try simp [Heap.set_get, *]) | refine And.intro (by omega) ?_ | refine And.intro (by assumption) ?_ | refine and_lf (by omega) ?_ | refine and_rf ?_ (by omega) | refine and_imps (fun _ => ?_) (fun _ => ?_) | refine arounds_k fun K hK => ?_ | refine Or.inl ⟨by omega, ?_⟩ | refine Or.inr ⟨by omega, ?_⟩ | refine or_split (fun _ => ?_) (fun _ => ?_) | exact Sub.refl _ | refine imp_in fun _ => ?_ | refine and_ri ?_ (fun _ => ?_) | refine and_li (fun _ => ?_) ?_ | (refine And.intro ?_ ?_; focus (intros; simp [*]; done)) | fail)
  have hg6 : g6 0 = some .gint := hs6 0 _ hg
  have z12 : ¬ (0 : Nat) = b12 := ne_of_fresh hg6 hb12
  have z13 : ¬ (0 : Nat) = b13 := ne_of_fresh hg6 hb13.2.2
  have z14 : ¬ (0 : Nat) = b14 := ne_of_fresh hg6 hb14.2.2.2.2.2.2.2.2
  have y12 : ¬ b12 = 0 := fun e => z12 e.symm
  have y13 : ¬ b13 = 0 := fun e => z13 e.symm
  have y14 : ¬ b14 = 0 := fun e => z14 e.symm
  have hlB : tB.length = 5 := rfl
  have ht2 : tB[2].text = [43] := rfl
  refine awp_region_draw [b12, b13, b14] [(0, true), (1, true), (2, true), (3, true), (4, true), (5, true), (6, true), (7, true), (8, true), (9, true), (10, true), (11, true), (12, true), (13, true), (14, true), (15, true), (16, true), (17, true), (18, true), (19, true), (20, true), (21, true), (22, true), (23, false), (24, true), (25, true), (26, true), (27, true), (28, true), (29, true), (30, true), (31, true), (32, true), (33, true), (34, false), (35, false), (36, true), (37, true), (38, true), (39, false), (40, true), (41, true), (42, true), (43, true), (44, false), (45, true), (46, true), (47, true), (48, true), (49, true), (50, false), (51, true), (52, true), (53, false), (54, true), (55, true), (56, false), (57, true), (58, true), (59, true), (60, false), (61, true), (62, true), (63, false), (64, true), (65, true), (66, false), (67, true), (68, true), (69, false), (70, true), (71, true), (72, true), (73, true), (74, true)] [75] follows (by kernel_rfl) rfl (by kernel_rfl) ?_; simp [Heap.set_get, Heap.plus_set, *]
  refine Root_c tB .no (by decide) _ _ ?_
  simp [Heap.set_get, Heap.plus_set, *]
  refine Clone_c tB (by decide) klB _ _ (by decide) ?_
  simp [Heap.set_get, Heap.plus_set, *]
  refine Same_c tB tB downB (by decide) (by decide) (fun n hn => by have := klB n hn; omega) kidsB _ _ ?_
  rw [sameB]
  simp [Heap.set_get, Heap.plus_set, *]
  refine Check_c [] _ (fun n hn => by cases hn) (by decide) _ (by simp [Heap.set_get, *]) _ ?_
  rw [chk0]
  simp [Heap.set_get, Heap.plus_set, *]
  refine Level_c [42] _ (by simp [Heap.set_get, *]) _ ?_
  rw [lvB]
  simp [Heap.set_get, Heap.plus_set, *]
  refine Expr_c 17 _ _ ?_
  simp [Heap.set_get, Heap.plus_set, *]
  refine Stmt_c 29 _ _ ?_
  simp [Heap.set_get, Heap.plus_set, *]
  refine Target_c 4 _ _ ?_
  simp [Heap.set_get, Heap.plus_set, *]
  refine Literal_c 5 _ _ ?_
  simp [Heap.set_get, Heap.plus_set, *]
  refine Unary_c [33] _ (by simp [Heap.set_get, *]) _ ?_
  rw [unB]
  simp [Heap.set_get, Heap.plus_set, *]
  refine Assign_c [60, 45] _ (by simp [Heap.set_get, *]) _ ?_
  rw [asB]
  simp [Heap.set_get, Heap.plus_set, *]
  refine Step_c [43, 43] _ (by simp [Heap.set_get, *]) _ ?_
  rw [stB]
  simp [Heap.set_get, Heap.plus_set, *]
  repeat' (first | refine Keep.go (by assumption) ?_ | refine awp_seq_k fun K hK => ?_ | (refine awp_region ?_; try simp [Heap.set_get, *]) | refine awp_block ?_ | (refine awp_ret ?_; try simp) | (refine awp_skip ?_; try simp) | (refine awp_exit ?_; try simp) | (refine KeepQ.go (by assumption) ?_; try simp [Heap.set_get, *]) | (refine awp_cond' ?_; try simp [Heap.set_get, *]) | refine And.intro (by omega) ?_ | refine And.intro (by assumption) ?_ | refine and_lf (by omega) ?_ | refine and_rf ?_ (by omega) | refine and_imps (fun _ => ?_) (fun _ => ?_) | refine arounds_k fun K hK => ?_ | refine Or.inl ⟨by omega, ?_⟩ | refine Or.inr ⟨by omega, ?_⟩ | refine or_split (fun _ => ?_) (fun _ => ?_) | exact Sub.refl _ | refine imp_in fun _ => ?_ | refine and_ri ?_ (fun _ => ?_) | refine and_li (fun _ => ?_) ?_ | (refine And.intro ?_ ?_; focus (intros; simp [*]; done)) | fail)
  intro q x hq
  have hq6 := hs6 q x hq
  have q12 : ¬ q = b12 := fun e => by rw [e, hb12] at hq6; cases hq6
  have q13 : ¬ q = b13 := fun e => by rw [e, hb13.2.2] at hq6; cases hq6
  have q14 : ¬ q = b14 := fun e => by rw [e, hb14.2.2.2.2.2.2.2.2] at hq6; cases hq6
  simp [Heap.set_get, q12, q13, q14, hq6]
end Go.Proofs.YtmnkalojpefclaaDoor
