import Derived.Test.YtgcpgoggngkbjaaDoorS2
set_option linter.unusedSimpArgs false
set_option linter.unusedVariables false
namespace Go.Proofs.YtgcpgoggngkbjaaDoor
open Go Go.AL Go.Proofs
theorem Int_c (n : Int) (h : Heap) (R : AV → Heap → Prop) (hR : R (.agg (vlRow ⟨2, n, []⟩)) h) : ACalls Tryd.prog 14 [.int .i64 n] h R := by
  refine ACalls.pure ?_ hR
  clear hR
  refine acalls_of Tryd.func14 rfl Tryd.ntmps14 (congrArg Array.toList Tryd.results14) fun Q hQ => ?_
  repeat' (first | refine Keep.go (by assumption) ?_ | refine awp_seq_k fun K hK => ?_ | (refine awp_region ?_; try simp [Heap.set_get, *]) | refine awp_block ?_ | (refine awp_ret ?_; try simp) | (refine awp_skip ?_; try simp) | (refine awp_exit ?_; try simp) | (refine KeepQ.go (by assumption) ?_; try simp [Heap.set_get, *]) | (refine awp_cond' ?_; try simp [Heap.set_get, *]) | refine And.intro (by omega) ?_ | refine And.intro (by assumption) ?_ | refine and_lf (by omega) ?_ | refine and_rf ?_ (by omega) | refine and_imps (fun _ => ?_) (fun _ => ?_) | refine arounds_k fun K hK => ?_ | refine Or.inl ⟨by omega, ?_⟩ | refine Or.inr ⟨by omega, ?_⟩ | refine or_split (fun _ => ?_) (fun _ => ?_) | exact Sub.refl _ | refine imp_in fun _ => ?_ | refine and_ri ?_ (fun _ => ?_) | refine and_li (fun _ => ?_) ?_ | (refine And.intro ?_ ?_; focus (intros; simp [*]; done)) | fail)
  intro b2 hb2; simp only [Fresh, Heap.set_none] at hb2; try simp [Heap.set_get, *]
  repeat' (first | refine Keep.go (by assumption) ?_ | refine awp_seq_k fun K hK => ?_ | (refine awp_region ?_; try simp [Heap.set_get, *]) | refine awp_block ?_ | (refine awp_ret ?_; try simp) | (refine awp_skip ?_; try simp) | (refine awp_exit ?_; try simp) | (refine KeepQ.go (by assumption) ?_; try simp [Heap.set_get, *]) | (refine awp_cond' ?_; try simp [Heap.set_get, *]) | refine And.intro (by omega) ?_ | refine And.intro (by assumption) ?_ | refine and_lf (by omega) ?_ | refine and_rf ?_ (by omega) | refine and_imps (fun _ => ?_) (fun _ => ?_) | refine arounds_k fun K hK => ?_ | refine Or.inl ⟨by omega, ?_⟩ | refine Or.inr ⟨by omega, ?_⟩ | refine or_split (fun _ => ?_) (fun _ => ?_) | exact Sub.refl _ | refine imp_in fun _ => ?_ | refine and_ri ?_ (fun _ => ?_) | refine and_li (fun _ => ?_) ?_ | (refine And.intro ?_ ?_; focus (intros; simp [*]; done)) | fail)
  all_goals first
    | ((repeat (first | exact Sub.refl _ | refine Sub.loc ?_ (by simp [*]) _)); done)
def f0 : Fn := ⟨[⟨1, 0, 0, 0⟩, ⟨33, 0, 0, 0⟩], [⟨2, 7, []⟩], 1, 0, 0, [], [], false, []⟩
def f1 : Fn := ⟨[⟨1, 0, 1, 0⟩, ⟨33, 0, 0, 0⟩], [⟨2, 7, []⟩], 1, 0, 0, [], [], false, []⟩
theorem check0 : checkAll [f0] = (0, 0) := by decide +kernel
theorem check1 : checkAll [f1] = (5, 0) := by decide +kernel
theorem checkE : checkAll [] = (2, 0) := by decide +kernel
/-- The program of holds, as it is put together. -/
abbrev row0 : List AV := [.list 4 [[.int .i64 1, .int .i64 0, .int .i64 0, .int .i64 0], [.int .i64 33, .int .i64 0, .int .i64 0, .int .i64 0]] .full, .list 3 [[.int .i64 2, .int .i64 7, .str []]] .full, .int .i64 1, .int .i64 0, .int .i64 0, .list 2 [] .nil, .list 4 [] .nil, .bool false, .str []]
theorem weak_row0 : WeakL row0 (fnRow f0) :=
  .cons (Weak.tok _ _ _) (.cons (Weak.tok _ _ _) (.cons (Weak.refl _) (.cons (Weak.refl _) (.cons (Weak.refl _) (.cons (Weak.tok _ _ _) (.cons (Weak.tok _ _ _) (.cons (Weak.refl _) (.cons (Weak.refl _) .nil))))))))
theorem weak_prog0 : Weak (.agg [.list 9 [row0] .full]) (progAV [f0] .no) := by
  refine Weak.agg (.cons (fun F v hr => ?_) .nil)
  refine Weak.rows (rows := [row0]) (rows' := [fnRow f0]) rfl (fun i hi => ?_) F v (Weak.tok _ _ _ F v hr)
  have : i = 0 := by simpa using hi
  subst this
  exact weak_row0
theorem prok0 : PrOk [f0] := ⟨by simp, fun f hf => by
  have : f = f0 := by simpa using hf
  subst this
  exact ⟨by simp [f0], by simp [f0], by simp [f0], by simp [f0]⟩⟩
theorem prok1 : PrOk [f1] := ⟨by simp, fun f hf => by
  have : f = f1 := by simpa using hf
  subst this
  exact ⟨by simp [f1], by simp [f1], by simp [f1], by simp [f1]⟩⟩
theorem prokE : PrOk [] := ⟨by simp, fun f hf => by cases hf⟩
theorem lines0 : linesL f0 = [[48, 32, 108, 111, 97, 100, 107, 32, 48, 32, 48, 32, 48], [49, 32, 114, 101, 116, 117, 114, 110, 32, 48, 32, 48, 32, 48]] := by decide +kernel
set_option maxRecDepth 100000 in
set_option maxHeartbeats 8000000 in
theorem holds_c (h : Heap) (hg : h 0 = some .gint) (R : AV → Heap → Prop) (hR : R (.bool true) h) : ACalls Tryd.prog 6 [] h R := by
  refine ACalls.pure ?_ hR
  clear hR
  refine acalls_of Tryd.func6 rfl Tryd.ntmps6 (congrArg Array.toList Tryd.results6) fun Q hQ => ?_
  repeat' (first | refine Keep.go (by assumption) ?_ | refine awp_seq_k fun K hK => ?_ | (refine awp_region ?_; try simp [Heap.set_get, *]) | refine awp_block ?_ | (refine awp_ret ?_; try simp) | (refine awp_skip ?_; try simp) | (refine awp_exit ?_; try simp) | (refine KeepQ.go (by assumption) ?_; try simp [Heap.set_get, *]) | (refine awp_cond' ?_; try simp [Heap.set_get, *]) | refine And.intro (by omega) ?_ | refine And.intro (by assumption) ?_ | refine and_lf (by omega) ?_ | refine and_rf ?_ (by omega) | refine and_imps (fun _ => ?_) (fun _ => ?_) | refine arounds_k fun K hK => ?_ | refine Or.inl ⟨by omega, ?_⟩ | refine Or.inr ⟨by omega, ?_⟩ | refine or_split (fun _ => ?_) (fun _ => ?_) | exact Sub.refl _ | refine imp_in fun _ => ?_ | refine and_ri ?_ (fun _ => ?_) | refine and_li (fun _ => ?_) ?_ | (refine And.intro ?_ ?_; focus (intros; simp [*]; done)) | fail)
  refine Int_c 7 _ _ ?_
  simp [Heap.set_get, *]
  intro b1 hb1; simp only [Fresh, Heap.set_none] at hb1; try simp [Heap.set_get, *]
  have n01 := ne_of_fresh hg hb1
  repeat' (first | refine Keep.go (by assumption) ?_ | refine awp_seq_k fun K hK => ?_ | (refine awp_region ?_; try simp [Heap.set_get, *]) | refine awp_block ?_ | (refine awp_ret ?_; try simp) | (refine awp_skip ?_; try simp) | (refine awp_exit ?_; try simp) | (refine KeepQ.go (by assumption) ?_; try simp [Heap.set_get, *]) | (refine awp_cond' ?_; try simp [Heap.set_get, *]) | refine And.intro (by omega) ?_ | refine And.intro (by assumption) ?_ | refine and_lf (by omega) ?_ | refine and_rf ?_ (by omega) | refine and_imps (fun _ => ?_) (fun _ => ?_) | refine arounds_k fun K hK => ?_ | refine Or.inl ⟨by omega, ?_⟩ | refine Or.inr ⟨by omega, ?_⟩ | refine or_split (fun _ => ?_) (fun _ => ?_) | exact Sub.refl _ | refine imp_in fun _ => ?_ | refine and_ri ?_ (fun _ => ?_) | refine and_li (fun _ => ?_) ?_ | (refine And.intro ?_ ?_; focus (intros; simp [*]; done)) | fail)
  refine ACalls.weak (ys := [.agg (fnRow f0)]) (.cons (Weak.agg weak_row0) .nil) ?_
  refine Lines_c _ _ itoa_small (fun _ _ _ _ => trivial) f0 (by simp [f0]) (fun i hi => by simp [f0] at hi; omega) (fun s hs => by simp [f0] at hs; rcases hs with rfl | rfl <;> simp) _ (by simp [Heap.set_get, *]) trivial _ ?_
  rw [lines0]
  simp [Heap.set_get, *]
  repeat' (first | refine Keep.go (by assumption) ?_ | refine awp_seq_k fun K hK => ?_ | (refine awp_region ?_; try simp [Heap.set_get, *]) | refine awp_block ?_ | (refine awp_ret ?_; try simp) | (refine awp_skip ?_; try simp) | (refine awp_exit ?_; try simp) | (refine KeepQ.go (by assumption) ?_; try simp [Heap.set_get, *]) | (refine awp_cond' ?_; try simp [Heap.set_get, *]) | refine And.intro (by omega) ?_ | refine And.intro (by assumption) ?_ | refine and_lf (by omega) ?_ | refine and_rf ?_ (by omega) | refine and_imps (fun _ => ?_) (fun _ => ?_) | refine arounds_k fun K hK => ?_ | refine Or.inl ⟨by omega, ?_⟩ | refine Or.inr ⟨by omega, ?_⟩ | refine or_split (fun _ => ?_) (fun _ => ?_) | exact Sub.refl _ | refine imp_in fun _ => ?_ | refine and_ri ?_ (fun _ => ?_) | refine and_li (fun _ => ?_) ?_ | (refine And.intro ?_ ?_; focus (intros; simp [*]; done)) | fail)
  refine ACalls.weak (.cons weak_prog0 .nil) ?_
  refine Copy_c [f0] (by simp) (fun f hf => by
    have : f = f0 := by simpa using hf
    subst this
    exact ⟨by simp [f0], by simp [f0], by simp [f0], by simp [f0]⟩) _ _ (fun e => by cases e) (fun _ bn c cs kb kc g hc hC => ?_)
  have hlen := hC.len
  have hN := hC.now
  obtain ⟨s1, s2, s3, sp, s4⟩ := hC.steps 0 (by simp) (by simp) (by simp [f0])
  have gn := hC.blk
  have gs := hC.sub
  have c0 : cs.getD (0 * 9 + 0) .any = .arr (kb 0) 0 2 (kc 0) := (hN.rows 0 (by simp) 0 (by omega)).trans rfl
  have hl9 : 9 ≤ cs.length := by simpa using hlen
  have c0' : cs[0]? = some (.arr (kb 0) 0 2 (kc 0)) := by
    have h0 : 0 < cs.length := by omega
    rw [List.getElem?_eq_getElem h0]
    simpa [List.getD, h0] using c0
  have g0 : g 0 = some .gint := gs _ _ (by simp [Heap.set_get, *])
  have g1 : g b1 = some (.cells [.list 9 [row0] .full]) := gs _ _ (by simp [Heap.set_get])
  have s4' : g (kb 0) = some (.cells ([.int .i64 1, .int .i64 0, .int .i64 0, .int .i64 0, .int .i64 33, .int .i64 0, .int .i64 0, .int .i64 0] ++ sp)) := s4
  obtain ⟨k0, hk0⟩ : ∃ k, kb 0 = k := ⟨_, rfl⟩
  rw [hk0] at c0' s1 s2 s4'
  have c0'' := (List.getElem?_eq_some_iff.1 c0').2
  have nk1 : ¬ k0 = b1 := fun e => by rw [e] at s1; simp at s1
  have n1k : ¬ b1 = k0 := fun e => nk1 e.symm
  have hsh : AL.Sub h g := fun c x hc => gs c x (by
    have : ¬ c = b1 := fun e => by rw [e, hb1] at hc; cases hc
    simp [Heap.set_get, this, hc])
  have zk : h k0 = none := by
    have := s1
    simp [Heap.set_get, nk1] at this
    exact this
  have zn : h bn = none := by
    have := hC.fresh
    have n : ¬ bn = b1 := fun e => by rw [e] at this; simp at this
    simpa [Heap.set_get, n] using this
  replace hN := Shut.mk hN
  replace hC := Shut.mk hC
  replace gs := Shut.mk gs
  clear s4 c0 s1
  simp [Heap.set_get, *]
  intro b3 hb3; simp only [Fresh, Heap.set_none] at hb3; try simp [Heap.set_get, *]
  have n3n := ne_of_fresh gn hb3
  have n3k := ne_of_fresh s4' hb3
  have n31 := ne_of_fresh g1 hb3
  have z3 : h b3 = none := by
    cases e : h b3 with
    | none => rfl
    | some x => rw [hsh _ _ e] at hb3; cases hb3
  have s2' : ¬ bn = k0 := fun e => s2 e.symm
  have m3n : ¬ b3 = bn := fun e => n3n e.symm
  have m3k : ¬ b3 = k0 := fun e => n3k e.symm
  repeat' (first | refine Keep.go (by assumption) ?_ | refine awp_seq_k fun K hK => ?_ | (refine awp_region ?_; try simp [Heap.set_get, *]) | refine awp_block ?_ | (refine awp_ret ?_; try simp) | (refine awp_skip ?_; try simp) | (refine awp_exit ?_; try simp) | (refine KeepQ.go (by assumption) ?_; try simp [Heap.set_get, *]) | (refine awp_cond' ?_; try simp [Heap.set_get, *]) | refine And.intro (by omega) ?_ | refine And.intro (by assumption) ?_ | refine and_lf (by omega) ?_ | refine and_rf ?_ (by omega) | refine and_imps (fun _ => ?_) (fun _ => ?_) | refine arounds_k fun K hK => ?_ | refine Or.inl ⟨by omega, ?_⟩ | refine Or.inr ⟨by omega, ?_⟩ | refine or_split (fun _ => ?_) (fun _ => ?_) | exact Sub.refl _ | refine imp_in fun _ => ?_ | refine and_ri ?_ (fun _ => ?_) | refine and_li (fun _ => ?_) ?_ | (refine And.intro ?_ ?_; focus (intros; simp [*]; done)) | fail)
  have hN1 : ∀ G : Heap, G bn = some (.cells cs) → G k0 = some (.cells (.int .i64 1 :: .int .i64 0 :: .int .i64 1 :: .int .i64 0 :: .int .i64 33 :: .int .i64 0 :: .int .i64 0 :: .int .i64 0 :: sp)) → CopyNow G [f1] bn cs kb kc := fun G e1 e2 => by
    refine ⟨by simpa using hlen, fun j hj q hq => ?_, fun j hj hn => ?_, e1⟩
    · have hj0 : j = 0 := by simpa using hj
      subst hj0
      exact (hN.out.rows 0 (by simp) q hq).trans rfl
    · have hj0 : j = 0 := by simpa using hj
      subst hj0
      exact ⟨s3, sp, by rw [hk0]; exact e2⟩
  replace hN1 := Shut.mk hN1
  have f0' : ((g.set b3 (.cells [.arr bn 0 1 c])).set k0 (.cells (.int .i64 1 :: .int .i64 0 :: .int .i64 1 :: .int .i64 0 :: .int .i64 33 :: .int .i64 0 :: .int .i64 0 :: .int .i64 0 :: sp))) 0 = some .gint := by
    have e1 : ¬ 0 = b3 := fun e => by rw [← e, g0] at hb3; cases hb3
    have e2 : ¬ 0 = k0 := fun e => by rw [← e, hg] at zk; cases zk
    simp [Heap.set_get, e1, e2, g0]
  have fsub : AL.Sub h ((g.set b3 (.cells [.arr bn 0 1 c])).set k0 (.cells (.int .i64 1 :: .int .i64 0 :: .int .i64 1 :: .int .i64 0 :: .int .i64 33 :: .int .i64 0 :: .int .i64 0 :: .int .i64 0 :: sp))) := (hsh.loc z3 _).loc zk _
  obtain ⟨G, hG⟩ : ∃ G, ((g.set b3 (.cells [.arr bn 0 1 c])).set k0 (.cells (.int .i64 1 :: .int .i64 0 :: .int .i64 1 :: .int .i64 0 :: .int .i64 33 :: .int .i64 0 :: .int .i64 0 :: .int .i64 0 :: sp))) = G := ⟨_, rfl⟩
  have G3 : G b3 = some (.cells [.arr bn 0 1 c]) := by rw [← hG]; simp [Heap.set_get, m3k, n3k]
  have Gn : G bn = some (.cells cs) := by rw [← hG]; simp [Heap.set_get, gn, s2', n3n, m3n]
  have Gk : G k0 = some (.cells (.int .i64 1 :: .int .i64 0 :: .int .i64 1 :: .int .i64 0 :: .int .i64 33 :: .int .i64 0 :: .int .i64 0 :: .int .i64 0 :: sp)) := by rw [← hG]; simp [Heap.set_get]
  rw [hG] at f0' fsub ⊢
  clear hG g0 g1 gn s4' hb3 z3 zk zn hb1 hsh
  refine ACalls.weak (.cons weak_prog0 .nil) ?_
  refine Check_c [f0] .no prok0 _ _ ?_
  rw [check0]
  simp [Heap.set_get, *]
  repeat' (first | refine Keep.go (by assumption) ?_ | refine awp_seq_k fun K hK => ?_ | (refine awp_region ?_; try simp [Heap.set_get, *]) | refine awp_block ?_ | (refine awp_ret ?_; try simp) | (refine awp_skip ?_; try simp) | (refine awp_exit ?_; try simp) | (refine KeepQ.go (by assumption) ?_; try simp [Heap.set_get, *]) | (refine awp_cond' ?_; try simp [Heap.set_get, *]) | refine And.intro (by omega) ?_ | refine And.intro (by assumption) ?_ | refine and_lf (by omega) ?_ | refine and_rf ?_ (by omega) | refine and_imps (fun _ => ?_) (fun _ => ?_) | refine arounds_k fun K hK => ?_ | refine Or.inl ⟨by omega, ?_⟩ | refine Or.inr ⟨by omega, ?_⟩ | refine or_split (fun _ => ?_) (fun _ => ?_) | exact Sub.refl _ | refine imp_in fun _ => ?_ | refine and_ri ?_ (fun _ => ?_) | refine and_li (fun _ => ?_) ?_ | (refine And.intro ?_ ?_; focus (intros; simp [*]; done)) | fail)
  refine ACalls.peek (.cons ((hN1.out G Gn Gk).deep hc) .nil) ?_
  refine Check_c [f1] .no prok1 _ _ ?_
  rw [check1]
  refine ⟨.agg _ (fun x hx => by simp at hx; rcases hx with rfl | rfl <;> exact .int _ _), ?_⟩
  simp [Heap.set_get, *]
  repeat' (first | refine Keep.go (by assumption) ?_ | refine awp_seq_k fun K hK => ?_ | (refine awp_region ?_; try simp [Heap.set_get, *]) | refine awp_block ?_ | (refine awp_ret ?_; try simp) | (refine awp_skip ?_; try simp) | (refine awp_exit ?_; try simp) | (refine KeepQ.go (by assumption) ?_; try simp [Heap.set_get, *]) | (refine awp_cond' ?_; try simp [Heap.set_get, *]) | refine And.intro (by omega) ?_ | refine And.intro (by assumption) ?_ | refine and_lf (by omega) ?_ | refine and_rf ?_ (by omega) | refine and_imps (fun _ => ?_) (fun _ => ?_) | refine arounds_k fun K hK => ?_ | refine Or.inl ⟨by omega, ?_⟩ | refine Or.inr ⟨by omega, ?_⟩ | refine or_split (fun _ => ?_) (fun _ => ?_) | exact Sub.refl _ | refine imp_in fun _ => ?_ | refine and_ri ?_ (fun _ => ?_) | refine and_li (fun _ => ?_) ?_ | (refine And.intro ?_ ?_; focus (intros; simp [*]; done)) | fail)
  refine ACalls.weak (ys := [progAV [] .no]) (.cons (Weak.agg (.cons (Weak.tok _ _ _) .nil)) .nil) ?_
  refine Check_c [] .no prokE _ _ ?_
  rw [checkE]
  simp [Heap.set_get, *]
  repeat' (first | refine Keep.go (by assumption) ?_ | refine awp_seq_k fun K hK => ?_ | (refine awp_region ?_; try simp [Heap.set_get, *]) | refine awp_block ?_ | (refine awp_ret ?_; try simp) | (refine awp_skip ?_; try simp) | (refine awp_exit ?_; try simp) | (refine KeepQ.go (by assumption) ?_; try simp [Heap.set_get, *]) | (refine awp_cond' ?_; try simp [Heap.set_get, *]) | refine And.intro (by omega) ?_ | refine And.intro (by assumption) ?_ | refine and_lf (by omega) ?_ | refine and_rf ?_ (by omega) | refine and_imps (fun _ => ?_) (fun _ => ?_) | refine arounds_k fun K hK => ?_ | refine Or.inl ⟨by omega, ?_⟩ | refine Or.inr ⟨by omega, ?_⟩ | refine or_split (fun _ => ?_) (fun _ => ?_) | exact Sub.refl _ | refine imp_in fun _ => ?_ | refine and_ri ?_ (fun _ => ?_) | refine and_li (fun _ => ?_) ?_ | (refine And.intro ?_ ?_; focus (intros; simp [*]; done)) | fail)
  refine Name_c 43 _ f0' _ ?_
  rw [show nameAt 43 = [101, 97, 99, 104] by decide +kernel]
  simp [Heap.set_get, *]
  repeat' (first | refine Keep.go (by assumption) ?_ | refine awp_seq_k fun K hK => ?_ | (refine awp_region ?_; try simp [Heap.set_get, *]) | refine awp_block ?_ | (refine awp_ret ?_; try simp) | (refine awp_skip ?_; try simp) | (refine awp_exit ?_; try simp) | (refine KeepQ.go (by assumption) ?_; try simp [Heap.set_get, *]) | (refine awp_cond' ?_; try simp [Heap.set_get, *]) | refine And.intro (by omega) ?_ | refine And.intro (by assumption) ?_ | refine and_lf (by omega) ?_ | refine and_rf ?_ (by omega) | refine and_imps (fun _ => ?_) (fun _ => ?_) | refine arounds_k fun K hK => ?_ | refine Or.inl ⟨by omega, ?_⟩ | refine Or.inr ⟨by omega, ?_⟩ | refine or_split (fun _ => ?_) (fun _ => ?_) | exact Sub.refl _ | refine imp_in fun _ => ?_ | refine and_ri ?_ (fun _ => ?_) | refine and_li (fun _ => ?_) ?_ | (refine And.intro ?_ ?_; focus (intros; simp [*]; done)) | fail)
  refine Name_c 0 _ f0' _ ?_
  rw [show nameAt 0 = [] by decide +kernel]
  simp [Heap.set_get, *]
  repeat' (first | refine Keep.go (by assumption) ?_ | refine awp_seq_k fun K hK => ?_ | (refine awp_region ?_; try simp [Heap.set_get, *]) | refine awp_block ?_ | (refine awp_ret ?_; try simp) | (refine awp_skip ?_; try simp) | (refine awp_exit ?_; try simp) | (refine KeepQ.go (by assumption) ?_; try simp [Heap.set_get, *]) | (refine awp_cond' ?_; try simp [Heap.set_get, *]) | refine And.intro (by omega) ?_ | refine And.intro (by assumption) ?_ | refine and_lf (by omega) ?_ | refine and_rf ?_ (by omega) | refine and_imps (fun _ => ?_) (fun _ => ?_) | refine arounds_k fun K hK => ?_ | refine Or.inl ⟨by omega, ?_⟩ | refine Or.inr ⟨by omega, ?_⟩ | refine or_split (fun _ => ?_) (fun _ => ?_) | exact Sub.refl _ | refine imp_in fun _ => ?_ | refine and_ri ?_ (fun _ => ?_) | refine and_li (fun _ => ?_) ?_ | (refine And.intro ?_ ?_; focus (intros; simp [*]; done)) | fail)
  all_goals exact fsub
end Go.Proofs.YtgcpgoggngkbjaaDoor
