import Derived.Test.YtgcpgoggngkbjaaDoorJL
import Derived.Test.YtgcpgoggngkbjaaDoorHO2
import Derived.Test.YtgcpgoggngkbjaaDoorSM2
set_option linter.unusedSimpArgs false
set_option linter.unusedVariables false
namespace Go.Proofs.YtgcpgoggngkbjaaDoor
open Go Go.AL Go.Proofs
set_option maxRecDepth 100000 in
set_option maxHeartbeats 8000000 in
theorem CodeClones_c (P : Int → Prop) (H : Heap → Prop) (hI : ItoaOn P H) (hH : ∀ h g, AL.Sub h g → H h → H g) (hJ : JoinOk) (p : List Fn) (hpl : p.length ≤ 9223372036854775807) (hP : ∀ i : Nat, i < 400 → P i) (hS : ∀ f ∈ p, ∀ s ∈ f.steps, P s.a ∧ P s.b ∧ P s.c)
    (h : Heap) (hg : h 0 = some .gint) (hHh : H h) (R : AV → Heap → Prop) (hR : R (.bool true) h) :
    ACalls Tryd.prog 5 [progAV p .no] h R := by
  refine ACalls.pure ?_ hR
  clear hR
  refine acalls_of Tryd.func5 rfl Tryd.ntmps5 (congrArg Array.toList Tryd.results5) fun Q hQ => ?_
  repeat' (first | refine Keep.go (by assumption) ?_ | refine awp_seq_k fun K hK => ?_ | (refine awp_region ?_; try simp [Heap.set_get, *]) | refine awp_block ?_ | (refine awp_ret ?_; try simp) | (refine awp_skip ?_; try simp) | (refine awp_exit ?_; try simp) | (refine KeepQ.go (by assumption) ?_; try simp [Heap.set_get, *]) | (refine awp_cond' ?_; try simp [Heap.set_get, *]) | refine And.intro (by omega) ?_ | refine And.intro (by assumption) ?_ | refine and_lf (by omega) ?_ | refine and_rf ?_ (by omega) | refine and_imps (fun _ => ?_) (fun _ => ?_) | refine arounds_k fun K hK => ?_ | refine Or.inl ⟨by omega, ?_⟩ | refine Or.inr ⟨by omega, ?_⟩ | refine or_split (fun _ => ?_) (fun _ => ?_) | exact Sub.refl _ | refine imp_in fun _ => ?_ | refine and_ri ?_ (fun _ => ?_) | refine and_li (fun _ => ?_) ?_ | (refine And.intro ?_ ?_; focus (intros; simp [*]; done)) | fail)
  intro b1 hb1; simp only [Fresh, Heap.set_none] at hb1; try simp [Heap.set_get, *]
  have n01 := ne_of_fresh hg hb1
  repeat' (first | refine Keep.go (by assumption) ?_ | refine awp_seq_k fun K hK => ?_ | (refine awp_region ?_; try simp [Heap.set_get, *]) | refine awp_block ?_ | (refine awp_ret ?_; try simp) | (refine awp_skip ?_; try simp) | (refine awp_exit ?_; try simp) | (refine KeepQ.go (by assumption) ?_; try simp [Heap.set_get, *]) | (refine awp_cond' ?_; try simp [Heap.set_get, *]) | refine And.intro (by omega) ?_ | refine And.intro (by assumption) ?_ | refine and_lf (by omega) ?_ | refine and_rf ?_ (by omega) | refine and_imps (fun _ => ?_) (fun _ => ?_) | refine arounds_k fun K hK => ?_ | refine Or.inl ⟨by omega, ?_⟩ | refine Or.inr ⟨by omega, ?_⟩ | refine or_split (fun _ => ?_) (fun _ => ?_) | exact Sub.refl _ | refine imp_in fun _ => ?_ | refine and_ri ?_ (fun _ => ?_) | refine and_li (fun _ => ?_) ?_ | (refine And.intro ?_ ?_; focus (intros; simp [*]; done)) | fail)
  refine holds_c _ (by simp [Heap.set_get, *]) _ ?_
  simp [Heap.set_get, *]
  repeat' (first | refine Keep.go (by assumption) ?_ | refine awp_seq_k fun K hK => ?_ | (refine awp_region ?_; try simp [Heap.set_get, *]) | refine awp_block ?_ | (refine awp_ret ?_; try simp) | (refine awp_skip ?_; try simp) | (refine awp_exit ?_; try simp) | (refine KeepQ.go (by assumption) ?_; try simp [Heap.set_get, *]) | (refine awp_cond' ?_; try simp [Heap.set_get, *]) | refine And.intro (by omega) ?_ | refine And.intro (by assumption) ?_ | refine and_lf (by omega) ?_ | refine and_rf ?_ (by omega) | refine and_imps (fun _ => ?_) (fun _ => ?_) | refine arounds_k fun K hK => ?_ | refine Or.inl ⟨by omega, ?_⟩ | refine Or.inr ⟨by omega, ?_⟩ | refine or_split (fun _ => ?_) (fun _ => ?_) | exact Sub.refl _ | refine imp_in fun _ => ?_ | refine and_ri ?_ (fun _ => ?_) | refine and_li (fun _ => ?_) ?_ | (refine And.intro ?_ ?_; focus (intros; simp [*]; done)) | fail)
  refine smallN_c p .no hpl _ _ ?_
  cases hs : smallP p
  · simp [Heap.set_get, *]
    repeat' (first | refine Keep.go (by assumption) ?_ | refine awp_seq_k fun K hK => ?_ | (refine awp_region ?_; try simp [Heap.set_get, *]) | refine awp_block ?_ | (refine awp_ret ?_; try simp) | (refine awp_skip ?_; try simp) | (refine awp_exit ?_; try simp) | (refine KeepQ.go (by assumption) ?_; try simp [Heap.set_get, *]) | (refine awp_cond' ?_; try simp [Heap.set_get, *]) | refine And.intro (by omega) ?_ | refine And.intro (by assumption) ?_ | refine and_lf (by omega) ?_ | refine and_rf ?_ (by omega) | refine and_imps (fun _ => ?_) (fun _ => ?_) | refine arounds_k fun K hK => ?_ | refine Or.inl ⟨by omega, ?_⟩ | refine Or.inr ⟨by omega, ?_⟩ | refine or_split (fun _ => ?_) (fun _ => ?_) | exact Sub.refl _ | refine imp_in fun _ => ?_ | refine and_ri ?_ (fun _ => ?_) | refine and_li (fun _ => ?_) ?_ | (refine And.intro ?_ ?_; focus (intros; simp [*]; done)) | fail)
    all_goals (repeat (first | exact Sub.refl _ | refine Sub.loc ?_ (by simp [*]) _))
  · obtain ⟨hok, hp60, hsz⟩ := small_ok hs
    replace hS := Shut.mk hS
    replace hP := Shut.mk hP
    replace hsz := Shut.mk hsz
    replace hH := Shut.mk hH
    replace hJ := Shut.mk hJ
    replace hI := Shut.mk hI
    simp [Heap.set_get, *]
    repeat' (first | refine Keep.go (by assumption) ?_ | refine awp_seq_k fun K hK => ?_ | (refine awp_region ?_; try simp [Heap.set_get, *]) | refine awp_block ?_ | (refine awp_ret ?_; try simp) | (refine awp_skip ?_; try simp) | (refine awp_exit ?_; try simp) | (refine KeepQ.go (by assumption) ?_; try simp [Heap.set_get, *]) | (refine awp_cond' ?_; try simp [Heap.set_get, *]) | refine And.intro (by omega) ?_ | refine And.intro (by assumption) ?_ | refine and_lf (by omega) ?_ | refine and_rf ?_ (by omega) | refine and_imps (fun _ => ?_) (fun _ => ?_) | refine arounds_k fun K hK => ?_ | refine Or.inl ⟨by omega, ?_⟩ | refine Or.inr ⟨by omega, ?_⟩ | refine or_split (fun _ => ?_) (fun _ => ?_) | exact Sub.refl _ | refine imp_in fun _ => ?_ | refine and_ri ?_ (fun _ => ?_) | refine and_li (fun _ => ?_) ?_ | (refine And.intro ?_ ?_; focus (intros; simp [*]; done)) | fail)
    have hs1 : AL.Sub h (h.set b1 (.cells [.list 9 (p.map fnRow) .no])) := (Sub.refl h).loc hb1 _
    refine Copy_c p (by omega) (fun f hf => by obtain ⟨a, b, c, d⟩ := hsz.out f hf; exact ⟨by omega, by omega, by omega, by omega⟩) _ _ (fun hp0 => ?_) (fun hne bn c cs kb kc g hc hC => ?_)
    · subst hp0
      simp [Heap.set_get, *]
      repeat' (first | refine Keep.go (by assumption) ?_ | refine awp_seq_k fun K hK => ?_ | (refine awp_region ?_; try simp [Heap.set_get, *]) | refine awp_block ?_ | (refine awp_ret ?_; try simp) | (refine awp_skip ?_; try simp) | (refine awp_exit ?_; try simp) | (refine KeepQ.go (by assumption) ?_; try simp [Heap.set_get, *]) | (refine awp_cond' ?_; try simp [Heap.set_get, *]) | refine And.intro (by omega) ?_ | refine And.intro (by assumption) ?_ | refine and_lf (by omega) ?_ | refine and_rf ?_ (by omega) | refine and_imps (fun _ => ?_) (fun _ => ?_) | refine arounds_k fun K hK => ?_ | refine Or.inl ⟨by omega, ?_⟩ | refine Or.inr ⟨by omega, ?_⟩ | refine or_split (fun _ => ?_) (fun _ => ?_) | exact Sub.refl _ | refine imp_in fun _ => ?_ | refine and_ri ?_ (fun _ => ?_) | refine and_li (fun _ => ?_) ?_ | (refine And.intro ?_ ?_; focus (intros; simp [*]; done)) | fail)
      intro b3 hb3; simp only [Fresh, Heap.set_none] at hb3; try simp [Heap.set_get, *]
      obtain ⟨n13, n31, z3⟩ := hb3
      repeat' (first | refine Keep.go (by assumption) ?_ | refine awp_seq_k fun K hK => ?_ | (refine awp_region ?_; try simp [Heap.set_get, *]) | refine awp_block ?_ | (refine awp_ret ?_; try simp) | (refine awp_skip ?_; try simp) | (refine awp_exit ?_; try simp) | (refine KeepQ.go (by assumption) ?_; try simp [Heap.set_get, *]) | (refine awp_cond' ?_; try simp [Heap.set_get, *]) | refine And.intro (by omega) ?_ | refine And.intro (by assumption) ?_ | refine and_lf (by omega) ?_ | refine and_rf ?_ (by omega) | refine and_imps (fun _ => ?_) (fun _ => ?_) | refine arounds_k fun K hK => ?_ | refine Or.inl ⟨by omega, ?_⟩ | refine Or.inr ⟨by omega, ?_⟩ | refine or_split (fun _ => ?_) (fun _ => ?_) | exact Sub.refl _ | refine imp_in fun _ => ?_ | refine and_ri ?_ (fun _ => ?_) | refine and_li (fun _ => ?_) ?_ | (refine And.intro ?_ ?_; focus (intros; simp [*]; done)) | fail)
      refine awp_region_draw [b1, b3] [(0, true), (2, true), (1, false), (3, false), (4, true), (5, true), (6, true), (7, true), (8, true), (9, true), (10, true), (11, true), (12, true), (13, true)] [] follows (by kernel_rfl) rfl (by kernel_rfl) ?_; simp [Heap.set_get, Heap.plus_set, *]
      repeat' (first | refine Keep.go (by assumption) ?_ | refine awp_seq_k fun K hK => ?_ | (refine awp_region ?_; try simp [Heap.set_get, *]) | refine awp_block ?_ | (refine awp_ret ?_; try simp) | (refine awp_skip ?_; try simp) | (refine awp_exit ?_; try simp) | (refine KeepQ.go (by assumption) ?_; try simp [Heap.set_get, *]) | (refine awp_cond' ?_; try simp [Heap.set_get, *]) | refine And.intro (by omega) ?_ | refine And.intro (by assumption) ?_ | refine and_lf (by omega) ?_ | refine and_rf ?_ (by omega) | refine and_imps (fun _ => ?_) (fun _ => ?_) | refine arounds_k fun K hK => ?_ | refine Or.inl ⟨by omega, ?_⟩ | refine Or.inr ⟨by omega, ?_⟩ | refine or_split (fun _ => ?_) (fun _ => ?_) | exact Sub.refl _ | refine imp_in fun _ => ?_ | refine and_ri ?_ (fun _ => ?_) | refine and_li (fun _ => ?_) ?_ | (refine And.intro ?_ ?_; focus (intros; simp [*]; done)) | fail)
      refine Check_c [] .no hok _ _ ?_
      rw [checkE]
      simp [Heap.set_get, *]
      repeat' (first | refine Keep.go (by assumption) ?_ | refine awp_seq_k fun K hK => ?_ | (refine awp_region ?_; try simp [Heap.set_get, *]) | refine awp_block ?_ | (refine awp_ret ?_; try simp) | (refine awp_skip ?_; try simp) | (refine awp_exit ?_; try simp) | (refine KeepQ.go (by assumption) ?_; try simp [Heap.set_get, *]) | (refine awp_cond' ?_; try simp [Heap.set_get, *]) | refine And.intro (by omega) ?_ | refine And.intro (by assumption) ?_ | refine and_lf (by omega) ?_ | refine and_rf ?_ (by omega) | refine and_imps (fun _ => ?_) (fun _ => ?_) | refine arounds_k fun K hK => ?_ | refine Or.inl ⟨by omega, ?_⟩ | refine Or.inr ⟨by omega, ?_⟩ | refine or_split (fun _ => ?_) (fun _ => ?_) | exact Sub.refl _ | refine imp_in fun _ => ?_ | refine and_ri ?_ (fun _ => ?_) | refine and_li (fun _ => ?_) ?_ | (refine And.intro ?_ ?_; focus (intros; simp [*]; done)) | fail)
      refine Check_c [] .no hok _ _ ?_
      rw [checkE]
      simp [Heap.set_get, *]
      repeat' (first | refine Keep.go (by assumption) ?_ | refine awp_seq_k fun K hK => ?_ | (refine awp_region ?_; try simp [Heap.set_get, *]) | refine awp_block ?_ | (refine awp_ret ?_; try simp) | (refine awp_skip ?_; try simp) | (refine awp_exit ?_; try simp) | (refine KeepQ.go (by assumption) ?_; try simp [Heap.set_get, *]) | (refine awp_cond' ?_; try simp [Heap.set_get, *]) | refine And.intro (by omega) ?_ | refine And.intro (by assumption) ?_ | refine and_lf (by omega) ?_ | refine and_rf ?_ (by omega) | refine and_imps (fun _ => ?_) (fun _ => ?_) | refine arounds_k fun K hK => ?_ | refine Or.inl ⟨by omega, ?_⟩ | refine Or.inr ⟨by omega, ?_⟩ | refine or_split (fun _ => ?_) (fun _ => ?_) | exact Sub.refl _ | refine imp_in fun _ => ?_ | refine and_ri ?_ (fun _ => ?_) | refine and_li (fun _ => ?_) ?_ | (refine And.intro ?_ ?_; focus (intros; simp [*]; done)) | fail)
      refine awp_loop_h [2, 4, 5, 6, 7, 32, 33, 34, 35, 36, 37, 38, 39, 40, 41, 42, 43, 44, 45, 46, 47, 48, 49, 50, 51, 52, 53, 54, 55, 56, 57, 58, 59, 60, 61, 62, 63, 64, 65, 66, 67, 68, 69, 70, 71, 72, 73, 74, 75, 76, 77, 78, 79, 80, 81, 82, 83, 84, 85, 86, 87, 88, 89, 90, 91, 92, 93, 94] (fun m x g => x 32 = .int .i64 0 ∧ g b1 = some (.cells [.list 9 [] .no]) ∧ AL.Sub h g) 0
        ⟨rfl, by simp [Heap.set_get, *], by (repeat (first | exact Sub.refl _ | refine Sub.loc ?_ (by simp [*]) _))⟩ (fun m x g hI2 K hK => ?_)
      obtain ⟨hx, g1, gs⟩ := hI2
      clear hb1
      refine awp_eqs (s' := [_, _, x 2, _, x 4, x 5, x 6, x 7, _, _, _, _, _, _, _, _, _, _, _, _, _, _, _, _, _, _, _, _, _, _, _, _, x 32, x 33, x 34, x 35, x 36, x 37, x 38, x 39, x 40, x 41, x 42, x 43, x 44, x 45, x 46, x 47, x 48, x 49, x 50, x 51, x 52, x 53, x 54, x 55, x 56, x 57, x 58, x 59, x 60, x 61, x 62, x 63, x 64, x 65, x 66, x 67, x 68, x 69, x 70, x 71, x 72, x 73, x 74, x 75, x 76, x 77, x 78, x 79, x 80, x 81, x 82, x 83, x 84, x 85, x 86, x 87, x 88, x 89, x 90, x 91, x 92, x 93, x 94]) rfl ?_
      repeat' (first | refine Keep.go (by assumption) ?_ | refine awp_seq_k fun K hK => ?_ | (refine awp_region ?_; try simp [Heap.set_get, *]) | refine awp_block ?_ | (refine awp_ret ?_; try simp) | (refine awp_skip ?_; try simp) | (refine awp_exit ?_; try simp) | (refine KeepQ.go (by assumption) ?_; try simp [Heap.set_get, *]) | (refine awp_cond' ?_; try simp [Heap.set_get, *]) | refine And.intro (by omega) ?_ | refine And.intro (by assumption) ?_ | refine and_lf (by omega) ?_ | refine and_rf ?_ (by omega) | refine and_imps (fun _ => ?_) (fun _ => ?_) | refine arounds_k fun K hK => ?_ | refine Or.inl ⟨by omega, ?_⟩ | refine Or.inr ⟨by omega, ?_⟩ | refine or_split (fun _ => ?_) (fun _ => ?_) | exact Sub.refl _ | refine imp_in fun _ => ?_ | refine and_ri ?_ (fun _ => ?_) | refine and_li (fun _ => ?_) ?_ | (refine And.intro ?_ ?_; focus (intros; simp [*]; done)) | fail)
      all_goals first
        | exact gs
    · have hpos : 0 < p.length := List.length_pos_iff.2 hne
      have gn := hC.blk
      have gs : AL.Sub h g := hs1.trans hC.sub
      have g1 : g b1 = some (.cells [.list 9 (p.map fnRow) .no]) := hC.sub _ _ (by simp [Heap.set_get])
      have hN := hC.now
      have zk : ∀ j (hj : j < p.length), p[j].steps ≠ [] → h (kb j) = none ∧ ¬ kb j = b1 ∧ ¬ kb j = bn := fun j hj hn => by
        obtain ⟨s1, s2, _⟩ := hC.steps j hj hj hn
        have n1 : ¬ kb j = b1 := fun e => by rw [e] at s1; simp at s1
        exact ⟨by simpa [Heap.set_get, n1] using s1, n1, s2⟩
      have zn : h bn = none := by
        have := hC.fresh
        have n : ¬ bn = b1 := fun e => by rw [e] at this; simp at this
        simpa [Heap.set_get, n] using this
      have nn1 : ¬ bn = b1 := fun e => by
        have := hC.fresh
        rw [e] at this; simp at this
      have n1n : ¬ b1 = bn := fun e => nn1 e.symm
      have hap := hC.apart
      replace hap := Shut.mk hap
      replace zk := Shut.mk zk
      replace hN := Shut.mk hN
      clear hC hs1
      simp [Heap.set_get, *]
      repeat' (first | refine Keep.go (by assumption) ?_ | refine awp_seq_k fun K hK => ?_ | (refine awp_region ?_; try simp [Heap.set_get, *]) | refine awp_block ?_ | (refine awp_ret ?_; try simp) | (refine awp_skip ?_; try simp) | (refine awp_exit ?_; try simp) | (refine KeepQ.go (by assumption) ?_; try simp [Heap.set_get, *]) | (refine awp_cond' ?_; try simp [Heap.set_get, *]) | refine And.intro (by omega) ?_ | refine And.intro (by assumption) ?_ | refine and_lf (by omega) ?_ | refine and_rf ?_ (by omega) | refine and_imps (fun _ => ?_) (fun _ => ?_) | refine arounds_k fun K hK => ?_ | refine Or.inl ⟨by omega, ?_⟩ | refine Or.inr ⟨by omega, ?_⟩ | refine or_split (fun _ => ?_) (fun _ => ?_) | exact Sub.refl _ | refine imp_in fun _ => ?_ | refine and_ri ?_ (fun _ => ?_) | refine and_li (fun _ => ?_) ?_ | (refine And.intro ?_ ?_; focus (intros; simp [*]; done)) | fail)
      intro b3 hb3; simp only [Fresh, Heap.set_none] at hb3; try simp [Heap.set_get, *]
      have n31 := ne_of_fresh g1 hb3
      have n3n := ne_of_fresh gn hb3
      have m31 : ¬ b3 = b1 := fun e => n31 e.symm
      have m3n : ¬ b3 = bn := fun e => n3n e.symm
      have z3 : h b3 = none := by
        cases e : h b3 with
        | none => rfl
        | some x => rw [gs _ _ e] at hb3; cases hb3
      repeat' (first | refine Keep.go (by assumption) ?_ | refine awp_seq_k fun K hK => ?_ | (refine awp_region ?_; try simp [Heap.set_get, *]) | refine awp_block ?_ | (refine awp_ret ?_; try simp) | (refine awp_skip ?_; try simp) | (refine awp_exit ?_; try simp) | (refine KeepQ.go (by assumption) ?_; try simp [Heap.set_get, *]) | (refine awp_cond' ?_; try simp [Heap.set_get, *]) | refine And.intro (by omega) ?_ | refine And.intro (by assumption) ?_ | refine and_lf (by omega) ?_ | refine and_rf ?_ (by omega) | refine and_imps (fun _ => ?_) (fun _ => ?_) | refine arounds_k fun K hK => ?_ | refine Or.inl ⟨by omega, ?_⟩ | refine Or.inr ⟨by omega, ?_⟩ | refine or_split (fun _ => ?_) (fun _ => ?_) | exact Sub.refl _ | refine imp_in fun _ => ?_ | refine and_ri ?_ (fun _ => ?_) | refine and_li (fun _ => ?_) ?_ | (refine And.intro ?_ ?_; focus (intros; simp [*]; done)) | fail)
      refine awp_region_draw [b1, b3] [(0, true), (2, true), (1, false), (3, false), (4, true), (5, true), (6, true), (7, true), (8, true), (9, true), (10, true), (11, true), (12, true), (13, true)] [] follows (by kernel_rfl) rfl (by kernel_rfl) ?_; simp [Heap.set_get, Heap.plus_set, *]
      repeat' (first | refine Keep.go (by assumption) ?_ | refine awp_seq_k fun K hK => ?_ | (refine awp_region ?_; try simp [Heap.set_get, *]) | refine awp_block ?_ | (refine awp_ret ?_; try simp) | (refine awp_skip ?_; try simp) | (refine awp_exit ?_; try simp) | (refine KeepQ.go (by assumption) ?_; try simp [Heap.set_get, *]) | (refine awp_cond' ?_; try simp [Heap.set_get, *]) | refine And.intro (by omega) ?_ | refine And.intro (by assumption) ?_ | refine and_lf (by omega) ?_ | refine and_rf ?_ (by omega) | refine and_imps (fun _ => ?_) (fun _ => ?_) | refine arounds_k fun K hK => ?_ | refine Or.inl ⟨by omega, ?_⟩ | refine Or.inr ⟨by omega, ?_⟩ | refine or_split (fun _ => ?_) (fun _ => ?_) | exact Sub.refl _ | refine imp_in fun _ => ?_ | refine and_ri ?_ (fun _ => ?_) | refine and_li (fun _ => ?_) ?_ | (refine And.intro ?_ ?_; focus (intros; simp [*]; done)) | fail)
      have hND : CopyNow ((g.set b3 (.cells [.arr bn 0 p.length c])).minus [b1, b3]) p bn cs kb kc := by
        refine ⟨hN.out.len, hN.out.rows, fun j hj hn => ?_, by simp [Heap.set_get, gn, nn1, m3n, n3n]⟩
        obtain ⟨q1, q2, q3⟩ := zk.out j hj hn
        obtain ⟨q4, sp, q5⟩ := hN.out.steps j hj hn
        have q6 : ¬ kb j = b3 := fun e => by rw [e, hb3] at q5; cases q5
        exact ⟨q4, sp, by simp [Heap.set_get, q2, q6, q5]⟩
      refine ACalls.peek (.cons (hND.deep hc) .nil) ?_
      refine Check_c p .no hok _ _ ?_
      refine ⟨.agg _ (fun x hx => by simp at hx; rcases hx with rfl | rfl <;> exact .int _ _), ?_⟩
      clear hND
      simp [Heap.set_get, *]
      repeat' (first | refine Keep.go (by assumption) ?_ | refine awp_seq_k fun K hK => ?_ | (refine awp_region ?_; try simp [Heap.set_get, *]) | refine awp_block ?_ | (refine awp_ret ?_; try simp) | (refine awp_skip ?_; try simp) | (refine awp_exit ?_; try simp) | (refine KeepQ.go (by assumption) ?_; try simp [Heap.set_get, *]) | (refine awp_cond' ?_; try simp [Heap.set_get, *]) | refine And.intro (by omega) ?_ | refine And.intro (by assumption) ?_ | refine and_lf (by omega) ?_ | refine and_rf ?_ (by omega) | refine and_imps (fun _ => ?_) (fun _ => ?_) | refine arounds_k fun K hK => ?_ | refine Or.inl ⟨by omega, ?_⟩ | refine Or.inr ⟨by omega, ?_⟩ | refine or_split (fun _ => ?_) (fun _ => ?_) | exact Sub.refl _ | refine imp_in fun _ => ?_ | refine and_ri ?_ (fun _ => ?_) | refine and_li (fun _ => ?_) ?_ | (refine And.intro ?_ ?_; focus (intros; simp [*]; done)) | fail)
      refine Check_c p .no hok _ _ ?_
      simp [Heap.set_get, *]
      repeat' (first | refine Keep.go (by assumption) ?_ | refine awp_seq_k fun K hK => ?_ | (refine awp_region ?_; try simp [Heap.set_get, *]) | refine awp_block ?_ | (refine awp_ret ?_; try simp) | (refine awp_skip ?_; try simp) | (refine awp_exit ?_; try simp) | (refine KeepQ.go (by assumption) ?_; try simp [Heap.set_get, *]) | (refine awp_cond' ?_; try simp [Heap.set_get, *]) | refine And.intro (by omega) ?_ | refine And.intro (by assumption) ?_ | refine and_lf (by omega) ?_ | refine and_rf ?_ (by omega) | refine and_imps (fun _ => ?_) (fun _ => ?_) | refine arounds_k fun K hK => ?_ | refine Or.inl ⟨by omega, ?_⟩ | refine Or.inr ⟨by omega, ?_⟩ | refine or_split (fun _ => ?_) (fun _ => ?_) | exact Sub.refl _ | refine imp_in fun _ => ?_ | refine and_ri ?_ (fun _ => ?_) | refine and_li (fun _ => ?_) ?_ | (refine And.intro ?_ ?_; focus (intros; simp [*]; done)) | fail)
      have hst0 : ∀ j (hj : j < p.length), 0 ≤ j → p[j].steps ≠ [] → ∃ sp, (g.set b3 (.cells [.arr bn 0 p.length c])) (kb j) = some (.cells ((p[j].steps.map stRow).flatten ++ sp)) := fun j hj _ hn => by
        obtain ⟨q4, sp, q5⟩ := hN.out.steps j hj hn
        have q6 : ¬ kb j = b3 := fun e => by rw [e, hb3] at q5; cases q5
        exact ⟨sp, by simp [Heap.set_get, q6, q5]⟩
      refine awp_loop_h [2, 4, 5, 6, 7, 32, 33, 34, 35, 36, 37, 38, 39, 40, 41, 42, 43, 44, 45, 46, 47, 48, 49, 50, 51, 52, 53, 54, 55, 56, 57, 58, 59, 60, 61, 62, 63, 64, 65, 66, 67, 68, 69, 70, 71, 72, 73, 74, 75, 76, 77, 78, 79, 80, 81, 82, 83, 84, 85, 86, 87, 88, 89, 90, 91, 92, 93, 94] (fun m x k => ∃ i : Nat, i ≤ p.length ∧ m = p.length - i ∧ x 32 = .int .i64 i ∧ k b1 = some (.cells [.list 9 (p.map fnRow) .no]) ∧ k b3 = some (.cells [.arr bn 0 p.length c]) ∧ k bn = some (.cells cs) ∧ (∀ j (hj : j < p.length), i ≤ j → p[j].steps ≠ [] → ∃ sp, k (kb j) = some (.cells ((p[j].steps.map stRow).flatten ++ sp))) ∧ AL.Sub h k) p.length
        ⟨0, by omega, by omega, rfl, by simp [Heap.set_get, *], by simp [Heap.set_get, *], by simp [Heap.set_get, *], hst0, gs.loc z3 _⟩ (fun m x k hI2 K hK => ?_)
      clear hst0 g1 gn gs hb3
      obtain ⟨i, hi, rfl, hx, k1, k3, kn, kst, ks⟩ := hI2
      have w1 : IntKind.i64.wrap ((i : Int) + 1) = i + 1 := w64 (by omega) (by omega)
      by_cases hlt : i < p.length
      · obtain ⟨f, hf⟩ : ∃ f, p[i] = f := ⟨_, rfl⟩
        have hfg : p[i]? = some f := by rw [List.getElem?_eq_getElem hlt, hf]
        obtain ⟨l1, l2, l3, l4⟩ := hsz.out f (hf ▸ List.getElem_mem hlt)
        have hSf := hS.out f (hf ▸ List.getElem_mem hlt)
        have hPf : ∀ i : Nat, i < f.steps.length → P i := fun i hi => hP.out i (by omega)
        have hst := kst i hlt (Nat.le_refl i)
        have hkc : f.steps ≠ [] → f.steps.length ≤ kc i := fun hn => by
          have := hN.out.steps i hlt (by rw [hf]; exact hn)
          rw [hf] at this
          exact this.1
        rw [hf] at hst
        obtain ⟨jl1, jl2⟩ := lines_join hI.out f l1 hPf hSf
        have hll : (linesL f).length = f.steps.length := linesFrom_length f.steps 0
        have hzk := zk.out i hlt
        rw [hf] at hzk
        have hlen := hN.out.len
        have hrow : ∀ q, q < 9 → cs[i * 9 + q]? = some ((rowC f (kb i) (kc i)).getD q .any) := fun q hq => by
          have h1 := hN.out.rows i hlt q hq
          rw [hf] at h1
          have h2 : i * 9 + q < cs.length := by omega
          rw [List.getElem?_eq_getElem h2]
          simp only [List.getD, List.getElem?_eq_getElem h2, Option.getD_some] at h1
          rw [h1]; rfl
        have htake : List.take 9 (List.drop (i * 9) cs) = rowC f (kb i) (kc i) := by
          refine List.ext_getElem? fun q => ?_
          by_cases hq : q < 9
          · rw [List.getElem?_take_of_lt hq, List.getElem?_drop, hrow q hq]
            have : q < (rowC f (kb i) (kc i)).length := by simp [rowC]; omega
            simp [List.getD, this]
          · rw [List.getElem?_eq_none (by simp; omega), List.getElem?_eq_none (by simp [rowC]; omega)]
        have hl9 : i * 9 + 9 ≤ cs.length := by omega
        replace kst := Shut.mk kst
        replace hst := Shut.mk hst
        replace hrow := Shut.mk hrow
        replace hSf := Shut.mk hSf
        replace hPf := Shut.mk hPf
        replace hkc := Shut.mk hkc
        replace hzk := Shut.mk hzk
        refine awp_eqs (s' := [_, _, x 2, _, x 4, x 5, x 6, x 7, _, _, _, _, _, _, _, _, _, _, _, _, _, _, _, _, _, _, _, _, _, _, _, _, x 32, x 33, x 34, x 35, x 36, x 37, x 38, x 39, x 40, x 41, x 42, x 43, x 44, x 45, x 46, x 47, x 48, x 49, x 50, x 51, x 52, x 53, x 54, x 55, x 56, x 57, x 58, x 59, x 60, x 61, x 62, x 63, x 64, x 65, x 66, x 67, x 68, x 69, x 70, x 71, x 72, x 73, x 74, x 75, x 76, x 77, x 78, x 79, x 80, x 81, x 82, x 83, x 84, x 85, x 86, x 87, x 88, x 89, x 90, x 91, x 92, x 93, x 94]) rfl ?_
        repeat' (first | refine Keep.go (by assumption) ?_ | refine awp_seq_k fun K hK => ?_ | (refine awp_region ?_; try simp [Heap.set_get, *]) | refine awp_block ?_ | (refine awp_ret ?_; try simp) | (refine awp_skip ?_; try simp) | (refine awp_exit ?_; try simp) | (refine KeepQ.go (by assumption) ?_; try simp [Heap.set_get, *]) | (refine awp_cond' ?_; try simp [Heap.set_get, *]) | refine And.intro (by omega) ?_ | refine And.intro (by assumption) ?_ | refine and_lf (by omega) ?_ | refine and_rf ?_ (by omega) | refine and_imps (fun _ => ?_) (fun _ => ?_) | refine arounds_k fun K hK => ?_ | refine Or.inl ⟨by omega, ?_⟩ | refine Or.inr ⟨by omega, ?_⟩ | refine or_split (fun _ => ?_) (fun _ => ?_) | exact Sub.refl _ | refine imp_in fun _ => ?_ | refine and_ri ?_ (fun _ => ?_) | refine and_li (fun _ => ?_) ?_ | (refine And.intro ?_ ?_; focus (intros; simp [*]; done)) | fail)
        refine awp_region_draw [b1, b3, bn] [(0, true), (1, true), (2, true), (3, true), (4, true), (6, true), (7, true), (8, true), (9, true), (10, true), (5, false), (11, false), (12, true)] [13] follows (by kernel_rfl) rfl (by kernel_rfl) ?_; simp [Heap.set_get, Heap.plus_set, *]
        repeat' (first | refine Keep.go (by assumption) ?_ | refine awp_seq_k fun K hK => ?_ | (refine awp_region ?_; try simp [Heap.set_get, *]) | refine awp_block ?_ | (refine awp_ret ?_; try simp) | (refine awp_skip ?_; try simp) | (refine awp_exit ?_; try simp) | (refine KeepQ.go (by assumption) ?_; try simp [Heap.set_get, *]) | (refine awp_cond' ?_; try simp [Heap.set_get, *]) | refine And.intro (by omega) ?_ | refine And.intro (by assumption) ?_ | refine and_lf (by omega) ?_ | refine and_rf ?_ (by omega) | refine and_imps (fun _ => ?_) (fun _ => ?_) | refine arounds_k fun K hK => ?_ | refine Or.inl ⟨by omega, ?_⟩ | refine Or.inr ⟨by omega, ?_⟩ | refine or_split (fun _ => ?_) (fun _ => ?_) | exact Sub.refl _ | refine imp_in fun _ => ?_ | refine and_ri ?_ (fun _ => ?_) | refine and_li (fun _ => ?_) ?_ | (refine And.intro ?_ ?_; focus (intros; simp [*]; done)) | fail)
        have hkm : AL.Sub h (k.minus [b1, b3, bn]) := fun d y hd => by
          have n1 : ¬ d = b1 := fun e => by rw [e, hb1] at hd; cases hd
          have n2 : ¬ d = b3 := fun e => by rw [e, z3] at hd; cases hd
          have n3 : ¬ d = bn := fun e => by rw [e, zn] at hd; cases hd
          simp [n1, n2, n3, ks _ _ hd]
        have hk3 : f.steps ≠ [] → ¬ kb i = b3 := fun hn e => by
          obtain ⟨sp, q⟩ := hst.out hn
          rw [e, k3] at q
          injection q with q
          injection q with q
          obtain ⟨z, zs, hz⟩ := List.exists_cons_of_ne_nil hn
          rw [hz] at q
          simp at q
        refine Lines_c P H hI.out hH.out f (by omega) hPf.out hSf.out _ (hkm _ _ hg) (hH.out h _ hkm hHh) _ ?_
        simp [Heap.set_get, Heap.plus_set, htake]
        refine LinesB_c P H hI.out hH.out f (by omega) hPf.out hSf.out (kb i) (kc i) _ (fun hn => ?_) (hkm _ _ hg) (hH.out h _ hkm hHh) _ ?_
        · obtain ⟨sp, q⟩ := hst.out hn
          obtain ⟨q1, q2, q3⟩ := hzk.out hn
          exact ⟨hkc.out hn, sp, by simp [q2, q3, hk3 hn, q]⟩
        clear hkm
        replace hk3 := Shut.mk hk3
        have htake' := Shut.mk htake
        clear htake
        simp [Heap.set_get, *]
        repeat' (first | refine Keep.go (by assumption) ?_ | refine awp_seq_k fun K hK => ?_ | (refine awp_region ?_; try simp [Heap.set_get, *]) | refine awp_block ?_ | (refine awp_ret ?_; try simp) | (refine awp_skip ?_; try simp) | (refine awp_exit ?_; try simp) | (refine KeepQ.go (by assumption) ?_; try simp [Heap.set_get, *]) | (refine awp_cond' ?_; try simp [Heap.set_get, *]) | refine And.intro (by omega) ?_ | refine And.intro (by assumption) ?_ | refine and_lf (by omega) ?_ | refine and_rf ?_ (by omega) | refine and_imps (fun _ => ?_) (fun _ => ?_) | refine arounds_k fun K hK => ?_ | refine Or.inl ⟨by omega, ?_⟩ | refine Or.inr ⟨by omega, ?_⟩ | refine or_split (fun _ => ?_) (fun _ => ?_) | exact Sub.refl _ | refine imp_in fun _ => ?_ | refine and_ri ?_ (fun _ => ?_) | refine and_li (fun _ => ?_) ?_ | (refine And.intro ?_ ?_; focus (intros; simp [*]; done)) | fail)
        obtain ⟨LL, hLL⟩ : ∃ LL, linesL f = LL := ⟨_, rfl⟩
        rw [hLL] at jl1 jl2 hll ⊢
        by_cases hn : f.steps = []
        · have a0 : cs[i * 9]? = some (.list 4 [] .no) := by
            have := hrow.out 0 (by omega)
            simpa [rowC, hn] using this
          have hfl : f.steps.length = 0 := by rw [hn]; rfl
          have b0 := (List.getElem?_eq_some_iff.1 a0).2
          have a1 : i * 9 < cs.length := by omega
          replace hn := Shut.mk hn
          refine hJ.out LL [10] jl1 jl2 _ _ ?_
          simp [Heap.set_get, *]
          repeat' (first | refine Keep.go (by assumption) ?_ | refine awp_seq_k fun K hK => ?_ | (refine awp_region ?_; try simp [Heap.set_get, *]) | refine awp_block ?_ | (refine awp_ret ?_; try simp) | (refine awp_skip ?_; try simp) | (refine awp_exit ?_; try simp) | (refine KeepQ.go (by assumption) ?_; try simp [Heap.set_get, *]) | (refine awp_cond' ?_; try simp [Heap.set_get, *]) | refine And.intro (by omega) ?_ | refine And.intro (by assumption) ?_ | refine and_lf (by omega) ?_ | refine and_rf ?_ (by omega) | refine and_imps (fun _ => ?_) (fun _ => ?_) | refine arounds_k fun K hK => ?_ | refine Or.inl ⟨by omega, ?_⟩ | refine Or.inr ⟨by omega, ?_⟩ | refine or_split (fun _ => ?_) (fun _ => ?_) | exact Sub.refl _ | refine imp_in fun _ => ?_ | refine and_ri ?_ (fun _ => ?_) | refine and_li (fun _ => ?_) ?_ | (refine And.intro ?_ ?_; focus (intros; simp [*]; done)) | fail)
          refine hJ.out LL [10] jl1 jl2 _ _ ?_
          simp [Heap.set_get, *]
          repeat' (first | refine Keep.go (by assumption) ?_ | refine awp_seq_k fun K hK => ?_ | (refine awp_region ?_; try simp [Heap.set_get, *]) | refine awp_block ?_ | (refine awp_ret ?_; try simp) | (refine awp_skip ?_; try simp) | (refine awp_exit ?_; try simp) | (refine KeepQ.go (by assumption) ?_; try simp [Heap.set_get, *]) | (refine awp_cond' ?_; try simp [Heap.set_get, *]) | refine And.intro (by omega) ?_ | refine And.intro (by assumption) ?_ | refine and_lf (by omega) ?_ | refine and_rf ?_ (by omega) | refine and_imps (fun _ => ?_) (fun _ => ?_) | refine arounds_k fun K hK => ?_ | refine Or.inl ⟨by omega, ?_⟩ | refine Or.inr ⟨by omega, ?_⟩ | refine or_split (fun _ => ?_) (fun _ => ?_) | exact Sub.refl _ | refine imp_in fun _ => ?_ | refine and_ri ?_ (fun _ => ?_) | refine and_li (fun _ => ?_) ?_ | (refine And.intro ?_ ?_; focus (intros; simp [*]; done)) | fail)
          refine awp_loop_h [7, 71, 72, 73, 74, 75, 76, 77, 78, 79, 80, 81, 82, 83] (fun m x2 g => x2 71 = .int .i64 0 ∧ g = k) 0 ⟨rfl, rfl⟩ (fun m x2 g hI3 K2 hK2 => ?_)
          obtain ⟨hx2, rfl⟩ := hI3
          refine awp_eqs (s' := [_, _, _, _, _, _, _, x2 7, _, _, _, _, _, _, _, _, _, _, _, _, _, _, _, _, _, _, _, _, _, _, _, _, _, _, _, _, _, _, _, _, _, _, _, _, _, _, _, _, _, _, _, _, _, _, _, _, _, _, _, _, _, _, _, _, _, _, _, _, _, _, _, x2 71, x2 72, x2 73, x2 74, x2 75, x2 76, x2 77, x2 78, x2 79, x2 80, x2 81, x2 82, x2 83, _, _, _, _, _, _, _, _, _, _, _]) rfl ?_
          repeat' (first | refine Keep.go (by assumption) ?_ | refine awp_seq_k fun K hK => ?_ | (refine awp_region ?_; try simp [Heap.set_get, *]) | refine awp_block ?_ | (refine awp_ret ?_; try simp) | (refine awp_skip ?_; try simp) | (refine awp_exit ?_; try simp) | (refine KeepQ.go (by assumption) ?_; try simp [Heap.set_get, *]) | (refine awp_cond' ?_; try simp [Heap.set_get, *]) | refine And.intro (by omega) ?_ | refine And.intro (by assumption) ?_ | refine and_lf (by omega) ?_ | refine and_rf ?_ (by omega) | refine and_imps (fun _ => ?_) (fun _ => ?_) | refine arounds_k fun K hK => ?_ | refine Or.inl ⟨by omega, ?_⟩ | refine Or.inr ⟨by omega, ?_⟩ | refine or_split (fun _ => ?_) (fun _ => ?_) | exact Sub.refl _ | refine imp_in fun _ => ?_ | refine and_ri ?_ (fun _ => ?_) | refine and_li (fun _ => ?_) ?_ | (refine And.intro ?_ ?_; focus (intros; simp [*]; done)) | fail)
          refine Lines_c P H hI.out hH.out f (by omega) hPf.out hSf.out _ (ks _ _ hg) (hH.out h _ ks hHh) _ ?_
          rw [hLL]
          simp [Heap.set_get, *]
          repeat' (first | refine Keep.go (by assumption) ?_ | refine awp_seq_k fun K hK => ?_ | (refine awp_region ?_; try simp [Heap.set_get, *]) | refine awp_block ?_ | (refine awp_ret ?_; try simp) | (refine awp_skip ?_; try simp) | (refine awp_exit ?_; try simp) | (refine KeepQ.go (by assumption) ?_; try simp [Heap.set_get, *]) | (refine awp_cond' ?_; try simp [Heap.set_get, *]) | refine And.intro (by omega) ?_ | refine And.intro (by assumption) ?_ | refine and_lf (by omega) ?_ | refine and_rf ?_ (by omega) | refine and_imps (fun _ => ?_) (fun _ => ?_) | refine arounds_k fun K hK => ?_ | refine Or.inl ⟨by omega, ?_⟩ | refine Or.inr ⟨by omega, ?_⟩ | refine or_split (fun _ => ?_) (fun _ => ?_) | exact Sub.refl _ | refine imp_in fun _ => ?_ | refine and_ri ?_ (fun _ => ?_) | refine and_li (fun _ => ?_) ?_ | (refine And.intro ?_ ?_; focus (intros; simp [*]; done)) | fail)
          refine hJ.out LL [10] jl1 jl2 _ _ ?_
          simp [Heap.set_get, *]
          repeat' (first | refine Keep.go (by assumption) ?_ | refine awp_seq_k fun K hK => ?_ | (refine awp_region ?_; try simp [Heap.set_get, *]) | refine awp_block ?_ | (refine awp_ret ?_; try simp) | (refine awp_skip ?_; try simp) | (refine awp_exit ?_; try simp) | (refine KeepQ.go (by assumption) ?_; try simp [Heap.set_get, *]) | (refine awp_cond' ?_; try simp [Heap.set_get, *]) | refine And.intro (by omega) ?_ | refine And.intro (by assumption) ?_ | refine and_lf (by omega) ?_ | refine and_rf ?_ (by omega) | refine and_imps (fun _ => ?_) (fun _ => ?_) | refine arounds_k fun K hK => ?_ | refine Or.inl ⟨by omega, ?_⟩ | refine Or.inr ⟨by omega, ?_⟩ | refine or_split (fun _ => ?_) (fun _ => ?_) | exact Sub.refl _ | refine imp_in fun _ => ?_ | refine and_ri ?_ (fun _ => ?_) | refine and_li (fun _ => ?_) ?_ | (refine And.intro ?_ ?_; focus (intros; simp [*]; done)) | fail)
          refine hJ.out LL [10] jl1 jl2 _ _ ?_
          simp [Heap.set_get, *]
          repeat' (first | refine Keep.go (by assumption) ?_ | refine awp_seq_k fun K hK => ?_ | (refine awp_region ?_; try simp [Heap.set_get, *]) | refine awp_block ?_ | (refine awp_ret ?_; try simp) | (refine awp_skip ?_; try simp) | (refine awp_exit ?_; try simp) | (refine KeepQ.go (by assumption) ?_; try simp [Heap.set_get, *]) | (refine awp_cond' ?_; try simp [Heap.set_get, *]) | refine And.intro (by omega) ?_ | refine And.intro (by assumption) ?_ | refine and_lf (by omega) ?_ | refine and_rf ?_ (by omega) | refine and_imps (fun _ => ?_) (fun _ => ?_) | refine arounds_k fun K hK => ?_ | refine Or.inl ⟨by omega, ?_⟩ | refine Or.inr ⟨by omega, ?_⟩ | refine or_split (fun _ => ?_) (fun _ => ?_) | exact Sub.refl _ | refine imp_in fun _ => ?_ | refine and_ri ?_ (fun _ => ?_) | refine and_li (fun _ => ?_) ?_ | (refine And.intro ?_ ?_; focus (intros; simp [*]; done)) | fail)
          exact ⟨by kernel_rfl, rfl, p.length - (i + 1), g, by omega, Sub.refl _, i + 1, by omega, rfl, rfl, k1, k3, kn, fun j hj hij => kst.out j hj (by omega), ks⟩
        · have a0 : cs[i * 9]? = some (.arr (kb i) 0 f.steps.length (kc i)) := by
            have := hrow.out 0 (by omega)
            simpa [rowC, hn] using this
          have a1 : i * 9 < cs.length := by omega
          obtain ⟨sp, hkb⟩ := hst.out hn
          obtain ⟨zz1, zz2, zz3⟩ := hzk.out hn
          have zz4 := hk3.out hn
          have yy2 : ¬ b1 = kb i := fun e => zz2 e.symm
          have yy3 : ¬ bn = kb i := fun e => zz3 e.symm
          have yy4 : ¬ b3 = kb i := fun e => zz4 e.symm
          have hkcl := hkc.out hn
          have hoth : ∀ j (hj : j < p.length), i + 1 ≤ j → p[j].steps ≠ [] → ¬ kb j = kb i := fun j hj hij hjn e => hap.out i j hlt hj (by omega) hj (by rw [hf]; exact hn) hjn e.symm
          obtain ⟨ki, hki⟩ : ∃ b, kb i = b := ⟨_, rfl⟩
          rw [hki] at a0 hkb zz1 zz2 zz3 zz4 yy2 yy3 yy4 hoth
          clear hki
          have b0 := (List.getElem?_eq_some_iff.1 a0).2
          replace hn := Shut.mk hn
          replace hoth := Shut.mk hoth
          have hCl : f.steps.length * 4 ≤ ((f.steps.map stRow).flatten ++ sp).length := by rw [List.length_append, rows4_len]; omega
          refine hJ.out LL [10] jl1 jl2 _ _ ?_
          simp [Heap.set_get, *]
          repeat' (first | refine Keep.go (by assumption) ?_ | refine awp_seq_k fun K hK => ?_ | (refine awp_region ?_; try simp [Heap.set_get, *]) | refine awp_block ?_ | (refine awp_ret ?_; try simp) | (refine awp_skip ?_; try simp) | (refine awp_exit ?_; try simp) | (refine KeepQ.go (by assumption) ?_; try simp [Heap.set_get, *]) | (refine awp_cond' ?_; try simp [Heap.set_get, *]) | refine And.intro (by omega) ?_ | refine And.intro (by assumption) ?_ | refine and_lf (by omega) ?_ | refine and_rf ?_ (by omega) | refine and_imps (fun _ => ?_) (fun _ => ?_) | refine arounds_k fun K hK => ?_ | refine Or.inl ⟨by omega, ?_⟩ | refine Or.inr ⟨by omega, ?_⟩ | refine or_split (fun _ => ?_) (fun _ => ?_) | exact Sub.refl _ | refine imp_in fun _ => ?_ | refine and_ri ?_ (fun _ => ?_) | refine and_li (fun _ => ?_) ?_ | (refine And.intro ?_ ?_; focus (intros; simp [*]; done)) | fail)
          refine hJ.out LL [10] jl1 jl2 _ _ ?_
          simp [Heap.set_get, *]
          repeat' (first | refine Keep.go (by assumption) ?_ | refine awp_seq_k fun K hK => ?_ | (refine awp_region ?_; try simp [Heap.set_get, *]) | refine awp_block ?_ | (refine awp_ret ?_; try simp) | (refine awp_skip ?_; try simp) | (refine awp_exit ?_; try simp) | (refine KeepQ.go (by assumption) ?_; try simp [Heap.set_get, *]) | (refine awp_cond' ?_; try simp [Heap.set_get, *]) | refine And.intro (by omega) ?_ | refine And.intro (by assumption) ?_ | refine and_lf (by omega) ?_ | refine and_rf ?_ (by omega) | refine and_imps (fun _ => ?_) (fun _ => ?_) | refine arounds_k fun K hK => ?_ | refine Or.inl ⟨by omega, ?_⟩ | refine Or.inr ⟨by omega, ?_⟩ | refine or_split (fun _ => ?_) (fun _ => ?_) | exact Sub.refl _ | refine imp_in fun _ => ?_ | refine and_ri ?_ (fun _ => ?_) | refine and_li (fun _ => ?_) ?_ | (refine And.intro ?_ ?_; focus (intros; simp [*]; done)) | fail)
          refine awp_loop_h [7, 71, 72, 73, 74, 75, 76, 77, 78, 79, 80, 81, 82, 83] (fun m x2 g => ∃ (q : Nat) (CS : List AV), q ≤ f.steps.length ∧ m = f.steps.length - q ∧ x2 71 = .int .i64 q ∧ f.steps.length * 4 ≤ CS.length ∧ g ki = some (.cells CS) ∧ g b1 = some (.cells [.list 9 (p.map fnRow) .no]) ∧ g b3 = some (.cells [.arr bn 0 p.length c]) ∧ g bn = some (.cells cs) ∧ (∀ j (hj : j < p.length), i + 1 ≤ j → p[j].steps ≠ [] → ∃ sp, g (kb j) = some (.cells ((p[j].steps.map stRow).flatten ++ sp))) ∧ AL.Sub h g) f.steps.length
            ⟨0, _, by omega, by omega, rfl, hCl, hkb, k1, k3, kn, fun j hj hij hjn => kst.out j hj (by omega) hjn, ks⟩ (fun m x2 g hI3 K2 hK2 => ?_)
          clear hkb k1 k3 kn ks hCl kst hst
          obtain ⟨q, CS, hq, rfl, hx2, hCl, gk, g1, g3, gn, gst, gs⟩ := hI3
          have w2 : IntKind.i64.wrap ((q : Int) + 1) = q + 1 := w64 (by omega) (by omega)
          by_cases hql : q < f.steps.length
          · have hq4 : q * 4 + 1 ≤ CS.length := by omega
            have hq5 : q * 4 < CS.length := by omega
            replace gst := Shut.mk gst
            refine awp_eqs (s' := [_, _, _, _, _, _, _, x2 7, _, _, _, _, _, _, _, _, _, _, _, _, _, _, _, _, _, _, _, _, _, _, _, _, _, _, _, _, _, _, _, _, _, _, _, _, _, _, _, _, _, _, _, _, _, _, _, _, _, _, _, _, _, _, _, _, _, _, _, _, _, _, _, x2 71, x2 72, x2 73, x2 74, x2 75, x2 76, x2 77, x2 78, x2 79, x2 80, x2 81, x2 82, x2 83, _, _, _, _, _, _, _, _, _, _, _]) rfl ?_
            repeat' (first | refine Keep.go (by assumption) ?_ | refine awp_seq_k fun K hK => ?_ | (refine awp_region ?_; try simp [Heap.set_get, *]) | refine awp_block ?_ | (refine awp_ret ?_; try simp) | (refine awp_skip ?_; try simp) | (refine awp_exit ?_; try simp) | (refine KeepQ.go (by assumption) ?_; try simp [Heap.set_get, *]) | (refine awp_cond' ?_; try simp [Heap.set_get, *]) | refine And.intro (by omega) ?_ | refine And.intro (by assumption) ?_ | refine and_lf (by omega) ?_ | refine and_rf ?_ (by omega) | refine and_imps (fun _ => ?_) (fun _ => ?_) | refine arounds_k fun K hK => ?_ | refine Or.inl ⟨by omega, ?_⟩ | refine Or.inr ⟨by omega, ?_⟩ | refine or_split (fun _ => ?_) (fun _ => ?_) | exact Sub.refl _ | refine imp_in fun _ => ?_ | refine and_ri ?_ (fun _ => ?_) | refine and_li (fun _ => ?_) ?_ | (refine And.intro ?_ ?_; focus (intros; simp [*]; done)) | fail)
            refine ⟨by kernel_rfl, rfl, f.steps.length - (q + 1), _, by omega, Sub.refl _, q + 1, _, by omega, rfl, rfl, ?_, by simp [Heap.set_get]; rfl, by simp [Heap.set_get, *], by simp [Heap.set_get, *], by simp [Heap.set_get, *], fun j hj hij hjn => ?_, gs.loc zz1 _⟩
            · simp only [List.length_append, List.length_take, List.length_cons, List.length_drop]
              omega
            · obtain ⟨sp2, hsp2⟩ := gst.out j hj hij hjn
              exact ⟨sp2, by simp [Heap.set_get, hoth.out j hj hij hjn, hsp2]⟩
          · replace gst := Shut.mk gst
            have hqe : q = f.steps.length := by omega
            subst hqe
            refine awp_eqs (s' := [_, _, _, _, _, _, _, x2 7, _, _, _, _, _, _, _, _, _, _, _, _, _, _, _, _, _, _, _, _, _, _, _, _, _, _, _, _, _, _, _, _, _, _, _, _, _, _, _, _, _, _, _, _, _, _, _, _, _, _, _, _, _, _, _, _, _, _, _, _, _, _, _, x2 71, x2 72, x2 73, x2 74, x2 75, x2 76, x2 77, x2 78, x2 79, x2 80, x2 81, x2 82, x2 83, _, _, _, _, _, _, _, _, _, _, _]) rfl ?_
            repeat' (first | refine Keep.go (by assumption) ?_ | refine awp_seq_k fun K hK => ?_ | (refine awp_region ?_; try simp [Heap.set_get, *]) | refine awp_block ?_ | (refine awp_ret ?_; try simp) | (refine awp_skip ?_; try simp) | (refine awp_exit ?_; try simp) | (refine KeepQ.go (by assumption) ?_; try simp [Heap.set_get, *]) | (refine awp_cond' ?_; try simp [Heap.set_get, *]) | refine And.intro (by omega) ?_ | refine And.intro (by assumption) ?_ | refine and_lf (by omega) ?_ | refine and_rf ?_ (by omega) | refine and_imps (fun _ => ?_) (fun _ => ?_) | refine arounds_k fun K hK => ?_ | refine Or.inl ⟨by omega, ?_⟩ | refine Or.inr ⟨by omega, ?_⟩ | refine or_split (fun _ => ?_) (fun _ => ?_) | exact Sub.refl _ | refine imp_in fun _ => ?_ | refine and_ri ?_ (fun _ => ?_) | refine and_li (fun _ => ?_) ?_ | (refine And.intro ?_ ?_; focus (intros; simp [*]; done)) | fail)
            refine Lines_c P H hI.out hH.out f (by omega) hPf.out hSf.out _ (gs _ _ hg) (hH.out h _ gs hHh) _ ?_
            rw [hLL]
            simp [Heap.set_get, *]
            repeat' (first | refine Keep.go (by assumption) ?_ | refine awp_seq_k fun K hK => ?_ | (refine awp_region ?_; try simp [Heap.set_get, *]) | refine awp_block ?_ | (refine awp_ret ?_; try simp) | (refine awp_skip ?_; try simp) | (refine awp_exit ?_; try simp) | (refine KeepQ.go (by assumption) ?_; try simp [Heap.set_get, *]) | (refine awp_cond' ?_; try simp [Heap.set_get, *]) | refine And.intro (by omega) ?_ | refine And.intro (by assumption) ?_ | refine and_lf (by omega) ?_ | refine and_rf ?_ (by omega) | refine and_imps (fun _ => ?_) (fun _ => ?_) | refine arounds_k fun K hK => ?_ | refine Or.inl ⟨by omega, ?_⟩ | refine Or.inr ⟨by omega, ?_⟩ | refine or_split (fun _ => ?_) (fun _ => ?_) | exact Sub.refl _ | refine imp_in fun _ => ?_ | refine and_ri ?_ (fun _ => ?_) | refine and_li (fun _ => ?_) ?_ | (refine And.intro ?_ ?_; focus (intros; simp [*]; done)) | fail)
            refine hJ.out LL [10] jl1 jl2 _ _ ?_
            simp [Heap.set_get, *]
            repeat' (first | refine Keep.go (by assumption) ?_ | refine awp_seq_k fun K hK => ?_ | (refine awp_region ?_; try simp [Heap.set_get, *]) | refine awp_block ?_ | (refine awp_ret ?_; try simp) | (refine awp_skip ?_; try simp) | (refine awp_exit ?_; try simp) | (refine KeepQ.go (by assumption) ?_; try simp [Heap.set_get, *]) | (refine awp_cond' ?_; try simp [Heap.set_get, *]) | refine And.intro (by omega) ?_ | refine And.intro (by assumption) ?_ | refine and_lf (by omega) ?_ | refine and_rf ?_ (by omega) | refine and_imps (fun _ => ?_) (fun _ => ?_) | refine arounds_k fun K hK => ?_ | refine Or.inl ⟨by omega, ?_⟩ | refine Or.inr ⟨by omega, ?_⟩ | refine or_split (fun _ => ?_) (fun _ => ?_) | exact Sub.refl _ | refine imp_in fun _ => ?_ | refine and_ri ?_ (fun _ => ?_) | refine and_li (fun _ => ?_) ?_ | (refine And.intro ?_ ?_; focus (intros; simp [*]; done)) | fail)
            refine hJ.out LL [10] jl1 jl2 _ _ ?_
            simp [Heap.set_get, *]
            repeat' (first | refine Keep.go (by assumption) ?_ | refine awp_seq_k fun K hK => ?_ | (refine awp_region ?_; try simp [Heap.set_get, *]) | refine awp_block ?_ | (refine awp_ret ?_; try simp) | (refine awp_skip ?_; try simp) | (refine awp_exit ?_; try simp) | (refine KeepQ.go (by assumption) ?_; try simp [Heap.set_get, *]) | (refine awp_cond' ?_; try simp [Heap.set_get, *]) | refine And.intro (by omega) ?_ | refine And.intro (by assumption) ?_ | refine and_lf (by omega) ?_ | refine and_rf ?_ (by omega) | refine and_imps (fun _ => ?_) (fun _ => ?_) | refine arounds_k fun K hK => ?_ | refine Or.inl ⟨by omega, ?_⟩ | refine Or.inr ⟨by omega, ?_⟩ | refine or_split (fun _ => ?_) (fun _ => ?_) | exact Sub.refl _ | refine imp_in fun _ => ?_ | refine and_ri ?_ (fun _ => ?_) | refine and_li (fun _ => ?_) ?_ | (refine And.intro ?_ ?_; focus (intros; simp [*]; done)) | fail)
            exact ⟨by kernel_rfl, rfl, p.length - (i + 1), g, by omega, Sub.refl _, i + 1, by omega, rfl, rfl, g1, g3, gn, gst.out, gs⟩
      · refine awp_eqs (s' := [_, _, x 2, _, x 4, x 5, x 6, x 7, _, _, _, _, _, _, _, _, _, _, _, _, _, _, _, _, _, _, _, _, _, _, _, _, x 32, x 33, x 34, x 35, x 36, x 37, x 38, x 39, x 40, x 41, x 42, x 43, x 44, x 45, x 46, x 47, x 48, x 49, x 50, x 51, x 52, x 53, x 54, x 55, x 56, x 57, x 58, x 59, x 60, x 61, x 62, x 63, x 64, x 65, x 66, x 67, x 68, x 69, x 70, x 71, x 72, x 73, x 74, x 75, x 76, x 77, x 78, x 79, x 80, x 81, x 82, x 83, x 84, x 85, x 86, x 87, x 88, x 89, x 90, x 91, x 92, x 93, x 94]) rfl ?_
        repeat' (first | refine Keep.go (by assumption) ?_ | refine awp_seq_k fun K hK => ?_ | (refine awp_region ?_; try simp [Heap.set_get, *]) | refine awp_block ?_ | (refine awp_ret ?_; try simp) | (refine awp_skip ?_; try simp) | (refine awp_exit ?_; try simp) | (refine KeepQ.go (by assumption) ?_; try simp [Heap.set_get, *]) | (refine awp_cond' ?_; try simp [Heap.set_get, *]) | refine And.intro (by omega) ?_ | refine And.intro (by assumption) ?_ | refine and_lf (by omega) ?_ | refine and_rf ?_ (by omega) | refine and_imps (fun _ => ?_) (fun _ => ?_) | refine arounds_k fun K hK => ?_ | refine Or.inl ⟨by omega, ?_⟩ | refine Or.inr ⟨by omega, ?_⟩ | refine or_split (fun _ => ?_) (fun _ => ?_) | exact Sub.refl _ | refine imp_in fun _ => ?_ | refine and_ri ?_ (fun _ => ?_) | refine and_li (fun _ => ?_) ?_ | (refine And.intro ?_ ?_; focus (intros; simp [*]; done)) | fail)
end Go.Proofs.YtgcpgoggngkbjaaDoor
