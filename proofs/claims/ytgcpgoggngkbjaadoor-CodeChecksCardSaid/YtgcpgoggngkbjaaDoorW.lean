import Derived.Test.YtgcpgoggngkbjaaDoorWH
import Derived.Test.YtgcpgoggngkbjaaDoorWL0
import Derived.Test.YtgcpgoggngkbjaaDoorWL1
import Derived.Test.YtgcpgoggngkbjaaDoorWL2
set_option linter.unusedSimpArgs false
set_option linter.unusedVariables false
namespace Go.Proofs.YtgcpgoggngkbjaaDoor
open Go Go.AL Go.Proofs
set_option maxRecDepth 100000 in
set_option maxHeartbeats 16000000 in
theorem wrong_c (p : List Fn) (t : Tok) (hok : PrOk p) (i : Nat) (hi : i < p.length) (f : Fn) (hfi : p[i] = f) (h : Heap) (hg : h 0 = some .gint) (R : AV → Heap → Prop) (hR : R (.int .i64 (wrongF p f i)) h) :
    ACalls Tryd.prog 8 [progAV p t, .int .i64 i] h R := by
  refine ACalls.pure ?_ hR
  clear hR
  have hpl := hok.len
  have hf := hok.fns f (hfi ▸ List.getElem_mem hi)
  have hgi : p[i]? = some f := by rw [List.getElem?_eq_getElem hi, hfi]
  by_cases e1 : f.steps.length = 0 ∨ 262144 < f.steps.length ∨ f.regs < 0 ∨ 1024 < f.regs
  · exact (wrongHead_c p t hok i hi f hfi (.inl e1) h hg _ (⟨rfl, Sub.refl _⟩))
  by_cases e2 : f.params < 0 ∨ f.regs < f.params ∨ f.defaults < 0 ∨ f.params < f.defaults
  · exact (wrongHead_c p t hok i hi f hfi (.inr (.inl e2)) h hg _ (⟨rfl, Sub.refl _⟩))
  by_cases k9 : i = 0 ∧ (0 < f.params ∨ 0 < f.caps.length ∨ f.yields = true)
  · exact (wrongHead_c p t hok i hi f hfi (.inr (.inr k9)) h hg _ (⟨rfl, Sub.refl _⟩))
  have k1 : ¬ f.steps.length = 0 := by omega
  have k2 : ¬ 262144 < f.steps.length := by omega
  have k3 : ¬ f.regs < 0 := by omega
  have k4 : ¬ 1024 < f.regs := by omega
  have k5 : ¬ f.params < 0 := by omega
  have k6 : ¬ f.regs < f.params := by omega
  have k7 : ¬ f.defaults < 0 := by omega
  have k8 : ¬ f.params < f.defaults := by omega
  have hch : wrongF p f i = (if f.consts.all (fun v => vlOk v && !decide (v.kind = 4)) = false then 30 else if f.steps.all (rightW p f) = false then 5 else if lastL ((f.steps.getLast?.map Stp.op).getD 0) = false then 5 else if f.tries.all (tryOk f) = false then 1 else 0) := by
    unfold wrongF checkF; rw [if_neg e1, if_neg e2, if_neg (fun e => k9 ⟨by omega, e.2⟩)]
  have hfo : FnOk f := ⟨by omega, by omega, hf.caps, hf.consts, hf.steps⟩
  have hcs : ¬ (i : Int) = 0 ∨ (i = 0 ∧ f.params = 0 ∧ f.caps.length = 0 ∧ f.yields = false) := by
    by_cases e : i = 0
    · refine .inr ⟨e, ?_, ?_, ?_⟩
      · by_cases q : 0 < f.params
        · exact absurd ⟨e, .inl q⟩ k9
        · omega
      · by_cases q : 0 < f.caps.length
        · exact absurd ⟨e, .inr (.inl q)⟩ k9
        · omega
      · cases hy : f.yields
        · rfl
        · exact absurd ⟨e, .inr (.inr hy)⟩ k9
    · exact .inl (by omega)
  have hsl := hf.steps
  have hcl := hf.consts
  have htl := hf.tries
  have hstep0 : 0 < f.steps.length := by omega
  obtain ⟨sl, hsl1⟩ : ∃ s, f.steps[f.steps.length - 1]? = some s := ⟨_, List.getElem?_eq_getElem (by omega)⟩
  have hlast : f.steps.getLast? = some sl := by rw [List.getLast?_eq_getElem?]; exact hsl1
  obtain ⟨ln, hln⟩ : ∃ n : Nat, f.steps.length = n + 1 := ⟨f.steps.length - 1, by omega⟩
  have w1 : IntKind.i64.wrap ((f.steps.length : Int) - 1) = ln := by rw [w64 (by omega) (by omega)]; omega
  have hsl2 : f.steps[ln]? = some sl := by rw [← hsl1]; congr 1; omega
  have hln0 : ¬ (ln : Int) < 0 := by omega
  have hln1 : ¬ (f.steps.length : Int) ≤ ln := by omega
  rw [hlast] at hch
  simp only [Option.map_some, Option.getD_some] at hch
  clear hsl1 hlast hln e1 e2 k9
  replace hch := Shut.mk hch
  replace hok := Shut.mk hok
  rcases hcs with k13 | ⟨rfl, k14, k15, k16⟩
  all_goals try (replace hch : Shut (wrongF p f (0 : Int) = _) := ⟨hch.out⟩)
  all_goals
    refine acalls_of Tryd.func8 rfl Tryd.ntmps8 (congrArg Array.toList Tryd.results8) fun Q hQ => ?_
    repeat' (first | refine Keep.go (by assumption) ?_ | refine awp_seq_k fun K hK => ?_ | (refine awp_region ?_; try simp [Heap.set_get, *]) | refine awp_block ?_ | (refine awp_ret ?_; try simp) | (refine awp_skip ?_; try simp) | (refine awp_exit ?_; try simp) | (refine KeepQ.go (by assumption) ?_; try simp [Heap.set_get, *]) | (refine awp_cond' ?_; try simp [Heap.set_get, *]) | refine And.intro (by omega) ?_ | refine And.intro (by assumption) ?_ | refine and_lf (by omega) ?_ | refine and_rf ?_ (by omega) | refine and_imps (fun _ => ?_) (fun _ => ?_) | refine arounds_k fun K hK => ?_ | refine Or.inl ⟨by omega, ?_⟩ | refine Or.inr ⟨by omega, ?_⟩ | refine or_split (fun _ => ?_) (fun _ => ?_) | exact Sub.refl _ | refine imp_in fun _ => ?_ | refine and_ri ?_ (fun _ => ?_) | refine and_li (fun _ => ?_) ?_ | (refine And.intro ?_ ?_; focus (intros; simp [*]; done)) | fail)
    intro b2 hb2; simp only [Fresh, Heap.set_none] at hb2; try simp [Heap.set_get, *]
    repeat' (first | refine Keep.go (by assumption) ?_ | refine awp_seq_k fun K hK => ?_ | (refine awp_region ?_; try simp [Heap.set_get, *]) | refine awp_block ?_ | (refine awp_ret ?_; try simp) | (refine awp_skip ?_; try simp) | (refine awp_exit ?_; try simp) | (refine KeepQ.go (by assumption) ?_; try simp [Heap.set_get, *]) | (refine awp_cond' ?_; try simp [Heap.set_get, *]) | refine And.intro (by omega) ?_ | refine And.intro (by assumption) ?_ | refine and_lf (by omega) ?_ | refine and_rf ?_ (by omega) | refine and_imps (fun _ => ?_) (fun _ => ?_) | refine arounds_k fun K hK => ?_ | refine Or.inl ⟨by omega, ?_⟩ | refine Or.inr ⟨by omega, ?_⟩ | refine or_split (fun _ => ?_) (fun _ => ?_) | exact Sub.refl _ | refine imp_in fun _ => ?_ | refine and_ri ?_ (fun _ => ?_) | refine and_li (fun _ => ?_) ?_ | (refine And.intro ?_ ?_; focus (intros; simp [*]; done)) | fail)
    intro b5 hb5; simp only [Fresh, Heap.set_none] at hb5; try simp [Heap.set_get, *]
    obtain ⟨n52, n25, z5⟩ := hb5
    repeat' (first | refine Keep.go (by assumption) ?_ | refine awp_seq_k fun K hK => ?_ | (refine awp_region ?_; try simp [Heap.set_get, *]) | refine awp_block ?_ | (refine awp_ret ?_; try simp) | (refine awp_skip ?_; try simp) | (refine awp_exit ?_; try simp) | (refine KeepQ.go (by assumption) ?_; try simp [Heap.set_get, *]) | (refine awp_cond' ?_; try simp [Heap.set_get, *]) | refine And.intro (by omega) ?_ | refine And.intro (by assumption) ?_ | refine and_lf (by omega) ?_ | refine and_rf ?_ (by omega) | refine and_imps (fun _ => ?_) (fun _ => ?_) | refine arounds_k fun K hK => ?_ | refine Or.inl ⟨by omega, ?_⟩ | refine Or.inr ⟨by omega, ?_⟩ | refine or_split (fun _ => ?_) (fun _ => ?_) | exact Sub.refl _ | refine imp_in fun _ => ?_ | refine and_ri ?_ (fun _ => ?_) | refine and_li (fun _ => ?_) ?_ | (refine And.intro ?_ ?_; focus (intros; simp [*]; done)) | fail)
    refine Wrong_consts p t f hf b2 b5 n52 n25 h _ ⟨by simp [Heap.set_get, *], by simp [Heap.set_get, *], by (repeat (first | exact Sub.refl _ | refine Sub.loc ?_ (by simp [*]) _))⟩ ⟨_, rfl, rfl⟩ rfl rfl rfl rfl rfl rfl rfl (fun α' g' hd1 hall h6 hsb => ?_) (fun x g' hall hM => ?_)
    · have hc := hch.out.trans (if_pos hall)
      simp [Heap.set_get, *]
      repeat' (first | refine Keep.go (by assumption) ?_ | refine awp_seq_k fun K hK => ?_ | (refine awp_region ?_; try simp [Heap.set_get, *]) | refine awp_block ?_ | (refine awp_ret ?_; try simp) | (refine awp_skip ?_; try simp) | (refine awp_exit ?_; try simp) | (refine KeepQ.go (by assumption) ?_; try simp [Heap.set_get, *]) | (refine awp_cond' ?_; try simp [Heap.set_get, *]) | refine And.intro (by omega) ?_ | refine And.intro (by assumption) ?_ | refine and_lf (by omega) ?_ | refine and_rf ?_ (by omega) | refine and_imps (fun _ => ?_) (fun _ => ?_) | refine arounds_k fun K hK => ?_ | refine Or.inl ⟨by omega, ?_⟩ | refine Or.inr ⟨by omega, ?_⟩ | refine or_split (fun _ => ?_) (fun _ => ?_) | exact Sub.refl _ | refine imp_in fun _ => ?_ | refine and_ri ?_ (fun _ => ?_) | refine and_li (fun _ => ?_) ?_ | (refine And.intro ?_ ?_; focus (intros; simp [*]; done)) | fail)
      all_goals first
        | (simpa using h6; done)
        | (exact hsb; done)
    clear hb2 z5
    have g3 := hM.prog
    have g4 := hM.func
    have gs := hM.sub
    replace hM := Shut.mk hM
    refine apost_eqs (s' := [_, _, _, _, x 4, _, _, x 7, _, _, _, _, _, _, _, _, _, _, _, _, _, _, _, _, _, _, _, _, _, _, _, _, _, _, _, _, _, _, _, _, _, _, _, _, _, _, _, _, _, _, _, _, _, _, _, _, _, _, _, _, _, _, _, _, _, _, _, _, _, _, _, _, _, _, _, _, _, _, _, _, _, _, x 82, x 83, x 84, x 85, x 86, x 87, x 88, x 89, x 90, x 91, x 92, x 93, x 94, _, _, _, _, _, _, _, _, _, _, _, _, _, _, _, _, _, _, _, _, _, _, _, _, _, _, _, _, _, _, _, _, _, _, _, _, _, _, _, _, _, _, _, _, _, _, _, _, _, _, _, _, _, _, _, _, _, _, _, _, _, _, _, _, _, _, _, _, _, _, _, _, _, _, _, _, _, _, _, _, _, _, _, _]) rfl ?_
    simp [Heap.set_get, *]
    repeat' (first | refine Keep.go (by assumption) ?_ | refine awp_seq_k fun K hK => ?_ | (refine awp_region ?_; try simp [Heap.set_get, *]) | refine awp_block ?_ | (refine awp_ret ?_; try simp) | (refine awp_skip ?_; try simp) | (refine awp_exit ?_; try simp) | (refine KeepQ.go (by assumption) ?_; try simp [Heap.set_get, *]) | (refine awp_cond' ?_; try simp [Heap.set_get, *]) | refine And.intro (by omega) ?_ | refine And.intro (by assumption) ?_ | refine and_lf (by omega) ?_ | refine and_rf ?_ (by omega) | refine and_imps (fun _ => ?_) (fun _ => ?_) | refine arounds_k fun K hK => ?_ | refine Or.inl ⟨by omega, ?_⟩ | refine Or.inr ⟨by omega, ?_⟩ | refine or_split (fun _ => ?_) (fun _ => ?_) | exact Sub.refl _ | refine imp_in fun _ => ?_ | refine and_ri ?_ (fun _ => ?_) | refine and_li (fun _ => ?_) ?_ | (refine And.intro ?_ ?_; focus (intros; simp [*]; done)) | fail)
    clear g3 g4 gs
    replace hM := hM.out
    refine Wrong_steps h p t f hf hfo hpl hok.out.caps hg b2 b5 n52 n25 _ hM ⟨_, rfl, rfl⟩ rfl rfl rfl rfl rfl rfl rfl (fun α' g'' hd1 hall2 h6 hsb => ?_) (fun x g'' hall2 hM2 => ?_)
    · have hc := hch.out.trans ((if_neg (by simp [hall])).trans (if_pos hall2))
      simp [Heap.set_get, *]
      repeat' (first | refine Keep.go (by assumption) ?_ | refine awp_seq_k fun K hK => ?_ | (refine awp_region ?_; try simp [Heap.set_get, *]) | refine awp_block ?_ | (refine awp_ret ?_; try simp) | (refine awp_skip ?_; try simp) | (refine awp_exit ?_; try simp) | (refine KeepQ.go (by assumption) ?_; try simp [Heap.set_get, *]) | (refine awp_cond' ?_; try simp [Heap.set_get, *]) | refine And.intro (by omega) ?_ | refine And.intro (by assumption) ?_ | refine and_lf (by omega) ?_ | refine and_rf ?_ (by omega) | refine and_imps (fun _ => ?_) (fun _ => ?_) | refine arounds_k fun K hK => ?_ | refine Or.inl ⟨by omega, ?_⟩ | refine Or.inr ⟨by omega, ?_⟩ | refine or_split (fun _ => ?_) (fun _ => ?_) | exact Sub.refl _ | refine imp_in fun _ => ?_ | refine and_ri ?_ (fun _ => ?_) | refine and_li (fun _ => ?_) ?_ | (refine And.intro ?_ ?_; focus (intros; simp [*]; done)) | fail)
      all_goals first
        | (simpa using h6; done)
        | (exact hsb; done)
    clear hM
    have g3 := hM2.prog
    have g4 := hM2.func
    have gs := hM2.sub
    have g0 := gs _ _ hg
    replace hM2 := Shut.mk hM2
    refine apost_eqs (s' := [_, _, _, _, x 4, _, _, _, _, x 9, _, _, _, _, _, _, _, _, _, _, _, _, _, _, _, _, _, _, _, _, _, _, _, _, _, _, _, _, _, _, _, _, _, _, _, _, _, _, _, _, _, _, _, _, _, _, _, _, _, _, _, _, _, _, _, _, _, _, _, _, _, _, _, _, _, _, _, _, _, _, _, _, _, _, _, _, _, _, _, _, _, _, _, _, _, _, _, _, x 98, x 99, x 100, x 101, x 102, x 103, x 104, x 105, x 106, x 107, _, _, _, _, _, _, _, _, _, _, _, _, _, _, _, _, _, _, _, _, _, _, _, _, _, _, _, _, _, _, _, _, _, _, _, _, _, _, _, _, _, _, _, _, _, _, _, _, _, _, _, _, _, _, _, _, _, _, _, _, _, _, _, _, _, _, _, _, _, _, _]) rfl ?_
    simp [Heap.set_get, *]
    repeat' (first | refine Keep.go (by assumption) ?_ | refine awp_seq_k fun K hK => ?_ | (refine awp_region ?_; try simp [Heap.set_get, *]) | refine awp_block ?_ | (refine awp_ret ?_; try simp) | (refine awp_skip ?_; try simp) | (refine awp_exit ?_; try simp) | (refine KeepQ.go (by assumption) ?_; try simp [Heap.set_get, *]) | (refine awp_cond' ?_; try simp [Heap.set_get, *]) | refine And.intro (by omega) ?_ | refine And.intro (by assumption) ?_ | refine and_lf (by omega) ?_ | refine and_rf ?_ (by omega) | refine and_imps (fun _ => ?_) (fun _ => ?_) | refine arounds_k fun K hK => ?_ | refine Or.inl ⟨by omega, ?_⟩ | refine Or.inr ⟨by omega, ?_⟩ | refine or_split (fun _ => ?_) (fun _ => ?_) | exact Sub.refl _ | refine imp_in fun _ => ?_ | refine and_ri ?_ (fun _ => ?_) | refine and_li (fun _ => ?_) ?_ | (refine And.intro ?_ ?_; focus (intros; simp [*]; done)) | fail)
    refine Name_c sl.op _ g0 _ ?_
    have hnl := lastL_name sl.op
    cases hla : lastL sl.op
    · have hc := hch.out.trans ((if_neg (by simp [hall])).trans ((if_neg (by simp [hall2])).trans (if_pos hla)))
      have q := hnl.1 hla
      replace hnl := Shut.mk hnl
      obtain ⟨q1, q2, q3⟩ := q
      simp [Heap.set_get, *]
      repeat' (first | refine Keep.go (by assumption) ?_ | refine awp_seq_k fun K hK => ?_ | (refine awp_region ?_; try simp [Heap.set_get, *]) | refine awp_block ?_ | (refine awp_ret ?_; try simp) | (refine awp_skip ?_; try simp) | (refine awp_exit ?_; try simp) | (refine KeepQ.go (by assumption) ?_; try simp [Heap.set_get, *]) | (refine awp_cond' ?_; try simp [Heap.set_get, *]) | refine And.intro (by omega) ?_ | refine And.intro (by assumption) ?_ | refine and_lf (by omega) ?_ | refine and_rf ?_ (by omega) | refine and_imps (fun _ => ?_) (fun _ => ?_) | refine arounds_k fun K hK => ?_ | refine Or.inl ⟨by omega, ?_⟩ | refine Or.inr ⟨by omega, ?_⟩ | refine or_split (fun _ => ?_) (fun _ => ?_) | exact Sub.refl _ | refine imp_in fun _ => ?_ | refine and_ri ?_ (fun _ => ?_) | refine and_li (fun _ => ?_) ?_ | (refine And.intro ?_ ?_; focus (intros; simp [*]; done)) | fail)
      all_goals first
        | exact ⟨hc.symm, gs⟩
        | (rw [hc]; exact ⟨rfl, gs⟩)
        | (rw [hc]; exact gs)
    · have q := hnl.2 hla
      replace hnl := Shut.mk hnl
      rcases q with q | q | q
      all_goals
        simp [Heap.set_get, *]
        repeat' (first | refine Keep.go (by assumption) ?_ | refine awp_seq_k fun K hK => ?_ | (refine awp_region ?_; try simp [Heap.set_get, *]) | refine awp_block ?_ | (refine awp_ret ?_; try simp) | (refine awp_skip ?_; try simp) | (refine awp_exit ?_; try simp) | (refine KeepQ.go (by assumption) ?_; try simp [Heap.set_get, *]) | (refine awp_cond' ?_; try simp [Heap.set_get, *]) | refine And.intro (by omega) ?_ | refine And.intro (by assumption) ?_ | refine and_lf (by omega) ?_ | refine and_rf ?_ (by omega) | refine and_imps (fun _ => ?_) (fun _ => ?_) | refine arounds_k fun K hK => ?_ | refine Or.inl ⟨by omega, ?_⟩ | refine Or.inr ⟨by omega, ?_⟩ | refine or_split (fun _ => ?_) (fun _ => ?_) | exact Sub.refl _ | refine imp_in fun _ => ?_ | refine and_ri ?_ (fun _ => ?_) | refine and_li (fun _ => ?_) ?_ | (refine And.intro ?_ ?_; focus (intros; simp [*]; done)) | fail)
        refine Wrong_tries p t f hf b2 b5 n52 n25 h _ hM2.out ⟨_, rfl, rfl⟩ rfl rfl rfl rfl rfl rfl rfl (fun α' g'' hd1 hall3 h6 hsb => ?_) (fun x g'' hall3 hM3 => ?_)
        · have hc := hch.out.trans ((if_neg (by simp [hall])).trans ((if_neg (by simp [hall2])).trans ((if_neg (by simp [hla])).trans (if_pos hall3))))
          simp [Heap.set_get, *]
          repeat' (first | refine Keep.go (by assumption) ?_ | refine awp_seq_k fun K hK => ?_ | (refine awp_region ?_; try simp [Heap.set_get, *]) | refine awp_block ?_ | (refine awp_ret ?_; try simp) | (refine awp_skip ?_; try simp) | (refine awp_exit ?_; try simp) | (refine KeepQ.go (by assumption) ?_; try simp [Heap.set_get, *]) | (refine awp_cond' ?_; try simp [Heap.set_get, *]) | refine And.intro (by omega) ?_ | refine And.intro (by assumption) ?_ | refine and_lf (by omega) ?_ | refine and_rf ?_ (by omega) | refine and_imps (fun _ => ?_) (fun _ => ?_) | refine arounds_k fun K hK => ?_ | refine Or.inl ⟨by omega, ?_⟩ | refine Or.inr ⟨by omega, ?_⟩ | refine or_split (fun _ => ?_) (fun _ => ?_) | exact Sub.refl _ | refine imp_in fun _ => ?_ | refine and_ri ?_ (fun _ => ?_) | refine and_li (fun _ => ?_) ?_ | (refine And.intro ?_ ?_; focus (intros; simp [*]; done)) | fail)
          all_goals first
            | (simpa using h6; done)
            | (exact hsb; done)
        have hc := hch.out.trans ((if_neg (by simp [hall])).trans ((if_neg (by simp [hall2])).trans ((if_neg (by simp [hla])).trans (if_neg (by simp [hall3])))))
        have gs3 := hM3.sub
        replace hM3 := Shut.mk hM3
        refine apost_eqs (s' := [_, _, _, _, x 4, _, _, _, _, _, _, _, x 12, _, _, _, _, _, _, _, _, _, _, _, _, _, _, _, _, _, _, _, _, _, _, _, _, _, _, _, _, _, _, _, _, _, _, _, _, _, _, _, _, _, _, _, _, _, _, _, _, _, _, _, _, _, _, _, _, _, _, _, _, _, _, _, _, _, _, _, _, _, _, _, _, _, _, _, _, _, _, _, _, _, _, _, _, _, _, _, _, _, _, _, _, _, _, _, _, _, _, _, _, _, _, _, _, _, _, _, _, _, _, _, _, _, _, _, _, _, _, x 131, x 132, x 133, x 134, x 135, x 136, x 137, x 138, x 139, x 140, x 141, x 142, x 143, x 144, x 145, x 146, x 147, x 148, x 149, x 150, x 151, x 152, x 153, x 154, x 155, x 156, x 157, x 158, x 159, x 160, x 161, x 162, x 163, x 164, x 165, x 166, x 167, x 168, x 169, x 170, x 171, x 172, x 173, x 174, x 175, x 176, x 177, x 178]) rfl ?_
        simp [Heap.set_get, *]
        repeat' (first | refine Keep.go (by assumption) ?_ | refine awp_seq_k fun K hK => ?_ | (refine awp_region ?_; try simp [Heap.set_get, *]) | refine awp_block ?_ | (refine awp_ret ?_; try simp) | (refine awp_skip ?_; try simp) | (refine awp_exit ?_; try simp) | (refine KeepQ.go (by assumption) ?_; try simp [Heap.set_get, *]) | (refine awp_cond' ?_; try simp [Heap.set_get, *]) | refine And.intro (by omega) ?_ | refine And.intro (by assumption) ?_ | refine and_lf (by omega) ?_ | refine and_rf ?_ (by omega) | refine and_imps (fun _ => ?_) (fun _ => ?_) | refine arounds_k fun K hK => ?_ | refine Or.inl ⟨by omega, ?_⟩ | refine Or.inr ⟨by omega, ?_⟩ | refine or_split (fun _ => ?_) (fun _ => ?_) | exact Sub.refl _ | refine imp_in fun _ => ?_ | refine and_ri ?_ (fun _ => ?_) | refine and_li (fun _ => ?_) ?_ | (refine And.intro ?_ ?_; focus (intros; simp [*]; done)) | fail)
        all_goals first
          | exact ⟨hc.symm, gs3⟩
          | (rw [hc]; exact ⟨rfl, gs3⟩)
          | (rw [hc]; exact gs3)
end Go.Proofs.YtgcpgoggngkbjaaDoor
