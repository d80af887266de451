import Derived.Test.YtgcpgoggngkbjaaDoorEL1
import Derived.Test.YtgcpgoggngkbjaaDoorEL2
set_option linter.unusedSimpArgs false
set_option linter.unusedVariables false
namespace Go.Proofs.YtgcpgoggngkbjaaDoor
open Go Go.AL Go.Proofs
set_option maxRecDepth 100000 in
set_option maxHeartbeats 16000000 in
theorem PCheck_c (p : List Fn) (t : Tok) (f : Fn) (hf : FnLen f) (at_ : Int) (hp : p.length ≤ 281474976710656) (hpc : ∀ g ∈ p, g.caps.length ≤ 281474976710656) (h : Heap) (R : AV → Heap → Prop) (hR : R (.int .i64 (checkP1 p f at_)) h) :
    ACalls Tryd.prog 18 [progAV p t, .agg (fnRow f), .int .i64 at_] h R := by
  by_cases e1 : f.steps.length = 0 ∨ 262144 < f.steps.length ∨ f.regs < 0 ∨ 1024 < f.regs
  · exact PCheckHead_c p t f hf at_ hp hpc (.inl e1) h _ hR
  by_cases e2 : f.params < 0 ∨ f.regs < f.params ∨ f.defaults < 0 ∨ f.params < f.defaults
  · exact PCheckHead_c p t f hf at_ hp hpc (.inr (.inl e2)) h _ hR
  by_cases k9 : at_ = 0 ∧ (0 < f.params ∨ 0 < f.caps.length ∨ f.yields = true)
  · exact PCheckHead_c p t f hf at_ hp hpc (.inr (.inr k9)) h _ hR
  have k1 : ¬ f.steps.length = 0 := by omega
  have k2 : ¬ 262144 < f.steps.length := by omega
  have k3 : ¬ f.regs < 0 := by omega
  have k4 : ¬ 1024 < f.regs := by omega
  have k5 : ¬ f.params < 0 := by omega
  have k6 : ¬ f.regs < f.params := by omega
  have k7 : ¬ f.defaults < 0 := by omega
  have k8 : ¬ f.params < f.defaults := by omega
  refine ACalls.pure ?_ hR
  clear hR
  have hfo : FnOk f := ⟨by omega, by omega, hf.caps, hf.consts, hf.steps⟩
  have hch : checkP1 p f at_ = (if f.consts.all (fun v => vlOk v && !decide (v.kind = 4)) = false then 30 else if f.steps.all (stepL p f) = false then 5 else if lastL ((f.steps.getLast?.map Stp.op).getD 0) = false then 5 else if f.tries.all (tryOk f) = false then 1 else 0) := by
    unfold checkP1 checkF; rw [if_neg e1, if_neg e2, if_neg k9]
  have hcs : ¬ at_ = 0 ∨ (at_ = 0 ∧ ¬ 0 < f.params ∧ ¬ 0 < f.caps.length ∧ f.yields = false) := by
    by_cases e : at_ = 0
    · refine .inr ⟨e, ?_, ?_, ?_⟩
      · intro q; exact k9 ⟨e, .inl q⟩
      · intro q; exact k9 ⟨e, .inr (.inl q)⟩
      · cases hy : f.yields
        · rfl
        · exact absurd ⟨e, .inr (.inr hy)⟩ k9
    · exact .inl e
  have hsl := hf.steps
  have hcl := hf.consts
  have htl := hf.tries
  have hstep0 : 0 < f.steps.length := by omega
  obtain ⟨sl, hsl1⟩ : ∃ s, f.steps[f.steps.length - 1]? = some s := ⟨_, List.getElem?_eq_getElem (by omega)⟩
  have hlast : f.steps.getLast? = some sl := by rw [List.getLast?_eq_getElem?]; exact hsl1
  obtain ⟨ln, hln⟩ : ∃ n : Nat, f.steps.length = n + 1 := ⟨f.steps.length - 1, by omega⟩
  have w1 : IntKind.i64.wrap ((f.steps.length : Int) - 1) = ln := by rw [w64 (by omega) (by omega)]; omega
  have hsl2 : f.steps[ln]? = some sl := by rw [← hsl1]; congr 1; omega
  have hln0 : ¬ (ln : Int) < 0 := by omega
  have hln1 : ¬ (f.steps.length : Int) ≤ ln := by omega
  rw [hlast] at hch
  simp only [Option.map_some, Option.getD_some] at hch
  clear hsl1 hlast hln e1 e2 k9
  replace hch := Shut.mk hch
  replace hpc := Shut.mk hpc
  rcases hcs with k13 | ⟨rfl, k14, k15, k16⟩
  all_goals
    refine acalls_of Tryd.func18 rfl Tryd.ntmps18 (congrArg Array.toList Tryd.results18) fun Q hQ => ?_
    repeat' (first | refine Keep.go (by assumption) ?_ | refine awp_seq_k fun K hK => ?_ | (refine awp_region ?_; try simp [Heap.set_get, *]) | refine awp_block ?_ | (refine awp_ret ?_; try simp) | (refine awp_skip ?_; try simp) | (refine awp_exit ?_; try simp) | (refine KeepQ.go (by assumption) ?_; try simp [Heap.set_get, *]) | (refine awp_cond' ?_; try simp [Heap.set_get, *]) | refine And.intro (by omega) ?_ | refine And.intro (by assumption) ?_ | refine and_lf (by omega) ?_ | refine and_rf ?_ (by omega) | refine and_imps (fun _ => ?_) (fun _ => ?_) | refine arounds_k fun K hK => ?_ | refine Or.inl ⟨by omega, ?_⟩ | refine Or.inr ⟨by omega, ?_⟩ | refine or_split (fun _ => ?_) (fun _ => ?_) | exact Sub.refl _ | refine imp_in fun _ => ?_ | refine and_ri ?_ (fun _ => ?_) | refine and_li (fun _ => ?_) ?_ | (refine And.intro ?_ ?_; focus (intros; simp [*]; done)) | fail)
    intro b3 hb3; simp only [Fresh, Heap.set_none] at hb3; try simp [Heap.set_get, *]
    intro b4 hb4; simp only [Fresh, Heap.set_none] at hb4; try simp [Heap.set_get, *]
    obtain ⟨n34, n43, z4⟩ := hb4
    repeat' (first | refine Keep.go (by assumption) ?_ | refine awp_seq_k fun K hK => ?_ | (refine awp_region ?_; try simp [Heap.set_get, *]) | refine awp_block ?_ | (refine awp_ret ?_; try simp) | (refine awp_skip ?_; try simp) | (refine awp_exit ?_; try simp) | (refine KeepQ.go (by assumption) ?_; try simp [Heap.set_get, *]) | (refine awp_cond' ?_; try simp [Heap.set_get, *]) | refine And.intro (by omega) ?_ | refine And.intro (by assumption) ?_ | refine and_lf (by omega) ?_ | refine and_rf ?_ (by omega) | refine and_imps (fun _ => ?_) (fun _ => ?_) | refine arounds_k fun K hK => ?_ | refine Or.inl ⟨by omega, ?_⟩ | refine Or.inr ⟨by omega, ?_⟩ | refine or_split (fun _ => ?_) (fun _ => ?_) | exact Sub.refl _ | refine imp_in fun _ => ?_ | refine and_ri ?_ (fun _ => ?_) | refine and_li (fun _ => ?_) ?_ | (refine And.intro ?_ ?_; focus (intros; simp [*]; done)) | fail)
    refine PCheck_consts p t f hf b3 b4 n34 n43 h _ ⟨by simp [Heap.set_get, *], by simp [Heap.set_get, *], by (repeat (first | exact Sub.refl _ | refine Sub.loc ?_ (by simp [*]) _))⟩ ⟨_, rfl, rfl⟩ rfl rfl rfl rfl rfl rfl rfl (fun α' g' hd1 hall h6 hsb => ?_) (fun x g' hall hM => ?_)
    · have hc := hch.out.trans (if_pos hall)
      simp [Heap.set_get, *]
      repeat' (first | refine Keep.go (by assumption) ?_ | refine awp_seq_k fun K hK => ?_ | (refine awp_region ?_; try simp [Heap.set_get, *]) | refine awp_block ?_ | (refine awp_ret ?_; try simp) | (refine awp_skip ?_; try simp) | (refine awp_exit ?_; try simp) | (refine KeepQ.go (by assumption) ?_; try simp [Heap.set_get, *]) | (refine awp_cond' ?_; try simp [Heap.set_get, *]) | refine And.intro (by omega) ?_ | refine And.intro (by assumption) ?_ | refine and_lf (by omega) ?_ | refine and_rf ?_ (by omega) | refine and_imps (fun _ => ?_) (fun _ => ?_) | refine arounds_k fun K hK => ?_ | refine Or.inl ⟨by omega, ?_⟩ | refine Or.inr ⟨by omega, ?_⟩ | refine or_split (fun _ => ?_) (fun _ => ?_) | exact Sub.refl _ | refine imp_in fun _ => ?_ | refine and_ri ?_ (fun _ => ?_) | refine and_li (fun _ => ?_) ?_ | (refine And.intro ?_ ?_; focus (intros; simp [*]; done)) | fail)
      all_goals first
        | (simpa using h6; done)
        | (exact hsb; done)
    clear hb3 z4
    have g3 := hM.prog
    have g4 := hM.func
    have gs := hM.sub
    replace hM := Shut.mk hM
    refine apost_eqs (s' := [_, _, _, _, _, _, x 6, _, x 8, _, _, _, _, _, _, _, _, _, _, _, _, _, _, _, _, _, _, _, _, _, _, _, _, _, _, _, _, _, _, _, _, _, _, _, _, _, _, _, _, _, _, _, _, _, _, _, _, _, _, _, _, _, _, _, _, _, _, _, _, _, _, _, _, _, _, _, _, _, x 78, x 79, x 80, x 81, x 82, x 83, x 84, x 85, x 86, x 87, x 88, x 89, x 90, _, _, _, _, _, _, _, _, _, _, _, _, _, _, _, _, _, _, _, _, _, _, _, _, _, _, _, _, _, _, _, _, _, _, _, _, _, _, _, _, _, _, _, _, _, _, _, _, _, _, _, _, _, _, _, _, _, _, _, _, _, _, _, _, _, _, _, _, _, _, _, _, _, _, _, _, _, _, _, _, _, _, _, _, _, _, _, _, _, _, _, _, _, _, _, _, _, _, _, _]) rfl ?_
    simp [Heap.set_get, *]
    repeat' (first | refine Keep.go (by assumption) ?_ | refine awp_seq_k fun K hK => ?_ | (refine awp_region ?_; try simp [Heap.set_get, *]) | refine awp_block ?_ | (refine awp_ret ?_; try simp) | (refine awp_skip ?_; try simp) | (refine awp_exit ?_; try simp) | (refine KeepQ.go (by assumption) ?_; try simp [Heap.set_get, *]) | (refine awp_cond' ?_; try simp [Heap.set_get, *]) | refine And.intro (by omega) ?_ | refine And.intro (by assumption) ?_ | refine and_lf (by omega) ?_ | refine and_rf ?_ (by omega) | refine and_imps (fun _ => ?_) (fun _ => ?_) | refine arounds_k fun K hK => ?_ | refine Or.inl ⟨by omega, ?_⟩ | refine Or.inr ⟨by omega, ?_⟩ | refine or_split (fun _ => ?_) (fun _ => ?_) | exact Sub.refl _ | refine imp_in fun _ => ?_ | refine and_ri ?_ (fun _ => ?_) | refine and_li (fun _ => ?_) ?_ | (refine And.intro ?_ ?_; focus (intros; simp [*]; done)) | fail)
    clear g3 g4 gs
    replace hM := hM.out
    replace hM : CMem h g' p t f b3 b4 := hM
    refine PCheck_steps p t f hf hfo hp hpc.out b3 b4 n34 n43 h _ hM ⟨_, rfl, rfl⟩ rfl rfl rfl rfl rfl rfl rfl (fun α' g'' hd1 hall2 h6 hsb => ?_) (fun x g'' hall2 hM2 => ?_)
    · have hc := hch.out.trans ((if_neg (by simp [hall])).trans (if_pos hall2))
      simp [Heap.set_get, *]
      repeat' (first | refine Keep.go (by assumption) ?_ | refine awp_seq_k fun K hK => ?_ | (refine awp_region ?_; try simp [Heap.set_get, *]) | refine awp_block ?_ | (refine awp_ret ?_; try simp) | (refine awp_skip ?_; try simp) | (refine awp_exit ?_; try simp) | (refine KeepQ.go (by assumption) ?_; try simp [Heap.set_get, *]) | (refine awp_cond' ?_; try simp [Heap.set_get, *]) | refine And.intro (by omega) ?_ | refine And.intro (by assumption) ?_ | refine and_lf (by omega) ?_ | refine and_rf ?_ (by omega) | refine and_imps (fun _ => ?_) (fun _ => ?_) | refine arounds_k fun K hK => ?_ | refine Or.inl ⟨by omega, ?_⟩ | refine Or.inr ⟨by omega, ?_⟩ | refine or_split (fun _ => ?_) (fun _ => ?_) | exact Sub.refl _ | refine imp_in fun _ => ?_ | refine and_ri ?_ (fun _ => ?_) | refine and_li (fun _ => ?_) ?_ | (refine And.intro ?_ ?_; focus (intros; simp [*]; done)) | fail)
      all_goals first
        | (simpa using h6; done)
        | (exact hsb; done)
    clear hM
    have g3 := hM2.prog
    have g4 := hM2.func
    have gs := hM2.sub
    replace hM2 := Shut.mk hM2
    refine apost_eqs (s' := [_, _, _, _, _, _, x 6, _, _, _, x 10, _, _, _, _, _, _, _, _, _, _, _, _, _, _, _, _, _, _, _, _, _, _, _, _, _, _, _, _, _, _, _, _, _, _, _, _, _, _, _, _, _, _, _, _, _, _, _, _, _, _, _, _, _, _, _, _, _, _, _, _, _, _, _, _, _, _, _, _, _, _, _, _, _, _, _, _, _, _, _, _, _, _, _, x 94, x 95, x 96, x 97, x 98, x 99, x 100, x 101, x 102, x 103, x 104, x 105, x 106, x 107, x 108, x 109, x 110, x 111, x 112, x 113, x 114, x 115, x 116, x 117, x 118, x 119, x 120, x 121, x 122, x 123, x 124, x 125, x 126, x 127, x 128, _, _, _, _, _, _, _, _, _, _, _, _, _, _, _, _, _, _, _, _, _, _, _, _, _, _, _, _, _, _, _, _, _, _, _, _, _, _, _, _, _, _, _, _, _, _, _, _, _, _, _, _, _, _, _, _, _, _, _, _, _, _]) rfl ?_
    simp [Heap.set_get, *]
    repeat' (first | refine Keep.go (by assumption) ?_ | refine awp_seq_k fun K hK => ?_ | (refine awp_region ?_; try simp [Heap.set_get, *]) | refine awp_block ?_ | (refine awp_ret ?_; try simp) | (refine awp_skip ?_; try simp) | (refine awp_exit ?_; try simp) | (refine KeepQ.go (by assumption) ?_; try simp [Heap.set_get, *]) | (refine awp_cond' ?_; try simp [Heap.set_get, *]) | refine And.intro (by omega) ?_ | refine And.intro (by assumption) ?_ | refine and_lf (by omega) ?_ | refine and_rf ?_ (by omega) | refine and_imps (fun _ => ?_) (fun _ => ?_) | refine arounds_k fun K hK => ?_ | refine Or.inl ⟨by omega, ?_⟩ | refine Or.inr ⟨by omega, ?_⟩ | refine or_split (fun _ => ?_) (fun _ => ?_) | exact Sub.refl _ | refine imp_in fun _ => ?_ | refine and_ri ?_ (fun _ => ?_) | refine and_li (fun _ => ?_) ?_ | (refine And.intro ?_ ?_; focus (intros; simp [*]; done)) | fail)
    refine last_c sl.op _ _ ?_
    cases hla : lastL sl.op
    · have hc := hch.out.trans ((if_neg (by simp [hall])).trans ((if_neg (by simp [hall2])).trans (if_pos hla)))
      simp [Heap.set_get, *]
      repeat' (first | refine Keep.go (by assumption) ?_ | refine awp_seq_k fun K hK => ?_ | (refine awp_region ?_; try simp [Heap.set_get, *]) | refine awp_block ?_ | (refine awp_ret ?_; try simp) | (refine awp_skip ?_; try simp) | (refine awp_exit ?_; try simp) | (refine KeepQ.go (by assumption) ?_; try simp [Heap.set_get, *]) | (refine awp_cond' ?_; try simp [Heap.set_get, *]) | refine And.intro (by omega) ?_ | refine And.intro (by assumption) ?_ | refine and_lf (by omega) ?_ | refine and_rf ?_ (by omega) | refine and_imps (fun _ => ?_) (fun _ => ?_) | refine arounds_k fun K hK => ?_ | refine Or.inl ⟨by omega, ?_⟩ | refine Or.inr ⟨by omega, ?_⟩ | refine or_split (fun _ => ?_) (fun _ => ?_) | exact Sub.refl _ | refine imp_in fun _ => ?_ | refine and_ri ?_ (fun _ => ?_) | refine and_li (fun _ => ?_) ?_ | (refine And.intro ?_ ?_; focus (intros; simp [*]; done)) | fail)
      all_goals first
        | exact ⟨hc.symm, gs⟩
        | (rw [hc]; exact ⟨rfl, gs⟩)
        | (rw [hc]; exact gs)
    · simp [Heap.set_get, *]
      repeat' (first | refine Keep.go (by assumption) ?_ | refine awp_seq_k fun K hK => ?_ | (refine awp_region ?_; try simp [Heap.set_get, *]) | refine awp_block ?_ | (refine awp_ret ?_; try simp) | (refine awp_skip ?_; try simp) | (refine awp_exit ?_; try simp) | (refine KeepQ.go (by assumption) ?_; try simp [Heap.set_get, *]) | (refine awp_cond' ?_; try simp [Heap.set_get, *]) | refine And.intro (by omega) ?_ | refine And.intro (by assumption) ?_ | refine and_lf (by omega) ?_ | refine and_rf ?_ (by omega) | refine and_imps (fun _ => ?_) (fun _ => ?_) | refine arounds_k fun K hK => ?_ | refine Or.inl ⟨by omega, ?_⟩ | refine Or.inr ⟨by omega, ?_⟩ | refine or_split (fun _ => ?_) (fun _ => ?_) | exact Sub.refl _ | refine imp_in fun _ => ?_ | refine and_ri ?_ (fun _ => ?_) | refine and_li (fun _ => ?_) ?_ | (refine And.intro ?_ ?_; focus (intros; simp [*]; done)) | fail)
      refine PCheck_tries p t f hf b3 b4 n34 n43 h _ hM2.out ⟨_, rfl, rfl⟩ rfl rfl rfl rfl rfl rfl rfl (fun α' g'' hd1 hall3 h6 hsb => ?_) (fun x g'' hall3 hM3 => ?_)
      · have hc := hch.out.trans ((if_neg (by simp [hall])).trans ((if_neg (by simp [hall2])).trans ((if_neg (by simp [hla])).trans (if_pos hall3))))
        simp [Heap.set_get, *]
        repeat' (first | refine Keep.go (by assumption) ?_ | refine awp_seq_k fun K hK => ?_ | (refine awp_region ?_; try simp [Heap.set_get, *]) | refine awp_block ?_ | (refine awp_ret ?_; try simp) | (refine awp_skip ?_; try simp) | (refine awp_exit ?_; try simp) | (refine KeepQ.go (by assumption) ?_; try simp [Heap.set_get, *]) | (refine awp_cond' ?_; try simp [Heap.set_get, *]) | refine And.intro (by omega) ?_ | refine And.intro (by assumption) ?_ | refine and_lf (by omega) ?_ | refine and_rf ?_ (by omega) | refine and_imps (fun _ => ?_) (fun _ => ?_) | refine arounds_k fun K hK => ?_ | refine Or.inl ⟨by omega, ?_⟩ | refine Or.inr ⟨by omega, ?_⟩ | refine or_split (fun _ => ?_) (fun _ => ?_) | exact Sub.refl _ | refine imp_in fun _ => ?_ | refine and_ri ?_ (fun _ => ?_) | refine and_li (fun _ => ?_) ?_ | (refine And.intro ?_ ?_; focus (intros; simp [*]; done)) | fail)
        all_goals first
          | (simpa using h6; done)
          | (exact hsb; done)
      have hc := hch.out.trans ((if_neg (by simp [hall])).trans ((if_neg (by simp [hall2])).trans ((if_neg (by simp [hla])).trans (if_neg (by simp [hall3])))))
      have gs3 := hM3.sub
      replace hM3 := Shut.mk hM3
      refine apost_eqs (s' := [_, _, _, _, _, _, x 6, _, _, _, _, _, x 12, _, _, _, _, _, _, _, _, _, _, _, _, _, _, _, _, _, _, _, _, _, _, _, _, _, _, _, _, _, _, _, _, _, _, _, _, _, _, _, _, _, _, _, _, _, _, _, _, _, _, _, _, _, _, _, _, _, _, _, _, _, _, _, _, _, _, _, _, _, _, _, _, _, _, _, _, _, _, _, _, _, _, _, _, _, _, _, _, _, _, _, _, _, _, _, _, _, _, _, _, _, _, _, _, _, _, _, _, _, _, _, _, _, _, _, _, _, _, _, _, _, _, _, _, _, _, _, _, _, _, x 143, x 144, x 145, x 146, x 147, x 148, x 149, x 150, x 151, x 152, x 153, x 154, x 155, x 156, x 157, x 158, x 159, x 160, x 161, x 162, x 163, x 164, x 165, x 166, x 167, x 168, x 169, x 170, x 171, x 172, x 173, x 174, x 175, x 176, x 177, x 178, x 179, x 180, x 181, x 182, x 183, x 184, x 185, x 186, x 187, x 188, x 189, x 190]) rfl ?_
      simp [Heap.set_get, *]
      repeat' (first | refine Keep.go (by assumption) ?_ | refine awp_seq_k fun K hK => ?_ | (refine awp_region ?_; try simp [Heap.set_get, *]) | refine awp_block ?_ | (refine awp_ret ?_; try simp) | (refine awp_skip ?_; try simp) | (refine awp_exit ?_; try simp) | (refine KeepQ.go (by assumption) ?_; try simp [Heap.set_get, *]) | (refine awp_cond' ?_; try simp [Heap.set_get, *]) | refine And.intro (by omega) ?_ | refine And.intro (by assumption) ?_ | refine and_lf (by omega) ?_ | refine and_rf ?_ (by omega) | refine and_imps (fun _ => ?_) (fun _ => ?_) | refine arounds_k fun K hK => ?_ | refine Or.inl ⟨by omega, ?_⟩ | refine Or.inr ⟨by omega, ?_⟩ | refine or_split (fun _ => ?_) (fun _ => ?_) | exact Sub.refl _ | refine imp_in fun _ => ?_ | refine and_ri ?_ (fun _ => ?_) | refine and_li (fun _ => ?_) ?_ | (refine And.intro ?_ ?_; focus (intros; simp [*]; done)) | fail)
      all_goals first
        | exact ⟨hc.symm, gs3⟩
        | (rw [hc]; exact ⟨rfl, gs3⟩)
        | (rw [hc]; exact gs3)
end Go.Proofs.YtgcpgoggngkbjaaDoor
