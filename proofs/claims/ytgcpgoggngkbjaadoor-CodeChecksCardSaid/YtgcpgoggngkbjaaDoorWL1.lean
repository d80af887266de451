import Derived.Test.YtgcpgoggngkbjaaDoorEL0
import Derived.Test.YtgcpgoggngkbjaaDoorJ
set_option linter.unusedSimpArgs false
set_option linter.unusedVariables false
namespace Go.Proofs.YtgcpgoggngkbjaaDoor
open Go Go.AL Go.Proofs
abbrev WW1 : List Nat := [4, 9, 98, 99, 100, 101, 102, 103, 104, 105, 106, 107]
set_option maxRecDepth 100000 in
set_option maxHeartbeats 16000000 in
theorem Wrong_steps (h : Heap) (p : List Fn) (t : Tok) (f : Fn) (hf : FnLen f) (hfo : FnOk f) (hp : p.length ≤ 281474976710656) (hpc : ∀ g ∈ p, g.caps.length ≤ 281474976710656) (hg : h 0 = some .gint) (b3 b4 : Nat) (n34 : ¬ b3 = b4) (n43 : ¬ b4 = b3) (g2 : Heap) (hM : CMem h g2 p t f b3 b4)
    {c : Code} (hc : ∃ b, Tryd.f8.body = some b ∧ (loopsOf b)[1]? = some c) {α : AAct} {Q : APostT} (hs : α.s.length = 179) (hds : α.ds = [])
    (h3 : α.s.getD 2 .any = .ptr b3 0) (h4 : α.s.getD 5 .any = .ptr b4 0) (hl0 : α.s.getD 96 .any = .list 4 (f.steps.map stRow) .no) (hc0 : α.s.getD 97 .any = .int .i64 f.steps.length) (hi0 : α.s.getD 98 .any = .int .i64 0)
    (hret : ∀ (α' : AAct) (g' : Heap), α'.ds = [] → f.steps.all (rightW p f) = false → α'.s.getD 4 .any = .int .i64 5 → AL.Sub h g' → Q .ret α' g')
    (hexit : ∀ (x : Nat → AV) (g' : Heap), f.steps.all (rightW p f) = true → CMem h g' p t f b3 b4 → Q (.exit 2) ⟨hav WW1 x 0 α.s, []⟩ g') : awp Tryd.prog (.loop c) Q α g2 := by
  obtain ⟨b, hb, hc⟩ := hc
  obtain rfl : b = _ := Option.some.inj (hb.symm.trans rfl)
  obtain rfl : c = _ := Option.some.inj (hc.symm.trans rfl)
  clear hb hc
  obtain ⟨s, ds⟩ := α
  simp only at hs hds h3 h4 hl0 hc0 hi0 hexit
  subst hds
  replace hs := fr_of hs
  obtain ⟨x0, hx0⟩ : ∃ x0 : Nat → AV, (fun j => s.getD j .any) = x0 := ⟨_, rfl⟩
  rw [hx0] at hs
  have z3 : x0 2 = .ptr b3 0 := by rw [← hx0]; exact h3
  have z4 : x0 5 = .ptr b4 0 := by rw [← hx0]; exact h4
  have zl : x0 96 = .list 4 (f.steps.map stRow) .no := by rw [← hx0]; exact hl0
  have zc : x0 97 = .int .i64 f.steps.length := by rw [← hx0]; exact hc0
  have zi : x0 98 = .int .i64 0 := by rw [← hx0]; exact hi0
  clear h3 h4 hl0 hc0 hi0 hx0
  subst hs
  simp only [fr, Nat.reduceAdd, z3, z4, zl, zc, zi] at hexit ⊢
  clear z3 z4 zl zc zi
  replace hexit := Shut.mk hexit
  replace hret := Shut.mk hret
  have hcl := hf.steps
  refine awp_loop_h [4, 9, 98, 99, 100, 101, 102, 103, 104, 105, 106, 107] (fun m x g => ∃ i : Nat, i ≤ f.steps.length ∧ m = f.steps.length - i ∧ x 98 = .int .i64 i ∧ (∀ j (hj : j < f.steps.length), j < i → (rightW p f) f.steps[j] = true) ∧ CMem h g p t f b3 b4) f.steps.length
      ⟨0, by omega, by omega, rfl, fun j _ hj => by omega, hM⟩ (fun m x g hI K hK => ?_)
  clear hM
  obtain ⟨i, hi, rfl, hx, hn, hM⟩ := hI
  have g3 := hM.prog
  have g4 := hM.func
  have gs := hM.sub
  clear hM
  have w1 : IntKind.i64.wrap ((i : Int) + 1) = i + 1 := w64 (by omega) (by omega)
  by_cases hlt : i < f.steps.length
  · obtain ⟨s, hv⟩ : ∃ s, f.steps[i] = s := ⟨_, rfl⟩
    have hsg : f.steps[i]? = some s := by rw [List.getElem?_eq_getElem hlt, hv]
    have hbad : rightW p f s = false → f.steps.all (rightW p f) = false := fun e => by
      rw [List.all_eq_false]
      exact ⟨s, hv ▸ List.getElem_mem hlt, by simp [e]⟩
    replace hbad := Shut.mk hbad
    replace hn := Shut.mk hn
    refine awp_eqs (s' := [_, _, _, _, x 4, _, _, _, _, x 9, _, _, _, _, _, _, _, _, _, _, _, _, _, _, _, _, _, _, _, _, _, _, _, _, _, _, _, _, _, _, _, _, _, _, _, _, _, _, _, _, _, _, _, _, _, _, _, _, _, _, _, _, _, _, _, _, _, _, _, _, _, _, _, _, _, _, _, _, _, _, _, _, _, _, _, _, _, _, _, _, _, _, _, _, _, _, _, _, x 98, x 99, x 100, x 101, x 102, x 103, x 104, x 105, x 106, x 107, _, _, _, _, _, _, _, _, _, _, _, _, _, _, _, _, _, _, _, _, _, _, _, _, _, _, _, _, _, _, _, _, _, _, _, _, _, _, _, _, _, _, _, _, _, _, _, _, _, _, _, _, _, _, _, _, _, _, _, _, _, _, _, _, _, _, _, _, _, _, _]) rfl ?_
    repeat' (first | refine Keep.go (by assumption) ?_ | refine awp_seq_k fun K hK => ?_ | (refine awp_region ?_; try simp [Heap.set_get, *]) | refine awp_block ?_ | (refine awp_ret ?_; try simp) | (refine awp_skip ?_; try simp) | (refine awp_exit ?_; try simp) | (refine KeepQ.go (by assumption) ?_; try simp [Heap.set_get, *]) | (refine awp_cond' ?_; try simp [Heap.set_get, *]) | refine And.intro (by omega) ?_ | refine And.intro (by assumption) ?_ | refine and_lf (by omega) ?_ | refine and_rf ?_ (by omega) | refine and_imps (fun _ => ?_) (fun _ => ?_) | refine arounds_k fun K hK => ?_ | refine Or.inl ⟨by omega, ?_⟩ | refine Or.inr ⟨by omega, ?_⟩ | refine or_split (fun _ => ?_) (fun _ => ?_) | exact Sub.refl _ | refine imp_in fun _ => ?_ | refine and_ri ?_ (fun _ => ?_) | refine and_li (fun _ => ?_) ?_ | (refine And.intro ?_ ?_; focus (intros; simp [*]; done)) | fail)
    intro b9 hb9; simp only [Fresh, Heap.set_none] at hb9; try simp [Heap.set_get, *]
    have z9 : h b9 = none := by
      cases e : h b9 with
      | none => rfl
      | some x => rw [gs _ _ e] at hb9; cases hb9
    have e93 := ne_of_fresh g3 hb9
    have e94 := ne_of_fresh g4 hb9
    have g0 := gs _ _ hg
    have e90 := ne_of_fresh g0 hb9
    repeat' (first | refine Keep.go (by assumption) ?_ | refine awp_seq_k fun K hK => ?_ | (refine awp_region ?_; try simp [Heap.set_get, *]) | refine awp_block ?_ | (refine awp_ret ?_; try simp) | (refine awp_skip ?_; try simp) | (refine awp_exit ?_; try simp) | (refine KeepQ.go (by assumption) ?_; try simp [Heap.set_get, *]) | (refine awp_cond' ?_; try simp [Heap.set_get, *]) | refine And.intro (by omega) ?_ | refine And.intro (by assumption) ?_ | refine and_lf (by omega) ?_ | refine and_rf ?_ (by omega) | refine and_imps (fun _ => ?_) (fun _ => ?_) | refine arounds_k fun K hK => ?_ | refine Or.inl ⟨by omega, ?_⟩ | refine Or.inr ⟨by omega, ?_⟩ | refine or_split (fun _ => ?_) (fun _ => ?_) | exact Sub.refl _ | refine imp_in fun _ => ?_ | refine and_ri ?_ (fun _ => ?_) | refine and_li (fun _ => ?_) ?_ | (refine And.intro ?_ ?_; focus (intros; simp [*]; done)) | fail)
    refine rightW_c p t hp hpc f hfo s _ (by simp [Heap.set_get, *]) _ ?_
    cases hA : rightW p f s
    · have hall := hbad.out hA
      replace hall := Shut.mk hall
      simp [Heap.set_get, *]
      repeat' (first | refine Keep.go (by assumption) ?_ | refine awp_seq_k fun K hK => ?_ | (refine awp_region ?_; try simp [Heap.set_get, *]) | refine awp_block ?_ | (refine awp_ret ?_; try simp) | (refine awp_skip ?_; try simp) | (refine awp_exit ?_; try simp) | (refine KeepQ.go (by assumption) ?_; try simp [Heap.set_get, *]) | (refine awp_cond' ?_; try simp [Heap.set_get, *]) | refine And.intro (by omega) ?_ | refine And.intro (by assumption) ?_ | refine and_lf (by omega) ?_ | refine and_rf ?_ (by omega) | refine and_imps (fun _ => ?_) (fun _ => ?_) | refine arounds_k fun K hK => ?_ | refine Or.inl ⟨by omega, ?_⟩ | refine Or.inr ⟨by omega, ?_⟩ | refine or_split (fun _ => ?_) (fun _ => ?_) | exact Sub.refl _ | refine imp_in fun _ => ?_ | refine and_ri ?_ (fun _ => ?_) | refine and_li (fun _ => ?_) ?_ | (refine And.intro ?_ ?_; focus (intros; simp [*]; done)) | fail)
      all_goals exact hret.out _ _ rfl hall.out rfl (gs.loc z9 _)
    · simp [Heap.set_get, *]
      repeat' (first | refine Keep.go (by assumption) ?_ | refine awp_seq_k fun K hK => ?_ | (refine awp_region ?_; try simp [Heap.set_get, *]) | refine awp_block ?_ | (refine awp_ret ?_; try simp) | (refine awp_skip ?_; try simp) | (refine awp_exit ?_; try simp) | (refine KeepQ.go (by assumption) ?_; try simp [Heap.set_get, *]) | (refine awp_cond' ?_; try simp [Heap.set_get, *]) | refine And.intro (by omega) ?_ | refine And.intro (by assumption) ?_ | refine and_lf (by omega) ?_ | refine and_rf ?_ (by omega) | refine and_imps (fun _ => ?_) (fun _ => ?_) | refine arounds_k fun K hK => ?_ | refine Or.inl ⟨by omega, ?_⟩ | refine Or.inr ⟨by omega, ?_⟩ | refine or_split (fun _ => ?_) (fun _ => ?_) | exact Sub.refl _ | refine imp_in fun _ => ?_ | refine and_ri ?_ (fun _ => ?_) | refine and_li (fun _ => ?_) ?_ | (refine And.intro ?_ ?_; focus (intros; simp [*]; done)) | fail)
      refine ⟨by kernel_rfl, rfl, f.steps.length - (i + 1), g, by omega, (Sub.refl g).loc hb9 _, i + 1, by omega, rfl, rfl, fun j hj hji => ?_, ⟨g3, g4, gs⟩⟩
      by_cases e : j < i
      · exact hn.out j hj e
      · have : j = i := by omega
        subst this
        rw [hv]; exact hA
  · have hall : f.steps.all (rightW p f) = true := by
      rw [List.all_eq_true]
      intro v hv
      obtain ⟨j, hj, rfl⟩ := List.getElem_of_mem hv
      exact hn j hj (by omega)
    refine awp_eqs (s' := [_, _, _, _, x 4, _, _, _, _, x 9, _, _, _, _, _, _, _, _, _, _, _, _, _, _, _, _, _, _, _, _, _, _, _, _, _, _, _, _, _, _, _, _, _, _, _, _, _, _, _, _, _, _, _, _, _, _, _, _, _, _, _, _, _, _, _, _, _, _, _, _, _, _, _, _, _, _, _, _, _, _, _, _, _, _, _, _, _, _, _, _, _, _, _, _, _, _, _, _, x 98, x 99, x 100, x 101, x 102, x 103, x 104, x 105, x 106, x 107, _, _, _, _, _, _, _, _, _, _, _, _, _, _, _, _, _, _, _, _, _, _, _, _, _, _, _, _, _, _, _, _, _, _, _, _, _, _, _, _, _, _, _, _, _, _, _, _, _, _, _, _, _, _, _, _, _, _, _, _, _, _, _, _, _, _, _, _, _, _, _]) rfl ?_
    repeat' (first | refine Keep.go (by assumption) ?_ | refine awp_seq_k fun K hK => ?_ | (refine awp_region ?_; try simp [Heap.set_get, *]) | refine awp_block ?_ | (refine awp_ret ?_; try simp) | (refine awp_skip ?_; try simp) | (refine awp_exit ?_; try simp) | (refine KeepQ.go (by assumption) ?_; try simp [Heap.set_get, *]) | (refine awp_cond' ?_; try simp [Heap.set_get, *]) | refine And.intro (by omega) ?_ | refine And.intro (by assumption) ?_ | refine and_lf (by omega) ?_ | refine and_rf ?_ (by omega) | refine and_imps (fun _ => ?_) (fun _ => ?_) | refine arounds_k fun K hK => ?_ | refine Or.inl ⟨by omega, ?_⟩ | refine Or.inr ⟨by omega, ?_⟩ | refine or_split (fun _ => ?_) (fun _ => ?_) | exact Sub.refl _ | refine imp_in fun _ => ?_ | refine and_ri ?_ (fun _ => ?_) | refine and_li (fun _ => ?_) ?_ | (refine And.intro ?_ ?_; focus (intros; simp [*]; done)) | fail)
    refine exit_hav WW1 _ ?_ rfl (fun x hx => hexit.out x _ hall ⟨g3, g4, gs⟩)
    kernel_rfl
end Go.Proofs.YtgcpgoggngkbjaaDoor
