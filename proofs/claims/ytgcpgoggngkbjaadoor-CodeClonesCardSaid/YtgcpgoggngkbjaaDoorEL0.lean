import Derived.Test.YtgcpgoggngkbjaaDoorE1
import Derived.Test.YtgcpgoggngkbjaaDoorAL19
set_option linter.unusedSimpArgs false
set_option linter.unusedVariables false
namespace Go.Proofs.YtgcpgoggngkbjaaDoor
open Go Go.AL Go.Proofs
/-- What is known of memory in the loops of (Program).check. -/
structure CMem (h g : Heap) (p : List Fn) (t : Tok) (f : Fn) (b3 b4 : Nat) : Prop where
  prog : g b3 = some (.cells [.list 9 (List.map fnRow p) t])
  func : g b4 = some (.cells (fnRow f))
  sub : AL.Sub h g
abbrev WC0 : List Nat := [6, 8, 78, 79, 80, 81, 82, 83, 84, 85, 86, 87, 88, 89, 90]
set_option maxRecDepth 100000 in
set_option maxHeartbeats 16000000 in
theorem PCheck_consts (p : List Fn) (t : Tok) (f : Fn) (hf : FnLen f) (b3 b4 : Nat) (n34 : ¬ b3 = b4) (n43 : ¬ b4 = b3) (h g2 : Heap) (hM : CMem h g2 p t f b3 b4)
    {c : Code} (hc : ∃ b, Tryd.f18.body = some b ∧ (loopsOf b)[0]? = some c) {α : AAct} {Q : APostT} (hs : α.s.length = 191) (hds : α.ds = [])
    (h3 : α.s.getD 3 .any = .ptr b3 0) (h4 : α.s.getD 4 .any = .ptr b4 0) (h76 : α.s.getD 76 .any = .list 3 (f.consts.map vlRow) .no) (h77 : α.s.getD 77 .any = .int .i64 f.consts.length) (h78 : α.s.getD 78 .any = .int .i64 0)
    (hret : ∀ (α' : AAct) (g' : Heap), α'.ds = [] → f.consts.all (fun v => vlOk v && !decide (v.kind = 4)) = false → α'.s.getD 6 .any = .int .i64 30 → AL.Sub h g' → Q .ret α' g')
    (hexit : ∀ (x : Nat → AV) (g' : Heap), f.consts.all (fun v => vlOk v && !decide (v.kind = 4)) = true → CMem h g' p t f b3 b4 → Q (.exit 1) ⟨hav WC0 x 0 α.s, []⟩ g') : awp Tryd.prog (.loop c) Q α g2 := by
  obtain ⟨b, hb, hc⟩ := hc
  obtain rfl : b = _ := Option.some.inj (hb.symm.trans rfl)
  obtain rfl : c = _ := Option.some.inj (hc.symm.trans rfl)
  clear hb hc
  obtain ⟨s, ds⟩ := α
  simp only at hs hds h3 h4 h76 h77 h78 hexit
  subst hds
  replace hs := fr_of hs
  obtain ⟨x0, hx0⟩ : ∃ x0 : Nat → AV, (fun j => s.getD j .any) = x0 := ⟨_, rfl⟩
  rw [hx0] at hs
  have z3 : x0 3 = .ptr b3 0 := by rw [← hx0]; exact h3
  have z4 : x0 4 = .ptr b4 0 := by rw [← hx0]; exact h4
  have z76 : x0 76 = .list 3 (f.consts.map vlRow) .no := by rw [← hx0]; exact h76
  have z77 : x0 77 = .int .i64 f.consts.length := by rw [← hx0]; exact h77
  have z78 : x0 78 = .int .i64 0 := by rw [← hx0]; exact h78
  clear h3 h4 h76 h77 h78 hx0
  subst hs
  simp only [fr, Nat.reduceAdd, z3, z4, z76, z77, z78] at hexit ⊢
  clear z3 z4 z76 z77 z78
  replace hexit := Shut.mk hexit
  replace hret := Shut.mk hret
  have hcl := hf.consts
  refine awp_loop_h [6, 8, 78, 79, 80, 81, 82, 83, 84, 85, 86, 87, 88, 89, 90] (fun m x g => ∃ i : Nat, i ≤ f.consts.length ∧ m = f.consts.length - i ∧ x 78 = .int .i64 i ∧ (∀ j (hj : j < f.consts.length), j < i → (vlOk f.consts[j] && !decide (f.consts[j].kind = 4)) = true) ∧ CMem h g p t f b3 b4) f.consts.length
      ⟨0, by omega, by omega, rfl, by simp, hM⟩ (fun m x g hI K hK => ?_)
  clear hM
  obtain ⟨i, hi, rfl, hx, hn, hM⟩ := hI
  have g3 := hM.prog
  have g4 := hM.func
  have gs := hM.sub
  have w1 : IntKind.i64.wrap ((i : Int) + 1) = i + 1 := w64 (by omega) (by omega)
  by_cases hlt : i < f.consts.length
  · obtain ⟨v, hv⟩ : ∃ v, f.consts[i] = v := ⟨_, rfl⟩
    have hvg : f.consts[i]? = some v := by rw [List.getElem?_eq_getElem hlt, hv]
    refine awp_eqs (s' := [_, _, _, _, _, _, x 6, _, x 8, _, _, _, _, _, _, _, _, _, _, _, _, _, _, _, _, _, _, _, _, _, _, _, _, _, _, _, _, _, _, _, _, _, _, _, _, _, _, _, _, _, _, _, _, _, _, _, _, _, _, _, _, _, _, _, _, _, _, _, _, _, _, _, _, _, _, _, _, _, x 78, x 79, x 80, x 81, x 82, x 83, x 84, x 85, x 86, x 87, x 88, x 89, x 90, _, _, _, _, _, _, _, _, _, _, _, _, _, _, _, _, _, _, _, _, _, _, _, _, _, _, _, _, _, _, _, _, _, _, _, _, _, _, _, _, _, _, _, _, _, _, _, _, _, _, _, _, _, _, _, _, _, _, _, _, _, _, _, _, _, _, _, _, _, _, _, _, _, _, _, _, _, _, _, _, _, _, _, _, _, _, _, _, _, _, _, _, _, _, _, _, _, _, _, _]) rfl ?_
    repeat' (first | refine Keep.go (by assumption) ?_ | refine awp_seq_k fun K hK => ?_ | (refine awp_region ?_; try simp [Heap.set_get, *]) | refine awp_block ?_ | (refine awp_ret ?_; try simp) | (refine awp_skip ?_; try simp) | (refine awp_exit ?_; try simp) | (refine KeepQ.go (by assumption) ?_; try simp [Heap.set_get, *]) | (refine awp_cond' ?_; try simp [Heap.set_get, *]) | refine And.intro (by omega) ?_ | refine And.intro (by assumption) ?_ | refine and_lf (by omega) ?_ | refine and_rf ?_ (by omega) | refine and_imps (fun _ => ?_) (fun _ => ?_) | refine arounds_k fun K hK => ?_ | refine Or.inl ⟨by omega, ?_⟩ | refine Or.inr ⟨by omega, ?_⟩ | refine or_split (fun _ => ?_) (fun _ => ?_) | exact Sub.refl _ | refine imp_in fun _ => ?_ | refine and_ri ?_ (fun _ => ?_) | refine and_li (fun _ => ?_) ?_ | (refine And.intro ?_ ?_; focus (intros; simp [*]; done)) | fail)
    intro b8 hb8; simp only [Fresh, Heap.set_none] at hb8; try simp [Heap.set_get, *]
    have z8 : h b8 = none := by
      cases e : h b8 with
      | none => rfl
      | some x => rw [gs _ _ e] at hb8; cases hb8
    have e83 := ne_of_fresh g3 hb8
    have e84 := ne_of_fresh g4 hb8
    repeat' (first | refine Keep.go (by assumption) ?_ | refine awp_seq_k fun K hK => ?_ | (refine awp_region ?_; try simp [Heap.set_get, *]) | refine awp_block ?_ | (refine awp_ret ?_; try simp) | (refine awp_skip ?_; try simp) | (refine awp_exit ?_; try simp) | (refine KeepQ.go (by assumption) ?_; try simp [Heap.set_get, *]) | (refine awp_cond' ?_; try simp [Heap.set_get, *]) | refine And.intro (by omega) ?_ | refine And.intro (by assumption) ?_ | refine and_lf (by omega) ?_ | refine and_rf ?_ (by omega) | refine and_imps (fun _ => ?_) (fun _ => ?_) | refine arounds_k fun K hK => ?_ | refine Or.inl ⟨by omega, ?_⟩ | refine Or.inr ⟨by omega, ?_⟩ | refine or_split (fun _ => ?_) (fun _ => ?_) | exact Sub.refl _ | refine imp_in fun _ => ?_ | refine and_ri ?_ (fun _ => ?_) | refine and_li (fun _ => ?_) ?_ | (refine And.intro ?_ ?_; focus (intros; simp [*]; done)) | fail)
    refine VCheck_c v _ _ ?_
    cases hvo : decide (vlCode v = 0)
    · have hvo' : vlOk v = false := by
        have := of_decide_eq_false hvo
        rw [vlCode_ok] at this
        simpa using this
      have hall : f.consts.all (fun v => vlOk v && !decide (v.kind = 4)) = false := by
        rw [List.all_eq_false]
        exact ⟨v, hv ▸ List.getElem_mem hlt, by simp [hvo']⟩
      clear hx hn hvo'
      simp [Heap.set_get, *]
      repeat' (first | refine Keep.go (by assumption) ?_ | refine awp_seq_k fun K hK => ?_ | (refine awp_region ?_; try simp [Heap.set_get, *]) | refine awp_block ?_ | (refine awp_ret ?_; try simp) | (refine awp_skip ?_; try simp) | (refine awp_exit ?_; try simp) | (refine KeepQ.go (by assumption) ?_; try simp [Heap.set_get, *]) | (refine awp_cond' ?_; try simp [Heap.set_get, *]) | refine And.intro (by omega) ?_ | refine And.intro (by assumption) ?_ | refine and_lf (by omega) ?_ | refine and_rf ?_ (by omega) | refine and_imps (fun _ => ?_) (fun _ => ?_) | refine arounds_k fun K hK => ?_ | refine Or.inl ⟨by omega, ?_⟩ | refine Or.inr ⟨by omega, ?_⟩ | refine or_split (fun _ => ?_) (fun _ => ?_) | exact Sub.refl _ | refine imp_in fun _ => ?_ | refine and_ri ?_ (fun _ => ?_) | refine and_li (fun _ => ?_) ?_ | (refine And.intro ?_ ?_; focus (intros; simp [*]; done)) | fail)
      all_goals exact hret.out _ _ rfl hall rfl (gs.loc z8 _)
    · have hvo' : vlOk v = true := (vlCode_ok v).1 (of_decide_eq_true hvo)
      cases hk4 : decide (v.kind = 4)
      · simp [Heap.set_get, *]
        repeat' (first | refine Keep.go (by assumption) ?_ | refine awp_seq_k fun K hK => ?_ | (refine awp_region ?_; try simp [Heap.set_get, *]) | refine awp_block ?_ | (refine awp_ret ?_; try simp) | (refine awp_skip ?_; try simp) | (refine awp_exit ?_; try simp) | (refine KeepQ.go (by assumption) ?_; try simp [Heap.set_get, *]) | (refine awp_cond' ?_; try simp [Heap.set_get, *]) | refine And.intro (by omega) ?_ | refine And.intro (by assumption) ?_ | refine and_lf (by omega) ?_ | refine and_rf ?_ (by omega) | refine and_imps (fun _ => ?_) (fun _ => ?_) | refine arounds_k fun K hK => ?_ | refine Or.inl ⟨by omega, ?_⟩ | refine Or.inr ⟨by omega, ?_⟩ | refine or_split (fun _ => ?_) (fun _ => ?_) | exact Sub.refl _ | refine imp_in fun _ => ?_ | refine and_ri ?_ (fun _ => ?_) | refine and_li (fun _ => ?_) ?_ | (refine And.intro ?_ ?_; focus (intros; simp [*]; done)) | fail)
        refine ⟨by kernel_rfl, rfl, f.consts.length - (i + 1), g, by omega, (Sub.refl g).loc hb8 _, i + 1, by omega, rfl, by simp, fun j hj hji => ?_, ⟨g3, g4, gs⟩⟩
        by_cases e : j < i
        · exact hn j hj e
        · have : j = i := by omega
          subst this
          rw [hv]; simp [hvo', hk4]
      · have hall : f.consts.all (fun v => vlOk v && !decide (v.kind = 4)) = false := by
          rw [List.all_eq_false]
          exact ⟨v, hv ▸ List.getElem_mem hlt, by simp [hk4]⟩
        simp [Heap.set_get, *]
        repeat' (first | refine Keep.go (by assumption) ?_ | refine awp_seq_k fun K hK => ?_ | (refine awp_region ?_; try simp [Heap.set_get, *]) | refine awp_block ?_ | (refine awp_ret ?_; try simp) | (refine awp_skip ?_; try simp) | (refine awp_exit ?_; try simp) | (refine KeepQ.go (by assumption) ?_; try simp [Heap.set_get, *]) | (refine awp_cond' ?_; try simp [Heap.set_get, *]) | refine And.intro (by omega) ?_ | refine And.intro (by assumption) ?_ | refine and_lf (by omega) ?_ | refine and_rf ?_ (by omega) | refine and_imps (fun _ => ?_) (fun _ => ?_) | refine arounds_k fun K hK => ?_ | refine Or.inl ⟨by omega, ?_⟩ | refine Or.inr ⟨by omega, ?_⟩ | refine or_split (fun _ => ?_) (fun _ => ?_) | exact Sub.refl _ | refine imp_in fun _ => ?_ | refine and_ri ?_ (fun _ => ?_) | refine and_li (fun _ => ?_) ?_ | (refine And.intro ?_ ?_; focus (intros; simp [*]; done)) | fail)
        all_goals exact hret.out _ _ rfl hall rfl (gs.loc z8 _)
  · have hall : f.consts.all (fun v => vlOk v && !decide (v.kind = 4)) = true := by
      rw [List.all_eq_true]
      intro v hv
      obtain ⟨j, hj, rfl⟩ := List.getElem_of_mem hv
      exact hn j hj (by omega)
    refine awp_eqs (s' := [_, _, _, _, _, _, x 6, _, x 8, _, _, _, _, _, _, _, _, _, _, _, _, _, _, _, _, _, _, _, _, _, _, _, _, _, _, _, _, _, _, _, _, _, _, _, _, _, _, _, _, _, _, _, _, _, _, _, _, _, _, _, _, _, _, _, _, _, _, _, _, _, _, _, _, _, _, _, _, _, x 78, x 79, x 80, x 81, x 82, x 83, x 84, x 85, x 86, x 87, x 88, x 89, x 90, _, _, _, _, _, _, _, _, _, _, _, _, _, _, _, _, _, _, _, _, _, _, _, _, _, _, _, _, _, _, _, _, _, _, _, _, _, _, _, _, _, _, _, _, _, _, _, _, _, _, _, _, _, _, _, _, _, _, _, _, _, _, _, _, _, _, _, _, _, _, _, _, _, _, _, _, _, _, _, _, _, _, _, _, _, _, _, _, _, _, _, _, _, _, _, _, _, _, _, _]) rfl ?_
    repeat' (first | refine Keep.go (by assumption) ?_ | refine awp_seq_k fun K hK => ?_ | (refine awp_region ?_; try simp [Heap.set_get, *]) | refine awp_block ?_ | (refine awp_ret ?_; try simp) | (refine awp_skip ?_; try simp) | (refine awp_exit ?_; try simp) | (refine KeepQ.go (by assumption) ?_; try simp [Heap.set_get, *]) | (refine awp_cond' ?_; try simp [Heap.set_get, *]) | refine And.intro (by omega) ?_ | refine And.intro (by assumption) ?_ | refine and_lf (by omega) ?_ | refine and_rf ?_ (by omega) | refine and_imps (fun _ => ?_) (fun _ => ?_) | refine arounds_k fun K hK => ?_ | refine Or.inl ⟨by omega, ?_⟩ | refine Or.inr ⟨by omega, ?_⟩ | refine or_split (fun _ => ?_) (fun _ => ?_) | exact Sub.refl _ | refine imp_in fun _ => ?_ | refine and_ri ?_ (fun _ => ?_) | refine and_li (fun _ => ?_) ?_ | (refine And.intro ?_ ?_; focus (intros; simp [*]; done)) | fail)
    refine exit_hav WC0 _ ?_ rfl (fun x hx => hexit.out x _ hall ⟨g3, g4, gs⟩)
    kernel_rfl
end Go.Proofs.YtgcpgoggngkbjaaDoor
