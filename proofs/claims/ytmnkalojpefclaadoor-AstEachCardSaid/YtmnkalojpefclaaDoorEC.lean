import Derived.Test.YtmnkalojpefclaaDoorPL
import Derived.Test.YtmnkalojpefclaaDoorU
import Derived.Test.YtmnkalojpefclaaDoorAL16
set_option linter.unusedSimpArgs false
set_option linter.unusedVariables false
namespace Go.Proofs.YtmnkalojpefclaaDoor
open Go Go.AL Go.Proofs
/-- The nodes that are met, in order. -/
def preL (nodes : List Nd) : Nat → Int → List Nat
  | 0, _ => []
  | f + 1, i => if i < 0 then [] else i.toNat :: (((nodes[i.toNat]?).map Nd.kids).getD []).flatMap (preL nodes f)
/-- One by one, until it is told to stop. -/
def runS {S : Type} (step : S → Nat → S × Bool) : S → List Nat → S × Bool
  | s, [] => (s, true)
  | s, i :: l => if (step s i).2 = true then runS step (step s i).1 l else ((step s i).1, false)
theorem runS_append {S : Type} (step : S → Nat → S × Bool) : ∀ (a b : List Nat) (s : S), runS step s (a ++ b) = if (runS step s a).2 = true then runS step (runS step s a).1 b else ((runS step s a).1, false)
  | [], b, s => by simp [runS]
  | i :: a, b, s => by
    simp only [List.cons_append, runS]
    split
    · exact runS_append step a b _
    · simp
/-- What a function does that is handed over. -/
structure Clo (P : Program) (fc : FuncId) (caps : List AV) (n : Nat) {S : Type} (step : S → Nat → S × Bool) (M : S → Heap → Prop) (B : Nat → Prop) : Prop where
  call : ∀ (s : S) (i : Nat) (h : Heap) (R : AV → Heap → Prop), i < n → M s h → (∀ h', M (step s i).1 h' → (∀ b x, ¬ B b → h b = some x → h' b = some x) → R (.bool (step s i).2) h') → ACalls P fc (.int .i64 i :: caps) h R
  frame : ∀ (s : S) (h h' : Heap), M s h → (∀ b x, B b → h b = some x → h' b = some x) → M s h'
  has : ∀ (s : S) (h : Heap) (b : Nat), M s h → B b → h b ≠ none
theorem Each_none (nodes : List Nd) (t : Tok) (i : Int) (hi : i < 0) (y : AV) (h : Heap) (R : AV → Heap → Prop) (hR : R (.bool true) h) : ACalls Tryd.prog 26 [treeAV nodes t, .int .i64 i, y] h R := by
  refine ACalls.pure ?_ hR
  clear hR
  refine acalls_of Tryd.func26 rfl Tryd.ntmps26 (congrArg Array.toList Tryd.results26) fun Q hQ => ?_
  repeat' (first | refine Keep.go (by assumption) ?_ | refine awp_seq_k fun K hK => ?_ | (refine awp_region ?_; try simp [Heap.set_get, *]) | refine awp_block ?_ | (refine awp_ret ?_; try simp) | (refine awp_skip ?_; try simp) | (refine awp_exit ?_; try simp) | (refine KeepQ.go (by assumption) ?_; try simp [Heap.set_get, *]) | (refine awp_cond' ?_; try simp [Heap.set_get, *]) | refine And.intro (by omega) ?_ | refine And.intro (by assumption) ?_ | refine and_lf (by omega) ?_ | refine and_rf ?_ (by omega) | refine and_imps (fun _ => ?_) (fun _ => ?_) | refine arounds_k fun K hK => ?_ | refine Or.inl ⟨by omega, ?_⟩ | refine Or.inr ⟨by omega, ?_⟩ | refine or_split (fun _ => ?_) (fun _ => ?_) | exact Sub.refl _ | refine imp_in fun _ => ?_ | refine and_ri ?_ (fun _ => ?_) | refine and_li (fun _ => ?_) ?_ | (refine And.intro ?_ ?_; focus (intros; simp [*]; done)) | fail)
  intro b3 hb3; simp only [Fresh, Heap.set_none] at hb3; try simp [Heap.set_get, *]
  repeat' (first | refine Keep.go (by assumption) ?_ | refine awp_seq_k fun K hK => ?_ | (refine awp_region ?_; try simp [Heap.set_get, *]) | refine awp_block ?_ | (refine awp_ret ?_; try simp) | (refine awp_skip ?_; try simp) | (refine awp_exit ?_; try simp) | (refine KeepQ.go (by assumption) ?_; try simp [Heap.set_get, *]) | (refine awp_cond' ?_; try simp [Heap.set_get, *]) | refine And.intro (by omega) ?_ | refine And.intro (by assumption) ?_ | refine and_lf (by omega) ?_ | refine and_rf ?_ (by omega) | refine and_imps (fun _ => ?_) (fun _ => ?_) | refine arounds_k fun K hK => ?_ | refine Or.inl ⟨by omega, ?_⟩ | refine Or.inr ⟨by omega, ?_⟩ | refine or_split (fun _ => ?_) (fun _ => ?_) | exact Sub.refl _ | refine imp_in fun _ => ?_ | refine and_ri ?_ (fun _ => ?_) | refine and_li (fun _ => ?_) ?_ | (refine And.intro ?_ ?_; focus (intros; simp [*]; done)) | fail)
  all_goals (repeat (first | exact Sub.refl _ | refine Sub.loc ?_ (by simp [*]) _))
set_option maxRecDepth 100000 in
set_option maxHeartbeats 4000000 in
theorem Each_c (nodes : List Nd) (t : Tok) (hd : KidsIn nodes) (hl : nodes.length ≤ 131072) (hk : ∀ n ∈ nodes, n.kids.length ≤ 281474976710) {fc : FuncId} {caps : List AV} {S : Type} {step : S → Nat → S × Bool} {M : S → Heap → Prop} {B : Nat → Prop}
    (hc : callable Tryd.prog fc = true) (clo : Clo Tryd.prog fc caps nodes.length step M B) : ∀ (f : Nat) (i : Int), i < f → i < nodes.length → ∀ (s : S) (h : Heap) (R : AV → Heap → Prop), M s h →
    (∀ h', M (runS step s (preL nodes f i)).1 h' → (∀ b x, ¬ B b → h b = some x → h' b = some x) → R (.bool (runS step s (preL nodes f i)).2) h') →
    ACalls Tryd.prog 26 [treeAV nodes t, .int .i64 i, .fn fc caps] h R := by
  intro f
  induction f with
  | zero =>
    intro i hi _ s h R hM hR
    refine Each_none nodes t i (by omega) _ h R ?_
    simpa [preL, runS] using hR h (by simpa [preL, runS] using hM) (fun b x _ e => e)
  | succ f ih =>
    intro i hi hil s h R hM hR
    by_cases h0 : i < 0
    · refine Each_none nodes t i h0 _ h R ?_
      have hp : preL nodes (f + 1) i = [] := by simp [preL, h0]
      rw [hp] at hR
      simpa [runS] using hR h (by simpa [runS] using hM) (fun b x _ e => e)
    obtain ⟨i, rfl⟩ := Int.eq_ofNat_of_zero_le (a := i) (by omega)
    have hil' : i < nodes.length := by omega
    obtain ⟨n, hn⟩ : ∃ n, nodes[i] = n := ⟨_, rfl⟩
    have hkl := hk n (hn ▸ List.getElem_mem hil')
    have hp : preL nodes (f + 1) i = i :: n.kids.flatMap (preL nodes f) := by
      simp only [preL, h0, if_false, Int.toNat_natCast, List.getElem?_eq_getElem hil', Option.map_some, Option.getD_some, hn]
    have hkd : ∀ k ∈ n.kids, -1 ≤ k ∧ k < (i : Int) := fun k hk => hd i hil' k (by rw [hn]; exact hk)
    rw [hp] at hR
    clear hp
    refine acalls_of Tryd.func26 rfl Tryd.ntmps26 (congrArg Array.toList Tryd.results26) fun Q hQ => ?_
    repeat' (first | refine Keep.go (by assumption) ?_ | refine awp_seq_k fun K hK => ?_ | (refine awp_region ?_; try simp [Heap.set_get, *]) | refine awp_block ?_ | (refine awp_ret ?_; try simp) | (refine awp_skip ?_; try simp) | (refine awp_exit ?_; try simp) | (refine KeepQ.go (by assumption) ?_; try simp [Heap.set_get, *]) | (refine awp_cond' ?_; try simp [Heap.set_get, *]) | refine And.intro (by omega) ?_ | refine And.intro (by assumption) ?_ | refine and_lf (by omega) ?_ | refine and_rf ?_ (by omega) | refine and_imps (fun _ => ?_) (fun _ => ?_) | refine arounds_k fun K hK => ?_ | refine Or.inl ⟨by omega, ?_⟩ | refine Or.inr ⟨by omega, ?_⟩ | refine or_split (fun _ => ?_) (fun _ => ?_) | exact Sub.refl _ | refine imp_in fun _ => ?_ | refine and_ri ?_ (fun _ => ?_) | refine and_li (fun _ => ?_) ?_ | (refine And.intro ?_ ?_; focus (intros; simp [*]; done)) | fail)
    intro b3 hb3; simp only [Fresh, Heap.set_none] at hb3; try simp [Heap.set_get, *]
    repeat' (first | refine Keep.go (by assumption) ?_ | refine awp_seq_k fun K hK => ?_ | (refine awp_region ?_; try simp [Heap.set_get, *]) | refine awp_block ?_ | (refine awp_ret ?_; try simp) | (refine awp_skip ?_; try simp) | (refine awp_exit ?_; try simp) | (refine KeepQ.go (by assumption) ?_; try simp [Heap.set_get, *]) | (refine awp_cond' ?_; try simp [Heap.set_get, *]) | refine And.intro (by omega) ?_ | refine And.intro (by assumption) ?_ | refine and_lf (by omega) ?_ | refine and_rf ?_ (by omega) | refine and_imps (fun _ => ?_) (fun _ => ?_) | refine arounds_k fun K hK => ?_ | refine Or.inl ⟨by omega, ?_⟩ | refine Or.inr ⟨by omega, ?_⟩ | refine or_split (fun _ => ?_) (fun _ => ?_) | exact Sub.refl _ | refine imp_in fun _ => ?_ | refine and_ri ?_ (fun _ => ?_) | refine and_li (fun _ => ?_) ?_ | (refine And.intro ?_ ?_; focus (intros; simp [*]; done)) | fail)
    have hB3 : ¬ B b3 := fun e => clo.has s h b3 hM e hb3
    have hM' : M s (h.set b3 (.cells [AV.list 5 (nodes.map row) t])) := clo.frame s h _ hM (fun b x hB hx => by
      have : ¬ b = b3 := fun e => hB3 (e ▸ hB)
      simp [Heap.set_get, this, hx])
    refine clo.call s i _ _ hil' hM' (fun g hMg hfg => ?_)
    have hg3 := hfg b3 _ hB3 (by simp [Heap.set_get]; rfl)
    have hfr : ∀ b x, ¬ B b → h b = some x → g b = some x := fun b x hB hx => hfg b x hB (by
      have : ¬ b = b3 := fun e => by rw [e, hb3] at hx; cases hx
      simp [Heap.set_get, this, hx])
    clear hfg hM' hM
    cases hst : (step s i).2
    · have hrun : runS step s (i :: n.kids.flatMap (preL nodes f)) = ((step s i).1, false) := by simp [runS, hst]
      rw [hrun] at hR
      simp [Heap.set_get, *]
      repeat' (first | refine Keep.go (by assumption) ?_ | refine awp_seq_k fun K hK => ?_ | (refine awp_region ?_; try simp [Heap.set_get, *]) | refine awp_block ?_ | (refine awp_ret ?_; try simp) | (refine awp_skip ?_; try simp) | (refine awp_exit ?_; try simp) | (refine KeepQ.go (by assumption) ?_; try simp [Heap.set_get, *]) | (refine awp_cond' ?_; try simp [Heap.set_get, *]) | refine And.intro (by omega) ?_ | refine And.intro (by assumption) ?_ | refine and_lf (by omega) ?_ | refine and_rf ?_ (by omega) | refine and_imps (fun _ => ?_) (fun _ => ?_) | refine arounds_k fun K hK => ?_ | refine Or.inl ⟨by omega, ?_⟩ | refine Or.inr ⟨by omega, ?_⟩ | refine or_split (fun _ => ?_) (fun _ => ?_) | exact Sub.refl _ | refine imp_in fun _ => ?_ | refine and_ri ?_ (fun _ => ?_) | refine and_li (fun _ => ?_) ?_ | (refine And.intro ?_ ?_; focus (intros; simp [*]; done)) | fail)
      all_goals exact hR _ hMg hfr
    · have hrun : runS step s (i :: n.kids.flatMap (preL nodes f)) = runS step (step s i).1 (n.kids.flatMap (preL nodes f)) := by simp [runS, hst]
      rw [hrun] at hR
      clear hrun
      obtain ⟨s1, hs1⟩ : ∃ s1, (step s i).1 = s1 := ⟨_, rfl⟩
      rw [hs1] at hR hMg
      simp [Heap.set_get, *]
      repeat' (first | refine Keep.go (by assumption) ?_ | refine awp_seq_k fun K hK => ?_ | (refine awp_region ?_; try simp [Heap.set_get, *]) | refine awp_block ?_ | (refine awp_ret ?_; try simp) | (refine awp_skip ?_; try simp) | (refine awp_exit ?_; try simp) | (refine KeepQ.go (by assumption) ?_; try simp [Heap.set_get, *]) | (refine awp_cond' ?_; try simp [Heap.set_get, *]) | refine And.intro (by omega) ?_ | refine And.intro (by assumption) ?_ | refine and_lf (by omega) ?_ | refine and_rf ?_ (by omega) | refine and_imps (fun _ => ?_) (fun _ => ?_) | refine arounds_k fun K hK => ?_ | refine Or.inl ⟨by omega, ?_⟩ | refine Or.inr ⟨by omega, ?_⟩ | refine or_split (fun _ => ?_) (fun _ => ?_) | exact Sub.refl _ | refine imp_in fun _ => ?_ | refine and_ri ?_ (fun _ => ?_) | refine and_li (fun _ => ?_) ?_ | (refine And.intro ?_ ?_; focus (intros; simp [*]; done)) | fail)
      refine awp_loop_h [6, 8, 22, 23, 24, 25, 26, 27, 28, 29, 30, 31] (fun m x g' => ∃ (j : Nat) (s' : S), j ≤ n.kids.length ∧ m = n.kids.length - j ∧ x 22 = .int .i64 j ∧ M s' g' ∧ g' b3 = some (.cells [AV.list 5 (nodes.map row) t]) ∧ (∀ b x, ¬ B b → h b = some x → g' b = some x) ∧
        runS step s' ((n.kids.drop j).flatMap (preL nodes f)) = runS step s1 (n.kids.flatMap (preL nodes f))) n.kids.length ⟨0, s1, by omega, by omega, rfl, hMg, hg3, hfr, rfl⟩ (fun m x g' hI K hK => ?_)
      obtain ⟨j, s', hj, rfl, hx, hMs, h3, hfr', hrun⟩ := hI
      have w1 : IntKind.i64.wrap ((j : Int) + 1) = j + 1 := w64 (by omega) (by omega)
      by_cases hjl : j < n.kids.length
      · have r1 := hkd _ (List.getElem_mem hjl)
        have hdr : (n.kids.drop j).flatMap (preL nodes f) = preL nodes f n.kids[j] ++ (n.kids.drop (j + 1)).flatMap (preL nodes f) := by
          rw [List.drop_eq_getElem_cons hjl, List.flatMap_cons]
        rw [hdr, runS_append] at hrun
        clear hdr
        simp (maxSteps := 10000000) only [AgainAt, hav, List.contains_cons, List.contains_nil, Bool.or_false, Nat.reduceAdd, Nat.reduceBEq, Bool.or_true, Bool.true_or, Bool.false_or, if_true, if_false, Bool.false_eq_true]
        repeat' (first | refine Keep.go (by assumption) ?_ | refine awp_seq_k fun K hK => ?_ | (refine awp_region ?_; try simp [Heap.set_get, *]) | refine awp_block ?_ | (refine awp_ret ?_; try simp) | (refine awp_skip ?_; try simp) | (refine awp_exit ?_; try simp) | (refine KeepQ.go (by assumption) ?_; try simp [Heap.set_get, *]) | (refine awp_cond' ?_; try simp [Heap.set_get, *]) | refine And.intro (by omega) ?_ | refine And.intro (by assumption) ?_ | refine and_lf (by omega) ?_ | refine and_rf ?_ (by omega) | refine and_imps (fun _ => ?_) (fun _ => ?_) | refine arounds_k fun K hK => ?_ | refine Or.inl ⟨by omega, ?_⟩ | refine Or.inr ⟨by omega, ?_⟩ | refine or_split (fun _ => ?_) (fun _ => ?_) | exact Sub.refl _ | refine imp_in fun _ => ?_ | refine and_ri ?_ (fun _ => ?_) | refine and_li (fun _ => ?_) ?_ | (refine And.intro ?_ ?_; focus (intros; simp [*]; done)) | fail)
        refine ih n.kids[j] (by omega) (by omega) s' _ _ hMs (fun g2 hM2 hfr2 => ?_)
        have h3' := hfr2 b3 _ hB3 h3
        have hfr3 : ∀ b x, ¬ B b → h b = some x → g2 b = some x := fun b x hB hx => hfr2 b x hB (hfr' b x hB hx)
        cases hst2 : (runS step s' (preL nodes f n.kids[j])).2
        · simp only [hst2, Bool.false_eq_true, if_false] at hrun
          rw [← hrun] at hR
          simp [Heap.set_get, *]
          repeat' (first | refine Keep.go (by assumption) ?_ | refine awp_seq_k fun K hK => ?_ | (refine awp_region ?_; try simp [Heap.set_get, *]) | refine awp_block ?_ | (refine awp_ret ?_; try simp) | (refine awp_skip ?_; try simp) | (refine awp_exit ?_; try simp) | (refine KeepQ.go (by assumption) ?_; try simp [Heap.set_get, *]) | (refine awp_cond' ?_; try simp [Heap.set_get, *]) | refine And.intro (by omega) ?_ | refine And.intro (by assumption) ?_ | refine and_lf (by omega) ?_ | refine and_rf ?_ (by omega) | refine and_imps (fun _ => ?_) (fun _ => ?_) | refine arounds_k fun K hK => ?_ | refine Or.inl ⟨by omega, ?_⟩ | refine Or.inr ⟨by omega, ?_⟩ | refine or_split (fun _ => ?_) (fun _ => ?_) | exact Sub.refl _ | refine imp_in fun _ => ?_ | refine and_ri ?_ (fun _ => ?_) | refine and_li (fun _ => ?_) ?_ | (refine And.intro ?_ ?_; focus (intros; simp [*]; done)) | fail)
          all_goals exact hR _ hM2 hfr3
        · simp only [hst2, if_true] at hrun
          simp [Heap.set_get, *]
          repeat' (first | refine Keep.go (by assumption) ?_ | refine awp_seq_k fun K hK => ?_ | (refine awp_region ?_; try simp [Heap.set_get, *]) | refine awp_block ?_ | (refine awp_ret ?_; try simp) | (refine awp_skip ?_; try simp) | (refine awp_exit ?_; try simp) | (refine KeepQ.go (by assumption) ?_; try simp [Heap.set_get, *]) | (refine awp_cond' ?_; try simp [Heap.set_get, *]) | refine And.intro (by omega) ?_ | refine And.intro (by assumption) ?_ | refine and_lf (by omega) ?_ | refine and_rf ?_ (by omega) | refine and_imps (fun _ => ?_) (fun _ => ?_) | refine arounds_k fun K hK => ?_ | refine Or.inl ⟨by omega, ?_⟩ | refine Or.inr ⟨by omega, ?_⟩ | refine or_split (fun _ => ?_) (fun _ => ?_) | exact Sub.refl _ | refine imp_in fun _ => ?_ | refine and_ri ?_ (fun _ => ?_) | refine and_li (fun _ => ?_) ?_ | (refine And.intro ?_ ?_; focus (intros; simp [*]; done)) | fail)
          exact ⟨by simp [hav], rfl, n.kids.length - (j + 1), _, by omega, Sub.refl _, j + 1, _, by omega, rfl, by simp, hM2, h3', hfr3, hrun⟩
      · rw [List.drop_eq_nil_of_le (by omega)] at hrun
        simp only [List.flatMap_nil, runS] at hrun
        rw [← hrun] at hR
        simp (maxSteps := 10000000) only [AgainAt, hav, List.contains_cons, List.contains_nil, Bool.or_false, Nat.reduceAdd, Nat.reduceBEq, Bool.or_true, Bool.true_or, Bool.false_or, if_true, if_false, Bool.false_eq_true]
        repeat' (first | refine Keep.go (by assumption) ?_ | refine awp_seq_k fun K hK => ?_ | (refine awp_region ?_; try simp [Heap.set_get, *]) | refine awp_block ?_ | (refine awp_ret ?_; try simp) | (refine awp_skip ?_; try simp) | (refine awp_exit ?_; try simp) | (refine KeepQ.go (by assumption) ?_; try simp [Heap.set_get, *]) | (refine awp_cond' ?_; try simp [Heap.set_get, *]) | refine And.intro (by omega) ?_ | refine And.intro (by assumption) ?_ | refine and_lf (by omega) ?_ | refine and_rf ?_ (by omega) | refine and_imps (fun _ => ?_) (fun _ => ?_) | refine arounds_k fun K hK => ?_ | refine Or.inl ⟨by omega, ?_⟩ | refine Or.inr ⟨by omega, ?_⟩ | refine or_split (fun _ => ?_) (fun _ => ?_) | exact Sub.refl _ | refine imp_in fun _ => ?_ | refine and_ri ?_ (fun _ => ?_) | refine and_li (fun _ => ?_) ?_ | (refine And.intro ?_ ?_; focus (intros; simp [*]; done)) | fail)
        all_goals exact hR _ hMs hfr'
end Go.Proofs.YtmnkalojpefclaaDoor
