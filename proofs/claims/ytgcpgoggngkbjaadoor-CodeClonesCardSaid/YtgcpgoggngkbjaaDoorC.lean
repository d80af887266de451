import Derived.Test.YtgcpgoggngkbjaaDoorA0
set_option linter.unusedSimpArgs false
set_option linter.unusedVariables false
namespace Go.Proofs.YtgcpgoggngkbjaaDoor
open Go Go.AL Go.Proofs
/-- May one that is captured not be? -/
def capBad (f : Fn) (c : Cap) : Bool := !capOk f c
theorem capBad_c (f : Fn) (c : Cap) (b : Nat) (h : Heap) (hb : h b = some (.cells (fnRow f))) (R : AV → Heap → Prop) (hR : R (.bool (capBad f c)) h) :
    ACalls Tryd.prog 41 [.agg (capRow c), .ptr b 0] h R := by
  refine ACalls.pure ?_ hR
  clear hR
  obtain ⟨l, i⟩ := c
  cases l
  all_goals
    by_cases hi : i < 0
    · have hi0 : ¬ 0 ≤ i := by omega
      refine acalls_of Tryd.func41 rfl Tryd.ntmps41 (congrArg Array.toList Tryd.results41) fun Q hQ => ?_
      repeat' (first | refine Keep.go (by assumption) ?_ | refine awp_seq_k fun K hK => ?_ | (refine awp_region ?_; try simp [Heap.set_get, *]) | refine awp_block ?_ | (refine awp_ret ?_; try simp) | (refine awp_skip ?_; try simp) | (refine awp_exit ?_; try simp) | (refine KeepQ.go (by assumption) ?_; try simp [Heap.set_get, *]) | (refine awp_cond' ?_; try simp [Heap.set_get, *]) | refine And.intro (by omega) ?_ | refine And.intro (by assumption) ?_ | refine and_lf (by omega) ?_ | refine and_rf ?_ (by omega) | refine and_imps (fun _ => ?_) (fun _ => ?_) | refine arounds_k fun K hK => ?_ | refine Or.inl ⟨by omega, ?_⟩ | refine Or.inr ⟨by omega, ?_⟩ | refine or_split (fun _ => ?_) (fun _ => ?_) | exact Sub.refl _ | refine imp_in fun _ => ?_ | refine and_ri ?_ (fun _ => ?_) | refine and_li (fun _ => ?_) ?_ | (refine And.intro ?_ ?_; focus (intros; simp [*]; done)) | fail)
      intro b2 hb2; simp only [Fresh, Heap.set_none] at hb2; have n_b2_b := ne_of_fresh hb (b := b2) (by simp [*]); try simp [Heap.set_get, *]
      repeat' (first | refine Keep.go (by assumption) ?_ | refine awp_seq_k fun K hK => ?_ | (refine awp_region ?_; try simp [Heap.set_get, *]) | refine awp_block ?_ | (refine awp_ret ?_; try simp) | (refine awp_skip ?_; try simp) | (refine awp_exit ?_; try simp) | (refine KeepQ.go (by assumption) ?_; try simp [Heap.set_get, *]) | (refine awp_cond' ?_; try simp [Heap.set_get, *]) | refine And.intro (by omega) ?_ | refine And.intro (by assumption) ?_ | refine and_lf (by omega) ?_ | refine and_rf ?_ (by omega) | refine and_imps (fun _ => ?_) (fun _ => ?_) | refine arounds_k fun K hK => ?_ | refine Or.inl ⟨by omega, ?_⟩ | refine Or.inr ⟨by omega, ?_⟩ | refine or_split (fun _ => ?_) (fun _ => ?_) | exact Sub.refl _ | refine imp_in fun _ => ?_ | refine and_ri ?_ (fun _ => ?_) | refine and_li (fun _ => ?_) ?_ | (refine And.intro ?_ ?_; focus (intros; simp [*]; done)) | fail)
      all_goals first
        | exact ⟨by rw [Bool.eq_iff_iff]; first | (simp [capBad, capOk, *]; done) | (simp [capBad, capOk, *]; omega), by (repeat (first | exact Sub.refl _ | refine Sub.loc ?_ (by simp [*]) _))⟩
        | ((repeat (first | exact Sub.refl _ | refine Sub.loc ?_ (by simp [*]) _)); done)
        | (exfalso; omega)
    · have hi0 : 0 ≤ i := by omega
      refine acalls_of Tryd.func41 rfl Tryd.ntmps41 (congrArg Array.toList Tryd.results41) fun Q hQ => ?_
      repeat' (first | refine Keep.go (by assumption) ?_ | refine awp_seq_k fun K hK => ?_ | (refine awp_region ?_; try simp [Heap.set_get, *]) | refine awp_block ?_ | (refine awp_ret ?_; try simp) | (refine awp_skip ?_; try simp) | (refine awp_exit ?_; try simp) | (refine KeepQ.go (by assumption) ?_; try simp [Heap.set_get, *]) | (refine awp_cond' ?_; try simp [Heap.set_get, *]) | refine And.intro (by omega) ?_ | refine And.intro (by assumption) ?_ | refine and_lf (by omega) ?_ | refine and_rf ?_ (by omega) | refine and_imps (fun _ => ?_) (fun _ => ?_) | refine arounds_k fun K hK => ?_ | refine Or.inl ⟨by omega, ?_⟩ | refine Or.inr ⟨by omega, ?_⟩ | refine or_split (fun _ => ?_) (fun _ => ?_) | exact Sub.refl _ | refine imp_in fun _ => ?_ | refine and_ri ?_ (fun _ => ?_) | refine and_li (fun _ => ?_) ?_ | (refine And.intro ?_ ?_; focus (intros; simp [*]; done)) | fail)
      intro b2 hb2; simp only [Fresh, Heap.set_none] at hb2; have n_b2_b := ne_of_fresh hb (b := b2) (by simp [*]); try simp [Heap.set_get, *]
      repeat' (first | refine Keep.go (by assumption) ?_ | refine awp_seq_k fun K hK => ?_ | (refine awp_region ?_; try simp [Heap.set_get, *]) | refine awp_block ?_ | (refine awp_ret ?_; try simp) | (refine awp_skip ?_; try simp) | (refine awp_exit ?_; try simp) | (refine KeepQ.go (by assumption) ?_; try simp [Heap.set_get, *]) | (refine awp_cond' ?_; try simp [Heap.set_get, *]) | refine And.intro (by omega) ?_ | refine And.intro (by assumption) ?_ | refine and_lf (by omega) ?_ | refine and_rf ?_ (by omega) | refine and_imps (fun _ => ?_) (fun _ => ?_) | refine arounds_k fun K hK => ?_ | refine Or.inl ⟨by omega, ?_⟩ | refine Or.inr ⟨by omega, ?_⟩ | refine or_split (fun _ => ?_) (fun _ => ?_) | exact Sub.refl _ | refine imp_in fun _ => ?_ | refine and_ri ?_ (fun _ => ?_) | refine and_li (fun _ => ?_) ?_ | (refine And.intro ?_ ?_; focus (intros; simp [*]; done)) | fail)
      all_goals first
        | exact ⟨by rw [Bool.eq_iff_iff]; first | (simp [capBad, capOk, *]; done) | (simp [capBad, capOk, *]; omega), by (repeat (first | exact Sub.refl _ | refine Sub.loc ?_ (by simp [*]) _))⟩
        | ((repeat (first | exact Sub.refl _ | refine Sub.loc ?_ (by simp [*]) _)); done)
        | (exfalso; omega)
theorem IndexFunc_c (l : List Cap) (t : Tok) (hl : l.length ≤ 281474976710656) (fc : FuncId) (caps : List AV) (hc : callable Tryd.prog fc = true) (pred : Cap → Bool) (h : Heap)
    (hp : ∀ c ∈ l, ∀ R' : AV → Heap → Prop, R' (.bool (pred c)) h → ACalls Tryd.prog fc (.agg (capRow c) :: caps) h R') (R : AV → Heap → Prop) (hR : ∀ i : Int, (0 ≤ i ↔ l.any pred = true) → R (.int .i64 i) h) :
    ACalls Tryd.prog 48 [.list 2 (l.map capRow) t, .fn fc caps] h R := by
  refine acalls_of Tryd.func48 rfl Tryd.ntmps48 (congrArg Array.toList Tryd.results48) fun Q hQ => ?_
  repeat' (first | refine Keep.go (by assumption) ?_ | refine awp_seq_k fun K hK => ?_ | (refine awp_region ?_; try simp [Heap.set_get, *]) | refine awp_block ?_ | (refine awp_ret ?_; try simp) | (refine awp_skip ?_; try simp) | (refine awp_exit ?_; try simp) | (refine KeepQ.go (by assumption) ?_; try simp [Heap.set_get, *]) | (refine awp_cond' ?_; try simp [Heap.set_get, *]) | refine And.intro (by omega) ?_ | refine And.intro (by assumption) ?_ | refine and_lf (by omega) ?_ | refine and_rf ?_ (by omega) | refine and_imps (fun _ => ?_) (fun _ => ?_) | refine arounds_k fun K hK => ?_ | refine Or.inl ⟨by omega, ?_⟩ | refine Or.inr ⟨by omega, ?_⟩ | refine or_split (fun _ => ?_) (fun _ => ?_) | exact Sub.refl _ | refine imp_in fun _ => ?_ | refine and_ri ?_ (fun _ => ?_) | refine and_li (fun _ => ?_) ?_ | (refine And.intro ?_ ?_; focus (intros; simp [*]; done)) | fail)
  refine awp_loop_h [4, 5, 8, 9, 10, 11, 12, 13, 14, 15, 16, 17, 18] (fun m x g => ∃ i : Nat, i ≤ l.length ∧ m = l.length - i ∧ x 8 = .int .i64 i ∧ (∀ j (hj : j < l.length), j < i → pred l[j] = false) ∧ g = h) l.length ⟨0, by omega, by omega, rfl, by simp, rfl⟩ (fun m x g hI K hK => ?_)
  obtain ⟨i, hi, rfl, hx, hn, hgg⟩ := hI
  subst g
  have w1 : IntKind.i64.wrap ((i : Int) + 1) = i + 1 := w64 (by omega) (by omega)
  by_cases hlt : i < l.length
  · have hg : l[i]? = some l[i] := List.getElem?_eq_getElem hlt
    simp (maxSteps := 10000000) only [AgainAt, hav_nil, hav_end, hav_cons, Nat.reduceAdd, Nat.reduceEqDiff, if_true, if_false]
    repeat' (first | refine Keep.go (by assumption) ?_ | refine awp_seq_k fun K hK => ?_ | (refine awp_region ?_; try simp [Heap.set_get, *]) | refine awp_block ?_ | (refine awp_ret ?_; try simp) | (refine awp_skip ?_; try simp) | (refine awp_exit ?_; try simp) | (refine KeepQ.go (by assumption) ?_; try simp [Heap.set_get, *]) | (refine awp_cond' ?_; try simp [Heap.set_get, *]) | refine And.intro (by omega) ?_ | refine And.intro (by assumption) ?_ | refine and_lf (by omega) ?_ | refine and_rf ?_ (by omega) | refine and_imps (fun _ => ?_) (fun _ => ?_) | refine arounds_k fun K hK => ?_ | refine Or.inl ⟨by omega, ?_⟩ | refine Or.inr ⟨by omega, ?_⟩ | refine or_split (fun _ => ?_) (fun _ => ?_) | exact Sub.refl _ | refine imp_in fun _ => ?_ | refine and_ri ?_ (fun _ => ?_) | refine and_li (fun _ => ?_) ?_ | (refine And.intro ?_ ?_; focus (intros; simp [*]; done)) | fail)
    refine hp l[i] (List.getElem_mem hlt) _ ?_
    cases hv : pred l[i]
    · simp [Heap.set_get, *]
      repeat' (first | refine Keep.go (by assumption) ?_ | refine awp_seq_k fun K hK => ?_ | (refine awp_region ?_; try simp [Heap.set_get, *]) | refine awp_block ?_ | (refine awp_ret ?_; try simp) | (refine awp_skip ?_; try simp) | (refine awp_exit ?_; try simp) | (refine KeepQ.go (by assumption) ?_; try simp [Heap.set_get, *]) | (refine awp_cond' ?_; try simp [Heap.set_get, *]) | refine And.intro (by omega) ?_ | refine And.intro (by assumption) ?_ | refine and_lf (by omega) ?_ | refine and_rf ?_ (by omega) | refine and_imps (fun _ => ?_) (fun _ => ?_) | refine arounds_k fun K hK => ?_ | refine Or.inl ⟨by omega, ?_⟩ | refine Or.inr ⟨by omega, ?_⟩ | refine or_split (fun _ => ?_) (fun _ => ?_) | exact Sub.refl _ | refine imp_in fun _ => ?_ | refine and_ri ?_ (fun _ => ?_) | refine and_li (fun _ => ?_) ?_ | (refine And.intro ?_ ?_; focus (intros; simp [*]; done)) | fail)
      refine ⟨by simp [hav_cons, hav_nil], rfl, l.length - (i + 1), _, by omega, Sub.refl _, i + 1, by omega, rfl, by simp, fun j hj hji => ?_, rfl⟩
      by_cases e : j < i
      · exact hn j hj e
      · have : j = i := by omega
        subst this; exact hv
    · simp [Heap.set_get, *]
      repeat' (first | refine Keep.go (by assumption) ?_ | refine awp_seq_k fun K hK => ?_ | (refine awp_region ?_; try simp [Heap.set_get, *]) | refine awp_block ?_ | (refine awp_ret ?_; try simp) | (refine awp_skip ?_; try simp) | (refine awp_exit ?_; try simp) | (refine KeepQ.go (by assumption) ?_; try simp [Heap.set_get, *]) | (refine awp_cond' ?_; try simp [Heap.set_get, *]) | refine And.intro (by omega) ?_ | refine And.intro (by assumption) ?_ | refine and_lf (by omega) ?_ | refine and_rf ?_ (by omega) | refine and_imps (fun _ => ?_) (fun _ => ?_) | refine arounds_k fun K hK => ?_ | refine Or.inl ⟨by omega, ?_⟩ | refine Or.inr ⟨by omega, ?_⟩ | refine or_split (fun _ => ?_) (fun _ => ?_) | exact Sub.refl _ | refine imp_in fun _ => ?_ | refine and_ri ?_ (fun _ => ?_) | refine and_li (fun _ => ?_) ?_ | (refine And.intro ?_ ?_; focus (intros; simp [*]; done)) | fail)
      refine hR i ⟨fun _ => List.any_eq_true.2 ⟨_, List.getElem_mem hlt, hv⟩, fun _ => by omega⟩
  · simp (maxSteps := 10000000) only [AgainAt, hav_nil, hav_end, hav_cons, Nat.reduceAdd, Nat.reduceEqDiff, if_true, if_false]
    repeat' (first | refine Keep.go (by assumption) ?_ | refine awp_seq_k fun K hK => ?_ | (refine awp_region ?_; try simp [Heap.set_get, *]) | refine awp_block ?_ | (refine awp_ret ?_; try simp) | (refine awp_skip ?_; try simp) | (refine awp_exit ?_; try simp) | (refine KeepQ.go (by assumption) ?_; try simp [Heap.set_get, *]) | (refine awp_cond' ?_; try simp [Heap.set_get, *]) | refine And.intro (by omega) ?_ | refine And.intro (by assumption) ?_ | refine and_lf (by omega) ?_ | refine and_rf ?_ (by omega) | refine and_imps (fun _ => ?_) (fun _ => ?_) | refine arounds_k fun K hK => ?_ | refine Or.inl ⟨by omega, ?_⟩ | refine Or.inr ⟨by omega, ?_⟩ | refine or_split (fun _ => ?_) (fun _ => ?_) | exact Sub.refl _ | refine imp_in fun _ => ?_ | refine and_ri ?_ (fun _ => ?_) | refine and_li (fun _ => ?_) ?_ | (refine And.intro ?_ ?_; focus (intros; simp [*]; done)) | fail)
    refine hR (-1) ⟨fun e => by omega, fun e => ?_⟩
    obtain ⟨c, hc, hv⟩ := List.any_eq_true.1 e
    obtain ⟨j, hj, rfl⟩ := List.getElem_of_mem hc
    rw [hn j hj (by omega)] at hv
    cases hv
theorem ContainsFunc_c (l : List Cap) (t : Tok) (hl : l.length ≤ 281474976710656) (fc : FuncId) (caps : List AV) (hc : callable Tryd.prog fc = true) (pred : Cap → Bool) (h : Heap)
    (hp : ∀ c ∈ l, ∀ R' : AV → Heap → Prop, R' (.bool (pred c)) h → ACalls Tryd.prog fc (.agg (capRow c) :: caps) h R') (R : AV → Heap → Prop) (hR : R (.bool (l.any pred)) h) :
    ACalls Tryd.prog 40 [.list 2 (l.map capRow) t, .fn fc caps] h R := by
  refine acalls_of Tryd.func40 rfl Tryd.ntmps40 (congrArg Array.toList Tryd.results40) fun Q hQ => ?_
  repeat' (first | refine Keep.go (by assumption) ?_ | refine awp_seq_k fun K hK => ?_ | (refine awp_region ?_; try simp [Heap.set_get, *]) | refine awp_block ?_ | (refine awp_ret ?_; try simp) | (refine awp_skip ?_; try simp) | (refine awp_exit ?_; try simp) | (refine KeepQ.go (by assumption) ?_; try simp [Heap.set_get, *]) | (refine awp_cond' ?_; try simp [Heap.set_get, *]) | refine And.intro (by omega) ?_ | refine And.intro (by assumption) ?_ | refine and_lf (by omega) ?_ | refine and_rf ?_ (by omega) | refine and_imps (fun _ => ?_) (fun _ => ?_) | refine arounds_k fun K hK => ?_ | refine Or.inl ⟨by omega, ?_⟩ | refine Or.inr ⟨by omega, ?_⟩ | refine or_split (fun _ => ?_) (fun _ => ?_) | exact Sub.refl _ | refine imp_in fun _ => ?_ | refine and_ri ?_ (fun _ => ?_) | refine and_li (fun _ => ?_) ?_ | (refine And.intro ?_ ?_; focus (intros; simp [*]; done)) | fail)
  refine IndexFunc_c l t hl fc caps hc pred h hp _ (fun i hi => ?_)
  have he : decide (0 ≤ i) = l.any pred := by
    cases hv : l.any pred
    · have : ¬ 0 ≤ i := fun e => by rw [hi.1 e] at hv; cases hv
      simp [this]
    · have := hi.2 hv
      simp [this]
  obtain ⟨b, hb⟩ : ∃ b, l.any pred = b := ⟨_, rfl⟩
  rw [hb] at hR he
  simp [Heap.set_get, *]
  repeat' (first | refine Keep.go (by assumption) ?_ | refine awp_seq_k fun K hK => ?_ | (refine awp_region ?_; try simp [Heap.set_get, *]) | refine awp_block ?_ | (refine awp_ret ?_; try simp) | (refine awp_skip ?_; try simp) | (refine awp_exit ?_; try simp) | (refine KeepQ.go (by assumption) ?_; try simp [Heap.set_get, *]) | (refine awp_cond' ?_; try simp [Heap.set_get, *]) | refine And.intro (by omega) ?_ | refine And.intro (by assumption) ?_ | refine and_lf (by omega) ?_ | refine and_rf ?_ (by omega) | refine and_imps (fun _ => ?_) (fun _ => ?_) | refine arounds_k fun K hK => ?_ | refine Or.inl ⟨by omega, ?_⟩ | refine Or.inr ⟨by omega, ?_⟩ | refine or_split (fun _ => ?_) (fun _ => ?_) | exact Sub.refl _ | refine imp_in fun _ => ?_ | refine and_ri ?_ (fun _ => ?_) | refine and_li (fun _ => ?_) ?_ | (refine And.intro ?_ ?_; focus (intros; simp [*]; done)) | fail)
  all_goals first
    | exact hR
theorem callC : callable Tryd.prog 41 = true := by kernel_rfl
theorem caught_c (p : List Fn) (t : Tok) (f g : Fn) (hl : g.caps.length ≤ 281474976710656) (h : Heap) (R : AV → Heap → Prop) (hR : R (.bool (caughtL f g)) h) :
    ACalls Tryd.prog 32 [progAV p t, .agg (fnRow f), .agg (fnRow g)] h R := by
  refine ACalls.pure ?_ hR
  clear hR
  have he : (!(g.caps.any (capBad f))) = caughtL f g := by
    simp only [caughtL, List.any_eq_not_all_not, Bool.not_not]
    congr 1
    funext c
    simp [capBad]
  refine acalls_of Tryd.func32 rfl Tryd.ntmps32 (congrArg Array.toList Tryd.results32) fun Q hQ => ?_
  repeat' (first | refine Keep.go (by assumption) ?_ | refine awp_seq_k fun K hK => ?_ | (refine awp_region ?_; try simp [Heap.set_get, *]) | refine awp_block ?_ | (refine awp_ret ?_; try simp) | (refine awp_skip ?_; try simp) | (refine awp_exit ?_; try simp) | (refine KeepQ.go (by assumption) ?_; try simp [Heap.set_get, *]) | (refine awp_cond' ?_; try simp [Heap.set_get, *]) | refine And.intro (by omega) ?_ | refine And.intro (by assumption) ?_ | refine and_lf (by omega) ?_ | refine and_rf ?_ (by omega) | refine and_imps (fun _ => ?_) (fun _ => ?_) | refine arounds_k fun K hK => ?_ | refine Or.inl ⟨by omega, ?_⟩ | refine Or.inr ⟨by omega, ?_⟩ | refine or_split (fun _ => ?_) (fun _ => ?_) | exact Sub.refl _ | refine imp_in fun _ => ?_ | refine and_ri ?_ (fun _ => ?_) | refine and_li (fun _ => ?_) ?_ | (refine And.intro ?_ ?_; focus (intros; simp [*]; done)) | fail)
  intro b3 hb3; simp only [Fresh, Heap.set_none] at hb3; try simp [Heap.set_get, *]
  intro b4 hb4; simp only [Fresh, Heap.set_none] at hb4; try simp [Heap.set_get, *]
  intro b5 hb5; simp only [Fresh, Heap.set_none] at hb5; try simp [Heap.set_get, *]
  repeat' (first | refine Keep.go (by assumption) ?_ | refine awp_seq_k fun K hK => ?_ | (refine awp_region ?_; try simp [Heap.set_get, *]) | refine awp_block ?_ | (refine awp_ret ?_; try simp) | (refine awp_skip ?_; try simp) | (refine awp_exit ?_; try simp) | (refine KeepQ.go (by assumption) ?_; try simp [Heap.set_get, *]) | (refine awp_cond' ?_; try simp [Heap.set_get, *]) | refine And.intro (by omega) ?_ | refine And.intro (by assumption) ?_ | refine and_lf (by omega) ?_ | refine and_rf ?_ (by omega) | refine and_imps (fun _ => ?_) (fun _ => ?_) | refine arounds_k fun K hK => ?_ | refine Or.inl ⟨by omega, ?_⟩ | refine Or.inr ⟨by omega, ?_⟩ | refine or_split (fun _ => ?_) (fun _ => ?_) | exact Sub.refl _ | refine imp_in fun _ => ?_ | refine and_ri ?_ (fun _ => ?_) | refine and_li (fun _ => ?_) ?_ | (refine And.intro ?_ ?_; focus (intros; simp [*]; done)) | fail)
  refine ContainsFunc_c g.caps .no hl _ _ callC (capBad f) _ (fun c hc R' hR' => capBad_c f c b4 _ (by simp [Heap.set_get, *]) _ hR') _ ?_
  simp [Heap.set_get, *]
  repeat' (first | refine Keep.go (by assumption) ?_ | refine awp_seq_k fun K hK => ?_ | (refine awp_region ?_; try simp [Heap.set_get, *]) | refine awp_block ?_ | (refine awp_ret ?_; try simp) | (refine awp_skip ?_; try simp) | (refine awp_exit ?_; try simp) | (refine KeepQ.go (by assumption) ?_; try simp [Heap.set_get, *]) | (refine awp_cond' ?_; try simp [Heap.set_get, *]) | refine And.intro (by omega) ?_ | refine And.intro (by assumption) ?_ | refine and_lf (by omega) ?_ | refine and_rf ?_ (by omega) | refine and_imps (fun _ => ?_) (fun _ => ?_) | refine arounds_k fun K hK => ?_ | refine Or.inl ⟨by omega, ?_⟩ | refine Or.inr ⟨by omega, ?_⟩ | refine or_split (fun _ => ?_) (fun _ => ?_) | exact Sub.refl _ | refine imp_in fun _ => ?_ | refine and_ri ?_ (fun _ => ?_) | refine and_li (fun _ => ?_) ?_ | (refine And.intro ?_ ?_; focus (intros; simp [*]; done)) | fail)
  all_goals first
    | exact ⟨he, by (repeat (first | exact Sub.refl _ | refine Sub.loc ?_ (by simp [*]) _))⟩
    | (rw [← he]; simp; done)
    | ((repeat (first | exact Sub.refl _ | refine Sub.loc ?_ (by simp [*]) _)); done)
end Go.Proofs.YtgcpgoggngkbjaaDoor
