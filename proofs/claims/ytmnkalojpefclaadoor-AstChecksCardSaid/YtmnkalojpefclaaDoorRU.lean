import Derived.Test.YtmnkalojpefclaaDoorRT
set_option linter.unusedSimpArgs false
set_option linter.unusedVariables false
namespace Go.Proofs.YtmnkalojpefclaaDoor
open Go Go.AL Go.Proofs
theorem pair_at {text : List UInt8} {i : Nat} (hi : i < text.length) (h : text[i] = 9) (hn : ∀ j (hj : j < text.length), j < i → text[j] ≠ 9) :
    pairR text = ((decide (text.take i = []) || nameR (text.take i)) && nameR (text.drop (i + 1)) && !decide (text.take i = text.drop (i + 1))) := by
  have : text.findIdx? (fun c => decide (c = 9)) = some i := by
    rw [List.findIdx?_eq_some_iff_getElem]
    exact ⟨hi, by simp [h], fun j hj => by simpa using hn j (by omega) hj⟩
  simp only [pairR, this]
theorem pair_none {text : List UInt8} (hn : ∀ j (hj : j < text.length), text[j] ≠ 9) : pairR text = false := by
  have : text.findIdx? (fun c => decide (c = 9)) = none := by
    rw [List.findIdx?_eq_none_iff]
    intro c hc
    obtain ⟨j, hj, rfl⟩ := List.getElem_of_mem hc
    simpa using hn j hj
  simp only [pairR, this]
set_option maxRecDepth 100000 in
set_option maxHeartbeats 8000000 in
theorem Text33_c (p : Int) (text : List UInt8) (kids : List Int) (t : Tok) (hs : text.length < 9223372036854775807) (h : Heap) (R : AV → Heap → Prop) (hR : R (.bool (pairR text)) h) :
    ACalls Tryd.prog 23 [.agg (ndRow ⟨33, p, text, 0, kids⟩ t)] h R := by
  refine ACalls.pure ?_ hR
  clear hR
  refine acalls_of Tryd.func23 rfl Tryd.ntmps23 (congrArg Array.toList Tryd.results23) fun Q hQ => ?_
  repeat' (first | refine Keep.go (by assumption) ?_ | refine awp_seq_k fun K hK => ?_ | (refine awp_region ?_; try simp [Heap.set_get, *]) | refine awp_block ?_ | (refine awp_ret ?_; try simp) | (refine awp_skip ?_; try simp) | (refine awp_exit ?_; try simp) | (refine KeepQ.go (by assumption) ?_; try simp [Heap.set_get, *]) | (refine awp_cond' ?_; try simp [Heap.set_get, *]) | refine And.intro (by omega) ?_ | refine And.intro (by assumption) ?_ | refine and_lf (by omega) ?_ | refine and_rf ?_ (by omega) | refine and_imps (fun _ => ?_) (fun _ => ?_) | refine arounds_k fun K hK => ?_ | refine Or.inl ⟨by omega, ?_⟩ | refine Or.inr ⟨by omega, ?_⟩ | refine or_split (fun _ => ?_) (fun _ => ?_) | exact Sub.refl _ | refine imp_in fun _ => ?_ | refine and_ri ?_ (fun _ => ?_) | refine and_li (fun _ => ?_) ?_ | (refine And.intro ?_ ?_; focus (intros; simp [*]; done)) | fail)
  intro b1 hb1; simp only [Fresh, Heap.set_none] at hb1; try simp [Heap.set_get, *]
  have hsb : ∀ x, AL.Sub h (h.set b1 x) := fun x => (Sub.refl h).loc hb1 x
  repeat' (first | refine Keep.go (by assumption) ?_ | refine awp_seq_k fun K hK => ?_ | (refine awp_region ?_; try simp [Heap.set_get, *]) | refine awp_block ?_ | (refine awp_ret ?_; try simp) | (refine awp_skip ?_; try simp) | (refine awp_exit ?_; try simp) | (refine KeepQ.go (by assumption) ?_; try simp [Heap.set_get, *]) | (refine awp_cond' ?_; try simp [Heap.set_get, *]) | refine And.intro (by omega) ?_ | refine And.intro (by assumption) ?_ | refine and_lf (by omega) ?_ | refine and_rf ?_ (by omega) | refine and_imps (fun _ => ?_) (fun _ => ?_) | refine arounds_k fun K hK => ?_ | refine Or.inl ⟨by omega, ?_⟩ | refine Or.inr ⟨by omega, ?_⟩ | refine or_split (fun _ => ?_) (fun _ => ?_) | exact Sub.refl _ | refine imp_in fun _ => ?_ | refine and_ri ?_ (fun _ => ?_) | refine and_li (fun _ => ?_) ?_ | (refine And.intro ?_ ?_; focus (intros; simp [*]; done)) | fail)
  refine awp_loop_h [2, 3, 4, 5, 110, 111, 112, 113, 114, 115, 116, 117, 118, 119, 120, 121, 122, 123, 124, 125, 126, 127, 128, 129, 130, 131, 132, 133, 134, 135, 136, 137, 138, 139, 140, 141, 142, 143, 144, 145] (fun n x g => ∃ i : Nat, i ≤ text.length ∧ n = text.length - i ∧ x 3 = .int .i64 i ∧ (∀ j (hj : j < text.length), j < i → text[j] ≠ 9) ∧ g = h.set b1 (.cells (ndRow ⟨33, p, text, 0, kids⟩ t))) text.length ⟨0, by omega, by omega, rfl, by simp, rfl⟩ (fun n x g hI K hK => ?_)
  obtain ⟨i, hi, rfl, hx, hn, rfl⟩ := hI
  have w1 : IntKind.i64.wrap ((i : Int) + 1) = i + 1 := w64 (by omega) (by omega)
  by_cases hlt : i < text.length
  · by_cases he : text[i] = 9
    · have hv : ((text[i].toNat : Int)) = 9 := by rw [he]; rfl
      have hp := pair_at hlt he hn
      obtain ⟨key, hkey⟩ : ∃ a, text.take i = a := ⟨_, rfl⟩
      obtain ⟨val, hval⟩ : ∃ a, text.drop (i + 1) = a := ⟨_, rfl⟩
      have hkl : key.length ≤ text.length := by rw [← hkey, List.length_take]; omega
      have hvl : val.length ≤ text.length := by rw [← hval, List.length_drop]; omega
      rw [hkey, hval] at hp
      have htk : text.take text.length = text := List.take_length
      by_cases h2 : key = []
      · simp (maxSteps := 10000000) only [AgainAt, hav, List.contains_cons, List.contains_nil, Bool.or_false, Nat.reduceAdd, Nat.reduceBEq, Bool.or_true, Bool.true_or, Bool.false_or, if_true, if_false, Bool.false_eq_true]
        repeat' (first | refine Keep.go (by assumption) ?_ | refine awp_seq_k fun K hK => ?_ | (refine awp_region ?_; try simp [Heap.set_get, *]) | refine awp_block ?_ | (refine awp_ret ?_; try simp) | (refine awp_skip ?_; try simp) | (refine awp_exit ?_; try simp) | (refine KeepQ.go (by assumption) ?_; try simp [Heap.set_get, *]) | (refine awp_cond' ?_; try simp [Heap.set_get, *]) | refine And.intro (by omega) ?_ | refine And.intro (by assumption) ?_ | refine and_lf (by omega) ?_ | refine and_rf ?_ (by omega) | refine and_imps (fun _ => ?_) (fun _ => ?_) | refine arounds_k fun K hK => ?_ | refine Or.inl ⟨by omega, ?_⟩ | refine Or.inr ⟨by omega, ?_⟩ | refine or_split (fun _ => ?_) (fun _ => ?_) | exact Sub.refl _ | refine imp_in fun _ => ?_ | refine and_ri ?_ (fun _ => ?_) | refine and_li (fun _ => ?_) ?_ | (refine And.intro ?_ ?_; focus (intros; simp [*]; done)) | fail)
        refine awp_region_quiet follows (by kernel_rfl) ?_; simp [Heap.set_get, *]
        repeat' (first | refine Keep.go (by assumption) ?_ | refine awp_seq_k fun K hK => ?_ | (refine awp_region ?_; try simp [Heap.set_get, *]) | refine awp_block ?_ | (refine awp_ret ?_; try simp) | (refine awp_skip ?_; try simp) | (refine awp_exit ?_; try simp) | (refine KeepQ.go (by assumption) ?_; try simp [Heap.set_get, *]) | (refine awp_cond' ?_; try simp [Heap.set_get, *]) | refine And.intro (by omega) ?_ | refine And.intro (by assumption) ?_ | refine and_lf (by omega) ?_ | refine and_rf ?_ (by omega) | refine and_imps (fun _ => ?_) (fun _ => ?_) | refine arounds_k fun K hK => ?_ | refine Or.inl ⟨by omega, ?_⟩ | refine Or.inr ⟨by omega, ?_⟩ | refine or_split (fun _ => ?_) (fun _ => ?_) | exact Sub.refl _ | refine imp_in fun _ => ?_ | refine and_ri ?_ (fun _ => ?_) | refine and_li (fun _ => ?_) ?_ | (refine And.intro ?_ ?_; focus (intros; simp [*]; done)) | fail)
        refine RName_c val (by omega) _ _ ?_
        simp [Heap.set_get, *]
        repeat' (first | refine Keep.go (by assumption) ?_ | refine awp_seq_k fun K hK => ?_ | (refine awp_region ?_; try simp [Heap.set_get, *]) | refine awp_block ?_ | (refine awp_ret ?_; try simp) | (refine awp_skip ?_; try simp) | (refine awp_exit ?_; try simp) | (refine KeepQ.go (by assumption) ?_; try simp [Heap.set_get, *]) | (refine awp_cond' ?_; try simp [Heap.set_get, *]) | refine And.intro (by omega) ?_ | refine And.intro (by assumption) ?_ | refine and_lf (by omega) ?_ | refine and_rf ?_ (by omega) | refine and_imps (fun _ => ?_) (fun _ => ?_) | refine arounds_k fun K hK => ?_ | refine Or.inl ⟨by omega, ?_⟩ | refine Or.inr ⟨by omega, ?_⟩ | refine or_split (fun _ => ?_) (fun _ => ?_) | exact Sub.refl _ | refine imp_in fun _ => ?_ | refine and_ri ?_ (fun _ => ?_) | refine and_li (fun _ => ?_) ?_ | (refine And.intro ?_ ?_; focus (intros; simp [*]; done)) | fail)
        all_goals first
          | contradiction
          | (simp [*]; done)
          | trace_state
      · cases h3 : nameR key
        · simp (maxSteps := 10000000) only [AgainAt, hav, List.contains_cons, List.contains_nil, Bool.or_false, Nat.reduceAdd, Nat.reduceBEq, Bool.or_true, Bool.true_or, Bool.false_or, if_true, if_false, Bool.false_eq_true]
          repeat' (first | refine Keep.go (by assumption) ?_ | refine awp_seq_k fun K hK => ?_ | (refine awp_region ?_; try simp [Heap.set_get, *]) | refine awp_block ?_ | (refine awp_ret ?_; try simp) | (refine awp_skip ?_; try simp) | (refine awp_exit ?_; try simp) | (refine KeepQ.go (by assumption) ?_; try simp [Heap.set_get, *]) | (refine awp_cond' ?_; try simp [Heap.set_get, *]) | refine And.intro (by omega) ?_ | refine And.intro (by assumption) ?_ | refine and_lf (by omega) ?_ | refine and_rf ?_ (by omega) | refine and_imps (fun _ => ?_) (fun _ => ?_) | refine arounds_k fun K hK => ?_ | refine Or.inl ⟨by omega, ?_⟩ | refine Or.inr ⟨by omega, ?_⟩ | refine or_split (fun _ => ?_) (fun _ => ?_) | exact Sub.refl _ | refine imp_in fun _ => ?_ | refine and_ri ?_ (fun _ => ?_) | refine and_li (fun _ => ?_) ?_ | (refine And.intro ?_ ?_; focus (intros; simp [*]; done)) | fail)
          refine awp_region_quiet follows (by kernel_rfl) ?_; simp [Heap.set_get, *]
          repeat' (first | refine Keep.go (by assumption) ?_ | refine awp_seq_k fun K hK => ?_ | (refine awp_region ?_; try simp [Heap.set_get, *]) | refine awp_block ?_ | (refine awp_ret ?_; try simp) | (refine awp_skip ?_; try simp) | (refine awp_exit ?_; try simp) | (refine KeepQ.go (by assumption) ?_; try simp [Heap.set_get, *]) | (refine awp_cond' ?_; try simp [Heap.set_get, *]) | refine And.intro (by omega) ?_ | refine And.intro (by assumption) ?_ | refine and_lf (by omega) ?_ | refine and_rf ?_ (by omega) | refine and_imps (fun _ => ?_) (fun _ => ?_) | refine arounds_k fun K hK => ?_ | refine Or.inl ⟨by omega, ?_⟩ | refine Or.inr ⟨by omega, ?_⟩ | refine or_split (fun _ => ?_) (fun _ => ?_) | exact Sub.refl _ | refine imp_in fun _ => ?_ | refine and_ri ?_ (fun _ => ?_) | refine and_li (fun _ => ?_) ?_ | (refine And.intro ?_ ?_; focus (intros; simp [*]; done)) | fail)
          refine RName_c key (by omega) _ _ ?_
          simp [Heap.set_get, *]
          repeat' (first | refine Keep.go (by assumption) ?_ | refine awp_seq_k fun K hK => ?_ | (refine awp_region ?_; try simp [Heap.set_get, *]) | refine awp_block ?_ | (refine awp_ret ?_; try simp) | (refine awp_skip ?_; try simp) | (refine awp_exit ?_; try simp) | (refine KeepQ.go (by assumption) ?_; try simp [Heap.set_get, *]) | (refine awp_cond' ?_; try simp [Heap.set_get, *]) | refine And.intro (by omega) ?_ | refine And.intro (by assumption) ?_ | refine and_lf (by omega) ?_ | refine and_rf ?_ (by omega) | refine and_imps (fun _ => ?_) (fun _ => ?_) | refine arounds_k fun K hK => ?_ | refine Or.inl ⟨by omega, ?_⟩ | refine Or.inr ⟨by omega, ?_⟩ | refine or_split (fun _ => ?_) (fun _ => ?_) | exact Sub.refl _ | refine imp_in fun _ => ?_ | refine and_ri ?_ (fun _ => ?_) | refine and_li (fun _ => ?_) ?_ | (refine And.intro ?_ ?_; focus (intros; simp [*]; done)) | fail)
          all_goals first
            | contradiction
            | (simp [*]; done)
            | trace_state
        · simp (maxSteps := 10000000) only [AgainAt, hav, List.contains_cons, List.contains_nil, Bool.or_false, Nat.reduceAdd, Nat.reduceBEq, Bool.or_true, Bool.true_or, Bool.false_or, if_true, if_false, Bool.false_eq_true]
          repeat' (first | refine Keep.go (by assumption) ?_ | refine awp_seq_k fun K hK => ?_ | (refine awp_region ?_; try simp [Heap.set_get, *]) | refine awp_block ?_ | (refine awp_ret ?_; try simp) | (refine awp_skip ?_; try simp) | (refine awp_exit ?_; try simp) | (refine KeepQ.go (by assumption) ?_; try simp [Heap.set_get, *]) | (refine awp_cond' ?_; try simp [Heap.set_get, *]) | refine And.intro (by omega) ?_ | refine And.intro (by assumption) ?_ | refine and_lf (by omega) ?_ | refine and_rf ?_ (by omega) | refine and_imps (fun _ => ?_) (fun _ => ?_) | refine arounds_k fun K hK => ?_ | refine Or.inl ⟨by omega, ?_⟩ | refine Or.inr ⟨by omega, ?_⟩ | refine or_split (fun _ => ?_) (fun _ => ?_) | exact Sub.refl _ | refine imp_in fun _ => ?_ | refine and_ri ?_ (fun _ => ?_) | refine and_li (fun _ => ?_) ?_ | (refine And.intro ?_ ?_; focus (intros; simp [*]; done)) | fail)
          refine awp_region_quiet follows (by kernel_rfl) ?_; simp [Heap.set_get, *]
          repeat' (first | refine Keep.go (by assumption) ?_ | refine awp_seq_k fun K hK => ?_ | (refine awp_region ?_; try simp [Heap.set_get, *]) | refine awp_block ?_ | (refine awp_ret ?_; try simp) | (refine awp_skip ?_; try simp) | (refine awp_exit ?_; try simp) | (refine KeepQ.go (by assumption) ?_; try simp [Heap.set_get, *]) | (refine awp_cond' ?_; try simp [Heap.set_get, *]) | refine And.intro (by omega) ?_ | refine And.intro (by assumption) ?_ | refine and_lf (by omega) ?_ | refine and_rf ?_ (by omega) | refine and_imps (fun _ => ?_) (fun _ => ?_) | refine arounds_k fun K hK => ?_ | refine Or.inl ⟨by omega, ?_⟩ | refine Or.inr ⟨by omega, ?_⟩ | refine or_split (fun _ => ?_) (fun _ => ?_) | exact Sub.refl _ | refine imp_in fun _ => ?_ | refine and_ri ?_ (fun _ => ?_) | refine and_li (fun _ => ?_) ?_ | (refine And.intro ?_ ?_; focus (intros; simp [*]; done)) | fail)
          refine RName_c key (by omega) _ _ ?_
          simp [Heap.set_get, *]
          repeat' (first | refine Keep.go (by assumption) ?_ | refine awp_seq_k fun K hK => ?_ | (refine awp_region ?_; try simp [Heap.set_get, *]) | refine awp_block ?_ | (refine awp_ret ?_; try simp) | (refine awp_skip ?_; try simp) | (refine awp_exit ?_; try simp) | (refine KeepQ.go (by assumption) ?_; try simp [Heap.set_get, *]) | (refine awp_cond' ?_; try simp [Heap.set_get, *]) | refine And.intro (by omega) ?_ | refine And.intro (by assumption) ?_ | refine and_lf (by omega) ?_ | refine and_rf ?_ (by omega) | refine and_imps (fun _ => ?_) (fun _ => ?_) | refine arounds_k fun K hK => ?_ | refine Or.inl ⟨by omega, ?_⟩ | refine Or.inr ⟨by omega, ?_⟩ | refine or_split (fun _ => ?_) (fun _ => ?_) | exact Sub.refl _ | refine imp_in fun _ => ?_ | refine and_ri ?_ (fun _ => ?_) | refine and_li (fun _ => ?_) ?_ | (refine And.intro ?_ ?_; focus (intros; simp [*]; done)) | fail)
          refine RName_c val (by omega) _ _ ?_
          simp [Heap.set_get, *]
          repeat' (first | refine Keep.go (by assumption) ?_ | refine awp_seq_k fun K hK => ?_ | (refine awp_region ?_; try simp [Heap.set_get, *]) | refine awp_block ?_ | (refine awp_ret ?_; try simp) | (refine awp_skip ?_; try simp) | (refine awp_exit ?_; try simp) | (refine KeepQ.go (by assumption) ?_; try simp [Heap.set_get, *]) | (refine awp_cond' ?_; try simp [Heap.set_get, *]) | refine And.intro (by omega) ?_ | refine And.intro (by assumption) ?_ | refine and_lf (by omega) ?_ | refine and_rf ?_ (by omega) | refine and_imps (fun _ => ?_) (fun _ => ?_) | refine arounds_k fun K hK => ?_ | refine Or.inl ⟨by omega, ?_⟩ | refine Or.inr ⟨by omega, ?_⟩ | refine or_split (fun _ => ?_) (fun _ => ?_) | exact Sub.refl _ | refine imp_in fun _ => ?_ | refine and_ri ?_ (fun _ => ?_) | refine and_li (fun _ => ?_) ?_ | (refine And.intro ?_ ?_; focus (intros; simp [*]; done)) | fail)
          all_goals first
            | contradiction
            | (simp [*]; done)
            | trace_state
    · have hv : ¬ ((text[i].toNat : Int)) = 9 := fun e => he (UInt8.toNat_inj.1 (by simpa using (by omega : text[i].toNat = 9)))
      simp (maxSteps := 10000000) only [AgainAt, hav, List.contains_cons, List.contains_nil, Bool.or_false, Nat.reduceAdd, Nat.reduceBEq, Bool.or_true, Bool.true_or, Bool.false_or, if_true, if_false, Bool.false_eq_true]
      repeat' (first | refine Keep.go (by assumption) ?_ | refine awp_seq_k fun K hK => ?_ | (refine awp_region ?_; try simp [Heap.set_get, *]) | refine awp_block ?_ | (refine awp_ret ?_; try simp) | (refine awp_skip ?_; try simp) | (refine awp_exit ?_; try simp) | (refine KeepQ.go (by assumption) ?_; try simp [Heap.set_get, *]) | (refine awp_cond' ?_; try simp [Heap.set_get, *]) | refine And.intro (by omega) ?_ | refine And.intro (by assumption) ?_ | refine and_lf (by omega) ?_ | refine and_rf ?_ (by omega) | refine and_imps (fun _ => ?_) (fun _ => ?_) | refine arounds_k fun K hK => ?_ | refine Or.inl ⟨by omega, ?_⟩ | refine Or.inr ⟨by omega, ?_⟩ | refine or_split (fun _ => ?_) (fun _ => ?_) | exact Sub.refl _ | refine imp_in fun _ => ?_ | refine and_ri ?_ (fun _ => ?_) | refine and_li (fun _ => ?_) ?_ | (refine And.intro ?_ ?_; focus (intros; simp [*]; done)) | fail)
      all_goals first
        | exact ⟨by simp [hav], rfl, text.length - (i + 1), _, by omega, Sub.refl _, i + 1, by omega, rfl, by simp, fun j hj hji => by
            by_cases e : j < i
            · exact hn j hj e
            · have : j = i := by omega
              subst this; exact he, rfl⟩
        | trace_state
  · have hp := pair_none (text := text) fun j hj => hn j hj (by omega)
    simp (maxSteps := 10000000) only [AgainAt, hav, List.contains_cons, List.contains_nil, Bool.or_false, Nat.reduceAdd, Nat.reduceBEq, Bool.or_true, Bool.true_or, Bool.false_or, if_true, if_false, Bool.false_eq_true]
    repeat' (first | refine Keep.go (by assumption) ?_ | refine awp_seq_k fun K hK => ?_ | (refine awp_region ?_; try simp [Heap.set_get, *]) | refine awp_block ?_ | (refine awp_ret ?_; try simp) | (refine awp_skip ?_; try simp) | (refine awp_exit ?_; try simp) | (refine KeepQ.go (by assumption) ?_; try simp [Heap.set_get, *]) | (refine awp_cond' ?_; try simp [Heap.set_get, *]) | refine And.intro (by omega) ?_ | refine And.intro (by assumption) ?_ | refine and_lf (by omega) ?_ | refine and_rf ?_ (by omega) | refine and_imps (fun _ => ?_) (fun _ => ?_) | refine arounds_k fun K hK => ?_ | refine Or.inl ⟨by omega, ?_⟩ | refine Or.inr ⟨by omega, ?_⟩ | refine or_split (fun _ => ?_) (fun _ => ?_) | exact Sub.refl _ | refine imp_in fun _ => ?_ | refine and_ri ?_ (fun _ => ?_) | refine and_li (fun _ => ?_) ?_ | (refine And.intro ?_ ?_; focus (intros; simp [*]; done)) | fail)
    all_goals first
      | exact ⟨hp.symm, hsb _⟩
      | trace_state
end Go.Proofs.YtmnkalojpefclaaDoor
