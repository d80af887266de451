import Derived.Test.YtmnkalojpefclaaDoorK
import Derived.Test.YtmnkalojpefclaaDoorAL14
set_option linter.unusedSimpArgs false
set_option linter.unusedVariables false
namespace Go.Proofs.YtmnkalojpefclaaDoor
open Go Go.AL Go.Proofs
theorem flat_map1 {A : Type} (f : A → AV) : ∀ l : List A, (l.map fun a => [f a]).flatten = l.map f
  | [] => rfl
  | a :: l => by simp [flat_map1 f l]
set_option maxRecDepth 100000 in
theorem CloneI_c (l : List Int) (hl : l.length ≤ 281474976710) (h : Heap) (R : AV → Heap → Prop)
    (h0 : l = [] → ∀ tok, tok = .nil ∨ tok = .full → R (.list 1 [] tok) h) (h1 : l ≠ [] → ∀ b c, h b = none → l.length ≤ c → R (.arr b 0 l.length c) (h.set b (.cells (l.map (AV.int .i64) ++ List.replicate (c - l.length) .any)))) :
    ACalls Tryd.prog 36 [.list 1 (ints l) .no] h R := by
  cases l with
  | nil =>
    refine acalls_of Tryd.func36 rfl Tryd.ntmps36 (congrArg Array.toList Tryd.results36) fun Q hQ => ?_
    repeat' (first | refine Keep.go (by assumption) ?_ | refine awp_seq_k fun K hK => ?_ | (refine awp_region ?_; try simp [Heap.set_get, *]) | refine awp_block ?_ | (refine awp_ret ?_; try simp) | (refine awp_skip ?_; try simp) | (refine awp_exit ?_; try simp) | (refine KeepQ.go (by assumption) ?_; try simp [Heap.set_get, *]) | (refine awp_cond' ?_; try simp [Heap.set_get, *]) | refine And.intro (by omega) ?_ | refine And.intro (by assumption) ?_ | refine and_lf (by omega) ?_ | refine and_rf ?_ (by omega) | refine and_imps (fun _ => ?_) (fun _ => ?_) | refine arounds_k fun K hK => ?_ | refine Or.inl ⟨by omega, ?_⟩ | refine Or.inr ⟨by omega, ?_⟩ | refine or_split (fun _ => ?_) (fun _ => ?_) | exact Sub.refl _ | refine imp_in fun _ => ?_ | refine and_ri ?_ (fun _ => ?_) | refine and_li (fun _ => ?_) ?_ | (refine And.intro ?_ ?_; focus (intros; simp [*]; done)) | fail)
    intro b hb
    cases b
    · simp [Heap.set_get, *]
      repeat' (first | refine Keep.go (by assumption) ?_ | refine awp_seq_k fun K hK => ?_ | (refine awp_region ?_; try simp [Heap.set_get, *]) | refine awp_block ?_ | (refine awp_ret ?_; try simp) | (refine awp_skip ?_; try simp) | (refine awp_exit ?_; try simp) | (refine KeepQ.go (by assumption) ?_; try simp [Heap.set_get, *]) | (refine awp_cond' ?_; try simp [Heap.set_get, *]) | refine And.intro (by omega) ?_ | refine And.intro (by assumption) ?_ | refine and_lf (by omega) ?_ | refine and_rf ?_ (by omega) | refine and_imps (fun _ => ?_) (fun _ => ?_) | refine arounds_k fun K hK => ?_ | refine Or.inl ⟨by omega, ?_⟩ | refine Or.inr ⟨by omega, ?_⟩ | refine or_split (fun _ => ?_) (fun _ => ?_) | exact Sub.refl _ | refine imp_in fun _ => ?_ | refine and_ri ?_ (fun _ => ?_) | refine and_li (fun _ => ?_) ?_ | (refine And.intro ?_ ?_; focus (intros; simp [*]; done)) | fail)
    · simp [Heap.set_get, *]
      repeat' (first | refine Keep.go (by assumption) ?_ | refine awp_seq_k fun K hK => ?_ | (refine awp_region ?_; try simp [Heap.set_get, *]) | refine awp_block ?_ | (refine awp_ret ?_; try simp) | (refine awp_skip ?_; try simp) | (refine awp_exit ?_; try simp) | (refine KeepQ.go (by assumption) ?_; try simp [Heap.set_get, *]) | (refine awp_cond' ?_; try simp [Heap.set_get, *]) | refine And.intro (by omega) ?_ | refine And.intro (by assumption) ?_ | refine and_lf (by omega) ?_ | refine and_rf ?_ (by omega) | refine and_imps (fun _ => ?_) (fun _ => ?_) | refine arounds_k fun K hK => ?_ | refine Or.inl ⟨by omega, ?_⟩ | refine Or.inr ⟨by omega, ?_⟩ | refine or_split (fun _ => ?_) (fun _ => ?_) | exact Sub.refl _ | refine imp_in fun _ => ?_ | refine and_ri ?_ (fun _ => ?_) | refine and_li (fun _ => ?_) ?_ | (refine And.intro ?_ ?_; focus (intros; simp [*]; done)) | fail)
  | cons a l =>
    simp only [List.length_cons] at hl
    refine acalls_of Tryd.func36 rfl Tryd.ntmps36 (congrArg Array.toList Tryd.results36) fun Q hQ => ?_
    repeat' (first | refine Keep.go (by assumption) ?_ | refine awp_seq_k fun K hK => ?_ | (refine awp_region ?_; try simp [Heap.set_get, *]) | refine awp_block ?_ | (refine awp_ret ?_; try simp) | (refine awp_skip ?_; try simp) | (refine awp_exit ?_; try simp) | (refine KeepQ.go (by assumption) ?_; try simp [Heap.set_get, *]) | (refine awp_cond' ?_; try simp [Heap.set_get, *]) | refine And.intro (by omega) ?_ | refine And.intro (by assumption) ?_ | refine and_lf (by omega) ?_ | refine and_rf ?_ (by omega) | refine and_imps (fun _ => ?_) (fun _ => ?_) | refine arounds_k fun K hK => ?_ | refine Or.inl ⟨by omega, ?_⟩ | refine Or.inr ⟨by omega, ?_⟩ | refine or_split (fun _ => ?_) (fun _ => ?_) | exact Sub.refl _ | refine imp_in fun _ => ?_ | refine and_ri ?_ (fun _ => ?_) | refine and_li (fun _ => ?_) ?_ | (refine And.intro ?_ ?_; focus (intros; simp [*]; done)) | fail)
    intro b hb
    cases b
    · simp [Heap.set_get, *]
      repeat' (first | refine Keep.go (by assumption) ?_ | refine awp_seq_k fun K hK => ?_ | (refine awp_region ?_; try simp [Heap.set_get, *]) | refine awp_block ?_ | (refine awp_ret ?_; try simp) | (refine awp_skip ?_; try simp) | (refine awp_exit ?_; try simp) | (refine KeepQ.go (by assumption) ?_; try simp [Heap.set_get, *]) | (refine awp_cond' ?_; try simp [Heap.set_get, *]) | refine And.intro (by omega) ?_ | refine And.intro (by assumption) ?_ | refine and_lf (by omega) ?_ | refine and_rf ?_ (by omega) | refine and_imps (fun _ => ?_) (fun _ => ?_) | refine arounds_k fun K hK => ?_ | refine Or.inl ⟨by omega, ?_⟩ | refine Or.inr ⟨by omega, ?_⟩ | refine or_split (fun _ => ?_) (fun _ => ?_) | exact Sub.refl _ | refine imp_in fun _ => ?_ | refine and_ri ?_ (fun _ => ?_) | refine and_li (fun _ => ?_) ?_ | (refine And.intro ?_ ?_; focus (intros; simp [*]; done)) | fail)
      refine .inr ⟨.inr rfl, fun b c hb hc => ?_⟩
      have hb' : h b = none := hb
      have hfl := flat_map1 (AV.int .i64) l
      have := h1 (by simp) b c hb' (by simpa using hc)
      simp only [List.map_cons, List.length_cons, List.cons_append] at this
      simp [Heap.set_get, hfl]
      repeat' (first | refine Keep.go (by assumption) ?_ | refine awp_seq_k fun K hK => ?_ | (refine awp_region ?_; try simp [Heap.set_get, *]) | refine awp_block ?_ | (refine awp_ret ?_; try simp) | (refine awp_skip ?_; try simp) | (refine awp_exit ?_; try simp) | (refine KeepQ.go (by assumption) ?_; try simp [Heap.set_get, *]) | (refine awp_cond' ?_; try simp [Heap.set_get, *]) | refine And.intro (by omega) ?_ | refine And.intro (by assumption) ?_ | refine and_lf (by omega) ?_ | refine and_rf ?_ (by omega) | refine and_imps (fun _ => ?_) (fun _ => ?_) | refine arounds_k fun K hK => ?_ | refine Or.inl ⟨by omega, ?_⟩ | refine Or.inr ⟨by omega, ?_⟩ | refine or_split (fun _ => ?_) (fun _ => ?_) | exact Sub.refl _ | refine imp_in fun _ => ?_ | refine and_ri ?_ (fun _ => ?_) | refine and_li (fun _ => ?_) ?_ | (refine And.intro ?_ ?_; focus (intros; simp [*]; done)) | fail)
      all_goals first
        | exact this
        | trace_state
    · exact absurd (hb rfl) (by simp)
set_option maxRecDepth 100000 in
theorem ClipI_c (b n c : Nat) (hc : n ≤ c) (hc2 : n ≤ 9223372036854775807) (h : Heap) (R : AV → Heap → Prop) (hR : R (.arr b 0 n n) h) :
    ACalls Tryd.prog 57 [.arr b 0 n c] h R := by
  refine acalls_of Tryd.func57 rfl Tryd.ntmps57 (congrArg Array.toList Tryd.results57) fun Q hQ => ?_
  repeat' (first | refine Keep.go (by assumption) ?_ | refine awp_seq_k fun K hK => ?_ | (refine awp_region ?_; try simp [Heap.set_get, *]) | refine awp_block ?_ | (refine awp_ret ?_; try simp) | (refine awp_skip ?_; try simp) | (refine awp_exit ?_; try simp) | (refine KeepQ.go (by assumption) ?_; try simp [Heap.set_get, *]) | (refine awp_cond' ?_; try simp [Heap.set_get, *]) | refine And.intro (by omega) ?_ | refine And.intro (by assumption) ?_ | refine and_lf (by omega) ?_ | refine and_rf ?_ (by omega) | refine and_imps (fun _ => ?_) (fun _ => ?_) | refine arounds_k fun K hK => ?_ | refine Or.inl ⟨by omega, ?_⟩ | refine Or.inr ⟨by omega, ?_⟩ | refine or_split (fun _ => ?_) (fun _ => ?_) | exact Sub.refl _ | refine imp_in fun _ => ?_ | refine and_ri ?_ (fun _ => ?_) | refine and_li (fun _ => ?_) ?_ | (refine And.intro ?_ ?_; focus (intros; simp [*]; done)) | fail)
  all_goals exact hR
theorem ClipIL_c (tok : Tok) (h : Heap) (R : AV → Heap → Prop) (hR : R (.list 1 [] .full) h) :
    ACalls Tryd.prog 57 [.list 1 [] tok] h R := by
  refine acalls_of Tryd.func57 rfl Tryd.ntmps57 (congrArg Array.toList Tryd.results57) fun Q hQ => ?_
  repeat' (first | refine Keep.go (by assumption) ?_ | refine awp_seq_k fun K hK => ?_ | (refine awp_region ?_; try simp [Heap.set_get, *]) | refine awp_block ?_ | (refine awp_ret ?_; try simp) | (refine awp_skip ?_; try simp) | (refine awp_exit ?_; try simp) | (refine KeepQ.go (by assumption) ?_; try simp [Heap.set_get, *]) | (refine awp_cond' ?_; try simp [Heap.set_get, *]) | refine And.intro (by omega) ?_ | refine And.intro (by assumption) ?_ | refine and_lf (by omega) ?_ | refine and_rf ?_ (by omega) | refine and_imps (fun _ => ?_) (fun _ => ?_) | refine arounds_k fun K hK => ?_ | refine Or.inl ⟨by omega, ?_⟩ | refine Or.inr ⟨by omega, ?_⟩ | refine or_split (fun _ => ?_) (fun _ => ?_) | exact Sub.refl _ | refine imp_in fun _ => ?_ | refine and_ri ?_ (fun _ => ?_) | refine and_li (fun _ => ?_) ?_ | (refine And.intro ?_ ?_; focus (intros; simp [*]; done)) | fail)
  all_goals exact hR
/-- A list of its own, that may be written. -/
theorem ownI_c (l : List Int) (hl : l.length ≤ 281474976710) (h : Heap) (R : AV → Heap → Prop)
    (h0 : l = [] → R (.list 1 [] .full) h) (h1 : l ≠ [] → ∀ b c, h b = none → l.length ≤ c → R (.arr b 0 l.length l.length) (h.set b (.cells (l.map (AV.int .i64) ++ List.replicate (c - l.length) .any)))) :
    ACalls Tryd.prog 45 [.list 1 (ints l) .no] h R := by
  refine acalls_of Tryd.func45 rfl Tryd.ntmps45 (congrArg Array.toList Tryd.results45) fun Q hQ => ?_
  repeat' (first | refine Keep.go (by assumption) ?_ | refine awp_seq_k fun K hK => ?_ | (refine awp_region ?_; try simp [Heap.set_get, *]) | refine awp_block ?_ | (refine awp_ret ?_; try simp) | (refine awp_skip ?_; try simp) | (refine awp_exit ?_; try simp) | (refine KeepQ.go (by assumption) ?_; try simp [Heap.set_get, *]) | (refine awp_cond' ?_; try simp [Heap.set_get, *]) | refine And.intro (by omega) ?_ | refine And.intro (by assumption) ?_ | refine and_lf (by omega) ?_ | refine and_rf ?_ (by omega) | refine and_imps (fun _ => ?_) (fun _ => ?_) | refine arounds_k fun K hK => ?_ | refine Or.inl ⟨by omega, ?_⟩ | refine Or.inr ⟨by omega, ?_⟩ | refine or_split (fun _ => ?_) (fun _ => ?_) | exact Sub.refl _ | refine imp_in fun _ => ?_ | refine and_ri ?_ (fun _ => ?_) | refine and_li (fun _ => ?_) ?_ | (refine And.intro ?_ ?_; focus (intros; simp [*]; done)) | fail)
  refine CloneI_c l hl _ _ (fun e tok _ => ?_) (fun e b c hb hc => ?_)
  · simp [Heap.set_get, *]
    refine ClipIL_c _ _ _ ?_
    simp [Heap.set_get, *]
    repeat' (first | refine Keep.go (by assumption) ?_ | refine awp_seq_k fun K hK => ?_ | (refine awp_region ?_; try simp [Heap.set_get, *]) | refine awp_block ?_ | (refine awp_ret ?_; try simp) | (refine awp_skip ?_; try simp) | (refine awp_exit ?_; try simp) | (refine KeepQ.go (by assumption) ?_; try simp [Heap.set_get, *]) | (refine awp_cond' ?_; try simp [Heap.set_get, *]) | refine And.intro (by omega) ?_ | refine And.intro (by assumption) ?_ | refine and_lf (by omega) ?_ | refine and_rf ?_ (by omega) | refine and_imps (fun _ => ?_) (fun _ => ?_) | refine arounds_k fun K hK => ?_ | refine Or.inl ⟨by omega, ?_⟩ | refine Or.inr ⟨by omega, ?_⟩ | refine or_split (fun _ => ?_) (fun _ => ?_) | exact Sub.refl _ | refine imp_in fun _ => ?_ | refine and_ri ?_ (fun _ => ?_) | refine and_li (fun _ => ?_) ?_ | (refine And.intro ?_ ?_; focus (intros; simp [*]; done)) | fail)
    all_goals exact h0 e
  · simp [Heap.set_get, *]
    refine ClipI_c _ _ _ hc (by omega) _ _ ?_
    simp [Heap.set_get, *]
    repeat' (first | refine Keep.go (by assumption) ?_ | refine awp_seq_k fun K hK => ?_ | (refine awp_region ?_; try simp [Heap.set_get, *]) | refine awp_block ?_ | (refine awp_ret ?_; try simp) | (refine awp_skip ?_; try simp) | (refine awp_exit ?_; try simp) | (refine KeepQ.go (by assumption) ?_; try simp [Heap.set_get, *]) | (refine awp_cond' ?_; try simp [Heap.set_get, *]) | refine And.intro (by omega) ?_ | refine And.intro (by assumption) ?_ | refine and_lf (by omega) ?_ | refine and_rf ?_ (by omega) | refine and_imps (fun _ => ?_) (fun _ => ?_) | refine arounds_k fun K hK => ?_ | refine Or.inl ⟨by omega, ?_⟩ | refine Or.inr ⟨by omega, ?_⟩ | refine or_split (fun _ => ?_) (fun _ => ?_) | exact Sub.refl _ | refine imp_in fun _ => ?_ | refine and_ri ?_ (fun _ => ?_) | refine and_li (fun _ => ?_) ?_ | (refine And.intro ?_ ?_; focus (intros; simp [*]; done)) | fail)
    all_goals exact h1 e b c hb hc
set_option maxRecDepth 100000 in
theorem CloneN_c (l : List Nd) (hl : l.length ≤ 1048576) (h : Heap) (R : AV → Heap → Prop)
    (h0 : l = [] → ∀ tok, tok = .nil ∨ tok = .full → R (.list 5 [] tok) h) (h1 : l ≠ [] → ∀ b c, h b = none → l.length ≤ c → R (.arr b 0 l.length c) (h.set b (.cells ((l.map row).flatten ++ List.replicate ((c - l.length) * 5) .any)))) :
    ACalls Tryd.prog 56 [.list 5 (l.map row) .no] h R := by
  cases l with
  | nil =>
    refine acalls_of Tryd.func56 rfl Tryd.ntmps56 (congrArg Array.toList Tryd.results56) fun Q hQ => ?_
    repeat' (first | refine Keep.go (by assumption) ?_ | refine awp_seq_k fun K hK => ?_ | (refine awp_region ?_; try simp [Heap.set_get, *]) | refine awp_block ?_ | (refine awp_ret ?_; try simp) | (refine awp_skip ?_; try simp) | (refine awp_exit ?_; try simp) | (refine KeepQ.go (by assumption) ?_; try simp [Heap.set_get, *]) | (refine awp_cond' ?_; try simp [Heap.set_get, *]) | refine And.intro (by omega) ?_ | refine And.intro (by assumption) ?_ | refine and_lf (by omega) ?_ | refine and_rf ?_ (by omega) | refine and_imps (fun _ => ?_) (fun _ => ?_) | refine arounds_k fun K hK => ?_ | refine Or.inl ⟨by omega, ?_⟩ | refine Or.inr ⟨by omega, ?_⟩ | refine or_split (fun _ => ?_) (fun _ => ?_) | exact Sub.refl _ | refine imp_in fun _ => ?_ | refine and_ri ?_ (fun _ => ?_) | refine and_li (fun _ => ?_) ?_ | (refine And.intro ?_ ?_; focus (intros; simp [*]; done)) | fail)
    intro b hb
    cases b
    · simp [Heap.set_get, *]
      repeat' (first | refine Keep.go (by assumption) ?_ | refine awp_seq_k fun K hK => ?_ | (refine awp_region ?_; try simp [Heap.set_get, *]) | refine awp_block ?_ | (refine awp_ret ?_; try simp) | (refine awp_skip ?_; try simp) | (refine awp_exit ?_; try simp) | (refine KeepQ.go (by assumption) ?_; try simp [Heap.set_get, *]) | (refine awp_cond' ?_; try simp [Heap.set_get, *]) | refine And.intro (by omega) ?_ | refine And.intro (by assumption) ?_ | refine and_lf (by omega) ?_ | refine and_rf ?_ (by omega) | refine and_imps (fun _ => ?_) (fun _ => ?_) | refine arounds_k fun K hK => ?_ | refine Or.inl ⟨by omega, ?_⟩ | refine Or.inr ⟨by omega, ?_⟩ | refine or_split (fun _ => ?_) (fun _ => ?_) | exact Sub.refl _ | refine imp_in fun _ => ?_ | refine and_ri ?_ (fun _ => ?_) | refine and_li (fun _ => ?_) ?_ | (refine And.intro ?_ ?_; focus (intros; simp [*]; done)) | fail)
    · simp [Heap.set_get, *]
      repeat' (first | refine Keep.go (by assumption) ?_ | refine awp_seq_k fun K hK => ?_ | (refine awp_region ?_; try simp [Heap.set_get, *]) | refine awp_block ?_ | (refine awp_ret ?_; try simp) | (refine awp_skip ?_; try simp) | (refine awp_exit ?_; try simp) | (refine KeepQ.go (by assumption) ?_; try simp [Heap.set_get, *]) | (refine awp_cond' ?_; try simp [Heap.set_get, *]) | refine And.intro (by omega) ?_ | refine And.intro (by assumption) ?_ | refine and_lf (by omega) ?_ | refine and_rf ?_ (by omega) | refine and_imps (fun _ => ?_) (fun _ => ?_) | refine arounds_k fun K hK => ?_ | refine Or.inl ⟨by omega, ?_⟩ | refine Or.inr ⟨by omega, ?_⟩ | refine or_split (fun _ => ?_) (fun _ => ?_) | exact Sub.refl _ | refine imp_in fun _ => ?_ | refine and_ri ?_ (fun _ => ?_) | refine and_li (fun _ => ?_) ?_ | (refine And.intro ?_ ?_; focus (intros; simp [*]; done)) | fail)
  | cons a l =>
    simp only [List.length_cons] at hl
    refine acalls_of Tryd.func56 rfl Tryd.ntmps56 (congrArg Array.toList Tryd.results56) fun Q hQ => ?_
    repeat' (first | refine Keep.go (by assumption) ?_ | refine awp_seq_k fun K hK => ?_ | (refine awp_region ?_; try simp [Heap.set_get, *]) | refine awp_block ?_ | (refine awp_ret ?_; try simp) | (refine awp_skip ?_; try simp) | (refine awp_exit ?_; try simp) | (refine KeepQ.go (by assumption) ?_; try simp [Heap.set_get, *]) | (refine awp_cond' ?_; try simp [Heap.set_get, *]) | refine And.intro (by omega) ?_ | refine And.intro (by assumption) ?_ | refine and_lf (by omega) ?_ | refine and_rf ?_ (by omega) | refine and_imps (fun _ => ?_) (fun _ => ?_) | refine arounds_k fun K hK => ?_ | refine Or.inl ⟨by omega, ?_⟩ | refine Or.inr ⟨by omega, ?_⟩ | refine or_split (fun _ => ?_) (fun _ => ?_) | exact Sub.refl _ | refine imp_in fun _ => ?_ | refine and_ri ?_ (fun _ => ?_) | refine and_li (fun _ => ?_) ?_ | (refine And.intro ?_ ?_; focus (intros; simp [*]; done)) | fail)
    intro b hb
    cases b
    · simp [Heap.set_get, *]
      repeat' (first | refine Keep.go (by assumption) ?_ | refine awp_seq_k fun K hK => ?_ | (refine awp_region ?_; try simp [Heap.set_get, *]) | refine awp_block ?_ | (refine awp_ret ?_; try simp) | (refine awp_skip ?_; try simp) | (refine awp_exit ?_; try simp) | (refine KeepQ.go (by assumption) ?_; try simp [Heap.set_get, *]) | (refine awp_cond' ?_; try simp [Heap.set_get, *]) | refine And.intro (by omega) ?_ | refine And.intro (by assumption) ?_ | refine and_lf (by omega) ?_ | refine and_rf ?_ (by omega) | refine and_imps (fun _ => ?_) (fun _ => ?_) | refine arounds_k fun K hK => ?_ | refine Or.inl ⟨by omega, ?_⟩ | refine Or.inr ⟨by omega, ?_⟩ | refine or_split (fun _ => ?_) (fun _ => ?_) | exact Sub.refl _ | refine imp_in fun _ => ?_ | refine and_ri ?_ (fun _ => ?_) | refine and_li (fun _ => ?_) ?_ | (refine And.intro ?_ ?_; focus (intros; simp [*]; done)) | fail)
      refine .inr ⟨.inr rfl, fun b c hb hc => ?_⟩
      have hb' : h b = none := hb
      have := h1 (by simp) b c hb' (by simpa using hc)
      simp only [List.map_cons, List.length_cons, List.flatten_cons, List.cons_append, List.nil_append] at this
      simp [Heap.set_get, *]
      repeat' (first | refine Keep.go (by assumption) ?_ | refine awp_seq_k fun K hK => ?_ | (refine awp_region ?_; try simp [Heap.set_get, *]) | refine awp_block ?_ | (refine awp_ret ?_; try simp) | (refine awp_skip ?_; try simp) | (refine awp_exit ?_; try simp) | (refine KeepQ.go (by assumption) ?_; try simp [Heap.set_get, *]) | (refine awp_cond' ?_; try simp [Heap.set_get, *]) | refine And.intro (by omega) ?_ | refine And.intro (by assumption) ?_ | refine and_lf (by omega) ?_ | refine and_rf ?_ (by omega) | refine and_imps (fun _ => ?_) (fun _ => ?_) | refine arounds_k fun K hK => ?_ | refine Or.inl ⟨by omega, ?_⟩ | refine Or.inr ⟨by omega, ?_⟩ | refine or_split (fun _ => ?_) (fun _ => ?_) | exact Sub.refl _ | refine imp_in fun _ => ?_ | refine and_ri ?_ (fun _ => ?_) | refine and_li (fun _ => ?_) ?_ | (refine And.intro ?_ ?_; focus (intros; simp [*]; done)) | fail)
      all_goals first
        | exact this
        | trace_state
    · exact absurd (hb rfl) (by simp)
set_option maxRecDepth 100000 in
theorem ClipN_c (b n c : Nat) (hc : n ≤ c) (hc2 : n ≤ 9223372036854775807) (h : Heap) (R : AV → Heap → Prop) (hR : R (.arr b 0 n n) h) :
    ACalls Tryd.prog 55 [.arr b 0 n c] h R := by
  refine acalls_of Tryd.func55 rfl Tryd.ntmps55 (congrArg Array.toList Tryd.results55) fun Q hQ => ?_
  repeat' (first | refine Keep.go (by assumption) ?_ | refine awp_seq_k fun K hK => ?_ | (refine awp_region ?_; try simp [Heap.set_get, *]) | refine awp_block ?_ | (refine awp_ret ?_; try simp) | (refine awp_skip ?_; try simp) | (refine awp_exit ?_; try simp) | (refine KeepQ.go (by assumption) ?_; try simp [Heap.set_get, *]) | (refine awp_cond' ?_; try simp [Heap.set_get, *]) | refine And.intro (by omega) ?_ | refine And.intro (by assumption) ?_ | refine and_lf (by omega) ?_ | refine and_rf ?_ (by omega) | refine and_imps (fun _ => ?_) (fun _ => ?_) | refine arounds_k fun K hK => ?_ | refine Or.inl ⟨by omega, ?_⟩ | refine Or.inr ⟨by omega, ?_⟩ | refine or_split (fun _ => ?_) (fun _ => ?_) | exact Sub.refl _ | refine imp_in fun _ => ?_ | refine and_ri ?_ (fun _ => ?_) | refine and_li (fun _ => ?_) ?_ | (refine And.intro ?_ ?_; focus (intros; simp [*]; done)) | fail)
  all_goals exact hR
theorem ClipNL_c (tok : Tok) (h : Heap) (R : AV → Heap → Prop) (hR : R (.list 5 [] .full) h) :
    ACalls Tryd.prog 55 [.list 5 [] tok] h R := by
  refine acalls_of Tryd.func55 rfl Tryd.ntmps55 (congrArg Array.toList Tryd.results55) fun Q hQ => ?_
  repeat' (first | refine Keep.go (by assumption) ?_ | refine awp_seq_k fun K hK => ?_ | (refine awp_region ?_; try simp [Heap.set_get, *]) | refine awp_block ?_ | (refine awp_ret ?_; try simp) | (refine awp_skip ?_; try simp) | (refine awp_exit ?_; try simp) | (refine KeepQ.go (by assumption) ?_; try simp [Heap.set_get, *]) | (refine awp_cond' ?_; try simp [Heap.set_get, *]) | refine And.intro (by omega) ?_ | refine And.intro (by assumption) ?_ | refine and_lf (by omega) ?_ | refine and_rf ?_ (by omega) | refine and_imps (fun _ => ?_) (fun _ => ?_) | refine arounds_k fun K hK => ?_ | refine Or.inl ⟨by omega, ?_⟩ | refine Or.inr ⟨by omega, ?_⟩ | refine or_split (fun _ => ?_) (fun _ => ?_) | exact Sub.refl _ | refine imp_in fun _ => ?_ | refine and_ri ?_ (fun _ => ?_) | refine and_li (fun _ => ?_) ?_ | (refine And.intro ?_ ?_; focus (intros; simp [*]; done)) | fail)
  all_goals exact hR
theorem ownN_c (l : List Nd) (hl : l.length ≤ 1048576) (h : Heap) (R : AV → Heap → Prop)
    (h0 : l = [] → R (.list 5 [] .full) h) (h1 : l ≠ [] → ∀ b c, h b = none → l.length ≤ c → R (.arr b 0 l.length l.length) (h.set b (.cells ((l.map row).flatten ++ List.replicate ((c - l.length) * 5) .any)))) :
    ACalls Tryd.prog 44 [.list 5 (l.map row) .no] h R := by
  refine acalls_of Tryd.func44 rfl Tryd.ntmps44 (congrArg Array.toList Tryd.results44) fun Q hQ => ?_
  repeat' (first | refine Keep.go (by assumption) ?_ | refine awp_seq_k fun K hK => ?_ | (refine awp_region ?_; try simp [Heap.set_get, *]) | refine awp_block ?_ | (refine awp_ret ?_; try simp) | (refine awp_skip ?_; try simp) | (refine awp_exit ?_; try simp) | (refine KeepQ.go (by assumption) ?_; try simp [Heap.set_get, *]) | (refine awp_cond' ?_; try simp [Heap.set_get, *]) | refine And.intro (by omega) ?_ | refine And.intro (by assumption) ?_ | refine and_lf (by omega) ?_ | refine and_rf ?_ (by omega) | refine and_imps (fun _ => ?_) (fun _ => ?_) | refine arounds_k fun K hK => ?_ | refine Or.inl ⟨by omega, ?_⟩ | refine Or.inr ⟨by omega, ?_⟩ | refine or_split (fun _ => ?_) (fun _ => ?_) | exact Sub.refl _ | refine imp_in fun _ => ?_ | refine and_ri ?_ (fun _ => ?_) | refine and_li (fun _ => ?_) ?_ | (refine And.intro ?_ ?_; focus (intros; simp [*]; done)) | fail)
  refine CloneN_c l hl _ _ (fun e tok _ => ?_) (fun e b c hb hc => ?_)
  · simp [Heap.set_get, *]
    refine ClipNL_c _ _ _ ?_
    simp [Heap.set_get, *]
    repeat' (first | refine Keep.go (by assumption) ?_ | refine awp_seq_k fun K hK => ?_ | (refine awp_region ?_; try simp [Heap.set_get, *]) | refine awp_block ?_ | (refine awp_ret ?_; try simp) | (refine awp_skip ?_; try simp) | (refine awp_exit ?_; try simp) | (refine KeepQ.go (by assumption) ?_; try simp [Heap.set_get, *]) | (refine awp_cond' ?_; try simp [Heap.set_get, *]) | refine And.intro (by omega) ?_ | refine And.intro (by assumption) ?_ | refine and_lf (by omega) ?_ | refine and_rf ?_ (by omega) | refine and_imps (fun _ => ?_) (fun _ => ?_) | refine arounds_k fun K hK => ?_ | refine Or.inl ⟨by omega, ?_⟩ | refine Or.inr ⟨by omega, ?_⟩ | refine or_split (fun _ => ?_) (fun _ => ?_) | exact Sub.refl _ | refine imp_in fun _ => ?_ | refine and_ri ?_ (fun _ => ?_) | refine and_li (fun _ => ?_) ?_ | (refine And.intro ?_ ?_; focus (intros; simp [*]; done)) | fail)
    all_goals exact h0 e
  · simp [Heap.set_get, *]
    refine ClipN_c _ _ _ hc (by omega) _ _ ?_
    simp [Heap.set_get, *]
    repeat' (first | refine Keep.go (by assumption) ?_ | refine awp_seq_k fun K hK => ?_ | (refine awp_region ?_; try simp [Heap.set_get, *]) | refine awp_block ?_ | (refine awp_ret ?_; try simp) | (refine awp_skip ?_; try simp) | (refine awp_exit ?_; try simp) | (refine KeepQ.go (by assumption) ?_; try simp [Heap.set_get, *]) | (refine awp_cond' ?_; try simp [Heap.set_get, *]) | refine And.intro (by omega) ?_ | refine And.intro (by assumption) ?_ | refine and_lf (by omega) ?_ | refine and_rf ?_ (by omega) | refine and_imps (fun _ => ?_) (fun _ => ?_) | refine arounds_k fun K hK => ?_ | refine Or.inl ⟨by omega, ?_⟩ | refine Or.inr ⟨by omega, ?_⟩ | refine or_split (fun _ => ?_) (fun _ => ?_) | exact Sub.refl _ | refine imp_in fun _ => ?_ | refine and_ri ?_ (fun _ => ?_) | refine and_li (fun _ => ?_) ?_ | (refine And.intro ?_ ?_; focus (intros; simp [*]; done)) | fail)
    all_goals exact h1 e b c hb hc
theorem Root_c (l : List Nd) (t : Tok) (hl : l.length ≤ 1048576) (h : Heap) (R : AV → Heap → Prop) (hR : R (.int .i64 (l.length - 1 : Int)) h) :
    ACalls Tryd.prog 27 [treeAV l t] h R := by
  refine ACalls.pure ?_ hR
  have w1 : IntKind.i64.wrap ((l.length : Int) - 1) = l.length - 1 := w64 (by omega) (by omega)
  refine acalls_of Tryd.func27 rfl Tryd.ntmps27 (congrArg Array.toList Tryd.results27) fun Q hQ => ?_
  repeat' (first | refine Keep.go (by assumption) ?_ | refine awp_seq_k fun K hK => ?_ | (refine awp_region ?_; try simp [Heap.set_get, *]) | refine awp_block ?_ | (refine awp_ret ?_; try simp) | (refine awp_skip ?_; try simp) | (refine awp_exit ?_; try simp) | (refine KeepQ.go (by assumption) ?_; try simp [Heap.set_get, *]) | (refine awp_cond' ?_; try simp [Heap.set_get, *]) | refine And.intro (by omega) ?_ | refine And.intro (by assumption) ?_ | refine and_lf (by omega) ?_ | refine and_rf ?_ (by omega) | refine and_imps (fun _ => ?_) (fun _ => ?_) | refine arounds_k fun K hK => ?_ | refine Or.inl ⟨by omega, ?_⟩ | refine Or.inr ⟨by omega, ?_⟩ | refine or_split (fun _ => ?_) (fun _ => ?_) | exact Sub.refl _ | refine imp_in fun _ => ?_ | refine and_ri ?_ (fun _ => ?_) | refine and_li (fun _ => ?_) ?_ | (refine And.intro ?_ ?_; focus (intros; simp [*]; done)) | fail)
  intro b1 hb1; simp only [Fresh, Heap.set_none] at hb1; try simp [Heap.set_get, *]
  repeat' (first | refine Keep.go (by assumption) ?_ | refine awp_seq_k fun K hK => ?_ | (refine awp_region ?_; try simp [Heap.set_get, *]) | refine awp_block ?_ | (refine awp_ret ?_; try simp) | (refine awp_skip ?_; try simp) | (refine awp_exit ?_; try simp) | (refine KeepQ.go (by assumption) ?_; try simp [Heap.set_get, *]) | (refine awp_cond' ?_; try simp [Heap.set_get, *]) | refine And.intro (by omega) ?_ | refine And.intro (by assumption) ?_ | refine and_lf (by omega) ?_ | refine and_rf ?_ (by omega) | refine and_imps (fun _ => ?_) (fun _ => ?_) | refine arounds_k fun K hK => ?_ | refine Or.inl ⟨by omega, ?_⟩ | refine Or.inr ⟨by omega, ?_⟩ | refine or_split (fun _ => ?_) (fun _ => ?_) | exact Sub.refl _ | refine imp_in fun _ => ?_ | refine and_ri ?_ (fun _ => ?_) | refine and_li (fun _ => ?_) ?_ | (refine And.intro ?_ ?_; focus (intros; simp [*]; done)) | fail)
  all_goals (repeat (first | exact Sub.refl _ | refine Sub.loc ?_ (by simp [*]) _))
end Go.Proofs.YtmnkalojpefclaaDoor
