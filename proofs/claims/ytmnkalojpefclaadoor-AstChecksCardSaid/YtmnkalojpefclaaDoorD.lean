import Derived.Test.YtmnkalojpefclaaDoorC
set_option linter.unusedSimpArgs false
set_option linter.unusedVariables false
namespace Go.Proofs.YtmnkalojpefclaaDoor
open Go Go.AL Go.Proofs
def unaryB : List UInt8 := [45, 32, 33, 32, 126, 32, 116, 121, 112, 101, 111, 102, 32, 99, 108, 111, 110, 101, 32, 114, 101, 115, 117, 109, 101, 32, 100, 101, 108, 101, 116, 101]
def assignB : List UInt8 := [61, 32, 60, 45, 32, 43, 61, 32, 45, 61, 32, 42, 61, 32, 47, 61, 32, 37, 61]
def stepB : List UInt8 := [43, 43, 32, 45, 45]
def binB : List UInt8 := [124, 124, 10, 38, 38, 10, 124, 10, 94, 10, 38, 10, 61, 61, 32, 33, 61, 32, 60, 61, 62, 10, 60, 32, 60, 61, 32, 62, 32, 62, 61, 32, 105, 110, 32, 105, 110, 115, 116, 97, 110, 99, 101, 111, 102, 10, 60, 60, 32, 62, 62, 32, 62, 62, 62, 10, 43, 32, 45, 10, 42, 32, 47, 32, 37]
theorem Assign_c (s : List UInt8) (h : Heap) (hg : h 0 = some .gint) (R : AV → Heap → Prop) (hR : R (.bool (amongL s assignB)) h) :
    ACalls Tryd.prog 24 [.str s] h R := by
  refine ACalls.pure ?_ hR
  clear hR
  refine acalls_of Tryd.func24 rfl Tryd.ntmps24 (congrArg Array.toList Tryd.results24) fun Q hQ => ?_
  repeat' (first | refine Keep.go (by assumption) ?_ | refine awp_seq_k fun K hK => ?_ | (refine awp_region ?_; try simp [Heap.set_get, *]) | refine awp_block ?_ | (refine awp_ret ?_; try simp) | (refine awp_skip ?_; try simp) | (refine awp_exit ?_; try simp) | (refine KeepQ.go (by assumption) ?_; try simp [Heap.set_get, *]) | (refine awp_cond' ?_; try simp [Heap.set_get, *]) | refine And.intro (by omega) ?_ | refine And.intro (by assumption) ?_ | refine and_lf (by omega) ?_ | refine and_rf ?_ (by omega) | refine and_imps (fun _ => ?_) (fun _ => ?_) | refine arounds_k fun K hK => ?_ | refine Or.inl ⟨by omega, ?_⟩ | refine Or.inr ⟨by omega, ?_⟩ | refine or_split (fun _ => ?_) (fun _ => ?_) | exact Sub.refl _ | refine imp_in fun _ => ?_ | refine and_ri ?_ (fun _ => ?_) | refine and_li (fun _ => ?_) ?_ | (refine And.intro ?_ ?_; focus (intros; simp [*]; done)) | fail)
  refine among_c s assignB (by decide) _ hg _ ?_
  simp [Heap.set_get, *]
  repeat' (first | refine Keep.go (by assumption) ?_ | refine awp_seq_k fun K hK => ?_ | (refine awp_region ?_; try simp [Heap.set_get, *]) | refine awp_block ?_ | (refine awp_ret ?_; try simp) | (refine awp_skip ?_; try simp) | (refine awp_exit ?_; try simp) | (refine KeepQ.go (by assumption) ?_; try simp [Heap.set_get, *]) | (refine awp_cond' ?_; try simp [Heap.set_get, *]) | refine And.intro (by omega) ?_ | refine And.intro (by assumption) ?_ | refine and_lf (by omega) ?_ | refine and_rf ?_ (by omega) | refine and_imps (fun _ => ?_) (fun _ => ?_) | refine arounds_k fun K hK => ?_ | refine Or.inl ⟨by omega, ?_⟩ | refine Or.inr ⟨by omega, ?_⟩ | refine or_split (fun _ => ?_) (fun _ => ?_) | exact Sub.refl _ | refine imp_in fun _ => ?_ | refine and_ri ?_ (fun _ => ?_) | refine and_li (fun _ => ?_) ?_ | (refine And.intro ?_ ?_; focus (intros; simp [*]; done)) | fail)
theorem Step_c (s : List UInt8) (h : Heap) (hg : h 0 = some .gint) (R : AV → Heap → Prop) (hR : R (.bool (amongL s stepB)) h) :
    ACalls Tryd.prog 25 [.str s] h R := by
  refine ACalls.pure ?_ hR
  clear hR
  refine acalls_of Tryd.func25 rfl Tryd.ntmps25 (congrArg Array.toList Tryd.results25) fun Q hQ => ?_
  repeat' (first | refine Keep.go (by assumption) ?_ | refine awp_seq_k fun K hK => ?_ | (refine awp_region ?_; try simp [Heap.set_get, *]) | refine awp_block ?_ | (refine awp_ret ?_; try simp) | (refine awp_skip ?_; try simp) | (refine awp_exit ?_; try simp) | (refine KeepQ.go (by assumption) ?_; try simp [Heap.set_get, *]) | (refine awp_cond' ?_; try simp [Heap.set_get, *]) | refine And.intro (by omega) ?_ | refine And.intro (by assumption) ?_ | refine and_lf (by omega) ?_ | refine and_rf ?_ (by omega) | refine and_imps (fun _ => ?_) (fun _ => ?_) | refine arounds_k fun K hK => ?_ | refine Or.inl ⟨by omega, ?_⟩ | refine Or.inr ⟨by omega, ?_⟩ | refine or_split (fun _ => ?_) (fun _ => ?_) | exact Sub.refl _ | refine imp_in fun _ => ?_ | refine and_ri ?_ (fun _ => ?_) | refine and_li (fun _ => ?_) ?_ | (refine And.intro ?_ ?_; focus (intros; simp [*]; done)) | fail)
  refine among_c s stepB (by decide) _ hg _ ?_
  simp [Heap.set_get, *]
  repeat' (first | refine Keep.go (by assumption) ?_ | refine awp_seq_k fun K hK => ?_ | (refine awp_region ?_; try simp [Heap.set_get, *]) | refine awp_block ?_ | (refine awp_ret ?_; try simp) | (refine awp_skip ?_; try simp) | (refine awp_exit ?_; try simp) | (refine KeepQ.go (by assumption) ?_; try simp [Heap.set_get, *]) | (refine awp_cond' ?_; try simp [Heap.set_get, *]) | refine And.intro (by omega) ?_ | refine And.intro (by assumption) ?_ | refine and_lf (by omega) ?_ | refine and_rf ?_ (by omega) | refine and_imps (fun _ => ?_) (fun _ => ?_) | refine arounds_k fun K hK => ?_ | refine Or.inl ⟨by omega, ?_⟩ | refine Or.inr ⟨by omega, ?_⟩ | refine or_split (fun _ => ?_) (fun _ => ?_) | exact Sub.refl _ | refine imp_in fun _ => ?_ | refine and_ri ?_ (fun _ => ?_) | refine and_li (fun _ => ?_) ?_ | (refine And.intro ?_ ?_; focus (intros; simp [*]; done)) | fail)

def linesB : List (List UInt8) := Lib.split binB [10]
def levelL (op : List UInt8) : Int := match linesB.findIdx? (fun l => decide (op ∈ Lib.split l [32])) with | some i => (i : Int) | none => -1
theorem lines_short : ∀ l ∈ linesB, l.length < 100 := by decide +kernel
theorem level_at {op : List UInt8} {i : Nat} (hi : i < linesB.length) (h : op ∈ Lib.split linesB[i] [32]) (hn : ∀ j, j < i → ∀ l, linesB[j]? = some l → op ∉ Lib.split l [32]) : levelL op = i := by
  have : linesB.findIdx? (fun l => decide (op ∈ Lib.split l [32])) = some i := by
    rw [List.findIdx?_eq_some_iff_getElem]
    refine ⟨hi, by simpa using h, fun j hj => ?_⟩
    have := hn j hj _ (List.getElem?_eq_getElem (by omega))
    simpa using this
  simp only [levelL, this]
theorem level_none {op : List UInt8} (hn : ∀ j, j < linesB.length → ∀ l, linesB[j]? = some l → op ∉ Lib.split l [32]) : levelL op = -1 := by
  have : linesB.findIdx? (fun l => decide (op ∈ Lib.split l [32])) = none := by
    rw [List.findIdx?_eq_none_iff]
    intro l hl
    obtain ⟨j, hj, rfl⟩ := List.getElem_of_mem hl
    have := hn j hj _ (List.getElem?_eq_getElem hj)
    simpa using this
  simp only [levelL, this]
set_option maxRecDepth 100000 in
theorem Level_c (op : List UInt8) (h : Heap) (hg : h 0 = some .gint) (R : AV → Heap → Prop) (hR : R (.int .i64 (levelL op)) h) : ACalls Tryd.prog 20 [.str op] h R := by
  refine ACalls.pure ?_ hR
  clear hR
  have hlen : linesB.length = 10 := by decide +kernel
  have hsp : Lib.split binB [10] = linesB := rfl
  refine acalls_of Tryd.func20 rfl Tryd.ntmps20 (congrArg Array.toList Tryd.results20) fun Q hQ => ?_
  repeat' (first | refine Keep.go (by assumption) ?_ | refine awp_seq_k fun K hK => ?_ | (refine awp_region ?_; try simp [Heap.set_get, *]) | refine awp_block ?_ | (refine awp_ret ?_; try simp) | (refine awp_skip ?_; try simp) | (refine awp_exit ?_; try simp) | (refine KeepQ.go (by assumption) ?_; try simp [Heap.set_get, *]) | (refine awp_cond' ?_; try simp [Heap.set_get, *]) | refine And.intro (by omega) ?_ | refine And.intro (by assumption) ?_ | refine and_lf (by omega) ?_ | refine and_rf ?_ (by omega) | refine and_imps (fun _ => ?_) (fun _ => ?_) | refine arounds_k fun K hK => ?_ | refine Or.inl ⟨by omega, ?_⟩ | refine Or.inr ⟨by omega, ?_⟩ | refine or_split (fun _ => ?_) (fun _ => ?_) | exact Sub.refl _ | refine imp_in fun _ => ?_ | refine and_ri ?_ (fun _ => ?_) | refine and_li (fun _ => ?_) ?_ | (refine And.intro ?_ ?_; focus (intros; simp [*]; done)) | fail)
  refine Split_c binB [10] (by decide) (by decide) _ hg _ ?_
  simp [Heap.set_get, *]
  repeat' (first | refine Keep.go (by assumption) ?_ | refine awp_seq_k fun K hK => ?_ | (refine awp_region ?_; try simp [Heap.set_get, *]) | refine awp_block ?_ | (refine awp_ret ?_; try simp) | (refine awp_skip ?_; try simp) | (refine awp_exit ?_; try simp) | (refine KeepQ.go (by assumption) ?_; try simp [Heap.set_get, *]) | (refine awp_cond' ?_; try simp [Heap.set_get, *]) | refine And.intro (by omega) ?_ | refine And.intro (by assumption) ?_ | refine and_lf (by omega) ?_ | refine and_rf ?_ (by omega) | refine and_imps (fun _ => ?_) (fun _ => ?_) | refine arounds_k fun K hK => ?_ | refine Or.inl ⟨by omega, ?_⟩ | refine Or.inr ⟨by omega, ?_⟩ | refine or_split (fun _ => ?_) (fun _ => ?_) | exact Sub.refl _ | refine imp_in fun _ => ?_ | refine and_ri ?_ (fun _ => ?_) | refine and_li (fun _ => ?_) ?_ | (refine And.intro ?_ ?_; focus (intros; simp [*]; done)) | fail)
  refine awp_loop_h [2, 3, 4, 7, 8, 9, 10, 11, 12, 13, 14, 15, 16, 17] (fun n x g => ∃ i : Nat, i ≤ linesB.length ∧ n = linesB.length - i ∧ x 7 = .int .i64 i ∧ (∀ j, j < i → ∀ l, linesB[j]? = some l → op ∉ Lib.split l [32]) ∧ g = h) linesB.length ⟨0, by omega, by omega, rfl, by simp, rfl⟩ (fun n x g hI K hK => ?_)
  obtain ⟨i, hi, rfl, hx, hn, rfl⟩ := hI
  have w1 : IntKind.i64.wrap ((i : Int) + 1) = i + 1 := w64 (by omega) (by omega)
  by_cases hlt : i < linesB.length
  · have hs := lines_short linesB[i] (List.getElem_mem hlt)
    have hlt2 : i < 10 := by omega
    have hns := split_len linesB[i] [32] (by simp)
    simp (maxSteps := 10000000) only [AgainAt, hav, List.contains_cons, List.contains_nil, Bool.or_false, Nat.reduceAdd, Nat.reduceBEq, Bool.or_true, Bool.true_or, Bool.false_or, if_true, if_false, Bool.false_eq_true]
    repeat' (first | refine Keep.go (by assumption) ?_ | refine awp_seq_k fun K hK => ?_ | (refine awp_region ?_; try simp [Heap.set_get, *]) | refine awp_block ?_ | (refine awp_ret ?_; try simp) | (refine awp_skip ?_; try simp) | (refine awp_exit ?_; try simp) | (refine KeepQ.go (by assumption) ?_; try simp [Heap.set_get, *]) | (refine awp_cond' ?_; try simp [Heap.set_get, *]) | refine And.intro (by omega) ?_ | refine And.intro (by assumption) ?_ | refine and_lf (by omega) ?_ | refine and_rf ?_ (by omega) | refine and_imps (fun _ => ?_) (fun _ => ?_) | refine arounds_k fun K hK => ?_ | refine Or.inl ⟨by omega, ?_⟩ | refine Or.inr ⟨by omega, ?_⟩ | refine or_split (fun _ => ?_) (fun _ => ?_) | exact Sub.refl _ | refine imp_in fun _ => ?_ | refine and_ri ?_ (fun _ => ?_) | refine and_li (fun _ => ?_) ?_ | (refine And.intro ?_ ?_; focus (intros; simp [*]; done)) | fail)
    refine Split_c _ [32] (by omega) (by decide) _ hg _ ?_
    simp [Heap.set_get, *]
    refine Has_c _ op _ (by omega) _ _ ?_
    simp [Heap.set_get, *]
    repeat' (first | refine Keep.go (by assumption) ?_ | refine awp_seq_k fun K hK => ?_ | (refine awp_region ?_; try simp [Heap.set_get, *]) | refine awp_block ?_ | (refine awp_ret ?_; try simp) | (refine awp_skip ?_; try simp) | (refine awp_exit ?_; try simp) | (refine KeepQ.go (by assumption) ?_; try simp [Heap.set_get, *]) | (refine awp_cond' ?_; try simp [Heap.set_get, *]) | refine And.intro (by omega) ?_ | refine And.intro (by assumption) ?_ | refine and_lf (by omega) ?_ | refine and_rf ?_ (by omega) | refine and_imps (fun _ => ?_) (fun _ => ?_) | refine arounds_k fun K hK => ?_ | refine Or.inl ⟨by omega, ?_⟩ | refine Or.inr ⟨by omega, ?_⟩ | refine or_split (fun _ => ?_) (fun _ => ?_) | exact Sub.refl _ | refine imp_in fun _ => ?_ | refine and_ri ?_ (fun _ => ?_) | refine and_li (fun _ => ?_) ?_ | (refine And.intro ?_ ?_; focus (intros; simp [*]; done)) | fail)
    · refine ⟨(level_at hlt (by assumption) hn).symm, Sub.refl _⟩
    · exact ⟨by simp [hav], rfl, linesB.length - (i + 1), _, by omega, Sub.refl _, i + 1, by omega, rfl, by simp, fun j hj l hl => by
        by_cases e : j < i
        · exact hn j e l hl
        · have : j = i := by omega
          subst this
          rw [List.getElem?_eq_getElem hlt] at hl
          rw [← Option.some.inj hl]; assumption, rfl⟩
  · have hge : ¬ i < 10 := by omega
    simp (maxSteps := 10000000) only [AgainAt, hav, List.contains_cons, List.contains_nil, Bool.or_false, Nat.reduceAdd, Nat.reduceBEq, Bool.or_true, Bool.true_or, Bool.false_or, if_true, if_false, Bool.false_eq_true]
    repeat' (first | refine Keep.go (by assumption) ?_ | refine awp_seq_k fun K hK => ?_ | (refine awp_region ?_; try simp [Heap.set_get, *]) | refine awp_block ?_ | (refine awp_ret ?_; try simp) | (refine awp_skip ?_; try simp) | (refine awp_exit ?_; try simp) | (refine KeepQ.go (by assumption) ?_; try simp [Heap.set_get, *]) | (refine awp_cond' ?_; try simp [Heap.set_get, *]) | refine And.intro (by omega) ?_ | refine And.intro (by assumption) ?_ | refine and_lf (by omega) ?_ | refine and_rf ?_ (by omega) | refine and_imps (fun _ => ?_) (fun _ => ?_) | refine arounds_k fun K hK => ?_ | refine Or.inl ⟨by omega, ?_⟩ | refine Or.inr ⟨by omega, ?_⟩ | refine or_split (fun _ => ?_) (fun _ => ?_) | exact Sub.refl _ | refine imp_in fun _ => ?_ | refine and_ri ?_ (fun _ => ?_) | refine and_li (fun _ => ?_) ?_ | (refine And.intro ?_ ?_; focus (intros; simp [*]; done)) | fail)
    refine ⟨(level_none fun j hj => hn j (by omega)).symm, Sub.refl _⟩
end Go.Proofs.YtmnkalojpefclaaDoor
