import Derived.Test.YtgcpgoggngkbjaaDoorA0
import Derived.Test.YtgcpgoggngkbjaaDoorShelf
import Derived.Test.YtgcpgoggngkbjaaDoorAL13
set_option linter.unusedSimpArgs false
set_option linter.unusedVariables false
namespace Go.Proofs.YtgcpgoggngkbjaaDoor
open Go Go.AL Go.Proofs
theorem Split_c (s sep : List UInt8) (hs : s.length < 4294967281) (h1 : 1 ≤ sep.length) (h : Heap) (hg : h 0 = some .gint) (R : AV → Heap → Prop) (hR : R (.list 1 ((Lib.split s sep).map fun p => [.str p]) .full) h) :
    ACalls Tryd.prog 28 [.str s, .str sep] h R := acalls_split Tryd.strings_Split s sep hs h1 h hg R hR
def namesB : List UInt8 := [108, 111, 97, 100, 107, 32, 109, 111, 118, 101, 32, 116, 104, 105, 115, 32, 114, 111, 111, 116, 32, 98, 111, 120, 32, 103, 101, 116, 98, 111, 120, 32, 115, 101, 116, 98, 111, 120, 32, 103, 101, 116, 111, 117, 116, 101, 114, 32, 115, 101, 116, 111, 117, 116, 101, 114, 32, 103, 101, 116, 110, 97, 109, 101, 32, 115, 101, 116, 110, 97, 109, 101, 32, 103, 101, 116, 32, 115, 101, 116, 32, 110, 101, 119, 32, 100, 101, 108, 32, 104, 97, 115, 32, 105, 110, 115, 116, 111, 102, 32, 115, 117, 112, 101, 114, 32, 110, 101, 103, 32, 110, 111, 116, 32, 105, 110, 118, 32, 116, 121, 112, 101, 111, 102, 32, 99, 108, 111, 110, 101, 32, 114, 101, 115, 117, 109, 101, 32, 97, 114, 105, 116, 104, 32, 101, 113, 117, 97, 108, 32, 111, 114, 100, 101, 114, 32, 106, 117, 109, 112, 32, 105, 102, 32, 105, 102, 110, 111, 116, 32, 99, 97, 108, 108, 32, 116, 97, 105, 108, 32, 114, 101, 116, 117, 114, 110, 32, 121, 105, 101, 108, 100, 32, 116, 104, 114, 111, 119, 32, 99, 108, 111, 115, 117, 114, 101, 32, 97, 114, 114, 97, 121, 32, 112, 117, 115, 104, 32, 116, 97, 98, 108, 101, 32, 112, 117, 116, 32, 99, 108, 97, 115, 115, 32, 109, 101, 109, 98, 101, 114, 32, 101, 97, 99, 104]
theorem names_split : Lib.split namesB [32] = namesW := by decide +kernel
set_option maxRecDepth 100000 in
theorem Name_c (op : Int) (h : Heap) (hg : h 0 = some .gint) (R : AV → Heap → Prop) (hR : R (.str (nameAt op)) h) : ACalls Tryd.prog 15 [.int .i64 op] h R := by
  refine ACalls.pure ?_ hR
  clear hR
  by_cases hr : op < 1 ∨ 44 ≤ op
  · have hc : nameAt op = [] := by simp only [nameAt, hr, if_true]
    refine acalls_of Tryd.func15 rfl Tryd.ntmps15 (congrArg Array.toList Tryd.results15) fun Q hQ => ?_
    repeat' (first | refine Keep.go (by assumption) ?_ | refine awp_seq_k fun K hK => ?_ | (refine awp_region ?_; try simp [Heap.set_get, *]) | refine awp_block ?_ | (refine awp_ret ?_; try simp) | (refine awp_skip ?_; try simp) | (refine awp_exit ?_; try simp) | (refine KeepQ.go (by assumption) ?_; try simp [Heap.set_get, *]) | (refine awp_cond' ?_; try simp [Heap.set_get, *]) | refine And.intro (by omega) ?_ | refine And.intro (by assumption) ?_ | refine and_lf (by omega) ?_ | refine and_rf ?_ (by omega) | refine and_imps (fun _ => ?_) (fun _ => ?_) | refine arounds_k fun K hK => ?_ | refine Or.inl ⟨by omega, ?_⟩ | refine Or.inr ⟨by omega, ?_⟩ | refine or_split (fun _ => ?_) (fun _ => ?_) | exact Sub.refl _ | refine imp_in fun _ => ?_ | refine and_ri ?_ (fun _ => ?_) | refine and_li (fun _ => ?_) ?_ | (refine And.intro ?_ ?_; focus (intros; simp [*]; done)) | fail)
    all_goals first
      | exact ⟨hc.symm, Sub.refl _⟩
      | (exfalso; omega)
  · obtain ⟨m, hm⟩ := Int.eq_ofNat_of_zero_le (a := op - 1) (by omega)
    have hm2 : op = m + 1 := by omega
    subst hm2
    have hlen : namesW.length = 43 := rfl
    have hml : m < namesW.length := by omega
    have hc : nameAt ((m : Int) + 1) = namesW[m] := by
      have h1 : ((m : Int) + 1 - 1).toNat = m := by omega
      simp only [nameAt, hr, if_false, h1, List.getD, List.getElem?_eq_getElem hml, Option.getD_some]
    have w1 : IntKind.i64.wrap (m : Int) = m := w64 (by omega) (by omega)
    have hmg : namesW[m]? = some namesW[m] := List.getElem?_eq_getElem hml
    refine acalls_of Tryd.func15 rfl Tryd.ntmps15 (congrArg Array.toList Tryd.results15) fun Q hQ => ?_
    repeat' (first | refine Keep.go (by assumption) ?_ | refine awp_seq_k fun K hK => ?_ | (refine awp_region ?_; try simp [Heap.set_get, *]) | refine awp_block ?_ | (refine awp_ret ?_; try simp) | (refine awp_skip ?_; try simp) | (refine awp_exit ?_; try simp) | (refine KeepQ.go (by assumption) ?_; try simp [Heap.set_get, *]) | (refine awp_cond' ?_; try simp [Heap.set_get, *]) | refine And.intro (by omega) ?_ | refine And.intro (by assumption) ?_ | refine and_lf (by omega) ?_ | refine and_rf ?_ (by omega) | refine and_imps (fun _ => ?_) (fun _ => ?_) | refine arounds_k fun K hK => ?_ | refine Or.inl ⟨by omega, ?_⟩ | refine Or.inr ⟨by omega, ?_⟩ | refine or_split (fun _ => ?_) (fun _ => ?_) | exact Sub.refl _ | refine imp_in fun _ => ?_ | refine and_ri ?_ (fun _ => ?_) | refine and_li (fun _ => ?_) ?_ | (refine And.intro ?_ ?_; focus (intros; simp [*]; done)) | fail)
    all_goals first
      | (exfalso; omega)
      | (refine Split_c namesB [32] (by decide) (by decide) _ hg _ ?_
         rw [names_split]
         simp [Heap.set_get, *]
         repeat' (first | refine Keep.go (by assumption) ?_ | refine awp_seq_k fun K hK => ?_ | (refine awp_region ?_; try simp [Heap.set_get, *]) | refine awp_block ?_ | (refine awp_ret ?_; try simp) | (refine awp_skip ?_; try simp) | (refine awp_exit ?_; try simp) | (refine KeepQ.go (by assumption) ?_; try simp [Heap.set_get, *]) | (refine awp_cond' ?_; try simp [Heap.set_get, *]) | refine And.intro (by omega) ?_ | refine And.intro (by assumption) ?_ | refine and_lf (by omega) ?_ | refine and_rf ?_ (by omega) | refine and_imps (fun _ => ?_) (fun _ => ?_) | refine arounds_k fun K hK => ?_ | refine Or.inl ⟨by omega, ?_⟩ | refine Or.inr ⟨by omega, ?_⟩ | refine or_split (fun _ => ?_) (fun _ => ?_) | exact Sub.refl _ | refine imp_in fun _ => ?_ | refine and_ri ?_ (fun _ => ?_) | refine and_li (fun _ => ?_) ?_ | (refine And.intro ?_ ?_; focus (intros; simp [*]; done)) | fail)
         all_goals first
           | exact ⟨hc.symm, Sub.refl _⟩)
end Go.Proofs.YtgcpgoggngkbjaaDoor
