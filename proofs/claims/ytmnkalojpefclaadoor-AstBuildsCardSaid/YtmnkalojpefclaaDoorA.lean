/-
  Contracts of the library's functions and of the small functions of ast and its reference.
-/
import Derived.Test.YtmnkalojpefclaaDoorP
import Derived.Test.YtmnkalojpefclaaDoorShelf
import Derived.Test.YtmnkalojpefclaaDoorAL13
set_option linter.unusedSimpArgs false
set_option linter.unusedVariables false
namespace Go.Proofs.YtmnkalojpefclaaDoor
open Go Go.AL Go.Proofs

theorem Split_c (s sep : List UInt8) (hs : s.length < 4294967281) (h1 : 1 ≤ sep.length) (h : Heap) (hg : h 0 = some .gint) (R : AV → Heap → Prop) (hR : R (.list 1 ((Lib.split s sep).map fun p => [.str p]) .full) h) :
    ACalls Tryd.prog 38 [.str s, .str sep] h R := acalls_split Tryd.strings_Split s sep hs h1 h hg R hR

theorem Contains_c (s sub : List UInt8) (hs : s.length < 4294967281) (h : Heap) (hg : h 0 = some .gint) (R : AV → Heap → Prop) (hR : R (.bool (Lib.contains s sub)) h) :
    ACalls Tryd.prog 64 [.str s, .str sub] h R := by
  refine acalls_str2 hg (fun a b m w ea eb hm => ?_) hR
  subst ea eb
  refine (Tryd.strings_Contains a b m w (by simpa using hs) hm).mono ?_
  rintro e w' ⟨rfl, rfl⟩
  exact ⟨⟨_, rfl, fun F => .bool _⟩, 0, rfl⟩

theorem Cut_c (s sep : List UInt8) (hs : s.length < 4294967281) (h : Heap) (hg : h 0 = some .gint) (R : AV → Heap → Prop) (hR : R (.tup [.str (Lib.cut s sep).1, .str (Lib.cut s sep).2.1, .bool (Lib.cut s sep).2.2]) h) :
    ACalls Tryd.prog 47 [.str s, .str sep] h R := by
  refine acalls_str2 hg (fun a b m w ea eb hm => ?_) hR
  subst ea eb
  refine (Tryd.strings_Cut a b m w (by simpa using hs) hm).mono ?_
  rintro e w' ⟨rfl, n, rfl⟩
  refine ⟨⟨_, rfl, fun F => .tup _ _ rfl fun i hi => ?_⟩, n, rfl⟩
  have hi' : i < 3 := hi
  match i, hi' with
  | 0, _ => exact .str _ _ rfl
  | 1, _ => exact .str _ _ rfl
  | 2, _ => exact .bool _

/-- Is a text one of some words? -/
def amongL (s words : List UInt8) : Bool := decide (s ∈ Lib.split words [32])
theorem split_len (s sep : List UInt8) (h1 : 1 ≤ sep.length) : (Lib.split s sep).length ≤ s.length + 1 := by
  have h2 := Lib.splitB_length_le ⟨sep.toArray⟩ 0 (Lib.countB ⟨s.toArray⟩ ⟨sep.toArray⟩) ⟨s.toArray⟩
  have h3 := Lib.countB_le ⟨sep.toArray⟩ (by show 1 ≤ sep.toArray.size; simpa using h1) s.length ⟨s.toArray⟩ (by show s.toArray.size ≤ s.length; simp)
  have h4 := congrArg List.length (Lib.splitB_data ⟨sep.toArray⟩ 0 (Lib.countB ⟨s.toArray⟩ ⟨sep.toArray⟩) ⟨s.toArray⟩)
  have h5 : (Lib.split s sep).length = (Lib.splitB ⟨sep.toArray⟩ 0 (Lib.countB ⟨s.toArray⟩ ⟨sep.toArray⟩) ⟨s.toArray⟩).length := by simpa [Lib.split, Lib.countB] using h4.symm
  have h6 : (⟨s.toArray⟩ : ByteArray).size = s.length := by show s.toArray.size = s.length; simp
  omega

theorem among_c (s words : List UInt8) (hw : words.length < 4294967281) (h : Heap) (hg : h 0 = some .gint) (R : AV → Heap → Prop) (hR : R (.bool (amongL s words)) h) :
    ACalls Tryd.prog 42 [.str s, .str words] h R := by
  refine ACalls.pure ?_ hR
  have hn := split_len words [32] (by simp)
  refine acalls_of Tryd.func42 rfl Tryd.ntmps42 (congrArg Array.toList Tryd.results42) fun Q hQ => ?_
  repeat' (first | refine Keep.go (by assumption) ?_ | refine awp_seq_k fun K hK => ?_ | (refine awp_region ?_; try simp [Heap.set_get, *]) | refine awp_block ?_ | (refine awp_ret ?_; try simp) | (refine awp_skip ?_; try simp) | (refine awp_exit ?_; try simp) | (refine KeepQ.go (by assumption) ?_; try simp [Heap.set_get, *]) | (refine awp_cond' ?_; try simp [Heap.set_get, *]) | refine And.intro (by omega) ?_ | refine And.intro (by assumption) ?_ | refine and_lf (by omega) ?_ | refine and_rf ?_ (by omega) | refine and_imps (fun _ => ?_) (fun _ => ?_) | refine arounds_k fun K hK => ?_ | refine Or.inl ⟨by omega, ?_⟩ | refine Or.inr ⟨by omega, ?_⟩ | refine or_split (fun _ => ?_) (fun _ => ?_) | exact Sub.refl _ | refine imp_in fun _ => ?_ | refine and_ri ?_ (fun _ => ?_) | refine and_li (fun _ => ?_) ?_ | (refine And.intro ?_ ?_; focus (intros; simp [*]; done)) | fail)
  refine Split_c words [32] hw (by simp) _ (by simp [*]) _ ?_
  simp [Heap.set_get, *]
  refine Has_c _ s _ (by omega) _ _ ?_
  simp [Heap.set_get, *]
  repeat' (first | refine Keep.go (by assumption) ?_ | refine awp_seq_k fun K hK => ?_ | (refine awp_region ?_; try simp [Heap.set_get, *]) | refine awp_block ?_ | (refine awp_ret ?_; try simp) | (refine awp_skip ?_; try simp) | (refine awp_exit ?_; try simp) | (refine KeepQ.go (by assumption) ?_; try simp [Heap.set_get, *]) | (refine awp_cond' ?_; try simp [Heap.set_get, *]) | refine And.intro (by omega) ?_ | refine And.intro (by assumption) ?_ | refine and_lf (by omega) ?_ | refine and_rf ?_ (by omega) | refine and_imps (fun _ => ?_) (fun _ => ?_) | refine arounds_k fun K hK => ?_ | refine Or.inl ⟨by omega, ?_⟩ | refine Or.inr ⟨by omega, ?_⟩ | refine or_split (fun _ => ?_) (fun _ => ?_) | exact Sub.refl _ | refine imp_in fun _ => ?_ | refine and_ri ?_ (fun _ => ?_) | refine and_li (fun _ => ?_) ?_ | (refine And.intro ?_ ?_; focus (intros; simp [*]; done)) | fail)
  exact ⟨rfl, Sub.refl _⟩

theorem Unary_c (s : List UInt8) (h : Heap) (hg : h 0 = some .gint) (R : AV → Heap → Prop) (hR : R (.bool (amongL s [45, 32, 33, 32, 126, 32, 116, 121, 112, 101, 111, 102, 32, 99, 108, 111, 110, 101, 32, 114, 101, 115, 117, 109, 101, 32, 100, 101, 108, 101, 116, 101])) h) :
    ACalls Tryd.prog 22 [.str s] h R := by
  refine ACalls.pure ?_ hR
  clear hR
  refine acalls_of Tryd.func22 rfl Tryd.ntmps22 (congrArg Array.toList Tryd.results22) fun Q hQ => ?_
  repeat' (first | refine Keep.go (by assumption) ?_ | refine awp_seq_k fun K hK => ?_ | (refine awp_region ?_; try simp [Heap.set_get, *]) | refine awp_block ?_ | (refine awp_ret ?_; try simp) | (refine awp_skip ?_; try simp) | (refine awp_exit ?_; try simp) | (refine KeepQ.go (by assumption) ?_; try simp [Heap.set_get, *]) | (refine awp_cond' ?_; try simp [Heap.set_get, *]) | refine And.intro (by omega) ?_ | refine And.intro (by assumption) ?_ | refine and_lf (by omega) ?_ | refine and_rf ?_ (by omega) | refine and_imps (fun _ => ?_) (fun _ => ?_) | refine arounds_k fun K hK => ?_ | refine Or.inl ⟨by omega, ?_⟩ | refine Or.inr ⟨by omega, ?_⟩ | refine or_split (fun _ => ?_) (fun _ => ?_) | exact Sub.refl _ | refine imp_in fun _ => ?_ | refine and_ri ?_ (fun _ => ?_) | refine and_li (fun _ => ?_) ?_ | (refine And.intro ?_ ?_; focus (intros; simp [*]; done)) | fail)
  refine among_c s _ (by decide) _ hg _ ?_
  simp [Heap.set_get, *]
  repeat' (first | refine Keep.go (by assumption) ?_ | refine awp_seq_k fun K hK => ?_ | (refine awp_region ?_; try simp [Heap.set_get, *]) | refine awp_block ?_ | (refine awp_ret ?_; try simp) | (refine awp_skip ?_; try simp) | (refine awp_exit ?_; try simp) | (refine KeepQ.go (by assumption) ?_; try simp [Heap.set_get, *]) | (refine awp_cond' ?_; try simp [Heap.set_get, *]) | refine And.intro (by omega) ?_ | refine And.intro (by assumption) ?_ | refine and_lf (by omega) ?_ | refine and_rf ?_ (by omega) | refine and_imps (fun _ => ?_) (fun _ => ?_) | refine arounds_k fun K hK => ?_ | refine Or.inl ⟨by omega, ?_⟩ | refine Or.inr ⟨by omega, ?_⟩ | refine or_split (fun _ => ?_) (fun _ => ?_) | exact Sub.refl _ | refine imp_in fun _ => ?_ | refine and_ri ?_ (fun _ => ?_) | refine and_li (fun _ => ?_) ?_ | (refine And.intro ?_ ?_; focus (intros; simp [*]; done)) | fail)
  all_goals exact Sub.refl _

end Go.Proofs.YtmnkalojpefclaaDoor
