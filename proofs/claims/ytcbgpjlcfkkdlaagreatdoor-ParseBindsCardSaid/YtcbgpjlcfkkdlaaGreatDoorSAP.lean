import Derived.Test.YtcbgpjlcfkkdlaaGreatDoorSAN
import Derived.Test.YtcbgpjlcfkkdlaaGreatDoorSAO
import Derived.Test.YtcbgpjlcfkkdlaaGreatDoorSAH
set_option linter.unusedSimpArgs false
set_option linter.unusedVariables false
set_option maxRecDepth 100000
set_option maxHeartbeats 16000000
namespace Go.Proofs.YtcbgpjlcfkkdlaaGreatDoor
open Go Go.AL Go.Proofs
abbrev strs (l : List (List UInt8)) : List (List AV) := l.map fun p => [.str p]
theorem w64 {n : Int} (h0 : -9223372036854775808 ≤ n) (h1 : n ≤ 9223372036854775807) : IntKind.i64.wrap n = n := by rw [IntKind.wrap_i64]; omega
theorem Index_c (l : List (List UInt8)) (v : List UInt8) (tok : Tok) (hl : l.length < 9223372036854775807) (h : Heap) (R : AV → Heap → Prop) (hR : ∀ k : Int, (0 ≤ k ↔ v ∈ l) → R (.int .i64 k) h) :
  ACalls Tryz.prog 144 [.list 1 (strs l) tok, .str v] h R := by
 refine ACalls.subR (R := fun y h' => ∃ k : Int, y = .int .i64 k ∧ (0 ≤ k ↔ v ∈ l) ∧ h' = h) ?_ (fun x h' ⟨k, h1, h2, h3⟩ => ⟨h, h3 ▸ Sub.refl _, h1 ▸ hR k h2⟩)
 clear hR
 refine acalls_of Tryz.func144 rfl Tryz.ntmps144 (congrArg Array.toList Tryz.results144) fun Q hQ => ?_
 (focus repeat' first|refine ga ?_|(refine gb ?_;try simp[gz, *])|refine gk fun _ _=>?_|refine gc ?_ ?_|exact gr _|refine gi fun _=>?_|(refine gn ?_ ?_;focus(intros;simp[*];done)))
 refine awp_loop_h [4,5,8,9,10,11,12,13,14,15,16,17,18] (fun n x g => ∃ i : Nat, i ≤ l.length ∧ n = l.length - i ∧ x 8 = .int .i64 i ∧ (∀ j, j < i → l[j]? ≠ some v) ∧ g = h) l.length ⟨0, by omega, by omega, rfl, by simp, rfl⟩ (fun n x g hI K hK => ?_)
 obtain ⟨i, hi, rfl, hx, hn, rfl⟩ := hI
 have w1 : IntKind.i64.wrap ((i : Int) + 1) = i + 1 := w64 (by omega) (by omega)
 simp (maxSteps := 10000000) only [AgainAt, hav_nil, hav_end, hav_cons, Nat.reduceAdd, Nat.reduceEqDiff, if_true, if_false]
 (focus repeat' first|refine ga ?_|(refine gb ?_;try simp[gz, *])|refine gk fun _ _=>?_|refine gc ?_ ?_|exact gr _|refine gi fun _=>?_|(refine gn ?_ ?_;focus(intros;simp[*];done)))
 ·have h1 : i < l.length := by assumption
  have h2 : ¬ v = l[i] := by assumption
  have hj : ∀ j, j < i + 1 → l[j]? ≠ some v := fun j hj e => by
   by_cases hji : j < i
   ·exact hn j hji e
   ·have : j = i := by omega
    subst this
    rw [List.getElem?_eq_getElem h1] at e
    exact h2 (Option.some.inj e).symm
  exact ⟨by simp [hav], rfl, l.length - (i + 1), _, by omega, Sub.refl _, i + 1, by omega, rfl, by simp, hj, rfl⟩
 ·rename_i h2
  obtain ⟨j, hj, e⟩ := List.getElem_of_mem h2
  exact hn j (by omega) (by rw [List.getElem?_eq_getElem hj, e])
theorem Has_c (l : List (List UInt8)) (v : List UInt8) (tok : Tok) (hl : l.length < 9223372036854775807) (h : Heap) (R : AV → Heap → Prop) (hR : R (.bool (decide (v ∈ l))) h) :
  ACalls Tryz.prog 107 [.list 1 (strs l) tok, .str v] h R := by
 refine ACalls.pure ?_ hR
 refine acalls_of Tryz.func107 rfl Tryz.ntmps107 (congrArg Array.toList Tryz.results107) fun Q hQ => ?_
 (focus repeat' first|refine ga ?_|(refine gb ?_;try simp[gz, *])|refine gk fun _ _=>?_|refine gc ?_ ?_|exact gr _|refine gi fun _=>?_|(refine gn ?_ ?_;focus(intros;simp[*];done)))
 refine Index_c l v tok hl _ _ (fun k hk => ?_)
 simp [Heap.set_get, hk, *]
 (focus repeat' first|refine ga ?_|(refine gb ?_;try simp[gz, *])|refine gk fun _ _=>?_|refine gc ?_ ?_|exact gr _|refine gi fun _=>?_|(refine gn ?_ ?_;focus(intros;simp[*];done)))
 all_goals ((repeat (refine Sub.loc ?_ (by simp [gz, *]) _)); first | exact Sub.refl _ | exact (Sub.refl _).upd _ _ | assumption)
theorem Expr_c (k : Int) (h : Heap) (R : AV → Heap → Prop) (hR : R (.bool (decide (1 ≤ k) && decide (k ≤ 21))) h) : ACalls Tryz.prog 109 [.int .i64 k] h R := by
 refine ACalls.pure ?_ hR
 clear hR
 refine acalls_of Tryz.func109 rfl Tryz.ntmps109 (congrArg Array.toList Tryz.results109) fun Q hQ => ?_
 (focus repeat' first|refine ga ?_|(refine gb ?_;try simp[gz, *])|refine gk fun _ _=>?_|refine gc ?_ ?_|exact gr _|refine gi fun _=>?_|(refine gn ?_ ?_;focus(intros;simp[*];done)))
 all_goals exact Sub.refl _
theorem Stmt_c (k : Int) (h : Heap) (R : AV → Heap → Prop) (hR : R (.bool (decide (26 ≤ k) && decide (k < 44))) h) : ACalls Tryz.prog 110 [.int .i64 k] h R := by
 refine ACalls.pure ?_ hR
 clear hR
 refine acalls_of Tryz.func110 rfl Tryz.ntmps110 (congrArg Array.toList Tryz.results110) fun Q hQ => ?_
 (focus repeat' first|refine ga ?_|(refine gb ?_;try simp[gz, *])|refine gk fun _ _=>?_|refine gc ?_ ?_|exact gr _|refine gi fun _=>?_|(refine gn ?_ ?_;focus(intros;simp[*];done)))
 all_goals exact Sub.refl _
theorem Target_c (k : Int) (h : Heap) (R : AV → Heap → Prop) (hR : R (.bool (decide (k = 6) || decide (k = 8) || decide (k = 14) || decide (k = 15))) h) : ACalls Tryz.prog 88 [.int .i64 k] h R := by
 refine ACalls.pure ?_ hR
 clear hR
 refine acalls_of Tryz.func88 rfl Tryz.ntmps88 (congrArg Array.toList Tryz.results88) fun Q hQ => ?_
 (focus repeat' first|refine ga ?_|(refine gb ?_;try simp[gz, *])|refine gk fun _ _=>?_|refine gc ?_ ?_|exact gr _|refine gi fun _=>?_|(refine gn ?_ ?_;focus(intros;simp[*];done)))
 all_goals exact Sub.refl _
theorem Literal_c (k : Int) (h : Heap) (R : AV → Heap → Prop) (hR : R (.bool (decide (1 ≤ k) && decide (k ≤ 5))) h) : ACalls Tryz.prog 111 [.int .i64 k] h R := by
 refine ACalls.pure ?_ hR
 clear hR
 refine acalls_of Tryz.func111 rfl Tryz.ntmps111 (congrArg Array.toList Tryz.results111) fun Q hQ => ?_
 (focus repeat' first|refine ga ?_|(refine gb ?_;try simp[gz, *])|refine gk fun _ _=>?_|refine gc ?_ ?_|exact gr _|refine gi fun _=>?_|(refine gn ?_ ?_;focus(intros;simp[*];done)))
 all_goals exact Sub.refl _
end Go.Proofs.YtcbgpjlcfkkdlaaGreatDoor

namespace Go.Proofs.YtcbgpjlcfkkdlaaGreatDoor
open Go Go.AL Go.Proofs
def fitsL (k w : Int) : Bool :=
 if bitAnd .i64 w 1 = 0 then
 if bitAnd .i64 w 2 = 0 then
 if bitAnd .i64 w 4 = 0 then
 if bitAnd .i64 w 8 = 0 then
 if bitAnd .i64 w 16 = 0 then
 if bitAnd .i64 w 32 = 0 then
 if bitAnd .i64 w 64 = 0 then
 if bitAnd .i64 w 128 = 0 then
 if bitAnd .i64 w 256 = 0 then
 if bitAnd .i64 w 512 = 0 then
 if bitAnd .i64 w 1024 = 0 then
 if bitAnd .i64 w 2048 = 0 then false
 else decide (k = 27) || decide (k = 28)
 else decide (k = 26) || decide (k = 29)
 else decide (k = 26)
 else decide (k = 20)
 else decide (k = 25)
 else decide (k = 24)
 else decide (k = 23)
 else decide (k = 22)
 else decide (1 ≤ k) && decide (k ≤ 5)
 else decide (k = 6) || decide (k = 8) || decide (k = 14) || decide (k = 15)
 else decide (26 ≤ k) && decide (k < 44)
 else decide (1 ≤ k) && decide (k ≤ 21)
theorem fits_c (k w : Int) (h : Heap) (R : AV → Heap → Prop) (hR : R (.bool (fitsL k w)) h) : ACalls Tryz.prog 72 [.int .i64 k, .int .i64 w] h R := by
 refine ACalls.pure ?_ hR
 clear hR
 unfold fitsL
 refine acalls_of Tryz.func72 rfl Tryz.ntmps72 (congrArg Array.toList Tryz.results72) fun Q hQ => ?_
 (focus repeat' first|refine ga ?_|(refine gb ?_;try simp[gz, *])|refine gk fun _ _=>?_|refine gc ?_ ?_|exact gr _|refine gi fun _=>?_|(refine gn ?_ ?_;focus(intros;simp[*];done)))
 all_goals (first | refine Expr_c _ _ _ ?_ | refine Stmt_c _ _ _ ?_ | refine Target_c _ _ _ ?_ | refine Literal_c _ _ _ ?_)
 all_goals (simp [*]; (focus repeat' first|refine ga ?_|(refine gb ?_;try simp[gz, *])|refine gk fun _ _=>?_|refine gc ?_ ?_|exact gr _|refine gi fun _=>?_|(refine gn ?_ ?_;focus(intros;simp[*];done))))
end Go.Proofs.YtcbgpjlcfkkdlaaGreatDoor

namespace Go.Proofs.YtcbgpjlcfkkdlaaGreatDoor
open Go Go.AL Go.Proofs
theorem Split_c (s sep : List UInt8) (hs : s.length < 4294967281) (h1 : 1 ≤ sep.length) (h : Heap) (hg : h 0 = some .gint) (R : AV → Heap → Prop) (hR : R (.list 1 ((Lib.split s sep).map fun p => [.str p]) .full) h) :
  ACalls Tryz.prog 25 [.str s, .str sep] h R := acalls_split Tryz.strings_Split s sep hs h1 h hg R hR
theorem Contains_c (s sub : List UInt8) (hs : s.length < 4294967281) (h : Heap) (hg : h 0 = some .gint) (R : AV → Heap → Prop) (hR : R (.bool (Lib.contains s sub)) h) :
  ACalls Tryz.prog 57 [.str s, .str sub] h R := by
 refine acalls_str2 hg (fun a b m w ea eb hm => ?_) hR
 subst ea eb
 refine (Tryz.strings_Contains a b m w (by simpa using hs) hm).mono ?_
 rintro e w' ⟨rfl, rfl⟩
 exact ⟨⟨_, rfl, fun F => .bool _⟩, 0, rfl⟩
theorem Cut_c (s sep : List UInt8) (hs : s.length < 4294967281) (h : Heap) (hg : h 0 = some .gint) (R : AV → Heap → Prop) (hR : R (.tup [.str (Lib.cut s sep).1, .str (Lib.cut s sep).2.1, .bool (Lib.cut s sep).2.2]) h) :
  ACalls Tryz.prog 69 [.str s, .str sep] h R := by
 refine acalls_str2 hg (fun a b m w ea eb hm => ?_) hR
 subst ea eb
 refine (Tryz.strings_Cut a b m w (by simpa using hs) hm).mono ?_
 rintro e w' ⟨rfl, n, rfl⟩
 refine ⟨⟨_, rfl, fun F => .tup _ _ rfl fun i hi => ?_⟩, n, rfl⟩
 have hi' : i < 3 := hi
 match i, hi' with
 | 0, _ => exact .str _ _ rfl
 | 1, _ => exact .str _ _ rfl
 | 2, _ => exact .bool _
def amongL (s words : List UInt8) : Bool := decide (s ∈ Lib.split words [32])
theorem split_len (s sep : List UInt8) (h1 : 1 ≤ sep.length) : (Lib.split s sep).length ≤ s.length + 1 := by
 have h2 := Lib.splitB_length_le ⟨sep.toArray⟩ 0 (Lib.countB ⟨s.toArray⟩ ⟨sep.toArray⟩) ⟨s.toArray⟩
 have h3 := Lib.countB_le ⟨sep.toArray⟩ (by show 1 ≤ sep.toArray.size; simpa using h1) s.length ⟨s.toArray⟩ (by show s.toArray.size ≤ s.length; simp)
 have h4 := congrArg List.length (Lib.splitB_data ⟨sep.toArray⟩ 0 (Lib.countB ⟨s.toArray⟩ ⟨sep.toArray⟩) ⟨s.toArray⟩)
 have h5 : (Lib.split s sep).length = (Lib.splitB ⟨sep.toArray⟩ 0 (Lib.countB ⟨s.toArray⟩ ⟨sep.toArray⟩) ⟨s.toArray⟩).length := by simpa [Lib.split, Lib.countB] using h4.symm
 have h6 : (⟨s.toArray⟩ : ByteArray).size = s.length := by show s.toArray.size = s.length; simp
 omega
theorem among_c (s words : List UInt8) (hw : words.length < 4294967281) (h : Heap) (hg : h 0 = some .gint) (R : AV → Heap → Prop) (hR : R (.bool (amongL s words)) h) :
  ACalls Tryz.prog 106 [.str s, .str words] h R := by
 refine ACalls.pure ?_ hR
 have hn := split_len words [32] (by simp)
 refine acalls_of Tryz.func106 rfl Tryz.ntmps106 (congrArg Array.toList Tryz.results106) fun Q hQ => ?_
 (focus repeat' first|refine ga ?_|(refine gb ?_;try simp[gz, *])|refine gk fun _ _=>?_|refine gc ?_ ?_|exact gr _|refine gi fun _=>?_|(refine gn ?_ ?_;focus(intros;simp[*];done)))
 refine Split_c words [32] hw (by simp) _ (by simp [*]) _ ?_
 simp [gz, *]
 refine Has_c _ s _ (by omega) _ _ ?_
 simp [gz, *]
 (focus repeat' first|refine ga ?_|(refine gb ?_;try simp[gz, *])|refine gk fun _ _=>?_|refine gc ?_ ?_|exact gr _|refine gi fun _=>?_|(refine gn ?_ ?_;focus(intros;simp[*];done)))
 exact ⟨rfl, Sub.refl _⟩
theorem Unary_c (s : List UInt8) (h : Heap) (hg : h 0 = some .gint) (R : AV → Heap → Prop) (hR : R (.bool (amongL s [45, 32, 33, 32, 126, 32, 116, 121, 112, 101, 111, 102, 32, 99, 108, 111, 110, 101, 32, 114, 101, 115, 117, 109, 101, 32, 100, 101, 108, 101, 116, 101])) h) :
  ACalls Tryz.prog 65 [.str s] h R := by
 refine ACalls.pure ?_ hR
 clear hR
 refine acalls_of Tryz.func65 rfl Tryz.ntmps65 (congrArg Array.toList Tryz.results65) fun Q hQ => ?_
 (focus repeat' first|refine ga ?_|(refine gb ?_;try simp[gz, *])|refine gk fun _ _=>?_|refine gc ?_ ?_|exact gr _|refine gi fun _=>?_|(refine gn ?_ ?_;focus(intros;simp[*];done)))
 refine among_c s _ (by decide) _ hg _ ?_
 simp [gz, *]
 (focus repeat' first|refine ga ?_|(refine gb ?_;try simp[gz, *])|refine gk fun _ _=>?_|refine gc ?_ ?_|exact gr _|refine gi fun _=>?_|(refine gn ?_ ?_;focus(intros;simp[*];done)))
 all_goals exact Sub.refl _
end Go.Proofs.YtcbgpjlcfkkdlaaGreatDoor

namespace Go.Proofs.YtcbgpjlcfkkdlaaGreatDoor
open Go Go.AL Go.Proofs
def byteAt (s : List UInt8) (j : Nat) : Int := ((s.getD j 0).toNat : Int)
def letterB (c : Int) : Bool := decide (97 ≤ c) && decide (c ≤ 122) || decide (65 ≤ c) && decide (c ≤ 90) || decide (c = 95)
def okB (s : List UInt8) (j : Nat) : Bool := letterB (byteAt s j) || !(decide (j = 0) || decide (byteAt s j < 48) || decide (57 < byteAt s j))
def nmL (s : List UInt8) : Bool := decide (s ≠ [] ∧ ∀ j, j < s.length → okB s j = true)
theorem nm_false {s : List UInt8} {i : Nat} (hi : i < s.length) (hb : okB s i = false) : nmL s = false := by
 simp only [nmL, decide_eq_false_iff_not, not_and]
 intro _ h
 rw [h i hi] at hb; cases hb
theorem nm_true {s : List UInt8} {i : Nat} (hi : s.length ≤ i) (hb : ∀ j, j < i → okB s j = true) : nmL s = !decide (s = []) := by
 simp only [nmL]
 by_cases e : s = []
 ·simp [e]
 ·simp only [e, ne_eq, not_false_eq_true, true_and, decide_false, Bool.not_false, decide_eq_true_eq]
  intro j hj; exact hb j (by omega)
theorem byteAt_get {s : List UInt8} {i : Nat} (hi : i < s.length) : byteAt s i = (s[i].toNat : Int) := by simp [byteAt, List.getD, hi]
theorem Name_c (s : List UInt8) (hs : s.length < 9223372036854775807) (h : Heap) (R : AV → Heap → Prop) (hR : R (.bool (nmL s)) h) : ACalls Tryz.prog 105 [.str s] h R := by
 refine ACalls.pure ?_ hR
 clear hR
 refine acalls_of Tryz.func105 rfl Tryz.ntmps105 (congrArg Array.toList Tryz.results105) fun Q hQ => ?_
 (focus repeat' first|refine ga ?_|(refine gb ?_;try simp[gz, *])|refine gk fun _ _=>?_|refine gc ?_ ?_|exact gr _|refine gi fun _=>?_|(refine gn ?_ ?_;focus(intros;simp[*];done)))
 refine awp_loop_h [2,3,4,5,8,9,10,11,12,13,14,15,16,17,18,19,20,21,22,23,24,25,26,27,28,29,30,31,32,33,34,35,36,37,38,39,40,41,42,43,44,45,46] (fun n x g => ∃ i : Nat, i ≤ s.length ∧ n = s.length - i ∧ x 8 = .int .i64 i ∧ (∀ j, j < i → okB s j = true) ∧ g = h) s.length ⟨0, by omega, by omega, rfl, by simp, rfl⟩ (fun n x g hI K hK => ?_)
 obtain ⟨i, hi, rfl, hx, hn, rfl⟩ := hI
 have w1 : IntKind.i64.wrap ((i : Int) + 1) = i + 1 := w64 (by omega) (by omega)
 simp (maxSteps := 10000000) only [AgainAt, hav_nil, hav_end, hav_cons, Nat.reduceAdd, Nat.reduceEqDiff, if_true, if_false]
 (focus repeat' first|refine ga ?_|(refine gb ?_;try simp[gz, *])|refine gk fun _ _=>?_|refine gc ?_ ?_|exact gr _|refine gi fun _=>?_|(refine gn ?_ ?_;focus(intros;simp[*];done)))
 ·have h1 : i < s.length := by assumption
  have h2 := byteAt_get h1
  have h3 : okB s i = false := by
   simp only [okB, letterB, h2]
   simp
   omega
  simp [nm_false h1 h3]
  exact Sub.refl _
 ·have h1 : i < s.length := by assumption
  have h2 := byteAt_get h1
  have h3 : okB s i = true := by
   simp only [okB, letterB, h2]
   simp
   omega
  exact ⟨by simp [hav], rfl, s.length - (i + 1), _, by omega, Sub.refl _, i + 1, by omega, rfl, by simp, fun j hj => by
   by_cases e : j < i
   ·exact hn j e
   ·have : j = i := by omega
    subst this; exact h3, rfl⟩
 ·have h1 : s.length ≤ i := by assumption
  simp [nm_true h1 hn]
  exact Sub.refl _
def wordsB : List UInt8 := [32, 98, 97, 115, 101, 32, 98, 114, 101, 97, 107, 32, 99, 97, 115, 101, 32, 99, 97, 116, 99, 104, 32, 99, 108, 97, 115, 115, 32, 99, 108, 111, 110, 101, 32, 99, 111, 110, 115, 116, 32, 99, 111, 110, 115, 116, 114, 117, 99, 116, 111, 114, 32, 99, 111, 110, 116, 105, 110, 117, 101, 32, 100, 101, 102, 97, 117, 108, 116, 32, 100, 101, 108, 101, 116, 101, 32, 100, 111, 32, 101, 108, 115, 101, 32, 101, 110, 117, 109, 32, 101, 120, 116, 101, 110, 100, 115, 32, 102, 97, 108, 115, 101, 32, 102, 111, 114, 32, 102, 111, 114, 101, 97, 99, 104, 32, 102, 117, 110, 99, 116, 105, 111, 110, 32, 105, 102, 32, 105, 110, 32, 105, 110, 115, 116, 97, 110, 99, 101, 111, 102, 32, 108, 111, 99, 97, 108, 32, 110, 117, 108, 108, 32, 114, 101, 115, 117, 109, 101, 32, 114, 101, 116, 117, 114, 110, 32, 115, 116, 97, 116, 105, 99, 32, 115, 119, 105, 116, 99, 104, 32, 116, 104, 105, 115, 32, 116, 104, 114, 111, 119, 32, 116, 114, 117, 101, 32, 116, 114, 121, 32, 116, 121, 112, 101, 111, 102, 32, 119, 104, 105, 108, 101, 32, 121, 105, 101, 108, 100, 32]
def keyL (s : List UInt8) : Bool := nmL s && Lib.contains wordsB ([32] ++ s ++ [32])
theorem Keyword_c (s : List UInt8) (hs : s.length < 4294967200) (h : Heap) (hg : h 0 = some .gint) (R : AV → Heap → Prop) (hR : R (.bool (keyL s)) h) : ACalls Tryz.prog 99 [.str s] h R := by
 refine ACalls.pure ?_ hR
 clear hR
 cases hn : nmL s
 ·refine acalls_of Tryz.func99 rfl Tryz.ntmps99 (congrArg Array.toList Tryz.results99) fun Q hQ => ?_
  (focus repeat' first|refine ga ?_|(refine gb ?_;try simp[gz, *])|refine gk fun _ _=>?_|refine gc ?_ ?_|exact gr _|refine gi fun _=>?_|(refine gn ?_ ?_;focus(intros;simp[*];done)))
  refine Name_c s (by omega) _ _ ?_
  simp [gz, *]
  (focus repeat' first|refine ga ?_|(refine gb ?_;try simp[gz, *])|refine gk fun _ _=>?_|refine gc ?_ ?_|exact gr _|refine gi fun _=>?_|(refine gn ?_ ?_;focus(intros;simp[*];done)))
  exact ⟨by simp [keyL, hn], Sub.refl _⟩
 ·refine acalls_of Tryz.func99 rfl Tryz.ntmps99 (congrArg Array.toList Tryz.results99) fun Q hQ => ?_
  (focus repeat' first|refine ga ?_|(refine gb ?_;try simp[gz, *])|refine gk fun _ _=>?_|refine gc ?_ ?_|exact gr _|refine gi fun _=>?_|(refine gn ?_ ?_;focus(intros;simp[*];done)))
  refine Name_c s (by omega) _ _ ?_
  simp [gz, *]
  (focus repeat' first|refine ga ?_|(refine gb ?_;try simp[gz, *])|refine gk fun _ _=>?_|refine gc ?_ ?_|exact gr _|refine gi fun _=>?_|(refine gn ?_ ?_;focus(intros;simp[*];done)))
  refine Contains_c wordsB _ (by decide) _ hg _ ?_
  simp [gz, *]
  (focus repeat' first|refine ga ?_|(refine gb ?_;try simp[gz, *])|refine gk fun _ _=>?_|refine gc ?_ ?_|exact gr _|refine gi fun _=>?_|(refine gn ?_ ?_;focus(intros;simp[*];done)))
  exact ⟨by simp [keyL, hn], Sub.refl _⟩
def nameL (s : List UInt8) : Bool := nmL s && !keyL s
theorem name_c (s : List UInt8) (hs : s.length < 4294967200) (h : Heap) (hg : h 0 = some .gint) (R : AV → Heap → Prop) (hR : R (.bool (nameL s)) h) : ACalls Tryz.prog 64 [.str s] h R := by
 refine ACalls.pure ?_ hR
 clear hR
 cases hn : nmL s
 ·refine acalls_of Tryz.func64 rfl Tryz.ntmps64 (congrArg Array.toList Tryz.results64) fun Q hQ => ?_
  (focus repeat' first|refine ga ?_|(refine gb ?_;try simp[gz, *])|refine gk fun _ _=>?_|refine gc ?_ ?_|exact gr _|refine gi fun _=>?_|(refine gn ?_ ?_;focus(intros;simp[*];done)))
  refine Name_c s (by omega) _ _ ?_
  simp [gz, *]
  (focus repeat' first|refine ga ?_|(refine gb ?_;try simp[gz, *])|refine gk fun _ _=>?_|refine gc ?_ ?_|exact gr _|refine gi fun _=>?_|(refine gn ?_ ?_;focus(intros;simp[*];done)))
  exact ⟨by simp [nameL, hn], Sub.refl _⟩
 ·refine acalls_of Tryz.func64 rfl Tryz.ntmps64 (congrArg Array.toList Tryz.results64) fun Q hQ => ?_
  (focus repeat' first|refine ga ?_|(refine gb ?_;try simp[gz, *])|refine gk fun _ _=>?_|refine gc ?_ ?_|exact gr _|refine gi fun _=>?_|(refine gn ?_ ?_;focus(intros;simp[*];done)))
  refine Name_c s (by omega) _ _ ?_
  simp [gz, *]
  (focus repeat' first|refine ga ?_|(refine gb ?_;try simp[gz, *])|refine gk fun _ _=>?_|refine gc ?_ ?_|exact gr _|refine gi fun _=>?_|(refine gn ?_ ?_;focus(intros;simp[*];done)))
  refine Keyword_c s hs _ hg _ ?_
  simp [gz, *]
  (focus repeat' first|refine ga ?_|(refine gb ?_;try simp[gz, *])|refine gk fun _ _=>?_|refine gc ?_ ?_|exact gr _|refine gi fun _=>?_|(refine gn ?_ ?_;focus(intros;simp[*];done)))
  exact ⟨by simp [nameL, hn], Sub.refl _⟩
end Go.Proofs.YtcbgpjlcfkkdlaaGreatDoor

namespace Go.Proofs.YtcbgpjlcfkkdlaaGreatDoor
open Go Go.AL Go.Proofs
def unaryB : List UInt8 := [45, 32, 33, 32, 126, 32, 116, 121, 112, 101, 111, 102, 32, 99, 108, 111, 110, 101, 32, 114, 101, 115, 117, 109, 101, 32, 100, 101, 108, 101, 116, 101]
def assignB : List UInt8 := [61, 32, 60, 45, 32, 43, 61, 32, 45, 61, 32, 42, 61, 32, 47, 61, 32, 37, 61]
def stepB : List UInt8 := [43, 43, 32, 45, 45]
def binB : List UInt8 := [124, 124, 10, 38, 38, 10, 124, 10, 94, 10, 38, 10, 61, 61, 32, 33, 61, 32, 60, 61, 62, 10, 60, 32, 60, 61, 32, 62, 32, 62, 61, 32, 105, 110, 32, 105, 110, 115, 116, 97, 110, 99, 101, 111, 102, 10, 60, 60, 32, 62, 62, 32, 62, 62, 62, 10, 43, 32, 45, 10, 42, 32, 47, 32, 37]
theorem Assign_c (s : List UInt8) (h : Heap) (hg : h 0 = some .gint) (R : AV → Heap → Prop) (hR : R (.bool (amongL s assignB)) h) :
  ACalls Tryz.prog 67 [.str s] h R := by
 refine ACalls.pure ?_ hR
 clear hR
 refine acalls_of Tryz.func67 rfl Tryz.ntmps67 (congrArg Array.toList Tryz.results67) fun Q hQ => ?_
 (focus repeat' first|refine ga ?_|(refine gb ?_;try simp[gz, *])|refine gk fun _ _=>?_|refine gc ?_ ?_|exact gr _|refine gi fun _=>?_|(refine gn ?_ ?_;focus(intros;simp[*];done)))
 refine among_c s assignB (by decide) _ hg _ ?_
 simp [gz, *]
 (focus repeat' first|refine ga ?_|(refine gb ?_;try simp[gz, *])|refine gk fun _ _=>?_|refine gc ?_ ?_|exact gr _|refine gi fun _=>?_|(refine gn ?_ ?_;focus(intros;simp[*];done)))
theorem Step_c (s : List UInt8) (h : Heap) (hg : h 0 = some .gint) (R : AV → Heap → Prop) (hR : R (.bool (amongL s stepB)) h) :
  ACalls Tryz.prog 68 [.str s] h R := by
 refine ACalls.pure ?_ hR
 clear hR
 refine acalls_of Tryz.func68 rfl Tryz.ntmps68 (congrArg Array.toList Tryz.results68) fun Q hQ => ?_
 (focus repeat' first|refine ga ?_|(refine gb ?_;try simp[gz, *])|refine gk fun _ _=>?_|refine gc ?_ ?_|exact gr _|refine gi fun _=>?_|(refine gn ?_ ?_;focus(intros;simp[*];done)))
 refine among_c s stepB (by decide) _ hg _ ?_
 simp [gz, *]
 (focus repeat' first|refine ga ?_|(refine gb ?_;try simp[gz, *])|refine gk fun _ _=>?_|refine gc ?_ ?_|exact gr _|refine gi fun _=>?_|(refine gn ?_ ?_;focus(intros;simp[*];done)))
def linesB : List (List UInt8) := Lib.split binB [10]
def levelL (op : List UInt8) : Int := match linesB.findIdx? (fun l => decide (op ∈ Lib.split l [32])) with | some i => (i : Int) | none => -1
theorem lines_short : ∀ l ∈ linesB, l.length < 100 := by decide +kernel
theorem level_at {op : List UInt8} {i : Nat} (hi : i < linesB.length) (h : op ∈ Lib.split linesB[i] [32]) (hn : ∀ j, j < i → ∀ l, linesB[j]? = some l → op ∉ Lib.split l [32]) : levelL op = i := by
 have : linesB.findIdx? (fun l => decide (op ∈ Lib.split l [32])) = some i := by
  rw [List.findIdx?_eq_some_iff_getElem]
  refine ⟨hi, by simpa using h, fun j hj => ?_⟩
  have := hn j hj _ (List.getElem?_eq_getElem (by omega))
  simpa using this
 simp only [levelL, this]
theorem level_none {op : List UInt8} (hn : ∀ j, j < linesB.length → ∀ l, linesB[j]? = some l → op ∉ Lib.split l [32]) : levelL op = -1 := by
 have : linesB.findIdx? (fun l => decide (op ∈ Lib.split l [32])) = none := by
  rw [List.findIdx?_eq_none_iff]
  intro l hl
  obtain ⟨j, hj, rfl⟩ := List.getElem_of_mem hl
  have := hn j hj _ (List.getElem?_eq_getElem hj)
  simpa using this
 simp only [levelL, this]
theorem Level_c (op : List UInt8) (h : Heap) (hg : h 0 = some .gint) (R : AV → Heap → Prop) (hR : R (.int .i64 (levelL op)) h) : ACalls Tryz.prog 66 [.str op] h R := by
 refine ACalls.pure ?_ hR
 clear hR
 have hlen : linesB.length = 10 := by decide +kernel
 have hsp : Lib.split binB [10] = linesB := rfl
 refine acalls_of Tryz.func66 rfl Tryz.ntmps66 (congrArg Array.toList Tryz.results66) fun Q hQ => ?_
 (focus repeat' first|refine ga ?_|(refine gb ?_;try simp[gz, *])|refine gk fun _ _=>?_|refine gc ?_ ?_|exact gr _|refine gi fun _=>?_|(refine gn ?_ ?_;focus(intros;simp[*];done)))
 refine Split_c binB [10] (by decide) (by decide) _ hg _ ?_
 simp [gz, *]
 (focus repeat' first|refine ga ?_|(refine gb ?_;try simp[gz, *])|refine gk fun _ _=>?_|refine gc ?_ ?_|exact gr _|refine gi fun _=>?_|(refine gn ?_ ?_;focus(intros;simp[*];done)))
 refine awp_loop_h [2,3,4,7,8,9,10,11,12,13,14,15,16,17] (fun n x g => ∃ i : Nat, i ≤ linesB.length ∧ n = linesB.length - i ∧ x 7 = .int .i64 i ∧ (∀ j, j < i → ∀ l, linesB[j]? = some l → op ∉ Lib.split l [32]) ∧ g = h) linesB.length ⟨0, by omega, by omega, rfl, by simp, rfl⟩ (fun n x g hI K hK => ?_)
 obtain ⟨i, hi, rfl, hx, hn, rfl⟩ := hI
 have w1 : IntKind.i64.wrap ((i : Int) + 1) = i + 1 := w64 (by omega) (by omega)
 by_cases hlt : i < linesB.length
 ·have hs := lines_short linesB[i] (List.getElem_mem hlt)
  have hlt2 : i < 10 := by omega
  have hns := split_len linesB[i] [32] (by simp)
  simp (maxSteps := 10000000) only [AgainAt, hav_nil, hav_end, hav_cons, Nat.reduceAdd, Nat.reduceEqDiff, if_true, if_false]
  (focus repeat' first|refine ga ?_|(refine gb ?_;try simp[gz, *])|refine gk fun _ _=>?_|refine gc ?_ ?_|exact gr _|refine gi fun _=>?_|(refine gn ?_ ?_;focus(intros;simp[*];done)))
  refine Split_c _ [32] (by omega) (by decide) _ hg _ ?_
  simp [gz, *]
  refine Has_c _ op _ (by omega) _ _ ?_
  simp [gz, *]
  (focus repeat' first|refine ga ?_|(refine gb ?_;try simp[gz, *])|refine gk fun _ _=>?_|refine gc ?_ ?_|exact gr _|refine gi fun _=>?_|(refine gn ?_ ?_;focus(intros;simp[*];done)))
  ·refine ⟨(level_at hlt (by assumption) hn).symm, Sub.refl _⟩
  ·exact ⟨by simp [hav], rfl, linesB.length - (i + 1), _, by omega, Sub.refl _, i + 1, by omega, rfl, by simp, fun j hj l hl => by
    by_cases e : j < i
    ·exact hn j e l hl
    ·have : j = i := by omega
     subst this
     rw [List.getElem?_eq_getElem hlt] at hl
     rw [← Option.some.inj hl]; assumption, rfl⟩
 ·have hge : ¬ i < 10 := by omega
  simp (maxSteps := 10000000) only [AgainAt, hav_nil, hav_end, hav_cons, Nat.reduceAdd, Nat.reduceEqDiff, if_true, if_false]
  (focus repeat' first|refine ga ?_|(refine gb ?_;try simp[gz, *])|refine gk fun _ _=>?_|refine gc ?_ ?_|exact gr _|refine gi fun _=>?_|(refine gn ?_ ?_;focus(intros;simp[*];done)))
  refine ⟨(level_none fun j hj => hn j (by omega)).symm, Sub.refl _⟩
end Go.Proofs.YtcbgpjlcfkkdlaaGreatDoor

namespace Go.Proofs.YtcbgpjlcfkkdlaaGreatDoor
open Go Go.AL Go.Proofs
structure Nd where
 kind : Int
 pos : Int
 text : List UInt8
 num : Int
 kids : List Int
abbrev ints (l : List Int) : List (List AV) := l.map fun n => [.int .i64 n]
abbrev ndRow (n : Nd) (t : Tok) : List AV := [.int .i64 n.kind, .int .i64 n.pos, .str n.text, .int .i64 n.num, .list 1 (ints n.kids) t]
def shapeL (k : Int) (text : List UInt8) : List Int × Int :=
 if k = 9 then (if text = [100, 101, 108, 101, 116, 101] then ([4], 0) else ([1], 0))
 else if k = 15 ∨ k = 28 ∨ k = 39 then ([1], 0)
 else if k = 10 ∨ k = 14 then ([1, 1], 0)
 else if k = 11 then ([1, 1, 1], 0)
 else if k = 12 then ([4, 1], 0)
 else if k = 13 then ([4], 0)
 else if k = 17 then ([1], 1)
 else if k = 18 ∨ k = 19 then ([], 1)
 else if k = 21 then ([4097], 32)
 else if k = 22 ∨ k = 27 ∨ k = 37 ∨ k = 38 then ([4097], 0)
 else if k = 23 then ([1, 1], 0)
 else if k = 24 then ([4097], 2)
 else if k = 26 then ([], 2)
 else if k = 29 then ([1, 512, 5120], 0)
 else if k = 30 ∨ k = 33 then ([1, 512], 0)
 else if k = 31 then ([512, 1], 0)
 else if k = 32 then ([6144, 4097, 4097, 512], 0)
 else if k = 34 then ([1], 64)
 else if k = 40 then ([512, 512], 0)
 else if k = 41 then ([8], 0)
 else if k = 42 then ([], 128)
 else ([], 0)
theorem shape_c (n : Nd) (t : Tok) (h : Heap) (R : AV → Heap → Prop) (hR : ∀ tok, R (.tup [.list 1 (ints (shapeL n.kind n.text).1) tok, .int .i64 (shapeL n.kind n.text).2]) h) :
  ACalls Tryz.prog 70 [.agg (ndRow n t)] h R := by
 refine ACalls.subR (R := fun y h' => (∃ tok, y = (.tup [.list 1 (ints (shapeL n.kind n.text).1) tok, .int .i64 (shapeL n.kind n.text).2])) ∧ Sub h h') ?_ (fun x h' ⟨⟨tok, h1⟩, h3⟩ => ⟨h, h3, h1 ▸ hR tok⟩)
 clear hR
 obtain ⟨k, p, text, num, kids⟩ := n
 refine acalls_of Tryz.func70 rfl Tryz.ntmps70 (congrArg Array.toList Tryz.results70) fun Q hQ => ?_
 (focus repeat' first|refine ga ?_|(refine gb ?_;try simp[gz, *])|refine gk fun _ _=>?_|refine gc ?_ ?_|exact gr _|refine gi fun _=>?_|(refine gn ?_ ?_;focus(intros;simp[*];done)))
 intro b1 hb1; simp only [Fresh, Heap.set_none] at hb1; try simp [gz, *]
 (focus repeat' first|refine ga ?_|(refine gb ?_;try simp[gz, *])|refine gk fun _ _=>?_|refine gc ?_ ?_|exact gr _|refine gi fun _=>?_|(refine gn ?_ ?_;focus(intros;simp[*];done)))
 all_goals exact ⟨by simp [shapeL, *], (Sub.refl h).loc hb1 _⟩
end Go.Proofs.YtcbgpjlcfkkdlaaGreatDoor

namespace Go.Proofs.YtcbgpjlcfkkdlaaGreatDoor
open Go Go.AL Go.Proofs
abbrev row (n : Nd) : List AV := ndRow n .no
abbrev treeAV (nodes : List Nd) (t : Tok) : AV := .agg [.list 5 (nodes.map row) t]
def kindAt (nodes : List Nd) (k : Int) : Int := ((nodes[k.toNat]?).map Nd.kind).getD 0
def kidFine (nodes : List Nd) (k w : Int) : Bool := if k = -1 ∧ ¬ bitAnd .i64 w 4096 = 0 then true else decide (0 ≤ k) && fitsL (kindAt nodes k) w
def wantF (n : Nd) (i : Nat) : Int := if i + 1 = n.kids.length then 512 else 16
def funcKidsL (nodes : List Nd) (n : Nd) : Bool := decide (0 ≤ n.num) && decide ((n.kids.length : Int) = n.num + 1) && decide (∀ i (h : i < n.kids.length), 0 ≤ n.kids[i] ∧ fitsL (kindAt nodes n.kids[i]) (wantF n i) = true)
theorem kindAt_get {nodes : List Nd} {k : Nat} (h : k < nodes.length) : kindAt nodes (k : Int) = nodes[k].kind := by simp [kindAt, h]
theorem funcKids_bad {nodes : List Nd} {n : Nd} {i : Nat} (h : i < n.kids.length) (hb : ¬ (0 ≤ n.kids[i] ∧ fitsL (kindAt nodes n.kids[i]) (wantF n i) = true)) : funcKidsL nodes n = false := by
 simp only [funcKidsL, Bool.and_eq_false_iff, decide_eq_false_iff_not]
 exact .inr fun h' => hb (h' i h)
theorem funcKids_c (nodes : List Nd) (n : Nd) (t : Tok) (hl : nodes.length ≤ 131072) (hkl : n.kids.length ≤ 281474976710656) (hn : n.num ≤ 9223372036854775807) (hk : ∀ k ∈ n.kids, -1 ≤ k ∧ k < nodes.length) (h : Heap) (R : AV → Heap → Prop)
  (hR : R (.bool (funcKidsL nodes n)) h) : ACalls Tryz.prog 71 [treeAV nodes t, .agg (row n)] h R := by
 refine ACalls.pure ?_ hR
 clear hR
 by_cases h1 : n.num < 0
 ·refine acalls_of Tryz.func71 rfl Tryz.ntmps71 (congrArg Array.toList Tryz.results71) fun Q hQ => ?_
  (focus repeat' first|refine ga ?_|(refine gb ?_;try simp[gz, *])|refine gk fun _ _=>?_|refine gc ?_ ?_|exact gr _|refine gi fun _=>?_|(refine gn ?_ ?_;focus(intros;simp[*];done)))
  intro b1 hb1; simp only [Fresh, Heap.set_none] at hb1; try simp [gz, *]
  intro b2 hb2; simp only [Fresh, Heap.set_none] at hb2; try simp [gz, *]
  (focus repeat' first|refine ga ?_|(refine gb ?_;try simp[gz, *])|refine gk fun _ _=>?_|refine gc ?_ ?_|exact gr _|refine gi fun _=>?_|(refine gn ?_ ?_;focus(intros;simp[*];done)))
  exact ⟨by simp [funcKidsL]; omega, ((Sub.refl h).loc hb1 _).loc (by simp [*]) _⟩
 by_cases h2 : (n.kids.length : Int) = n.num + 1
 ·have w1 : IntKind.i64.wrap (n.num + 1) = n.num + 1 := w64 (by omega) (by omega)
  have w2 : IntKind.i64.wrap n.num = n.num := w64 (by omega) (by omega)
  refine acalls_of Tryz.func71 rfl Tryz.ntmps71 (congrArg Array.toList Tryz.results71) fun Q hQ => ?_
  (focus repeat' first|refine ga ?_|(refine gb ?_;try simp[gz, *])|refine gk fun _ _=>?_|refine gc ?_ ?_|exact gr _|refine gi fun _=>?_|(refine gn ?_ ?_;focus(intros;simp[*];done)))
  intro b1 hb1; simp only [Fresh, Heap.set_none] at hb1; try simp [gz, *]
  intro b2 hb2; simp only [Fresh, Heap.set_none] at hb2; try simp [gz, *]
  (focus repeat' first|refine ga ?_|(refine gb ?_;try simp[gz, *])|refine gk fun _ _=>?_|refine gc ?_ ?_|exact gr _|refine gi fun _=>?_|(refine gn ?_ ?_;focus(intros;simp[*];done)))
  refine awp_loop_h [4,5,6,7,23,24,25,26,27,28,29,30,31,32,33,34,35,36,37,38,39,40,41,42,43,44,45,46,47] (fun m x g => ∃ i : Nat, i ≤ n.kids.length ∧ m = n.kids.length - i ∧ x 23 = .int .i64 i ∧ (∀ j (hj : j < n.kids.length), j < i → 0 ≤ n.kids[j] ∧ fitsL (kindAt nodes n.kids[j]) (wantF n j) = true) ∧ g = (h.set b1 (.cells [AV.list 5 (List.map row nodes) t])).set b2 (.cells (row n))) n.kids.length ⟨0, by omega, by omega, rfl, by simp, rfl⟩ (fun m x g hI K hK => ?_)
  obtain ⟨i, hi, rfl, hx, hn, rfl⟩ := hI
  have w3 : IntKind.i64.wrap ((i : Int) + 1) = i + 1 := w64 (by omega) (by omega)
  by_cases hlt : i < n.kids.length
  ·have hlt2 : (i : Int) < n.num + 1 := by omega
   have hkm := hk n.kids[i] (List.getElem_mem hlt)
   have hsub : AL.Sub h ((h.set b1 (.cells [AV.list 5 (List.map row nodes) t])).set b2 (.cells (row n))) := ((Sub.refl h).loc hb1 _).loc (by simp [*]) _
   by_cases h0 : n.kids[i] < 0
   ·simp (maxSteps := 10000000) only [AgainAt, hav_nil, hav_end, hav_cons, Nat.reduceAdd, Nat.reduceEqDiff, if_true, if_false]
    (focus repeat' first|refine ga ?_|(refine gb ?_;try simp[gz, *])|refine gk fun _ _=>?_|refine gc ?_ ?_|exact gr _|refine gi fun _=>?_|(refine gn ?_ ?_;focus(intros;simp[*];done)))
    all_goals exact funcKids_bad hlt (by omega)
   ·obtain ⟨m, hm⟩ := Int.eq_ofNat_of_zero_le (a := n.kids[i]) (by omega)
    have hml : m < nodes.length := by omega
    have hkind := kindAt_get hml
    have hgo : ∀ w, fitsL nodes[m].kind w = true → w = wantF n i → ∀ j (hj : j < n.kids.length), j < i + 1 → 0 ≤ n.kids[j] ∧ fitsL (kindAt nodes n.kids[j]) (wantF n j) = true := by
     intro w hf hw j hj hji
     by_cases e : j < i
     ·exact hn j hj e
     ·have : j = i := by omega
      subst this
      rw [hm, hkind, ← hw]; exact ⟨by omega, hf⟩
    have hstop : ∀ w, ((m : Int) < 0 ∨ fitsL nodes[m].kind w = false) → w = wantF n i → funcKidsL nodes n = false := by
     intro w hf hw
     have hf : fitsL nodes[m].kind w = false := by rcases hf with hf | hf; omega; exact hf
     refine funcKids_bad hlt ?_
     rw [hm, hkind, ← hw, hf]; simp
    simp (maxSteps := 10000000) only [AgainAt, hav_nil, hav_end, hav_cons, Nat.reduceAdd, Nat.reduceEqDiff, if_true, if_false]
    (focus repeat' first|refine ga ?_|(refine gb ?_;try simp[gz, *])|refine gk fun _ _=>?_|refine gc ?_ ?_|exact gr _|refine gi fun _=>?_|(refine gn ?_ ?_;focus(intros;simp[*];done)))
    all_goals (refine fits_c _ _ _ _ ?_; simp [gz, *]; (focus repeat' first|refine ga ?_|(refine gb ?_;try simp[gz, *])|refine gk fun _ _=>?_|refine gc ?_ ?_|exact gr _|refine gi fun _=>?_|(refine gn ?_ ?_;focus(intros;simp[*];done))))
    all_goals first
     | exact hstop _ (.inr (by assumption)) (by simp only [wantF]; split <;> first | rfl | omega)
     | exact ⟨by simp [hav], rfl, n.kids.length - (i + 1), _, by omega, Sub.refl _, i + 1, by omega, rfl, by simp; try omega, hgo _ (by assumption) (by simp only [wantF]; split <;> first | rfl | omega), rfl⟩
  ·have hge : ¬ (i : Int) < n.num + 1 := by omega
   simp (maxSteps := 10000000) only [AgainAt, hav_nil, hav_end, hav_cons, Nat.reduceAdd, Nat.reduceEqDiff, if_true, if_false]
   (focus repeat' first|refine ga ?_|(refine gb ?_;try simp[gz, *])|refine gk fun _ _=>?_|refine gc ?_ ?_|exact gr _|refine gi fun _=>?_|(refine gn ?_ ?_;focus(intros;simp[*];done)))
   refine ⟨?_, ((Sub.refl h).loc hb1 _).loc (by simp [*]) _⟩
   simp only [funcKidsL, Bool.and_eq_true, decide_eq_true_eq]
   exact ⟨⟨by omega, h2⟩, fun j hj => hn j hj (by omega)⟩
 ·have w1 : ¬ (n.kids.length : Int) = IntKind.i64.wrap (n.num + 1) := by
   rw [IntKind.wrap_i64]; omega
  refine acalls_of Tryz.func71 rfl Tryz.ntmps71 (congrArg Array.toList Tryz.results71) fun Q hQ => ?_
  (focus repeat' first|refine ga ?_|(refine gb ?_;try simp[gz, *])|refine gk fun _ _=>?_|refine gc ?_ ?_|exact gr _|refine gi fun _=>?_|(refine gn ?_ ?_;focus(intros;simp[*];done)))
  intro b1 hb1; simp only [Fresh, Heap.set_none] at hb1; try simp [gz, *]
  intro b2 hb2; simp only [Fresh, Heap.set_none] at hb2; try simp [gz, *]
  (focus repeat' first|refine ga ?_|(refine gb ?_;try simp[gz, *])|refine gk fun _ _=>?_|refine gc ?_ ?_|exact gr _|refine gi fun _=>?_|(refine gn ?_ ?_;focus(intros;simp[*];done)))
  exact ⟨by simp [funcKidsL, h2], ((Sub.refl h).loc hb1 _).loc (by simp [*]) _⟩
end Go.Proofs.YtcbgpjlcfkkdlaaGreatDoor

namespace Go.Proofs.YtcbgpjlcfkkdlaaGreatDoor
open Go Go.AL Go.Proofs
theorem One_c (s : List UInt8) (l : List (List UInt8)) (tok : Tok) (hl : l.length ≤ 1000000) (h : Heap) (R : AV → Heap → Prop) (hR : R (.bool (decide (s ∈ l))) h) :
  ACalls Tryz.prog 32 [.str s, .list 1 (strs l) tok] h R := by
 refine ACalls.pure ?_ hR
 clear hR
 refine acalls_of Tryz.func32 rfl Tryz.ntmps32 (congrArg Array.toList Tryz.results32) fun Q hQ => ?_
 (focus repeat' first|refine ga ?_|(refine gb ?_;try simp[gz, *])|refine gk fun _ _=>?_|refine gc ?_ ?_|exact gr _|refine gi fun _=>?_|(refine gn ?_ ?_;focus(intros;simp[*];done)))
 refine awp_loop_h [4,5,6,7,8,9,10,11,12,13,14,15,16,17] (fun n x g => ∃ i : Nat, i ≤ l.length ∧ n = l.length - i ∧ x 5 = .int .i64 i ∧ (∀ j (hj : j < l.length), j < i → l[j] ≠ s) ∧ g = h) l.length ⟨0, by omega, by omega, rfl, by simp, rfl⟩ (fun n x g hI K hK => ?_)
 obtain ⟨i, hi, rfl, hx, hn, rfl⟩ := hI
 have w1 : IntKind.i64.wrap ((i : Int) + 1) = i + 1 := w64 (by omega) (by omega)
 by_cases hlt : i < l.length
 ·by_cases he : l[i] = s
  ·have hm : s ∈ l := he ▸ List.getElem_mem hlt
   simp (maxSteps := 10000000) only [AgainAt, hav_nil, hav_end, hav_cons, Nat.reduceAdd, Nat.reduceEqDiff, if_true, if_false]
   (focus repeat' first|refine ga ?_|(refine gb ?_;try simp[gz, *])|refine gk fun _ _=>?_|refine gc ?_ ?_|exact gr _|refine gi fun _=>?_|(refine gn ?_ ?_;focus(intros;simp[*];done)))
   all_goals trace_state
  ·simp (maxSteps := 10000000) only [AgainAt, hav_nil, hav_end, hav_cons, Nat.reduceAdd, Nat.reduceEqDiff, if_true, if_false]
   (focus repeat' first|refine ga ?_|(refine gb ?_;try simp[gz, *])|refine gk fun _ _=>?_|refine gc ?_ ?_|exact gr _|refine gi fun _=>?_|(refine gn ?_ ?_;focus(intros;simp[*];done)))
   all_goals first
    | exact ⟨by simp [hav], rfl, l.length - (i + 1), _, by omega, Sub.refl _, i + 1, by omega, rfl, by simp, fun j hj hji => by
      by_cases e : j < i
      ·exact hn j hj e
      ·have : j = i := by omega
       subst this; exact he, rfl⟩
 ·have hm : ¬ s ∈ l := fun hm => by
   obtain ⟨j, hj, e⟩ := List.getElem_of_mem hm
   exact hn j hj (by omega) e
  simp (maxSteps := 10000000) only [AgainAt, hav_nil, hav_end, hav_cons, Nat.reduceAdd, Nat.reduceEqDiff, if_true, if_false]
  (focus repeat' first|refine ga ?_|(refine gb ?_;try simp[gz, *])|refine gk fun _ _=>?_|refine gc ?_ ?_|exact gr _|refine gi fun _=>?_|(refine gn ?_ ?_;focus(intros;simp[*];done)))
  all_goals trace_state
def lvlsB : List (List (List UInt8)) := [[[124, 124]], [[38, 38]], [[124]], [[94]], [[38]], [[61, 61], [33, 61], [60, 61, 62]], [[60], [60, 61], [62], [62, 61], [105, 110], [105, 110, 115, 116, 97, 110, 99, 101, 111, 102]], [[60, 60], [62, 62], [62, 62, 62]], [[43], [45]], [[42], [47], [37]]]
abbrev lvlRows : List (List AV) := lvlsB.map fun l => [.list 1 (strs l) .full]
theorem Levels_c (h : Heap) (R : AV → Heap → Prop) (hR : R (.list 1 lvlRows .full) h) : ACalls Tryz.prog 31 [] h R := by
 refine ACalls.pure ?_ hR
 clear hR
 refine acalls_of Tryz.func31 rfl Tryz.ntmps31 (congrArg Array.toList Tryz.results31) fun Q hQ => ?_
 refine awp_seq_k fun K hK => ?_
 refine awp_region ?_
 simp [gz, *]
 refine Keep.go (by assumption) ?_
 refine awp_seq_k fun K2 hK2 => ?_
 refine awp_region ?_
 simp (maxSteps := 10000000) [Heap.set_get, *]
 (focus repeat' first|refine ga ?_|(refine gb ?_;try simp[gz, *])|refine gk fun _ _=>?_|refine gc ?_ ?_|exact gr _|refine gi fun _=>?_|(refine gn ?_ ?_;focus(intros;simp[*];done)))
 all_goals first
  | exact ⟨rfl, Sub.refl _⟩
theorem splits_eq : linesB.map (fun l => Lib.split l [32]) = lvlsB := by decide +kernel
theorem level_ref (op : List UInt8) : levelL op = match lvlsB.findIdx? (fun l => decide (op ∈ l)) with | some i => (i : Int) | none => -1 := by
 rw [← splits_eq, List.findIdx?_map]
 rfl
theorem lvl_at {op : List UInt8} {i : Nat} (hi : i < lvlsB.length) (h : op ∈ lvlsB[i]) (hn : ∀ j (hj : j < lvlsB.length), j < i → op ∉ lvlsB[j]) : levelL op = i := by
 have : lvlsB.findIdx? (fun l => decide (op ∈ l)) = some i := by
  rw [List.findIdx?_eq_some_iff_getElem]
  exact ⟨hi, by simpa using h, fun j hj => by simpa using hn j (by omega) hj⟩
 rw [level_ref, this]
theorem lvl_none {op : List UInt8} (hn : ∀ j (hj : j < lvlsB.length), op ∉ lvlsB[j]) : levelL op = -1 := by
 have : lvlsB.findIdx? (fun l => decide (op ∈ l)) = none := by
  rw [List.findIdx?_eq_none_iff]
  intro l hl
  obtain ⟨j, hj, rfl⟩ := List.getElem_of_mem hl
  simpa using hn j hj
 rw [level_ref, this]
theorem lvl_short : ∀ l ∈ lvlsB, l.length ≤ 1000000 := by decide +kernel
theorem RLevel_c (op : List UInt8) (h : Heap) (R : AV → Heap → Prop) (hR : R (.int .i64 (levelL op)) h) : ACalls Tryz.prog 12 [.str op] h R := by
 refine ACalls.pure ?_ hR
 clear hR
 have hlen : lvlsB.length = 10 := rfl
 refine acalls_of Tryz.func12 rfl Tryz.ntmps12 (congrArg Array.toList Tryz.results12) fun Q hQ => ?_
 (focus repeat' first|refine ga ?_|(refine gb ?_;try simp[gz, *])|refine gk fun _ _=>?_|refine gc ?_ ?_|exact gr _|refine gi fun _=>?_|(refine gn ?_ ?_;focus(intros;simp[*];done)))
 refine Levels_c _ _ ?_
 simp [gz, *]
 (focus repeat' first|refine ga ?_|(refine gb ?_;try simp[gz, *])|refine gk fun _ _=>?_|refine gc ?_ ?_|exact gr _|refine gi fun _=>?_|(refine gn ?_ ?_;focus(intros;simp[*];done)))
 refine awp_loop_h [2,4,6,7,8,9,10,11,12,13,14,15,16,17,18] (fun n x g => ∃ i : Nat, i ≤ 10 ∧ n = 10 - i ∧ x 4 = .int .i64 i ∧ (∀ j (hj : j < lvlsB.length), j < i → op ∉ lvlsB[j]) ∧ g = h) 10 ⟨0, by omega, by omega, rfl, by simp, rfl⟩ (fun n x g hI K hK => ?_)
 obtain ⟨i, hi, rfl, hx, hn, rfl⟩ := hI
 have w1 : IntKind.i64.wrap ((i : Int) + 1) = i + 1 := w64 (by omega) (by omega)
 by_cases hlt : i < 10
 ·have hlt' : i < lvlsB.length := by omega
  by_cases hm : op ∈ lvlsB[i]
  ·have hlv := lvl_at hlt' hm hn
   simp (maxSteps := 10000000) only [AgainAt, hav_nil, hav_end, hav_cons, Nat.reduceAdd, Nat.reduceEqDiff, if_true, if_false]
   (focus repeat' first|refine ga ?_|(refine gb ?_;try simp[gz, *])|refine gk fun _ _=>?_|refine gc ?_ ?_|exact gr _|refine gi fun _=>?_|(refine gn ?_ ?_;focus(intros;simp[*];done)))
   refine One_c op lvlsB[i] .full (lvl_short _ (List.getElem_mem hlt')) _ _ ?_
   simp [gz, *]
   (focus repeat' first|refine ga ?_|(refine gb ?_;try simp[gz, *])|refine gk fun _ _=>?_|refine gc ?_ ?_|exact gr _|refine gi fun _=>?_|(refine gn ?_ ?_;focus(intros;simp[*];done)))
   all_goals trace_state
  ·simp (maxSteps := 10000000) only [AgainAt, hav_nil, hav_end, hav_cons, Nat.reduceAdd, Nat.reduceEqDiff, if_true, if_false]
   (focus repeat' first|refine ga ?_|(refine gb ?_;try simp[gz, *])|refine gk fun _ _=>?_|refine gc ?_ ?_|exact gr _|refine gi fun _=>?_|(refine gn ?_ ?_;focus(intros;simp[*];done)))
   refine One_c op lvlsB[i] .full (lvl_short _ (List.getElem_mem hlt')) _ _ ?_
   simp [gz, *]
   (focus repeat' first|refine ga ?_|(refine gb ?_;try simp[gz, *])|refine gk fun _ _=>?_|refine gc ?_ ?_|exact gr _|refine gi fun _=>?_|(refine gn ?_ ?_;focus(intros;simp[*];done)))
   all_goals first
    | exact ⟨by simp [hav], rfl, 10 - (i + 1), _, by omega, Sub.refl _, i + 1, by omega, rfl, by simp, fun j hj hji => by
      by_cases e : j < i
      ·exact hn j hj e
      ·have : j = i := by omega
       subst this; exact hm, rfl⟩
 ·have hlv : levelL op = -1 := lvl_none fun j hj => hn j hj (by omega)
  have hi10 : i = 10 := by omega
  subst hi10
  simp (maxSteps := 10000000) only [AgainAt, hav_nil, hav_end, hav_cons, Nat.reduceAdd, Nat.reduceEqDiff, if_true, if_false]
  (focus repeat' first|refine ga ?_|(refine gb ?_;try simp[gz, *])|refine gk fun _ _=>?_|refine gc ?_ ?_|exact gr _|refine gi fun _=>?_|(refine gn ?_ ?_;focus(intros;simp[*];done)))
  all_goals trace_state
end Go.Proofs.YtcbgpjlcfkkdlaaGreatDoor

