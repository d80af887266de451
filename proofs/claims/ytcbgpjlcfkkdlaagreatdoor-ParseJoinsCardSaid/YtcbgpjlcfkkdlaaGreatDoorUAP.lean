import Derived.Test.YtcbgpjlcfkkdlaaGreatDoorUAN
set_option linter.unusedSimpArgs false
set_option linter.unusedVariables false
set_option maxRecDepth 100000
set_option maxHeartbeats 16000000
namespace Go.Proofs.YtcbgpjlcfkkdlaaGreatDoor
open Go Go.AL Go.Proofs
abbrev strs (l : List (List UInt8)) : List (List AV) := l.map fun p => [.str p]
theorem w64 {n : Int} (h0 : -9223372036854775808 ≤ n) (h1 : n ≤ 9223372036854775807) : IntKind.i64.wrap n = n := by rw [IntKind.wrap_i64]; omega
theorem Index_c (l : List (List UInt8)) (v : List UInt8) (tok : Tok) (hl : l.length < 9223372036854775807) (h : Heap) (R : AV → Heap → Prop) (hR : ∀ k : Int, (0 ≤ k ↔ v ∈ l) → R (.int .i64 k) h) :
  ACalls Tryz.prog 144 [.list 1 (strs l) tok, .str v] h R := by
 refine ACalls.subR (R := fun y h' => ∃ k : Int, y = .int .i64 k ∧ (0 ≤ k ↔ v ∈ l) ∧ h' = h) ?_ (fun x h' ⟨k, h1, h2, h3⟩ => ⟨h, h3 ▸ Sub.refl _, h1 ▸ hR k h2⟩)
 clear hR
 refine acalls_of Tryz.func144 rfl Tryz.ntmps144 (congrArg Array.toList Tryz.results144) fun Q hQ => ?_
 (focus repeat' first|refine ga ?_|(refine gb ?_;try simp[gz, *])|refine gk fun _ _=>?_)
 refine awp_loop_h [4,5,8,9,10,11,12,13,14,15,16,17,18] (fun n x g => ∃ i : Nat, i ≤ l.length ∧ n = l.length - i ∧ x 8 = .int .i64 i ∧ (∀ j, j < i → l[j]? ≠ some v) ∧ g = h) l.length ⟨0, by omega, by omega, rfl, by simp, rfl⟩ (fun n x g hI K hK => ?_)
 obtain ⟨i, hi, rfl, hx, hn, rfl⟩ := hI
 have w1 : IntKind.i64.wrap ((i : Int) + 1) = i + 1 := w64 (by omega) (by omega)
 simp (maxSteps := 10000000) only [AgainAt, hav_nil, hav_end, hav_cons, Nat.reduceAdd, Nat.reduceEqDiff, if_true, if_false]
 (focus repeat' first|refine ga ?_|(refine gb ?_;try simp[gz, *])|refine gk fun _ _=>?_|refine gc ?_ ?_|exact gr _|refine gi fun _=>?_|(refine gn ?_ ?_;focus(intros;simp[*];done)))
 ·have h1 : i < l.length := by assumption
  have h2 : ¬ v = l[i] := by assumption
  have hj : ∀ j, j < i + 1 → l[j]? ≠ some v := fun j hj e => by
   by_cases hji : j < i
   ·exact hn j hji e
   ·have : j = i := by omega
    subst this
    rw [List.getElem?_eq_getElem h1] at e
    exact h2 (Option.some.inj e).symm
  exact ⟨by simp [hav], rfl, l.length - (i + 1), _, by omega, Sub.refl _, i + 1, by omega, rfl, by simp, hj, rfl⟩
 ·rename_i h2
  obtain ⟨j, hj, e⟩ := List.getElem_of_mem h2
  exact hn j (by omega) (by rw [List.getElem?_eq_getElem hj, e])
theorem Has_c (l : List (List UInt8)) (v : List UInt8) (tok : Tok) (hl : l.length < 9223372036854775807) (h : Heap) (R : AV → Heap → Prop) (hR : R (.bool (decide (v ∈ l))) h) :
  ACalls Tryz.prog 107 [.list 1 (strs l) tok, .str v] h R := by
 refine ACalls.pure ?_ hR
 refine acalls_of Tryz.func107 rfl Tryz.ntmps107 (congrArg Array.toList Tryz.results107) fun Q hQ => ?_
 (focus repeat' first|refine ga ?_|(refine gb ?_;try simp[gz, *])|refine gk fun _ _=>?_)
 refine Index_c l v tok hl _ _ (fun k hk => ?_)
 simp [Heap.set_get, hk, *]
 (focus repeat' first|refine ga ?_|(refine gb ?_;try simp[gz, *])|refine gk fun _ _=>?_|refine gc ?_ ?_|exact gr _|refine gi fun _=>?_|(refine gn ?_ ?_;focus(intros;simp[*];done)))
 all_goals ((repeat (refine Sub.loc ?_ (by simp [gz, *]) _)); first | exact Sub.refl _ | exact (Sub.refl _).upd _ _ | assumption)
theorem Expr_c (k : Int) (h : Heap) (R : AV → Heap → Prop) (hR : R (.bool (decide (1 ≤ k) && decide (k ≤ 21))) h) : ACalls Tryz.prog 109 [.int .i64 k] h R := by
 refine ACalls.pure ?_ hR
 clear hR
 refine acalls_of Tryz.func109 rfl Tryz.ntmps109 (congrArg Array.toList Tryz.results109) fun Q hQ => ?_
 (focus repeat' first|refine ga ?_|(refine gb ?_;try simp[gz, *])|refine gk fun _ _=>?_|refine gc ?_ ?_|exact gr _|refine gi fun _=>?_|(refine gn ?_ ?_;focus(intros;simp[*];done)))
 all_goals exact Sub.refl _
theorem Stmt_c (k : Int) (h : Heap) (R : AV → Heap → Prop) (hR : R (.bool (decide (26 ≤ k) && decide (k < 44))) h) : ACalls Tryz.prog 110 [.int .i64 k] h R := by
 refine ACalls.pure ?_ hR
 clear hR
 refine acalls_of Tryz.func110 rfl Tryz.ntmps110 (congrArg Array.toList Tryz.results110) fun Q hQ => ?_
 (focus repeat' first|refine ga ?_|(refine gb ?_;try simp[gz, *])|refine gk fun _ _=>?_|refine gc ?_ ?_|exact gr _|refine gi fun _=>?_|(refine gn ?_ ?_;focus(intros;simp[*];done)))
 all_goals exact Sub.refl _
theorem Target_c (k : Int) (h : Heap) (R : AV → Heap → Prop) (hR : R (.bool (decide (k = 6) || decide (k = 8) || decide (k = 14) || decide (k = 15))) h) : ACalls Tryz.prog 88 [.int .i64 k] h R := by
 refine ACalls.pure ?_ hR
 clear hR
 refine acalls_of Tryz.func88 rfl Tryz.ntmps88 (congrArg Array.toList Tryz.results88) fun Q hQ => ?_
 (focus repeat' first|refine ga ?_|(refine gb ?_;try simp[gz, *])|refine gk fun _ _=>?_|refine gc ?_ ?_|exact gr _|refine gi fun _=>?_|(refine gn ?_ ?_;focus(intros;simp[*];done)))
 all_goals exact Sub.refl _
theorem Literal_c (k : Int) (h : Heap) (R : AV → Heap → Prop) (hR : R (.bool (decide (1 ≤ k) && decide (k ≤ 5))) h) : ACalls Tryz.prog 111 [.int .i64 k] h R := by
 refine ACalls.pure ?_ hR
 clear hR
 refine acalls_of Tryz.func111 rfl Tryz.ntmps111 (congrArg Array.toList Tryz.results111) fun Q hQ => ?_
 (focus repeat' first|refine ga ?_|(refine gb ?_;try simp[gz, *])|refine gk fun _ _=>?_|refine gc ?_ ?_|exact gr _|refine gi fun _=>?_|(refine gn ?_ ?_;focus(intros;simp[*];done)))
 all_goals exact Sub.refl _
end Go.Proofs.YtcbgpjlcfkkdlaaGreatDoor

namespace Go.Proofs.YtcbgpjlcfkkdlaaGreatDoor
open Go Go.AL Go.Proofs
def fitsL (k w : Int) : Bool :=
 if bitAnd .i64 w 1 = 0 then
 if bitAnd .i64 w 2 = 0 then
 if bitAnd .i64 w 4 = 0 then
 if bitAnd .i64 w 8 = 0 then
 if bitAnd .i64 w 16 = 0 then
 if bitAnd .i64 w 32 = 0 then
 if bitAnd .i64 w 64 = 0 then
 if bitAnd .i64 w 128 = 0 then
 if bitAnd .i64 w 256 = 0 then
 if bitAnd .i64 w 512 = 0 then
 if bitAnd .i64 w 1024 = 0 then
 if bitAnd .i64 w 2048 = 0 then false
 else decide (k = 27) || decide (k = 28)
 else decide (k = 26) || decide (k = 29)
 else decide (k = 26)
 else decide (k = 20)
 else decide (k = 25)
 else decide (k = 24)
 else decide (k = 23)
 else decide (k = 22)
 else decide (1 ≤ k) && decide (k ≤ 5)
 else decide (k = 6) || decide (k = 8) || decide (k = 14) || decide (k = 15)
 else decide (26 ≤ k) && decide (k < 44)
 else decide (1 ≤ k) && decide (k ≤ 21)
theorem fits_c (k w : Int) (h : Heap) (R : AV → Heap → Prop) (hR : R (.bool (fitsL k w)) h) : ACalls Tryz.prog 72 [.int .i64 k, .int .i64 w] h R := by
 refine ACalls.pure ?_ hR
 clear hR
 unfold fitsL
 refine acalls_of Tryz.func72 rfl Tryz.ntmps72 (congrArg Array.toList Tryz.results72) fun Q hQ => ?_
 (focus repeat' first|refine ga ?_|(refine gb ?_;try simp[gz, *])|refine gk fun _ _=>?_|refine gc ?_ ?_|exact gr _|refine gi fun _=>?_|(refine gn ?_ ?_;focus(intros;simp[*];done)))
 all_goals (first | refine Expr_c _ _ _ ?_ | refine Stmt_c _ _ _ ?_ | refine Target_c _ _ _ ?_ | refine Literal_c _ _ _ ?_)
 all_goals (simp [*]; (focus repeat' first|refine ga ?_|(refine gb ?_;try simp[gz, *])|refine gk fun _ _=>?_|refine gc ?_ ?_|exact gr _|refine gi fun _=>?_|(refine gn ?_ ?_;focus(intros;simp[*];done))))
end Go.Proofs.YtcbgpjlcfkkdlaaGreatDoor

namespace Go.Proofs.YtcbgpjlcfkkdlaaGreatDoor
open Go Go.AL Go.Proofs
structure Nd where
 kind : Int
 pos : Int
 text : List UInt8
 num : Int
 kids : List Int
abbrev ints (l : List Int) : List (List AV) := l.map fun n => [.int .i64 n]
abbrev ndRow (n : Nd) (t : Tok) : List AV := [.int .i64 n.kind, .int .i64 n.pos, .str n.text, .int .i64 n.num, .list 1 (ints n.kids) t]
def shapeL (k : Int) (text : List UInt8) : List Int × Int :=
 if k = 9 then (if text = [100, 101, 108, 101, 116, 101] then ([4], 0) else ([1], 0))
 else if k = 15 ∨ k = 28 ∨ k = 39 then ([1], 0)
 else if k = 10 ∨ k = 14 then ([1, 1], 0)
 else if k = 11 then ([1, 1, 1], 0)
 else if k = 12 then ([4, 1], 0)
 else if k = 13 then ([4], 0)
 else if k = 17 then ([1], 1)
 else if k = 18 ∨ k = 19 then ([], 1)
 else if k = 21 then ([4097], 32)
 else if k = 22 ∨ k = 27 ∨ k = 37 ∨ k = 38 then ([4097], 0)
 else if k = 23 then ([1, 1], 0)
 else if k = 24 then ([4097], 2)
 else if k = 26 then ([], 2)
 else if k = 29 then ([1, 512, 5120], 0)
 else if k = 30 ∨ k = 33 then ([1, 512], 0)
 else if k = 31 then ([512, 1], 0)
 else if k = 32 then ([6144, 4097, 4097, 512], 0)
 else if k = 34 then ([1], 64)
 else if k = 40 then ([512, 512], 0)
 else if k = 41 then ([8], 0)
 else if k = 42 then ([], 128)
 else ([], 0)
theorem shape_c (n : Nd) (t : Tok) (h : Heap) (R : AV → Heap → Prop) (hR : ∀ tok, R (.tup [.list 1 (ints (shapeL n.kind n.text).1) tok, .int .i64 (shapeL n.kind n.text).2]) h) :
  ACalls Tryz.prog 70 [.agg (ndRow n t)] h R := by
 refine ACalls.subR (R := fun y h' => (∃ tok, y = (.tup [.list 1 (ints (shapeL n.kind n.text).1) tok, .int .i64 (shapeL n.kind n.text).2])) ∧ Sub h h') ?_ (fun x h' ⟨⟨tok, h1⟩, h3⟩ => ⟨h, h3, h1 ▸ hR tok⟩)
 clear hR
 obtain ⟨k, p, text, num, kids⟩ := n
 refine acalls_of Tryz.func70 rfl Tryz.ntmps70 (congrArg Array.toList Tryz.results70) fun Q hQ => ?_
 (focus repeat' first|refine ga ?_|(refine gb ?_;try simp[gz, *])|refine gk fun _ _=>?_|refine gc ?_ ?_|exact gr _|refine gi fun _=>?_|(refine gn ?_ ?_;focus(intros;simp[*];done)))
 intro b1 hb1; simp only [Fresh, Heap.set_none] at hb1; try simp [gz, *]
 (focus repeat' first|refine ga ?_|(refine gb ?_;try simp[gz, *])|refine gk fun _ _=>?_|refine gc ?_ ?_|exact gr _|refine gi fun _=>?_|(refine gn ?_ ?_;focus(intros;simp[*];done)))
 all_goals exact ⟨by simp [shapeL, *], (Sub.refl h).loc hb1 _⟩
end Go.Proofs.YtcbgpjlcfkkdlaaGreatDoor

namespace Go.Proofs.YtcbgpjlcfkkdlaaGreatDoor
open Go Go.AL Go.Proofs
abbrev row (n : Nd) : List AV := ndRow n .no
abbrev treeAV (nodes : List Nd) (t : Tok) : AV := .agg [.list 5 (nodes.map row) t]
def kindAt (nodes : List Nd) (k : Int) : Int := ((nodes[k.toNat]?).map Nd.kind).getD 0
def kidFine (nodes : List Nd) (k w : Int) : Bool := if k = -1 ∧ ¬ bitAnd .i64 w 4096 = 0 then true else decide (0 ≤ k) && fitsL (kindAt nodes k) w
def wantF (n : Nd) (i : Nat) : Int := if i + 1 = n.kids.length then 512 else 16
def funcKidsL (nodes : List Nd) (n : Nd) : Bool := decide (0 ≤ n.num) && decide ((n.kids.length : Int) = n.num + 1) && decide (∀ i (h : i < n.kids.length), 0 ≤ n.kids[i] ∧ fitsL (kindAt nodes n.kids[i]) (wantF n i) = true)
theorem kindAt_get {nodes : List Nd} {k : Nat} (h : k < nodes.length) : kindAt nodes (k : Int) = nodes[k].kind := by simp [kindAt, h]
theorem funcKids_bad {nodes : List Nd} {n : Nd} {i : Nat} (h : i < n.kids.length) (hb : ¬ (0 ≤ n.kids[i] ∧ fitsL (kindAt nodes n.kids[i]) (wantF n i) = true)) : funcKidsL nodes n = false := by
 simp only [funcKidsL, Bool.and_eq_false_iff, decide_eq_false_iff_not]
 exact .inr fun h' => hb (h' i h)
theorem funcKids_c (nodes : List Nd) (n : Nd) (t : Tok) (hl : nodes.length ≤ 131072) (hkl : n.kids.length ≤ 281474976710656) (hn : n.num ≤ 9223372036854775807) (hk : ∀ k ∈ n.kids, -1 ≤ k ∧ k < nodes.length) (h : Heap) (R : AV → Heap → Prop)
  (hR : R (.bool (funcKidsL nodes n)) h) : ACalls Tryz.prog 71 [treeAV nodes t, .agg (row n)] h R := by
 refine ACalls.pure ?_ hR
 clear hR
 by_cases h1 : n.num < 0
 ·refine acalls_of Tryz.func71 rfl Tryz.ntmps71 (congrArg Array.toList Tryz.results71) fun Q hQ => ?_
  (focus repeat' first|refine ga ?_|(refine gb ?_;try simp[gz, *])|refine gk fun _ _=>?_)
  intro b1 hb1; simp only [Fresh, Heap.set_none] at hb1; try simp [gz, *]
  intro b2 hb2; simp only [Fresh, Heap.set_none] at hb2; try simp [gz, *]
  (focus repeat' first|refine ga ?_|(refine gb ?_;try simp[gz, *])|refine gk fun _ _=>?_)
  exact ⟨by simp [funcKidsL]; omega, ((Sub.refl h).loc hb1 _).loc (by simp [*]) _⟩
 by_cases h2 : (n.kids.length : Int) = n.num + 1
 ·have w1 : IntKind.i64.wrap (n.num + 1) = n.num + 1 := w64 (by omega) (by omega)
  have w2 : IntKind.i64.wrap n.num = n.num := w64 (by omega) (by omega)
  refine acalls_of Tryz.func71 rfl Tryz.ntmps71 (congrArg Array.toList Tryz.results71) fun Q hQ => ?_
  (focus repeat' first|refine ga ?_|(refine gb ?_;try simp[gz, *])|refine gk fun _ _=>?_)
  intro b1 hb1; simp only [Fresh, Heap.set_none] at hb1; try simp [gz, *]
  intro b2 hb2; simp only [Fresh, Heap.set_none] at hb2; try simp [gz, *]
  (focus repeat' first|refine ga ?_|(refine gb ?_;try simp[gz, *])|refine gk fun _ _=>?_)
  refine awp_loop_h [4,5,6,7,23,24,25,26,27,28,29,30,31,32,33,34,35,36,37,38,39,40,41,42,43,44,45,46,47] (fun m x g => ∃ i : Nat, i ≤ n.kids.length ∧ m = n.kids.length - i ∧ x 23 = .int .i64 i ∧ (∀ j (hj : j < n.kids.length), j < i → 0 ≤ n.kids[j] ∧ fitsL (kindAt nodes n.kids[j]) (wantF n j) = true) ∧ g = (h.set b1 (.cells [AV.list 5 (List.map row nodes) t])).set b2 (.cells (row n))) n.kids.length ⟨0, by omega, by omega, rfl, by simp, rfl⟩ (fun m x g hI K hK => ?_)
  obtain ⟨i, hi, rfl, hx, hn, rfl⟩ := hI
  have w3 : IntKind.i64.wrap ((i : Int) + 1) = i + 1 := w64 (by omega) (by omega)
  by_cases hlt : i < n.kids.length
  ·have hlt2 : (i : Int) < n.num + 1 := by omega
   have hkm := hk n.kids[i] (List.getElem_mem hlt)
   have hsub : AL.Sub h ((h.set b1 (.cells [AV.list 5 (List.map row nodes) t])).set b2 (.cells (row n))) := ((Sub.refl h).loc hb1 _).loc (by simp [*]) _
   by_cases h0 : n.kids[i] < 0
   ·simp (maxSteps := 10000000) only [AgainAt, hav_nil, hav_end, hav_cons, Nat.reduceAdd, Nat.reduceEqDiff, if_true, if_false]
    (focus repeat' first|refine ga ?_|(refine gb ?_;try simp[gz, *])|refine gk fun _ _=>?_|refine gc ?_ ?_|exact gr _|refine gi fun _=>?_|(refine gn ?_ ?_;focus(intros;simp[*];done)))
    all_goals exact funcKids_bad hlt (by omega)
   ·obtain ⟨m, hm⟩ := Int.eq_ofNat_of_zero_le (a := n.kids[i]) (by omega)
    have hml : m < nodes.length := by omega
    have hkind := kindAt_get hml
    have hgo : ∀ w, fitsL nodes[m].kind w = true → w = wantF n i → ∀ j (hj : j < n.kids.length), j < i + 1 → 0 ≤ n.kids[j] ∧ fitsL (kindAt nodes n.kids[j]) (wantF n j) = true := by
     intro w hf hw j hj hji
     by_cases e : j < i
     ·exact hn j hj e
     ·have : j = i := by omega
      subst this
      rw [hm, hkind, ← hw]; exact ⟨by omega, hf⟩
    have hstop : ∀ w, ((m : Int) < 0 ∨ fitsL nodes[m].kind w = false) → w = wantF n i → funcKidsL nodes n = false := by
     intro w hf hw
     have hf : fitsL nodes[m].kind w = false := by rcases hf with hf | hf; omega; exact hf
     refine funcKids_bad hlt ?_
     rw [hm, hkind, ← hw, hf]; simp
    simp (maxSteps := 10000000) only [AgainAt, hav_nil, hav_end, hav_cons, Nat.reduceAdd, Nat.reduceEqDiff, if_true, if_false]
    (focus repeat' first|refine ga ?_|(refine gb ?_;try simp[gz, *])|refine gk fun _ _=>?_|refine gc ?_ ?_|exact gr _|refine gi fun _=>?_|(refine gn ?_ ?_;focus(intros;simp[*];done)))
    all_goals (refine fits_c _ _ _ _ ?_; simp [gz, *]; (focus repeat' first|refine ga ?_|(refine gb ?_;try simp[gz, *])|refine gk fun _ _=>?_|refine gc ?_ ?_|exact gr _|refine gi fun _=>?_|(refine gn ?_ ?_;focus(intros;simp[*];done))))
    all_goals first
     | exact hstop _ (.inr (by assumption)) (by simp only [wantF]; split <;> first | rfl | omega)
     | exact ⟨by simp [hav], rfl, n.kids.length - (i + 1), _, by omega, Sub.refl _, i + 1, by omega, rfl, by simp; try omega, hgo _ (by assumption) (by simp only [wantF]; split <;> first | rfl | omega), rfl⟩
  ·have hge : ¬ (i : Int) < n.num + 1 := by omega
   simp (maxSteps := 10000000) only [AgainAt, hav_nil, hav_end, hav_cons, Nat.reduceAdd, Nat.reduceEqDiff, if_true, if_false]
   (focus repeat' first|refine ga ?_|(refine gb ?_;try simp[gz, *])|refine gk fun _ _=>?_)
   refine ⟨?_, ((Sub.refl h).loc hb1 _).loc (by simp [*]) _⟩
   simp only [funcKidsL, Bool.and_eq_true, decide_eq_true_eq]
   exact ⟨⟨by omega, h2⟩, fun j hj => hn j hj (by omega)⟩
 ·have w1 : ¬ (n.kids.length : Int) = IntKind.i64.wrap (n.num + 1) := by
   rw [IntKind.wrap_i64]; omega
  refine acalls_of Tryz.func71 rfl Tryz.ntmps71 (congrArg Array.toList Tryz.results71) fun Q hQ => ?_
  (focus repeat' first|refine ga ?_|(refine gb ?_;try simp[gz, *])|refine gk fun _ _=>?_)
  intro b1 hb1; simp only [Fresh, Heap.set_none] at hb1; try simp [gz, *]
  intro b2 hb2; simp only [Fresh, Heap.set_none] at hb2; try simp [gz, *]
  (focus repeat' first|refine ga ?_|(refine gb ?_;try simp[gz, *])|refine gk fun _ _=>?_)
  exact ⟨by simp [funcKidsL, h2], ((Sub.refl h).loc hb1 _).loc (by simp [*]) _⟩
end Go.Proofs.YtcbgpjlcfkkdlaaGreatDoor


namespace Go.Proofs.YtcbgpjlcfkkdlaaGreatDoor
open Go Go.AL Go.Proofs
structure Tk where
 kind : Int
 pos : Int
 text : List UInt8
 num : Int
 line : Bool
instance : Inhabited Tk := ⟨⟨6, 0, [], 0, false⟩⟩
structure St where
 idx : Nat
 nest : Int
 nodes : List Nd
 deep : List Int
 fc : Int
 fa : Int
def unaryW : List (List UInt8) := [[45], [33], [126], [116, 121, 112, 101, 111, 102], [99, 108, 111, 110, 101], [114, 101, 115, 117, 109, 101], [100, 101, 108, 101, 116, 101]]
def assignW : List (List UInt8) := [[61], [60, 45], [43, 61], [45, 61], [42, 61], [47, 61], [37, 61]]
def stepW : List (List UInt8) := [[43, 43], [45, 45]]
def levelsW : List (List (List UInt8)) := [[[124, 124]], [[38, 38]], [[124]], [[94]], [[38]], [[61, 61], [33, 61], [60, 61, 62]], [[60], [60, 61], [62], [62, 61], [105, 110], [105, 110, 115, 116, 97, 110, 99, 101, 111, 102]], [[60, 60], [62, 62], [62, 62, 62]], [[43], [45]], [[42], [47], [37]]]
def isUnary (x : List UInt8) : Bool := unaryW.contains x
def isAssign (x : List UInt8) : Bool := assignW.contains x
def isStep (x : List UInt8) : Bool := stepW.contains x
def levelW (x : List UInt8) : Int := match levelsW.findIdx? (fun l => l.contains x) with | some i => (i : Int) | none => -1
def isTarget (k : Int) : Bool := decide (k = 6) || decide (k = 8) || decide (k = 14) || decide (k = 15)
def signsW : List (List UInt8) := [[62, 62, 62], [60, 61, 62], [60, 45], [60, 60], [62, 62], [60, 61], [62, 61], [61, 61], [33, 61], [38, 38], [124, 124], [43, 43], [45, 45], [43, 61], [45, 61], [42, 61], [47, 61], [37, 61], [58, 58], [43], [45], [42], [47], [37], [61], [60], [62], [33], [126], [38], [124], [94], [63], [58], [59], [44], [46], [40], [41], [123], [125], [91], [93]]
def letterX (c : UInt8) : Bool := (decide (97 ≤ c) && decide (c ≤ 122)) || (decide (65 ≤ c) && decide (c ≤ 90)) || decide (c = 95)
def digitX (c : UInt8) : Bool := decide (48 ≤ c) && decide (c ≤ 57)
def wordX (c : UInt8) : Bool := letterX c || digitX c
section
variable (T : List Tk)
def peekL (S : St) : Tk := if S.fc = 0 then T.getD S.idx default else T.getD (T.length - 1) default
def wrongL (e : Int) (S : St) : St := if S.fc = 0 then { S with fc := e, fa := (peekL T S).pos } else S
def isL (x : List UInt8) (S : St) : Bool := (decide ((peekL T S).kind = 5) || decide ((peekL T S).kind = 2)) && decide ((peekL T S).text = x)
def stepL (S : St) : St := { S with idx := S.idx + 1 }
def eatL (x : List UInt8) (S : St) : Bool × St := if isL T x S then (true, stepL S) else (false, S)
def mustL (x : List UInt8) (S : St) : St := if isL T x S then stepL S else wrongL T 5 S
def nameR (S : St) : List UInt8 × St := if (peekL T S).kind = 1 then ((peekL T S).text, stepL S) else ([], wrongL T 5 S)
def deepOf (D : List Int) : List Int → Int → Int
 | [], d => d
 | k :: ks, d => deepOf D ks (if 0 ≤ k then max d (IntKind.i64.wrap (D.getD k.toNat 0 + 1)) else d)
def addL (kind pos : Int) (x : List UInt8) (n : Int) (kids : List Int) (S : St) : Int × St :=
 if S.fc = 0 then
  if S.nodes.length = 131072 then (-1, wrongL T 2 S)
  else
   let d := deepOf S.deep kids 0
   let S1 := { S with nodes := S.nodes ++ [⟨kind, pos, x, n, kids⟩] }
   let S2 := if d > 200 then wrongL T 6 S1 else S1
   ((S.nodes.length : Int), { S2 with deep := S2.deep ++ [d] })
 else (-1, S)
def kindL (S : St) (i : Int) : Int := if 0 ≤ i ∧ i < S.nodes.length then ((S.nodes[i.toNat]?).map Nd.kind).getD 0 else 0
def downL (S : St) : St := let S1 := { S with nest := IntKind.i64.wrap (S.nest + 1) }; if S1.nest > 60 then wrongL T 6 S1 else S1
def upL (S : St) : St := { S with nest := IntKind.i64.wrap (S.nest - 1) }
def endsL (S : St) : Bool := (peekL T S).line || decide ((peekL T S).kind = 6) || isL T [59] S || isL T [125] S || isL T [101, 108, 115, 101] S || isL T [99, 97, 116, 99, 104] S
def endL (S : St) : St := if isL T [59] S then stepL S else if endsL T S then S else wrongL T 5 S
end
inductive Op where
 | stmt | word (t : Tk) | named (t : Tk) | locl (at_ : Int) | literal | enum (at_ : Int) | enumLoop (n : Int) (kids : List Int) | block | blockLoop (kids : List Int) | body | control (t : Tk) | paren | loop (at_ : Int) | foreach (at_ : Int)
 | cases (at_ : Int) | casesLoop (other : Bool) (kids : List Int) | caseLoop (kids : List Int) | expr | cond (at_ : Int) | binary (level : Int) | binLoop (level at_ i : Int) | unary | postf | postLoop (at_ i : Int) | some (stop : List UInt8) | someLoop (stop : List UInt8) (kids : List Int)
 | primary | member | table | tableLoop (kids : List Int) | function | params (at_ : Int) (name : List UInt8) | paramsLoop (kids : List Int) | clas | classLoop (kids : List Int) | top (kids : List Int)
abbrev Res := List Int × St
def one (r : Int × St) : Option Res := some ([r.1], r.2)
def fst0 (l : List Int) : Int := l.headD 0
section
variable (T : List Tk)
def run : Nat → Op → St → Option Res
 | 0, _, _ => none
 | n + 1, op, S => match op with
  | .top kids => if S.fc = 0 ∧ ¬ (peekL T S).kind = 6 then (run n .stmt S).bind fun r => run n (.top (kids ++ [fst0 r.1])) r.2 else some (kids, S)
  | .stmt =>
   let S := downL T S
   let t := peekL T S
   let rest : St → Option Res := fun S =>
    if isL T [123] S then (run n .block S).map fun r => (r.1, upL r.2)
    else if isL T [59] S then (one (addL T 43 t.pos [] 0 [] (stepL S))).map fun r => (r.1, upL r.2)
    else (run n .expr S).bind fun r => (one (addL T 28 t.pos [] 0 [fst0 r.1] r.2)).map fun r => (r.1, upL (endL T r.2))
   if t.kind = 2 then (run n (.word t) S).bind fun r => if r.1.getD 1 0 = 1 then some ([fst0 r.1], upL r.2) else rest r.2
   else rest S
  | .word t => if (peekL T S).kind = 6 then none else
   let ok : Option Res → Option Res := fun r => r.map fun r => ([fst0 r.1, 1], r.2)
   if t.text = [105, 102] ∨ t.text = [119, 104, 105, 108, 101] ∨ t.text = [100, 111] ∨ t.text = [102, 111, 114] ∨ t.text = [102, 111, 114, 101, 97, 99, 104] ∨ t.text = [115, 119, 105, 116, 99, 104] ∨ t.text = [116, 114, 121] then ok (run n (.control t) (stepL S))
   else if t.text = [108, 111, 99, 97, 108] then ok (run n (.locl t.pos) (stepL S))
   else if t.text = [98, 114, 101, 97, 107] ∨ t.text = [99, 111, 110, 116, 105, 110, 117, 101] then
    let r := addL T (if t.text = [99, 111, 110, 116, 105, 110, 117, 101] then 36 else 35) t.pos [] 0 [] (stepL S)
    some ([r.1, 1], endL T r.2)
   else if t.text = [114, 101, 116, 117, 114, 110] ∨ t.text = [121, 105, 101, 108, 100] then
    let S1 := stepL S
    let e : Option Res := if endsL T S1 then some ([-1], S1) else run n .expr S1
    e.map fun r => let q := addL T (if t.text = [121, 105, 101, 108, 100] then 38 else 37) t.pos [] 0 [fst0 r.1] r.2; ([q.1, 1], endL T q.2)
   else if t.text = [116, 104, 114, 111, 119] then (run n .expr (stepL S)).map fun r => let q := addL T 39 t.pos [] 0 [fst0 r.1] r.2; ([q.1, 1], endL T q.2)
   else if t.text = [102, 117, 110, 99, 116, 105, 111, 110] ∨ t.text = [99, 108, 97, 115, 115] then (if (T.getD (S.idx + 1) default).kind = 1 then ok (run n (.named t) S) else some ([0, 0], S))
   else if t.text = [99, 111, 110, 115, 116] then
    let r := nameR T (stepL S)
    (run n .literal (mustL T [61] r.2)).map fun q => let z := addL T 41 t.pos r.1 0 [fst0 q.1] q.2; ([z.1, 1], endL T z.2)
   else if t.text = [101, 110, 117, 109] then ok (run n (.enum t.pos) (stepL S))
   else some ([0, 0], S)
  | .named t => if S.fc = 0 ∧ S.idx + 1 < T.length then
    let name := (T.getD (S.idx + 1) default).text
    let a := addL T 7 t.pos [] 0 [] S
    let b := addL T 15 t.pos name 0 [a.1] a.2
    (run n (if t.text = [102, 117, 110, 99, 116, 105, 111, 110] then .function else .clas) b.2).bind fun v =>
     let c := addL T 12 t.pos [60, 45] 0 [b.1, fst0 v.1] v.2
     one (addL T 28 t.pos [] 0 [c.1] c.2)
   else none
  | .locl at_ =>
   if isL T [102, 117, 110, 99, 116, 105, 111, 110] S then
    let S1 := if (T.getD (S.idx + 1) default).kind = 1 then S else wrongL T 5 (stepL S)
    let name := (T.getD (min (S1.idx + 1) (T.length - 1)) default).text
    (run n .function S1).bind fun v => one (addL T 27 at_ name 0 [fst0 v.1] v.2)
   else
    let r := nameR T S
    let e : Option Res := if isL T [61] r.2 then run n .expr (stepL r.2) else some ([-1], r.2)
    e.map fun q => let z := addL T 27 at_ r.1 0 [fst0 q.1] q.2; ([z.1], endL T z.2)
  | .literal =>
   let t := peekL T S
   if isL T [45] S then
    let S1 := stepL S
    let u := peekL T S1
    if u.kind = 3 then one (addL T 4 t.pos [] (IntKind.i64.wrap (-u.num)) [] (stepL S1)) else some ([-1], wrongL T 5 S1)
   else if t.kind = 3 then one (addL T 4 t.pos [] t.num [] (stepL S))
   else if t.kind = 4 then one (addL T 5 t.pos t.text 0 [] (stepL S))
   else if isL T [110, 117, 108, 108] S then one (addL T 1 t.pos [] 0 [] (stepL S))
   else if isL T [116, 114, 117, 101] S then one (addL T 2 t.pos [] 0 [] (stepL S))
   else if isL T [102, 97, 108, 115, 101] S then one (addL T 3 t.pos [] 0 [] (stepL S))
   else some ([-1], wrongL T 5 S)
  | .enum at_ =>
   let r := nameR T S
   (run n (.enumLoop 0 []) (mustL T [123] r.2)).bind fun q => one (addL T 42 at_ r.1 0 q.1 (mustL T [125] q.2))
  | .enumLoop v kids =>
   if S.fc = 0 ∧ isL T [125] S = false then
    let t := peekL T S
    let r := nameR T S
    let w : Int × St := if isL T [61] r.2 then
      let m := eatL T [45] (stepL r.2)
      let u := peekL T m.2
      let S2 := if u.kind = 3 then m.2 else wrongL T 5 m.2
      (if m.1 then IntKind.i64.wrap (-u.num) else u.num, stepL S2)
     else (v, r.2)
    let z := addL T 25 t.pos r.1 w.1 [] w.2
    let kids := kids ++ [z.1]
    if isL T [44] z.2 then run n (.enumLoop (IntKind.i64.wrap (w.1 + 1)) kids) (stepL z.2) else some (kids, z.2)
   else some (kids, S)
  | .block =>
   let at_ := (peekL T S).pos
   (run n (.blockLoop []) (mustL T [123] S)).bind fun r => one (addL T 26 at_ [] 0 r.1 (mustL T [125] r.2))
  | .blockLoop kids => if S.fc = 0 ∧ isL T [125] S = false then (run n .stmt S).bind fun r => run n (.blockLoop (kids ++ [fst0 r.1])) r.2 else some (kids, S)
  | .body => if isL T [123] S then run n .block S else let at_ := (peekL T S).pos; (run n .stmt S).bind fun r => one (addL T 26 at_ [] 0 [fst0 r.1] r.2)
  | .control t =>
   if t.text = [105, 102] then
    (run n .paren S).bind fun c => (run n .body c.2).bind fun b =>
     let e : Option Res := if isL T [101, 108, 115, 101] b.2 then
       let S1 := stepL b.2
       let u := peekL T S1
       if isL T [105, 102] S1 then (run n (.control u) (downL T (stepL S1))).map fun r => (r.1, upL r.2) else run n .body S1
      else some ([-1], b.2)
     e.bind fun o => one (addL T 29 t.pos [] 0 [fst0 c.1, fst0 b.1, fst0 o.1] o.2)
   else if t.text = [119, 104, 105, 108, 101] then (run n .paren S).bind fun c => (run n .body c.2).bind fun b => one (addL T 30 t.pos [] 0 [fst0 c.1, fst0 b.1] b.2)
   else if t.text = [100, 111] then (run n .body S).bind fun b => (run n .paren (mustL T [119, 104, 105, 108, 101] b.2)).map fun c => let z := addL T 31 t.pos [] 0 [fst0 b.1, fst0 c.1] c.2; ([z.1], endL T z.2)
   else if t.text = [102, 111, 114] then run n (.loop t.pos) S
   else if t.text = [102, 111, 114, 101, 97, 99, 104] then run n (.foreach t.pos) S
   else if t.text = [115, 119, 105, 116, 99, 104] then run n (.cases t.pos) S
   else (run n .body S).bind fun b =>
    let r := nameR T (mustL T [40] (mustL T [99, 97, 116, 99, 104] b.2))
    (run n .body (mustL T [41] r.2)).bind fun c => one (addL T 40 t.pos r.1 0 [fst0 b.1, fst0 c.1] c.2)
  | .paren => (run n .expr (mustL T [40] S)).map fun r => (r.1, mustL T [41] r.2)
  | .loop at_ =>
   let S0 := mustL T [40] S
   let t := peekL T S0
   let first : Option Res := if isL T [59] S0 then some ([-1], stepL S0) else
     let f : Option Res := if isL T [108, 111, 99, 97, 108] S0 then
       let r := nameR T (stepL S0)
       let e : Option Res := if isL T [61] r.2 then run n .expr (stepL r.2) else some ([-1], r.2)
       e.bind fun q => one (addL T 27 t.pos r.1 0 [fst0 q.1] q.2)
      else (run n .expr S0).bind fun r => one (addL T 28 t.pos [] 0 [fst0 r.1] r.2)
     f.map fun r => (r.1, mustL T [59] r.2)
   first.bind fun a =>
    let cond : Option Res := if isL T [59] a.2 then some ([-1], stepL a.2) else (run n .expr a.2).map fun r => (r.1, mustL T [59] r.2)
    cond.bind fun b =>
     let step : Option Res := if isL T [41] b.2 then some ([-1], b.2) else run n .expr b.2
     step.bind fun c => (run n .body (mustL T [41] c.2)).bind fun d => one (addL T 32 at_ [] 0 [fst0 a.1, fst0 b.1, fst0 c.1, fst0 d.1] d.2)
  | .foreach at_ =>
   let r := nameR T (mustL T [40] S)
   let kv : List UInt8 × List UInt8 × St := if isL T [44] r.2 then let q := nameR T (stepL r.2); (r.1, q.1, q.2) else ([], r.1, r.2)
   let S1 := if kv.1 = kv.2.1 then wrongL T 4 kv.2.2 else kv.2.2
   (run n .expr (mustL T [105, 110] S1)).bind fun e => (run n .body (mustL T [41] e.2)).bind fun b => one (addL T 33 at_ (kv.1 ++ [9] ++ kv.2.1) 0 [fst0 e.1, fst0 b.1] b.2)
  | .cases at_ => (run n .paren S).bind fun p => (run n (.casesLoop false [fst0 p.1]) (mustL T [123] p.2)).bind fun r => one (addL T 34 at_ [] 0 r.1 (mustL T [125] r.2))
  | .casesLoop other kids =>
   if S.fc = 0 ∧ isL T [125] S = false then
    let t := peekL T S
    let k : Option (Bool × Res) := if isL T [99, 97, 115, 101] S then (run n .expr (stepL S)).map fun r => (other, r)
     else if other = false ∧ isL T [100, 101, 102, 97, 117, 108, 116] S = true then some (true, [-1], stepL S) else some (other, [-1], wrongL T 5 S)
    k.bind fun k => (run n (.caseLoop [fst0 k.2.1]) (mustL T [58] k.2.2)).bind fun r =>
     let z := addL T 24 t.pos [] 0 r.1 r.2
     run n (.casesLoop k.1 (kids ++ [z.1])) z.2
   else some (kids, S)
  | .caseLoop kids => if S.fc = 0 ∧ isL T [125] S = false ∧ isL T [99, 97, 115, 101] S = false ∧ isL T [100, 101, 102, 97, 117, 108, 116] S = false then (run n .stmt S).bind fun r => run n (.caseLoop (kids ++ [fst0 r.1])) r.2 else some (kids, S)
  | .expr =>
   let S := downL T S
   if S.fc = 0 then
    let at_ := (peekL T S).pos
    (run n (.cond at_) S).bind fun r =>
     let t := peekL T r.2
     if t.kind = 5 ∧ isAssign t.text = true then
      if isTarget (kindL r.2 (fst0 r.1)) = true then (run n .expr (stepL r.2)).bind fun q => (one (addL T 12 at_ t.text 0 [fst0 r.1, fst0 q.1] q.2)).map fun r => (r.1, upL r.2)
      else some (r.1, upL (wrongL T 30 r.2))
     else some (r.1, upL r.2)
   else some ([-1], upL S)
  | .cond at_ =>
   (run n (.binary 0) S).bind fun r => if isL T [63] r.2 then
     (run n .expr (stepL r.2)).bind fun a =>
      let S1 := downL T (mustL T [58] a.2)
      (run n (.cond (peekL T S1).pos) S1).bind fun b => (one (addL T 11 at_ [] 0 [fst0 r.1, fst0 a.1, fst0 b.1] b.2)).map fun r => (r.1, upL r.2)
    else some r
  | .binary level =>
   if level = 10 then run n .unary S
   else
    let at_ := (peekL T S).pos
    (run n (.binary (IntKind.i64.wrap (level + 1))) S).bind fun r => run n (.binLoop level at_ (fst0 r.1)) r.2
  | .binLoop level at_ i =>
   if S.fc = 0 then
    let t := peekL T S
    if (t.kind = 5 ∨ t.kind = 2) ∧ levelW t.text = level then
     (run n (.binary (IntKind.i64.wrap (level + 1))) (stepL S)).bind fun r => let z := addL T 10 at_ t.text 0 [i, fst0 r.1] r.2; run n (.binLoop level at_ z.1) z.2
    else some ([i], S)
   else some ([i], S)
  | .unary =>
   let t := peekL T S
   if (t.kind = 5 ∨ t.kind = 2) ∧ (isUnary t.text = true ∨ isStep t.text = true) then
    let S1 := stepL (downL T S)
    let inner := peekL T S1
    (run n .unary S1).bind fun r =>
     if (t.text = [100, 101, 108, 101, 116, 101] ∨ isStep t.text = true) ∧ r.2.fc = 0 ∧ isTarget (kindL r.2 (fst0 r.1)) = false then some (r.1, upL { r.2 with fc := 30, fa := inner.pos })
     else (one (addL T (if isStep t.text = true then 13 else 9) t.pos t.text 0 [fst0 r.1] r.2)).map fun r => (r.1, upL r.2)
   else run n .postf S
  | .postf =>
   let at_ := (peekL T S).pos
   (run n .primary S).bind fun r => run n (.postLoop at_ (fst0 r.1)) r.2
  | .postLoop at_ i =>
   if S.fc = 0 then
    let t := peekL T S
    if isL T [46] S then let r := nameR T (stepL S); let z := addL T 15 at_ r.1 0 [i] r.2; run n (.postLoop at_ z.1) z.2
    else if isL T [91] S = true ∧ t.line = false then
     (run n .expr (stepL S)).bind fun r => let z := addL T 14 at_ [] 0 [i, fst0 r.1] (mustL T [93] r.2); run n (.postLoop at_ z.1) z.2
    else if isL T [40] S = true ∧ t.line = false then
     (run n (.some [41]) (stepL S)).bind fun r => let z := addL T 17 at_ [] 0 (i :: r.1) r.2; run n (.postLoop at_ z.1) z.2
    else if t.kind = 5 ∧ isStep t.text = true ∧ t.line = false then
     if isTarget (kindL S i) = true then one (addL T 13 at_ t.text 1 [i] (stepL S)) else some ([i], wrongL T 30 S)
    else some ([i], S)
   else some ([i], S)
  | .some stop => (run n (.someLoop stop []) S).map fun r => (r.1, mustL T stop r.2)
  | .someLoop stop kids =>
   if S.fc = 0 ∧ isL T stop S = false then
    (run n .expr S).bind fun r =>
     let kids := kids ++ [fst0 r.1]
     if isL T [44] r.2 then let S1 := stepL r.2; run n (.someLoop stop kids) (if isL T stop S1 then wrongL T 5 S1 else S1) else some (kids, r.2)
   else some (kids, S)
  | .primary =>
   let t := peekL T S
   if t.kind = 1 then one (addL T 6 t.pos t.text 0 [] (stepL S))
   else if t.kind = 3 then one (addL T 4 t.pos [] t.num [] (stepL S))
   else if t.kind = 4 then one (addL T 5 t.pos t.text 0 [] (stepL S))
   else if isL T [110, 117, 108, 108] S then one (addL T 1 t.pos [] 0 [] (stepL S))
   else if isL T [116, 114, 117, 101] S then one (addL T 2 t.pos [] 0 [] (stepL S))
   else if isL T [102, 97, 108, 115, 101] S then one (addL T 3 t.pos [] 0 [] (stepL S))
   else if isL T [116, 104, 105, 115] S then one (addL T 7 t.pos [] 0 [] (stepL S))
   else if isL T [58, 58] S then let r := nameR T (stepL S); one (addL T 8 t.pos r.1 0 [] r.2)
   else if isL T [98, 97, 115, 101] S then
    let S1 := mustL T [46] (stepL S)
    if isL T [99, 111, 110, 115, 116, 114, 117, 99, 116, 111, 114] S1 then one (addL T 16 t.pos [99, 111, 110, 115, 116, 114, 117, 99, 116, 111, 114] 0 [] (stepL S1)) else let r := nameR T S1; one (addL T 16 t.pos r.1 0 [] r.2)
   else if isL T [40] S then (run n .expr (stepL S)).map fun r => (r.1, mustL T [41] r.2)
   else if isL T [91] S then (run n (.some [93]) (stepL S)).bind fun r => one (addL T 18 t.pos [] 0 r.1 r.2)
   else if isL T [123] S then run n .table S
   else if isL T [102, 117, 110, 99, 116, 105, 111, 110] S then run n .function S
   else if isL T [99, 108, 97, 115, 115] S then run n .clas S
   else some ([-1], wrongL T 5 S)
  | .member =>
   let t := peekL T S
   if isL T [102, 117, 110, 99, 116, 105, 111, 110] S then
    let name := T.getD (S.idx + 1) default
    if name.kind = 1 then let k := addL T 5 name.pos name.text 0 [] S; (run n .function k.2).map fun v => ([k.1, fst0 v.1], v.2)
    else some ([-1, -1], wrongL T 5 (stepL S))
   else if isL T [91] S then
    (run n .expr (stepL S)).bind fun k => (run n .expr (mustL T [61] (mustL T [93] k.2))).map fun v => ([fst0 k.1, fst0 v.1], v.2)
   else
    let r := nameR T S
    let k := addL T 5 t.pos r.1 0 [] r.2
    (run n .expr (mustL T [61] k.2)).map fun v => ([k.1, fst0 v.1], v.2)
  | .table =>
   let at_ := (peekL T S).pos
   (run n (.tableLoop []) (mustL T [123] S)).bind fun r => one (addL T 19 at_ [] 0 r.1 (mustL T [125] r.2))
  | .tableLoop kids =>
   if S.fc = 0 ∧ isL T [125] S = false then
    (run n .member S).bind fun r =>
     let kids := kids ++ [fst0 r.1, r.1.getD 1 0]
     if isL T [44] r.2 then run n (.tableLoop kids) (stepL r.2) else some (kids, r.2)
   else some (kids, S)
  | .function =>
   let at_ := (peekL T S).pos
   let S1 := mustL T [102, 117, 110, 99, 116, 105, 111, 110] S
   let r := if (peekL T S1).kind = 1 then nameR T S1 else ([], S1)
   run n (.params at_ r.1) r.2
  | .params at_ name =>
   let S1 := mustL T [40] (downL T S)
   (run n (.paramsLoop []) S1).bind fun r => (run n .block (mustL T [41] r.2)).bind fun b => (one (addL T 20 at_ name r.1.length (r.1 ++ [fst0 b.1]) b.2)).map fun r => (r.1, upL r.2)
  | .paramsLoop kids =>
   if S.fc = 0 ∧ isL T [41] S = false then
    let t := peekL T S
    let r := nameR T S
    let e : Option Res := if isL T [61] r.2 then run n .expr (stepL r.2) else some ([-1], r.2)
    e.bind fun q =>
     let z := addL T 22 t.pos r.1 0 [fst0 q.1] q.2
     let kids := kids ++ [z.1]
     if isL T [44] z.2 then run n (.paramsLoop kids) (stepL z.2) else some (kids, z.2)
   else some (kids, S)
  | .clas =>
   let S0 := downL T S
   let at_ := (peekL T S0).pos
   let S1 := mustL T [99, 108, 97, 115, 115] S0
   let r := if (peekL T S1).kind = 1 then nameR T S1 else ([], S1)
   let e : Option Res := if isL T [101, 120, 116, 101, 110, 100, 115] r.2 then run n .expr (stepL r.2) else some ([-1], r.2)
   e.bind fun x => (run n (.classLoop [fst0 x.1]) (mustL T [123] x.2)).bind fun q => (one (addL T 21 at_ r.1 0 q.1 (mustL T [125] q.2))).map fun r => (r.1, upL r.2)
  | .classLoop kids =>
   if S.fc = 0 ∧ isL T [125] S = false then
    let t := peekL T S
    let kv : Option Res := if isL T [99, 111, 110, 115, 116, 114, 117, 99, 116, 111, 114] S then
      let k := addL T 5 t.pos [99, 111, 110, 115, 116, 114, 117, 99, 116, 111, 114] 0 [] (stepL S)
      (run n (.params t.pos []) k.2).map fun v => ([k.1, fst0 v.1], v.2)
     else run n .member S
    kv.bind fun kv =>
     let z := addL T 23 t.pos [] 0 [fst0 kv.1, kv.1.getD 1 0] kv.2
     run n (.classLoop (kids ++ [z.1])) (eatL T [59] z.2).2
   else some (kids, S)
end
end Go.Proofs.YtcbgpjlcfkkdlaaGreatDoor

namespace Go.Proofs.YtcbgpjlcfkkdlaaGreatDoor
open Go Go.AL Go.Proofs
def isT (x : List UInt8) (t : Tk) : Bool := (decide (t.kind = 5) || decide (t.kind = 2)) && decide (t.text = x)
inductive P where
 | ret (l : List Int) | stuck
 | ok (a b : P) | is (x : List UInt8) (a b : P) | test (f : Tk → Bool) (a b : P) | room (a b : P) | ends (a b : P) | targ (i : Int) (a b : P)
 | peek (k : Tk → P) | next (k : Tk → P) | nextm (k : Tk → P) | name (k : List UInt8 → P)
 | live (a : P) | step (a : P) | down (a : P) | up (a : P) | fend (a : P) | must (x : List UInt8) (a : P) | wrong (e : Int) (a : P) | fault (e pos : Int) (a : P)
 | add (kind pos : Int) (x : List UInt8) (n : Int) (kids : List Int) (k : Int → P)
 | call (op : Op) (k : List Int → P)
section
variable (T : List Tk)
def go (rec : Op → St → Option Res) : P → St → Option Res
 | .ret l, S => some (l, S)
 | .stuck, _ => none
 | .ok a b, S => if S.fc = 0 then go rec a S else go rec b S
 | .is x a b, S => if isL T x S = true then go rec a S else go rec b S
 | .test f a b, S => if f (peekL T S) = true then go rec a S else go rec b S
 | .room a b, S => if S.idx + 1 < T.length then go rec a S else go rec b S
 | .ends a b, S => if endsL T S = true then go rec a S else go rec b S
 | .targ i a b, S => if isTarget (kindL S i) = true then go rec a S else go rec b S
 | .peek k, S => go rec (k (peekL T S)) S
 | .next k, S => go rec (k (T.getD (S.idx + 1) default)) S
 | .nextm k, S => go rec (k (T.getD (min (S.idx + 1) (T.length - 1)) default)) S
 | .name k, S => go rec (k (nameR T S).1) (nameR T S).2
 | .live a, S => if (peekL T S).kind = 6 then none else go rec a S
 | .step a, S => go rec a (stepL S)
 | .down a, S => go rec a (downL T S)
 | .up a, S => go rec a (upL S)
 | .fend a, S => go rec a (endL T S)
 | .must x a, S => go rec a (mustL T x S)
 | .wrong e a, S => go rec a (wrongL T e S)
 | .fault e p a, S => go rec a (if S.fc = 0 then { S with fc := e, fa := p } else S)
 | .add kind pos x n kids k, S => go rec (k (addL T kind pos x n kids S).1) (addL T kind pos x n kids S).2
 | .call op k, S => (rec op S).bind fun r => go rec (k r.1) r.2
end
def body : Op → P
 | .top kids => .ok (.test (fun t => decide (t.kind = 6)) (.ret kids) (.call .stmt fun l => .call (.top (kids ++ [fst0 l])) .ret)) (.ret kids)
 | .stmt => .down (.peek fun t =>
   let rest : P := .is [123] (.call .block fun l => .up (.ret l)) (.is [59] (.step (.add 43 t.pos [] 0 [] fun v => .up (.ret [v]))) (.call .expr fun l => .add 28 t.pos [] 0 [fst0 l] fun v => .fend (.up (.ret [v]))))
   .test (fun t => decide (t.kind = 2)) (.peek fun t => .call (.word t) fun l => if l.getD 1 0 = 1 then .up (.ret [fst0 l]) else rest) rest)
 | .word t => .live (
   let ok : Op → P := fun op => .call op fun l => .ret [fst0 l, 1]
   if t.text = [105, 102] ∨ t.text = [119, 104, 105, 108, 101] ∨ t.text = [100, 111] ∨ t.text = [102, 111, 114] ∨ t.text = [102, 111, 114, 101, 97, 99, 104] ∨ t.text = [115, 119, 105, 116, 99, 104] ∨ t.text = [116, 114, 121] then .step (ok (.control t))
   else if t.text = [108, 111, 99, 97, 108] then .step (ok (.locl t.pos))
   else if t.text = [98, 114, 101, 97, 107] ∨ t.text = [99, 111, 110, 116, 105, 110, 117, 101] then .step (.add (if t.text = [99, 111, 110, 116, 105, 110, 117, 101] then 36 else 35) t.pos [] 0 [] fun v => .fend (.ret [v, 1]))
   else if t.text = [114, 101, 116, 117, 114, 110] ∨ t.text = [121, 105, 101, 108, 100] then
    let tl : Int → P := fun k => .add (if t.text = [121, 105, 101, 108, 100] then 38 else 37) t.pos [] 0 [k] fun v => .fend (.ret [v, 1])
    .step (.ends (tl (-1)) (.call .expr fun l => tl (fst0 l)))
   else if t.text = [116, 104, 114, 111, 119] then .step (.call .expr fun l => .add 39 t.pos [] 0 [fst0 l] fun v => .fend (.ret [v, 1]))
   else if t.text = [102, 117, 110, 99, 116, 105, 111, 110] ∨ t.text = [99, 108, 97, 115, 115] then .next fun u => if u.kind = 1 then ok (.named t) else .ret [0, 0]
   else if t.text = [99, 111, 110, 115, 116] then .step (.name fun x => .must [61] (.call .literal fun l => .add 41 t.pos x 0 [fst0 l] fun v => .fend (.ret [v, 1])))
   else if t.text = [101, 110, 117, 109] then .step (ok (.enum t.pos))
   else .ret [0, 0])
 | .named t => .ok (.room (.next fun u => .add 7 t.pos [] 0 [] fun a => .add 15 t.pos u.text 0 [a] fun b =>
   let tl : Int → P := fun k => .add 12 t.pos [60, 45] 0 [b, k] fun c => .add 28 t.pos [] 0 [c] fun v => .ret [v]
   if t.text = [102, 117, 110, 99, 116, 105, 111, 110] then .call .function fun l => tl (fst0 l) else .call .clas fun l => tl (fst0 l)) .stuck) .stuck
 | .locl a =>
   .is [102, 117, 110, 99, 116, 105, 111, 110] (.next fun u => if u.kind = 1 then .call .function fun l => .add 27 a u.text 0 [fst0 l] fun v => .ret [v] else .step (.wrong 5 (.nextm fun w => .call .function fun l => .add 27 a w.text 0 [fst0 l] fun v => .ret [v])))
   (.name fun x => .is [61] (.step (.call .expr fun l => .add 27 a x 0 [fst0 l] fun v => .fend (.ret [v]))) (.add 27 a x 0 [-1] fun v => .fend (.ret [v])))
 | .literal => .peek fun t =>
   .is [45] (.step (.test (fun t => decide (t.kind = 3)) (.peek fun u => .step (.add 4 t.pos [] (IntKind.i64.wrap (-u.num)) [] fun v => .ret [v])) (.wrong 5 (.ret [-1]))))
   (.test (fun t => decide (t.kind = 3)) (.step (.add 4 t.pos [] t.num [] fun v => .ret [v]))
   (.test (fun t => decide (t.kind = 4)) (.step (.add 5 t.pos t.text 0 [] fun v => .ret [v]))
   (.is [110, 117, 108, 108] (.step (.add 1 t.pos [] 0 [] fun v => .ret [v])) (.is [116, 114, 117, 101] (.step (.add 2 t.pos [] 0 [] fun v => .ret [v])) (.is [102, 97, 108, 115, 101] (.step (.add 3 t.pos [] 0 [] fun v => .ret [v])) (.wrong 5 (.ret [-1])))))))
 | .enum a => .name fun x => .must [123] (.call (.enumLoop 0 []) fun l => .must [125] (.add 42 a x 0 l fun v => .ret [v]))
 | .enumLoop n kids =>
   let tl : Int → List UInt8 → Int → P := fun p x m => .add 25 p x m [] fun v => .is [44] (.step (.call (.enumLoop (IntKind.i64.wrap (m + 1)) (kids ++ [v])) .ret)) (.ret (kids ++ [v]))
   let nu : Int → List UInt8 → Bool → P := fun p x b => .test (fun t => decide (t.kind = 3)) (.peek fun u => .step (tl p x (if b then IntKind.i64.wrap (-u.num) else u.num))) (.peek fun u => .wrong 5 (.step (tl p x (if b then IntKind.i64.wrap (-u.num) else u.num))))
   .ok (.is [125] (.ret kids) (.peek fun t => .name fun x => .is [61] (.step (.is [45] (.step (nu t.pos x true)) (nu t.pos x false))) (tl t.pos x n))) (.ret kids)
 | .block => .peek fun t => .must [123] (.call (.blockLoop []) fun l => .must [125] (.add 26 t.pos [] 0 l fun v => .ret [v]))
 | .blockLoop kids => .ok (.is [125] (.ret kids) (.call .stmt fun l => .call (.blockLoop (kids ++ [fst0 l])) .ret)) (.ret kids)
 | .body => .is [123] (.call .block .ret) (.peek fun t => .call .stmt fun l => .add 26 t.pos [] 0 [fst0 l] fun v => .ret [v])
 | .control t =>
   if t.text = [105, 102] then .call .paren fun c => .call .body fun b =>
    let tl : Int → P := fun o => .add 29 t.pos [] 0 [fst0 c, fst0 b, o] fun v => .ret [v]
    .is [101, 108, 115, 101] (.step (.is [105, 102] (.peek fun u => .step (.down (.call (.control u) fun l => .up (tl (fst0 l))))) (.call .body fun l => tl (fst0 l)))) (tl (-1))
   else if t.text = [119, 104, 105, 108, 101] then .call .paren fun c => .call .body fun b => .add 30 t.pos [] 0 [fst0 c, fst0 b] fun v => .ret [v]
   else if t.text = [100, 111] then .call .body fun b => .must [119, 104, 105, 108, 101] (.call .paren fun c => .add 31 t.pos [] 0 [fst0 b, fst0 c] fun v => .fend (.ret [v]))
   else if t.text = [102, 111, 114] then .call (.loop t.pos) .ret
   else if t.text = [102, 111, 114, 101, 97, 99, 104] then .call (.foreach t.pos) .ret
   else if t.text = [115, 119, 105, 116, 99, 104] then .call (.cases t.pos) .ret
   else .call .body fun b => .must [99, 97, 116, 99, 104] (.must [40] (.name fun x => .must [41] (.call .body fun c => .add 40 t.pos x 0 [fst0 b, fst0 c] fun v => .ret [v])))
 | .paren => .must [40] (.call .expr fun l => .must [41] (.ret l))
 | .loop a =>
   let last : Int → Int → Int → P := fun f c s => .must [41] (.call .body fun l => .add 32 a [] 0 [f, c, s, fst0 l] fun v => .ret [v])
   let stp : Int → Int → P := fun f c => .is [41] (last f c (-1)) (.call .expr fun l => last f c (fst0 l))
   let cond : Int → P := fun f => .is [59] (.step (stp f (-1))) (.call .expr fun l => .must [59] (stp f (fst0 l)))
   .must [40] (.peek fun t => .is [59] (.step (cond (-1))) (.is [108, 111, 99, 97, 108] (.step (.name fun x => .is [61] (.step (.call .expr fun l => .add 27 t.pos x 0 [fst0 l] fun v => .must [59] (cond v))) (.add 27 t.pos x 0 [-1] fun v => .must [59] (cond v))))
    (.call .expr fun l => .add 28 t.pos [] 0 [fst0 l] fun v => .must [59] (cond v))))
 | .foreach a =>
   let tl : List UInt8 → List UInt8 → P := fun k v =>
    let q : P := .must [105, 110] (.call .expr fun e => .must [41] (.call .body fun b => .add 33 a (k ++ [9] ++ v) 0 [fst0 e, fst0 b] fun w => .ret [w]))
    if k = v then .wrong 4 q else q
   .must [40] (.name fun x => .is [44] (.step (.name fun y => tl x y)) (tl [] x))
 | .cases a => .call .paren fun p => .must [123] (.call (.casesLoop false [fst0 p]) fun l => .must [125] (.add 34 a [] 0 l fun v => .ret [v]))
 | .casesLoop other kids =>
   let tl : Int → Bool → Int → P := fun p o k => .must [58] (.call (.caseLoop [k]) fun l => .add 24 p [] 0 l fun v => .call (.casesLoop o (kids ++ [v])) .ret)
   .ok (.is [125] (.ret kids) (.peek fun t => .is [99, 97, 115, 101] (.step (.call .expr fun l => tl t.pos other (fst0 l))) (if other = false then .is [100, 101, 102, 97, 117, 108, 116] (.step (tl t.pos true (-1))) (.wrong 5 (tl t.pos other (-1))) else .wrong 5 (tl t.pos other (-1))))) (.ret kids)
 | .caseLoop kids => .ok (.is [125] (.ret kids) (.is [99, 97, 115, 101] (.ret kids) (.is [100, 101, 102, 97, 117, 108, 116] (.ret kids) (.call .stmt fun l => .call (.caseLoop (kids ++ [fst0 l])) .ret)))) (.ret kids)
 | .expr => .down (.ok (.peek fun a => .call (.cond a.pos) fun l => .test (fun t => decide (t.kind = 5) && isAssign t.text) (.peek fun t => .targ (fst0 l) (.step (.call .expr fun m => .add 12 a.pos t.text 0 [fst0 l, fst0 m] fun v => .up (.ret [v]))) (.wrong 30 (.up (.ret l)))) (.up (.ret l))) (.up (.ret [-1])))
 | .cond a => .call (.binary 0) fun l => .is [63] (.step (.call .expr fun m => .must [58] (.down (.peek fun u => .call (.cond u.pos) fun b => .add 11 a [] 0 [fst0 l, fst0 m, fst0 b] fun v => .up (.ret [v]))))) (.ret l)
 | .binary level => if level = 10 then .call .unary .ret else .peek fun t => .call (.binary (IntKind.i64.wrap (level + 1))) fun l => .call (.binLoop level t.pos (fst0 l)) .ret
 | .binLoop level a i => .ok (.test (fun t => (decide (t.kind = 5) || decide (t.kind = 2)) && decide (levelW t.text = level)) (.peek fun t => .step (.call (.binary (IntKind.i64.wrap (level + 1))) fun l => .add 10 a t.text 0 [i, fst0 l] fun v => .call (.binLoop level a v) .ret)) (.ret [i])) (.ret [i])
 | .unary => .test (fun t => (decide (t.kind = 5) || decide (t.kind = 2)) && (isUnary t.text || isStep t.text)) (.peek fun t => .down (.step (.peek fun u => .call .unary fun l =>
   let tl : P := .add (if isStep t.text = true then 13 else 9) t.pos t.text 0 [fst0 l] fun v => .up (.ret [v])
   if t.text = [100, 101, 108, 101, 116, 101] ∨ isStep t.text = true then .ok (.targ (fst0 l) tl (.fault 30 u.pos (.up (.ret l)))) tl else tl))) (.call .postf .ret)
 | .postf => .peek fun t => .call .primary fun l => .call (.postLoop t.pos (fst0 l)) .ret
 | .postLoop a i => .ok
   (.is [46] (.step (.name fun x => .add 15 a x 0 [i] fun v => .call (.postLoop a v) .ret))
   (.test (fun t => isT [91] t && !t.line) (.step (.call .expr fun l => .must [93] (.add 14 a [] 0 [i, fst0 l] fun v => .call (.postLoop a v) .ret)))
   (.test (fun t => isT [40] t && !t.line) (.step (.call (.some [41]) fun l => .add 17 a [] 0 (i :: l) fun v => .call (.postLoop a v) .ret))
   (.test (fun t => decide (t.kind = 5) && (isStep t.text && !t.line)) (.peek fun t => .targ i (.step (.add 13 a t.text 1 [i] fun v => .ret [v])) (.wrong 30 (.ret [i]))) (.ret [i]))))) (.ret [i])
 | .some stop => .call (.someLoop stop []) fun l => .must stop (.ret l)
 | .someLoop stop kids => .ok (.is stop (.ret kids) (.call .expr fun l => .is [44] (.step (.is stop (.wrong 5 (.call (.someLoop stop (kids ++ [fst0 l])) .ret)) (.call (.someLoop stop (kids ++ [fst0 l])) .ret))) (.ret (kids ++ [fst0 l])))) (.ret kids)
 | .primary => .peek fun t =>
   let lit : Int → P := fun k => .step (.add k t.pos [] 0 [] fun v => .ret [v])
   .test (fun t => decide (t.kind = 1)) (.step (.add 6 t.pos t.text 0 [] fun v => .ret [v]))
   (.test (fun t => decide (t.kind = 3)) (.step (.add 4 t.pos [] t.num [] fun v => .ret [v]))
   (.test (fun t => decide (t.kind = 4)) (.step (.add 5 t.pos t.text 0 [] fun v => .ret [v]))
   (.is [110, 117, 108, 108] (lit 1) (.is [116, 114, 117, 101] (lit 2) (.is [102, 97, 108, 115, 101] (lit 3) (.is [116, 104, 105, 115] (lit 7)
   (.is [58, 58] (.step (.name fun x => .add 8 t.pos x 0 [] fun v => .ret [v]))
   (.is [98, 97, 115, 101] (.step (.must [46] (.is [99, 111, 110, 115, 116, 114, 117, 99, 116, 111, 114] (.step (.add 16 t.pos [99, 111, 110, 115, 116, 114, 117, 99, 116, 111, 114] 0 [] fun v => .ret [v])) (.name fun x => .add 16 t.pos x 0 [] fun v => .ret [v]))))
   (.is [40] (.step (.call .expr fun l => .must [41] (.ret l)))
   (.is [91] (.step (.call (.some [93]) fun l => .add 18 t.pos [] 0 l fun v => .ret [v]))
   (.is [123] (.call .table .ret) (.is [102, 117, 110, 99, 116, 105, 111, 110] (.call .function .ret) (.is [99, 108, 97, 115, 115] (.call .clas .ret) (.wrong 5 (.ret [-1])))))))))))))))
 | .member => .peek fun t =>
   .is [102, 117, 110, 99, 116, 105, 111, 110] (.next fun u => if u.kind = 1 then .add 5 u.pos u.text 0 [] fun k => .call .function fun l => .ret [k, fst0 l] else .step (.wrong 5 (.ret [-1, -1])))
   (.is [91] (.step (.call .expr fun k => .must [93] (.must [61] (.call .expr fun l => .ret [fst0 k, fst0 l]))))
   (.name fun x => .add 5 t.pos x 0 [] fun k => .must [61] (.call .expr fun l => .ret [k, fst0 l])))
 | .table => .peek fun t => .must [123] (.call (.tableLoop []) fun l => .must [125] (.add 19 t.pos [] 0 l fun v => .ret [v]))
 | .tableLoop kids => .ok (.is [125] (.ret kids) (.call .member fun l => .is [44] (.step (.call (.tableLoop (kids ++ [fst0 l, l.getD 1 0])) .ret)) (.ret (kids ++ [fst0 l, l.getD 1 0])))) (.ret kids)
 | .function => .peek fun t => .must [102, 117, 110, 99, 116, 105, 111, 110] (.test (fun t => decide (t.kind = 1)) (.name fun x => .call (.params t.pos x) .ret) (.call (.params t.pos []) .ret))
 | .params a x => .down (.must [40] (.call (.paramsLoop []) fun l => .must [41] (.call .block fun b => .add 20 a x l.length (l ++ [fst0 b]) fun v => .up (.ret [v]))))
 | .paramsLoop kids =>
   let tl : Int → List UInt8 → Int → P := fun p x k => .add 22 p x 0 [k] fun v => .is [44] (.step (.call (.paramsLoop (kids ++ [v])) .ret)) (.ret (kids ++ [v]))
   .ok (.is [41] (.ret kids) (.peek fun t => .name fun x => .is [61] (.step (.call .expr fun l => tl t.pos x (fst0 l))) (tl t.pos x (-1)))) (.ret kids)
 | .clas => .down (.peek fun t =>
   let mem : List UInt8 → Int → P := fun x k => .must [123] (.call (.classLoop [k]) fun l => .must [125] (.add 21 t.pos x 0 l fun v => .up (.ret [v])))
   let ext : List UInt8 → P := fun x => .is [101, 120, 116, 101, 110, 100, 115] (.step (.call .expr fun l => mem x (fst0 l))) (mem x (-1))
   .must [99, 108, 97, 115, 115] (.test (fun t => decide (t.kind = 1)) (.name fun x => ext x) (ext [])))
 | .classLoop kids =>
   let tl : Int → Int → Int → P := fun p k w => .add 23 p [] 0 [k, w] fun v => .is [59] (.step (.call (.classLoop (kids ++ [v])) .ret)) (.call (.classLoop (kids ++ [v])) .ret)
   .ok (.is [125] (.ret kids) (.peek fun t => .is [99, 111, 110, 115, 116, 114, 117, 99, 116, 111, 114] (.step (.add 5 t.pos [99, 111, 110, 115, 116, 114, 117, 99, 116, 111, 114] 0 [] fun k => .call (.params t.pos []) fun l => tl t.pos k (fst0 l))) (.call .member fun l => tl t.pos (fst0 l) (l.getD 1 0)))) (.ret kids)
theorem run_if {T : List Tk} {n : Nat} {op : Op} {c : Prop} [Decidable c] (a b : St) : run T n op (if c then a else b) = if c then run T n op a else run T n op b := by split <;> rfl
theorem tf_eq {c : Prop} [Decidable c] : ((if c then true else false) = true) = c := by by_cases c <;> simp_all
theorem run_ifop {T : List Tk} {n : Nat} {S : St} {c : Prop} [Decidable c] (a b : Op) : run T n (if c then a else b) S = if c then run T n a S else run T n b S := by split <;> rfl
theorem isT_peek {T : List Tk} {S : St} {x : List UInt8} : isT x (peekL T S) = isL T x S := rfl
theorem bind_ret {x : Option Res} : (x.bind fun r => some (r.1, r.2)) = x := by cases x <;> rfl
theorem bind_if {α β} {c : Prop} [Decidable c] (a b : Option α) (f : α → Option β) : (if c then a else b).bind f = if c then a.bind f else b.bind f := by split <;> rfl
theorem go_if {T : List Tk} {rec : Op → St → Option Res} {c : Prop} [Decidable c] (a b : P) (S : St) : go T rec (if c then a else b) S = if c then go T rec a S else go T rec b S := by split <;> rfl
theorem if_and {α} {p q : Prop} [Decidable p] [Decidable q] (a b : α) : (if p ∧ q then a else b) = if p then (if q then a else b) else b := by by_cases p <;> by_cases q <;> simp_all
theorem if_nt {α} {p : Prop} [Decidable p] (a b : α) : (if ¬ p then a else b) = if p then b else a := by by_cases p <;> simp_all
theorem fst_if {α β} {c : Prop} [Decidable c] (a b : α × β) : (if c then a else b).1 = if c then a.1 else b.1 := by split <;> rfl
theorem snd_if {α β} {c : Prop} [Decidable c] (a b : α × β) : (if c then a else b).2 = if c then a.2 else b.2 := by split <;> rfl
theorem if_f {α} {b : Bool} (x y : α) : (if b = false then x else y) = if b = true then y else x := by cases b <;> rfl
theorem run_body (T : List Tk) (n : Nat) (op : Op) (S : St) : run T (n + 1) op S = go T (run T n) (body op) S := by
 have ex : ∀ {x : Option Res} {f g : Res → Option Res}, (∀ r, f r = g r) → x.bind f = x.bind g := fun h => by congr 1; funext r; exact h r
 cases op
 case locl a =>
  simp only [run, body, go, one, Option.map_eq_bind, Option.bind_some, Option.bind_assoc, Function.comp_def, bind_if, go_if]
  by_cases h : isL T [102, 117, 110, 99, 116, 105, 111, 110] S = true
  ·rw [if_pos h, if_pos h]
   by_cases h1 : (T.getD (S.idx + 1) default).kind = 1
   ·have h2 : S.idx + 1 < T.length := by
     by_cases h2 : S.idx + 1 < T.length
     ·exact h2
     ·rw [List.getD, List.getElem?_eq_none (by omega)] at h1
      exact absurd h1 (by decide)
    rw [if_pos h1, if_pos h1, Nat.min_eq_left (by omega)]
   ·rw [if_neg h1, if_neg h1]
  ·rw [if_neg h, if_neg h]
   split <;> rfl
 all_goals (simp only [run, body, go, one, isT_peek, eatL, Option.map_eq_bind, Option.bind_some, Option.bind_assoc, Function.comp_def, bind_if, go_if, decide_eq_true_eq, Bool.and_eq_true, Bool.or_eq_true, Bool.not_eq_true', if_and, if_nt, if_f, fst_if, snd_if, bind_ret, Option.bind_none, run_if, run_ifop, tf_eq]; try rfl)
 case enumLoop => repeat' first | rfl | split
 case foreach => repeat' first | rfl | split
 case function => split <;> rfl
 case clas => repeat' first | rfl | split
 case unary => repeat' first | rfl | (refine ex fun r => ?_) | split
end Go.Proofs.YtcbgpjlcfkkdlaaGreatDoor

