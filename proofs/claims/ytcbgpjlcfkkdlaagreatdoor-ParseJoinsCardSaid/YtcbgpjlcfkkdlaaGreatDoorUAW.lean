import Derived.Test.YtcbgpjlcfkkdlaaGreatDoorUAP
import Derived.Test.YtcbgpjlcfkkdlaaGreatDoorUAH
import Derived.Test.YtcbgpjlcfkkdlaaGreatDoorUAU
import Derived.Test.YtcbgpjlcfkkdlaaGreatDoorUAV
set_option linter.unusedSimpArgs false
set_option linter.unusedVariables false
set_option maxRecDepth 100000
set_option maxHeartbeats 16000000
namespace Go.Proofs.YtcbgpjlcfkkdlaaGreatDoor
open Go Go.AL Go.Proofs
def wantAt (n : Nd) (i : Nat) : Int := (shapeL n.kind n.text).1.getD i (shapeL n.kind n.text).2
def firstKid (nodes : List Nd) (k : Int) : Int := ((nodes[k.toNat]?).map fun n => n.kids.headD 0).getD 0
def isDefault (nodes : List Nd) (k : Int) : Bool := decide (0 ≤ k) && decide (kindAt nodes k = 24) && decide (firstKid nodes k = -1)
def kidsL (nodes : List Nd) (n : Nd) : Bool :=
 if n.kind = 20 then funcKidsL nodes n
 else !(decide (n.kids.length < (shapeL n.kind n.text).1.length) || (decide ((shapeL n.kind n.text).2 = 0) && decide ((shapeL n.kind n.text).1.length < n.kids.length)) || (decide (n.kind = 19) && decide (¬ n.kids.length % 2 = 0))) &&
  decide (∀ i (h : i < n.kids.length), kidFine nodes n.kids[i] (wantAt n i) = true) && decide (n.kids.countP (isDefault nodes) ≤ 1)
theorem kids_bad {nodes : List Nd} {n : Nd} {i : Nat} (h20 : ¬ n.kind = 20) (h : i < n.kids.length) (hb : kidFine nodes n.kids[i] (wantAt n i) = false) : kidsL nodes n = false := by
 simp only [kidsL, h20, if_false, Bool.and_eq_false_iff, decide_eq_false_iff_not]
 exact .inl (.inr fun h' => by rw [h' i h] at hb; cases hb)
theorem firstKid_get {nodes : List Nd} {k : Nat} (h : k < nodes.length) : firstKid nodes (k : Int) = nodes[k].kids.headD 0 := by simp [firstKid, h]
theorem countP_take_succ {p : Int → Bool} {l : List Int} {i : Nat} (h : i < l.length) : (l.take (i + 1)).countP p = (l.take i).countP p + if p l[i] = true then 1 else 0 := by
 rw [List.take_add_one, List.getElem?_eq_getElem h]
 simp only [Option.toList_some, List.countP_append, List.countP_cons, List.countP_nil, Nat.zero_add]
theorem kids_c (nodes : List Nd) (n : Nd) (t : Tok) (hl : nodes.length ≤ 131072) (hkl : n.kids.length ≤ 281474976710656) (hn : n.num ≤ 9223372036854775807) (hk : ∀ k ∈ n.kids, -1 ≤ k ∧ k < nodes.length)
  (hc : ∀ m (hm : m < nodes.length), (m : Int) ∈ n.kids → nodes[m].kind = 24 → nodes[m].kids ≠ []) (h : Heap) (R : AV → Heap → Prop)
  (hR : R (.bool (kidsL nodes n)) h) : ACalls Tryz.prog 29 [treeAV nodes t, .agg (row n)] h R := by
 refine ACalls.pure ?_ hR
 clear hR
 have hmod : (n.kids.length : Int).tmod 2 = ((n.kids.length % 2 : Nat) : Int) := rfl
 cases h20' : decide (n.kind = 20)
 rotate_left
 ·refine acalls_of Tryz.func29 rfl Tryz.ntmps29 (congrArg Array.toList Tryz.results29) fun Q hQ => ?_
  (focus repeat' first|refine ga ?_|(refine gb ?_;try simp[gz, *])|refine gk fun _ _=>?_)
  intro b1 hb1; simp only [Fresh, Heap.set_none] at hb1; try simp [gz, *]
  intro b2 hb2; simp only [Fresh, Heap.set_none] at hb2; try simp [gz, *]
  (focus repeat' first|refine ga ?_|(refine gb ?_;try simp[gz, *])|refine gk fun _ _=>?_)
  refine shape_c n .no _ _ (fun tok => ?_)
  simp [Heap.set_get, *]
  (focus repeat' first|refine ga ?_|(refine gb ?_;try simp[gz, *])|refine gk fun _ _=>?_)
  refine funcKids_c nodes n t hl hkl hn hk _ _ ?_
  simp [gz, *]
  (focus repeat' first|refine ga ?_|(refine gb ?_;try simp[gz, *])|refine gk fun _ _=>?_)
  have h20 : n.kind = 20 := by simpa using h20'
  exact ⟨by simp [kidsL, h20], ((Sub.refl h).loc hb1 _).loc (by simp [*]) _⟩
 have h20 : ¬ n.kind = 20 := by simpa using h20'
 clear h20'
 obtain ⟨fs, hfs⟩ : ∃ fs, (shapeL n.kind n.text).1 = fs := ⟨_, rfl⟩
 obtain ⟨r, hr⟩ : ∃ r, (shapeL n.kind n.text).2 = r := ⟨_, rfl⟩
 refine acalls_of Tryz.func29 rfl Tryz.ntmps29 (congrArg Array.toList Tryz.results29) fun Q hQ => ?_
 (focus repeat' first|refine ga ?_|(refine gb ?_;try simp[gz, *])|refine gk fun _ _=>?_)
 intro b1 hb1; simp only [Fresh, Heap.set_none] at hb1; try simp [gz, *]
 intro b2 hb2; simp only [Fresh, Heap.set_none] at hb2; try simp [gz, *]
 (focus repeat' first|refine ga ?_|(refine gb ?_;try simp[gz, *])|refine gk fun _ _=>?_)
 refine shape_c n .no _ _ (fun tok => ?_)
 simp [gz, *]
 (focus repeat' first|refine ga ?_|(refine gb ?_;try simp[gz, *])|refine gk fun _ _=>?_|refine gc ?_ ?_|exact gr _|refine gi fun _=>?_|(refine gn ?_ ?_;focus(intros;simp[*];done)))
 ·refine ⟨?_, ((Sub.refl h).loc hb1 _).loc (by simp [*]) _⟩
  simp only [kidsL, h20, if_false, hfs, hr, Bool.and_eq_false_iff, Bool.not_eq_false', Bool.or_eq_true, decide_eq_true_eq, Bool.and_eq_true]
  refine .inl (.inl ?_)
  omega
 have hsub : AL.Sub h ((h.set b1 (.cells [AV.list 5 (List.map row nodes) t])).set b2 (.cells (row n))) := ((Sub.refl h).loc hb1 _).loc (by simp [*]) _
 refine awp_loop_h [4,7,8,9,10,11,56,57,58,59,60,61,62,63,64,65,66,67,68,69,70,71,72,73,74,75,76,77,78,79,80,81,82,83,84,85,86,87,88,89,90,91,92,93,94,95,96,97,98,99,100,101,102,103,104,105,106,107] (fun m x g => ∃ i : Nat, i ≤ n.kids.length ∧ m = n.kids.length - i ∧ x 56 = .int .i64 i ∧ x 7 = .int .i64 ((n.kids.take i).countP (isDefault nodes) : Nat) ∧ (∀ j (hj : j < n.kids.length), j < i → kidFine nodes n.kids[j] (wantAt n j) = true) ∧
  g = (h.set b1 (.cells [AV.list 5 (List.map row nodes) t])).set b2 (.cells (row n))) n.kids.length ⟨0, by omega, by omega, rfl, by simp, by simp, rfl⟩ (fun m x g hI K hK => ?_)
 obtain ⟨i, hi, rfl, hx, hx7, hn, rfl⟩ := hI
 have w3 : IntKind.i64.wrap ((i : Int) + 1) = i + 1 := w64 (by omega) (by omega)
 obtain ⟨c, hcc⟩ : ∃ c, (n.kids.take i).countP (isDefault nodes) = c := ⟨_, rfl⟩
 have hcl : c ≤ i := by rw [← hcc]; exact Nat.le_trans (List.countP_le_length) (by simp; omega)
 have w4 : IntKind.i64.wrap ((c : Int) + 1) = c + 1 := w64 (by omega) (by omega)
 rw [hcc] at hx7
 by_cases hlt : i < n.kids.length
 ·obtain ⟨w, hw⟩ : ∃ w, wantAt n i = w := ⟨_, rfl⟩
  have hkm := hk n.kids[i] (List.getElem_mem hlt)
  have hmem := List.getElem_mem hlt
  have hgo : kidFine nodes n.kids[i] w = true → ∀ j (hj : j < n.kids.length), j < i + 1 → kidFine nodes n.kids[j] (wantAt n j) = true := by
   intro hf j hj hji
   by_cases e : j < i
   ·exact hn j hj e
   ·have : j = i := by omega
    subst this
    rw [hw]; exact hf
  have hct : (n.kids.take (i + 1)).countP (isDefault nodes) = c + if isDefault nodes n.kids[i] = true then 1 else 0 := by rw [countP_take_succ hlt, hcc]
  obtain ⟨k, hkk⟩ : ∃ k, n.kids[i] = k := ⟨_, rfl⟩
  have hstop : kidFine nodes k w = false → kidsL nodes n = false := fun hf => kids_bad h20 hlt (by rw [hw, hkk]; exact hf)
  rw [hkk] at hkm hgo hct hmem
  have hwant : (∃ hh : i < fs.length, fs[i] = w) ∨ (fs.length ≤ i ∧ r = w) := by
   unfold wantAt at hw
   rw [hfs, hr] at hw
   by_cases e : i < fs.length
   ·exact .inl ⟨e, by simpa [List.getD, e] using hw⟩
   ·exact .inr ⟨by omega, by simpa [List.getD, List.getElem?_eq_none (Nat.le_of_not_lt e)] using hw⟩
  have hk0 : k = -1 ∨ ∃ m, k = (m : Nat) ∧ ∃ hm : m < nodes.length, nodes[m].kind = nodes[m].kind := by
   by_cases e : k = -1
   ·exact .inl e
   ·obtain ⟨m, hm⟩ := Int.eq_ofNat_of_zero_le (a := k) (by omega)
    exact .inr ⟨m, hm, by omega, rfl⟩
  rcases hk0 with hk1 | ⟨m, hm, hml, -⟩
  ·by_cases hb : bitAnd .i64 w 4096 = 0
   ·have hs := hstop (by simp [kidFine, hk1, hb])
    rcases hwant with ⟨e1, e2⟩ | ⟨e1, rfl⟩
    ·refine awp_eqs (s' := [_,_,_,_,x 4,_,_,x 7,x 8,x 9,x 10,x 11,_,_,_,_,_,_,_,_,_,_,_,_,_,_,_,_,_,_,_,_,_,_,_,_,_,_,_,_,_,_,_,_,_,_,_,_,_,_,_,_,_,_,_,_,x 56,x 57,x 58,x 59,x 60,x 61,x 62,x 63,x 64,x 65,x 66,x 67,x 68,x 69,x 70,x 71,x 72,x 73,x 74,x 75,x 76,x 77,x 78,x 79,x 80,x 81,x 82,x 83,x 84,x 85,x 86,x 87,x 88,x 89,x 90,x 91,x 92,x 93,x 94,x 95,x 96,x 97,x 98,x 99,x 100,x 101,x 102,x 103,x 104,x 105,x 106,x 107,_,_]) rfl ?_
     (focus repeat' first|refine ga ?_|(refine gb ?_;try simp[gz, *])|refine gk fun _ _=>?_)
    ·refine awp_eqs (s' := [_,_,_,_,x 4,_,_,x 7,x 8,x 9,x 10,x 11,_,_,_,_,_,_,_,_,_,_,_,_,_,_,_,_,_,_,_,_,_,_,_,_,_,_,_,_,_,_,_,_,_,_,_,_,_,_,_,_,_,_,_,_,x 56,x 57,x 58,x 59,x 60,x 61,x 62,x 63,x 64,x 65,x 66,x 67,x 68,x 69,x 70,x 71,x 72,x 73,x 74,x 75,x 76,x 77,x 78,x 79,x 80,x 81,x 82,x 83,x 84,x 85,x 86,x 87,x 88,x 89,x 90,x 91,x 92,x 93,x 94,x 95,x 96,x 97,x 98,x 99,x 100,x 101,x 102,x 103,x 104,x 105,x 106,x 107,_,_]) rfl ?_
     (focus repeat' first|refine ga ?_|(refine gb ?_;try simp[gz, *])|refine gk fun _ _=>?_)
   ·have hg := hgo (by simp [kidFine, hk1, hb])
    have hct' : (n.kids.take (i + 1)).countP (isDefault nodes) = c := by rw [hct, hk1]; simp [isDefault]
    rcases hwant with ⟨e1, e2⟩ | ⟨e1, rfl⟩
    ·refine awp_eqs (s' := [_,_,_,_,x 4,_,_,x 7,x 8,x 9,x 10,x 11,_,_,_,_,_,_,_,_,_,_,_,_,_,_,_,_,_,_,_,_,_,_,_,_,_,_,_,_,_,_,_,_,_,_,_,_,_,_,_,_,_,_,_,_,x 56,x 57,x 58,x 59,x 60,x 61,x 62,x 63,x 64,x 65,x 66,x 67,x 68,x 69,x 70,x 71,x 72,x 73,x 74,x 75,x 76,x 77,x 78,x 79,x 80,x 81,x 82,x 83,x 84,x 85,x 86,x 87,x 88,x 89,x 90,x 91,x 92,x 93,x 94,x 95,x 96,x 97,x 98,x 99,x 100,x 101,x 102,x 103,x 104,x 105,x 106,x 107,_,_]) rfl ?_
     (focus repeat' first|refine ga ?_|(refine gb ?_;try simp[gz, *])|refine gk fun _ _=>?_)
     exact ⟨by kernel_rfl, rfl, n.kids.length - (i + 1), _, by omega, Sub.refl _, i + 1, by omega, rfl, by simp, by rw [hct']; simp, hg, rfl⟩
    ·refine awp_eqs (s' := [_,_,_,_,x 4,_,_,x 7,x 8,x 9,x 10,x 11,_,_,_,_,_,_,_,_,_,_,_,_,_,_,_,_,_,_,_,_,_,_,_,_,_,_,_,_,_,_,_,_,_,_,_,_,_,_,_,_,_,_,_,_,x 56,x 57,x 58,x 59,x 60,x 61,x 62,x 63,x 64,x 65,x 66,x 67,x 68,x 69,x 70,x 71,x 72,x 73,x 74,x 75,x 76,x 77,x 78,x 79,x 80,x 81,x 82,x 83,x 84,x 85,x 86,x 87,x 88,x 89,x 90,x 91,x 92,x 93,x 94,x 95,x 96,x 97,x 98,x 99,x 100,x 101,x 102,x 103,x 104,x 105,x 106,x 107,_,_]) rfl ?_
     (focus repeat' first|refine ga ?_|(refine gb ?_;try simp[gz, *])|refine gk fun _ _=>?_)
     exact ⟨by kernel_rfl, rfl, n.kids.length - (i + 1), _, by omega, Sub.refl _, i + 1, by omega, rfl, by simp, by rw [hct']; simp, hg, rfl⟩
  ·have hkind := kindAt_get hml
   have hfk := firstKid_get hml
   have hfine : kidFine nodes k w = fitsL nodes[m].kind w := by
    have : ¬ ((m : Int) = -1) := by omega
    simp [kidFine, hm, this, hkind]
   have hdef : isDefault nodes k = (decide (nodes[m].kind = 24) && decide (nodes[m].kids.headD 0 = -1)) := by simp [isDefault, hm, hkind, hfk]
   rw [hm] at hmem
   have hcm := hc m hml hmem
   have hm0 : ¬ ((m : Int) < 0) := by omega
   have hm1 : ¬ ((m : Int) = -1) := by omega
   cases hf : fitsL nodes[m].kind w
   ·have hs := hstop (hfine.trans hf)
    rcases hwant with ⟨e1, e2⟩ | ⟨e1, rfl⟩
    all_goals
     refine awp_eqs (s' := [_,_,_,_,x 4,_,_,x 7,x 8,x 9,x 10,x 11,_,_,_,_,_,_,_,_,_,_,_,_,_,_,_,_,_,_,_,_,_,_,_,_,_,_,_,_,_,_,_,_,_,_,_,_,_,_,_,_,_,_,_,_,x 56,x 57,x 58,x 59,x 60,x 61,x 62,x 63,x 64,x 65,x 66,x 67,x 68,x 69,x 70,x 71,x 72,x 73,x 74,x 75,x 76,x 77,x 78,x 79,x 80,x 81,x 82,x 83,x 84,x 85,x 86,x 87,x 88,x 89,x 90,x 91,x 92,x 93,x 94,x 95,x 96,x 97,x 98,x 99,x 100,x 101,x 102,x 103,x 104,x 105,x 106,x 107,_,_]) rfl ?_
     (focus repeat' first|refine ga ?_|(refine gb ?_;try simp[gz, *])|refine gk fun _ _=>?_)
     refine fits_c _ _ _ _ ?_
     simp [gz, *]
     (focus repeat' first|refine ga ?_|(refine gb ?_;try simp[gz, *])|refine gk fun _ _=>?_)
   rcases hwant with ⟨e1, e2⟩ | ⟨e1, rfl⟩
   all_goals
    have hg := hgo (hfine.trans hf)
    refine awp_eqs (s' := [_,_,_,_,x 4,_,_,x 7,x 8,x 9,x 10,x 11,_,_,_,_,_,_,_,_,_,_,_,_,_,_,_,_,_,_,_,_,_,_,_,_,_,_,_,_,_,_,_,_,_,_,_,_,_,_,_,_,_,_,_,_,x 56,x 57,x 58,x 59,x 60,x 61,x 62,x 63,x 64,x 65,x 66,x 67,x 68,x 69,x 70,x 71,x 72,x 73,x 74,x 75,x 76,x 77,x 78,x 79,x 80,x 81,x 82,x 83,x 84,x 85,x 86,x 87,x 88,x 89,x 90,x 91,x 92,x 93,x 94,x 95,x 96,x 97,x 98,x 99,x 100,x 101,x 102,x 103,x 104,x 105,x 106,x 107,_,_]) rfl ?_
    (focus repeat' first|refine ga ?_|(refine gb ?_;try simp[gz, *])|refine gk fun _ _=>?_)
    refine fits_c _ _ _ _ ?_
    simp [gz, *]
    (focus repeat' first|refine ga ?_|(refine gb ?_;try simp[gz, *])|refine gk fun _ _=>?_)
    intro b3 hb3; simp only [Fresh, Heap.set_none] at hb3; try simp [gz, *]
    by_cases h24 : nodes[m].kind = 24
    ·obtain ⟨c0, cs, hcs⟩ : ∃ c0 cs, nodes[m].kids = c0 :: cs := by
      cases e : nodes[m].kids with
      | nil => exact absurd e (hcm h24)
      | cons c0 cs => exact ⟨c0, cs, rfl⟩
     have hh : nodes[m].kids.headD 0 = c0 := by rw [hcs]; rfl
     (focus repeat' first|refine ga ?_|(refine gb ?_;try simp[gz, *])|refine gk fun _ _=>?_|refine gc ?_ ?_|exact gr _|refine gi fun _=>?_|(refine gn ?_ ?_;focus(intros;simp[*];done)))
     all_goals
      rename_i hc0
      refine ⟨by kernel_rfl, rfl, n.kids.length - (i + 1), _, by omega, ?_, i + 1, by omega, rfl, by simp, ?_, hg, rfl⟩
      ·exact (Sub.refl _).loc (by simp [*]) _
      ·rw [hct, hdef, hh]
       simp [h24, hc0]
    ·have hd0 : isDefault nodes k = false := by rw [hdef]; simp [h24]
     cases hk0 : nodes[m].kids
     all_goals
      (focus repeat' first|refine ga ?_|(refine gb ?_;try simp[gz, *])|refine gk fun _ _=>?_)
      refine ⟨by kernel_rfl, rfl, n.kids.length - (i + 1), _, by omega, ?_, i + 1, by omega, rfl, by simp, ?_, hg, rfl⟩
      ·exact (Sub.refl _).loc (by simp [*]) _
      ·rw [hct, hd0]
       simp
 ·have hge : n.kids.length ≤ i := by omega
  refine awp_eqs (s' := [_,_,_,_,x 4,_,_,x 7,x 8,x 9,x 10,x 11,_,_,_,_,_,_,_,_,_,_,_,_,_,_,_,_,_,_,_,_,_,_,_,_,_,_,_,_,_,_,_,_,_,_,_,_,_,_,_,_,_,_,_,_,x 56,x 57,x 58,x 59,x 60,x 61,x 62,x 63,x 64,x 65,x 66,x 67,x 68,x 69,x 70,x 71,x 72,x 73,x 74,x 75,x 76,x 77,x 78,x 79,x 80,x 81,x 82,x 83,x 84,x 85,x 86,x 87,x 88,x 89,x 90,x 91,x 92,x 93,x 94,x 95,x 96,x 97,x 98,x 99,x 100,x 101,x 102,x 103,x 104,x 105,x 106,x 107,_,_]) rfl ?_
  (focus repeat' first|refine ga ?_|(refine gb ?_;try simp[gz, *])|refine gk fun _ _=>?_)
  rw [← hcc, List.take_of_length_le hge]
  simp only [kidsL, h20, if_false, hfs, hr]
  have e1 : decide (∀ (i : Nat) (h : i < n.kids.length), kidFine nodes n.kids[i] (wantAt n i) = true) = true := by simpa using fun j hj => hn j hj (by omega)
  rw [e1]
  have e2 : decide (n.kids.length < fs.length) = false := by simpa using (by assumption : fs.length ≤ n.kids.length)
  have e3 : (decide (r = 0) && decide (fs.length < n.kids.length)) = false := by
   simp only [Bool.and_eq_false_iff, decide_eq_false_iff_not]
   by_cases e : r = 0
   ·exact .inr (Nat.not_lt.2 ((by assumption : r = 0 → n.kids.length ≤ fs.length) e))
   ·exact .inl e
  have e4 : (decide (n.kind = 19) && decide (¬ n.kids.length % 2 = 0)) = false := by
   simp only [Bool.and_eq_false_iff, decide_eq_false_iff_not]
   by_cases e : n.kind = 19
   ·have := (by assumption : n.kind = 19 → (n.kids.length : Int) % 2 = 0) e
    exact .inr (by omega)
   ·exact .inl e
  rw [e2, e3, e4]
  simp
  omega
end Go.Proofs.YtcbgpjlcfkkdlaaGreatDoor

namespace Go.Proofs.YtcbgpjlcfkkdlaaGreatDoor
open Go Go.AL Go.Proofs
def textL (k : Int) (text : List UInt8) (num : Int) : Bool :=
 if k = 4 then decide (text = [])
 else if k = 5 then decide (num = 0)
 else if k = 16 then decide (num = 0) && (nameL text || decide (text = [99, 111, 110, 115, 116, 114, 117, 99, 116, 111, 114]))
 else if k = 6 ∨ k = 8 ∨ k = 15 ∨ k = 22 ∨ k = 27 ∨ k = 40 ∨ k = 41 ∨ k = 42 then decide (num = 0) && nameL text
 else if k = 25 then nameL text
 else if k = 9 then decide (num = 0) && amongL text unaryB
 else if k = 10 then decide (num = 0) && decide (0 ≤ levelL text)
 else if k = 12 then decide (num = 0) && amongL text assignB
 else if k = 13 then amongL text stepB && (decide (num = 0) || decide (num = 1))
 else if k = 20 then decide (text = []) || nameL text
 else if k = 21 then decide (num = 0) && (decide (text = []) || nameL text)
 else if k = 33 then
  decide (num = 0) && (Lib.cut text [9]).2.2 && (decide ((Lib.cut text [9]).1 = []) || nameL (Lib.cut text [9]).1) && nameL (Lib.cut text [9]).2.1 && !decide ((Lib.cut text [9]).1 = (Lib.cut text [9]).2.1)
 else decide (num = 0) && decide (text = [])
theorem cut_len (s sep : List UInt8) : (Lib.cut s sep).1.length ≤ s.length ∧ (Lib.cut s sep).2.1.length ≤ s.length := by
 unfold Lib.cut
 split <;> simp <;> omega
theorem text_c (n : Nd) (t : Tok) (hs : n.text.length < 4294967200) (h : Heap) (hg : h 0 = some .gint) (R : AV → Heap → Prop) (hR : R (.bool (textL n.kind n.text n.num)) h) :
  ACalls Tryz.prog 28 [.agg (ndRow n t)] h R := by
 refine ACalls.pure ?_ hR
 clear hR
 obtain ⟨k, p, text, num, kids⟩ := n
 have hs' : text.length < 4294967200 := hs
 by_cases k21 : k = 21
 ·subst k21
  by_cases h1 : num = 0
  ·by_cases h2 : text = []
   ·refine acalls_of Tryz.func28 rfl Tryz.ntmps28 (congrArg Array.toList Tryz.results28) fun Q hQ => ?_
    (focus repeat' first|refine ga ?_|(refine gb ?_;try simp[gz, *])|refine gk fun _ _=>?_|refine gc ?_ ?_|exact gr _|refine gi fun _=>?_|(refine gn ?_ ?_;focus(intros;simp[*];done)))
    intro b1 hb1; simp only [Fresh, Heap.set_none] at hb1; try simp [gz, *]
    have hsb : ∀ x, AL.Sub h (h.set b1 x) := fun x => (Sub.refl h).loc hb1 x
    (focus repeat' first|refine ga ?_|(refine gb ?_;try simp[gz, *])|refine gk fun _ _=>?_|refine gc ?_ ?_|exact gr _|refine gi fun _=>?_|(refine gn ?_ ?_;focus(intros;simp[*];done)))
    all_goals first
     | contradiction
     | (simp [textL, *]; done)
     | (by_cases h2 : text = [] <;> (simp [textL, *]; done))
   ·refine acalls_of Tryz.func28 rfl Tryz.ntmps28 (congrArg Array.toList Tryz.results28) fun Q hQ => ?_
    (focus repeat' first|refine ga ?_|(refine gb ?_;try simp[gz, *])|refine gk fun _ _=>?_|refine gc ?_ ?_|exact gr _|refine gi fun _=>?_|(refine gn ?_ ?_;focus(intros;simp[*];done)))
    intro b1 hb1; simp only [Fresh, Heap.set_none] at hb1; try simp [gz, *]
    have hsb : ∀ x, AL.Sub h (h.set b1 x) := fun x => (Sub.refl h).loc hb1 x
    (focus repeat' first|refine ga ?_|(refine gb ?_;try simp[gz, *])|refine gk fun _ _=>?_|refine gc ?_ ?_|exact gr _|refine gi fun _=>?_|(refine gn ?_ ?_;focus(intros;simp[*];done)))
    refine name_c _ hs' _ (gint_set hb1 hg) _ ?_
    simp [gz, *]
    (focus repeat' first|refine ga ?_|(refine gb ?_;try simp[gz, *])|refine gk fun _ _=>?_|refine gc ?_ ?_|exact gr _|refine gi fun _=>?_|(refine gn ?_ ?_;focus(intros;simp[*];done)))
    all_goals first
     | contradiction
     | (simp [textL, *]; done)
     | (by_cases h2 : text = [] <;> (simp [textL, *]; done))
  ·refine acalls_of Tryz.func28 rfl Tryz.ntmps28 (congrArg Array.toList Tryz.results28) fun Q hQ => ?_
   (focus repeat' first|refine ga ?_|(refine gb ?_;try simp[gz, *])|refine gk fun _ _=>?_|refine gc ?_ ?_|exact gr _|refine gi fun _=>?_|(refine gn ?_ ?_;focus(intros;simp[*];done)))
   intro b1 hb1; simp only [Fresh, Heap.set_none] at hb1; try simp [gz, *]
   have hsb : ∀ x, AL.Sub h (h.set b1 x) := fun x => (Sub.refl h).loc hb1 x
   (focus repeat' first|refine ga ?_|(refine gb ?_;try simp[gz, *])|refine gk fun _ _=>?_|refine gc ?_ ?_|exact gr _|refine gi fun _=>?_|(refine gn ?_ ?_;focus(intros;simp[*];done)))
   all_goals first
     | contradiction
     | (simp [textL, *]; done)
     | (by_cases h2 : text = [] <;> (simp [textL, *]; done))
 by_cases k33 : k = 33
 ·subst k33
  have c1 := (cut_len text [9]).1
  have c2 := (cut_len text [9]).2
  obtain ⟨key, hkey⟩ : ∃ a, (Lib.cut text [9]).1 = a := ⟨_, rfl⟩
  obtain ⟨val, hval⟩ : ∃ a, (Lib.cut text [9]).2.1 = a := ⟨_, rfl⟩
  obtain ⟨ok, hok⟩ : ∃ a, (Lib.cut text [9]).2.2 = a := ⟨_, rfl⟩
  rw [hkey] at c1
  rw [hval] at c2
  refine acalls_of Tryz.func28 rfl Tryz.ntmps28 (congrArg Array.toList Tryz.results28) fun Q hQ => ?_
  (focus repeat' first|refine ga ?_|(refine gb ?_;try simp[gz, *])|refine gk fun _ _=>?_|refine gc ?_ ?_|exact gr _|refine gi fun _=>?_|(refine gn ?_ ?_;focus(intros;simp[*];done)))
  intro b1 hb1; simp only [Fresh, Heap.set_none] at hb1; try simp [gz, *]
  have hsb : ∀ x, AL.Sub h (h.set b1 x) := fun x => (Sub.refl h).loc hb1 x
  (focus repeat' first|refine ga ?_|(refine gb ?_;try simp[gz, *])|refine gk fun _ _=>?_|refine gc ?_ ?_|exact gr _|refine gi fun _=>?_|(refine gn ?_ ?_;focus(intros;simp[*];done)))
  refine Cut_c _ [9] (by omega) _ (gint_set hb1 hg) _ ?_
  rw [hkey, hval, hok]
  by_cases h1 : num = 0
  ·cases ok
   ·by_cases h2 : key = []
    ·simp [gz, *]
     (focus repeat' first|refine ga ?_|(refine gb ?_;try simp[gz, *])|refine gk fun _ _=>?_|refine gc ?_ ?_|exact gr _|refine gi fun _=>?_|(refine gn ?_ ?_;focus(intros;simp[*];done)))
     all_goals first
       | contradiction
       | (simp [textL, *]; done)
       | (by_cases h2 : text = [] <;> (simp [textL, *]; done))
    ·simp [gz, *]
     (focus repeat' first|refine ga ?_|(refine gb ?_;try simp[gz, *])|refine gk fun _ _=>?_|refine gc ?_ ?_|exact gr _|refine gi fun _=>?_|(refine gn ?_ ?_;focus(intros;simp[*];done)))
     all_goals first
       | contradiction
       | (simp [textL, *]; done)
       | (by_cases h2 : text = [] <;> (simp [textL, *]; done))
   ·by_cases h2 : key = []
    ·simp [gz, *]
     (focus repeat' first|refine ga ?_|(refine gb ?_;try simp[gz, *])|refine gk fun _ _=>?_|refine gc ?_ ?_|exact gr _|refine gi fun _=>?_|(refine gn ?_ ?_;focus(intros;simp[*];done)))
     refine name_c _ (by omega) _ (gint_set hb1 hg) _ ?_
     simp [gz, *]
     (focus repeat' first|refine ga ?_|(refine gb ?_;try simp[gz, *])|refine gk fun _ _=>?_|refine gc ?_ ?_|exact gr _|refine gi fun _=>?_|(refine gn ?_ ?_;focus(intros;simp[*];done)))
     all_goals first
      | contradiction
      | (simp [textL, *]; done)
    ·cases h3 : nameL key
     ·simp [gz, *]
      (focus repeat' first|refine ga ?_|(refine gb ?_;try simp[gz, *])|refine gk fun _ _=>?_|refine gc ?_ ?_|exact gr _|refine gi fun _=>?_|(refine gn ?_ ?_;focus(intros;simp[*];done)))
      refine name_c _ (by omega) _ (gint_set hb1 hg) _ ?_
      simp [gz, *]
      (focus repeat' first|refine ga ?_|(refine gb ?_;try simp[gz, *])|refine gk fun _ _=>?_|refine gc ?_ ?_|exact gr _|refine gi fun _=>?_|(refine gn ?_ ?_;focus(intros;simp[*];done)))
      all_goals first
      | contradiction
      | (simp [textL, *]; done)
     ·simp [gz, *]
      (focus repeat' first|refine ga ?_|(refine gb ?_;try simp[gz, *])|refine gk fun _ _=>?_|refine gc ?_ ?_|exact gr _|refine gi fun _=>?_|(refine gn ?_ ?_;focus(intros;simp[*];done)))
      refine name_c _ (by omega) _ (gint_set hb1 hg) _ ?_
      simp [gz, *]
      (focus repeat' first|refine ga ?_|(refine gb ?_;try simp[gz, *])|refine gk fun _ _=>?_|refine gc ?_ ?_|exact gr _|refine gi fun _=>?_|(refine gn ?_ ?_;focus(intros;simp[*];done)))
      refine name_c _ (by omega) _ (gint_set hb1 hg) _ ?_
      simp [gz, *]
      (focus repeat' first|refine ga ?_|(refine gb ?_;try simp[gz, *])|refine gk fun _ _=>?_|refine gc ?_ ?_|exact gr _|refine gi fun _=>?_|(refine gn ?_ ?_;focus(intros;simp[*];done)))
      all_goals first
      | contradiction
      | (simp [textL, *]; done)
  ·by_cases h2 : key = []
   ·simp [gz, *]
    (focus repeat' first|refine ga ?_|(refine gb ?_;try simp[gz, *])|refine gk fun _ _=>?_|refine gc ?_ ?_|exact gr _|refine gi fun _=>?_|(refine gn ?_ ?_;focus(intros;simp[*];done)))
    all_goals first
      | contradiction
      | (simp [textL, *]; done)
      | (by_cases h2 : text = [] <;> (simp [textL, *]; done))
   ·simp [gz, *]
    (focus repeat' first|refine ga ?_|(refine gb ?_;try simp[gz, *])|refine gk fun _ _=>?_|refine gc ?_ ?_|exact gr _|refine gi fun _=>?_|(refine gn ?_ ?_;focus(intros;simp[*];done)))
    all_goals first
      | contradiction
      | (simp [textL, *]; done)
      | (by_cases h2 : text = [] <;> (simp [textL, *]; done))
 refine acalls_of Tryz.func28 rfl Tryz.ntmps28 (congrArg Array.toList Tryz.results28) fun Q hQ => ?_
 (focus repeat' first|refine ga ?_|(refine gb ?_;try simp[gz, *])|refine gk fun _ _=>?_|refine gc ?_ ?_|exact gr _|refine gi fun _=>?_|(refine gn ?_ ?_;focus(intros;simp[*];done)))
 intro b1 hb1; simp only [Fresh, Heap.set_none] at hb1; try simp [gz, *]
 have hg1 : ∀ x, (h.set b1 x) 0 = some .gint := fun x => gint_set hb1 hg
 have hsb : ∀ x, AL.Sub h (h.set b1 x) := fun x => (Sub.refl h).loc hb1 x
 (focus repeat' first|refine ga ?_|(refine gb ?_;try simp[gz, *])|refine gk fun _ _=>?_|refine gc ?_ ?_|exact gr _|refine gi fun _=>?_|(refine gn ?_ ?_;focus(intros;simp[*];done)))
 all_goals try (refine name_c _ hs' _ (hg1 _) _ ?_; simp [gz, *]; (focus repeat' first|refine ga ?_|(refine gb ?_;try simp[gz, *])|refine gk fun _ _=>?_|refine gc ?_ ?_|exact gr _|refine gi fun _=>?_|(refine gn ?_ ?_;focus(intros;simp[*];done))))
 all_goals try (refine Unary_c _ _ (hg1 _) _ ?_; simp [gz, *]; (focus repeat' first|refine ga ?_|(refine gb ?_;try simp[gz, *])|refine gk fun _ _=>?_|refine gc ?_ ?_|exact gr _|refine gi fun _=>?_|(refine gn ?_ ?_;focus(intros;simp[*];done))))
 all_goals try (refine Assign_c _ _ (hg1 _) _ ?_; simp [gz, *]; (focus repeat' first|refine ga ?_|(refine gb ?_;try simp[gz, *])|refine gk fun _ _=>?_|refine gc ?_ ?_|exact gr _|refine gi fun _=>?_|(refine gn ?_ ?_;focus(intros;simp[*];done))))
 all_goals try (refine Step_c _ _ (hg1 _) _ ?_; simp [gz, *]; (focus repeat' first|refine ga ?_|(refine gb ?_;try simp[gz, *])|refine gk fun _ _=>?_|refine gc ?_ ?_|exact gr _|refine gi fun _=>?_|(refine gn ?_ ?_;focus(intros;simp[*];done))))
 all_goals try (refine Level_c _ _ (hg1 _) _ ?_; simp [gz, *]; (focus repeat' first|refine ga ?_|(refine gb ?_;try simp[gz, *])|refine gk fun _ _=>?_|refine gc ?_ ?_|exact gr _|refine gi fun _=>?_|(refine gn ?_ ?_;focus(intros;simp[*];done))))
 all_goals try (refine Cut_c _ [9] (by omega) _ (hg1 _) _ ?_; simp [gz, *]; (focus repeat' first|refine ga ?_|(refine gb ?_;try simp[gz, *])|refine gk fun _ _=>?_|refine gc ?_ ?_|exact gr _|refine gi fun _=>?_|(refine gn ?_ ?_;focus(intros;simp[*];done))))
 all_goals first
  | contradiction
  | (simp [textL, unaryB, *]; done)
end Go.Proofs.YtcbgpjlcfkkdlaaGreatDoor

namespace Go.Proofs.YtcbgpjlcfkkdlaaGreatDoor
open Go Go.AL Go.Proofs
def kidLoop (i : Nat) : List Int → List Bool → List Int → Int ⊕ (List Bool × List Int)
 | [], o, d => .inr (o, d)
 | k :: ks, o, d =>
  if k < -1 ∨ (i : Int) ≤ k then .inl 3
  else if k < 0 then kidLoop i ks o d
  else if o.getD k.toNat false = true then .inl 4
  else kidLoop i ks (o.set k.toNat true) (d.set i (max (d.getD i 0) (d.getD k.toNat 0 + 1)))
def lastL (nodes : List Nd) (o : List Bool) : Int × Int :=
 if ¬ kindAt nodes (nodes.length - 1 : Int) = 26 then (30, nodes.length - 1)
 else if 0 ≤ firstNo (o.take (nodes.length - 1)) then (3, firstNo (o.take (nodes.length - 1)))
 else (0, 0)
def runG (form : Nd → Bool) (good : List Nd → Nd → Bool) (nodes : List Nd) : List Nd → Nat → List Bool → List Int → Int × Int
 | [], _, o, _ => lastL nodes o
 | n :: ns, i, o, d =>
  if form n = false then (5, i)
  else match kidLoop i n.kids o d with
   | .inl c => (c, i)
   | .inr (o', d') => if good nodes n = false then (30, i) else if 200 < d'.getD i 0 then (6, i) else runG form good nodes ns (i + 1) o' d'
def checkG (form : Nd → Bool) (good : List Nd → Nd → Bool) (nodes : List Nd) : Int × Int :=
 if nodes = [] ∨ 131072 < nodes.length then (2, 0) else runG form good nodes nodes 0 (List.replicate nodes.length false) (List.replicate nodes.length 0)
def formL (n : Nd) : Bool := decide (1 ≤ n.kind) && decide (n.kind < 44) && decide (0 ≤ n.pos) && textL n.kind n.text n.num
def checkL (nodes : List Nd) : Int × Int := checkG formL kidsL nodes
abbrev runL (nodes : List Nd) (i : Nat) (o : List Bool) (d : List Int) : Int × Int := runG formL kidsL nodes (nodes.drop i) i o d
structure NdOk (n : Nd) : Prop where
 text : n.text.length < 4294967200
 kids : n.kids.length ≤ 281474976710656
 num : n.num ≤ 9223372036854775807
theorem run_form {nodes : List Nd} {i : Nat} {o : List Bool} {d : List Int} (hi : i < nodes.length) (h : formL nodes[i] = false) : runL nodes i o d = (5, (i : Int)) := by
 rw [runL, List.drop_eq_getElem_cons hi]; simp only [runG, h, if_true]
theorem run_kid {nodes : List Nd} {i : Nat} {o : List Bool} {d : List Int} {c : Int} (hi : i < nodes.length) (h : formL nodes[i] = true) (hk : kidLoop i nodes[i].kids o d = .inl c) : runL nodes i o d = (c, (i : Int)) := by
 rw [runL, List.drop_eq_getElem_cons hi]; simp only [runG, h, hk]; rfl
theorem run_good {nodes : List Nd} {i : Nat} {o o' : List Bool} {d d' : List Int} (hi : i < nodes.length) (h : formL nodes[i] = true) (hk : kidLoop i nodes[i].kids o d = .inr (o', d')) (hg : kidsL nodes nodes[i] = false) : runL nodes i o d = (30, (i : Int)) := by
 rw [runL, List.drop_eq_getElem_cons hi]; simp only [runG, h, hk, hg]; rfl
theorem run_deep {nodes : List Nd} {i : Nat} {o o' : List Bool} {d d' : List Int} (hi : i < nodes.length) (h : formL nodes[i] = true) (hk : kidLoop i nodes[i].kids o d = .inr (o', d')) (hg : kidsL nodes nodes[i] = true) (hd : 200 < d'.getD i 0) : runL nodes i o d = (6, (i : Int)) := by
 rw [runL, List.drop_eq_getElem_cons hi]; simp only [runG, h, hk, hg, hd]; rfl
theorem run_next {nodes : List Nd} {i : Nat} {o o' : List Bool} {d d' : List Int} (hi : i < nodes.length) (h : formL nodes[i] = true) (hk : kidLoop i nodes[i].kids o d = .inr (o', d')) (hg : kidsL nodes nodes[i] = true) (hd : ¬ 200 < d'.getD i 0) : runL nodes i o d = runL nodes (i + 1) o' d' := by
 rw [runL, List.drop_eq_getElem_cons hi]; simp only [runG, h, hk, hg, hd]; rfl
theorem run_last {nodes : List Nd} {i : Nat} {o : List Bool} {d : List Int} (hi : nodes.length ≤ i) : runL nodes i o d = lastL nodes o := by
 rw [runL, List.drop_eq_nil_of_le hi]; rfl
theorem kid_miss {i : Nat} {ks : List Int} {j : Nat} {o : List Bool} {d : List Int} (hj : j < ks.length) (h : ks[j] < -1 ∨ (i : Int) ≤ ks[j]) : kidLoop i (ks.drop j) o d = .inl 3 := by
 rw [List.drop_eq_getElem_cons hj]; simp only [kidLoop, h, if_true]
theorem kid_none {i : Nat} {ks : List Int} {j : Nat} {o : List Bool} {d : List Int} (hj : j < ks.length) (h : ks[j] = -1) : kidLoop i (ks.drop j) o d = kidLoop i (ks.drop (j + 1)) o d := by
 rw [List.drop_eq_getElem_cons hj]
 have : ¬ ((i : Int) ≤ -1) := by omega
 simp [kidLoop, h, this]
theorem kid_twice {i : Nat} {ks : List Int} {j m : Nat} {o : List Bool} {d : List Int} (hj : j < ks.length) (h : ks[j] = (m : Int)) (hm : m < i) (ho : o.getD m false = true) : kidLoop i (ks.drop j) o d = .inl 4 := by
 rw [List.drop_eq_getElem_cons hj]
 have h1 : ¬ ((m : Int) < -1 ∨ (i : Int) ≤ m) := by omega
 have h2 : ¬ ((m : Int) < 0) := by omega
 simp only [kidLoop, h, h1, h2, if_false, Int.toNat_natCast, ho, if_true]
theorem kid_next {i : Nat} {ks : List Int} {j m : Nat} {o : List Bool} {d : List Int} (hj : j < ks.length) (h : ks[j] = (m : Int)) (hm : m < i) (ho : o.getD m false = false) :
  kidLoop i (ks.drop j) o d = kidLoop i (ks.drop (j + 1)) (o.set m true) (d.set i (max (d.getD i 0) (d.getD m 0 + 1))) := by
 rw [List.drop_eq_getElem_cons hj]
 have h1 : ¬ ((m : Int) < -1 ∨ (i : Int) ≤ m) := by omega
 have h2 : ¬ ((m : Int) < 0) := by omega
 simp only [kidLoop, h, h1, h2, if_false, Int.toNat_natCast, ho, Bool.false_eq_true]
theorem kid_end {i : Nat} {ks : List Int} {j : Nat} {o : List Bool} {d : List Int} (hj : ks.length ≤ j) : kidLoop i (ks.drop j) o d = .inr (o, d) := by
 rw [List.drop_eq_nil_of_le hj]; rfl
theorem shape_case (text : List UInt8) : shapeL 24 text = ([4097], 2) := by simp [shapeL]
theorem case_kids {nodes : List Nd} {n : Nd} (h : kidsL nodes n = true) (hk : n.kind = 24) : n.kids ≠ [] := by
 intro e
 simp [kidsL, hk, e, shape_case] at h
theorem splice_map {A : Type} (f : A → AV) (l : List A) (k : Nat) (x : A) (h : k < l.length) : splice (l.map f) k [f x] = (l.set k x).map f := by
 simp only [splice, List.length_singleton, List.set_eq_take_append_cons_drop, h, if_true, List.map_append, List.map_cons, List.map_take, List.map_drop, List.append_assoc, List.cons_append, List.nil_append]
abbrev hck (h : Heap) (b1 b2 bo bd : Nat) (tree : AV) (r : List AV) (o : List Bool) (d : List Int) : Heap := (((h.set b1 (.cells [tree])).set b2 (.cells r)).set bo (.cells (bools o))).set bd (.cells (nums d))
end Go.Proofs.YtcbgpjlcfkkdlaaGreatDoor

namespace Go.Proofs.YtcbgpjlcfkkdlaaGreatDoor
open Go Go.AL Go.Proofs
theorem sub_of_eq {g h : Heap} (e : g = h) : AL.Sub g h := e ▸ Sub.refl _
theorem Check_c (nodes : List Nd) (t : Tok) (hok : ∀ n ∈ nodes, NdOk n) (hl : nodes.length ≤ 281474976710656) (h : Heap) (hg : h 0 = some .gint) (R : AV → Heap → Prop)
  (hR : R (.agg [.int .i64 (checkL nodes).1, .int .i64 (checkL nodes).2]) h) : ACalls Tryz.prog 11 [treeAV nodes t] h R := by
 refine ACalls.pure ?_ hR
 clear hR
 by_cases h0 : nodes.length = 0
 ·have hn : nodes = [] := List.eq_nil_of_length_eq_zero h0
  subst hn
  refine acalls_of Tryz.func11 rfl Tryz.ntmps11 (congrArg Array.toList Tryz.results11) fun Q hQ => ?_
  (focus repeat' first|refine ga ?_|(refine gb ?_;try simp[gz, *])|refine gk fun _ _=>?_)
  intro b1 hb1; simp only [Fresh, Heap.set_none] at hb1; try simp [gz, *]
  intro b2 hb2; simp only [Fresh, Heap.set_none] at hb2; try simp [gz, *]
  (focus repeat' first|refine ga ?_|(refine gb ?_;try simp[gz, *])|refine gk fun _ _=>?_)
  exact ⟨by simp [checkL, checkG, *], ((Sub.refl h).loc hb1 _).loc (by simp [*]) _⟩
 by_cases h1 : 131072 < nodes.length
 ·refine acalls_of Tryz.func11 rfl Tryz.ntmps11 (congrArg Array.toList Tryz.results11) fun Q hQ => ?_
  (focus repeat' first|refine ga ?_|(refine gb ?_;try simp[gz, *])|refine gk fun _ _=>?_)
  intro b1 hb1; simp only [Fresh, Heap.set_none] at hb1; try simp [gz, *]
  intro b2 hb2; simp only [Fresh, Heap.set_none] at hb2; try simp [gz, *]
  (focus repeat' first|refine ga ?_|(refine gb ?_;try simp[gz, *])|refine gk fun _ _=>?_|refine gc ?_ ?_|exact gr _|refine gi fun _=>?_|(refine gn ?_ ?_;focus(intros;simp[*];done)))
  exact ⟨by simp [checkL, checkG, *], ((Sub.refl h).loc hb1 _).loc (by simp [*]) _⟩
 have hne : ¬ nodes = [] := fun e => h0 (by rw [e]; rfl)
 refine acalls_of Tryz.func11 rfl Tryz.ntmps11 (congrArg Array.toList Tryz.results11) fun Q hQ => ?_
 (focus repeat' first|refine ga ?_|(refine gb ?_;try simp[gz, *])|refine gk fun _ _=>?_)
 intro b1 hb1; simp only [Fresh, Heap.set_none] at hb1; try simp [gz, *]
 intro b2 hb2; simp only [Fresh, Heap.set_none] at hb2; try simp [gz, *]
 (focus repeat' first|refine ga ?_|(refine gb ?_;try simp[gz, *])|refine gk fun _ _=>?_|refine gc ?_ ?_|exact gr _|refine gi fun _=>?_|(refine gn ?_ ?_;focus(intros;simp[*];done)))
 refine MakeK.arr fun bo hbo => ?_
 simp only [Fresh, Heap.set_none] at hbo
 simp [gz, *]
 (focus repeat' first|refine ga ?_|(refine gb ?_;try simp[gz, *])|refine gk fun _ _=>?_)
 refine MakeK.arr fun bd hbd => ?_
 simp only [Fresh, Heap.set_none] at hbd
 simp [gz, *]
 (focus repeat' first|refine ga ?_|(refine gb ?_;try simp[gz, *])|refine gk fun _ _=>?_)
 have hN : nodes.length ≤ 131072 := by omega
 have hsub : ∀ r x y, AL.Sub h ((((h.set b1 (.cells [AV.list 5 (List.map row nodes) t])).set b2 r).set bo x).set bd y) := fun r x y => ((((Sub.refl h).loc hb1 _).loc (by simp [*]) _).loc (by simp [*]) _).loc (by simp [*]) _
 have hg4 : ∀ r x y, ((((h.set b1 (.cells [AV.list 5 (List.map row nodes) t])).set b2 r).set bo x).set bd y) 0 = some .gint := fun r x y => hsub r x y 0 _ hg
 refine awp_loop_h [5,6,8,33,34,35,36,37,38,39,40,41,42,43,44,45,46,47,48,49,50,51,52,53,54,55,56,57,58,59,60,61,62,63,64,65,66,67,68,69,70,71,72,73,74,75,76,77,78,79,80,81,82,83,84,85,86,87,88,89,90,91,92,93,94,95,96,97,98,99,100,101,102,103,104,105,106,107,108,109,110,111,112] (fun m x g => ∃ (i : Nat) (o : List Bool) (d : List Int), i ≤ nodes.length ∧ m = nodes.length - i ∧ x 33 = .int .i64 i ∧ o.length = nodes.length ∧ d.length = nodes.length ∧ (∀ j, 0 ≤ d.getD j 0 ∧ d.getD j 0 ≤ j) ∧
  (∀ j (hj : j < nodes.length), j < i → nodes[j].kind = 24 → nodes[j].kids ≠ []) ∧ runL nodes i o d = checkL nodes ∧ g = hck h b1 b2 bo bd (AV.list 5 (List.map row nodes) t) [.int .i64 0, .int .i64 0] o d) nodes.length
  ⟨0, List.replicate nodes.length false, List.replicate nodes.length 0, by omega, by omega, rfl, by simp, by simp, fun j => by simp [List.getD, List.getElem?_replicate]; split <;> simp, fun j _ hj => by omega, by simp [checkL, checkG, hne, h1, runL], by simp [hck, bools, nums]⟩ (fun m x g hI K hK => ?_)
 obtain ⟨i, o, d, hi, rfl, hx, hol, hdl, hdb, hcase, hres, rfl⟩ := hI
 have w1 : IntKind.i64.wrap ((i : Int) + 1) = i + 1 := w64 (by omega) (by omega)
 by_cases hlt : i < nodes.length
 ·obtain ⟨n, hn⟩ : ∃ n, nodes[i] = n := ⟨_, rfl⟩
  have hnok : NdOk n := hok n (hn ▸ List.getElem_mem hlt)
  cases hfm : formL n
  ·rw [run_form hlt (by rw [hn]; exact hfm)] at hres
   refine awp_eqs (s' := [_,_,_,_,_,x 5,x 6,_,x 8,_,_,_,_,_,_,_,_,_,_,_,_,_,_,_,_,_,_,_,_,_,_,_,_,x 33,x 34,x 35,x 36,x 37,x 38,x 39,x 40,x 41,x 42,x 43,x 44,x 45,x 46,x 47,x 48,x 49,x 50,x 51,x 52,x 53,x 54,x 55,x 56,x 57,x 58,x 59,x 60,x 61,x 62,x 63,x 64,x 65,x 66,x 67,x 68,x 69,x 70,x 71,x 72,x 73,x 74,x 75,x 76,x 77,x 78,x 79,x 80,x 81,x 82,x 83,x 84,x 85,x 86,x 87,x 88,x 89,x 90,x 91,x 92,x 93,x 94,x 95,x 96,x 97,x 98,x 99,x 100,x 101,x 102,x 103,x 104,x 105,x 106,x 107,x 108,x 109,x 110,x 111,x 112,_,_,_,_,_,_,_,_,_,_,_,_,_,_,_,_,_,_,_,_,_,_]) rfl ?_
   (focus repeat' first|refine ga ?_|(refine gb ?_;try simp[gz, *])|refine gk fun _ _=>?_)
   intro b6 hb6; simp only [Fresh, Heap.set_none] at hb6; try simp [gz, *]
   (focus repeat' first|refine ga ?_|(refine gb ?_;try simp[gz, *])|refine gk fun _ _=>?_|refine gc ?_ ?_|exact gr _|refine gi fun _=>?_|(refine gn ?_ ?_;focus(intros;simp[*];done)))
   ·refine text_c n .no hnok.text _ ((show AL.Sub h _ by (repeat (first | exact Sub.refl _ | refine Sub.loc ?_ (by simp [*]) _))) 0 _ hg) _ ?_
    have htx : textL n.kind n.text n.num = false := by
     simp only [formL, Bool.and_eq_false_iff, decide_eq_false_iff_not] at hfm
     rcases hfm with ((hfm | hfm) | hfm) | hfm
     ·omega
     ·omega
     ·omega
     ·exact hfm
    rw [htx]
    simp [gz, *]
    (focus repeat' first|refine ga ?_|(refine gb ?_;try simp[gz, *])|refine gk fun _ _=>?_)
    exact ⟨by rw [← hres]; exact ⟨rfl, rfl⟩, by (repeat (first | exact Sub.refl _ | refine Sub.loc ?_ (by simp [*]) _))⟩
   ·exact ⟨by rw [← hres]; exact ⟨rfl, rfl⟩, by (repeat (first | exact Sub.refl _ | refine Sub.loc ?_ (by simp [*]) _))⟩
  ·have hf := hfm
   simp only [formL, Bool.and_eq_true, decide_eq_true_eq] at hf
   obtain ⟨⟨⟨hf1, hf2⟩, hf3⟩, hf4⟩ := hf
   refine awp_eqs (s' := [_,_,_,_,_,x 5,x 6,_,x 8,_,_,_,_,_,_,_,_,_,_,_,_,_,_,_,_,_,_,_,_,_,_,_,_,x 33,x 34,x 35,x 36,x 37,x 38,x 39,x 40,x 41,x 42,x 43,x 44,x 45,x 46,x 47,x 48,x 49,x 50,x 51,x 52,x 53,x 54,x 55,x 56,x 57,x 58,x 59,x 60,x 61,x 62,x 63,x 64,x 65,x 66,x 67,x 68,x 69,x 70,x 71,x 72,x 73,x 74,x 75,x 76,x 77,x 78,x 79,x 80,x 81,x 82,x 83,x 84,x 85,x 86,x 87,x 88,x 89,x 90,x 91,x 92,x 93,x 94,x 95,x 96,x 97,x 98,x 99,x 100,x 101,x 102,x 103,x 104,x 105,x 106,x 107,x 108,x 109,x 110,x 111,x 112,_,_,_,_,_,_,_,_,_,_,_,_,_,_,_,_,_,_,_,_,_,_]) rfl ?_
   (focus repeat' first|refine ga ?_|(refine gb ?_;try simp[gz, *])|refine gk fun _ _=>?_)
   intro b6 hb6; simp only [Fresh, Heap.set_none] at hb6; try simp [gz, *]
   (focus repeat' first|refine ga ?_|(refine gb ?_;try simp[gz, *])|refine gk fun _ _=>?_)
   refine text_c n .no hnok.text _ ((show AL.Sub h _ by (repeat (first | exact Sub.refl _ | refine Sub.loc ?_ (by simp [*]) _))) 0 _ hg) _ ?_
   rw [hf4]
   simp [gz, *]
   (focus repeat' first|refine ga ?_|(refine gb ?_;try simp[gz, *])|refine gk fun _ _=>?_)
   refine awp_loop_h [8,61,62,63,64,65,66,67,68,69,70,71,72,73,74,75,76,77,78,79,80,81,82,83,84,85,86,87,88,89,90,91,92,93,94,95,96,97,98] (fun m x g => ∃ (j : Nat) (o' : List Bool) (d' : List Int), j ≤ n.kids.length ∧ m = n.kids.length - j ∧ x 61 = .int .i64 j ∧ o'.length = nodes.length ∧ d'.length = nodes.length ∧ (∀ j, 0 ≤ d'.getD j 0 ∧ d'.getD j 0 ≤ j) ∧
    (∀ s (hs : s < n.kids.length), s < j → -1 ≤ n.kids[s] ∧ n.kids[s] < i) ∧ kidLoop i (n.kids.drop j) o' d' = kidLoop i n.kids o d ∧ g = (hck h b1 b2 bo bd (AV.list 5 (List.map row nodes) t) [.int .i64 0, .int .i64 0] o' d').set b6 (.cells (row n))) n.kids.length
    ⟨0, o, d, by omega, by omega, rfl, hol, hdl, hdb, fun s _ hs => by omega, rfl, rfl⟩ (fun m x g hI K hK => ?_)
   obtain ⟨j, o', d', hj, rfl, hx, hol', hdl', hdb', hin, hkl, rfl⟩ := hI
   have w2 : IntKind.i64.wrap ((j : Int) + 1) = j + 1 := w64 (by omega) (by have := hnok.kids; omega)
   by_cases hjl : j < n.kids.length
   ·obtain ⟨k, hk⟩ : ∃ k, n.kids[j] = k := ⟨_, rfl⟩
    by_cases hbad : k < -1 ∨ (i : Int) ≤ k
    ·rw [kid_miss hjl (by rw [hk]; exact hbad)] at hkl
     rw [run_kid hlt (by rw [hn]; exact hfm) (by rw [hn]; exact hkl.symm)] at hres
     rcases hbad with hbad | hbad
     all_goals
      refine awp_eqs (s' := [_,_,_,_,_,_,_,_,x 8,_,_,_,_,_,_,_,_,_,_,_,_,_,_,_,_,_,_,_,_,_,_,_,_,_,_,_,_,_,_,_,_,_,_,_,_,_,_,_,_,_,_,_,_,_,_,_,_,_,_,_,_,x 61,x 62,x 63,x 64,x 65,x 66,x 67,x 68,x 69,x 70,x 71,x 72,x 73,x 74,x 75,x 76,x 77,x 78,x 79,x 80,x 81,x 82,x 83,x 84,x 85,x 86,x 87,x 88,x 89,x 90,x 91,x 92,x 93,x 94,x 95,x 96,x 97,x 98,_,_,_,_,_,_,_,_,_,_,_,_,_,_,_,_,_,_,_,_,_,_,_,_,_,_,_,_,_,_,_,_,_,_,_,_]) rfl ?_
      (focus repeat' first|refine ga ?_|(refine gb ?_;try simp[gz, *])|refine gk fun _ _=>?_)
      first
       | exact ⟨by rw [← hres]; exact ⟨rfl, rfl⟩, by (repeat (first | exact Sub.refl _ | refine Sub.loc ?_ (by simp [*]) _))⟩
    ·by_cases hk1 : k = -1
     ·rw [kid_none hjl (by rw [hk]; exact hk1)] at hkl
      refine awp_eqs (s' := [_,_,_,_,_,_,_,_,x 8,_,_,_,_,_,_,_,_,_,_,_,_,_,_,_,_,_,_,_,_,_,_,_,_,_,_,_,_,_,_,_,_,_,_,_,_,_,_,_,_,_,_,_,_,_,_,_,_,_,_,_,_,x 61,x 62,x 63,x 64,x 65,x 66,x 67,x 68,x 69,x 70,x 71,x 72,x 73,x 74,x 75,x 76,x 77,x 78,x 79,x 80,x 81,x 82,x 83,x 84,x 85,x 86,x 87,x 88,x 89,x 90,x 91,x 92,x 93,x 94,x 95,x 96,x 97,x 98,_,_,_,_,_,_,_,_,_,_,_,_,_,_,_,_,_,_,_,_,_,_,_,_,_,_,_,_,_,_,_,_,_,_,_,_]) rfl ?_
      (focus repeat' first|refine ga ?_|(refine gb ?_;try simp[gz, *])|refine gk fun _ _=>?_|refine gc ?_ ?_|exact gr _|refine gi fun _=>?_|(refine gn ?_ ?_;focus(intros;simp[*];done)))
      refine ⟨by kernel_rfl, rfl, n.kids.length - (j + 1), _, by omega, Sub.refl _, j + 1, o', d', by omega, rfl, by simp, hol', hdl', hdb', fun s hs hsj => ?_, hkl, rfl⟩
      by_cases e : s < j
      ·exact hin s hs e
      ·have : s = j := by omega
       subst this
       rw [hk]; omega
     ·obtain ⟨m, hm⟩ := Int.eq_ofNat_of_zero_le (a := k) (by omega)
      have hmi : m < i := by omega
      have hmo : m < o'.length := by omega
      have hmd : m < d'.length := by omega
      have hid : i < d'.length := by omega
      have hmN : m < nodes.length := by omega
      have hm0 : ¬ ((m : Int) < 0) := by omega
      have hm1 : ¬ ((m : Int) < -1) := by omega
      have hm2 : ¬ ((i : Int) ≤ m) := by omega
      cases hom : o'[m]
      ·have hom' : o'[m]? = some false := by rw [List.getElem?_eq_getElem hmo, hom]
       rw [kid_next hjl (by rw [hk]; exact hm) hmi (by simp [List.getD, hmo, hom])] at hkl
       have hdm := hdb' m
       have hdi := hdb' i
       simp only [List.getD, List.getElem?_eq_getElem hmd, List.getElem?_eq_getElem hid, Option.getD_some] at hdm hdi hkl
       have w3 : IntKind.i64.wrap (d'[m] + 1) = d'[m] + 1 := w64 (by omega) (by omega)
       refine awp_eqs (s' := [_,_,_,_,_,_,_,_,x 8,_,_,_,_,_,_,_,_,_,_,_,_,_,_,_,_,_,_,_,_,_,_,_,_,_,_,_,_,_,_,_,_,_,_,_,_,_,_,_,_,_,_,_,_,_,_,_,_,_,_,_,_,x 61,x 62,x 63,x 64,x 65,x 66,x 67,x 68,x 69,x 70,x 71,x 72,x 73,x 74,x 75,x 76,x 77,x 78,x 79,x 80,x 81,x 82,x 83,x 84,x 85,x 86,x 87,x 88,x 89,x 90,x 91,x 92,x 93,x 94,x 95,x 96,x 97,x 98,_,_,_,_,_,_,_,_,_,_,_,_,_,_,_,_,_,_,_,_,_,_,_,_,_,_,_,_,_,_,_,_,_,_,_,_]) rfl ?_
       (focus repeat' first|refine ga ?_|(refine gb ?_;try simp[gz, *])|refine gk fun _ _=>?_)
       refine awp_region_draw [bd] [(0,true),(1,true),(2,true),(3,true),(4,true),(5,true),(6,true),(7,true),(8,true),(9,true),(10,true),(11,true)] [12,13] follows (by kernel_rfl) rfl (by kernel_rfl) ?_; simp [gz, Heap.plus_set, *]
       (focus repeat' first|refine ga ?_|(refine gb ?_;try simp[gz, *])|refine gk fun _ _=>?_)
       have hs1 := splice_map AV.bool o' m true hmo
       have hs2 := splice_map (AV.int .i64) d' i (max d'[i] (d'[m] + 1)) hid
       simp only [splice, List.append_assoc, List.cons_append, List.nil_append, List.length_singleton] at hs1 hs2
       refine ⟨by kernel_rfl, rfl, n.kids.length - (j + 1), _, by omega, ?_, j + 1, o'.set m true, d'.set i (max d'[i] (d'[m] + 1)), by omega, rfl, by simp, by simpa using hol', by simpa using hdl', fun s => ?_, fun s hs hsj => ?_, hkl, rfl⟩
       ·rw [hs1, hs2]
        refine sub_of_eq ?_
        funext c
        simp only [hck, Heap.set_get]
        by_cases c1 : c = b6
        ·simp [c1, hb6]
        by_cases c2 : c = bd
        ·simp [c2, hb6]
        by_cases c3 : c = bo
        ·simp [c3, hbd, hb6]
        simp [c1, c2, c3]
       ·by_cases e : s = i
        ·subst e
         simp [List.getD, hid]; omega
        ·have h2 := hdb' s
         have h3 : ¬ i = s := fun q => e q.symm
         simpa [List.getD, List.getElem?_set, h3] using h2
       ·by_cases e : s < j
        ·exact hin s hs e
        ·have : s = j := by omega
         subst this
         rw [hk]; omega
      ·have hom' : o'[m]? = some true := by rw [List.getElem?_eq_getElem hmo, hom]
       rw [kid_twice hjl (by rw [hk]; exact hm) hmi (by simp [List.getD, hmo, hom])] at hkl
       rw [run_kid hlt (by rw [hn]; exact hfm) (by rw [hn]; exact hkl.symm)] at hres
       refine awp_eqs (s' := [_,_,_,_,_,_,_,_,x 8,_,_,_,_,_,_,_,_,_,_,_,_,_,_,_,_,_,_,_,_,_,_,_,_,_,_,_,_,_,_,_,_,_,_,_,_,_,_,_,_,_,_,_,_,_,_,_,_,_,_,_,_,x 61,x 62,x 63,x 64,x 65,x 66,x 67,x 68,x 69,x 70,x 71,x 72,x 73,x 74,x 75,x 76,x 77,x 78,x 79,x 80,x 81,x 82,x 83,x 84,x 85,x 86,x 87,x 88,x 89,x 90,x 91,x 92,x 93,x 94,x 95,x 96,x 97,x 98,_,_,_,_,_,_,_,_,_,_,_,_,_,_,_,_,_,_,_,_,_,_,_,_,_,_,_,_,_,_,_,_,_,_,_,_]) rfl ?_
       (focus repeat' first|refine ga ?_|(refine gb ?_;try simp[gz, *])|refine gk fun _ _=>?_)
       exact ⟨by rw [← hres]; exact ⟨rfl, rfl⟩, by (repeat (first | exact Sub.refl _ | refine Sub.loc ?_ (by simp [*]) _))⟩
   ·rw [kid_end (by omega)] at hkl
    have hkr : ∀ k ∈ n.kids, -1 ≤ k ∧ k < (i : Int) := fun k hk => by
     obtain ⟨s, hs, rfl⟩ := List.getElem_of_mem hk
     exact hin s hs (by omega)
    have hkc : ∀ m (hm : m < nodes.length), (m : Int) ∈ n.kids → nodes[m].kind = 24 → nodes[m].kids ≠ [] := fun m hm hmem => hcase m hm (by have := hkr _ hmem; omega)
    refine awp_eqs (s' := [_,_,_,_,_,_,_,_,x 8,_,_,_,_,_,_,_,_,_,_,_,_,_,_,_,_,_,_,_,_,_,_,_,_,_,_,_,_,_,_,_,_,_,_,_,_,_,_,_,_,_,_,_,_,_,_,_,_,_,_,_,_,x 61,x 62,x 63,x 64,x 65,x 66,x 67,x 68,x 69,x 70,x 71,x 72,x 73,x 74,x 75,x 76,x 77,x 78,x 79,x 80,x 81,x 82,x 83,x 84,x 85,x 86,x 87,x 88,x 89,x 90,x 91,x 92,x 93,x 94,x 95,x 96,x 97,x 98,_,_,_,_,_,_,_,_,_,_,_,_,_,_,_,_,_,_,_,_,_,_,_,_,_,_,_,_,_,_,_,_,_,_,_,_]) rfl ?_
    (focus repeat' first|refine ga ?_|(refine gb ?_;try simp[gz, *])|refine gk fun _ _=>?_)
    refine kids_c nodes n t hN hnok.kids hnok.num (fun k hk => ⟨(hkr k hk).1, by have := (hkr k hk).2; omega⟩) hkc _ _ ?_
    cases hgd : kidsL nodes n
    ·rw [run_good hlt (by rw [hn]; exact hfm) (by rw [hn]; exact hkl.symm) (by rw [hn]; exact hgd)] at hres
     simp [gz, *]
     (focus repeat' first|refine ga ?_|(refine gb ?_;try simp[gz, *])|refine gk fun _ _=>?_)
     exact ⟨by rw [← hres]; exact ⟨rfl, rfl⟩, by (repeat (first | exact Sub.refl _ | refine Sub.loc ?_ (by simp [*]) _))⟩
    ·have hid : i < d'.length := by omega
     have hid' : d'[i]? = some d'[i] := List.getElem?_eq_getElem hid
     by_cases hdp : 200 < d'[i]
     ·rw [run_deep hlt (by rw [hn]; exact hfm) (by rw [hn]; exact hkl.symm) (by rw [hn]; exact hgd) (by simpa [List.getD, hid] using hdp)] at hres
      simp [gz, *]
      (focus repeat' first|refine ga ?_|(refine gb ?_;try simp[gz, *])|refine gk fun _ _=>?_)
      exact ⟨by rw [← hres]; exact ⟨rfl, rfl⟩, by (repeat (first | exact Sub.refl _ | refine Sub.loc ?_ (by simp [*]) _))⟩
     ·rw [run_next hlt (by rw [hn]; exact hfm) (by rw [hn]; exact hkl.symm) (by rw [hn]; exact hgd) (by simpa [List.getD, hid] using hdp)] at hres
      simp [gz, *]
      (focus repeat' first|refine ga ?_|(refine gb ?_;try simp[gz, *])|refine gk fun _ _=>?_)
      refine ⟨by kernel_rfl, rfl, nodes.length - (i + 1), _, by omega, ?_, i + 1, o', d', by omega, rfl, by simp, hol', hdl', hdb', fun s hs hsi => ?_, hres, rfl⟩
      ·exact (Sub.refl _).loc (by simp [*]) _
      ·by_cases e : s < i
       ·exact hcase s hs e
       ·have : s = i := by omega
        subst this
        rw [hn]; exact case_kids hgd
 ·rw [run_last (by omega)] at hres
  have hpos : 0 < nodes.length := by omega
  have hkin := kindAt_get (nodes := nodes) (k := nodes.length - 1) (by omega)
  have w5 : IntKind.i64.wrap ((nodes.length - 1 : Nat) : Int) = ((nodes.length - 1 : Nat) : Int) := w64 (by omega) (by omega)
  have hlast : nodes[nodes.length - 1]? = some nodes[nodes.length - 1] := List.getElem?_eq_getElem (by omega)
  have w6 : (nodes.length : Int) - 1 = ((nodes.length - 1 : Nat) : Int) := by omega
  refine awp_eqs (s' := [_,_,_,_,_,x 5,x 6,_,x 8,_,_,_,_,_,_,_,_,_,_,_,_,_,_,_,_,_,_,_,_,_,_,_,_,x 33,x 34,x 35,x 36,x 37,x 38,x 39,x 40,x 41,x 42,x 43,x 44,x 45,x 46,x 47,x 48,x 49,x 50,x 51,x 52,x 53,x 54,x 55,x 56,x 57,x 58,x 59,x 60,x 61,x 62,x 63,x 64,x 65,x 66,x 67,x 68,x 69,x 70,x 71,x 72,x 73,x 74,x 75,x 76,x 77,x 78,x 79,x 80,x 81,x 82,x 83,x 84,x 85,x 86,x 87,x 88,x 89,x 90,x 91,x 92,x 93,x 94,x 95,x 96,x 97,x 98,x 99,x 100,x 101,x 102,x 103,x 104,x 105,x 106,x 107,x 108,x 109,x 110,x 111,x 112,_,_,_,_,_,_,_,_,_,_,_,_,_,_,_,_,_,_,_,_,_,_]) rfl ?_
  (focus repeat' first|refine ga ?_|(refine gb ?_;try simp[gz, *])|refine gk fun _ _=>?_|refine gc ?_ ?_|exact gr _|refine gi fun _=>?_|(refine gn ?_ ?_;focus(intros;simp[*];done)))
  ·have hk26 : ¬ nodes[nodes.length - 1].kind = 26 := by assumption
   refine ⟨?_, by (repeat (first | exact Sub.refl _ | refine Sub.loc ?_ (by simp [*]) _))⟩
   rw [← hres]
   simp [lastL, w6, hkin, hk26]
  ·have hk26 : nodes[nodes.length - 1].kind = 26 := by assumption
   have hb' : (hck h b1 b2 bo bd (AV.list 5 (List.map row nodes) t) [.int .i64 0, .int .i64 0] o d) bo = some (.cells (bools o)) := by simp [hck, Heap.set_get, hbd]
   refine IndexB_c o bo (nodes.length - 1) nodes.length _ hb' (by omega) (by omega) (by omega) _ ?_
   by_cases hfi : 0 ≤ firstNo (o.take (nodes.length - 1))
   ·simp [gz, *]
    (focus repeat' first|refine ga ?_|(refine gb ?_;try simp[gz, *])|refine gk fun _ _=>?_)
    refine ⟨?_, by (repeat (first | exact Sub.refl _ | refine Sub.loc ?_ (by simp [*]) _))⟩
    rw [← hres]
    simp [lastL, w6, hkin, hk26, hfi]
   ·simp [gz, *]
    (focus repeat' first|refine ga ?_|(refine gb ?_;try simp[gz, *])|refine gk fun _ _=>?_)
    refine ⟨?_, by (repeat (first | exact Sub.refl _ | refine Sub.loc ?_ (by simp [*]) _))⟩
    rw [← hres]
    simp [lastL, w6, hkin, hk26, hfi]
end Go.Proofs.YtcbgpjlcfkkdlaaGreatDoor

namespace Go.Proofs.YtcbgpjlcfkkdlaaGreatDoor
open Go Go.AL Go.Proofs
theorem btree_c (T : List Tk) (tt : Tok) (S : St) (tok t2 : Tok) (r : Nat) (nodes : List Nd) (hN : S.nodes = nodes) (hok : ∀ n ∈ nodes, NdOk n) (hk : ∀ n ∈ nodes, n.kids.length ≤ 281474976710) (hl : nodes.length ≤ 131072) (hne : nodes ≠ []) (h : Heap) (hg : h 0 = some .gint) (hr : h r = some (.cells (rdRow T tt S tok t2))) (R : AV → Heap → Prop)
  (hR : R (if (checkL nodes).1 = 0 then .tup [treeAV nodes .no, .agg [.int .i64 0, .int .i64 0]] else .tup [.agg [.list 5 [] .nil], .agg [.int .i64 (checkL nodes).1, .int .i64 (checkL nodes).2]]) h) :
  ACalls Tryz.prog 24 [.ptr r 3] h R := by
 refine ACalls.pure ?_ hR
 clear hR
 have hr0 : h r = some (.cells [.list 5 (T.map tkRow) tt, .int .i64 S.idx, .int .i64 S.nest, .list 5 (nodes.map row) tok, .list 1 (ints S.deep) t2, .int .i64 S.fc, .int .i64 S.fa]) := by rw [← hN]; exact hr
 replace hr := hr0
 clear hr0 hN
 by_cases h1 : (checkL nodes).1 = 0
 ·refine acalls_of Tryz.func24 rfl Tryz.ntmps24 (congrArg Array.toList Tryz.results24) fun Q hQ => ?_
  (focus repeat' first|refine ga ?_|(refine gb ?_;try simp[gz, *])|refine gk fun _ _=>?_)
  intro b1 hb1; simp only [Fresh, Heap.set_none] at hb1; have n_b1_r := ne_of_fresh hr (b := b1) (by simp [*]); try simp [gz, *]
  intro b2 hb2; simp only [Fresh, Heap.set_none] at hb2; have n_b2_r := ne_of_fresh hr (b := b2) (by simp [*]); try simp [gz, *]
  (focus repeat' first|refine ga ?_|(refine gb ?_;try simp[gz, *])|refine gk fun _ _=>?_)
  refine Check_c nodes tok hok (by omega) _ ((show AL.Sub h _ by (repeat (first | exact Sub.refl _ | refine Sub.loc ?_ (by simp [*]) _))) 0 _ hg) _ ?_
  simp [gz, *]
  (focus repeat' first|refine ga ?_|(refine gb ?_;try simp[gz, *])|refine gk fun _ _=>?_)
  intro b4 hb4; simp only [Fresh, Heap.set_none] at hb4; have n_b4_r := ne_of_fresh hr (b := b4) (by simp [*]); try simp [gz, *]
  (focus repeat' first|refine ga ?_|(refine gb ?_;try simp[gz, *])|refine gk fun _ _=>?_)
  refine ACalls.weak (ys := [treeAV nodes .no]) (.cons (Weak.agg (.cons (Weak.tok _ _ _) .nil)) .nil) ?_
  refine Clone_c nodes hl hk _ _ hne ?_
  simp [gz, *]
  (focus repeat' first|refine ga ?_|(refine gb ?_;try simp[gz, *])|refine gk fun _ _=>?_|refine gc ?_ ?_|exact gr _|refine gi fun _=>?_|(refine gn ?_ ?_;focus(intros;simp[*];done)))
  all_goals first
   | (refine ⟨_, ⟨?_, _, rfl, ?_, _, rfl, rfl⟩, ?_, ?_⟩ <;> first | (simp [aresult, Heap.set_get, *]; done) | ((repeat (first | exact Sub.refl _ | refine Sub.loc ?_ (by simp [*]) _)); done))
   | exact (by (repeat (first | exact Sub.refl _ | refine Sub.loc ?_ (by simp [*]) _)))
 ·refine acalls_of Tryz.func24 rfl Tryz.ntmps24 (congrArg Array.toList Tryz.results24) fun Q hQ => ?_
  (focus repeat' first|refine ga ?_|(refine gb ?_;try simp[gz, *])|refine gk fun _ _=>?_)
  intro b1 hb1; simp only [Fresh, Heap.set_none] at hb1; have n_b1_r := ne_of_fresh hr (b := b1) (by simp [*]); try simp [gz, *]
  intro b2 hb2; simp only [Fresh, Heap.set_none] at hb2; have n_b2_r := ne_of_fresh hr (b := b2) (by simp [*]); try simp [gz, *]
  (focus repeat' first|refine ga ?_|(refine gb ?_;try simp[gz, *])|refine gk fun _ _=>?_)
  refine Check_c nodes tok hok (by omega) _ ((show AL.Sub h _ by (repeat (first | exact Sub.refl _ | refine Sub.loc ?_ (by simp [*]) _))) 0 _ hg) _ ?_
  simp [gz, *]
  (focus repeat' first|refine ga ?_|(refine gb ?_;try simp[gz, *])|refine gk fun _ _=>?_)
  intro b4 hb4; simp only [Fresh, Heap.set_none] at hb4; have n_b4_r := ne_of_fresh hr (b := b4) (by simp [*]); try simp [gz, *]
  (focus repeat' first|refine ga ?_|(refine gb ?_;try simp[gz, *])|refine gk fun _ _=>?_)
  refine awp_region_draw [b4] [(0,true),(1,true),(2,false)] [3] follows (by kernel_rfl) rfl (by kernel_rfl) ?_; simp [gz, Heap.plus_set, *]
  (focus repeat' first|refine ga ?_|(refine gb ?_;try simp[gz, *])|refine gk fun _ _=>?_|refine gc ?_ ?_|exact gr _|refine gi fun _=>?_|(refine gn ?_ ?_;focus(intros;simp[*];done)))
  all_goals first
   | (refine ⟨_, ⟨?_, _, rfl, ?_, _, rfl, rfl⟩, ?_, ?_⟩ <;> first | (simp [aresult, Heap.set_get, *]; done) | ((repeat (first | exact Sub.refl _ | refine Sub.loc ?_ (by simp [*]) _)); done))
   | exact (by (repeat (first | exact Sub.refl _ | refine Sub.loc ?_ (by simp [*]) _)))
end Go.Proofs.YtcbgpjlcfkkdlaaGreatDoor

namespace Go.Proofs.YtcbgpjlcfkkdlaaGreatDoor
open Go Go.AL Go.Proofs
def methOf : Op → Option (FuncId × List AV)
 | .stmt => some (22, [])
 | .word t => some (45, [.agg (tkRow t)])
 | .named t => some (82, [.agg (tkRow t)])
 | .locl a => some (80, [.int .i64 a])
 | .literal => some (85, [])
 | .enum a => some (86, [.int .i64 a])
 | .block => some (47, [])
 | .body => some (116, [])
 | .control t => some (79, [.agg (tkRow t)])
 | .paren => some (115, [])
 | .loop a => some (117, [.int .i64 a])
 | .foreach a => some (118, [.int .i64 a])
 | .cases a => some (119, [.int .i64 a])
 | .expr => some (49, [])
 | .cond a => some (87, [.int .i64 a])
 | .binary l => some (124, [.int .i64 l])
 | .unary => some (147, [])
 | .postf => some (153, [])
 | .some x => some (156, [.str x])
 | .primary => some (155, [])
 | .member => some (146, [])
 | .table => some (158, [])
 | .function => some (120, [])
 | .params a x => some (145, [.int .i64 a, .str x])
 | .clas => some (121, [])
 | _ => none
def resOf : Op → List Int → AV
 | .word _, l => .tup [.int .i64 (fst0 l), .bool (decide (l.getD 1 0 = 1))]
 | .member, l => .tup [.int .i64 (fst0 l), .int .i64 (l.getD 1 0)]
 | .some _, l => .list 1 (ints l) .no
 | _, l => .int .i64 (fst0 l)
def resK : Op → List Int → List Int
 | .some _, l => l
 | .member, l => [fst0 l, l.getD 1 0]
 | .word _, l => if l.getD 1 0 = 1 then [fst0 l] else []
 | _, l => [fst0 l]
end Go.Proofs.YtcbgpjlcfkkdlaaGreatDoor

