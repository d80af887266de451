import Derived.Test.YtcbgpjlcfkkdlaaGreatDoorSAP
import Derived.Test.YtcbgpjlcfkkdlaaGreatDoorSBI
import Derived.Test.YtcbgpjlcfkkdlaaGreatDoorSAR
import Derived.Test.YtcbgpjlcfkkdlaaGreatDoorSAL
import Derived.Test.YtcbgpjlcfkkdlaaGreatDoorSAG
set_option linter.unusedSimpArgs false
set_option linter.unusedVariables false
set_option maxRecDepth 100000
set_option maxHeartbeats 16000000
namespace Go.Proofs.YtcbgpjlcfkkdlaaGreatDoor
open Go Go.AL Go.Proofs
theorem RSplit_nil (h : Heap) (R : AV → Heap → Prop) (hR : R (.int .i64 (-1)) h) : ACalls Tryz.prog 33 [.list 1 [] .no] h R := by
 refine ACalls.pure ?_ hR
 clear hR
 refine acalls_of Tryz.func33 rfl Tryz.ntmps33 (congrArg Array.toList Tryz.results33) fun Q hQ => ?_
 (focus repeat' first|refine ga ?_|(refine gb ?_;try simp[gz, *])|refine gk fun _ _=>?_|refine gc ?_ ?_|exact gr _|refine gi fun _=>?_|(refine gn ?_ ?_;focus(intros;simp[*];done)))
 refine awp_loop_h [3,4,5,6,7,8,9,10,11,12,13,14,15,16,17,18,19,20,21,22,23,24,25,26] (fun m x g => m = 0 ∧ x 3 = .int .i64 (-1) ∧ x 4 = .int .i64 0 ∧ g = h) 0 ⟨rfl, rfl, rfl, rfl⟩ (fun m x g hI K hK => ?_)
 obtain ⟨rfl, hx, hy, rfl⟩ := hI
 refine awp_eqs (s' := [_,_,_,x 3,x 4,x 5,x 6,x 7,x 8,x 9,x 10,x 11,x 12,x 13,x 14,x 15,x 16,x 17,x 18,x 19,x 20,x 21,x 22,x 23,x 24,x 25,x 26,_]) rfl ?_
 (focus repeat' first|refine ga ?_|(refine gb ?_;try simp[gz, *])|refine gk fun _ _=>?_|refine gc ?_ ?_|exact gr _|refine gi fun _=>?_|(refine gn ?_ ?_;focus(intros;simp[*];done)))
theorem RSplit_c (ops : List (List UInt8)) (hl : ops.length ≤ 1000) (b : Nat) (hb : b < ops.length) (h1 : ∀ j, j < b → levelL (ops.getD b []) ≤ levelL (ops.getD j [])) (h2 : ∀ j, b < j → j < ops.length → levelL (ops.getD b []) < levelL (ops.getD j [])) (h : Heap) (R : AV → Heap → Prop) (hR : R (.int .i64 b) h) : ACalls Tryz.prog 33 [.list 1 (strs ops) .no] h R := by
 refine ACalls.pure ?_ hR
 clear hR
 replace h1 := Shut.mk h1
 replace h2 := Shut.mk h2
 refine acalls_of Tryz.func33 rfl Tryz.ntmps33 (congrArg Array.toList Tryz.results33) fun Q hQ => ?_
 (focus repeat' first|refine ga ?_|(refine gb ?_;try simp[gz, *])|refine gk fun _ _=>?_|refine gc ?_ ?_|exact gr _|refine gi fun _=>?_|(refine gn ?_ ?_;focus(intros;simp[*];done)))
 refine awp_loop_h [3,4,5,6,7,8,9,10,11,12,13,14,15,16,17,18,19,20,21,22,23,24,25,26] (fun m x g => ∃ (i : Nat) (best : Int), i ≤ ops.length ∧ m = ops.length - i ∧ x 3 = .int .i64 best ∧ x 4 = .int .i64 i ∧ ((i = 0 ∧ best = -1) ∨ (0 < i ∧ 0 ≤ best ∧ best < i ∧ (∀ j, j < i → levelL (ops.getD best.toNat []) ≤ levelL (ops.getD j [])) ∧ ∀ j : Nat, best < j → j < i → levelL (ops.getD best.toNat []) < levelL (ops.getD j []))) ∧ g = h) ops.length ⟨0, -1, by omega, rfl, rfl, rfl, .inl ⟨rfl, rfl⟩, rfl⟩ (fun m x g hI K hK => ?_)
 obtain ⟨i, best, hi, rfl, hx, hy, hinv, rfl⟩ := hI
 replace hinv := Shut.mk hinv
 have w1 : IntKind.i64.wrap ((i : Int) + 1) = ((i + 1 : Nat) : Int) := by rw [w64 (by omega) (by omega)]; omega
 by_cases hlt : i < ops.length
 ·have hii : (i : Int) < ops.length := by omega
  have hi0 : ¬ (i : Int) < 0 := by omega
  obtain ⟨o, ho⟩ : ∃ o, ops[i]? = some o := ⟨_, List.getElem?_eq_getElem hlt⟩
  have ho2 := (List.getElem?_eq_some_iff.1 ho).2
  have hod : ops.getD i [] = o := by rw [List.getD_eq_getElem?_getD, ho]; rfl
  by_cases hneg : best < 0
  ·have hz : Shut (i = 0) := ⟨by rcases hinv.out with q | q <;> omega⟩
   have hnd : decide (best < 0) = true := decide_eq_true hneg
   clear hneg
   refine awp_eqs (s' := [_,_,_,x 3,x 4,x 5,x 6,x 7,x 8,x 9,x 10,x 11,x 12,x 13,x 14,x 15,x 16,x 17,x 18,x 19,x 20,x 21,x 22,x 23,x 24,x 25,x 26,_]) rfl ?_
   (focus repeat' first|refine ga ?_|(refine gb ?_;try simp[gz, *])|refine gk fun _ _=>?_|refine gc ?_ ?_|exact gr _|refine gi fun _=>?_|(refine gn ?_ ?_;focus(intros;simp[*];done)))
   refine awp_region_draw [] [(0,true),(1,true),(2,true),(3,true),(4,true),(5,true),(6,true),(8,true),(9,true),(10,true),(11,true),(7,false),(12,false),(13,true),(14,true)] [] follows (by kernel_rfl) rfl (by kernel_rfl) ?_; simp [gz, Heap.plus_set, *]
   (focus repeat' first|refine ga ?_|(refine gb ?_;try simp[gz, *])|refine gk fun _ _=>?_|refine gc ?_ ?_|exact gr _|refine gi fun _=>?_|(refine gn ?_ ?_;focus(intros;simp[*];done)))
   exact ⟨by kernel_rfl, rfl, ops.length - (i + 1), g, by omega, Sub.refl _, i + 1, (i : Int), by omega, rfl, by first | rfl | simp, by simp, .inr ⟨by omega, by omega, by omega, fun j hj => (by rw [Int.toNat_natCast, show j = i from by have := hz.out; omega]; exact Int.le_refl _), fun j q1 q2 => by omega⟩, rfl⟩
  ·rcases hinv.out with q | ⟨q1, q2, q3, q4, q5⟩
   ·omega
   obtain ⟨c, rfl⟩ : ∃ c : Nat, best = c := ⟨best.toNat, by omega⟩
   have hci : (c : Int) < ops.length := by omega
   have hcn : c < ops.length := by omega
   obtain ⟨p, hp⟩ : ∃ p, ops[c]? = some p := ⟨_, List.getElem?_eq_getElem (by omega)⟩
   have hp2 := (List.getElem?_eq_some_iff.1 hp).2
   have hpd : ops.getD c [] = p := by rw [List.getD_eq_getElem?_getD, hp]; rfl
   rw [Int.toNat_natCast, hpd] at q4 q5
   replace q4 := Shut.mk q4
   replace q5 := Shut.mk q5
   obtain ⟨lo, hlo⟩ : ∃ x, levelL o = x := ⟨_, rfl⟩
   obtain ⟨lp, hlp⟩ : ∃ x, levelL p = x := ⟨_, rfl⟩
   by_cases hle : lo ≤ lp
   ·refine awp_eqs (s' := [_,_,_,x 3,x 4,x 5,x 6,x 7,x 8,x 9,x 10,x 11,x 12,x 13,x 14,x 15,x 16,x 17,x 18,x 19,x 20,x 21,x 22,x 23,x 24,x 25,x 26,_]) rfl ?_
    (focus repeat' first|refine ga ?_|(refine gb ?_;try simp[gz, *])|refine gk fun _ _=>?_|refine gc ?_ ?_|exact gr _|refine gi fun _=>?_|(refine gn ?_ ?_;focus(intros;simp[*];done)))
    refine awp_region_draw [] [(0,true),(1,true),(2,true),(3,true),(4,true),(5,true),(6,true),(8,true),(9,true),(10,true),(11,true),(7,false),(12,false),(13,true),(14,true)] [] follows (by kernel_rfl) rfl (by kernel_rfl) ?_; simp [gz, Heap.plus_set, *]
    refine RLevel_c o _ _ ?_
    rw [hlo]
    simp [gz, Heap.plus_set, *]
    refine RLevel_c p _ _ ?_
    rw [hlp]
    simp [gz, Heap.plus_set, *]
    (focus repeat' first|refine ga ?_|(refine gb ?_;try simp[gz, *])|refine gk fun _ _=>?_|refine gc ?_ ?_|exact gr _|refine gi fun _=>?_|(refine gn ?_ ?_;focus(intros;simp[*];done)))
    exact ⟨by kernel_rfl, rfl, ops.length - (i + 1), g, by omega, Sub.refl _, i + 1, (i : Int), by omega, rfl, by first | rfl | simp, by simp, .inr ⟨by omega, by omega, by omega, fun j hj => (by rw [Int.toNat_natCast, hod, hlo]; rcases Nat.lt_or_ge j i with q | q; have := q4.out j q; omega; rw [show j = i from by omega, hod, hlo]; exact Int.le_refl _), fun j q1 q2 => by omega⟩, rfl⟩
   ·refine awp_eqs (s' := [_,_,_,x 3,x 4,x 5,x 6,x 7,x 8,x 9,x 10,x 11,x 12,x 13,x 14,x 15,x 16,x 17,x 18,x 19,x 20,x 21,x 22,x 23,x 24,x 25,x 26,_]) rfl ?_
    (focus repeat' first|refine ga ?_|(refine gb ?_;try simp[gz, *])|refine gk fun _ _=>?_|refine gc ?_ ?_|exact gr _|refine gi fun _=>?_|(refine gn ?_ ?_;focus(intros;simp[*];done)))
    refine awp_region_draw [] [(0,true),(1,true),(2,true),(3,true),(4,true),(5,true),(6,true),(8,true),(9,true),(10,true),(11,true),(7,false),(12,false),(13,true),(14,true)] [] follows (by kernel_rfl) rfl (by kernel_rfl) ?_; simp [gz, Heap.plus_set, *]
    refine RLevel_c o _ _ ?_
    rw [hlo]
    simp [gz, Heap.plus_set, *]
    refine RLevel_c p _ _ ?_
    rw [hlp]
    simp [gz, Heap.plus_set, *]
    (focus repeat' first|refine ga ?_|(refine gb ?_;try simp[gz, *])|refine gk fun _ _=>?_|refine gc ?_ ?_|exact gr _|refine gi fun _=>?_|(refine gn ?_ ?_;focus(intros;simp[*];done)))
    exact ⟨by kernel_rfl, rfl, ops.length - (i + 1), g, by omega, Sub.refl _, i + 1, (c : Int), by omega, rfl, by first | rfl | simp, by simp, .inr ⟨by omega, by omega, by omega, fun j hj => (by rw [Int.toNat_natCast, hpd, hlp]; rcases Nat.lt_or_ge j i with q | q; have := q4.out j q; omega; rw [show j = i from by omega, hod, hlo]; omega), fun j q1 q2 => (by rw [Int.toNat_natCast, hpd, hlp]; rcases Nat.lt_or_ge j i with q | q; have := q5.out j q1 q; omega; rw [show j = i from by omega, hod, hlo]; omega)⟩, rfl⟩
 ·obtain rfl : i = ops.length := by omega
  have hbest : best = b := by
   rcases hinv.out with q | ⟨q1, q2, q3, q4, q5⟩
   ·omega
   obtain ⟨c, rfl⟩ : ∃ c : Nat, best = c := ⟨best.toNat, by omega⟩
   rw [Int.toNat_natCast] at q4 q5
   rcases Nat.lt_trichotomy c b with q | q | q
   ·have e1 := q5 b (by omega) hb
    have e2 := h1.out c q
    omega
   ·omega
   ·have e1 := h2.out c q (by omega)
    have e2 := q4 b hb
    omega
  replace hb := Shut.mk hb
  refine awp_eqs (s' := [_,_,_,x 3,x 4,x 5,x 6,x 7,x 8,x 9,x 10,x 11,x 12,x 13,x 14,x 15,x 16,x 17,x 18,x 19,x 20,x 21,x 22,x 23,x 24,x 25,x 26,_]) rfl ?_
  (focus repeat' first|refine ga ?_|(refine gb ?_;try simp[gz, *])|refine gk fun _ _=>?_|refine gc ?_ ?_|exact gr _|refine gi fun _=>?_|(refine gn ?_ ?_;focus(intros;simp[*];done)))
end Go.Proofs.YtcbgpjlcfkkdlaaGreatDoor

namespace Go.Proofs.YtcbgpjlcfkkdlaaGreatDoor
open Go Go.AL Go.Proofs
def nms : Nat → Nat → List (List UInt8)
 | _, 0 => []
 | i, k + 1 => nm i :: nms (i + 1) k
theorem nms_len : ∀ (k i : Nat), (nms i k).length = k
 | 0, _ => rfl
 | k + 1, i => by simp only [nms, List.length_cons, nms_len k (i + 1)]
theorem nms_take : ∀ (a b i : Nat), (nms i (a + b)).take a = nms i a
 | 0, b, i => by simp [nms]
 | a + 1, b, i => by rw [show a + 1 + b = (a + b) + 1 from by omega]; simp only [nms, List.take_succ_cons, nms_take a b (i + 1)]
theorem nms_drop : ∀ (a b i : Nat), (nms i (a + b)).drop a = nms (i + a) b
 | 0, b, i => by simp
 | a + 1, b, i => by rw [show a + 1 + b = (a + b) + 1 from by omega]; simp only [nms, List.drop_succ_cons]; rw [nms_drop a b (i + 1), show i + 1 + a = i + (a + 1) from by omega]
theorem nms_snoc : ∀ (k i : Nat), nms i (k + 1) = nms i k ++ [nm (i + k)]
 | 0, i => rfl
 | k + 1, i => by
  rw [show nms i (k + 1 + 1) = nm i :: nms (i + 1) (k + 1) from rfl, nms_snoc k (i + 1), show nms i (k + 1) = nm i :: nms (i + 1) k from rfl, List.cons_append, show i + 1 + k = i + (k + 1) from by omega]
theorem Whole_c {i : Nat} {ops : List (List UInt8)} {s : List UInt8} (hw : Ws i ops s) (hlen : s.length ≤ 1000000) (hl : ops.length ≤ 1000) (h : Heap) (R : AV → Heap → Prop) (hR : R (.str s) h) : ACalls Tryz.prog 15 [.list 1 (strs (nms i (ops.length + 1))) .no, .list 1 (strs ops) .no] h R := by
 induction hw generalizing h R with
 | one =>
  rename_i i
  refine ACalls.pure ?_ hR
  clear hR
  simp only [nms, List.length_nil, Nat.zero_add]
  refine acalls_of Tryz.func15 rfl Tryz.ntmps15 (congrArg Array.toList Tryz.results15) fun Q hQ => ?_
  (focus repeat' first|refine ga ?_|(refine gb ?_;try simp[gz, *])|refine gk fun _ _=>?_|refine gc ?_ ?_|exact gr _|refine gi fun _=>?_|(refine gn ?_ ?_;focus(intros;simp[*];done)))
  refine RSplit_nil _ _ ?_
  simp [gz, *]
  (focus repeat' first|refine ga ?_|(refine gb ?_;try simp[gz, *])|refine gk fun _ _=>?_|refine gc ?_ ?_|exact gr _|refine gi fun _=>?_|(refine gn ?_ ?_;focus(intros;simp[*];done)))
 | two h1 h2 w1 w2 ih1 ih2 =>
  rename_i i l r o x y
  refine ACalls.pure ?_ hR
  clear hR
  have hl2 : x.length + o.length + y.length + 4 ≤ 1000000 := by simp only [List.length_append, List.length_cons, List.length_nil] at hlen; omega
  have hl3 : l.length + r.length + 1 ≤ 1000 := by simp only [List.length_append, List.length_cons] at hl; omega
  have hsp := RSplit_c (l ++ o :: r) hl l.length (by simp) (fun j hj => by
   have e1 : (l ++ o :: r).getD l.length [] = o := by simp [List.getD_eq_getElem?_getD]
   have e2 : (l ++ o :: r).getD j [] = l[j] := by simp [List.getD_eq_getElem?_getD, List.getElem?_append_left hj, List.getElem?_eq_getElem hj]
   rw [e1, e2, level_eq, level_eq]
   exact h1 _ (List.getElem_mem hj)) (fun j hj hj2 => by
   have e1 : (l ++ o :: r).getD l.length [] = o := by simp [List.getD_eq_getElem?_getD]
   obtain ⟨k, rfl⟩ : ∃ k, j = l.length + (k + 1) := ⟨j - l.length - 1, by omega⟩
   have hk : k < r.length := by simp only [List.length_append, List.length_cons] at hj2; omega
   have e2 : (l ++ o :: r).getD (l.length + (k + 1)) [] = r[k] := by simp [List.getD_eq_getElem?_getD, List.getElem?_append_right, hk]
   rw [e1, e2, level_eq, level_eq]
   exact h2 _ (List.getElem_mem hk))
  have hnl := nms_len ((l ++ o :: r).length + 1) i
  have hlo : (l ++ o :: r).length = l.length + (r.length + 1) := by simp
  rw [hlo] at hnl ⊢
  obtain ⟨O, hO⟩ : ∃ O, l ++ o :: r = O := ⟨_, rfl⟩
  obtain ⟨M, hM⟩ : ∃ M, nms i (l.length + (r.length + 1) + 1) = M := ⟨_, rfl⟩
  have hOl : O.length = l.length + (r.length + 1) := by rw [← hO]; exact hlo
  have hOg : O[l.length]? = some o := by rw [← hO]; simp
  rw [hO] at hsp ⊢
  rw [hM] at hnl ⊢
  obtain ⟨hOq, hOg2⟩ := List.getElem?_eq_some_iff.1 hOg
  have hO1 : Shut (O.take l.length = l) := ⟨by rw [← hO]; simp⟩
  have hO2 : Shut (O.drop (l.length + 1) = r) := ⟨by rw [← hO, ← List.drop_drop]; simp⟩
  have hM1 : Shut (M.take (l.length + 1) = nms i (l.length + 1)) := ⟨by rw [← hM, show l.length + (r.length + 1) + 1 = l.length + 1 + (r.length + 1) from by omega, nms_take]⟩
  have hM2 : Shut (M.drop (l.length + 1) = nms (i + l.length + 1) (r.length + 1)) := ⟨by rw [← hM, show l.length + (r.length + 1) + 1 = l.length + 1 + (r.length + 1) from by omega, nms_drop, Nat.add_assoc]⟩
  clear hO hM h1 h2 w1 w2 hlo
  obtain ⟨b, hb⟩ : ∃ b, l.length = b := ⟨_, rfl⟩
  replace ih1 := Shut.mk ih1
  replace ih2 := Shut.mk ih2
  replace hsp := Shut.mk hsp
  have w1 : IntKind.i64.wrap ((l.length : Int) + 1) = ((l.length + 1 : Nat) : Int) := by rw [w64 (by omega) (by omega)]; omega
  have g1 : ¬ ((l.length : Int) < 0) := by omega
  have g2 : l.length < O.length := by omega
  have g3 : l.length + 1 ≤ M.length := by omega
  have g4 : l.length + 1 ≤ O.length := by omega
  have g5 : l.length ≤ O.length := by omega
  clear hb
  refine acalls_of Tryz.func15 rfl Tryz.ntmps15 (congrArg Array.toList Tryz.results15) fun Q hQ => ?_
  (focus repeat' first|refine ga ?_|(refine gb ?_;try simp[gz, *])|refine gk fun _ _=>?_|refine gc ?_ ?_|exact gr _|refine gi fun _=>?_|(refine gn ?_ ?_;focus(intros;simp[*];done)))
  refine hsp.out _ _ ?_
  simp [gz, *]
  (focus repeat' first|refine ga ?_|(refine gb ?_;try simp[gz, *])|refine gk fun _ _=>?_|refine gc ?_ ?_|exact gr _|refine gi fun _=>?_|(refine gn ?_ ?_;focus(intros;simp[*];done)))
  refine awp_region_draw [] [(0,true),(1,true),(2,true),(3,true),(4,true),(5,true),(6,true),(10,true),(11,true),(12,true),(13,true),(16,true),(17,true),(18,true),(19,true),(20,true),(21,true),(22,true),(23,true),(7,false),(8,true),(9,true),(14,true),(15,true),(24,false),(25,true),(26,true)] [27] follows (by kernel_rfl) rfl (by kernel_rfl) ?_; simp [gz, Heap.plus_set, *]
  refine ⟨by omega, by omega, by omega, by omega, ?_⟩
  rw [show List.take (l.length + 1) (strs M) = strs (nms i (l.length + 1)) from by rw [← hM1.out]; exact List.map_take.symm, show List.take l.length (strs O) = strs l from ((List.map_take.symm : List.take l.length (strs O) = strs (O.take l.length)).trans (congrArg strs hO1.out))]
  refine ih1.out (by omega) (by omega) _ _ ?_
  simp [gz, Heap.plus_set, *]
  refine ⟨by omega, by omega, by omega, by omega, ?_⟩
  rw [show List.drop (l.length + 1) (List.take ((l.length : Int) + ((r.length : Int) + 1) + 1).toNat (strs M)) = strs (nms (i + l.length + 1) (r.length + 1)) from by
    rw [← hM2.out, show ((l.length : Int) + ((r.length : Int) + 1) + 1).toNat = (strs M).length from by rw [List.length_map]; omega, List.take_length]; exact List.map_drop.symm,
   show List.drop (l.length + 1) (List.take ((l.length : Int) + ((r.length : Int) + 1)).toNat (strs O)) = strs r from by
    rw [show ((l.length : Int) + ((r.length : Int) + 1)).toNat = (strs O).length from by rw [List.length_map]; omega, List.take_length]; exact ((List.map_drop.symm : List.drop (l.length + 1) (strs O) = strs (O.drop (l.length + 1))).trans (congrArg strs hO2.out))]
  refine ih2.out (by omega) (by omega) _ _ ?_
  simp [gz, Heap.plus_set, *]
  (focus repeat' first|refine ga ?_|(refine gb ?_;try simp[gz, *])|refine gk fun _ _=>?_|refine gc ?_ ?_|exact gr _|refine gi fun _=>?_|(refine gn ?_ ?_;focus(intros;simp[*];done)))
end Go.Proofs.YtcbgpjlcfkkdlaaGreatDoor

namespace Go.Proofs.YtcbgpjlcfkkdlaaGreatDoor
open Go Go.AL Go.Proofs
end Go.Proofs.YtcbgpjlcfkkdlaaGreatDoor

namespace Go.Proofs.YtcbgpjlcfkkdlaaGreatDoor
open Go Go.AL Go.Proofs
def src1 : List UInt8 := [102, 117, 110, 99, 116, 105, 111, 110, 32, 102, 40, 97, 44, 32, 98, 32, 61, 32, 49, 41, 32, 123, 32, 114, 101, 116, 117, 114, 110, 32, 97, 32, 43, 32, 98, 32, 42, 32, 50, 32, 125, 10, 112, 114, 105, 110, 116, 40, 102, 40, 51, 41, 41, 10, 120, 32, 61, 32, 121, 32, 63, 32, 49, 32, 58, 32, 45, 122, 43, 43]
def nodes1 : List Nd := [⟨7, 0, [], 0, []⟩, ⟨15, 0, [102], 0, [0]⟩, ⟨22, 11, [97], 0, [-1]⟩, ⟨4, 18, [], 1, []⟩, ⟨22, 14, [98], 0, [3]⟩,
 ⟨6, 30, [97], 0, []⟩, ⟨6, 34, [98], 0, []⟩, ⟨4, 38, [], 2, []⟩, ⟨10, 34, [42], 0, [6, 7]⟩, ⟨10, 30, [43], 0, [5, 8]⟩,
 ⟨37, 23, [], 0, [9]⟩, ⟨26, 21, [], 0, [10]⟩, ⟨20, 0, [102], 2, [2, 4, 11]⟩, ⟨12, 0, [60, 45], 0, [1, 12]⟩,
 ⟨28, 0, [], 0, [13]⟩, ⟨6, 42, [112, 114, 105, 110, 116], 0, []⟩, ⟨6, 48, [102], 0, []⟩, ⟨4, 50, [], 3, []⟩,
 ⟨17, 48, [], 0, [16, 17]⟩, ⟨17, 42, [], 0, [15, 18]⟩, ⟨28, 42, [], 0, [19]⟩, ⟨6, 54, [120], 0, []⟩,
 ⟨6, 58, [121], 0, []⟩, ⟨4, 62, [], 1, []⟩, ⟨6, 67, [122], 0, []⟩, ⟨13, 67, [43, 43], 1, [24]⟩, ⟨9, 66, [45], 0, [25]⟩,
 ⟨11, 58, [], 0, [22, 23, 26]⟩, ⟨12, 54, [61], 0, [21, 27]⟩, ⟨28, 54, [], 0, [28]⟩, ⟨26, 0, [], 0, [14, 20, 29]⟩]
def ndEq (a b : Nd) : Bool := decide (a.kind = b.kind) && decide (a.pos = b.pos) && decide (a.text = b.text) && decide (a.num = b.num) && decide (a.kids = b.kids)
def ndsEq : List Nd → List Nd → Bool
 | [], [] => true
 | a :: l, b :: m => ndEq a b && ndsEq l m
 | _, _ => false
theorem ndsEq_out : ∀ (l m : List Nd), ndsEq l m = true → l = m
 | [], [], _ => rfl
 | [], _ :: _, h => by simp [ndsEq] at h
 | _ :: _, [], h => by simp [ndsEq] at h
 | ⟨a1, a2, a3, a4, a5⟩ :: l, ⟨b1, b2, b3, b4, b5⟩ :: m, h => by
  simp only [ndsEq, ndEq, Bool.and_eq_true, decide_eq_true_eq] at h
  obtain ⟨⟨⟨⟨⟨rfl, rfl⟩, rfl⟩, rfl⟩, rfl⟩, h2⟩ := h
  rw [ndsEq_out l m h2]
theorem ev1a : (parseT src1).2 = (0, 0) := by decide +kernel
theorem ev1b : ndsEq (parseT src1).1 nodes1 = true := by decide +kernel
theorem ev1 : parseT src1 = (nodes1, ((0 : Int), (0 : Int))) := Prod.ext (ndsEq_out _ _ ev1b) ev1a
theorem ev1c : checkL nodes1 = ((0 : Int), (0 : Int)) := by decide +kernel
def ndFine (n : Nd) : Bool := decide (n.text.length < 4294967200) && decide (n.kids.length ≤ 281474976710656) && decide (n.num ≤ 9223372036854775807)
theorem ok1b : nodes1.all ndFine = true := by decide +kernel
theorem ok1 (n : Nd) (hn : n ∈ nodes1) : NdOk n := by
 have h2 := List.all_eq_true.1 ok1b n hn
 simp only [ndFine, Bool.and_eq_true, decide_eq_true_eq] at h2
 exact ⟨h2.1.1, h2.1.2, h2.2⟩
theorem ev2 : (parseT [120, 32, 61, 32]).2 = (5, 4) := by decide +kernel
theorem ev3 : (parseT [49, 32, 61, 32, 120]).2 = (30, 2) := by decide +kernel
theorem ev4 : (parseT [120, 32, 121]).2 = (5, 2) := by decide +kernel
theorem ev5 : (parseT [120, 10, 121]).2.1 = 0 := by decide +kernel
theorem ev6 : (parseT (Lib.repeatL [40] 99)).2.1 = 6 := by decide +kernel
end Go.Proofs.YtcbgpjlcfkkdlaaGreatDoor

namespace Go.Proofs.YtcbgpjlcfkkdlaaGreatDoor
open Go Go.AL Go.Proofs
def rowsT (z : List Nd × Int × Int) : List (List AV) := if z.2.1 = 0 then z.1.map row else []
def tokT (z : List Nd × Int × Int) : Tok := if z.2.1 = 0 then .no else .nil
theorem parseAV_eq (z : List Nd × Int × Int) : parseAV z = .tup [.agg [.list 5 (rowsT z) (tokT z)], .agg [.int .i64 z.2.1, .int .i64 z.2.2]] := by
 unfold parseAV rowsT tokT
 split <;> rfl
theorem code_c (s : List UInt8) (hs : s.length ≤ 3300) (h : Heap) (h0 : h 0 = some .gint) (R : AV → Heap → Prop) (hR : R (.agg [.int .i64 (parseT s).2.1, .int .i64 (parseT s).2.2]) h) : ACalls Tryz.prog 19 [.str s] h R := by
 refine ACalls.pure ?_ hR
 clear hR
 refine acalls_of Tryz.func19 rfl Tryz.ntmps19 (congrArg Array.toList Tryz.results19) fun Q hQ => ?_
 (focus repeat' first|refine ga ?_|(refine gb ?_;try simp[gz, *])|refine gk fun _ _=>?_|refine gc ?_ ?_|exact gr _|refine gi fun _=>?_|(refine gn ?_ ?_;focus(intros;simp[*];done)))
 intro b1 hb1; simp only [Fresh, Heap.set_none] at hb1; try simp [gz, *]
 (focus repeat' first|refine ga ?_|(refine gb ?_;try simp[gz, *])|refine gk fun _ _=>?_|refine gc ?_ ?_|exact gr _|refine gi fun _=>?_|(refine gn ?_ ?_;focus(intros;simp[*];done)))
 refine Parse_c s hs _ (gint_set hb1 h0) _ ?_
 rw [parseAV_eq]
 obtain ⟨z, hz⟩ : ∃ z, parseT s = z := ⟨_, rfl⟩
 rw [hz]
 replace hz := Shut.mk hz
 simp [gz, *]
 (focus repeat' first|refine ga ?_|(refine gb ?_;try simp[gz, *])|refine gk fun _ _=>?_|refine gc ?_ ?_|exact gr _|refine gi fun _=>?_|(refine gn ?_ ?_;focus(intros;simp[*];done)))
 intro b2 hb2
 simp only [Fresh, Heap.set_none] at hb2
 obtain ⟨n12, n21, hb2⟩ := hb2
 try simp [gz, *]
 (focus repeat' first|refine ga ?_|(refine gb ?_;try simp[gz, *])|refine gk fun _ _=>?_|refine gc ?_ ?_|exact gr _|refine gi fun _=>?_|(refine gn ?_ ?_;focus(intros;simp[*];done)))
 intro b3 hb3
 simp only [Fresh, Heap.set_none] at hb3
 obtain ⟨n13, n31, n23, n32, hb3⟩ := hb3
 try simp [gz, *]
 (focus repeat' first|refine ga ?_|(refine gb ?_;try simp[gz, *])|refine gk fun _ _=>?_|refine gc ?_ ?_|exact gr _|refine gi fun _=>?_|(refine gn ?_ ?_;focus(intros;simp[*];done)))
 rw [hz.out]
 exact ⟨⟨rfl, rfl⟩, by (repeat (first | exact Sub.refl _ | refine Sub.loc ?_ (by simp [*]) _))⟩
theorem reads_c (h : Heap) (h0 : h 0 = some .gint) (R : AV → Heap → Prop) (hR : R (.bool true) h) : ACalls Tryz.prog 8 [] h R := by
 refine ACalls.pure ?_ hR
 clear hR
 refine acalls_of Tryz.func8 rfl Tryz.ntmps8 (congrArg Array.toList Tryz.results8) fun Q hQ => ?_
 (focus repeat' first|refine ga ?_|(refine gb ?_;try simp[gz, *])|refine gk fun _ _=>?_|refine gc ?_ ?_|exact gr _|refine gi fun _=>?_|(refine gn ?_ ?_;focus(intros;simp[*];done)))
 refine Parse_c src1 (by decide) _ h0 _ ?_
 rw [ev1]
 obtain ⟨N, hN⟩ : ∃ N, nodes1 = N := ⟨_, rfl⟩
 have hc : checkL N = ((0 : Int), (0 : Int)) := by rw [← hN]; exact ev1c
 have hok : ∀ n ∈ N, NdOk n := by rw [← hN]; exact ok1
 have hl : N.length = 31 := by rw [← hN]; rfl
 obtain ⟨q30, g30⟩ : (∃ q : 30 < N.length, N[30] = ⟨26, 0, [], 0, [14, 20, 29]⟩) := ⟨by omega, by subst hN; rfl⟩
 obtain ⟨q14, g14⟩ : (∃ q : 14 < N.length, N[14] = ⟨28, 0, [], 0, [13]⟩) := ⟨by omega, by subst hN; rfl⟩
 obtain ⟨q13, g13⟩ : (∃ q : 13 < N.length, N[13] = ⟨12, 0, [60, 45], 0, [1, 12]⟩) := ⟨by omega, by subst hN; rfl⟩
 obtain ⟨q12, g12⟩ : (∃ q : 12 < N.length, N[12] = ⟨20, 0, [102], 2, [2, 4, 11]⟩) := ⟨by omega, by subst hN; rfl⟩
 rw [hN]
 clear hN
 replace hok := Shut.mk hok
 replace hc := Shut.mk hc
 show _ ∧ _
 simp only [parseAV, if_true]
 simp [gz, *]
 (focus repeat' first|refine ga ?_|(refine gb ?_;try simp[gz, *])|refine gk fun _ _=>?_|refine gc ?_ ?_|exact gr _|refine gi fun _=>?_|(refine gn ?_ ?_;focus(intros;simp[*];done)))
 intro b1 hb1; simp only [Fresh, Heap.set_none] at hb1; try simp [gz, *]
 (focus repeat' first|refine ga ?_|(refine gb ?_;try simp[gz, *])|refine gk fun _ _=>?_|refine gc ?_ ?_|exact gr _|refine gi fun _=>?_|(refine gn ?_ ?_;focus(intros;simp[*];done)))
 intro b2 hb2; simp only [Fresh, Heap.set_none] at hb2; obtain ⟨qb20, qb21, hb2⟩ := hb2; try simp [gz, *]
 (focus repeat' first|refine ga ?_|(refine gb ?_;try simp[gz, *])|refine gk fun _ _=>?_|refine gc ?_ ?_|exact gr _|refine gi fun _=>?_|(refine gn ?_ ?_;focus(intros;simp[*];done)))
 refine Check_c N .no hok.out (by omega) _ ((show AL.Sub h _ by (repeat (first | exact Sub.refl _ | refine Sub.loc ?_ (by simp [*]) _))) _ _ h0) _ ?_
 rw [hc.out]
 simp [gz, *]
 (focus repeat' first|refine ga ?_|(refine gb ?_;try simp[gz, *])|refine gk fun _ _=>?_|refine gc ?_ ?_|exact gr _|refine gi fun _=>?_|(refine gn ?_ ?_;focus(intros;simp[*];done)))
 refine awp_heap (fun g => g b1 = some (.cells [.list 5 (N.map row) .no]) ∧ AL.Sub h g) ⟨by simp [Heap.set_get, *], by (repeat (first | exact Sub.refl _ | refine Sub.loc ?_ (by simp [*]) _))⟩ (fun H hH => ?_)
 obtain ⟨H1, hsH⟩ := hH
 clear hb1 hb2 qb20 qb21
 have H0 := hsH _ _ h0
 replace hsH := Shut.mk hsH
 clear h0
 refine awp_region_pair2 [b1] [(0, true), (1, true), (2, true)] 3 [(4, true), (5, true), (6, false)] 6 [(3, false), (4, true), (5, true)] [7] follows (by kernel_rfl) rfl (by kernel_rfl) ?_
 simp [Heap.set_get, Heap.plus_set, *]
 refine ⟨?A, ?B⟩
 case' A =>
  refine Root_c N .no (by omega) _ _ ?_
  simp [Heap.set_get, Heap.plus_set, *]
  intro b3 hb3
  simp only [Fresh] at hb3
  simp [Heap.set_get, Heap.plus_set, *]
  intro n13
  have n31 : ¬ b3 = b1 := fun e => n13 e.symm
  have z3 : H b3 = none := by simpa [n31] using hb3
  clear hb3
  simp [Heap.set_get, Heap.plus_set, *]
 case' B =>
  intro b3 hb3
  simp only [Fresh] at hb3
  simp [Heap.set_get, Heap.plus_set, *]
  intro n13
  have n31 : ¬ b3 = b1 := fun e => n13 e.symm
  have z3 : H b3 = none := by simpa [n31] using hb3
  clear hb3
  simp [Heap.set_get, Heap.plus_set, *]
  refine Root_c N .no (by omega) _ _ ?_
  simp [Heap.set_get, Heap.plus_set, *]
 all_goals
  (focus repeat' first|refine ga ?_|(refine gb ?_;try simp[gz, *])|refine gk fun _ _=>?_|refine gc ?_ ?_|exact gr _|refine gi fun _=>?_|(refine gn ?_ ?_;focus(intros;simp[*];done)))
  refine awp_region_draw [b1, b3] [(0,true),(1,true),(2,true),(3,true),(4,true),(5,true),(6,true),(7,true),(8,true),(9,true),(10,true),(11,true),(12,true),(13,true),(14,true),(15,false)] [16] follows (by kernel_rfl) rfl (by kernel_rfl) ?_; simp [gz, Heap.plus_set, *]
  intro b4 hb4
  simp only [Fresh] at hb4
  simp [Heap.set_get, Heap.plus_set, *]
  intro n14 n34
  have n41 : ¬ b4 = b1 := fun e => n14 e.symm
  have n43 : ¬ b4 = b3 := fun e => n34 e.symm
  have z4 : H b4 = none := by simpa [Heap.set_get, n41, n43, n14, n34] using hb4
  clear hb4
  simp [Heap.set_get, Heap.plus_set, *]
  refine Keep.go (by assumption) ?_
  refine awp_heap (fun g => g b1 = some (.cells [.list 5 (N.map row) .no]) ∧ g b4 = some (.cells [.int .i64 12, .int .i64 0, .str [60, 45], .int .i64 0, .list 1 [[.int .i64 1], [.int .i64 12]] .no]) ∧ AL.Sub H g) ⟨by simp [Heap.set_get, *], by simp [Heap.set_get, *], ?_⟩ (fun H' hH' => ?_)
  ·exact ((Sub.refl H).loc z3 _).loc z4 _
  obtain ⟨G1, G4, hsG⟩ := hH'
  clear n14 n34 n41 n43 z4 z3 n13 n31
  have G0 := hsG _ _ H0
  have m1 : ¬ 0 = b1 := fun e => by rw [← e, G0] at G1; cases G1
  have m4 : ¬ 0 = b4 := fun e => by rw [← e, G0] at G4; cases G4
  have M0 : (H'.minus [b1, b4]) 0 = some .gint := by rw [Heap.minus_get, if_neg (by simp [m1, m4])]; exact G0
  replace hsG := Shut.mk hsG
  clear H0 H1
  (focus repeat' first|refine ga ?_|(refine gb ?_;try simp[gz, *])|refine gk fun _ _=>?_|refine gc ?_ ?_|exact gr _|refine gi fun _=>?_|(refine gn ?_ ?_;focus(intros;simp[*];done)))
  refine awp_region_draw [b1, b4] [(0,true),(1,true),(2,true),(3,true),(4,true),(5,true),(6,true),(7,true),(8,true),(9,true),(10,true),(11,true),(12,true),(13,true),(14,true),(15,true),(16,true),(17,true),(18,true),(19,true),(20,true),(21,true),(22,true),(23,true),(24,true),(25,true),(26,true),(27,true),(28,true),(29,true),(30,true),(31,true),(32,true),(34,true),(33,false),(35,true),(36,true),(37,true),(39,true),(38,false),(40,true),(41,true),(42,true),(44,true),(43,false),(45,true),(46,true),(47,true),(48,false),(49,true),(50,true),(51,true),(52,true),(53,false),(54,false),(55,true),(56,true),(57,true),(58,true),(59,true)] [60] follows (by kernel_rfl) rfl (by kernel_rfl) ?_; simp [gz, Heap.plus_set, *]
  refine code_c [120, 32, 61, 32] (by decide) _ M0 _ ?_
  rw [show (parseT [120, 32, 61, 32]).2.1 = _ from congrArg Prod.fst ev2, show (parseT [120, 32, 61, 32]).2.2 = _ from congrArg Prod.snd ev2]
  simp [Heap.set_get, Heap.plus_set, *]
  refine code_c [49, 32, 61, 32, 120] (by decide) _ M0 _ ?_
  rw [show (parseT [49, 32, 61, 32, 120]).2.1 = _ from congrArg Prod.fst ev3, show (parseT [49, 32, 61, 32, 120]).2.2 = _ from congrArg Prod.snd ev3]
  simp [Heap.set_get, Heap.plus_set, *]
  refine code_c [120, 32, 121] (by decide) _ M0 _ ?_
  rw [show (parseT [120, 32, 121]).2.1 = _ from congrArg Prod.fst ev4, show (parseT [120, 32, 121]).2.2 = _ from congrArg Prod.snd ev4]
  simp [Heap.set_get, Heap.plus_set, *]
  refine code_c [120, 10, 121] (by decide) _ M0 _ ?_
  rw [ev5]
  simp [Heap.set_get, Heap.plus_set, *]
  refine Repeat_c [40] 99 (by decide) (by decide) _ _ ?_
  simp [Heap.set_get, Heap.plus_set, *]
  refine code_c (Lib.repeatL [40] 99) (by decide) _ M0 _ ?_
  rw [ev6]
  simp [Heap.set_get, Heap.plus_set, *]
  (focus repeat' first|refine ga ?_|(refine gb ?_;try simp[gz, *])|refine gk fun _ _=>?_|refine gc ?_ ?_|exact gr _|refine gi fun _=>?_|(refine gn ?_ ?_;focus(intros;simp[*];done)))
  exact hsH.out.trans hsG.out
end Go.Proofs.YtcbgpjlcfkkdlaaGreatDoor

namespace Go.Proofs.YtcbgpjlcfkkdlaaGreatDoor
open Go Go.AL Go.Proofs
theorem tailB_snoc : ∀ (l : List (List UInt8)) (j : Nat) (o : List UInt8), tailB j (l ++ [o]) = tailB j l ++ 32 :: (o ++ 32 :: nm (j + l.length + 1))
 | [], j, o => by simp [tailB]
 | p :: l, j, o => by
  rw [List.cons_append]
  simp only [tailB]
  rw [tailB_snoc l (j + 1) o, List.length_cons, show j + 1 + l.length + 1 = j + (l.length + 1) + 1 from by omega]
  simp
theorem srcB_len {ops : List (List UInt8)} (h : ∀ o ∈ ops, o ∈ allOps) : (srcB ops).length ≤ 1 + 20 * ops.length := by
 have hs : ∀ o ∈ allOps, o.length ≤ 10 := by decide +kernel
 have : ∀ (ops : List (List UInt8)) (j : Nat), (∀ o ∈ ops, o ∈ allOps) → (tailB j ops).length ≤ 20 * ops.length := by
  intro ops
  induction ops with
  | nil => intro j _; simp [tailB]
  | cons o os ih =>
   intro j h
   have h1 := ih (j + 1) (fun o ho => h o (List.mem_cons_of_mem _ ho))
   have h2 := hs o (h o List.mem_cons_self)
   have h3 : (nm (j + 1)).length = 1 := rfl
   simp only [tailB, List.length_cons, List.length_append]
   omega
 have h1 := this ops 0 h
 have h2 : (nm 0).length = 1 := rfl
 unfold srcB
 rw [List.length_append]
 omega
theorem byte_is (i : Nat) : [[AV.int .u8 (IntKind.u8.wrap (IntKind.i64.wrap (97 + ((i : Int) + 1).tmod 26)))]] = (nm (i + 1)).map fun c => [AV.int .u8 c.toNat] := by
 have h : ∀ k : Nat, k < 26 → IntKind.u8.wrap (IntKind.i64.wrap (97 + (k : Int))) = ((UInt8.ofNat (97 + k)).toNat : Int) := by decide +kernel
 rw [Int.tmod_eq_emod_of_nonneg (by omega), show ((i : Int) + 1) % 26 = (((i + 1) % 26 : Nat) : Int) from by omega, h _ (Nat.mod_lt _ (by decide))]
 rfl
theorem op_len : ∀ o ∈ allOps, o.length ≤ 10 := by decide +kernel
theorem ws_len {i : Nat} {ops : List (List UInt8)} {s : List UInt8} (h : Ws i ops s) (ho : ∀ o ∈ ops, o ∈ allOps) : s.length ≤ 1 + 15 * ops.length := by
 induction h with
 | one => exact Nat.le_of_eq rfl
 | two _ _ _ _ i1 i2 =>
  have a := i1 (fun o h => ho o (List.mem_append_left _ h))
  have b := i2 (fun o h => ho o (List.mem_append_right _ (List.mem_cons_of_mem _ h)))
  have c := op_len _ (ho _ (List.mem_append_right _ List.mem_cons_self))
  simp only [List.length_append, List.length_cons, List.length_nil]
  omega
theorem mem_ops {ops : List (List UInt8)} {i : Nat} (h : ∀ j, j < i → 0 ≤ levelW (ops.getD j [])) : ∀ o ∈ ops.take i, o ∈ allOps := fun o ho => by
 obtain ⟨j, hj⟩ := List.mem_iff_getElem?.1 ho
 have h1 := (List.getElem?_eq_some_iff.1 hj).1
 rw [List.length_take] at h1
 rw [List.getElem?_take_of_lt (by omega)] at hj
 have := h j (by omega)
 rw [List.getD_eq_getElem?_getD, hj] at this
 exact op_mem this
theorem ParseBinds_c (ops : List (List UInt8)) (hl0 : ops.length ≤ 9223372036854775807) (h : Heap) (h0 : h 0 = some .gint) (R : AV → Heap → Prop) (hR : R (.bool true) h) : ACalls Tryz.prog 4 [.list 1 (strs ops) .no] h R := by
 refine ACalls.pure ?_ hR
 clear hR
 by_cases hlen : (40 : Int) < ops.length
 ·refine acalls_of Tryz.func4 rfl Tryz.ntmps4 (congrArg Array.toList Tryz.results4) fun Q hQ => ?_
  (focus repeat' first|refine ga ?_|(refine gb ?_;try simp[gz, *])|refine gk fun _ _=>?_|refine gc ?_ ?_|exact gr _|refine gi fun _=>?_|(refine gn ?_ ?_;focus(intros;simp[*];done)))
  refine reads_c _ h0 _ ?_
  simp [gz, *]
  (focus repeat' first|refine ga ?_|(refine gb ?_;try simp[gz, *])|refine gk fun _ _=>?_|refine gc ?_ ?_|exact gr _|refine gi fun _=>?_|(refine gn ?_ ?_;focus(intros;simp[*];done)))
 ·have hm : ops.length ≤ 40 := by omega
  refine acalls_of Tryz.func4 rfl Tryz.ntmps4 (congrArg Array.toList Tryz.results4) fun Q hQ => ?_
  (focus repeat' first|refine ga ?_|(refine gb ?_;try simp[gz, *])|refine gk fun _ _=>?_|refine gc ?_ ?_|exact gr _|refine gi fun _=>?_|(refine gn ?_ ?_;focus(intros;simp[*];done)))
  refine reads_c _ h0 _ ?_
  simp [gz, *]
  (focus repeat' first|refine ga ?_|(refine gb ?_;try simp[gz, *])|refine gk fun _ _=>?_|refine gc ?_ ?_|exact gr _|refine gi fun _=>?_|(refine gn ?_ ?_;focus(intros;simp[*];done)))
  refine awp_loop_h [2,3,4,5,6,18,19,20,21,22,23,24,25,26,27,28,29,30,31,32,33,34,35,36,37,38,39,40,41,42,43,44,45,46,47] (fun m x g => ∃ (i : Nat) (tk : Tok), i ≤ ops.length ∧ m = ops.length - i ∧ x 18 = .int .i64 i ∧ x 3 = .list 1 (strs (nms 0 (i + 1))) tk ∧ x 4 = .str (srcB (ops.take i)) ∧ TokIn g tk ∧ (∀ b k e, tk = .own b k e → h b = none) ∧ tk ≠ .no ∧ AL.Sub h g ∧ ∀ j, j < i → 0 ≤ levelW (ops.getD j [])) ops.length ⟨0, .full, by omega, by omega, rfl, rfl, rfl, trivial, (fun _ _ _ e => by cases e), by simp, Sub.refl h, fun j hj => by omega⟩ (fun m x g hI K hK => ?_)
  obtain ⟨i, tk, hi, rfl, hx, hy, hz, htk, htf, hno, hsub, hlv⟩ := hI
  replace hsub := Shut.mk hsub
  replace htf := Shut.mk htf
  replace hlv := Shut.mk hlv
  have w1 : IntKind.i64.wrap ((i : Int) + 1) = ((i + 1 : Nat) : Int) := by rw [w64 (by omega) (by omega)]; omega
  by_cases hlt : i < ops.length
  ·have hii : (i : Int) < ops.length := by omega
   have hi0 : ¬ (i : Int) < 0 := by omega
   obtain ⟨o, ho⟩ : ∃ o, ops[i]? = some o := ⟨_, List.getElem?_eq_getElem hlt⟩
   obtain ⟨hoq, ho2⟩ := List.getElem?_eq_some_iff.1 ho
   have hod : ops.getD i [] = o := by rw [List.getD_eq_getElem?_getD, ho]; rfl
   by_cases hneg : levelW o < 0
   ·have hnd : decide (levelL o < 0) = true := by rw [level_eq]; exact decide_eq_true hneg
    clear hneg
    refine awp_eqs (s' := [_,_,x 2,x 3,x 4,x 5,x 6,_,_,_,_,_,_,_,_,_,_,_,x 18,x 19,x 20,x 21,x 22,x 23,x 24,x 25,x 26,x 27,x 28,x 29,x 30,x 31,x 32,x 33,x 34,x 35,x 36,x 37,x 38,x 39,x 40,x 41,x 42,x 43,x 44,x 45,x 46,x 47,_,_,_,_,_,_,_,_,_,_,_,_,_,_,_,_,_,_,_,_,_,_,_,_,_,_,_,_,_,_,_,_,_,_,_,_]) rfl ?_
    (focus repeat' first|refine ga ?_|(refine gb ?_;try simp[gz, *])|refine gk fun _ _=>?_|refine gc ?_ ?_|exact gr _|refine gi fun _=>?_|(refine gn ?_ ?_;focus(intros;simp[*];done)))
    refine RLevel_c o _ _ ?_
    simp [gz, *]
    (focus repeat' first|refine ga ?_|(refine gb ?_;try simp[gz, *])|refine gk fun _ _=>?_|refine gc ?_ ?_|exact gr _|refine gi fun _=>?_|(refine gn ?_ ?_;focus(intros;simp[*];done)))
    exact hsub.out
   ·have hnd : decide (levelL o < 0) = false := by rw [level_eq]; exact decide_eq_false hneg
    refine awp_eqs (s' := [_,_,x 2,x 3,x 4,x 5,x 6,_,_,_,_,_,_,_,_,_,_,_,x 18,x 19,x 20,x 21,x 22,x 23,x 24,x 25,x 26,x 27,x 28,x 29,x 30,x 31,x 32,x 33,x 34,x 35,x 36,x 37,x 38,x 39,x 40,x 41,x 42,x 43,x 44,x 45,x 46,x 47,_,_,_,_,_,_,_,_,_,_,_,_,_,_,_,_,_,_,_,_,_,_,_,_,_,_,_,_,_,_,_,_,_,_,_,_]) rfl ?_
    (focus repeat' first|refine ga ?_|(refine gb ?_;try simp[gz, *])|refine gk fun _ _=>?_|refine gc ?_ ?_|exact gr _|refine gi fun _=>?_|(refine gn ?_ ?_;focus(intros;simp[*];done)))
    refine RLevel_c o _ _ ?_
    simp [gz, *]
    (focus repeat' first|refine ga ?_|(refine awp_ret ?_; try simp[gz, *])|(refine awp_skip ?_; try simp[gz, *])|(refine awp_exit ?_; try simp[gz, *])|(refine KeepQ.go (by assumption) ?_; try simp[gz, *])|(refine awp_cond' ?_; try simp[gz, *])|refine gk fun _ _=>?_|refine gc ?_ ?_|exact gr _|refine gi fun _=>?_|(refine gn ?_ ?_;focus(intros;simp[*];done)))
    refine awp_region_op (pre := [_, _, _, _, _, _, _]) rfl rfl (aop_b2s rfl rfl rfl rfl (nm (i + 1)) .full) ?_
    simp [gz, *]
    refine ⟨byte_is i, by rw [nms_len]; omega, by rw [nms_len]; omega, .inl ⟨htk, fun b k e hb => ?_⟩⟩
    have hbh : h b = none := by
     rcases hb with q | ⟨k', e', q⟩
     ·cases e1 : h b with
      | none => rfl
      | some y => rw [hsub.out _ _ e1] at q; cases q
     ·exact htf.out _ _ _ q
    have hGs : AL.Sub h ((tk.rid g).set b (.spare k e)) := fun c x hc => by
     rw [grown_plain (fun q => by rw [q, hbh] at hc; cases hc) (fun k' e' q => by rw [htf.out _ _ _ q] at hc; cases hc)]
     exact hsub.out _ _ hc
    have hGb : ((tk.rid g).set b (.spare k e)) b = some (.spare k e) := Heap.set_same _ _ _
    generalize (tk.rid g).set b (.spare k e) = G at hGs hGb ⊢
    clear hb htk hsub
    replace hGs := Shut.mk hGs
    have hnl := nms_len (i + 1) 0
    have hT : srcB (ops.take (i + 1)) = srcB (ops.take i) ++ 32 :: (o ++ 32 :: nm (i + 1)) := by
     rw [List.take_add_one, ho]
     unfold srcB
     rw [Option.toList_some, tailB_snoc, List.length_take, Nat.min_eq_left hi, Nat.zero_add, List.append_assoc]
    have hsl : (srcB (ops.take i)).length ≤ 1000 := by
     have := srcB_len (mem_ops hlv.out)
     rw [List.length_take, Nat.min_eq_left hi] at this
     omega
    have hge : 0 ≤ levelW o := by omega
    have hol : o.length ≤ 10 := op_len o (op_mem hge)
    have hN : (nm (i + 1)).length = 1 := rfl
    replace hT := Shut.mk hT
    simp [gz, *]
    (focus repeat' first|refine ga ?_|(refine gb ?_;try simp[gz, *])|refine gk fun _ _=>?_|refine gc ?_ ?_|exact gr _|refine gi fun _=>?_|(refine gn ?_ ?_;focus(intros;simp[*];done)))
    exact ⟨by kernel_rfl, rfl, ops.length - (i + 1), G, by omega, Sub.refl _, i + 1, .own b k e, by omega, rfl, by first | rfl | simp, (by rw [nms_snoc (i + 1) 0]; simp), (by rw [hT.out]; rfl), hGb, (fun b' k' e' q => by injection q with q; subst q; exact hbh), by simp, hGs.out, fun j hj => (by
     rcases Nat.lt_or_ge j i with q | q
     ·exact hlv.out j q
     ·rw [show j = i from by omega, hod]; exact hge)⟩
  ·have him : i = ops.length := by omega
   subst him
   rw [List.take_length] at hz
   have hmem := mem_ops hlv.out
   rw [List.take_length] at hmem
   obtain ⟨pre, p, q, r, s, hpz, hws, hsh, hpl⟩ := binds_src hlv.out hm
   have hsl := ws_len hws hmem
   have hpc := Parse_c (srcB ops) (by have := srcB_len hmem; omega)
   rw [parseAV_eq, hpz] at hpc
   simp only [rowsT, tokT, if_true] at hpc
   obtain ⟨N, hN⟩ : ∃ N, pre ++ [(⟨28, p, [], 0, [((r : Nat) : Int)]⟩ : Nd), ⟨26, q, [], 0, [((pre.length : Nat) : Int)]⟩] = N := ⟨_, rfl⟩
   have hNl : N.length = pre.length + 2 := by rw [← hN]; simp
   have gS : N[pre.length]? = some ⟨28, p, [], 0, [((r : Nat) : Int)]⟩ := by rw [← hN]; simp
   have gB : N[pre.length + 1]? = some ⟨26, q, [], 0, [((pre.length : Nat) : Int)]⟩ := by rw [← hN]; simp
   rw [hN] at hpc hsh
   clear hN hpz hlv hmem
   replace hws := Shut.mk hws
   replace hpc := Shut.mk hpc
   replace hsh := Shut.mk hsh
   obtain ⟨qS, gS2⟩ := List.getElem?_eq_some_iff.1 gS
   obtain ⟨qB, gB2⟩ := List.getElem?_eq_some_iff.1 gB
   refine awp_eqs (s' := [_,_,x 2,x 3,x 4,x 5,x 6,_,_,_,_,_,_,_,_,_,_,_,x 18,x 19,x 20,x 21,x 22,x 23,x 24,x 25,x 26,x 27,x 28,x 29,x 30,x 31,x 32,x 33,x 34,x 35,x 36,x 37,x 38,x 39,x 40,x 41,x 42,x 43,x 44,x 45,x 46,x 47,_,_,_,_,_,_,_,_,_,_,_,_,_,_,_,_,_,_,_,_,_,_,_,_,_,_,_,_,_,_,_,_,_,_,_,_]) rfl ?_
   (focus repeat' first|refine ga ?_|(refine gb ?_;try simp[gz, *])|refine gk fun _ _=>?_|refine gc ?_ ?_|exact gr _|refine gi fun _=>?_|(refine gn ?_ ?_;focus(intros;simp[*];done)))
   refine hpc.out _ (hsub.out _ _ h0) _ ?_
   simp [gz, *]
   (focus repeat' first|refine ga ?_|(refine gb ?_;try simp[gz, *])|refine gk fun _ _=>?_|refine gc ?_ ?_|exact gr _|refine gi fun _=>?_|(refine gn ?_ ?_;focus(intros;simp[*];done)))
   have hidx : ((pre.length : Int) + 2).toNat - 1 = pre.length + 1 := by omega
   have hidx2 : 1 ≤ (pre.length : Int) + 2 := by omega
   have hg0 := hsub.out _ _ h0
   intro b3 hb3; simp only [Fresh, Heap.set_none] at hb3; try simp [gz, *]
   (focus repeat' first|refine ga ?_|(refine gb ?_;try simp[gz, *])|refine gk fun _ _=>?_|refine gc ?_ ?_|exact gr _|refine gi fun _=>?_|(refine gn ?_ ?_;focus(intros;simp[*];done)))
   intro b4 hb4; simp only [Fresh, Heap.set_none] at hb4; obtain ⟨qb40, qb41, hb4⟩ := hb4; try simp [gz, *]
   (focus repeat' first|refine ga ?_|(refine gb ?_;try simp[gz, *])|refine gk fun _ _=>?_|refine gc ?_ ?_|exact gr _|refine gi fun _=>?_|(refine gn ?_ ?_;focus(intros;simp[*];done)))
   refine awp_heap (fun H => H b3 = some (.cells [.list 5 (N.map row) .no]) ∧ AL.Sub g H) ⟨by simp [Heap.set_get, *], by (repeat (first | exact Sub.refl _ | refine Sub.loc ?_ (by simp [*]) _))⟩ (fun H hH => ?_)
   obtain ⟨H1, hsH⟩ := hH
   clear hb3 hb4 qb40 qb41
   have H0 := hsH _ _ hg0
   replace hsH := Shut.mk (hsub.out.trans hsH)
   clear hg0 hsub h0 htk
   refine awp_region_pair2 [b3] [(0, true), (1, true), (2, true), (3, true), (4, true)] 5 [(6, true), (7, true), (8, true), (9, true), (10, true), (11, true), (12, true), (13, false)] 13 [(5, false), (6, true), (7, true), (8, true), (9, true), (10, true), (11, true), (12, true)] [14] follows (by kernel_rfl) rfl (by kernel_rfl) ?_
   simp [Heap.set_get, Heap.plus_set, *]
   refine ⟨?A, ?B⟩
   case' A =>
    refine Root_c N .no (by omega) _ _ ?_
    simp [Heap.set_get, Heap.plus_set, *]
    intro b5 hb5
    simp only [Fresh] at hb5
    simp [Heap.set_get, Heap.plus_set, *]
    intro n35
    have n53 : ¬ b5 = b3 := fun e => n35 e.symm
    have z5 : H b5 = none := by simpa [n53] using hb5
    clear hb5
    simp [Heap.set_get, Heap.plus_set, *]
   case' B =>
    intro b5 hb5
    simp only [Fresh] at hb5
    simp [Heap.set_get, Heap.plus_set, *]
    intro n35
    have n53 : ¬ b5 = b3 := fun e => n35 e.symm
    have z5 : H b5 = none := by simpa [n53] using hb5
    clear hb5
    simp [Heap.set_get, Heap.plus_set, *]
    refine Root_c N .no (by omega) _ _ ?_
    simp [Heap.set_get, Heap.plus_set, *]
   all_goals
    refine Keep.go (by assumption) ?_
    refine awp_heap (fun g => g b3 = some (.cells [.list 5 (N.map row) .no]) ∧ g b5 = some (.cells [.int .i64 28, .int .i64 p, .str [], .int .i64 0, .list 1 [[.int .i64 r]] .no]) ∧ AL.Sub h g) ⟨by simp [Heap.set_get, *], by simp [Heap.set_get, *], ?_⟩ (fun H' hH' => ?_)
    ·exact hsH.out.trans ((Sub.refl H).loc z5 _)
    obtain ⟨G1, G4, hsG⟩ := hH'
    replace hsG := Shut.mk hsG
    clear hsH n35 n53 z5 H0 H1
    (focus repeat' first|refine ga ?_|(refine gb ?_;try simp[gz, *])|refine gk fun _ _=>?_|refine gc ?_ ?_|exact gr _|refine gi fun _=>?_|(refine gn ?_ ?_;focus(intros;simp[*];done)))
    refine awp_region_draw [b3, b5] [(0,true),(1,true),(2,true),(3,true),(4,true),(5,true),(6,true),(7,true),(8,true),(10,true),(11,true),(9,false),(12,false),(13,true),(14,true)] [15] follows (by kernel_rfl) rfl (by kernel_rfl) ?_; simp [gz, Heap.plus_set, *]
    refine whole_c (by omega) hsh.out (by omega) _ _ ?_
    simp [Heap.set_get, Heap.plus_set, *]
    refine ACalls.weak (ys := [.list 1 (strs (nms 0 (ops.length + 1))) .no, .list 1 (strs ops) .no]) (.cons (Weak.toks rfl) (.cons (Weak.refl _) .nil)) ?_
    refine Whole_c hws.out (by omega) (by omega) _ _ ?_
    simp [Heap.set_get, Heap.plus_set, *]
    (focus repeat' first|refine ga ?_|(refine gb ?_;try simp[gz, *])|refine gk fun _ _=>?_|refine gc ?_ ?_|exact gr _|refine gi fun _=>?_|(refine gn ?_ ?_;focus(intros;simp[*];done)))
    exact hsG.out
end Go.Proofs.YtcbgpjlcfkkdlaaGreatDoor

namespace Go.Proofs.YtcbgpjlcfkkdlaaGreatDoor
open Go Go.AL Go.Proofs
theorem cells9 : Tryz.prog.cellsOf 9 = 1 := by kernel_rfl
theorem strs_arg {H : Type} {m : Nat} {d : DataW H} (hf : fitD Tryz.prog (m + 2) 38 d) : ∃ l : List (List UInt8), lawArg Tryz.prog (m + 2) 38 d = .list 1 (strs l) .no ∧ True ∧ l.length ≤ maxLen := by
 obtain ⟨l, h1, -, -, h4⟩ := slice_arg (A := List UInt8) (Q := fun _ => True) (g := fun s => [.str s]) Tryz.underlying38 (fun x hx => by
  obtain ⟨s, rfl, -⟩ := fit_string (m := m) Tryz.underlying9 hx
  exact ⟨s, trivial, avL_string Tryz.underlying9⟩) hf
 rw [cells9] at h1
 exact ⟨l, h1, trivial, h4⟩
end Go.Proofs.YtcbgpjlcfkkdlaaGreatDoor

