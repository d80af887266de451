import Derived.Test.YtcbgpjlcfkkdlaaGreatDoorUAU
import Derived.Test.YtcbgpjlcfkkdlaaGreatDoorUAP
import Derived.Test.YtcbgpjlcfkkdlaaGreatDoorUAL
set_option linter.unusedSimpArgs false
set_option linter.unusedVariables false
set_option maxRecDepth 100000
set_option maxHeartbeats 16000000
namespace Go.Proofs.YtcbgpjlcfkkdlaaGreatDoor
open Go Go.AL Go.Proofs
theorem name_c' (T : List Tk) (tt : Tok) (S : St) (t1 t2 : Tok) (r : Nat) (hv : Rd T S) (B h : Heap) (ho : Own B h T tt S r t1 t2) (R : AV → Heap → Prop) (hR : ∀ g, Own B g T tt (nameR T S).2 r t1 t2 → R (.str (nameR T S).1) g) :
  ACalls Tryz.prog 83 [.ptr r 0] h R := by
 have hr := ho.blk
 by_cases hk : (peekL T S).kind = 1
 ·have he : nameR T S = ((peekL T S).text, stepL S) := by unfold nameR; rw [if_pos hk]
  obtain ⟨hf, hv2⟩ := hv.step (by rw [hk]; decide)
  have h1 := hv2.top
  have h2 := hv.len
  have h3 : (stepL S).idx = S.idx + 1 := rfl
  have w1 : IntKind.i64.wrap ((S.idx : Int) + 1) = (S.idx : Int) + 1 := w64 (by omega) (by omega)
  rw [he] at hR
  replace hR := Shut.mk hR
  clear he
  refine acalls_of Tryz.func83 rfl Tryz.ntmps83 (congrArg Array.toList Tryz.results83) fun Q hQ => ?_
  (focus repeat' first|refine ga ?_|(refine gb ?_;try simp[gz, *])|refine gk fun _ _=>?_)
  refine peek_c T tt S t1 t2 r hv _ hr _ ?_
  obtain ⟨t, ht⟩ : ∃ t, peekL T S = t := ⟨_, rfl⟩
  rw [ht] at hk hR ⊢
  clear ht
  clear hf
  simp [gz, *]
  intro b4 hb4; simp only [Fresh, Heap.set_none] at hb4; have n_b4_r := ne_of_fresh hr (b := b4) (by simp [*]); try simp [gz, *]
  have m4 : ¬ b4 = r := fun e => n_b4_r e.symm
  have hx := (ho.new hb4 (.cells (tkRow t))).put (stepL S)
  have hb4' := ho.isNone hb4
  (focus repeat' first|refine ga ?_|(refine gb ?_;try simp[gz, *])|refine gk fun _ _=>?_)
  all_goals first
   | exact hR.out _ (hx.drop hb4')
 ·have he : nameR T S = ([], wrongL T 5 S) := by unfold nameR; rw [if_neg hk]
  rw [he] at hR
  replace hR := Shut.mk hR
  clear he
  refine acalls_of Tryz.func83 rfl Tryz.ntmps83 (congrArg Array.toList Tryz.results83) fun Q hQ => ?_
  (focus repeat' first|refine ga ?_|(refine gb ?_;try simp[gz, *])|refine gk fun _ _=>?_)
  refine peek_c T tt S t1 t2 r hv _ hr _ ?_
  obtain ⟨t, ht⟩ : ∃ t, peekL T S = t := ⟨_, rfl⟩
  rw [ht] at hk ⊢
  clear ht
  simp [gz, *]
  intro b4 hb4; simp only [Fresh, Heap.set_none] at hb4; have n_b4_r := ne_of_fresh hr (b := b4) (by simp [*]); try simp [gz, *]
  have hx := ho.new hb4 (.cells (tkRow t))
  have hb4' := ho.isNone hb4
  (focus repeat' first|refine ga ?_|(refine gb ?_;try simp[gz, *])|refine gk fun _ _=>?_)
  refine wrong_c 5 T tt S t1 t2 r hv _ _ hx _ (fun g2 ho3 => ?_)
  have hx3 := ho3.drop hb4'
  have g4 : g2 b4 = some (.cells (tkRow t)) := ho3.sub _ _ (Heap.set_same _ _ _)
  simp [gz, *]
  (focus repeat' first|refine ga ?_|(refine gb ?_;try simp[gz, *])|refine gk fun _ _=>?_)
  all_goals first
   | exact hR.out _ hx3
theorem ends_c (T : List Tk) (tt : Tok) (S : St) (t1 t2 : Tok) (r : Nat) (hv : Rd T S) (h : Heap) (hr : h r = some (.cells (rdRow T tt S t1 t2))) (R : AV → Heap → Prop) (hR : R (.bool (endsL T S)) h) :
  ACalls Tryz.prog 81 [.ptr r 0] h R := by
 refine ACalls.pure ?_ hR
 clear hR
 obtain ⟨t, ht⟩ : ∃ t, peekL T S = t := ⟨_, rfl⟩
 have he : endsL T S = (t.line || decide (t.kind = 6) || isL T [59] S || isL T [125] S || isL T [101, 108, 115, 101] S || isL T [99, 97, 116, 99, 104] S) := by unfold endsL; rw [ht]
 refine acalls_of Tryz.func81 rfl Tryz.ntmps81 (congrArg Array.toList Tryz.results81) fun Q hQ => ?_
 (focus repeat' first|refine ga ?_|(refine gb ?_;try simp[gz, *])|refine gk fun _ _=>?_)
 refine peek_c T tt S t1 t2 r hv _ hr _ ?_
 rw [ht]
 clear ht
 cases hl : t.line
 ·by_cases k6 : t.kind = 6
  ·simp [gz, *]
   intro b3 hb3; simp only [Fresh, Heap.set_none] at hb3; have n_b3_r := ne_of_fresh hr (b := b3) (by simp [*]); try simp [gz, *]
   (focus repeat' first|refine ga ?_|(refine gb ?_;try simp[gz, *])|refine gk fun _ _=>?_)
   all_goals first
    | ((repeat (first | exact Sub.refl _ | refine Sub.loc ?_ (by simp [*]) _)); done)
    | exact ⟨by simp [*], by (repeat (first | exact Sub.refl _ | refine Sub.loc ?_ (by simp [*]) _))⟩
  ·simp [gz, *]
   intro b3 hb3; simp only [Fresh, Heap.set_none] at hb3; have n_b3_r := ne_of_fresh hr (b := b3) (by simp [*]); try simp [gz, *]
   (focus repeat' first|refine ga ?_|(refine gb ?_;try simp[gz, *])|refine gk fun _ _=>?_)
   refine is_c [59] T tt S t1 t2 r hv _ (by simp [Heap.set_get, *]) _ ?_
   cases i1 : isL T [59] S
   ·simp [gz, *]
    (focus repeat' first|refine ga ?_|(refine gb ?_;try simp[gz, *])|refine gk fun _ _=>?_)
    refine is_c [125] T tt S t1 t2 r hv _ (by simp [Heap.set_get, *]) _ ?_
    cases i2 : isL T [125] S
    ·simp [gz, *]
     (focus repeat' first|refine ga ?_|(refine gb ?_;try simp[gz, *])|refine gk fun _ _=>?_)
     refine is_c [101, 108, 115, 101] T tt S t1 t2 r hv _ (by simp [Heap.set_get, *]) _ ?_
     cases i3 : isL T [101, 108, 115, 101] S
     ·simp [gz, *]
      (focus repeat' first|refine ga ?_|(refine gb ?_;try simp[gz, *])|refine gk fun _ _=>?_)
      refine is_c [99, 97, 116, 99, 104] T tt S t1 t2 r hv _ (by simp [Heap.set_get, *]) _ ?_
      simp [gz, *]
      (focus repeat' first|refine ga ?_|(refine gb ?_;try simp[gz, *])|refine gk fun _ _=>?_)
      all_goals first
       | ((repeat (first | exact Sub.refl _ | refine Sub.loc ?_ (by simp [*]) _)); done)
       | exact ⟨by simp [*], by (repeat (first | exact Sub.refl _ | refine Sub.loc ?_ (by simp [*]) _))⟩
     ·simp [gz, *]
      (focus repeat' first|refine ga ?_|(refine gb ?_;try simp[gz, *])|refine gk fun _ _=>?_)
      all_goals first
       | ((repeat (first | exact Sub.refl _ | refine Sub.loc ?_ (by simp [*]) _)); done)
       | exact ⟨by simp [*], by (repeat (first | exact Sub.refl _ | refine Sub.loc ?_ (by simp [*]) _))⟩
    ·simp [gz, *]
     (focus repeat' first|refine ga ?_|(refine gb ?_;try simp[gz, *])|refine gk fun _ _=>?_)
     all_goals first
      | ((repeat (first | exact Sub.refl _ | refine Sub.loc ?_ (by simp [*]) _)); done)
      | exact ⟨by simp [*], by (repeat (first | exact Sub.refl _ | refine Sub.loc ?_ (by simp [*]) _))⟩
   ·simp [gz, *]
    (focus repeat' first|refine ga ?_|(refine gb ?_;try simp[gz, *])|refine gk fun _ _=>?_)
    all_goals first
     | ((repeat (first | exact Sub.refl _ | refine Sub.loc ?_ (by simp [*]) _)); done)
     | exact ⟨by simp [*], by (repeat (first | exact Sub.refl _ | refine Sub.loc ?_ (by simp [*]) _))⟩
 ·simp [gz, *]
  intro b3 hb3; simp only [Fresh, Heap.set_none] at hb3; have n_b3_r := ne_of_fresh hr (b := b3) (by simp [*]); try simp [gz, *]
  (focus repeat' first|refine ga ?_|(refine gb ?_;try simp[gz, *])|refine gk fun _ _=>?_)
  all_goals first
   | ((repeat (first | exact Sub.refl _ | refine Sub.loc ?_ (by simp [*]) _)); done)
   | exact ⟨by simp [*], by (repeat (first | exact Sub.refl _ | refine Sub.loc ?_ (by simp [*]) _))⟩
theorem end_c (T : List Tk) (tt : Tok) (S : St) (t1 t2 : Tok) (r : Nat) (hv : Rd T S) (B h : Heap) (ho : Own B h T tt S r t1 t2) (R : AV → Heap → Prop) (hR : ∀ g, Own B g T tt (endL T S) r t1 t2 → R (.tup []) g) :
  ACalls Tryz.prog 50 [.ptr r 0] h R := by
 refine acalls_of Tryz.func50 rfl Tryz.ntmps50 (congrArg Array.toList Tryz.results50) fun Q hQ => ?_
 (focus repeat' first|refine ga ?_|(refine gb ?_;try simp[gz, *])|refine gk fun _ _=>?_)
 refine eat_c [59] T tt S t1 t2 r hv B _ ho _ (fun g ho2 => ?_)
 cases hi : isL T [59] S
 ·have he : eatL T [59] S = (false, S) := by unfold eatL; rw [hi]; rfl
  rw [he] at ho2 ⊢
  simp only at ho2
  simp [gz, *]
  (focus repeat' first|refine ga ?_|(refine gb ?_;try simp[gz, *])|refine gk fun _ _=>?_)
  refine ends_c T tt S t1 t2 r hv _ ho2.blk _ ?_
  cases hen : endsL T S
  ·have hm : endL T S = wrongL T 5 S := by unfold endL; rw [hi, hen]; rfl
   rw [hm] at hR
   replace hR := Shut.mk hR
   simp [gz, *]
   (focus repeat' first|refine ga ?_|(refine gb ?_;try simp[gz, *])|refine gk fun _ _=>?_)
   refine wrong_c 5 T tt S t1 t2 r hv B _ ho2 _ (fun g2 ho3 => ?_)
   simp [gz, *]
   (focus repeat' first|refine ga ?_|(refine gb ?_;try simp[gz, *])|refine gk fun _ _=>?_)
   all_goals first
    | exact hR.out _ ho3
  ·have hm : endL T S = S := by unfold endL; rw [hi, hen]; rfl
   rw [hm] at hR
   replace hR := Shut.mk hR
   simp [gz, *]
   (focus repeat' first|refine ga ?_|(refine gb ?_;try simp[gz, *])|refine gk fun _ _=>?_)
   all_goals first
    | exact hR.out _ ho2
 ·have he : eatL T [59] S = (true, stepL S) := by unfold eatL; rw [hi]; rfl
  have hm : endL T S = stepL S := by unfold endL; rw [hi]; rfl
  rw [he] at ho2 ⊢
  rw [hm] at hR
  replace hR := Shut.mk hR
  simp [gz, *]
  (focus repeat' first|refine ga ?_|(refine gb ?_;try simp[gz, *])|refine gk fun _ _=>?_)
  all_goals first
   | exact hR.out _ ho2
end Go.Proofs.YtcbgpjlcfkkdlaaGreatDoor

namespace Go.Proofs.YtcbgpjlcfkkdlaaGreatDoor
open Go Go.AL Go.Proofs
def nodeOf (S : St) (i : Int) : AV := if 0 ≤ i ∧ i < S.nodes.length then .tup [.agg (row ((S.nodes[i.toNat]?).getD ⟨0, 0, [], 0, []⟩)), .int .i64 0] else .tup [.agg [.int .i64 0, .int .i64 0, .str [], .int .i64 0, .list 1 [] .nil], .int .i64 1]
theorem bnode_c (T : List Tk) (tt : Tok) (S : St) (t1 t2 : Tok) (r : Nat) (i : Int) (hv : Rd T S) (h : Heap) (hr : h r = some (.cells (rdRow T tt S t1 t2))) (R : AV → Heap → Prop) (hR : R (nodeOf S i) h) :
  ACalls Tryz.prog 125 [.ptr r 3, .int .i64 i] h R := by
 refine ACalls.pure ?_ hR
 clear hR
 have hl := hv.nl
 by_cases h1 : 0 ≤ i ∧ i < S.nodes.length
 ·have he : nodeOf S i = .tup [.agg (row ((S.nodes[i.toNat]?).getD ⟨0, 0, [], 0, []⟩)), .int .i64 0] := by unfold nodeOf; rw [if_pos h1]
  rw [he]
  obtain ⟨m, rfl⟩ := Int.eq_ofNat_of_zero_le h1.1
  have hm : m < S.nodes.length := by omega
  have hm0 : ¬ ((m : Int) < 0) := by omega
  have hm1 : ¬ ((S.nodes.length : Int) ≤ m) := by omega
  have hg : S.nodes[m]? = some S.nodes[m] := List.getElem?_eq_getElem hm
  obtain ⟨n, hn⟩ : ∃ n, S.nodes[m] = n := ⟨_, rfl⟩
  rw [hn] at hg
  have e2 : (S.nodes[(m : Int).toNat]?).getD ⟨0, 0, [], 0, []⟩ = n := by simp [hg]
  rw [e2]
  clear he h1 e2
  refine acalls_of Tryz.func125 rfl Tryz.ntmps125 (congrArg Array.toList Tryz.results125) fun Q hQ => ?_
  (focus repeat' first|refine ga ?_|(refine gb ?_;try simp[gz, *])|refine gk fun _ _=>?_)
  intro b4 hb4; simp only [Fresh, Heap.set_none] at hb4; have n_b4_r := ne_of_fresh hr (b := b4) (by simp [*]); try simp [gz, *]
  (focus repeat' first|refine ga ?_|(refine gb ?_;try simp[gz, *])|refine gk fun _ _=>?_|refine gc ?_ ?_|exact gr _|refine gi fun _=>?_|(refine gn ?_ ?_;focus(intros;simp[*];done)))
  all_goals first
   | (refine ⟨_, ⟨?_, _, rfl, _, rfl, rfl⟩, ?_, ?_⟩ <;> first | (simp [aresult, Heap.set_get, *]; done) | ((repeat (first | exact Sub.refl _ | refine Sub.loc ?_ (by simp [*]) _)); done))
   | ((repeat (first | exact Sub.refl _ | refine Sub.loc ?_ (by simp [*]) _)); done)
 ·have he : nodeOf S i = .tup [.agg [.int .i64 0, .int .i64 0, .str [], .int .i64 0, .list 1 [] .nil], .int .i64 1] := by unfold nodeOf; rw [if_neg h1]
  rw [he]
  by_cases h2 : i < 0
  ·refine acalls_of Tryz.func125 rfl Tryz.ntmps125 (congrArg Array.toList Tryz.results125) fun Q hQ => ?_
   (focus repeat' first|refine ga ?_|(refine gb ?_;try simp[gz, *])|refine gk fun _ _=>?_)
   intro b4 hb4; simp only [Fresh, Heap.set_none] at hb4; have n_b4_r := ne_of_fresh hr (b := b4) (by simp [*]); try simp [gz, *]
   (focus repeat' first|refine ga ?_|(refine gb ?_;try simp[gz, *])|refine gk fun _ _=>?_|refine gc ?_ ?_|exact gr _|refine gi fun _=>?_|(refine gn ?_ ?_;focus(intros;simp[*];done)))
   all_goals first
    | (refine ⟨_, ⟨?_, _, rfl, _, rfl, rfl⟩, ?_, ?_⟩ <;> first | (simp [aresult, Heap.set_get, *]; done) | ((repeat (first | exact Sub.refl _ | refine Sub.loc ?_ (by simp [*]) _)); done))
    | ((repeat (first | exact Sub.refl _ | refine Sub.loc ?_ (by simp [*]) _)); done)
  ·have h3 : (S.nodes.length : Int) ≤ i := by omega
   refine acalls_of Tryz.func125 rfl Tryz.ntmps125 (congrArg Array.toList Tryz.results125) fun Q hQ => ?_
   (focus repeat' first|refine ga ?_|(refine gb ?_;try simp[gz, *])|refine gk fun _ _=>?_)
   intro b4 hb4; simp only [Fresh, Heap.set_none] at hb4; have n_b4_r := ne_of_fresh hr (b := b4) (by simp [*]); try simp [gz, *]
   (focus repeat' first|refine ga ?_|(refine gb ?_;try simp[gz, *])|refine gk fun _ _=>?_|refine gc ?_ ?_|exact gr _|refine gi fun _=>?_|(refine gn ?_ ?_;focus(intros;simp[*];done)))
   all_goals first
    | (refine ⟨_, ⟨?_, _, rfl, _, rfl, rfl⟩, ?_, ?_⟩ <;> first | (simp [aresult, Heap.set_get, *]; done) | ((repeat (first | exact Sub.refl _ | refine Sub.loc ?_ (by simp [*]) _)); done))
    | ((repeat (first | exact Sub.refl _ | refine Sub.loc ?_ (by simp [*]) _)); done)
theorem kind_c (T : List Tk) (tt : Tok) (S : St) (t1 t2 : Tok) (r : Nat) (i : Int) (hv : Rd T S) (h : Heap) (hr : h r = some (.cells (rdRow T tt S t1 t2))) (R : AV → Heap → Prop) (hR : R (.int .i64 (kindL S i)) h) :
  ACalls Tryz.prog 89 [.ptr r 0, .int .i64 i] h R := by
 refine ACalls.pure ?_ hR
 clear hR
 refine acalls_of Tryz.func89 rfl Tryz.ntmps89 (congrArg Array.toList Tryz.results89) fun Q hQ => ?_
 (focus repeat' first|refine ga ?_|(refine gb ?_;try simp[gz, *])|refine gk fun _ _=>?_)
 refine bnode_c T tt S t1 t2 r i hv _ hr _ ?_
 by_cases h1 : 0 ≤ i ∧ i < S.nodes.length
 ·have he : nodeOf S i = .tup [.agg (row ((S.nodes[i.toNat]?).getD ⟨0, 0, [], 0, []⟩)), .int .i64 0] := by unfold nodeOf; rw [if_pos h1]
  obtain ⟨n, hn⟩ : ∃ n, S.nodes[i.toNat]? = some n := ⟨_, List.getElem?_eq_getElem (by omega)⟩
  have hk : kindL S i = n.kind := by unfold kindL; rw [if_pos h1, hn]; rfl
  rw [he, hn]
  clear he hn h1
  simp [gz, *]
  intro b5 hb5; simp only [Fresh, Heap.set_none] at hb5; have n_b5_r := ne_of_fresh hr (b := b5) (by simp [*]); try simp [gz, *]
  (focus repeat' first|refine ga ?_|(refine gb ?_;try simp[gz, *])|refine gk fun _ _=>?_)
  all_goals first
   | ((repeat (first | exact Sub.refl _ | refine Sub.loc ?_ (by simp [*]) _)); done)
 ·have he : nodeOf S i = .tup [.agg [.int .i64 0, .int .i64 0, .str [], .int .i64 0, .list 1 [] .nil], .int .i64 1] := by unfold nodeOf; rw [if_neg h1]
  have hk : kindL S i = 0 := by unfold kindL; rw [if_neg h1]
  rw [he]
  clear he h1
  simp [gz, *]
  intro b5 hb5; simp only [Fresh, Heap.set_none] at hb5; have n_b5_r := ne_of_fresh hr (b := b5) (by simp [*]); try simp [gz, *]
  (focus repeat' first|refine ga ?_|(refine gb ?_;try simp[gz, *])|refine gk fun _ _=>?_)
  all_goals first
   | ((repeat (first | exact Sub.refl _ | refine Sub.loc ?_ (by simp [*]) _)); done)
end Go.Proofs.YtcbgpjlcfkkdlaaGreatDoor

namespace Go.Proofs.YtcbgpjlcfkkdlaaGreatDoor
open Go Go.AL Go.Proofs
theorem CloneN_c (l : List Nd) (hl : l.length ≤ 1048576) (h : Heap) (R : AV → Heap → Prop)
  (h0 : l = [] → ∀ tok, tok = .nil ∨ tok = .full → R (.list 5 [] tok) h) (h1 : l ≠ [] → ∀ b c, h b = none → l.length ≤ c → R (.arr b 0 l.length c) (h.set b (.cells ((l.map row).flatten ++ List.replicate ((c - l.length) * 5) .any)))) :
  ACalls Tryz.prog 127 [.list 5 (l.map row) .no] h R := by
 cases l with
 | nil =>
  refine acalls_of Tryz.func127 rfl Tryz.ntmps127 (congrArg Array.toList Tryz.results127) fun Q hQ => ?_
  (focus repeat' first|refine ga ?_|(refine gb ?_;try simp[gz, *])|refine gk fun _ _=>?_)
  intro b hb
  cases b
  ·simp [gz, *]
   (focus repeat' first|refine ga ?_|(refine gb ?_;try simp[gz, *])|refine gk fun _ _=>?_)
  ·simp [gz, *]
   (focus repeat' first|refine ga ?_|(refine gb ?_;try simp[gz, *])|refine gk fun _ _=>?_)
 | cons a l =>
  simp only [List.length_cons] at hl
  refine acalls_of Tryz.func127 rfl Tryz.ntmps127 (congrArg Array.toList Tryz.results127) fun Q hQ => ?_
  (focus repeat' first|refine ga ?_|(refine gb ?_;try simp[gz, *])|refine gk fun _ _=>?_)
  intro b hb
  cases b
  ·simp [gz, *]
   (focus repeat' first|refine ga ?_|(refine gb ?_;try simp[gz, *])|refine gk fun _ _=>?_)
   refine .inr ⟨.inr rfl, fun b c hb hc => ?_⟩
   have hb' : h b = none := hb
   have := h1 (by simp) b c hb' (by simpa using hc)
   simp only [List.map_cons, List.length_cons, List.flatten_cons, List.cons_append, List.nil_append] at this
   simp [gz, *]
   (focus repeat' first|refine ga ?_|(refine gb ?_;try simp[gz, *])|refine gk fun _ _=>?_)
   all_goals first
    | exact this
  ·exact absurd (hb rfl) (by simp)
theorem ClipN_c (b n c : Nat) (hc : n ≤ c) (hc2 : n ≤ 9223372036854775807) (h : Heap) (R : AV → Heap → Prop) (hR : R (.arr b 0 n n) h) :
  ACalls Tryz.prog 126 [.arr b 0 n c] h R := by
 refine acalls_of Tryz.func126 rfl Tryz.ntmps126 (congrArg Array.toList Tryz.results126) fun Q hQ => ?_
 (focus repeat' first|refine ga ?_|(refine gb ?_;try simp[gz, *])|refine gk fun _ _=>?_)
 all_goals exact hR
theorem ClipNL_c (tok : Tok) (h : Heap) (R : AV → Heap → Prop) (hR : R (.list 5 [] .full) h) :
  ACalls Tryz.prog 126 [.list 5 [] tok] h R := by
 refine acalls_of Tryz.func126 rfl Tryz.ntmps126 (congrArg Array.toList Tryz.results126) fun Q hQ => ?_
 (focus repeat' first|refine ga ?_|(refine gb ?_;try simp[gz, *])|refine gk fun _ _=>?_)
 all_goals exact hR
theorem ownN_c (l : List Nd) (hl : l.length ≤ 1048576) (h : Heap) (R : AV → Heap → Prop)
  (h0 : l = [] → R (.list 5 [] .full) h) (h1 : l ≠ [] → ∀ b c, h b = none → l.length ≤ c → R (.arr b 0 l.length l.length) (h.set b (.cells ((l.map row).flatten ++ List.replicate ((c - l.length) * 5) .any)))) :
  ACalls Tryz.prog 91 [.list 5 (l.map row) .no] h R := by
 refine acalls_of Tryz.func91 rfl Tryz.ntmps91 (congrArg Array.toList Tryz.results91) fun Q hQ => ?_
 (focus repeat' first|refine ga ?_|(refine gb ?_;try simp[gz, *])|refine gk fun _ _=>?_)
 refine CloneN_c l hl _ _ (fun e tok _ => ?_) (fun e b c hb hc => ?_)
 ·simp [gz, *]
  refine ClipNL_c _ _ _ ?_
  simp [gz, *]
  (focus repeat' first|refine ga ?_|(refine gb ?_;try simp[gz, *])|refine gk fun _ _=>?_)
  all_goals exact h0 e
 ·simp [gz, *]
  refine ClipN_c _ _ _ hc (by omega) _ _ ?_
  simp [gz, *]
  (focus repeat' first|refine ga ?_|(refine gb ?_;try simp[gz, *])|refine gk fun _ _=>?_)
  all_goals exact h1 e b c hb hc
theorem Root_c (l : List Nd) (t : Tok) (hl : l.length ≤ 1048576) (h : Heap) (R : AV → Heap → Prop) (hR : R (.int .i64 (l.length - 1 : Int)) h) :
  ACalls Tryz.prog 13 [treeAV l t] h R := by
 refine ACalls.pure ?_ hR
 have w1 : IntKind.i64.wrap ((l.length : Int) - 1) = l.length - 1 := w64 (by omega) (by omega)
 refine acalls_of Tryz.func13 rfl Tryz.ntmps13 (congrArg Array.toList Tryz.results13) fun Q hQ => ?_
 (focus repeat' first|refine ga ?_|(refine gb ?_;try simp[gz, *])|refine gk fun _ _=>?_)
 intro b1 hb1; simp only [Fresh, Heap.set_none] at hb1; try simp [gz, *]
 (focus repeat' first|refine ga ?_|(refine gb ?_;try simp[gz, *])|refine gk fun _ _=>?_)
 all_goals (repeat (first | exact Sub.refl _ | refine Sub.loc ?_ (by simp [*]) _))
end Go.Proofs.YtcbgpjlcfkkdlaaGreatDoor

namespace Go.Proofs.YtcbgpjlcfkkdlaaGreatDoor
open Go Go.AL Go.Proofs
theorem CloneIF_c (l : List Int) (hl : l.length ≤ 281474976710) (h : Heap) (R : AV → Heap → Prop)
  (h0 : ∀ tok, tok = .nil ∨ tok = .full ∨ (∃ b k e, tok = .own b k e) → ∀ g, AL.Sub h g → R (.list 1 (ints l) tok) g) :
  ACalls Tryz.prog 90 [.list 1 (ints l) .no] h R := by
 cases l with
 | nil =>
  refine acalls_of Tryz.func90 rfl Tryz.ntmps90 (congrArg Array.toList Tryz.results90) fun Q hQ => ?_
  (focus repeat' first|refine ga ?_|(refine gb ?_;try simp[gz, *])|refine gk fun _ _=>?_)
  intro b hb
  cases b
  ·simp [gz, *]
   (focus repeat' first|refine ga ?_|(refine gb ?_;try simp[gz, *])|refine gk fun _ _=>?_)
   all_goals first
    | exact h0 _ (.inr (.inl rfl)) _ (Sub.refl _)
    | trivial
  ·simp [gz, *]
   (focus repeat' first|refine ga ?_|(refine gb ?_;try simp[gz, *])|refine gk fun _ _=>?_)
   all_goals exact h0 _ (.inl rfl) _ (Sub.refl _)
 | cons a l =>
  simp only [List.length_cons] at hl
  refine acalls_of Tryz.func90 rfl Tryz.ntmps90 (congrArg Array.toList Tryz.results90) fun Q hQ => ?_
  (focus repeat' first|refine ga ?_|(refine gb ?_;try simp[gz, *])|refine gk fun _ _=>?_)
  intro b hb
  cases b
  ·simp [gz, *]
   (focus repeat' first|refine ga ?_|(refine gb ?_;try simp[gz, *])|refine gk fun _ _=>?_)
   refine .inl ?_
   intro b k e hb
   have hb' : h b = none := by
    rcases hb with hb | ⟨k, e, hb⟩
    ·exact hb
    ·cases hb
   have := h0 _ (.inr (.inr ⟨b, k, e, rfl⟩)) _ ((Sub.refl h).loc hb' (.spare k e))
   simp only [ints, List.map_cons] at this
   simp [gz, *]
   (focus repeat' first|refine ga ?_|(refine gb ?_;try simp[gz, *])|refine gk fun _ _=>?_)
   all_goals first
    | exact this
  ·exact absurd (hb rfl) (by simp)
theorem ClipIF_c (l : List Int) (tok : Tok) (hl : l.length ≤ 281474976710) (h : Heap) (R : AV → Heap → Prop) (hR : R (.list 1 (ints l) .full) h) :
  ACalls Tryz.prog 128 [.list 1 (ints l) tok] h R := by
 have htk : List.take l.length (ints l) = ints l := List.take_of_length_le (by simp)
 refine acalls_of Tryz.func128 rfl Tryz.ntmps128 (congrArg Array.toList Tryz.results128) fun Q hQ => ?_
 (focus repeat' first|refine ga ?_|(refine gb ?_;try simp[gz, *])|refine gk fun _ _=>?_)
 all_goals first
  | exact hR
theorem ownIF_c (l : List Int) (hl : l.length ≤ 281474976710) (h : Heap) (R : AV → Heap → Prop)
  (h0 : R (.list 1 (ints l) .full) h) :
  ACalls Tryz.prog 92 [.list 1 (ints l) .no] h R := by
 refine ACalls.pure ?_ h0
 refine acalls_of Tryz.func92 rfl Tryz.ntmps92 (congrArg Array.toList Tryz.results92) fun Q hQ => ?_
 (focus repeat' first|refine ga ?_|(refine gb ?_;try simp[gz, *])|refine gk fun _ _=>?_)
 refine CloneIF_c l hl _ _ (fun tok _ g hg => ?_)
 simp [gz, *]
 refine ClipIF_c _ _ hl _ _ ?_
 simp [gz, *]
 (focus repeat' first|refine ga ?_|(refine gb ?_;try simp[gz, *])|refine gk fun _ _=>?_)
abbrev rowF (n : Nd) : List AV := ndRow n .full
theorem chunk_rows {A : Type} (f : A → List AV) (k : Nat) (hf : ∀ a, (f a).length = k) : ∀ (l : List A) (cs : List AV), cs.length = l.length * k → (∀ j (hj : j < l.length) q, q < k → cs.getD (j * k + q) .any = (f l[j]).getD q .any) → chunk l.length k cs = l.map f
 | [], _, _, _ => rfl
 | a :: l, cs, hl, hg => by
  rw [List.length_cons, Nat.add_mul, Nat.one_mul] at hl
  simp only [chunk, List.length_cons, List.map_cons]
  congr 1
  ·apply List.ext_getElem?
   intro q
   by_cases hq : q < k
   ·have h1 := hg 0 (by simp) q hq
    simp only [Nat.zero_mul, Nat.zero_add, List.getElem_cons_zero, List.getD] at h1
    rw [List.getElem?_take_of_lt hq]
    have h2 : q < cs.length := by omega
    have h3 : q < (f a).length := by rw [hf]; exact hq
    rw [List.getElem?_eq_getElem h2, List.getElem?_eq_getElem h3] at h1 ⊢
    simpa using h1
   ·rw [List.getElem?_eq_none (by simp; omega), List.getElem?_eq_none (by rw [hf]; omega)]
  ·refine chunk_rows f k hf l (cs.drop k) (by simp; omega) (fun j hj q hq => ?_)
   have h1 := hg (j + 1) (by simpa using hj) q hq
   simp only [List.getElem_cons_succ] at h1
   rw [← h1]
   simp only [List.getD, List.getElem?_drop]
   congr 2
   rw [Nat.add_mul]; omega
theorem getD_rows_append (l : List Nd) (sp : List AV) (j q : Nat) (hj : j < l.length) (hq : q < 5) : ((l.map row).flatten ++ sp).getD (j * 5 + q) .any = (row l[j]).getD q .any := by
 have h1 : ∀ r ∈ l.map row, r.length = 5 := by simp [ndRow]
 have h2 := getD_flatten (sz := 5) (l.map row) h1 j q (by simpa using hj) hq
 have h3 := length_flatten (sz := 5) (l.map row) h1
 simp only [List.length_map] at h3
 have h4 : j * 5 + q < l.length * 5 := by omega
 simp only [List.getD] at h2 ⊢
 rw [List.getElem?_append_left (by omega), h2]
 simp [hj]
theorem View.agg1 {x y : AV} {h g : Heap} (hv : View x h y g) : View (.agg [x]) h (.agg [y]) g := fun w0 F w v hi hr => by
 obtain ⟨cs, rfl, hc⟩ := hr.agg_inv
 obtain ⟨F', m, i, r⟩ := hv w0 F w _ hi (hc.2 0 (by simp))
 refine ⟨F', m, i, .agg cs [y] (by rw [hc.1]; rfl) fun k hk => ?_⟩
 have : k = 0 := by simpa using hk
 subst this
 exact r
theorem sub_of_eq' {g h : Heap} (e : g = h) : AL.Sub g h := e ▸ Sub.refl _
theorem CloneM_c (nodes : List Nd) (hl : nodes.length ≤ 131072) (hk : ∀ n ∈ nodes, n.kids.length ≤ 281474976710) (h : Heap) (R : AV → Heap → Prop) (hne : nodes ≠ [])
  (hR : ∀ b cs g, h b = none → nodes.length * 5 ≤ cs.length → (∀ j (hj : j < nodes.length) q, q < 5 → cs.getD (j * 5 + q) .any = (rowF nodes[j]).getD q .any) → AL.Sub h g → g b = some (.cells cs) → R (.agg [.arr b 0 nodes.length nodes.length]) g) :
  ACalls Tryz.prog 53 [treeAV nodes .no] h R := by
 refine acalls_of Tryz.func53 rfl Tryz.ntmps53 (congrArg Array.toList Tryz.results53) fun Q hQ => ?_
 (focus repeat' first|refine ga ?_|(refine gb ?_;try simp[gz, *])|refine gk fun _ _=>?_)
 intro b1 hb1; simp only [Fresh, Heap.set_none] at hb1; try simp [gz, *]
 intro b2 hb2; simp only [Fresh, Heap.set_none] at hb2; try simp [gz, *]
 (focus repeat' first|refine ga ?_|(refine gb ?_;try simp[gz, *])|refine gk fun _ _=>?_)
 refine ownN_c nodes (by omega) _ _ (fun e => absurd e hne) (fun _ bn c hbn hc => ?_)
 simp only [Heap.set_none] at hbn
 simp [gz, *]
 (focus repeat' first|refine ga ?_|(refine gb ?_;try simp[gz, *])|refine gk fun _ _=>?_)
 intro b3 hb3; simp only [Fresh, Heap.set_none] at hb3; try simp [gz, *]
 (focus repeat' first|refine ga ?_|(refine gb ?_;try simp[gz, *])|refine gk fun _ _=>?_)
 have hpos : 0 < nodes.length := List.length_pos_iff.2 hne
 refine awp_loop_h [4,12,13,14,15,16,17,18,19,20,21,22,23,24,25,26,27] (fun m x g => ∃ (i : Nat) (cs : List AV), i ≤ nodes.length ∧ m = nodes.length - i ∧ x 12 = .int .i64 i ∧ nodes.length * 5 ≤ cs.length ∧
  (∀ j (hj : j < nodes.length) q, q < 5 → cs.getD (j * 5 + q) .any = (if j < i then rowF nodes[j] else row nodes[j]).getD q .any) ∧ 
  g = ((((h.set b1 (.cells [AV.list 5 (List.map row nodes) .no])).set b2 (.cells [.list 5 [] .nil])).set bn (.cells cs)).set b3 (.cells [.arr bn 0 nodes.length nodes.length]))) nodes.length
  ⟨0, _, by omega, by omega, rfl, ?_, fun j hj q hq => by simpa using getD_rows_append nodes (List.replicate ((c - nodes.length) * 5) .any) j q hj hq, rfl⟩ (fun m x g hI K hK => ?_)
 ·rw [List.length_append, length_flatten (sz := 5) (nodes.map row) (by simp [ndRow])]; simp
 obtain ⟨i, cs, hi, rfl, hx, hcl, hcs, rfl⟩ := hI
 have w1 : IntKind.i64.wrap ((i : Int) + 1) = i + 1 := w64 (by omega) (by omega)
 by_cases hlt : i < nodes.length
 ·have h4 := hcs i hlt 4 (by omega)
  simp only [Nat.lt_irrefl, if_false] at h4
  have h4' : cs[i * 5 + 4]? = some (.list 1 (ints nodes[i].kids) .no) := by
   have h5 : i * 5 + 4 < cs.length := by omega
   rw [List.getElem?_eq_getElem h5]
   simp only [List.getD, List.getElem?_eq_getElem h5, Option.getD_some] at h4
   rw [h4]; rfl
  have h5 : i * 5 + 4 < cs.length := by omega
  have h6 : cs[i * 5 + 4] = .list 1 (ints nodes[i].kids) .no := by
   rw [List.getElem?_eq_getElem h5] at h4'
   exact Option.some.inj h4'
  simp (maxSteps := 10000000) only [AgainAt, hav_nil, hav_end, hav_cons, Nat.reduceAdd, Nat.reduceEqDiff, if_true, if_false]
  (focus repeat' first|refine ga ?_|(refine gb ?_;try simp[gz, *])|refine gk fun _ _=>?_)
  refine awp_region_draw [b3, bn] [(0,true),(1,true),(2,true),(3,true),(4,true),(5,true),(6,true),(7,true),(8,true),(9,false)] [10,11,12] follows (by kernel_rfl) rfl (by kernel_rfl) ?_; simp [gz, Heap.plus_set, *]
  refine ownIF_c nodes[i].kids (hk _ (List.getElem_mem hlt)) _ _ ?_
  simp [Heap.set_get, Heap.plus_set, *]
  (focus repeat' first|refine ga ?_|(refine gb ?_;try simp[gz, *])|refine gk fun _ _=>?_)
  have hsp := splice_getD cs (i * 5 + 4) [.list 1 (ints nodes[i].kids) .full] (by simp; omega)
  have hsl := splice_length cs (i * 5 + 4) [.list 1 (ints nodes[i].kids) .full] (by simp; omega)
  simp only [splice, List.append_assoc, List.cons_append, List.nil_append, List.length_singleton] at hsp hsl
  refine ⟨by simp [hav], rfl, nodes.length - (i + 1), _, by omega, ?_, i + 1, _, by omega, rfl, by simp, by rw [hsl]; exact hcl, fun j hj q hq => ?_, rfl⟩
  ·refine sub_of_eq' ?_
   funext d
   simp only [Heap.set_get]
   by_cases c1 : d = b3
   ·simp [c1, hb3]
   ·by_cases c2 : d = bn
    ·simp [c2, hb3]
    ·simp [c1, c2]
  ·have h7 : j * 5 + q < cs.length := by omega
   rw [hsp (j * 5 + q) h7, hcs j hj q hq]
   by_cases e : j = i
   ·subst e
    by_cases e2 : q = 4
    ·subst e2; simp
    ·have e3 : ¬ (j * 5 + 4 ≤ j * 5 + q ∧ j * 5 + q < j * 5 + 4 + 1) := by omega
     simp only [e3, if_false, Nat.lt_irrefl, Nat.lt_succ_self, if_true]
     have e5 : q = 0 ∨ q = 1 ∨ q = 2 ∨ q = 3 := by omega
     rcases e5 with rfl | rfl | rfl | rfl <;> rfl
   ·have e3 : ¬ (i * 5 + 4 ≤ j * 5 + q ∧ j * 5 + q < i * 5 + 4 + 1) := by omega
    have e4 : (j < i + 1) = (j < i) := propext ⟨fun _ => by omega, fun _ => by omega⟩
    simp only [e3, if_false, e4]
 ·simp (maxSteps := 10000000) only [AgainAt, hav_nil, hav_end, hav_cons, Nat.reduceAdd, Nat.reduceEqDiff, if_true, if_false]
  (focus repeat' first|refine ga ?_|(refine gb ?_;try simp[gz, *])|refine gk fun _ _=>?_)
  refine hR bn cs _ hbn.2.2.2.2 hcl (fun j hj q hq => ?_) (by (repeat (first | exact Sub.refl _ | refine Sub.loc ?_ (by simp [*]) _))) (by simp [Heap.set_get, hb3, hbn])
  have := hcs j hj q hq
  rwa [if_pos (by omega)] at this
theorem ndRow_weak (n : Nd) (tok : Tok) : WeakL (ndRow n tok) (row n) := .cons (.refl _) (.cons (.refl _) (.cons (.refl _) (.cons (.refl _) (.cons (Weak.tok _ _ _) .nil))))
theorem rows_weak (nodes : List Nd) (tok : Tok) (t : Tok) : Weak (.list 5 (nodes.map fun n => ndRow n tok) t) (.list 5 (nodes.map row) t) :=
 Weak.rows (by simp) fun i hi => by
  have hi' : i < nodes.length := by simpa using hi
  simpa [List.getD, hi'] using ndRow_weak nodes[i] tok
theorem Clone_c (nodes : List Nd) (hl : nodes.length ≤ 131072) (hk : ∀ n ∈ nodes, n.kids.length ≤ 281474976710) (h : Heap) (R : AV → Heap → Prop) (hne : nodes ≠ [])
  (hR : R (treeAV nodes .no) h) : ACalls Tryz.prog 53 [treeAV nodes .no] h R := by
 refine ACalls.conv (R' := fun y g => ∃ b cs, h b = none ∧ nodes.length * 5 ≤ cs.length ∧ (∀ j (hj : j < nodes.length) q, q < 5 → cs.getD (j * 5 + q) .any = (rowF nodes[j]).getD q .any) ∧ AL.Sub h g ∧ g b = some (.cells cs) ∧ y = .agg [.arr b 0 nodes.length nodes.length])
  (CloneM_c nodes hl hk h _ hne fun b cs g h1 h2 h3 h4 h5 => ⟨b, cs, h1, h2, h3, h4, h5, rfl⟩) ?_
 rintro x g ⟨b, cs, h1, h2, h3, h4, h5, rfl⟩
 refine ⟨_, h, View.trans (View.agg1 (View.freeze (off := 0) (sz := 5) h5 (by omega) (Nat.le_refl _) (.inr ⟨rfl, rfl⟩))) (View.of ?_ (h4.del h1)), hR⟩
 have hch : chunk nodes.length 5 ((cs.drop 0).take (nodes.length * 5)) = nodes.map rowF := by
  refine chunk_rows rowF 5 (fun _ => rfl) nodes _ (by simp; omega) fun j hj q hq => ?_
  rw [← h3 j hj q hq]
  simp only [List.drop_zero, List.getD]
  rw [List.getElem?_take_of_lt (by omega)]
 rw [hch]
 exact Weak.agg (.cons (fun F v hr => Weak.tok _ _ _ F v (rows_weak nodes .full .full F v hr)) .nil)
end Go.Proofs.YtcbgpjlcfkkdlaaGreatDoor

namespace Go.Proofs.YtcbgpjlcfkkdlaaGreatDoor
open Go Go.AL Go.Proofs
theorem CloneI0_c (l : List Int) (hl : l.length ≤ 281474976710) (h : Heap) (R : AV → Heap → Prop) (hR : R (.list 1 (ints l) .no) h) :
  ACalls Tryz.prog 90 [.list 1 (ints l) .no] h R :=
 ACalls.conv (R' := fun y g => ∃ tok, y = .list 1 (ints l) tok ∧ AL.Sub h g) (CloneIF_c l hl h _ fun tok _ g hg => ⟨tok, rfl, hg⟩) fun x g ⟨tok, e, hs⟩ => ⟨_, h, View.of (e ▸ Weak.tok _ _ _) hs, hR⟩
section
variable {B h : Heap} {T : List Tk} {tt : Tok} {S : St} {r : Nat} {t1 t2 : Tok}
theorem minus_r {h : Heap} {r b : Nat} (hbr : ¬ b = r) : (h.minus [r]) b = h b := by simp [hbr]
theorem grown_at {h : Heap} {r b k e q : Nat} {t : Tok} (hqr : ¬ q = r) (hqb : ¬ q = b) (hqt : ∀ k e, t ≠ .own q k e) : (((t.rid (h.minus [r])).set b (.spare k e)).plus [r] h) q = h q := by
 have h1 : (((t.rid (h.minus [r])).set b (.spare k e)).plus [r] h) q = ((t.rid (h.minus [r])).set b (.spare k e)) q := by simp [hqr]
 rw [h1, Heap.set_other _ _ _ _ hqb]
 cases t with
 | own b' k' e' =>
  have h2 : ¬ q = b' := fun e => hqt k' e' (by rw [e])
  exact (Heap.del_other _ _ _ h2).trans (minus_r hqr)
 | no => exact minus_r hqr
 | nil => exact minus_r hqr
 | full => exact minus_r hqr
theorem grown_b {h : Heap} {r b k e : Nat} {t : Tok} (hbr : ¬ b = r) : (((t.rid (h.minus [r])).set b (.spare k e)).plus [r] h) b = some (.spare k e) := by
 have h1 : (((t.rid (h.minus [r])).set b (.spare k e)).plus [r] h) b = ((t.rid (h.minus [r])).set b (.spare k e)) b := by simp [hbr]
 rw [h1, Heap.set_same]
theorem Own.grow1 (ho : Own B h T tt S r t1 t2) {b k e : Nat} (hb : SpareNew (h.minus [r]) t1 b) (hbr : ¬ b = r) (S' : St) :
  Own B ((((t1.rid (h.minus [r])).set b (.spare k e)).plus [r] h).set r (.cells (rdRow T tt S' (.own b k e) t2))) T tt S' r (.own b k e) t2 := by
 have hBb : B b = none := by
  rcases hb with hb | ⟨k', e', hb⟩
  ·rw [minus_r hbr] at hb; exact ho.isNone hb
  ·exact ho.fr1 _ _ _ hb
 have hb2 : ∀ k' e', t2 ≠ .own b k' e' := fun k' e' q => by
  rcases hb with hb | ⟨k2, e2, hb⟩
  ·rw [minus_r hbr] at hb
   subst q
   have : h b = some (.spare k' e') := ho.tk2
   rw [hb] at this; cases this
  ·exact ho.ap _ _ _ _ _ hb q
 have hrb : ¬ r = b := fun q => hbr q.symm
 refine ⟨fun c x hc => ?_, ho.free, Heap.set_same _ _ _, ?_, ?_, fun q k' e' q1 => by injection q1 with q1; subst q1; exact hBb, ho.fr2, fun q k1 e1 k3 e3 q1 q2 => by injection q1 with q1; subst q1; exact hb2 _ _ q2⟩
 ·have c1 : ¬ c = r := fun q => by rw [q, ho.free] at hc; cases hc
  have c2 : ¬ c = b := fun q => by rw [q, hBb] at hc; cases hc
  rw [Heap.set_other _ _ _ _ c1, grown_at c1 c2 (fun k' e' q => by rw [ho.fr1 _ _ _ q] at hc; cases hc)]
  exact ho.sub _ _ hc
 ·show _ = _
  rw [Heap.set_other _ _ _ _ hbr, grown_b hbr]
 ·cases ht : t2 with
  | own q k' e' =>
   have q1 : ¬ q = r := ho.ne.2 _ _ _ ht
   have q2 : ¬ q = b := fun e2 => hb2 k' e' (by rw [ht, e2])
   show _ = _
   rw [Heap.set_other _ _ _ _ q1, grown_at q1 q2 (fun k2 e2 e3 => ho.ap _ _ _ _ _ e3 ht)]
   have := ho.tk2
   rw [ht] at this
   exact this
  | no => have := ho.tk2; rw [ht] at this; exact this.elim
  | nil => trivial
  | full => trivial
end
theorem badd_c (T : List Tk) (tt : Tok) (S : St) (t1 t2 : Tok) (r : Nat) (n : Nd) (hl : S.nodes.length < 131072) (hk : n.kids.length ≤ 281474976710) (B h : Heap) (ho : Own B h T tt S r t1 t2) (R : AV → Heap → Prop)
  (hR : ∀ g t1', Own B g T tt { S with nodes := S.nodes ++ [n] } r t1' t2 → R (.tup [.int .i64 S.nodes.length, .int .i64 0]) g) :
  ACalls Tryz.prog 51 [.ptr r 3, .int .i64 n.kind, .int .i64 n.pos, .str n.text, .int .i64 n.num, .list 1 (ints n.kids) .no] h R := by
 have hr := ho.blk
 have ht1 := ho.tk1
 have hne : ¬ (S.nodes.length : Int) = 131072 := by omega
 have hne' : ¬ S.nodes.length = 131072 := by omega
 have w1 : IntKind.i64.wrap ((S.nodes.length : Int) + 1 - 1) = S.nodes.length := by rw [w64 (by omega) (by omega)]; omega
 have htp : ∀ k e, t1 ≠ .own r k e := fun k e q => by
  subst q
  have : h r = some (.spare k e) := ht1
  rw [hr] at this; cases this
 replace ho := Shut.mk ho
 refine acalls_of Tryz.func51 rfl Tryz.ntmps51 (congrArg Array.toList Tryz.results51) fun Q hQ => ?_
 (focus repeat' first|refine ga ?_|(refine gb ?_;try simp[gz, *])|refine gk fun _ _=>?_|refine gc ?_ ?_|exact gr _|refine gi fun _=>?_|(refine gn ?_ ?_;focus(intros;simp[*];done)))
 refine awp_region_draw [r] [(0,true),(1,true),(2,true),(3,true),(4,true),(5,true),(6,true),(7,true),(8,true),(9,true),(10,true),(11,false),(12,true),(13,false),(14,false)] [15,16,17,18] follows (by kernel_rfl) rfl (by kernel_rfl) ?_; simp [gz, Heap.plus_set, *]
 refine CloneI0_c n.kids hk _ _ ?_
 simp [Heap.set_get, Heap.plus_set, *]
 refine ⟨by omega, by omega, .inl ⟨?_, fun b k e hb => ?_⟩⟩
 ·cases t1 with
  | own b k e => exact ⟨fun q => htp k e (by rw [q]), ht1⟩
  | no => exact ht1
  | nil => trivial
  | full => trivial
 have htm : TokIn (h.minus [r]) t1 := by
  cases t1 with
  | own b k e =>
   have h1 : ¬ b = r := fun q => htp k e (by rw [q])
   have h2 : h b = some (.spare k e) := ht1
   simp [TokIn, h1, h2]
  | no => exact ht1.elim
  | nil => trivial
  | full => trivial
 simp [gz, *]
 intro hbp
 have hbp' : ¬ r = b := fun q => by simp [q] at hbp
 have hbp2 : ¬ b = r := fun q => hbp' q.symm
 clear hbp
 have w2 : IntKind.i64.wrap (S.nodes.length : Int) = S.nodes.length := w64 (by omega) (by omega)
 (focus repeat' first|refine ga ?_|(refine gb ?_;try simp[gz, *])|refine gk fun _ _=>?_|refine gc ?_ ?_|exact gr _|refine gi fun _=>?_|(refine gn ?_ ?_;focus(intros;simp[*];done)))
 all_goals
  have hfin := hR _ _ (ho.out.grow1 (k := k) (e := e) hb hbp2 { S with nodes := S.nodes ++ [n] })
  simpa [Tok.rid, rdRow, row, ndRow] using hfin
end Go.Proofs.YtcbgpjlcfkkdlaaGreatDoor

namespace Go.Proofs.YtcbgpjlcfkkdlaaGreatDoor
open Go Go.AL Go.Proofs
theorem badd_full (T : List Tk) (tt : Tok) (S : St) (t1 t2 : Tok) (r : Nat) (kind pos : Int) (x : List UInt8) (num : Int) (kids : List Int) (hl : S.nodes.length = 131072) (h : Heap) (hr : h r = some (.cells (rdRow T tt S t1 t2))) (R : AV → Heap → Prop)
  (hR : R (.tup [.int .i64 0, .int .i64 2]) h) :
  ACalls Tryz.prog 51 [.ptr r 3, .int .i64 kind, .int .i64 pos, .str x, .int .i64 num, .list 1 (ints kids) .no] h R := by
 refine ACalls.pure ?_ hR
 clear hR
 have hl2 : (S.nodes.length : Int) = 131072 := by omega
 refine acalls_of Tryz.func51 rfl Tryz.ntmps51 (congrArg Array.toList Tryz.results51) fun Q hQ => ?_
 (focus repeat' first|refine ga ?_|(refine gb ?_;try simp[gz, *])|refine gk fun _ _=>?_|refine gc ?_ ?_|exact gr _|refine gi fun _=>?_|(refine gn ?_ ?_;focus(intros;simp[*];done)))
 all_goals first
  | ((repeat (first | exact Sub.refl _ | refine Sub.loc ?_ (by simp [*]) _)); done)
def KidsIn (S : St) (kids : List Int) : Prop := ∀ k ∈ kids, 0 ≤ k → k < S.deep.length
section
variable {B h : Heap} {T : List Tk} {tt : Tok} {S : St} {r : Nat} {t1 t2 : Tok}
theorem grown_plain {h : Heap} {b k e q : Nat} {t : Tok} (hqb : ¬ q = b) (hqt : ∀ k e, t ≠ .own q k e) : ((t.rid h).set b (.spare k e)) q = h q := by
 rw [Heap.set_other _ _ _ _ hqb]
 cases t with
 | own b' k' e' =>
  have h2 : ¬ q = b' := fun e => hqt k' e' (by rw [e])
  exact Heap.del_other _ _ _ h2
 | no => rfl
 | nil => rfl
 | full => rfl
theorem Own.spare2 (ho : Own B h T tt S r t1 t2) {b : Nat} (hb : SpareNew h t2 b) : ¬ b = r ∧ B b = none ∧ ∀ k' e', t1 ≠ .own b k' e' := by
 refine ⟨fun q => ?_, ?_, fun k' e' q => ?_⟩
 ·subst q
  rcases hb with hb | ⟨k', e', hb⟩
  ·rw [ho.blk] at hb; cases hb
  ·exact ho.ne.2 _ _ _ hb rfl
 ·rcases hb with hb | ⟨k', e', hb⟩
  ·exact ho.isNone hb
  ·exact ho.fr2 _ _ _ hb
 ·rcases hb with hb | ⟨k2, e2, hb⟩
  ·subst q
   have : h b = some (.spare k' e') := ho.tk1
   rw [hb] at this; cases this
  ·exact ho.ap _ _ _ _ _ q hb
theorem Own.push2 (ho : Own B h T tt S r t1 t2) {b k e : Nat} (hb : SpareNew h t2 b) (S' : St) :
  Own B (((t2.rid h).set b (.spare k e)).set r (.cells (rdRow T tt S' t1 (.own b k e)))) T tt S' r t1 (.own b k e) := by
 obtain ⟨hbr, hBb, hb2⟩ := ho.spare2 hb
 refine ⟨fun c x hc => ?_, ho.free, Heap.set_same _ _ _, ?_, ?_, ho.fr1, fun q k' e' q1 => by injection q1 with q1; subst q1; exact hBb, fun q k1 e1 k3 e3 q1 q2 => by injection q2 with q2; subst q2; exact hb2 _ _ q1⟩
 ·have c1 : ¬ c = r := fun q => by rw [q, ho.free] at hc; cases hc
  have c2 : ¬ c = b := fun q => by rw [q, hBb] at hc; cases hc
  rw [Heap.set_other _ _ _ _ c1, grown_plain c2 (fun k' e' q => by rw [ho.fr2 _ _ _ q] at hc; cases hc)]
  exact ho.sub _ _ hc
 ·cases ht : t1 with
  | own q k' e' =>
   have q1 : ¬ q = r := ho.ne.1 _ _ _ ht
   have q2 : ¬ q = b := fun e2 => hb2 k' e' (by rw [ht, e2])
   show _ = _
   rw [Heap.set_other _ _ _ _ q1, grown_plain q2 (fun k2 e2 e3 => ho.ap _ _ _ _ _ ht e3)]
   have := ho.tk1
   rw [ht] at this
   exact this
  | no => have := ho.tk1; rw [ht] at this; exact this.elim
  | nil => trivial
  | full => trivial
 ·show _ = _
  rw [Heap.set_other _ _ _ _ hbr, Heap.set_same]
end
theorem wrongL_deep (T : List Tk) (e : Int) (S : St) : (wrongL T e S).deep = S.deep ∧ (wrongL T e S).nodes = S.nodes := by unfold wrongL; split <;> exact ⟨rfl, rfl⟩
theorem add_c (kind pos : Int) (x : List UInt8) (num : Int) (kids : List Int) (T : List Tk) (tt : Tok) (S : St) (t1 t2 : Tok) (r : Nat) (hv : Rd T S) (hd : S.deep.length = S.nodes.length) (hk : KidsIn S kids) (hkl : kids.length ≤ 281474976710) (B h : Heap) (ho : Own B h T tt S r t1 t2) (R : AV → Heap → Prop)
  (hR : ∀ g t1' t2', Own B g T tt (addL T kind pos x num kids S).2 r t1' t2' → R (.int .i64 (addL T kind pos x num kids S).1) g) :
  ACalls Tryz.prog 23 [.ptr r 0, .int .i64 kind, .int .i64 pos, .str x, .int .i64 num, .list 1 (ints kids) .no] h R := by
 have hr := ho.blk
 have hnl := hv.nl
 by_cases hf : S.fc = 0
 ·obtain ⟨L, hL⟩ : ∃ L, addL T kind pos x num kids S = L := ⟨_, rfl⟩
  rw [hL] at hR
  have hfd : decide (S.fc = 0) = true := by simp [hf]
  replace hR := Shut.mk hR
  replace hL := Shut.mk hL
  replace hf := Shut.mk hf
  replace ho := Shut.mk ho
  refine acalls_of Tryz.func23 rfl Tryz.ntmps23 (congrArg Array.toList Tryz.results23) fun Q hQ => ?_
  (focus repeat' first|refine ga ?_|(refine gb ?_;try simp[gz, *])|refine gk fun _ _=>?_)
  refine ok_c T tt S t1 t2 r _ hr _ ?_
  rw [hfd]
  clear hfd
  simp [gz, *]
  (focus repeat' first|refine ga ?_|(refine gb ?_;try simp[gz, *])|refine gk fun _ _=>?_)
  refine awp_loop_h [13,15,23,24,25,26,27,28,29,30,31,32,33,34,35,36,37,38,39] (fun m x2 g => ∃ (i : Nat) (d : Int), i ≤ kids.length ∧ m = kids.length - i ∧ x2 23 = .int .i64 i ∧ x2 13 = .int .i64 d ∧ deepOf S.deep (kids.drop i) d = deepOf S.deep kids 0 ∧ g = h) kids.length
   ⟨0, 0, by omega, by omega, rfl, rfl, rfl, rfl⟩ (fun m x2 g hI K hK => ?_)
  obtain ⟨i, d, hi, rfl, hx, hx13, hdp, rfl⟩ := hI
  have w1 : IntKind.i64.wrap ((i : Int) + 1) = i + 1 := w64 (by omega) (by omega)
  by_cases hlt : i < kids.length
  ·obtain ⟨k, hkk⟩ : ∃ k, kids[i] = k := ⟨_, rfl⟩
   have hkg : kids[i]? = some k := by rw [List.getElem?_eq_getElem hlt, hkk]
   have hkb := hk k (hkk ▸ List.getElem_mem hlt)
   rw [List.drop_eq_getElem_cons hlt, hkk] at hdp
   simp only [deepOf] at hdp
   replace hk := Shut.mk hk
   by_cases h0 : 0 ≤ k
   ·obtain ⟨q, rfl⟩ := Int.eq_ofNat_of_zero_le h0
    have hq : q < S.deep.length := by have := hkb h0; omega
    have hqg : S.deep[q]? = some S.deep[q] := List.getElem?_eq_getElem hq
    obtain ⟨dq, hdq⟩ : ∃ v, S.deep[q] = v := ⟨_, rfl⟩
    rw [hdq] at hqg
    have hq0 : ¬ (q : Int) < 0 := by omega
    have hq1 : ¬ (S.deep.length : Int) ≤ q := by omega
    rw [if_pos h0] at hdp
    have e1 : S.deep.getD (q : Int).toNat 0 = dq := by simp [List.getD, hqg]
    rw [e1] at hdp
    replace hdp := Shut.mk hdp
    refine awp_eqs (s' := [_,_,_,_,_,_,_,_,_,_,_,_,_,x2 13,_,x2 15,_,_,_,_,_,_,_,x2 23,x2 24,x2 25,x2 26,x2 27,x2 28,x2 29,x2 30,x2 31,x2 32,x2 33,x2 34,x2 35,x2 36,x2 37,x2 38,x2 39,_,_,_,_,_,_,_,_,_,_,_,_,_,_,_,_,_,_,_,_,_,_,_,_,_,_,_,_,_,_,_,_]) rfl ?_
    (focus repeat' first|refine ga ?_|(refine gb ?_;try simp[gz, *])|refine gk fun _ _=>?_)
    exact ⟨by kernel_rfl, rfl, kids.length - (i + 1), g, by omega, Sub.refl _, i + 1, max d (IntKind.i64.wrap (dq + 1)), by omega, rfl, rfl, rfl, hdp.out, rfl⟩
   ·rw [if_neg h0] at hdp
    replace hdp := Shut.mk hdp
    refine awp_eqs (s' := [_,_,_,_,_,_,_,_,_,_,_,_,_,x2 13,_,x2 15,_,_,_,_,_,_,_,x2 23,x2 24,x2 25,x2 26,x2 27,x2 28,x2 29,x2 30,x2 31,x2 32,x2 33,x2 34,x2 35,x2 36,x2 37,x2 38,x2 39,_,_,_,_,_,_,_,_,_,_,_,_,_,_,_,_,_,_,_,_,_,_,_,_,_,_,_,_,_,_,_,_]) rfl ?_
    (focus repeat' first|refine ga ?_|(refine gb ?_;try simp[gz, *])|refine gk fun _ _=>?_)
    exact ⟨by kernel_rfl, rfl, kids.length - (i + 1), g, by omega, Sub.refl _, i + 1, d, by omega, rfl, rfl, rfl, hdp.out, rfl⟩
  ·have hdd : kids.drop i = [] := List.drop_eq_nil_of_le (by omega)
   rw [hdd] at hdp
   simp only [deepOf] at hdp
   replace hk := Shut.mk hk
   have hf' := hf.out
   have hdp' := hdp.symm
   replace hdp := Shut.mk hdp
   by_cases hfull : S.nodes.length = 131072
   ·have hLv : L = (-1, wrongL T 2 S) := by rw [← hL.out]; unfold addL; rw [if_pos hf', if_pos hfull]
    rw [hLv] at hR
    clear hf' hdp'
    refine awp_eqs (s' := [_,_,_,_,_,_,_,_,_,_,_,_,_,x2 13,_,x2 15,_,_,_,_,_,_,_,x2 23,x2 24,x2 25,x2 26,x2 27,x2 28,x2 29,x2 30,x2 31,x2 32,x2 33,x2 34,x2 35,x2 36,x2 37,x2 38,x2 39,_,_,_,_,_,_,_,_,_,_,_,_,_,_,_,_,_,_,_,_,_,_,_,_,_,_,_,_,_,_,_,_]) rfl ?_
    (focus repeat' first|refine ga ?_|(refine gb ?_;try simp[gz, *])|refine gk fun _ _=>?_)
    refine badd_full T tt S t1 t2 r kind pos x num kids hfull _ hr _ ?_
    simp [gz, *]
    (focus repeat' first|refine ga ?_|(refine gb ?_;try simp[gz, *])|refine gk fun _ _=>?_)
    refine wrong_c 2 T tt S t1 t2 r hv B _ ho.out _ (fun g2 ho3 => ?_)
    simp [gz, *]
    (focus repeat' first|refine ga ?_|(refine gb ?_;try simp[gz, *])|refine gk fun _ _=>?_)
    all_goals first
     | exact hR.out _ _ _ ho3
   ·obtain ⟨S1, hS1⟩ : ∃ S1 : St, { S with nodes := S.nodes ++ [(⟨kind, pos, x, num, kids⟩ : Nd)] } = S1 := ⟨_, rfl⟩
    have hLv : L = ((S.nodes.length : Int), { (if d > 200 then wrongL T 6 S1 else S1) with deep := (if d > 200 then wrongL T 6 S1 else S1).deep ++ [d] }) := by
     rw [← hL.out]; unfold addL; rw [if_pos hf', if_neg hfull]; simp only [hdp', hS1]
    have hv1 : Rd T S1 := by rw [← hS1]; exact ⟨hv.pos, hv.top, hv.len, hv.ne, by simp only [List.length_append, List.length_singleton]; omega, hv.last⟩
    rw [hLv] at hR
    replace hR := Shut.mk hR.out
    clear hf' hdp' hLv
    have hd1 : S1.deep = S.deep := by rw [← hS1]
    have hdl1 : S1.deep.length = S.deep.length := by rw [hd1]
    have hdl2 : (wrongL T 6 S1).deep.length = S.deep.length := by rw [(wrongL_deep T 6 S1).1, hd1]
    clear hd1
    refine awp_eqs (s' := [_,_,_,_,_,_,_,_,_,_,_,_,_,x2 13,_,x2 15,_,_,_,_,_,_,_,x2 23,x2 24,x2 25,x2 26,x2 27,x2 28,x2 29,x2 30,x2 31,x2 32,x2 33,x2 34,x2 35,x2 36,x2 37,x2 38,x2 39,_,_,_,_,_,_,_,_,_,_,_,_,_,_,_,_,_,_,_,_,_,_,_,_,_,_,_,_,_,_,_,_]) rfl ?_
    (focus repeat' first|refine ga ?_|(refine gb ?_;try simp[gz, *])|refine gk fun _ _=>?_)
    refine badd_c T tt S t1 t2 r ⟨kind, pos, x, num, kids⟩ (by omega) hkl B _ ho.out _ (fun g2 t1' ho2 => ?_)
    rw [hS1] at ho2
    clear hS1
    have hr2 := ho2.blk
    replace hv1 := Shut.mk hv1
    replace ho2 := Shut.mk ho2
    by_cases hd2 : 200 < d
    ·rw [if_pos hd2] at hR
     simp [gz, *]
     (focus repeat' first|refine ga ?_|(refine gb ?_;try simp[gz, *])|refine gk fun _ _=>?_)
     refine wrong_c 6 T tt S1 t1' t2 r hv1.out B _ ho2.out _ (fun g3 ho3 => ?_)
     have hr3 := ho3.blk
     clear hr2
     simp [gz, *]
     (focus repeat' first|refine ga ?_|(refine gb ?_;try simp[gz, *])|refine gk fun _ _=>?_)
     refine .inl ⟨ho3.tk2, fun b k e hb => ?_⟩
     have hx := ho3.push2 (k := k) (e := e) hb { wrongL T 6 S1 with deep := (wrongL T 6 S1).deep ++ [d] }
     obtain ⟨sp1, sp2, sp3⟩ := ho3.spare2 hb
     have hgr : ((t2.rid g3).set b (.spare k e)) r = g3 r := grown_plain (fun q => sp1 q.symm) (fun k' e' q => ho3.ne.2 _ _ _ q rfl)
     rw [ho3.blk] at hgr
     obtain ⟨HG, hHG⟩ : ∃ HG, (t2.rid g3).set b (.spare k e) = HG := ⟨_, rfl⟩
     rw [hHG] at hx hgr ⊢
     clear hb hHG
     replace hx := Shut.mk hx
     simp [gz, *]
     (focus repeat' first|refine ga ?_|(refine gb ?_;try simp[gz, *])|refine gk fun _ _=>?_)
     all_goals first
      | exact hR.out _ _ _ (by simpa [rdRow] using hx.out)
    ·rw [if_neg hd2] at hR
     simp [gz, *]
     (focus repeat' first|refine ga ?_|(refine gb ?_;try simp[gz, *])|refine gk fun _ _=>?_)
     refine .inl ⟨ho2.out.tk2, fun b k e hb => ?_⟩
     have hx := ho2.out.push2 (k := k) (e := e) hb { S1 with deep := (S1).deep ++ [d] }
     obtain ⟨sp1, sp2, sp3⟩ := ho2.out.spare2 hb
     have hgr : ((t2.rid g2).set b (.spare k e)) r = g2 r := grown_plain (fun q => sp1 q.symm) (fun k' e' q => ho2.out.ne.2 _ _ _ q rfl)
     rw [ho2.out.blk] at hgr
     obtain ⟨HG, hHG⟩ : ∃ HG, (t2.rid g2).set b (.spare k e) = HG := ⟨_, rfl⟩
     rw [hHG] at hx hgr ⊢
     clear hb hHG
     replace hx := Shut.mk hx
     simp [gz, *]
     (focus repeat' first|refine ga ?_|(refine gb ?_;try simp[gz, *])|refine gk fun _ _=>?_)
     all_goals first
      | exact hR.out _ _ _ (by simpa [rdRow] using hx.out)
 ·have he : addL T kind pos x num kids S = (-1, S) := by unfold addL; rw [if_neg hf]
  rw [he] at hR
  have hfd : decide (S.fc = 0) = false := by simp [hf]
  replace hR := Shut.mk hR
  refine acalls_of Tryz.func23 rfl Tryz.ntmps23 (congrArg Array.toList Tryz.results23) fun Q hQ => ?_
  (focus repeat' first|refine ga ?_|(refine gb ?_;try simp[gz, *])|refine gk fun _ _=>?_)
  refine ok_c T tt S t1 t2 r _ hr _ ?_
  rw [hfd]
  simp [gz, *]
  (focus repeat' first|refine ga ?_|(refine gb ?_;try simp[gz, *])|refine gk fun _ _=>?_)
  all_goals first
   | exact hR.out _ _ _ ho
end Go.Proofs.YtcbgpjlcfkkdlaaGreatDoor

namespace Go.Proofs.YtcbgpjlcfkkdlaaGreatDoor
open Go Go.AL Go.Proofs
structure Good (T : List Tk) (S : St) : Prop where
 rd : Rd T S
 dl : S.deep.length = S.nodes.length
def InK (S : St) (l : List Int) : Prop := ∀ k ∈ l, 0 ≤ k → k < S.nodes.length
theorem InK.kids {T : List Tk} {S : St} (hg : Good T S) {l : List Int} (h : InK S l) : KidsIn S l := fun k hk h0 => by rw [hg.dl]; exact h k hk h0
theorem InK.mono {S S' : St} (hm : S.nodes.length ≤ S'.nodes.length) {l : List Int} (h : InK S l) : InK S' l := fun k hk h0 => by have := h k hk h0; omega
theorem InK.nil {S : St} : InK S [] := fun _ h => by cases h
theorem InK.cons {S : St} {k : Int} {l : List Int} (h1 : 0 ≤ k → k < S.nodes.length) (h2 : InK S l) : InK S (k :: l) := fun x hx h0 => by
 rcases List.mem_cons.1 hx with rfl | hx
 ·exact h1 h0
 ·exact h2 x hx h0
theorem InK.append {S : St} {a b : List Int} (h1 : InK S a) (h2 : InK S b) : InK S (a ++ b) := fun x hx h0 => by
 rcases List.mem_append.1 hx with hx | hx
 ·exact h1 x hx h0
 ·exact h2 x hx h0
structure Goes (T : List Tk) (S S' : St) : Prop where
 good : Good T S'
 len : S.nodes.length ≤ S'.nodes.length
section
variable {T : List Tk} {S : St}
theorem Goes.refl (hg : Good T S) : Goes T S S := ⟨hg, Nat.le_refl _⟩
theorem Goes.trans {S2 S3 : St} (h1 : Goes T S S2) (h2 : Goes T S2 S3) : Goes T S S3 := ⟨h2.good, Nat.le_trans h1.len h2.len⟩
theorem goes_same {S' : St} (hr : Rd T S') (hg : Good T S) (hn : S'.nodes = S.nodes) (hd : S'.deep = S.deep) : Goes T S S' := ⟨⟨hr, by rw [hn, hd]; exact hg.dl⟩, by rw [hn]; exact Nat.le_refl _⟩
theorem goes_wrong (hg : Good T S) {e : Int} (he : ¬ e = 0) : Goes T S (wrongL T e S) := goes_same (hg.rd.wrong he) hg (wrongL_deep T e S).2 (wrongL_deep T e S).1
theorem goes_step (hg : Good T S) (hk : ¬ (peekL T S).kind = 6) : Goes T S (stepL S) := goes_same (hg.rd.step hk).2 hg rfl rfl
theorem goes_is (hg : Good T S) {x : List UInt8} (h : isL T x S = true) : Goes T S (stepL S) := goes_step hg (isL_kind h)
theorem goes_must (hg : Good T S) (x : List UInt8) : Goes T S (mustL T x S) := by
 unfold mustL
 split
 ·rename_i h; exact goes_is hg h
 ·exact goes_wrong hg (by decide)
theorem goes_name (hg : Good T S) : Goes T S (nameR T S).2 := by
 unfold nameR
 split
 ·rename_i h; exact goes_step hg (by rw [h]; decide)
 ·exact goes_wrong hg (by decide)
theorem goes_down (hg : Good T S) : Goes T S (downL T S) := by
 unfold downL
 simp only
 have h1 : Good T { S with nest := IntKind.i64.wrap (S.nest + 1) } := ⟨hg.rd.nest _, hg.dl⟩
 split
 ·exact ⟨(goes_wrong h1 (by decide)).good, (goes_wrong h1 (e := 6) (by decide)).len⟩
 ·exact ⟨h1, Nat.le_refl _⟩
theorem goes_up (hg : Good T S) : Goes T S (upL S) := ⟨⟨hg.rd.nest _, hg.dl⟩, Nat.le_refl _⟩
theorem goes_end (hg : Good T S) : Goes T S (endL T S) := by
 unfold endL
 split
 ·rename_i h; exact goes_is hg h
 ·split
  ·exact .refl hg
  ·exact goes_wrong hg (by decide)
theorem goes_add (hg : Good T S) (kind pos : Int) (x : List UInt8) (n : Int) (kids : List Int) : Goes T S (addL T kind pos x n kids S).2 ∧ (0 ≤ (addL T kind pos x n kids S).1 → (addL T kind pos x n kids S).1 < (addL T kind pos x n kids S).2.nodes.length) := by
 unfold addL
 have hnl := hg.rd.nl
 split
 ·split
  ·exact ⟨goes_wrong hg (by decide), fun h => absurd h (by show ¬ (0 : Int) ≤ -1; decide)⟩
  ·rename_i hf hl
   obtain ⟨S1, hS1⟩ : ∃ S1 : St, { S with nodes := S.nodes ++ [(⟨kind, pos, x, n, kids⟩ : Nd)] } = S1 := ⟨_, rfl⟩
   obtain ⟨d, hd⟩ : ∃ d, deepOf S.deep kids 0 = d := ⟨_, rfl⟩
   simp only [hS1, hd]
   have hr1 : Rd T S1 := by rw [← hS1]; exact ⟨hg.rd.pos, hg.rd.top, hg.rd.len, hg.rd.ne, by simp only [List.length_append, List.length_singleton]; omega, hg.rd.last⟩
   have hn1 : S1.nodes.length = S.nodes.length + 1 := by rw [← hS1]; simp
   have hd1 : S1.deep = S.deep := by rw [← hS1]
   have key : ∀ S2 : St, Rd T S2 → S2.nodes = S1.nodes → S2.deep = S1.deep → Goes T S { S2 with deep := S2.deep ++ [d] } ∧ (0 ≤ (S.nodes.length : Int) → (S.nodes.length : Int) < S2.nodes.length) := fun S2 h1 h2 h3 =>
    ⟨⟨⟨⟨h1.pos, h1.top, h1.len, h1.ne, h1.nl, h1.last⟩, by simp only [List.length_append, List.length_singleton]; rw [h3, h2, hd1, hn1, hg.dl]⟩, by show S.nodes.length ≤ S2.nodes.length; rw [h2, hn1]; omega⟩, fun _ => by rw [h2, hn1]; omega⟩
   split
   ·exact key _ (hr1.wrong (by decide)) (wrongL_deep T 6 S1).2 (wrongL_deep T 6 S1).1
   ·exact key _ hr1 rfl rfl
 ·exact ⟨.refl hg, fun h => absurd h (by show ¬ (0 : Int) ≤ -1; decide)⟩
end
end Go.Proofs.YtcbgpjlcfkkdlaaGreatDoor

namespace Go.Proofs.YtcbgpjlcfkkdlaaGreatDoor
open Go Go.AL Go.Proofs
abbrev bools (o : List Bool) : List AV := o.map AV.bool
abbrev nums (d : List Int) : List AV := d.map (AV.int .i64)
def firstNo (o : List Bool) : Int := match o.findIdx? (fun x => !x) with | some i => (i : Int) | none => -1
theorem firstNo_at {o : List Bool} {i : Nat} (hi : i < o.length) (h : o[i] = false) (hn : ∀ j (hj : j < o.length), j < i → o[j] = true) : firstNo o = i := by
 have : o.findIdx? (fun x => !x) = some i := by
  rw [List.findIdx?_eq_some_iff_getElem]
  exact ⟨hi, by simp [h], fun j hj => by simp [hn j (by omega) hj]⟩
 simp only [firstNo, this]
theorem firstNo_none {o : List Bool} (hn : ∀ j (hj : j < o.length), o[j] = true) : firstNo o = -1 := by
 have : o.findIdx? (fun x => !x) = none := by
  rw [List.findIdx?_eq_none_iff]
  intro l hl
  obtain ⟨j, hj, rfl⟩ := List.getElem_of_mem hl
  simp [hn j hj]
 simp only [firstNo, this]
theorem IndexB_c (o : List Bool) (b len cap : Nat) (h : Heap) (hb : h b = some (.cells (bools o))) (hl : len ≤ o.length) (hm : o.length ≤ 131072) (hc : len ≤ cap) (R : AV → Heap → Prop) (hR : R (.int .i64 (firstNo (o.take len))) h) :
  ACalls Tryz.prog 30 [.arr b 0 len cap, .bool false] h R := by
 refine ACalls.pure ?_ hR
 clear hR
 have htl : (o.take len).length = len := by simp; omega
 refine acalls_of Tryz.func30 rfl Tryz.ntmps30 (congrArg Array.toList Tryz.results30) fun Q hQ => ?_
 (focus repeat' first|refine ga ?_|(refine gb ?_;try simp[gz, *])|refine gk fun _ _=>?_|refine gc ?_ ?_|exact gr _|refine gi fun _=>?_|(refine gn ?_ ?_;focus(intros;simp[*];done)))
 refine awp_loop_h [4,5,8,9,10,11,12,13,14,15,16,17,18] (fun n x g => ∃ i : Nat, i ≤ len ∧ n = len - i ∧ x 8 = .int .i64 i ∧ (∀ j (hj : j < o.length), j < i → o[j] = true) ∧ g = h) len ⟨0, by omega, by omega, rfl, by simp, rfl⟩ (fun n x g hI K hK => ?_)
 obtain ⟨i, hi, rfl, hx, hn, rfl⟩ := hI
 have w1 : IntKind.i64.wrap ((i : Int) + 1) = i + 1 := w64 (by omega) (by omega)
 by_cases hlt : i < len
 ·have hlo : i < o.length := by omega
  cases ho : o[i]
  ·simp (maxSteps := 10000000) only [AgainAt, hav_nil, hav_end, hav_cons, Nat.reduceAdd, Nat.reduceEqDiff, if_true, if_false]
   (focus repeat' first|refine ga ?_|(refine gb ?_;try simp[gz, *])|refine gk fun _ _=>?_|refine gc ?_ ?_|exact gr _|refine gi fun _=>?_|(refine gn ?_ ?_;focus(intros;simp[*];done)))
   refine ⟨(firstNo_at (o := o.take len) (by omega) (by simpa using ho) fun j hj hji => ?_).symm, Sub.refl _⟩
   simpa using hn j (by omega) hji
  ·simp (maxSteps := 10000000) only [AgainAt, hav_nil, hav_end, hav_cons, Nat.reduceAdd, Nat.reduceEqDiff, if_true, if_false]
   (focus repeat' first|refine ga ?_|(refine gb ?_;try simp[gz, *])|refine gk fun _ _=>?_|refine gc ?_ ?_|exact gr _|refine gi fun _=>?_|(refine gn ?_ ?_;focus(intros;simp[*];done)))
   exact ⟨by simp [hav], rfl, len - (i + 1), _, by omega, Sub.refl _, i + 1, by omega, rfl, by simp, fun j hj hji => by
    by_cases e : j < i
    ·exact hn j hj e
    ·have : j = i := by omega
     subst this; exact ho, rfl⟩
 ·have hge : len ≤ i := by omega
  simp (maxSteps := 10000000) only [AgainAt, hav_nil, hav_end, hav_cons, Nat.reduceAdd, Nat.reduceEqDiff, if_true, if_false]
  (focus repeat' first|refine ga ?_|(refine gb ?_;try simp[gz, *])|refine gk fun _ _=>?_|refine gc ?_ ?_|exact gr _|refine gi fun _=>?_|(refine gn ?_ ?_;focus(intros;simp[*];done)))
  refine ⟨(firstNo_none (o := o.take len) fun j hj => ?_).symm, Sub.refl _⟩
  simpa using hn j (by omega) (by omega)
end Go.Proofs.YtcbgpjlcfkkdlaaGreatDoor

