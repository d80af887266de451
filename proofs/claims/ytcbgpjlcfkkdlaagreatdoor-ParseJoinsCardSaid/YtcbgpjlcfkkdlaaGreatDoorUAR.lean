import Derived.Test.YtcbgpjlcfkkdlaaGreatDoorUAQ
import Derived.Test.YtcbgpjlcfkkdlaaGreatDoorUAP
import Derived.Test.YtcbgpjlcfkkdlaaGreatDoorUAO
import Derived.Test.YtcbgpjlcfkkdlaaGreatDoorUAH
import Derived.Test.YtcbgpjlcfkkdlaaGreatDoorUAI
import Derived.Test.YtcbgpjlcfkkdlaaGreatDoorUAJ
import Derived.Test.YtcbgpjlcfkkdlaaGreatDoorUAK
set_option linter.unusedSimpArgs false
set_option linter.unusedVariables false
set_option maxRecDepth 100000
set_option maxHeartbeats 16000000
namespace Go.Proofs.YtcbgpjlcfkkdlaaGreatDoor
open Go Go.AL Go.Proofs
theorem shi_zero (v : Int) : shi ((0 : Nat) : Int) v = v := by unfold shi; split <;> simp
theorem map_shi_zero (l : List Int) : l.map (shi ((0 : Nat) : Int)) = l := by
 rw [show shi ((0 : Nat) : Int) = id from funext shi_zero, List.map_id]
theorem run_top {T : List Tk} {n : Nat} {kids : List Int} {S : St} : run T (n + 1) (.top kids) S = if S.fc = 0 ∧ ¬ (peekL T S).kind = 6 then (run T n .stmt S).bind fun r => run T n (.top (kids ++ [fst0 r.1])) r.2 else some (kids, S) := by simp only [run]
section
variable {strict : Bool} {T T' : List Tk} {nA o K : Nat} {N0 : List Nd} {D0 : List Int}
theorem top2 (E : Side strict false T T' nA o K N0 D0) : ∀ (n : Nat) (kids pre : List Int) (S S' : St) (l l' : List Int) (S1 S1' : St), Lv false nA o K N0 D0 true S S' → run T n (.top kids) S = some (l, S1) → run T' n (.top (pre ++ kids.map (shi K))) S' = some (l', S1') →
  Out strict false nA o K N0 D0 true (l' = pre ++ l.map (shi K)) S1 S1'
 | 0, _, _, _, _, _, _, _, _, _, h, _ => by cases h
 | n + 1, kids, pre, S, S', l, l', S1, S1', L, g, g' => by
  rw [run_top] at g g'
  rcases L.look E with ⟨hi, h6, ht, -⟩ | ⟨ha, -, ht⟩ | ⟨-, h, -⟩
  ·rw [if_pos ⟨L.fc, h6⟩] at g
   rw [if_pos ⟨L.fc', by rw [ht.kind]; exact h6⟩] at g'
   cases e : run T n .stmt S with
   | none => rw [e] at g; cases g
   | some r =>
    cases e' : run T' n .stmt S' with
    | none => rw [e'] at g'; cases g'
    | some r' =>
     rw [e] at g
     rw [e'] at g'
     simp only [Option.bind_some] at g g'
     rcases sim E n .stmt .stmt S S' r.1 r'.1 r.2 r'.2 .stmt (fun h => by cases h) (L.np hi) e e' with ⟨L2, hR⟩ | ⟨h1, h2⟩ | ⟨h1, h2⟩
     ·simp only [RR] at hR
      rw [hR] at g'
      exact top2 E n (kids ++ [fst0 r.1]) pre _ _ _ _ _ _ L2 g (by rw [List.map_append, List.map_cons, List.map_nil, ← List.append_assoc]; exact g')
     ·have q := stick T n _ _ _ _ h1 g
      refine .inr (.inl ⟨by rw [q]; exact h1, fun hs => ?_⟩)
      rw [stick T' n _ _ _ _ (by rw [h2 hs]; exact h1) g', h2 hs, q]
     ·refine .inr (.inr ⟨h1, ?_⟩)
      rw [stick T' n _ _ _ _ (by rw [h2]; decide) g', h2]
  ·rw [if_neg (fun h => h.2 ha.peek)] at g
   rw [if_neg (fun h => h.2 (by rw [ht.kind]; exact ha.peek))] at g'
   injection g with g
   injection g' with g'
   injection g with g1 g2
   injection g' with g1' g2'
   subst g1 g2 g1' g2'
   exact .inl ⟨L, rfl⟩
  ·cases h
structure Mid (nA : Nat) (S1 : St) (l : List Int) (S2 : St) (ks : List Int) : Prop where
 fc : S2.fc = 0
 idx : S2.idx = nA + 1
 nest : S2.nest = 0
 nodes : ∃ N, NdsR ((0 : Nat) : Int) S1.nodes N ∧ ((ks = l ∧ S2.nodes = N ∧ S2.deep = S1.deep) ∨ ∃ pos : Int, 0 ≤ pos ∧ ks = l ++ [(S1.nodes.length : Int)] ∧ S2.nodes = N ++ [⟨43, pos, [], 0, []⟩] ∧ S2.deep = S1.deep ++ [0])
theorem top1 (E : Side false true T T' nA 0 0 [] []) (hpos : 0 ≤ (T'.getD nA default).pos) : ∀ (n : Nat) (kids : List Int) (S S' : St) (l l' : List Int) (S1 S1' : St), Lv true nA 0 0 [] [] true S S' → S.nest = 0 → run T n (.top kids) S = some (l, S1) → run T' n (.top kids) S' = some (l', S1') → S1.fc = 0 →
  S1'.fc = 2 ∨ ∃ n2 S2 ks, n2 ≤ n ∧ run T' n2 (.top ks) S2 = some (l', S1') ∧ Mid nA S1 l S2 ks
 | 0, _, _, _, _, _, _, _, _, _, h, _, _ => by cases h
 | n + 1, kids, S, S', l, l', S1, S1', L, hn, g, g', hf => by
  have g0 := g'
  rw [run_top] at g g'
  obtain ⟨N, n1, n2⟩ := L.nodes
  rw [List.nil_append] at n1
  have hdp : S'.deep = S.deep := L.deep
  have fin : (peekL T S).kind = 6 → l = kids ∧ S1 = S := fun h => by
   rw [if_neg (fun q => q.2 h)] at g
   injection g with g
   injection g with q1 q2
   exact ⟨q1.symm, q2.symm⟩
  rcases L.look E with ⟨hi, h6, ht, -⟩ | ⟨-, h, -⟩ | ⟨ha, -, -, hl⟩
  ·rw [if_pos ⟨L.fc, h6⟩] at g
   rw [if_pos ⟨L.fc', by rw [ht.kind]; exact h6⟩] at g'
   cases e : run T n .stmt S with
   | none => rw [e] at g; cases g
   | some r =>
    cases e' : run T' n .stmt S' with
    | none => rw [e'] at g'; cases g'
    | some r' =>
     rw [e] at g
     rw [e'] at g'
     simp only [Option.bind_some] at g g'
     have hr : r.2.fc = 0 := by
      by_cases h : r.2.fc = 0
      ·exact h
      ·exact absurd ((stick T n _ _ _ _ h g).symm.trans hf) h
     rcases sim E n .stmt .stmt S S' r.1 r'.1 r.2 r'.2 .stmt (fun h => by cases h) (L.np hi) e e' with ⟨L2, hR⟩ | ⟨h1, h2⟩ | ⟨h1, h2⟩
     ·simp only [RR] at hR
      rw [hR, shi_zero] at g'
      rcases top1 E hpos n (kids ++ [fst0 r.1]) _ _ _ _ _ _ L2 (nest_zero (S := S) (l := r.1) e hr hn) g g' hf with q | ⟨m, S2, ks, q1, q2, q3⟩
      ·exact .inl q
      ·exact .inr ⟨m, S2, ks, by omega, q2, q3⟩
     ·exact absurd hr h1
     ·exact .inl (by rw [stick T' n _ _ _ _ (by rw [h2]; decide) g', h2])
  ·cases h
  ·obtain ⟨rfl, rfl⟩ := fin ha.peek
   rcases L.idx with ⟨h1, h2⟩ | ⟨-, -, h3, h4⟩
   ·have hia : S1.idx = nA := by have := ha.idx; have := E.len; omega
    have hpk : peekL T' S' = T'.getD nA default := by unfold peekL; rw [if_pos L.fc', h2, hia, Nat.add_zero]
    obtain ⟨k1, k2, -⟩ := E.stp rfl
    have hk5 : (peekL T' S').kind = 5 := by rw [hpk]; exact k1
    have hkt : (peekL T' S').text = [59] := by rw [hpk]; exact k2
    rw [if_pos ⟨L.fc', by rw [hk5]; decide⟩] at g'
    cases n with
    | zero => cases g'
    | succ n =>
     have hd : downL T' S' = { S' with nest := 1 } := by
      unfold downL
      rw [L.nest, hn]
      rfl
     obtain ⟨S3, h3⟩ : ∃ S3, { S' with nest := (1 : Int) } = S3 := ⟨_, rfl⟩
     have hpk3 : peekL T' S3 = peekL T' S' := by rw [← h3]; rfl
     have i1 : isL T' [123] S3 = false := by unfold isL; rw [hpk3, hk5, hkt]; decide
     have i2 : isL T' [59] S3 = true := by unfold isL; rw [hpk3, hk5, hkt]; decide
     have hst : run T' (n + 1) .stmt S' = some ([(addL T' 43 (peekL T' S').pos [] 0 [] (stepL S3)).1], upL (addL T' 43 (peekL T' S').pos [] 0 [] (stepL S3)).2) := by
      rw [run_body]
      simp only [body, go, hd, h3, hpk3, hk5, i1, i2]
      rfl
     rw [hst] at g'
     simp only [Option.bind_some, fst0_cns] at g'
     have hf3 : (stepL S3).fc = 0 := by rw [← h3]; exact L.fc'
     have hlen : S'.nodes.length = S1.nodes.length := by rw [n1, n2.1]
     by_cases hx : (stepL S3).nodes.length = 131072
     ·have hw : addL T' 43 (peekL T' S').pos [] 0 [] (stepL S3) = (-1, wrongL T' 2 (stepL S3)) := by unfold addL; rw [if_pos hf3, if_pos hx]
      rw [hw] at g'
      have hfw := wrong_fc T' 2 hf3
      exact .inl (by rw [stick T' _ _ (upL (wrongL T' 2 (stepL S3))) _ _ (by show ¬ (wrongL T' 2 _).fc = 0; rw [hfw]; decide) g']; exact hfw)
     ·have hw : addL T' 43 (peekL T' S').pos [] 0 [] (stepL S3) = (((stepL S3).nodes.length : Int), { stepL S3 with nodes := (stepL S3).nodes ++ [⟨43, (peekL T' S').pos, [], 0, []⟩], deep := (stepL S3).deep ++ [0] }) := by
       unfold addL
       rw [if_pos hf3, if_neg hx]
       rfl
      rw [hw] at g'
      refine .inr ⟨n + 1, _, _, by omega, g', ?_, ?_, ?_, N, n2, .inr ⟨(peekL T' S').pos, by rw [hpk]; exact hpos, ?_, ?_, ?_⟩⟩
      ·exact hf3
      ·show S3.idx + 1 = nA + 1; rw [← h3]; show S'.idx + 1 = _; omega
      ·show IntKind.i64.wrap (S3.nest - 1) = 0; rw [← h3]; show IntKind.i64.wrap ((1 : Int) - 1) = 0; decide
      ·show l ++ [(S3.nodes.length : Int)] = _; rw [← h3]; show l ++ [(S'.nodes.length : Int)] = _; rw [hlen]
      ·show S3.nodes ++ _ = _; rw [← h3]; show S'.nodes ++ _ = _; rw [n1]
      ·show S3.deep ++ _ = _; rw [← h3]; show S'.deep ++ _ = _; rw [hdp]
   ·exact .inr ⟨n + 1, S', l, Nat.le_refl _, g0, L.fc', by omega, by rw [L.nest, hn], N, n2, .inl ⟨rfl, n1, hdp⟩⟩
end
end Go.Proofs.YtcbgpjlcfkkdlaaGreatDoor

namespace Go.Proofs.YtcbgpjlcfkkdlaaGreatDoor
open Go Go.AL Go.Proofs
theorem Split_c (s sep : List UInt8) (hs : s.length < 4294967281) (h1 : 1 ≤ sep.length) (h : Heap) (hg : h 0 = some .gint) (R : AV → Heap → Prop) (hR : R (.list 1 ((Lib.split s sep).map fun p => [.str p]) .full) h) :
  ACalls Tryz.prog 25 [.str s, .str sep] h R := acalls_split Tryz.strings_Split s sep hs h1 h hg R hR
theorem Contains_c (s sub : List UInt8) (hs : s.length < 4294967281) (h : Heap) (hg : h 0 = some .gint) (R : AV → Heap → Prop) (hR : R (.bool (Lib.contains s sub)) h) :
  ACalls Tryz.prog 57 [.str s, .str sub] h R := by
 refine acalls_str2 hg (fun a b m w ea eb hm => ?_) hR
 subst ea eb
 refine (Tryz.strings_Contains a b m w (by simpa using hs) hm).mono ?_
 rintro e w' ⟨rfl, rfl⟩
 exact ⟨⟨_, rfl, fun F => .bool _⟩, 0, rfl⟩
theorem Cut_c (s sep : List UInt8) (hs : s.length < 4294967281) (h : Heap) (hg : h 0 = some .gint) (R : AV → Heap → Prop) (hR : R (.tup [.str (Lib.cut s sep).1, .str (Lib.cut s sep).2.1, .bool (Lib.cut s sep).2.2]) h) :
  ACalls Tryz.prog 69 [.str s, .str sep] h R := by
 refine acalls_str2 hg (fun a b m w ea eb hm => ?_) hR
 subst ea eb
 refine (Tryz.strings_Cut a b m w (by simpa using hs) hm).mono ?_
 rintro e w' ⟨rfl, n, rfl⟩
 refine ⟨⟨_, rfl, fun F => .tup _ _ rfl fun i hi => ?_⟩, n, rfl⟩
 have hi' : i < 3 := hi
 match i, hi' with
 | 0, _ => exact .str _ _ rfl
 | 1, _ => exact .str _ _ rfl
 | 2, _ => exact .bool _
def amongL (s words : List UInt8) : Bool := decide (s ∈ Lib.split words [32])
theorem split_len (s sep : List UInt8) (h1 : 1 ≤ sep.length) : (Lib.split s sep).length ≤ s.length + 1 := by
 have h2 := Lib.splitB_length_le ⟨sep.toArray⟩ 0 (Lib.countB ⟨s.toArray⟩ ⟨sep.toArray⟩) ⟨s.toArray⟩
 have h3 := Lib.countB_le ⟨sep.toArray⟩ (by show 1 ≤ sep.toArray.size; simpa using h1) s.length ⟨s.toArray⟩ (by show s.toArray.size ≤ s.length; simp)
 have h4 := congrArg List.length (Lib.splitB_data ⟨sep.toArray⟩ 0 (Lib.countB ⟨s.toArray⟩ ⟨sep.toArray⟩) ⟨s.toArray⟩)
 have h5 : (Lib.split s sep).length = (Lib.splitB ⟨sep.toArray⟩ 0 (Lib.countB ⟨s.toArray⟩ ⟨sep.toArray⟩) ⟨s.toArray⟩).length := by simpa [Lib.split, Lib.countB] using h4.symm
 have h6 : (⟨s.toArray⟩ : ByteArray).size = s.length := by show s.toArray.size = s.length; simp
 omega
theorem among_c (s words : List UInt8) (hw : words.length < 4294967281) (h : Heap) (hg : h 0 = some .gint) (R : AV → Heap → Prop) (hR : R (.bool (amongL s words)) h) :
  ACalls Tryz.prog 106 [.str s, .str words] h R := by
 refine ACalls.pure ?_ hR
 have hn := split_len words [32] (by simp)
 refine acalls_of Tryz.func106 rfl Tryz.ntmps106 (congrArg Array.toList Tryz.results106) fun Q hQ => ?_
 (focus repeat' first|refine ga ?_|(refine gb ?_;try simp[gz, *])|refine gk fun _ _=>?_|refine gc ?_ ?_|exact gr _|refine gi fun _=>?_|(refine gn ?_ ?_;focus(intros;simp[*];done)))
 refine Split_c words [32] hw (by simp) _ (by simp [*]) _ ?_
 simp [gz, *]
 refine Has_c _ s _ (by omega) _ _ ?_
 simp [gz, *]
 (focus repeat' first|refine ga ?_|(refine gb ?_;try simp[gz, *])|refine gk fun _ _=>?_|refine gc ?_ ?_|exact gr _|refine gi fun _=>?_|(refine gn ?_ ?_;focus(intros;simp[*];done)))
 exact ⟨rfl, Sub.refl _⟩
theorem Unary_c (s : List UInt8) (h : Heap) (hg : h 0 = some .gint) (R : AV → Heap → Prop) (hR : R (.bool (amongL s [45, 32, 33, 32, 126, 32, 116, 121, 112, 101, 111, 102, 32, 99, 108, 111, 110, 101, 32, 114, 101, 115, 117, 109, 101, 32, 100, 101, 108, 101, 116, 101])) h) :
  ACalls Tryz.prog 65 [.str s] h R := by
 refine ACalls.pure ?_ hR
 clear hR
 refine acalls_of Tryz.func65 rfl Tryz.ntmps65 (congrArg Array.toList Tryz.results65) fun Q hQ => ?_
 (focus repeat' first|refine ga ?_|(refine gb ?_;try simp[gz, *])|refine gk fun _ _=>?_|refine gc ?_ ?_|exact gr _|refine gi fun _=>?_|(refine gn ?_ ?_;focus(intros;simp[*];done)))
 refine among_c s _ (by decide) _ hg _ ?_
 simp [gz, *]
 (focus repeat' first|refine ga ?_|(refine gb ?_;try simp[gz, *])|refine gk fun _ _=>?_|refine gc ?_ ?_|exact gr _|refine gi fun _=>?_|(refine gn ?_ ?_;focus(intros;simp[*];done)))
 all_goals exact Sub.refl _
end Go.Proofs.YtcbgpjlcfkkdlaaGreatDoor

namespace Go.Proofs.YtcbgpjlcfkkdlaaGreatDoor
open Go Go.AL Go.Proofs
def byteAt (s : List UInt8) (j : Nat) : Int := ((s.getD j 0).toNat : Int)
def letterB (c : Int) : Bool := decide (97 ≤ c) && decide (c ≤ 122) || decide (65 ≤ c) && decide (c ≤ 90) || decide (c = 95)
def okB (s : List UInt8) (j : Nat) : Bool := letterB (byteAt s j) || !(decide (j = 0) || decide (byteAt s j < 48) || decide (57 < byteAt s j))
def nmL (s : List UInt8) : Bool := decide (s ≠ [] ∧ ∀ j, j < s.length → okB s j = true)
theorem nm_false {s : List UInt8} {i : Nat} (hi : i < s.length) (hb : okB s i = false) : nmL s = false := by
 simp only [nmL, decide_eq_false_iff_not, not_and]
 intro _ h
 rw [h i hi] at hb; cases hb
theorem nm_true {s : List UInt8} {i : Nat} (hi : s.length ≤ i) (hb : ∀ j, j < i → okB s j = true) : nmL s = !decide (s = []) := by
 simp only [nmL]
 by_cases e : s = []
 ·simp [e]
 ·simp only [e, ne_eq, not_false_eq_true, true_and, decide_false, Bool.not_false, decide_eq_true_eq]
  intro j hj; exact hb j (by omega)
theorem byteAt_get {s : List UInt8} {i : Nat} (hi : i < s.length) : byteAt s i = (s[i].toNat : Int) := by simp [byteAt, List.getD, hi]
theorem Name_c (s : List UInt8) (hs : s.length < 9223372036854775807) (h : Heap) (R : AV → Heap → Prop) (hR : R (.bool (nmL s)) h) : ACalls Tryz.prog 105 [.str s] h R := by
 refine ACalls.pure ?_ hR
 clear hR
 refine acalls_of Tryz.func105 rfl Tryz.ntmps105 (congrArg Array.toList Tryz.results105) fun Q hQ => ?_
 (focus repeat' first|refine ga ?_|(refine gb ?_;try simp[gz, *])|refine gk fun _ _=>?_)
 refine awp_loop_h [2,3,4,5,8,9,10,11,12,13,14,15,16,17,18,19,20,21,22,23,24,25,26,27,28,29,30,31,32,33,34,35,36,37,38,39,40,41,42,43,44,45,46] (fun n x g => ∃ i : Nat, i ≤ s.length ∧ n = s.length - i ∧ x 8 = .int .i64 i ∧ (∀ j, j < i → okB s j = true) ∧ g = h) s.length ⟨0, by omega, by omega, rfl, by simp, rfl⟩ (fun n x g hI K hK => ?_)
 obtain ⟨i, hi, rfl, hx, hn, rfl⟩ := hI
 have w1 : IntKind.i64.wrap ((i : Int) + 1) = i + 1 := w64 (by omega) (by omega)
 simp (maxSteps := 10000000) only [AgainAt, hav_nil, hav_end, hav_cons, Nat.reduceAdd, Nat.reduceEqDiff, if_true, if_false]
 (focus repeat' first|refine ga ?_|(refine gb ?_;try simp[gz, *])|refine gk fun _ _=>?_|refine gc ?_ ?_|exact gr _|refine gi fun _=>?_|(refine gn ?_ ?_;focus(intros;simp[*];done)))
 ·have h1 : i < s.length := by assumption
  have h2 := byteAt_get h1
  have h3 : okB s i = false := by
   simp only [okB, letterB, h2]
   simp
   omega
  simp [nm_false h1 h3]
  exact Sub.refl _
 ·have h1 : i < s.length := by assumption
  have h2 := byteAt_get h1
  have h3 : okB s i = true := by
   simp only [okB, letterB, h2]
   simp
   omega
  exact ⟨by simp [hav], rfl, s.length - (i + 1), _, by omega, Sub.refl _, i + 1, by omega, rfl, by simp, fun j hj => by
   by_cases e : j < i
   ·exact hn j e
   ·have : j = i := by omega
    subst this; exact h3, rfl⟩
 ·have h1 : s.length ≤ i := by assumption
  simp [nm_true h1 hn]
  exact Sub.refl _
def wordsB : List UInt8 := [32, 98, 97, 115, 101, 32, 98, 114, 101, 97, 107, 32, 99, 97, 115, 101, 32, 99, 97, 116, 99, 104, 32, 99, 108, 97, 115, 115, 32, 99, 108, 111, 110, 101, 32, 99, 111, 110, 115, 116, 32, 99, 111, 110, 115, 116, 114, 117, 99, 116, 111, 114, 32, 99, 111, 110, 116, 105, 110, 117, 101, 32, 100, 101, 102, 97, 117, 108, 116, 32, 100, 101, 108, 101, 116, 101, 32, 100, 111, 32, 101, 108, 115, 101, 32, 101, 110, 117, 109, 32, 101, 120, 116, 101, 110, 100, 115, 32, 102, 97, 108, 115, 101, 32, 102, 111, 114, 32, 102, 111, 114, 101, 97, 99, 104, 32, 102, 117, 110, 99, 116, 105, 111, 110, 32, 105, 102, 32, 105, 110, 32, 105, 110, 115, 116, 97, 110, 99, 101, 111, 102, 32, 108, 111, 99, 97, 108, 32, 110, 117, 108, 108, 32, 114, 101, 115, 117, 109, 101, 32, 114, 101, 116, 117, 114, 110, 32, 115, 116, 97, 116, 105, 99, 32, 115, 119, 105, 116, 99, 104, 32, 116, 104, 105, 115, 32, 116, 104, 114, 111, 119, 32, 116, 114, 117, 101, 32, 116, 114, 121, 32, 116, 121, 112, 101, 111, 102, 32, 119, 104, 105, 108, 101, 32, 121, 105, 101, 108, 100, 32]
def keyL (s : List UInt8) : Bool := nmL s && Lib.contains wordsB ([32] ++ s ++ [32])
theorem Keyword_c (s : List UInt8) (hs : s.length < 4294967200) (h : Heap) (hg : h 0 = some .gint) (R : AV → Heap → Prop) (hR : R (.bool (keyL s)) h) : ACalls Tryz.prog 99 [.str s] h R := by
 refine ACalls.pure ?_ hR
 clear hR
 cases hn : nmL s
 ·refine acalls_of Tryz.func99 rfl Tryz.ntmps99 (congrArg Array.toList Tryz.results99) fun Q hQ => ?_
  (focus repeat' first|refine ga ?_|(refine gb ?_;try simp[gz, *])|refine gk fun _ _=>?_)
  refine Name_c s (by omega) _ _ ?_
  simp [gz, *]
  (focus repeat' first|refine ga ?_|(refine gb ?_;try simp[gz, *])|refine gk fun _ _=>?_)
  exact ⟨by simp [keyL, hn], Sub.refl _⟩
 ·refine acalls_of Tryz.func99 rfl Tryz.ntmps99 (congrArg Array.toList Tryz.results99) fun Q hQ => ?_
  (focus repeat' first|refine ga ?_|(refine gb ?_;try simp[gz, *])|refine gk fun _ _=>?_)
  refine Name_c s (by omega) _ _ ?_
  simp [gz, *]
  (focus repeat' first|refine ga ?_|(refine gb ?_;try simp[gz, *])|refine gk fun _ _=>?_)
  refine Contains_c wordsB _ (by decide) _ hg _ ?_
  simp [gz, *]
  (focus repeat' first|refine ga ?_|(refine gb ?_;try simp[gz, *])|refine gk fun _ _=>?_)
  exact ⟨by simp [keyL, hn], Sub.refl _⟩
def nameL (s : List UInt8) : Bool := nmL s && !keyL s
theorem name_c (s : List UInt8) (hs : s.length < 4294967200) (h : Heap) (hg : h 0 = some .gint) (R : AV → Heap → Prop) (hR : R (.bool (nameL s)) h) : ACalls Tryz.prog 64 [.str s] h R := by
 refine ACalls.pure ?_ hR
 clear hR
 cases hn : nmL s
 ·refine acalls_of Tryz.func64 rfl Tryz.ntmps64 (congrArg Array.toList Tryz.results64) fun Q hQ => ?_
  (focus repeat' first|refine ga ?_|(refine gb ?_;try simp[gz, *])|refine gk fun _ _=>?_)
  refine Name_c s (by omega) _ _ ?_
  simp [gz, *]
  (focus repeat' first|refine ga ?_|(refine gb ?_;try simp[gz, *])|refine gk fun _ _=>?_)
  exact ⟨by simp [nameL, hn], Sub.refl _⟩
 ·refine acalls_of Tryz.func64 rfl Tryz.ntmps64 (congrArg Array.toList Tryz.results64) fun Q hQ => ?_
  (focus repeat' first|refine ga ?_|(refine gb ?_;try simp[gz, *])|refine gk fun _ _=>?_)
  refine Name_c s (by omega) _ _ ?_
  simp [gz, *]
  (focus repeat' first|refine ga ?_|(refine gb ?_;try simp[gz, *])|refine gk fun _ _=>?_)
  refine Keyword_c s hs _ hg _ ?_
  simp [gz, *]
  (focus repeat' first|refine ga ?_|(refine gb ?_;try simp[gz, *])|refine gk fun _ _=>?_)
  exact ⟨by simp [nameL, hn], Sub.refl _⟩
end Go.Proofs.YtcbgpjlcfkkdlaaGreatDoor

namespace Go.Proofs.YtcbgpjlcfkkdlaaGreatDoor
open Go Go.AL Go.Proofs Go.RowKit
theorem int_inv {F : Fin} {v : Value} {k : IntKind} {n : Int} (h : Rep F v (.int k n)) : v = .int k n := by cases h; rfl
theorem repL_str_int {F : Fin} {cargs : Array Value} {s : List UInt8} {k : IntKind} {n : Int} (h : RepL F cargs [.str s, .int k n]) : ∃ a : ByteArray, cargs = #[.string a, .int k n] ∧ a.data.toList = s := by
 obtain ⟨hl, hr⟩ := h
 obtain ⟨l⟩ := cargs
 match l, hl with
 | [x, y], _ =>
  have h0 := hr 0 (by simp)
  have h1 := hr 1 (by simp)
  simp [Array.getD] at h0 h1
  obtain ⟨a, rfl, ha⟩ := h0.str_inv
  obtain rfl := int_inv h1
  exact ⟨a, rfl, ha⟩
theorem repL_int2 {F : Fin} {cargs : Array Value} {k k' : IntKind} {n n' : Int} (h : RepL F cargs [.int k n, .int k' n']) : cargs = #[.int k n, .int k' n'] := by
 obtain ⟨hl, hr⟩ := h
 obtain ⟨l⟩ := cargs
 match l, hl with
 | [x, y], _ =>
  have h0 := hr 0 (by simp)
  have h1 := hr 1 (by simp)
  simp [Array.getD] at h0 h1
  obtain rfl := int_inv h0
  obtain rfl := int_inv h1
  rfl
theorem HasPrefix_c (s p : List UInt8) (h : Heap) (hg : h 0 = some .gint) (R : AV → Heap → Prop) (hR : R (.bool (Lib.hasPrefix s p)) h) : ACalls Tryz.prog 35 [.str s, .str p] h R := by
 refine acalls_str2 hg (fun a b m w ea eb hm => ?_) hR
 subst ea eb
 refine (Tryz.strings_HasPrefix a b w).mono ?_
 rintro e w' ⟨rfl, rfl⟩
 exact ⟨⟨_, rfl, fun F => .bool _⟩, 0, rfl⟩
theorem SIndex_c (s sub : List UInt8) (hs : s.length < 4294967281) (h : Heap) (hg : h 0 = some .gint) (R : AV → Heap → Prop) (hR : R (.int .i64 (Lib.index s sub)) h) : ACalls Tryz.prog 56 [.str s, .str sub] h R := by
 refine acalls_str2 hg (fun a b m w ea eb hm => ?_) hR
 subst ea eb
 refine (Tryz.strings_Index a b m w (by simpa using hs) hm).mono ?_
 rintro e w' ⟨rfl, rfl⟩
 exact ⟨⟨_, rfl, fun F => .int _ _⟩, 0, rfl⟩
theorem CutPrefix_c (s p : List UInt8) (h : Heap) (hg : h 0 = some .gint) (R : AV → Heap → Prop) (hR : R (.tup [.str (Lib.trimPrefix s p), .bool (Lib.hasPrefix s p)]) h) : ACalls Tryz.prog 100 [.str s, .str p] h R := by
 refine acalls_str2 hg (fun a b m w ea eb hm => ?_) hR
 subst ea eb
 refine (Tryz.strings_CutPrefix a b w).mono ?_
 rintro e w' ⟨rfl, rfl⟩
 refine ⟨⟨_, rfl, fun F => .tup _ _ rfl fun i hi => ?_⟩, 0, rfl⟩
 have hi' : i < 2 := hi
 match i, hi' with
 | 0, _ => exact .str _ _ rfl
 | 1, _ => exact .bool _
theorem TrimLeft_c (s : List UInt8) (c : UInt8) (hc : c.toNat < 128) (h : Heap) (hg : h 0 = some .gint) (R : AV → Heap → Prop) (hR : R (.str (Lib.trimLeftB s c)) h) : ACalls Tryz.prog 101 [.str s, .str [c]] h R := by
 refine acalls_str2 hg (fun a b m w ea eb hm => ?_) hR
 subst ea
 have : b = ⟨#[c]⟩ := by
  cases b with
  | mk d => cases d with
   | mk l => simp at eb; rw [eb]
 subst this
 refine (Tryz.strings_TrimLeft_one a c hc w).mono ?_
 rintro e w' ⟨rfl, rfl⟩
 exact ⟨⟨_, rfl, fun F => .str _ _ rfl⟩, 0, rfl⟩
theorem IndexByte_c (s : List UInt8) (c : UInt8) (h : Heap) (R : AV → Heap → Prop) (hR : R (.int .i64 (Lib.indexByte s c)) h) : ACalls Tryz.prog 55 [.str s, .int .u8 c.toNat] h R := by
 intro w0 F w cargs hi ha
 obtain ⟨a, rfl, rfl⟩ := repL_str_int ha
 refine (Tryz.strings_IndexByte a c.toNat w).mono ?_
 rintro e w' ⟨rfl, rfl⟩
 have hc : ((c.toNat : Int).toNat.toUInt8) = c := by simp
 rw [hc]
 exact ⟨_, F, _, h, rfl, .refl F, hi, .int _ _, hR⟩
theorem Mul64_c (x y : Nat) (hx : x < 18446744073709551616) (hy : y < 18446744073709551616) (h : Heap) (R : AV → Heap → Prop) (hR : R (.tup [.int .u64 ((x * y / 18446744073709551616 : Nat) : Int), .int .u64 ((x * y % 18446744073709551616 : Nat) : Int)]) h) :
  ACalls Tryz.prog 74 [.int .u64 x, .int .u64 y] h R := by
 intro w0 F w cargs hi ha
 obtain rfl := repL_int2 ha
 refine (Tryz.bits_Mul64 x y hx hy w).mono ?_
 rintro e w' ⟨rfl, rfl⟩
 refine ⟨_, F, _, h, rfl, .refl F, hi, .tup _ _ rfl fun i hi => ?_, hR⟩
 have hi' : i < 2 := hi
 match i, hi' with
 | 0, _ => exact .int _ _
 | 1, _ => exact .int _ _
theorem Repeat_c (s : List UInt8) (c : Nat) (hc : c ≤ 100000) (hs : s.length ≤ 100000) (h : Heap) (R : AV → Heap → Prop) (hR : R (.str (Lib.repeatL s c)) h) : ACalls Tryz.prog 16 [.str s, .int .i64 c] h R := by
 intro w0 F w cargs hi ha
 obtain ⟨a, rfl, rfl⟩ := repL_str_int ha
 have hsz : a.size = a.data.toList.length := by simp
 refine (Tryz.strings_Repeat a c w (by omega) (by rw [hsz]; exact Nat.le_trans (Nat.mul_le_mul hs hc) (by decide))).mono ?_
 rintro e w' ⟨rfl, hb⟩
 exact ⟨_, F, _, h, rfl, .refl F, hi.of_below hb, .str _ _ rfl, hR⟩
theorem letter_c (c : UInt8) (h : Heap) (R : AV → Heap → Prop) (hR : R (.bool (letterX c)) h) : ACalls Tryz.prog 58 [.int .u8 c.toNat] h R := by
 refine ACalls.pure ?_ hR
 clear hR
 have e1 : letterX c = ((decide (97 ≤ c.toNat) && decide (c.toNat ≤ 122)) || (decide (65 ≤ c.toNat) && decide (c.toNat ≤ 90)) || decide (c.toNat = 95)) := by
  unfold letterX
  simp only [UInt8.le_iff_toNat_le, ← UInt8.toNat_inj]
  rfl
 rw [e1]
 obtain ⟨n, hn⟩ : ∃ n, c.toNat = n := ⟨_, rfl⟩
 rw [hn]
 clear e1 hn
 by_cases h1 : 97 ≤ n
 ·by_cases h2 : n ≤ 122
  ·refine acalls_of Tryz.func58 rfl Tryz.ntmps58 (congrArg Array.toList Tryz.results58) fun Q hQ => ?_
   (focus repeat' first|refine ga ?_|(refine gb ?_;try simp[gz, *])|refine gk fun _ _=>?_|refine gc ?_ ?_|exact gr _|refine gi fun _=>?_|(refine gn ?_ ?_;focus(intros;simp[*];done)))
   all_goals first | exact Sub.refl _ | (simp [*]; done) | exact ⟨by rw [Bool.eq_iff_iff]; simp only [Bool.or_eq_true, Bool.and_eq_true, decide_eq_true_eq]; omega, Sub.refl _⟩
  ·have h3 : ¬ n ≤ 90 := by omega
   have h4 : ¬ n = 95 := by omega
   by_cases h5 : 65 ≤ n
   ·refine acalls_of Tryz.func58 rfl Tryz.ntmps58 (congrArg Array.toList Tryz.results58) fun Q hQ => ?_
    (focus repeat' first|refine ga ?_|(refine gb ?_;try simp[gz, *])|refine gk fun _ _=>?_|refine gc ?_ ?_|exact gr _|refine gi fun _=>?_|(refine gn ?_ ?_;focus(intros;simp[*];done)))
    all_goals first | exact Sub.refl _ | (simp [*]; done) | exact ⟨by rw [Bool.eq_iff_iff]; simp only [Bool.or_eq_true, Bool.and_eq_true, decide_eq_true_eq]; omega, Sub.refl _⟩
   ·omega
 ·by_cases h5 : 65 ≤ n
  ·by_cases h6 : n ≤ 90
   ·refine acalls_of Tryz.func58 rfl Tryz.ntmps58 (congrArg Array.toList Tryz.results58) fun Q hQ => ?_
    (focus repeat' first|refine ga ?_|(refine gb ?_;try simp[gz, *])|refine gk fun _ _=>?_|refine gc ?_ ?_|exact gr _|refine gi fun _=>?_|(refine gn ?_ ?_;focus(intros;simp[*];done)))
    all_goals first | exact Sub.refl _ | (simp [*]; done) | exact ⟨by rw [Bool.eq_iff_iff]; simp only [Bool.or_eq_true, Bool.and_eq_true, decide_eq_true_eq]; omega, Sub.refl _⟩
   ·refine acalls_of Tryz.func58 rfl Tryz.ntmps58 (congrArg Array.toList Tryz.results58) fun Q hQ => ?_
    (focus repeat' first|refine ga ?_|(refine gb ?_;try simp[gz, *])|refine gk fun _ _=>?_)
    all_goals first | exact Sub.refl _ | (simp [*]; done) | exact ⟨by rw [Bool.eq_iff_iff]; simp only [Bool.or_eq_true, Bool.and_eq_true, decide_eq_true_eq]; omega, Sub.refl _⟩
  ·have h7 : ¬ n = 95 := by omega
   refine acalls_of Tryz.func58 rfl Tryz.ntmps58 (congrArg Array.toList Tryz.results58) fun Q hQ => ?_
   (focus repeat' first|refine ga ?_|(refine gb ?_;try simp[gz, *])|refine gk fun _ _=>?_|refine gc ?_ ?_|exact gr _|refine gi fun _=>?_|(refine gn ?_ ?_;focus(intros;simp[*];done)))
   all_goals first | exact Sub.refl _ | (simp [*]; done) | exact ⟨by rw [Bool.eq_iff_iff]; simp only [Bool.or_eq_true, Bool.and_eq_true, decide_eq_true_eq]; omega, Sub.refl _⟩
theorem digit_c (c : UInt8) (h : Heap) (R : AV → Heap → Prop) (hR : R (.bool (digitX c)) h) : ACalls Tryz.prog 60 [.int .u8 c.toNat] h R := by
 refine ACalls.pure ?_ hR
 clear hR
 have e1 : digitX c = (decide (48 ≤ c.toNat) && decide (c.toNat ≤ 57)) := by
  unfold digitX
  simp only [UInt8.le_iff_toNat_le]
  rfl
 rw [e1]
 obtain ⟨n, hn⟩ : ∃ n, c.toNat = n := ⟨_, rfl⟩
 rw [hn]
 clear e1 hn
 by_cases h1 : 48 ≤ n
 ·refine acalls_of Tryz.func60 rfl Tryz.ntmps60 (congrArg Array.toList Tryz.results60) fun Q hQ => ?_
  (focus repeat' first|refine ga ?_|(refine gb ?_;try simp[gz, *])|refine gk fun _ _=>?_)
  all_goals first | exact Sub.refl _ | (simp [*]; done) | exact ⟨by rw [Bool.eq_iff_iff]; simp only [Bool.or_eq_true, Bool.and_eq_true, decide_eq_true_eq]; omega, Sub.refl _⟩
 ·refine acalls_of Tryz.func60 rfl Tryz.ntmps60 (congrArg Array.toList Tryz.results60) fun Q hQ => ?_
  (focus repeat' first|refine ga ?_|(refine gb ?_;try simp[gz, *])|refine gk fun _ _=>?_|refine gc ?_ ?_|exact gr _|refine gi fun _=>?_|(refine gn ?_ ?_;focus(intros;simp[*];done)))
  all_goals first | exact Sub.refl _ | (simp [*]; done) | exact ⟨by rw [Bool.eq_iff_iff]; simp only [Bool.or_eq_true, Bool.and_eq_true, decide_eq_true_eq]; omega, Sub.refl _⟩
theorem word_c (c : UInt8) (h : Heap) (R : AV → Heap → Prop) (hR : R (.bool (wordX c)) h) : ACalls Tryz.prog 98 [.int .u8 c.toNat] h R := by
 refine ACalls.pure ?_ hR
 clear hR
 refine acalls_of Tryz.func98 rfl Tryz.ntmps98 (congrArg Array.toList Tryz.results98) fun Q hQ => ?_
 (focus repeat' first|refine ga ?_|(refine gb ?_;try simp[gz, *])|refine gk fun _ _=>?_)
 refine letter_c c _ _ ?_
 cases hl : letterX c
 ·simp [gz, *]
  (focus repeat' first|refine ga ?_|(refine gb ?_;try simp[gz, *])|refine gk fun _ _=>?_)
  refine digit_c c _ _ ?_
  simp [gz, *]
  (focus repeat' first|refine ga ?_|(refine gb ?_;try simp[gz, *])|refine gk fun _ _=>?_)
  all_goals first | exact ⟨by simp [wordX, *], Sub.refl _⟩ | exact Sub.refl _ | (simp [wordX, *]; done)
 ·simp [gz, *]
  (focus repeat' first|refine ga ?_|(refine gb ?_;try simp[gz, *])|refine gk fun _ _=>?_)
  all_goals first | exact ⟨by simp [wordX, *], Sub.refl _⟩ | exact Sub.refl _ | (simp [wordX, *]; done)
end Go.Proofs.YtcbgpjlcfkkdlaaGreatDoor

namespace Go.Proofs.YtcbgpjlcfkkdlaaGreatDoor
open Go Go.AL Go.Proofs
def signsB : List UInt8 := [62, 62, 62, 32, 60, 61, 62, 32, 60, 45, 32, 60, 60, 32, 62, 62, 32, 60, 61, 32, 62, 61, 32, 61, 61, 32, 33, 61, 32, 38, 38, 32, 124, 124, 32, 43, 43, 32, 45, 45, 32, 43, 61, 32, 45, 61, 32, 42, 61, 32, 47, 61, 32, 37, 61, 32, 58, 58, 32, 43, 32, 45, 32, 42, 32, 47, 32, 37, 32, 61, 32, 60, 32, 62, 32, 33, 32, 126, 32, 38, 32, 124, 32, 94, 32, 63, 32, 58, 32, 59, 32, 44, 32, 46, 32, 40, 32, 41, 32, 123, 32, 125, 32, 91, 32, 93]
theorem signs_split : Lib.split signsB [32] = signsW := by decide +kernel
abbrev signRows : List (List AV) := signsW.map fun p => [.str p]
abbrev lxRow (s : List UInt8) (i : Nat) (b : Bool) : List AV := [.str s, .int .i64 i, .bool b, .list 1 signRows .full]
structure Lx (B h : Heap) (s : List UInt8) (i : Nat) (b : Bool) (l : Nat) : Prop where
 sub : AL.Sub B h
 free : B l = none
 blk : h l = some (.cells (lxRow s i b))
section
variable {B h : Heap} {s : List UInt8} {i : Nat} {b : Bool} {l : Nat}
theorem Lx.put (lx : Lx B h s i b l) (i' : Nat) (b' : Bool) : Lx B (h.set l (.cells (lxRow s i' b'))) s i' b' l := ⟨lx.sub.loc lx.free _, lx.free, Heap.set_same _ _ _⟩
theorem Lx.isNone (lx : Lx B h s i b l) {c : Nat} (hc : h c = none) : B c = none := by
 cases e : B c with
 | none => rfl
 | some x => rw [lx.sub _ _ e] at hc; cases hc
theorem Lx.new (lx : Lx B h s i b l) {c : Nat} (hc : h c = none) (x : Blk) : Lx (B.set c x) (h.set c x) s i b l := by
 have hcl : ¬ l = c := fun e => by rw [← e, lx.blk] at hc; cases hc
 exact ⟨lx.sub.upd c x, by rw [Heap.set_other _ _ _ _ hcl]; exact lx.free, by rw [Heap.set_other _ _ _ _ hcl]; exact lx.blk⟩
theorem Lx.extra (lx : Lx B h s i b l) {c : Nat} (hc : h c = none) (x : Blk) : Lx B (h.set c x) s i b l := by
 have hcl : ¬ l = c := fun e => by rw [← e, lx.blk] at hc; cases hc
 exact ⟨lx.sub.loc (lx.isNone hc) _, lx.free, by rw [Heap.set_other _ _ _ _ hcl]; exact lx.blk⟩
theorem Lx.drop {x : Blk} {c : Nat} (lx : Lx (B.set c x) h s i b l) (hc : B c = none) : Lx B h s i b l := by
 have hl : B l = none := by
  by_cases e : l = c
  ·rw [e]; exact hc
  ·have := lx.free; rwa [Heap.set_other _ _ _ _ e] at this
 exact ⟨fun q y hq => lx.sub q y (by rw [Heap.set_other _ _ _ _ (fun e => by rw [e, hc] at hq; cases hq)]; exact hq), hl, lx.blk⟩
end
def wspan (s : List UInt8) (i : Nat) : Nat := ((s.drop i).takeWhile wordX).length
theorem wspan_end {s : List UInt8} {i : Nat} (h : s.length ≤ i) : wspan s i = 0 := by unfold wspan; rw [List.drop_eq_nil_of_le h]; rfl
theorem wspan_yes {s : List UInt8} {i : Nat} (h : i < s.length) (hw : wordX s[i] = true) : wspan s i = wspan s (i + 1) + 1 := by
 unfold wspan
 rw [List.drop_eq_getElem_cons h, List.takeWhile_cons, hw, if_pos rfl]
 rfl
theorem wspan_no {s : List UInt8} {i : Nat} (h : i < s.length) (hw : wordX s[i] = false) : wspan s i = 0 := by
 unfold wspan
 rw [List.drop_eq_getElem_cons h, List.takeWhile_cons, hw]
 rfl
theorem wspan_le {s : List UInt8} {i : Nat} (h : i ≤ s.length) : i + wspan s i ≤ s.length := by
 have h1 := (List.takeWhile_prefix (p := wordX) (l := s.drop i)).length_le
 rw [List.length_drop] at h1
 unfold wspan
 omega
def spanW (s : List UInt8) (i : Nat) : List UInt8 := (s.drop i).take (wspan s i)
theorem while_c (s : List UInt8) (i : Nat) (b : Bool) (l : Nat) (hi : i ≤ s.length) (hs : s.length ≤ 262144) (B h : Heap) (lx : Lx B h s i b l) (R : AV → Heap → Prop) (hR : ∀ g, Lx B g s (i + wspan s i) b l → R (.str (spanW s i)) g) :
  ACalls Tryz.prog 97 [.ptr l 0, .fn 98 []] h R := by
 have hl := lx.blk
 have hfin := wspan_le hi
 replace hR := Shut.mk hR
 refine acalls_of Tryz.func97 rfl Tryz.ntmps97 (congrArg Array.toList Tryz.results97) fun Q hQ => ?_
 (focus repeat' first|refine ga ?_|(refine gb ?_;try simp[gz, *])|refine gk fun _ _=>?_)
 refine awp_loop_h [10,11,12,13,14,15,16,17,18,19,20,21,22,23,24,25,26,27,28,29,30,31,32,33,34,35,36,37,38,39] (fun n x g => ∃ j : Nat, i ≤ j ∧ j ≤ s.length ∧ n = s.length - j ∧ wspan s j + (j - i) = wspan s i ∧ Lx B g s j b l) (s.length - i) ⟨i, by omega, hi, rfl, by omega, lx⟩ (fun n x g hI K hK => ?_)
 clear hl lx
 obtain ⟨j, h1, h2, rfl, h3, lx⟩ := hI
 have hl := lx.blk
 have w1 : IntKind.i64.wrap ((j : Int) + 1) = ((j + 1 : Nat) : Int) := by rw [w64 (by omega) (by omega)]; omega
 by_cases hj : j < s.length
 ·have hji : (j : Int) < s.length := by omega
  have hget : s[j]? = some s[j] := List.getElem?_eq_getElem hj
  obtain ⟨c, hc⟩ : ∃ c, s[j] = c := ⟨_, rfl⟩
  rw [hc] at hget
  cases hw : wordX c
  ·have e1 : wspan s j = 0 := wspan_no hj (by rw [hc]; exact hw)
   have e2 : j = i + wspan s i := by omega
   have hfi := hR.out g (e2 ▸ lx)
   have e3 : spanW s i = (s.take j).drop i := by unfold spanW; rw [List.drop_take, e2, Nat.add_sub_cancel_left]
   rw [e3] at hfi
   replace hfi := Shut.mk hfi
   clear e1 e2 e3 h3 hfin
   refine awp_eqs (s' := [_,_,_,_,_,_,_,_,_,_,x 10,x 11,x 12,x 13,x 14,x 15,x 16,x 17,x 18,x 19,x 20,x 21,x 22,x 23,x 24,x 25,x 26,x 27,x 28,x 29,x 30,x 31,x 32,x 33,x 34,x 35,x 36,x 37,x 38,x 39,_,_,_,_,_,_,_,_,_,_]) rfl ?_
   (focus repeat' first|refine ga ?_|(refine gb ?_;try simp[gz, *])|refine gk fun _ _=>?_)
   refine awp_region_draw [l] [(0,true),(1,true),(2,true),(3,true),(4,true),(5,true),(6,true),(7,true),(8,true),(9,true),(10,true),(11,true),(12,true),(13,true),(14,true),(15,true),(16,true),(17,true),(18,true),(19,true),(20,true),(21,false),(22,true)] [] follows (by kernel_rfl) rfl (by kernel_rfl) ?_; simp [gz, Heap.plus_set, *]
   (focus repeat' first|refine ga ?_|(refine gb ?_;try simp[gz, *])|refine gk fun _ _=>?_)
   refine word_c c _ _ ?_
   rw [hw]
   simp [gz, *]
   (focus repeat' first|refine ga ?_|(refine gb ?_;try simp[gz, *])|refine gk fun _ _=>?_)
   refine awp_region_quiet follows (by kernel_rfl) ?_; simp [gz, *]
   (focus repeat' first|refine ga ?_|(refine gb ?_;try simp[gz, *])|refine gk fun _ _=>?_)
   all_goals first | exact hfi.out
  ·have e1 : wspan s j = wspan s (j + 1) + 1 := wspan_yes hj (by rw [hc]; exact hw)
   have lx2 := lx.put (j + 1) b
   refine awp_eqs (s' := [_,_,_,_,_,_,_,_,_,_,x 10,x 11,x 12,x 13,x 14,x 15,x 16,x 17,x 18,x 19,x 20,x 21,x 22,x 23,x 24,x 25,x 26,x 27,x 28,x 29,x 30,x 31,x 32,x 33,x 34,x 35,x 36,x 37,x 38,x 39,_,_,_,_,_,_,_,_,_,_]) rfl ?_
   (focus repeat' first|refine ga ?_|(refine gb ?_;try simp[gz, *])|refine gk fun _ _=>?_)
   refine awp_region_draw [l] [(0,true),(1,true),(2,true),(3,true),(4,true),(5,true),(6,true),(7,true),(8,true),(9,true),(10,true),(11,true),(12,true),(13,true),(14,true),(15,true),(16,true),(17,true),(18,true),(19,true),(20,true),(21,false),(22,true)] [] follows (by kernel_rfl) rfl (by kernel_rfl) ?_; simp [gz, Heap.plus_set, *]
   (focus repeat' first|refine ga ?_|(refine gb ?_;try simp[gz, *])|refine gk fun _ _=>?_)
   refine word_c c _ _ ?_
   rw [hw]
   simp [gz, *]
   (focus repeat' first|refine ga ?_|(refine gb ?_;try simp[gz, *])|refine gk fun _ _=>?_)
   exact ⟨by kernel_rfl, rfl, s.length - (j + 1), _, by omega, Sub.refl _, j + 1, by omega, by omega, rfl, by omega, lx2⟩
 ·have hji : ¬ (j : Int) < s.length := by omega
  have e1 : wspan s j = 0 := wspan_end (by omega)
  have e2 : j = i + wspan s i := by omega
  have hfi := hR.out g (e2 ▸ lx)
  have e3 : spanW s i = (s.take j).drop i := by unfold spanW; rw [List.drop_take, e2, Nat.add_sub_cancel_left]
  rw [e3] at hfi
  replace hfi := Shut.mk hfi
  clear e1 e2 e3 h3 hfin
  refine awp_eqs (s' := [_,_,_,_,_,_,_,_,_,_,x 10,x 11,x 12,x 13,x 14,x 15,x 16,x 17,x 18,x 19,x 20,x 21,x 22,x 23,x 24,x 25,x 26,x 27,x 28,x 29,x 30,x 31,x 32,x 33,x 34,x 35,x 36,x 37,x 38,x 39,_,_,_,_,_,_,_,_,_,_]) rfl ?_
  (focus repeat' first|refine ga ?_|(refine gb ?_;try simp[gz, *])|refine gk fun _ _=>?_)
  refine awp_region_draw [l] [(0,true),(1,true),(2,true),(3,true),(4,true),(5,true),(6,true),(7,true),(8,true),(9,true),(10,true),(11,true),(12,true),(13,true),(14,true),(15,true),(16,true),(17,true),(18,true),(19,true),(20,true),(21,false),(22,true)] [] follows (by kernel_rfl) rfl (by kernel_rfl) ?_; simp [gz, Heap.plus_set, *]
  (focus repeat' first|refine ga ?_|(refine gb ?_;try simp[gz, *])|refine gk fun _ _=>?_)
  refine awp_region_quiet follows (by kernel_rfl) ?_; simp [gz, *]
  (focus repeat' first|refine ga ?_|(refine gb ?_;try simp[gz, *])|refine gk fun _ _=>?_)
  all_goals first | exact hfi.out
end Go.Proofs.YtcbgpjlcfkkdlaaGreatDoor

