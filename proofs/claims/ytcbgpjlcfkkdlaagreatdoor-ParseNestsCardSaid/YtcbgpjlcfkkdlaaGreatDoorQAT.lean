import Derived.Test.YtcbgpjlcfkkdlaaGreatDoorQAS
import Derived.Test.YtcbgpjlcfkkdlaaGreatDoorQAM
set_option linter.unusedSimpArgs false
set_option linter.unusedVariables false
set_option maxRecDepth 100000
set_option maxHeartbeats 16000000
namespace Go.Proofs.YtcbgpjlcfkkdlaaGreatDoor
open Go Go.AL Go.Proofs
def unesR (s : List UInt8) : Nat → Nat → List UInt8 → List UInt8 ⊕ Nat
  | 0, _, acc => .inl acc
  | n + 1, i, acc => if i < s.length then
      (if s.getD i 0 = 92 then (if (behR (s.drop (i + 1))).2 = 0 then .inr i else unesR s n (i + (behR (s.drop (i + 1))).2 + 1) (acc ++ [(behR (s.drop (i + 1))).1]))
       else unesR s n (i + 1) (acc ++ [s.getD i 0]))
    else .inl acc
theorem unesR_len (s : List UInt8) : ∀ n i acc l, unesR s n i acc = .inl l → l.length ≤ acc.length + n
  | 0, _, _, _, h => by simp only [unesR, Sum.inl.injEq] at h; rw [← h]; omega
  | n + 1, i, acc, l, h => by
    simp only [unesR] at h
    split at h
    · split at h
      · split at h
        · cases h
        · have := unesR_len s n _ _ _ h; simp only [List.length_append, List.length_singleton] at this; omega
      · have := unesR_len s n _ _ _ h; simp only [List.length_append, List.length_singleton] at this; omega
    · simp only [Sum.inl.injEq] at h; rw [← h]; omega
abbrev byteRows (l : List UInt8) : List (List AV) := l.map fun c => [.int .u8 c.toNat]
theorem grown_p {h : Heap} {b k e q : Nat} {t : Tok} (hqb : ¬ q = b) (hqt : ∀ k e, t ≠ .own q k e) : ((t.rid h).set b (.spare k e)) q = h q := by
  rw [Heap.set_other _ _ _ _ hqb]
  cases t with
  | own b' k' e' =>
    have h2 : ¬ q = b' := fun e => hqt k' e' (by rw [e])
    exact Heap.del_other _ _ _ h2
  | no => rfl
  | nil => rfl
  | full => rfl
theorem Unescape_c (s : List UInt8) (hs : s.length ≤ 262144) (h : Heap) (R : AV → Heap → Prop)
    (hR : R (match unesR s s.length 0 [] with | .inl t => .tup [.str t, .agg [.int .i64 0, .int .i64 0]] | .inr i => .tup [.str [], .agg [.int .i64 20, .int .i64 i]]) h) : ACalls Tryz.prog 104 [.str s] h R := by
  refine ACalls.pure ?_ hR
  clear hR
  obtain ⟨r, hr⟩ : ∃ r, unesR s s.length 0 [] = r := ⟨_, rfl⟩
  rw [hr]
  refine acalls_of Tryz.func104 rfl Tryz.ntmps104 (congrArg Array.toList Tryz.results104) fun Q hQ => ?_
  (focus repeat' first|refine ga ?_|(refine gb ?_;try simp[gz, *])|refine gk fun _ _=>?_|refine gc ?_ ?_|exact gr _|refine gi fun _=>?_|(refine gn ?_ ?_;focus(intros;simp[*];done)))
  intro b3 hb3; simp only [Fresh, Heap.set_none] at hb3; try simp [gz, *]
  (focus repeat' first|refine ga ?_|(refine gb ?_;try simp[gz, *])|refine gk fun _ _=>?_|refine gc ?_ ?_|exact gr _|refine gi fun _=>?_|(refine gn ?_ ?_;focus(intros;simp[*];done)))
  intro b4 hb4
  simp only [Fresh, Heap.set_none] at hb4
  try simp [Heap.set_get, *]
  (focus repeat' first|refine ga ?_|(refine gb ?_;try simp[gz, *])|refine gk fun _ _=>?_|refine gc ?_ ?_|exact gr _|refine gi fun _=>?_|(refine gn ?_ ?_;focus(intros;simp[*];done)))
  have hb30 : h b3 = none := hb3
  refine awp_loop_h [2, 4, 5, 6, 7, 11, 12, 13, 14, 15, 16, 17, 18, 19, 20, 21, 22, 23, 24, 25, 26, 27, 28, 29, 30, 31, 32, 33, 34, 35, 36, 37, 38, 39, 40, 41, 42, 43, 44, 45] (fun m x g => ∃ (n i : Nat) (acc : List UInt8) (tk : Tok), m = n ∧ i ≤ s.length ∧ s.length - i ≤ n ∧ unesR s n i acc = r ∧ acc.length + n ≤ s.length ∧ x 4 = .list 1 (byteRows acc) tk ∧ x 5 = .int .i64 i ∧ TokIn g tk ∧ (∀ b k e, tk = .own b k e → h b = none ∧ ¬ b = b3) ∧ g b3 = some (.cells [.int .i64 0, .int .i64 0]) ∧ AL.Sub h g) s.length
    ⟨s.length, 0, [], .own b4 0 ((s.length : Int).toNat * 1), rfl, by omega, by omega, hr, by simp, by simp, by simp, by simp [Heap.set_get], fun b k e q1 => by injection q1 with q1; subst q1; exact ⟨hb4.2.2, hb4.2.1⟩, by simp [Heap.set_get, show ¬ b3 = b4 from fun e => hb4.2.1 e.symm], by (repeat (first | exact Sub.refl _ | refine Sub.loc ?_ (by simp [*]) _))⟩ (fun m x g hI K hK => ?_)
  clear hr
  obtain ⟨_, i, acc, tk, rfl, h1, h2, h4, h5, hx4, hx5, htk, htf, hg3, hsub⟩ := hI
  replace htf := Shut.mk htf
  by_cases hi : i < s.length
  · obtain ⟨m, rfl⟩ : ∃ k, m = k + 1 := ⟨m - 1, by omega⟩
    have hii : (i : Int) < s.length := by omega
    have hget : s[i]? = some s[i] := List.getElem?_eq_getElem hi
    have hgd : s.getD i 0 = s[i] := by simp [List.getD, hget]
    obtain ⟨c, hc⟩ : ∃ c, s[i] = c := ⟨_, rfl⟩
    rw [hc] at hget hgd
    simp only [unesR, if_pos hi, hgd] at h4
    clear hgd
    by_cases h92 : c = 92
    · subst h92
      rw [if_pos rfl] at h4
      obtain ⟨rest, hrest⟩ : ∃ t, s.drop (i + 1) = t := ⟨_, rfl⟩
      have hrl : rest.length = s.length - (i + 1) := by rw [← hrest, List.length_drop]
      obtain ⟨v, hv⟩ : ∃ v, behR rest = v := ⟨_, rfl⟩
      have hvl : v.2 ≤ rest.length := by rw [← hv]; exact behR_len rest
      rw [hrest, hv] at h4
      have w1 : IntKind.i64.wrap ((i : Int) + 1) = ((i + 1 : Nat) : Int) := by rw [w64 (by omega) (by omega)]; omega
      have hsl : ((i + 1 : Nat) : Int) ≤ s.length := by omega
      have hnn : (((i + 1 : Nat) : Int)).toNat = i + 1 := by omega
      obtain ⟨i1, hi1⟩ : ∃ i1, i1 = i + 1 := ⟨_, rfl⟩
      simp only [← hi1] at w1 hsl hnn hrest
      have hia : i1 ≤ i + 1 := by omega
      have hib : i + 1 ≤ i1 := by omega
      clear hi1
      by_cases hv0 : v.2 = 0
      · rw [if_pos hv0] at h4
        subst h4
        refine awp_eqs (s' := [_, _, x 2, _, x 4, x 5, x 6, x 7, _, _, _, x 11, x 12, x 13, x 14, x 15, x 16, x 17, x 18, x 19, x 20, x 21, x 22, x 23, x 24, x 25, x 26, x 27, x 28, x 29, x 30, x 31, x 32, x 33, x 34, x 35, x 36, x 37, x 38, x 39, x 40, x 41, x 42, x 43, x 44, x 45, _, _, _]) rfl ?_
        (focus repeat' first|refine ga ?_|(refine gb ?_;try simp[gz, *])|refine gk fun _ _=>?_|refine gc ?_ ?_|exact gr _|refine gi fun _=>?_|(refine gn ?_ ?_;focus(intros;simp[*];done)))
        refine behind_c rest (by omega) _ _ ?_
        rw [hv]
        simp [gz, *]
        (focus repeat' first|refine ga ?_|(refine gb ?_;try simp[gz, *])|refine gk fun _ _=>?_|refine gc ?_ ?_|exact gr _|refine gi fun _=>?_|(refine gn ?_ ?_;focus(intros;simp[*];done)))
        refine ⟨_, ⟨_, rfl, ?_, _, rfl, rfl⟩, ?_, ?_⟩
        · simp [Heap.set_get]
        · simp [aresult, Heap.set_get]
        · exact hsub.loc hb30 _
      · rw [if_neg hv0] at h4
        have hv0i : ¬ ((v.2 : Int) = 0) := by omega
        have w2 : IntKind.i64.wrap ((i : Int) + (v.2 : Int)) = ((i + v.2 : Nat) : Int) := by rw [w64 (by omega) (by omega)]; omega
        have w3 : IntKind.i64.wrap (((i + v.2 : Nat) : Int) + 1) = ((i + v.2 + 1 : Nat) : Int) := by rw [w64 (by omega) (by omega)]; omega
        obtain ⟨j, hj⟩ : ∃ j, j = i + v.2 := ⟨_, rfl⟩
        simp only [← hj] at w2 w3 h4
        have hja : j ≤ i + v.2 := by omega
        have hjb : i + v.2 ≤ j := by omega
        clear hj
        replace h4 := Shut.mk h4
        refine awp_eqs (s' := [_, _, x 2, _, x 4, x 5, x 6, x 7, _, _, _, x 11, x 12, x 13, x 14, x 15, x 16, x 17, x 18, x 19, x 20, x 21, x 22, x 23, x 24, x 25, x 26, x 27, x 28, x 29, x 30, x 31, x 32, x 33, x 34, x 35, x 36, x 37, x 38, x 39, x 40, x 41, x 42, x 43, x 44, x 45, _, _, _]) rfl ?_
        (focus repeat' first|refine ga ?_|(refine gb ?_;try simp[gz, *])|refine gk fun _ _=>?_|refine gc ?_ ?_|exact gr _|refine gi fun _=>?_|(refine gn ?_ ?_;focus(intros;simp[*];done)))
        refine behind_c rest (by omega) _ _ ?_
        rw [hv]
        simp [gz, *]
        (focus repeat' first|refine ga ?_|(refine gb ?_;try simp[gz, *])|refine gk fun _ _=>?_|refine gc ?_ ?_|exact gr _|refine gi fun _=>?_|(refine gn ?_ ?_;focus(intros;simp[*];done)))
        refine .inl ⟨htk, fun b k e hb => ?_⟩
        obtain ⟨hbh, hb3⟩ : h b = none ∧ ¬ b = b3 := by
          rcases hb with hb | ⟨_, _, hb⟩
          · refine ⟨?_, fun e => by rw [e, hg3] at hb; cases hb⟩
            cases e : h b with
            | none => rfl
            | some y => rw [hsub _ _ e] at hb; cases hb
          · exact htf.out _ _ _ hb
        obtain ⟨HG, hHG⟩ : ∃ HG, (tk.rid g).set b (.spare k e) = HG := ⟨_, rfl⟩
        have hG3 : HG b3 = some (.cells [.int .i64 0, .int .i64 0]) := by rw [← hHG, grown_p (fun e => hb3 e.symm) (fun k' e' q => (htf.out _ _ _ q).2 rfl)]; exact hg3
        have hGs : AL.Sub h HG := fun q y hq => by
          rw [← hHG, grown_p (fun e => by rw [e, hbh] at hq; cases hq) (fun k' e' t => by rw [(htf.out _ _ _ t).1] at hq; cases hq)]
          exact hsub _ _ hq
        have hGb : HG b = some (.spare k e) := by rw [← hHG, Heap.set_same]
        rw [hHG]
        clear hb hHG htk hg3 hsub
        replace hGs := Shut.mk hGs
        simp [gz, *]
        (focus repeat' first|refine ga ?_|(refine gb ?_;try simp[gz, *])|refine gk fun _ _=>?_|refine gc ?_ ?_|exact gr _|refine gi fun _=>?_|(refine gn ?_ ?_;focus(intros;simp[*];done)))
        exact ⟨by kernel_rfl, rfl, m, _, by omega, Sub.refl _, m, j + 1, acc ++ [v.1], .own b k e, rfl, by omega, by omega, h4.out, by simp only [List.length_append, List.length_singleton]; omega, by simp, by simp, hGb, fun b' k' e' q1 => by injection q1 with q1; subst q1; exact ⟨hbh, hb3⟩, hG3, hGs.out⟩
    · rw [if_neg h92] at h4
      have n92 : ¬ ((c.toNat : Int) = 92) := u8_ne h92
      have w1 : IntKind.i64.wrap ((i : Int) + 1) = ((i + 1 : Nat) : Int) := by rw [w64 (by omega) (by omega)]; omega
      replace h4 := Shut.mk h4
      clear h92
      refine awp_eqs (s' := [_, _, x 2, _, x 4, x 5, x 6, x 7, _, _, _, x 11, x 12, x 13, x 14, x 15, x 16, x 17, x 18, x 19, x 20, x 21, x 22, x 23, x 24, x 25, x 26, x 27, x 28, x 29, x 30, x 31, x 32, x 33, x 34, x 35, x 36, x 37, x 38, x 39, x 40, x 41, x 42, x 43, x 44, x 45, _, _, _]) rfl ?_
      (focus repeat' first|refine ga ?_|(refine gb ?_;try simp[gz, *])|refine gk fun _ _=>?_|refine gc ?_ ?_|exact gr _|refine gi fun _=>?_|(refine gn ?_ ?_;focus(intros;simp[*];done)))
      refine .inl ⟨htk, fun b k e hb => ?_⟩
      obtain ⟨hbh, hb3⟩ : h b = none ∧ ¬ b = b3 := by
        rcases hb with hb | ⟨_, _, hb⟩
        · refine ⟨?_, fun e => by rw [e, hg3] at hb; cases hb⟩
          cases e : h b with
          | none => rfl
          | some y => rw [hsub _ _ e] at hb; cases hb
        · exact htf.out _ _ _ hb
      obtain ⟨HG, hHG⟩ : ∃ HG, (tk.rid g).set b (.spare k e) = HG := ⟨_, rfl⟩
      have hG3 : HG b3 = some (.cells [.int .i64 0, .int .i64 0]) := by rw [← hHG, grown_p (fun e => hb3 e.symm) (fun k' e' q => (htf.out _ _ _ q).2 rfl)]; exact hg3
      have hGs : AL.Sub h HG := fun q y hq => by
        rw [← hHG, grown_p (fun e => by rw [e, hbh] at hq; cases hq) (fun k' e' t => by rw [(htf.out _ _ _ t).1] at hq; cases hq)]
        exact hsub _ _ hq
      have hGb : HG b = some (.spare k e) := by rw [← hHG, Heap.set_same]
      rw [hHG]
      clear hb hHG htk hg3 hsub
      replace hGs := Shut.mk hGs
      simp [gz, *]
      (focus repeat' first|refine ga ?_|(refine gb ?_;try simp[gz, *])|refine gk fun _ _=>?_|refine gc ?_ ?_|exact gr _|refine gi fun _=>?_|(refine gn ?_ ?_;focus(intros;simp[*];done)))
      exact ⟨by kernel_rfl, rfl, m, _, by omega, Sub.refl _, m, i + 1, acc ++ [c], .own b k e, rfl, by omega, by omega, h4.out, by simp only [List.length_append, List.length_singleton]; omega, by simp, by simp, hGb, fun b' k' e' q1 => by injection q1 with q1; subst q1; exact ⟨hbh, hb3⟩, hG3, hGs.out⟩
  · have hii : ¬ (i : Int) < s.length := by omega
    have h6 : r = .inl acc := by
      rw [← h4]
      cases m with
      | zero => rfl
      | succ m => simp only [unesR, if_neg hi]
    subst h6
    clear h4
    refine awp_eqs (s' := [_, _, x 2, _, x 4, x 5, x 6, x 7, _, _, _, x 11, x 12, x 13, x 14, x 15, x 16, x 17, x 18, x 19, x 20, x 21, x 22, x 23, x 24, x 25, x 26, x 27, x 28, x 29, x 30, x 31, x 32, x 33, x 34, x 35, x 36, x 37, x 38, x 39, x 40, x 41, x 42, x 43, x 44, x 45, _, _, _]) rfl ?_
    (focus repeat' first|refine ga ?_|(refine awp_ret ?_; try simp[gz, *])|(refine awp_skip ?_; try simp[gz, *])|(refine awp_exit ?_; try simp[gz, *])|(refine KeepQ.go (by assumption) ?_; try simp[gz, *])|(refine awp_cond' ?_; try simp[gz, *])|refine gk fun _ _=>?_|refine gc ?_ ?_|exact gr _|refine gi fun _=>?_|(refine gn ?_ ?_;focus(intros;simp[*];done)))
    (refine awp_region ?_; simp [Heap.set_get, *])
    (focus repeat' first|refine ga ?_|(refine awp_ret ?_; try simp[gz, *])|(refine awp_skip ?_; try simp[gz, *])|(refine awp_exit ?_; try simp[gz, *])|(refine KeepQ.go (by assumption) ?_; try simp[gz, *])|(refine awp_cond' ?_; try simp[gz, *])|refine gk fun _ _=>?_|refine gc ?_ ?_|exact gr _|refine gi fun _=>?_|(refine gn ?_ ?_;focus(intros;simp[*];done)))
    refine awp_region_op (pre := [_]) rfl rfl (aop_b2s rfl rfl rfl rfl acc tk) ?_
    simp [Heap.set_get, *]
    (focus repeat' first|refine ga ?_|(refine gb ?_;try simp[gz, *])|refine gk fun _ _=>?_|refine gc ?_ ?_|exact gr _|refine gi fun _=>?_|(refine gn ?_ ?_;focus(intros;simp[*];done)))
    refine ⟨_, ⟨_, rfl, ?_, _, rfl, rfl⟩, ?_, ?_⟩
    · simp [Heap.set_get]
    · simp [aresult, Heap.set_get]
    · exact hsub.loc hb30 _
end Go.Proofs.YtcbgpjlcfkkdlaaGreatDoor

namespace Go.Proofs.YtcbgpjlcfkkdlaaGreatDoor
open Go Go.AL Go.Proofs
section
variable {B h : Heap} {s : List UInt8} {i : Nat} {b : Bool} {l : Nat}
theorem Lx.setB {c : Nat} {x : Blk} (lx : Lx (B.set c x) h s i b l) (hc : B c = none) (y : Blk) : Lx (B.set c y) (h.set c y) s i b l := by
  have hn : ∀ q, (B.set c x) q = none → ¬ q = c ∧ B q = none := fun q h1 => by
    have h2 : ¬ q = c := fun e => by rw [e, Heap.set_same] at h1; cases h1
    exact ⟨h2, by rwa [Heap.set_other _ _ _ _ h2] at h1⟩
  obtain ⟨n1, n2⟩ := hn l lx.free
  refine ⟨fun q z hq => ?_, by rw [Heap.set_other _ _ _ _ n1]; exact n2, by rw [Heap.set_other _ _ _ _ n1]; exact lx.blk⟩
  by_cases e1 : q = c
  · subst e1
    rw [Heap.set_same] at hq ⊢
    exact hq
  · rw [Heap.set_other _ _ _ _ e1] at hq ⊢
    exact lx.sub q z (by rw [Heap.set_other _ _ _ _ e1]; exact hq)
end
abbrev tokAV (k : Int) (x : List UInt8) (n : Int) : AV := .agg [.int .i64 k, .int .i64 0, .str x, .int .i64 n, .bool false]
theorem spanW_len (s : List UInt8) (i : Nat) : (spanW s i).length ≤ s.length := by
  unfold spanW
  rw [List.length_take, List.length_drop]
  omega
theorem lname_c (s : List UInt8) (i : Nat) (b : Bool) (l : Nat) (hi : i ≤ s.length) (hs : s.length ≤ 262144) (B h : Heap) (h0 : B 0 = some .gint) (lx : Lx B h s i b l) (R : AV → Heap → Prop)
    (hR : ∀ g, Lx B g s (i + wspan s i) b l → R (tokAV (if keyL (spanW s i) = true then 2 else 1) (spanW s i) 0) g) :
    ACalls Tryz.prog 59 [.ptr l 0] h R := by
  have hl := lx.blk
  have hsl := spanW_len s i
  obtain ⟨t, ht⟩ : ∃ t, spanW s i = t := ⟨_, rfl⟩
  rw [ht] at hR hsl
  replace hR := Shut.mk hR
  refine acalls_of Tryz.func59 rfl Tryz.ntmps59 (congrArg Array.toList Tryz.results59) fun Q hQ => ?_
  (focus repeat' first|refine ga ?_|(refine gb ?_;try simp[gz, *])|refine gk fun _ _=>?_|refine gc ?_ ?_|exact gr _|refine gi fun _=>?_|(refine gn ?_ ?_;focus(intros;simp[*];done)))
  intro b2 hb2; simp only [Fresh, Heap.set_none] at hb2; have n_b2_l := ne_of_fresh hl (b := b2) (by simp [*]); try simp [gz, *]
  have z2 := lx.isNone hb2
  have lx1 := lx.new hb2 (.cells [.int .i64 0, .int .i64 0, .str [], .int .i64 0, .bool false])
  clear lx
  (focus repeat' first|refine ga ?_|(refine gb ?_;try simp[gz, *])|refine gk fun _ _=>?_|refine gc ?_ ?_|exact gr _|refine gi fun _=>?_|(refine gn ?_ ?_;focus(intros;simp[*];done)))
  refine while_c s i b l hi hs _ _ lx1 _ (fun g lx2 => ?_)
  rw [ht]
  clear lx1 hl
  have hl := lx2.blk
  have hb2' : g b2 = some (.cells [.int .i64 0, .int .i64 0, .str [], .int .i64 0, .bool false]) := lx2.sub _ _ (Heap.set_same _ _ _)
  have h02 := lx2.sub _ _ (gint_set (x := .cells [.int .i64 0, .int .i64 0, .str [], .int .i64 0, .bool false]) z2 h0)
  clear hb2
  simp [gz, *]
  (focus repeat' first|refine ga ?_|(refine gb ?_;try simp[gz, *])|refine gk fun _ _=>?_|refine gc ?_ ?_|exact gr _|refine gi fun _=>?_|(refine gn ?_ ?_;focus(intros;simp[*];done)))
  refine Keyword_c t (by omega) _ h02 _ ?_
  cases hk : keyL t
  · have hfi := hR.out _ ((lx2.setB z2 (.cells [.int .i64 1, .int .i64 0, .str t, .int .i64 0, .bool false])).drop z2)
    rw [hk, if_neg (by decide)] at hfi
    clear lx2
    replace hfi := Shut.mk hfi
    simp [gz, *]
    (focus repeat' first|refine ga ?_|(refine gb ?_;try simp[gz, *])|refine gk fun _ _=>?_|refine gc ?_ ?_|exact gr _|refine gi fun _=>?_|(refine gn ?_ ?_;focus(intros;simp[*];done)))
    exact hfi.out
  · have hfi := hR.out _ ((lx2.setB z2 (.cells [.int .i64 2, .int .i64 0, .str t, .int .i64 0, .bool false])).drop z2)
    rw [hk, if_pos rfl] at hfi
    clear lx2
    replace hfi := Shut.mk hfi
    simp [gz, *]
    (focus repeat' first|refine ga ?_|(refine gb ?_;try simp[gz, *])|refine gk fun _ _=>?_|refine gc ?_ ?_|exact gr _|refine gi fun _=>?_|(refine gn ?_ ?_;focus(intros;simp[*];done)))
    exact hfi.out
end Go.Proofs.YtcbgpjlcfkkdlaaGreatDoor

namespace Go.Proofs.YtcbgpjlcfkkdlaaGreatDoor
open Go Go.AL Go.Proofs
section
variable {B h : Heap} {s : List UInt8} {i : Nat} {b : Bool} {l : Nat}
theorem Lx.wr (lx : Lx B h s i b l) {c : Nat} (hc : B c = none) (hcl : ¬ l = c) (y : Blk) : Lx B (h.set c y) s i b l := ⟨lx.sub.loc hc _, lx.free, by rw [Heap.set_other _ _ _ _ hcl]; exact lx.blk⟩
end
def numbR (t : List UInt8) : Int × Int :=
  if Lib.hasPrefix t [48, 120] = true then
    (if (Lib.trimLeftB (Lib.trimPrefix t [48, 120]) 48).length = 16 then
      (if (parseR ((Lib.trimPrefix t [48, 120]).take ((Lib.trimPrefix t [48, 120]).length - 1)) 16).2 = 0 ∧ (parseR ((Lib.trimPrefix t [48, 120]).drop ((Lib.trimPrefix t [48, 120]).length - 1)) 16).2 = 0 then
        (bitOr .i64 (IntKind.i64.wrap ((parseR ((Lib.trimPrefix t [48, 120]).take ((Lib.trimPrefix t [48, 120]).length - 1)) 16).1 * 16)) (parseR ((Lib.trimPrefix t [48, 120]).drop ((Lib.trimPrefix t [48, 120]).length - 1)) 16).1, 0) else (0, 5))
    else parseR (Lib.trimPrefix t [48, 120]) 16)
  else if 1 < t.length ∧ t.getD 0 0 = 48 then (0, 5) else parseR t 10
abbrev Z36 : List AV := [.int .i64 0, .int .i64 0, .str [], .int .i64 0, .bool false]
abbrev Z28 : List AV := [.int .i64 0, .int .i64 0]
abbrev tokRes (k : Int) (x : List UInt8) (n : Int) : AV := .tup [.agg [.int .i64 k, .int .i64 0, .str x, .int .i64 n, .bool false], .agg [.int .i64 0, .int .i64 0]]
abbrev errRes (e a : Int) : AV := .tup [.agg [.int .i64 0, .int .i64 0, .str [], .int .i64 0, .bool false], .agg [.int .i64 e, .int .i64 a]]
theorem number_c (s : List UInt8) (i : Nat) (b : Bool) (l : Nat) (hi : i ≤ s.length) (hs : s.length ≤ 262144) (B h : Heap) (h0 : B 0 = some .gint) (lx : Lx B h s i b l) (R : AV → Heap → Prop)
    (hR : ∀ g, Lx B g s (i + wspan s i) b l → R (if (numbR (spanW s i)).2 = 0 then tokRes 3 (spanW s i) (numbR (spanW s i)).1 else errRes (numbR (spanW s i)).2 i) g) :
    ACalls Tryz.prog 61 [.ptr l 0] h R := by
  have hl := lx.blk
  have hsl := spanW_len s i
  obtain ⟨t, ht⟩ : ∃ t, spanW s i = t := ⟨_, rfl⟩
  rw [ht] at hR hsl
  obtain ⟨z, hz⟩ : ∃ z, numbR t = z := ⟨_, rfl⟩
  rw [hz] at hR
  replace hR := Shut.mk hR
  replace hz := Shut.mk hz
  refine acalls_of Tryz.func61 rfl Tryz.ntmps61 (congrArg Array.toList Tryz.results61) fun Q hQ => ?_
  (focus repeat' first|refine ga ?_|(refine gb ?_;try simp[gz, *])|refine gk fun _ _=>?_|refine gc ?_ ?_|exact gr _|refine gi fun _=>?_|(refine gn ?_ ?_;focus(intros;simp[*];done)))
  intro b2 hb2; simp only [Fresh, Heap.set_none] at hb2; have n_b2_l := ne_of_fresh hl (b := b2) (by simp [*]); try simp [gz, *]
  have z2 := lx.isNone hb2
  have lx1 := lx.new hb2 (.cells Z36)
  (focus repeat' first|refine ga ?_|(refine gb ?_;try simp[gz, *])|refine gk fun _ _=>?_|refine gc ?_ ?_|exact gr _|refine gi fun _=>?_|(refine gn ?_ ?_;focus(intros;simp[*];done)))
  intro b3 hb3
  simp only [Fresh, Heap.set_none] at hb3
  obtain ⟨n3', n3, hb3⟩ := hb3
  have n_b3_l := ne_of_fresh hl hb3
  have z3 := lx.isNone hb3
  have hz3 : (h.set b2 (.cells Z36)) b3 = none := by rw [Heap.set_other _ _ _ _ n3]; exact hb3
  have hz3' : (B.set b2 (.cells Z36)) b3 = none := by rw [Heap.set_other _ _ _ _ n3]; exact z3
  have lx2 := lx1.new hz3 (.cells Z28)
  clear lx lx1
  try simp [Heap.set_get, *]
  (focus repeat' first|refine ga ?_|(refine gb ?_;try simp[gz, *])|refine gk fun _ _=>?_|refine gc ?_ ?_|exact gr _|refine gi fun _=>?_|(refine gn ?_ ?_;focus(intros;simp[*];done)))
  refine while_c s i b l hi hs _ _ lx2 _ (fun g lx3 => ?_)
  rw [ht]
  clear lx2 hl hb2 hb3
  have hl := lx3.blk
  have hb3 : g b3 = some (.cells Z28) := lx3.sub _ _ (Heap.set_same _ _ _)
  have hb2 : g b2 = some (.cells Z36) := lx3.sub _ _ (by rw [Heap.set_other _ _ _ _ n3']; exact Heap.set_same _ _ _)
  have h03 : g 0 = some .gint := lx3.sub _ _ (gint_set (x := .cells Z28) hz3' (gint_set (x := .cells Z36) z2 h0))
  replace hz := hz.out
  unfold numbR at hz
  obtain ⟨d, hd⟩ : ∃ d, Lib.trimPrefix t [48, 120] = d := ⟨_, rfl⟩
  have hdl : d.length ≤ t.length := by
    rw [← hd]
    unfold Lib.trimPrefix
    split
    · rw [List.length_drop]; omega
    · exact Nat.le_refl _
  rw [hd] at hz
  cases hx : Lib.hasPrefix t [48, 120]
  · rw [hx, if_neg (by decide)] at hz
    by_cases h1 : 1 < t.length
    · have h1i : (1 : Int) < t.length := by omega
      have h0l : 0 < t.length := by omega
      have hget : t[0]? = some t[0] := List.getElem?_eq_getElem h0l
      have hgd : t.getD 0 0 = t[0] := by simp [List.getD, hget]
      obtain ⟨c, hc⟩ : ∃ c, t[0] = c := ⟨_, rfl⟩
      rw [hc] at hget hgd
      rw [hgd] at hz
      clear hgd
      by_cases h48 : c = 48
      · subst h48
        rw [if_pos ⟨h1, rfl⟩] at hz
        have hfi := hR.out _ (((lx3.drop hz3').drop z2).wr z2 n_b2_l (.cells Z36) |>.wr z3 n_b3_l (.cells [.int .i64 (5), .int .i64 i]))
        rw [← hz, if_neg (by decide)] at hfi
        clear lx3
        replace hfi := Shut.mk hfi
        simp [gz, *]
        (focus repeat' first|refine ga ?_|(refine gb ?_;try simp[gz, *])|refine gk fun _ _=>?_|refine gc ?_ ?_|exact gr _|refine gi fun _=>?_|(refine gn ?_ ?_;focus(intros;simp[*];done)))
        refine CutPrefix_c t [48, 120] _ h03 _ ?_
        rw [hd, hx]
        simp [gz, *]
        (focus repeat' first|refine ga ?_|(refine gb ?_;try simp[gz, *])|refine gk fun _ _=>?_|refine gc ?_ ?_|exact gr _|refine gi fun _=>?_|(refine gn ?_ ?_;focus(intros;simp[*];done)))
        refine ⟨_, ⟨?_, _, rfl, ?_, _, rfl, rfl⟩, ?_⟩
        · simp [Heap.set_get, *]
        · simp [Heap.set_get, *]
        · simp [aresult, Heap.set_get, *]
          exact hfi.out
      · rw [if_neg (fun e => h48 e.2)] at hz
        have n48 : ¬ ((c.toNat : Int) = 48) := u8_ne h48
        obtain ⟨v, hv⟩ : ∃ v, parseR t 10 = v := ⟨_, rfl⟩
        rw [hv] at hz
        simp [gz, *]
        (focus repeat' first|refine ga ?_|(refine gb ?_;try simp[gz, *])|refine gk fun _ _=>?_|refine gc ?_ ?_|exact gr _|refine gi fun _=>?_|(refine gn ?_ ?_;focus(intros;simp[*];done)))
        refine CutPrefix_c t [48, 120] _ h03 _ ?_
        rw [hd, hx]
        simp [gz, *]
        (focus repeat' first|refine ga ?_|(refine gb ?_;try simp[gz, *])|refine gk fun _ _=>?_|refine gc ?_ ?_|exact gr _|refine gi fun _=>?_|(refine gn ?_ ?_;focus(intros;simp[*];done)))
        subst hz
        refine NParse_c t 10 (by decide) (by decide) (by omega) _ h03 _ ?_
        rw [hv]
        by_cases hv2 : v.2 = 0
        · skip
          have hfi := hR.out _ (((lx3.drop hz3').drop z2).wr z2 n_b2_l (.cells [.int .i64 3, .int .i64 0, .str t, .int .i64 v.1, .bool false]) |>.wr z3 n_b3_l (.cells Z28))
          rw [if_pos hv2] at hfi
          clear lx3
          replace hfi := Shut.mk hfi
          simp [gz, *]
          (focus repeat' first|refine ga ?_|(refine gb ?_;try simp[gz, *])|refine gk fun _ _=>?_|refine gc ?_ ?_|exact gr _|refine gi fun _=>?_|(refine gn ?_ ?_;focus(intros;simp[*];done)))
          refine ⟨_, ⟨?_, _, rfl, ?_, _, rfl, rfl⟩, ?_⟩
          · simp [Heap.set_get, *]
          · simp [Heap.set_get, *]
          · simp [aresult, Heap.set_get, *]
            exact hfi.out
        · skip
          have hfi := hR.out _ (((lx3.drop hz3').drop z2).wr z2 n_b2_l (.cells Z36) |>.wr z3 n_b3_l (.cells [.int .i64 v.2, .int .i64 i]))
          rw [if_neg hv2] at hfi
          clear lx3
          replace hfi := Shut.mk hfi
          simp [gz, *]
          (focus repeat' first|refine ga ?_|(refine gb ?_;try simp[gz, *])|refine gk fun _ _=>?_|refine gc ?_ ?_|exact gr _|refine gi fun _=>?_|(refine gn ?_ ?_;focus(intros;simp[*];done)))
          refine ⟨_, ⟨?_, _, rfl, ?_, _, rfl, rfl⟩, ?_⟩
          · simp [Heap.set_get, *]
          · simp [Heap.set_get, *]
          · simp [aresult, Heap.set_get, *]
            exact hfi.out
    · have h1i : ¬ (1 : Int) < t.length := by omega
      rw [if_neg (fun e => h1 e.1)] at hz
      obtain ⟨v, hv⟩ : ∃ v, parseR t 10 = v := ⟨_, rfl⟩
      rw [hv] at hz
      simp [gz, *]
      (focus repeat' first|refine ga ?_|(refine gb ?_;try simp[gz, *])|refine gk fun _ _=>?_|refine gc ?_ ?_|exact gr _|refine gi fun _=>?_|(refine gn ?_ ?_;focus(intros;simp[*];done)))
      refine CutPrefix_c t [48, 120] _ h03 _ ?_
      rw [hd, hx]
      simp [gz, *]
      (focus repeat' first|refine ga ?_|(refine gb ?_;try simp[gz, *])|refine gk fun _ _=>?_|refine gc ?_ ?_|exact gr _|refine gi fun _=>?_|(refine gn ?_ ?_;focus(intros;simp[*];done)))
      subst hz
      refine NParse_c t 10 (by decide) (by decide) (by omega) _ h03 _ ?_
      rw [hv]
      by_cases hv2 : v.2 = 0
      · skip
        have hfi := hR.out _ (((lx3.drop hz3').drop z2).wr z2 n_b2_l (.cells [.int .i64 3, .int .i64 0, .str t, .int .i64 v.1, .bool false]) |>.wr z3 n_b3_l (.cells Z28))
        rw [if_pos hv2] at hfi
        clear lx3
        replace hfi := Shut.mk hfi
        simp [gz, *]
        (focus repeat' first|refine ga ?_|(refine gb ?_;try simp[gz, *])|refine gk fun _ _=>?_|refine gc ?_ ?_|exact gr _|refine gi fun _=>?_|(refine gn ?_ ?_;focus(intros;simp[*];done)))
        refine ⟨_, ⟨?_, _, rfl, ?_, _, rfl, rfl⟩, ?_⟩
        · simp [Heap.set_get, *]
        · simp [Heap.set_get, *]
        · simp [aresult, Heap.set_get, *]
          exact hfi.out
      · skip
        have hfi := hR.out _ (((lx3.drop hz3').drop z2).wr z2 n_b2_l (.cells Z36) |>.wr z3 n_b3_l (.cells [.int .i64 v.2, .int .i64 i]))
        rw [if_neg hv2] at hfi
        clear lx3
        replace hfi := Shut.mk hfi
        simp [gz, *]
        (focus repeat' first|refine ga ?_|(refine gb ?_;try simp[gz, *])|refine gk fun _ _=>?_|refine gc ?_ ?_|exact gr _|refine gi fun _=>?_|(refine gn ?_ ?_;focus(intros;simp[*];done)))
        refine ⟨_, ⟨?_, _, rfl, ?_, _, rfl, rfl⟩, ?_⟩
        · simp [Heap.set_get, *]
        · simp [Heap.set_get, *]
        · simp [aresult, Heap.set_get, *]
          exact hfi.out
  · rw [hx, if_pos rfl] at hz
    obtain ⟨q, hq⟩ : ∃ q, Lib.trimLeftB d 48 = q := ⟨_, rfl⟩
    rw [hq] at hz
    by_cases h16 : q.length = 16
    · rw [if_pos h16] at hz
      have h16i : (q.length : Int) = 16 := by omega
      have hdq : q.length ≤ d.length := by
        rw [← hq]
        unfold Lib.trimLeftB
        exact (List.dropWhile_suffix _).length_le
      have hw1 : IntKind.i64.wrap ((d.length : Int) - 1) = ((d.length - 1 : Nat) : Int) := by rw [w64 (by omega) (by omega)]; omega
      have hd1 : ((d.length - 1 : Nat) : Int) ≤ d.length := by omega
      obtain ⟨d1, hd1e⟩ : ∃ x, x = d.length - 1 := ⟨_, rfl⟩
      simp only [← hd1e] at hw1 hd1 hz
      have hnn : ((d1 : Int)).toNat = d1 := by omega
      clear hd1e
      obtain ⟨v, hv⟩ : ∃ v, parseR (d.take d1) 16 = v := ⟨_, rfl⟩
      obtain ⟨u, hu⟩ : ∃ v, parseR (d.drop d1) 16 = v := ⟨_, rfl⟩
      rw [hv, hu] at hz
      have hlt : (d.take d1).length ≤ 262144 := by rw [List.length_take]; omega
      have hld : (d.drop d1).length ≤ 262144 := by rw [List.length_drop]; omega
      by_cases hv2 : v.2 = 0
      · by_cases hu2 : u.2 = 0
        · rw [if_pos ⟨hv2, hu2⟩] at hz
          have hfi := hR.out _ (((lx3.drop hz3').drop z2).wr z2 n_b2_l (.cells [.int .i64 3, .int .i64 0, .str t, .int .i64 (bitOr .i64 (IntKind.i64.wrap (v.1 * 16)) u.1), .bool false]) |>.wr z3 n_b3_l (.cells Z28))
          rw [← hz, if_pos rfl] at hfi
          clear lx3
          replace hfi := Shut.mk hfi
          simp [gz, *]
          (focus repeat' first|refine ga ?_|(refine gb ?_;try simp[gz, *])|refine gk fun _ _=>?_|refine gc ?_ ?_|exact gr _|refine gi fun _=>?_|(refine gn ?_ ?_;focus(intros;simp[*];done)))
          refine CutPrefix_c t [48, 120] _ h03 _ ?_
          rw [hd, hx]
          simp [gz, *]
          (focus repeat' first|refine ga ?_|(refine gb ?_;try simp[gz, *])|refine gk fun _ _=>?_|refine gc ?_ ?_|exact gr _|refine gi fun _=>?_|(refine gn ?_ ?_;focus(intros;simp[*];done)))
          refine TrimLeft_c d 48 (by decide) _ h03 _ ?_
          rw [hq]
          simp [gz, *]
          (focus repeat' first|refine ga ?_|(refine gb ?_;try simp[gz, *])|refine gk fun _ _=>?_|refine gc ?_ ?_|exact gr _|refine gi fun _=>?_|(refine gn ?_ ?_;focus(intros;simp[*];done)))
          refine NParse_c (d.take d1) 16 (by decide) (by decide) hlt _ h03 _ ?_
          rw [hv]
          simp [gz, *]
          (focus repeat' first|refine ga ?_|(refine gb ?_;try simp[gz, *])|refine gk fun _ _=>?_|refine gc ?_ ?_|exact gr _|refine gi fun _=>?_|(refine gn ?_ ?_;focus(intros;simp[*];done)))
          refine NParse_c (d.drop d1) 16 (by decide) (by decide) hld _ h03 _ ?_
          rw [hu]
          simp [gz, *]
          (focus repeat' first|refine ga ?_|(refine gb ?_;try simp[gz, *])|refine gk fun _ _=>?_|refine gc ?_ ?_|exact gr _|refine gi fun _=>?_|(refine gn ?_ ?_;focus(intros;simp[*];done)))
          refine ⟨_, ⟨?_, _, rfl, ?_, _, rfl, rfl⟩, ?_⟩
          · simp [Heap.set_get, *]
          · simp [Heap.set_get, *]
          · simp [aresult, Heap.set_get, *]
            exact hfi.out
        · rw [if_neg (fun e => hu2 e.2)] at hz
          have hfi := hR.out _ (((lx3.drop hz3').drop z2).wr z2 n_b2_l (.cells Z36) |>.wr z3 n_b3_l (.cells [.int .i64 (5), .int .i64 i]))
          rw [← hz, if_neg (by decide)] at hfi
          clear lx3
          replace hfi := Shut.mk hfi
          simp [gz, *]
          (focus repeat' first|refine ga ?_|(refine gb ?_;try simp[gz, *])|refine gk fun _ _=>?_|refine gc ?_ ?_|exact gr _|refine gi fun _=>?_|(refine gn ?_ ?_;focus(intros;simp[*];done)))
          refine CutPrefix_c t [48, 120] _ h03 _ ?_
          rw [hd, hx]
          simp [gz, *]
          (focus repeat' first|refine ga ?_|(refine gb ?_;try simp[gz, *])|refine gk fun _ _=>?_|refine gc ?_ ?_|exact gr _|refine gi fun _=>?_|(refine gn ?_ ?_;focus(intros;simp[*];done)))
          refine TrimLeft_c d 48 (by decide) _ h03 _ ?_
          rw [hq]
          simp [gz, *]
          (focus repeat' first|refine ga ?_|(refine gb ?_;try simp[gz, *])|refine gk fun _ _=>?_|refine gc ?_ ?_|exact gr _|refine gi fun _=>?_|(refine gn ?_ ?_;focus(intros;simp[*];done)))
          refine NParse_c (d.take d1) 16 (by decide) (by decide) hlt _ h03 _ ?_
          rw [hv]
          simp [gz, *]
          (focus repeat' first|refine ga ?_|(refine gb ?_;try simp[gz, *])|refine gk fun _ _=>?_|refine gc ?_ ?_|exact gr _|refine gi fun _=>?_|(refine gn ?_ ?_;focus(intros;simp[*];done)))
          refine NParse_c (d.drop d1) 16 (by decide) (by decide) hld _ h03 _ ?_
          rw [hu]
          simp [gz, *]
          (focus repeat' first|refine ga ?_|(refine gb ?_;try simp[gz, *])|refine gk fun _ _=>?_|refine gc ?_ ?_|exact gr _|refine gi fun _=>?_|(refine gn ?_ ?_;focus(intros;simp[*];done)))
          refine ⟨_, ⟨?_, _, rfl, ?_, _, rfl, rfl⟩, ?_⟩
          · simp [Heap.set_get, *]
          · simp [Heap.set_get, *]
          · simp [aresult, Heap.set_get, *]
            exact hfi.out
      · rw [if_neg (fun e => hv2 e.1)] at hz
        have hfi := hR.out _ (((lx3.drop hz3').drop z2).wr z2 n_b2_l (.cells Z36) |>.wr z3 n_b3_l (.cells [.int .i64 (5), .int .i64 i]))
        rw [← hz, if_neg (by decide)] at hfi
        clear lx3
        replace hfi := Shut.mk hfi
        simp [gz, *]
        (focus repeat' first|refine ga ?_|(refine gb ?_;try simp[gz, *])|refine gk fun _ _=>?_|refine gc ?_ ?_|exact gr _|refine gi fun _=>?_|(refine gn ?_ ?_;focus(intros;simp[*];done)))
        refine CutPrefix_c t [48, 120] _ h03 _ ?_
        rw [hd, hx]
        simp [gz, *]
        (focus repeat' first|refine ga ?_|(refine gb ?_;try simp[gz, *])|refine gk fun _ _=>?_|refine gc ?_ ?_|exact gr _|refine gi fun _=>?_|(refine gn ?_ ?_;focus(intros;simp[*];done)))
        refine TrimLeft_c d 48 (by decide) _ h03 _ ?_
        rw [hq]
        simp [gz, *]
        (focus repeat' first|refine ga ?_|(refine gb ?_;try simp[gz, *])|refine gk fun _ _=>?_|refine gc ?_ ?_|exact gr _|refine gi fun _=>?_|(refine gn ?_ ?_;focus(intros;simp[*];done)))
        refine NParse_c (d.take d1) 16 (by decide) (by decide) hlt _ h03 _ ?_
        rw [hv]
        simp [gz, *]
        (focus repeat' first|refine ga ?_|(refine gb ?_;try simp[gz, *])|refine gk fun _ _=>?_|refine gc ?_ ?_|exact gr _|refine gi fun _=>?_|(refine gn ?_ ?_;focus(intros;simp[*];done)))
        refine NParse_c (d.drop d1) 16 (by decide) (by decide) hld _ h03 _ ?_
        rw [hu]
        simp [gz, *]
        (focus repeat' first|refine ga ?_|(refine gb ?_;try simp[gz, *])|refine gk fun _ _=>?_|refine gc ?_ ?_|exact gr _|refine gi fun _=>?_|(refine gn ?_ ?_;focus(intros;simp[*];done)))
        refine ⟨_, ⟨?_, _, rfl, ?_, _, rfl, rfl⟩, ?_⟩
        · simp [Heap.set_get, *]
        · simp [Heap.set_get, *]
        · simp [aresult, Heap.set_get, *]
          exact hfi.out
    · rw [if_neg h16] at hz
      have h16i : ¬ (q.length : Int) = 16 := by omega
      obtain ⟨v, hv⟩ : ∃ v, parseR d 16 = v := ⟨_, rfl⟩
      rw [hv] at hz
      simp [gz, *]
      (focus repeat' first|refine ga ?_|(refine gb ?_;try simp[gz, *])|refine gk fun _ _=>?_|refine gc ?_ ?_|exact gr _|refine gi fun _=>?_|(refine gn ?_ ?_;focus(intros;simp[*];done)))
      refine CutPrefix_c t [48, 120] _ h03 _ ?_
      rw [hd, hx]
      simp [gz, *]
      (focus repeat' first|refine ga ?_|(refine gb ?_;try simp[gz, *])|refine gk fun _ _=>?_|refine gc ?_ ?_|exact gr _|refine gi fun _=>?_|(refine gn ?_ ?_;focus(intros;simp[*];done)))
      refine TrimLeft_c d 48 (by decide) _ h03 _ ?_
      rw [hq]
      simp [gz, *]
      (focus repeat' first|refine ga ?_|(refine gb ?_;try simp[gz, *])|refine gk fun _ _=>?_|refine gc ?_ ?_|exact gr _|refine gi fun _=>?_|(refine gn ?_ ?_;focus(intros;simp[*];done)))
      subst hz
      refine NParse_c d 16 (by decide) (by decide) (by omega) _ h03 _ ?_
      rw [hv]
      by_cases hv2 : v.2 = 0
      · skip
        have hfi := hR.out _ (((lx3.drop hz3').drop z2).wr z2 n_b2_l (.cells [.int .i64 3, .int .i64 0, .str t, .int .i64 v.1, .bool false]) |>.wr z3 n_b3_l (.cells Z28))
        rw [if_pos hv2] at hfi
        clear lx3
        replace hfi := Shut.mk hfi
        simp [gz, *]
        (focus repeat' first|refine ga ?_|(refine gb ?_;try simp[gz, *])|refine gk fun _ _=>?_|refine gc ?_ ?_|exact gr _|refine gi fun _=>?_|(refine gn ?_ ?_;focus(intros;simp[*];done)))
        refine ⟨_, ⟨?_, _, rfl, ?_, _, rfl, rfl⟩, ?_⟩
        · simp [Heap.set_get, *]
        · simp [Heap.set_get, *]
        · simp [aresult, Heap.set_get, *]
          exact hfi.out
      · skip
        have hfi := hR.out _ (((lx3.drop hz3').drop z2).wr z2 n_b2_l (.cells Z36) |>.wr z3 n_b3_l (.cells [.int .i64 v.2, .int .i64 i]))
        rw [if_neg hv2] at hfi
        clear lx3
        replace hfi := Shut.mk hfi
        simp [gz, *]
        (focus repeat' first|refine ga ?_|(refine gb ?_;try simp[gz, *])|refine gk fun _ _=>?_|refine gc ?_ ?_|exact gr _|refine gi fun _=>?_|(refine gn ?_ ?_;focus(intros;simp[*];done)))
        refine ⟨_, ⟨?_, _, rfl, ?_, _, rfl, rfl⟩, ?_⟩
        · simp [Heap.set_get, *]
        · simp [Heap.set_get, *]
        · simp [aresult, Heap.set_get, *]
          exact hfi.out
end Go.Proofs.YtcbgpjlcfkkdlaaGreatDoor

namespace Go.Proofs.YtcbgpjlcfkkdlaaGreatDoor
open Go Go.AL Go.Proofs
def rawR (s : List UInt8) (q : UInt8) (i : Nat) : Option (List UInt8) := (quoR s q (s.length - i) (i + 1)).map fun e => (s.take e).drop (i + 1)
theorem rawR_len {s : List UInt8} {q : UInt8} {i : Nat} {t : List UInt8} (h : rawR s q i = some t) : i + t.length + 2 ≤ s.length := by
  unfold rawR at h
  rw [Option.map_eq_some_iff] at h
  obtain ⟨e, h1, rfl⟩ := h
  have := quoR_le h1
  rw [List.length_drop, List.length_take]
  omega
def strR (s : List UInt8) (i : Nat) : AV × Nat := match rawR s 34 i with
  | none => (errRes 5 i, i)
  | some t => match unesR t t.length 0 [] with
    | .inr k => (errRes 20 ((i : Int) + 1 + k), i)
    | .inl x => (tokRes 4 x 0, i + (t.length + 2))
def charR (s : List UInt8) (i : Nat) : AV × Nat := match rawR s 39 i with
  | none => (errRes 5 i, i)
  | some t => match unesR t t.length 0 [] with
    | .inr k => (errRes 20 ((i : Int) + 1 + k), i)
    | .inl x => if x.length = 1 then (tokRes 3 ([39] ++ t ++ [39]) (x.getD 0 0).toNat, i + (t.length + 2)) else (errRes 5 i, i)
theorem unesR_place {s : List UInt8} : ∀ {n i : Nat} {acc : List UInt8} {k : Nat}, unesR s n i acc = .inr k → k < s.length
  | 0, _, _, _, h => by cases h
  | n + 1, i, acc, k, h => by
    simp only [unesR] at h
    split at h
    · split at h
      · split at h
        · injection h with h; subst h; assumption
        · exact unesR_place h
      · exact unesR_place h
    · cases h
theorem lstr_c (s : List UInt8) (i : Nat) (b : Bool) (l : Nat) (hi : i < s.length) (hs : s.length ≤ 262144) (B h : Heap) (h0 : B 0 = some .gint) (lx : Lx B h s i b l) (R : AV → Heap → Prop)
    (hR : ∀ g, Lx B g s (strR s i).2 b l → R (strR s i).1 g) : ACalls Tryz.prog 62 [.ptr l 0] h R := by
  have hl := lx.blk
  obtain ⟨z, hz⟩ : ∃ z, strR s i = z := ⟨_, rfl⟩
  rw [hz] at hR
  replace hR := Shut.mk hR
  replace hz := Shut.mk hz
  refine acalls_of Tryz.func62 rfl Tryz.ntmps62 (congrArg Array.toList Tryz.results62) fun Q hQ => ?_
  (focus repeat' first|refine ga ?_|(refine gb ?_;try simp[gz, *])|refine gk fun _ _=>?_|refine gc ?_ ?_|exact gr _|refine gi fun _=>?_|(refine gn ?_ ?_;focus(intros;simp[*];done)))
  intro b2 hb2; simp only [Fresh, Heap.set_none] at hb2; have n_b2_l := ne_of_fresh hl (b := b2) (by simp [*]); try simp [gz, *]
  have z2 := lx.isNone hb2
  (focus repeat' first|refine ga ?_|(refine gb ?_;try simp[gz, *])|refine gk fun _ _=>?_|refine gc ?_ ?_|exact gr _|refine gi fun _=>?_|(refine gn ?_ ?_;focus(intros;simp[*];done)))
  intro b3 hb3
  simp only [Fresh, Heap.set_none] at hb3
  obtain ⟨n3', n3, hb3⟩ := hb3
  have n_b3_l := ne_of_fresh hl hb3
  have z3 := lx.isNone hb3
  have lxa := (lx.wr z2 n_b2_l (.cells Z36)).wr z3 n_b3_l (.cells Z28)
  obtain ⟨g, hg⟩ : ∃ g, (h.set b2 (.cells Z36)).set b3 (.cells Z28) = g := ⟨_, rfl⟩
  rw [hg] at lxa
  have hga : g b3 = some (.cells Z28) := by rw [← hg, Heap.set_same]
  have hgb : g b2 = some (.cells Z36) := by rw [← hg, Heap.set_other _ _ _ _ n3', Heap.set_same]
  try simp [Heap.set_get, *]
  (focus repeat' first|refine ga ?_|(refine gb ?_;try simp[gz, *])|refine gk fun _ _=>?_|refine gc ?_ ?_|exact gr _|refine gi fun _=>?_|(refine gn ?_ ?_;focus(intros;simp[*];done)))
  clear hg hb2 hb3 hl lx
  have hb2 := hgb
  have hb3 := hga
  clear hgb hga
  have m2 : ¬ b2 = l := fun e => n_b2_l e.symm
  have m3 : ¬ b3 = l := fun e => n_b3_l e.symm
  have hl := lxa.blk
  replace hz := hz.out
  unfold strR rawR at hz
  refine quoted_c s i b l 34 (by decide) (by decide) (by omega) hs _ hl _ ?_
  cases hq : quoR s 34 (s.length - i) (i + 1) with
  | none =>
    rw [hq] at hz
    simp only [Option.map_none] at hz
    subst hz
    have hfi := hR.out _ ((lxa.wr z2 n_b2_l (.cells Z36)).wr z3 n_b3_l (.cells [.int .i64 5, .int .i64 i]))
    clear lxa
    replace hfi := Shut.mk hfi
    simp [gz, *]
    (focus repeat' first|refine ga ?_|(refine gb ?_;try simp[gz, *])|refine gk fun _ _=>?_|refine gc ?_ ?_|exact gr _|refine gi fun _=>?_|(refine gn ?_ ?_;focus(intros;simp[*];done)))
    refine awp_region_stores [l] [0, 1, 2, 3] [(4, true), (5, true), (6, false)] [7] follows (by kernel_rfl) rfl (by kernel_rfl) ?_; simp [Heap.set_get, Heap.plus_set, evc_nil, evc_cons, estep, *]
    (focus repeat' first|refine ga ?_|(refine gb ?_;try simp[gz, *])|refine gk fun _ _=>?_|refine gc ?_ ?_|exact gr _|refine gi fun _=>?_|(refine gn ?_ ?_;focus(intros;simp[*];done)))
    refine ⟨_, ⟨?_, _, rfl, ?_, _, rfl, rfl⟩, ?_⟩
    · simp [Heap.set_get, *]
    · simp [Heap.set_get, *]
    · simp [aresult, Heap.set_get, *]
      exact hfi.out
  | some e =>
    rw [hq] at hz
    simp only [Option.map_some] at hz
    have hqe := quoR_le hq
    obtain ⟨t, ht⟩ : ∃ t, (s.take e).drop (i + 1) = t := ⟨_, rfl⟩
    have htl : t.length + (i + 1) = e := by rw [← ht, List.length_drop, List.length_take]; omega
    rw [ht] at hz
    simp only
    rw [ht]
    have h0g := lxa.sub _ _ h0
    replace htl := Shut.mk htl
    replace hqe := Shut.mk hqe
    clear ht hq
    simp [gz, *]
    (focus repeat' first|refine ga ?_|(refine gb ?_;try simp[gz, *])|refine gk fun _ _=>?_|refine gc ?_ ?_|exact gr _|refine gi fun _=>?_|(refine gn ?_ ?_;focus(intros;simp[*];done)))
    refine Unescape_c t (by have := htl.out; have := hqe.out; omega) _ _ ?_
    cases hu : unesR t t.length 0 [] with
    | inr k =>
      rw [hu] at hz
      simp only at hz
      subst hz
      simp only
      have hkt := unesR_place hu
      have w1 : IntKind.i64.wrap ((i : Int) + 1) = ((i + 1 : Nat) : Int) := by rw [w64 (by omega) (by omega)]; omega
      have w2 : IntKind.i64.wrap (((i + 1 : Nat) : Int) + k) = ((i + 1 + k : Nat) : Int) := by have := htl.out; have := hqe.out; rw [w64 (by omega) (by omega)]; omega
      have ez : (i : Int) + 1 + k = ((i + 1 + k : Nat) : Int) := by omega
      rw [ez] at hR
      obtain ⟨i1, hi1⟩ : ∃ x, i + 1 = x := ⟨_, rfl⟩
      obtain ⟨ik, hik⟩ : ∃ x, i + 1 + k = x := ⟨_, rfl⟩
      rw [hik] at hR w2
      rw [hi1] at w1 w2
      clear ez hik hi1 hkt hu
      simp [gz, *]
      (focus repeat' first|refine ga ?_|(refine gb ?_;try simp[gz, *])|refine gk fun _ _=>?_|refine gc ?_ ?_|exact gr _|refine gi fun _=>?_|(refine gn ?_ ?_;focus(intros;simp[*];done)))
      intro b7 hb7; simp only [Fresh, Heap.set_none] at hb7; have n_b7_l := ne_of_fresh hl (b := b7) (by simp [*]); have n_b7_b2 := ne_of_fresh hb2 (b := b7) (by simp [*]); have n_b7_b3 := ne_of_fresh hb3 (b := b7) (by simp [*]); try simp [gz, *]
      have z7 := lxa.isNone hb7
      have m7 : ¬ b7 = l := fun e => n_b7_l e.symm
      have m72 : ¬ b7 = b2 := fun e => n_b7_b2 e.symm
      have m73 : ¬ b7 = b3 := fun e => n_b7_b3 e.symm
      have hfi := hR.out _ (((lxa.wr z7 n_b7_l (.cells [.int .i64 20, .int .i64 k])).wr z2 n_b2_l (.cells Z36)).wr z3 n_b3_l (.cells [.int .i64 20, .int .i64 ik]))
      clear lxa
      replace hfi := Shut.mk hfi
      (focus repeat' first|refine ga ?_|(refine gb ?_;try simp[gz, *])|refine gk fun _ _=>?_|refine gc ?_ ?_|exact gr _|refine gi fun _=>?_|(refine gn ?_ ?_;focus(intros;simp[*];done)))
      refine awp_region_stores [l, b7] [0, 1, 3, 4, 5, 8] [(2, true), (6, true), (7, true), (9, true), (10, true), (11, true), (12, false)] [13] follows (by kernel_rfl) rfl (by kernel_rfl) ?_; simp [Heap.set_get, Heap.plus_set, evc_nil, evc_cons, estep, *]
      (focus repeat' first|refine ga ?_|(refine gb ?_;try simp[gz, *])|refine gk fun _ _=>?_|refine gc ?_ ?_|exact gr _|refine gi fun _=>?_|(refine gn ?_ ?_;focus(intros;simp[*];done)))
      refine ⟨_, ⟨?_, _, rfl, ?_, _, rfl, rfl⟩, ?_⟩
      · simp [Heap.set_get, *]
      · simp [Heap.set_get, *]
      · simp [aresult, Heap.set_get, *]
        exact hfi.out
    | inl x =>
      rw [hu] at hz
      simp only at hz
      subst hz
      simp only
      have w1 : IntKind.i64.wrap ((t.length : Int) + 2) = ((t.length + 2 : Nat) : Int) := by have := htl.out; have := hqe.out; rw [w64 (by omega) (by omega)]; omega
      have w2 : IntKind.i64.wrap ((i : Int) + ((t.length + 2 : Nat) : Int)) = ((i + (t.length + 2) : Nat) : Int) := by have := htl.out; have := hqe.out; rw [w64 (by omega) (by omega)]; omega
      obtain ⟨tl, htle⟩ : ∃ x, t.length + 2 = x := ⟨_, rfl⟩
      rw [htle] at hR w1 w2
      have hu0 := hu
      clear htle hu
      simp [gz, *]
      (focus repeat' first|refine ga ?_|(refine gb ?_;try simp[gz, *])|refine gk fun _ _=>?_|refine gc ?_ ?_|exact gr _|refine gi fun _=>?_|(refine gn ?_ ?_;focus(intros;simp[*];done)))
      intro b7 hb7; simp only [Fresh, Heap.set_none] at hb7; have n_b7_l := ne_of_fresh hl (b := b7) (by simp [*]); have n_b7_b2 := ne_of_fresh hb2 (b := b7) (by simp [*]); have n_b7_b3 := ne_of_fresh hb3 (b := b7) (by simp [*]); try simp [gz, *]
      have z7 := lxa.isNone hb7
      have m7 : ¬ b7 = l := fun e => n_b7_l e.symm
      have m72 : ¬ b7 = b2 := fun e => n_b7_b2 e.symm
      have m73 : ¬ b7 = b3 := fun e => n_b7_b3 e.symm
      have hfi := hR.out _ ((((lxa.wr z7 n_b7_l (.cells Z28)).put (i + tl) b).wr z2 n_b2_l (.cells [.int .i64 4, .int .i64 0, .str x, .int .i64 0, .bool false])).wr z3 n_b3_l (.cells Z28))
      clear lxa
      replace hfi := Shut.mk hfi
      (focus repeat' first|refine ga ?_|(refine gb ?_;try simp[gz, *])|refine gk fun _ _=>?_|refine gc ?_ ?_|exact gr _|refine gi fun _=>?_|(refine gn ?_ ?_;focus(intros;simp[*];done)))
      refine ⟨_, ⟨?_, _, rfl, ?_, _, rfl, rfl⟩, ?_⟩
      · simp [Heap.set_get, *]
      · simp [Heap.set_get, *]
      · simp [aresult, Heap.set_get, *]
        exact hfi.out
theorem lchar_c (s : List UInt8) (i : Nat) (b : Bool) (l : Nat) (hi : i < s.length) (hs : s.length ≤ 262144) (B h : Heap) (h0 : B 0 = some .gint) (lx : Lx B h s i b l) (R : AV → Heap → Prop)
    (hR : ∀ g, Lx B g s (charR s i).2 b l → R (charR s i).1 g) : ACalls Tryz.prog 63 [.ptr l 0] h R := by
  have hl := lx.blk
  obtain ⟨z, hz⟩ : ∃ z, charR s i = z := ⟨_, rfl⟩
  rw [hz] at hR
  replace hR := Shut.mk hR
  replace hz := Shut.mk hz
  refine acalls_of Tryz.func63 rfl Tryz.ntmps63 (congrArg Array.toList Tryz.results63) fun Q hQ => ?_
  (focus repeat' first|refine ga ?_|(refine gb ?_;try simp[gz, *])|refine gk fun _ _=>?_|refine gc ?_ ?_|exact gr _|refine gi fun _=>?_|(refine gn ?_ ?_;focus(intros;simp[*];done)))
  intro b2 hb2; simp only [Fresh, Heap.set_none] at hb2; have n_b2_l := ne_of_fresh hl (b := b2) (by simp [*]); try simp [gz, *]
  have z2 := lx.isNone hb2
  (focus repeat' first|refine ga ?_|(refine gb ?_;try simp[gz, *])|refine gk fun _ _=>?_|refine gc ?_ ?_|exact gr _|refine gi fun _=>?_|(refine gn ?_ ?_;focus(intros;simp[*];done)))
  intro b3 hb3
  simp only [Fresh, Heap.set_none] at hb3
  obtain ⟨n3', n3, hb3⟩ := hb3
  have n_b3_l := ne_of_fresh hl hb3
  have z3 := lx.isNone hb3
  have lxa := (lx.wr z2 n_b2_l (.cells Z36)).wr z3 n_b3_l (.cells Z28)
  obtain ⟨g, hg⟩ : ∃ g, (h.set b2 (.cells Z36)).set b3 (.cells Z28) = g := ⟨_, rfl⟩
  rw [hg] at lxa
  have hga : g b3 = some (.cells Z28) := by rw [← hg, Heap.set_same]
  have hgb : g b2 = some (.cells Z36) := by rw [← hg, Heap.set_other _ _ _ _ n3', Heap.set_same]
  try simp [Heap.set_get, *]
  (focus repeat' first|refine ga ?_|(refine gb ?_;try simp[gz, *])|refine gk fun _ _=>?_|refine gc ?_ ?_|exact gr _|refine gi fun _=>?_|(refine gn ?_ ?_;focus(intros;simp[*];done)))
  clear hg hb2 hb3 hl lx
  have hb2 := hgb
  have hb3 := hga
  clear hgb hga
  have m2 : ¬ b2 = l := fun e => n_b2_l e.symm
  have m3 : ¬ b3 = l := fun e => n_b3_l e.symm
  have hl := lxa.blk
  replace hz := hz.out
  unfold charR rawR at hz
  refine quoted_c s i b l 39 (by decide) (by decide) (by omega) hs _ hl _ ?_
  cases hq : quoR s 39 (s.length - i) (i + 1) with
  | none =>
    rw [hq] at hz
    simp only [Option.map_none] at hz
    subst hz
    have hfi := hR.out _ ((lxa.wr z2 n_b2_l (.cells Z36)).wr z3 n_b3_l (.cells [.int .i64 5, .int .i64 i]))
    clear lxa
    replace hfi := Shut.mk hfi
    simp [gz, *]
    (focus repeat' first|refine ga ?_|(refine gb ?_;try simp[gz, *])|refine gk fun _ _=>?_|refine gc ?_ ?_|exact gr _|refine gi fun _=>?_|(refine gn ?_ ?_;focus(intros;simp[*];done)))
    refine awp_region_stores [l] [0, 1, 2, 3] [(4, true), (5, true), (6, false)] [7] follows (by kernel_rfl) rfl (by kernel_rfl) ?_; simp [Heap.set_get, Heap.plus_set, evc_nil, evc_cons, estep, *]
    (focus repeat' first|refine ga ?_|(refine gb ?_;try simp[gz, *])|refine gk fun _ _=>?_|refine gc ?_ ?_|exact gr _|refine gi fun _=>?_|(refine gn ?_ ?_;focus(intros;simp[*];done)))
    refine ⟨_, ⟨?_, _, rfl, ?_, _, rfl, rfl⟩, ?_⟩
    · simp [Heap.set_get, *]
    · simp [Heap.set_get, *]
    · simp [aresult, Heap.set_get, *]
      exact hfi.out
  | some e =>
    rw [hq] at hz
    simp only [Option.map_some] at hz
    have hqe := quoR_le hq
    obtain ⟨t, ht⟩ : ∃ t, (s.take e).drop (i + 1) = t := ⟨_, rfl⟩
    have htl : t.length + (i + 1) = e := by rw [← ht, List.length_drop, List.length_take]; omega
    rw [ht] at hz
    simp only
    rw [ht]
    have h0g := lxa.sub _ _ h0
    replace htl := Shut.mk htl
    replace hqe := Shut.mk hqe
    clear ht hq
    simp [gz, *]
    (focus repeat' first|refine ga ?_|(refine gb ?_;try simp[gz, *])|refine gk fun _ _=>?_|refine gc ?_ ?_|exact gr _|refine gi fun _=>?_|(refine gn ?_ ?_;focus(intros;simp[*];done)))
    refine Unescape_c t (by have := htl.out; have := hqe.out; omega) _ _ ?_
    cases hu : unesR t t.length 0 [] with
    | inr k =>
      rw [hu] at hz
      simp only at hz
      subst hz
      simp only
      have hkt := unesR_place hu
      have w1 : IntKind.i64.wrap ((i : Int) + 1) = ((i + 1 : Nat) : Int) := by rw [w64 (by omega) (by omega)]; omega
      have w2 : IntKind.i64.wrap (((i + 1 : Nat) : Int) + k) = ((i + 1 + k : Nat) : Int) := by have := htl.out; have := hqe.out; rw [w64 (by omega) (by omega)]; omega
      have ez : (i : Int) + 1 + k = ((i + 1 + k : Nat) : Int) := by omega
      rw [ez] at hR
      obtain ⟨i1, hi1⟩ : ∃ x, i + 1 = x := ⟨_, rfl⟩
      obtain ⟨ik, hik⟩ : ∃ x, i + 1 + k = x := ⟨_, rfl⟩
      rw [hik] at hR w2
      rw [hi1] at w1 w2
      clear ez hik hi1 hkt hu
      simp [gz, *]
      (focus repeat' first|refine ga ?_|(refine gb ?_;try simp[gz, *])|refine gk fun _ _=>?_|refine gc ?_ ?_|exact gr _|refine gi fun _=>?_|(refine gn ?_ ?_;focus(intros;simp[*];done)))
      intro b7 hb7; simp only [Fresh, Heap.set_none] at hb7; have n_b7_l := ne_of_fresh hl (b := b7) (by simp [*]); have n_b7_b2 := ne_of_fresh hb2 (b := b7) (by simp [*]); have n_b7_b3 := ne_of_fresh hb3 (b := b7) (by simp [*]); try simp [gz, *]
      have z7 := lxa.isNone hb7
      have m7 : ¬ b7 = l := fun e => n_b7_l e.symm
      have m72 : ¬ b7 = b2 := fun e => n_b7_b2 e.symm
      have m73 : ¬ b7 = b3 := fun e => n_b7_b3 e.symm
      have hfi := hR.out _ (((lxa.wr z7 n_b7_l (.cells [.int .i64 20, .int .i64 k])).wr z2 n_b2_l (.cells Z36)).wr z3 n_b3_l (.cells [.int .i64 20, .int .i64 ik]))
      clear lxa
      replace hfi := Shut.mk hfi
      (focus repeat' first|refine ga ?_|(refine gb ?_;try simp[gz, *])|refine gk fun _ _=>?_|refine gc ?_ ?_|exact gr _|refine gi fun _=>?_|(refine gn ?_ ?_;focus(intros;simp[*];done)))
      refine awp_region_stores [l, b7] [0, 1, 3, 4, 5, 8] [(2, true), (6, true), (7, true), (9, true), (10, true), (11, true), (12, false)] [13] follows (by kernel_rfl) rfl (by kernel_rfl) ?_; simp [Heap.set_get, Heap.plus_set, evc_nil, evc_cons, estep, *]
      (focus repeat' first|refine ga ?_|(refine gb ?_;try simp[gz, *])|refine gk fun _ _=>?_|refine gc ?_ ?_|exact gr _|refine gi fun _=>?_|(refine gn ?_ ?_;focus(intros;simp[*];done)))
      refine ⟨_, ⟨?_, _, rfl, ?_, _, rfl, rfl⟩, ?_⟩
      · simp [Heap.set_get, *]
      · simp [Heap.set_get, *]
      · simp [aresult, Heap.set_get, *]
        exact hfi.out
    | inl x =>
      rw [hu] at hz
      simp only at hz
      subst hz
      simp only
      have w1 : IntKind.i64.wrap ((t.length : Int) + 2) = ((t.length + 2 : Nat) : Int) := by have := htl.out; have := hqe.out; rw [w64 (by omega) (by omega)]; omega
      have w2 : IntKind.i64.wrap ((i : Int) + ((t.length + 2 : Nat) : Int)) = ((i + (t.length + 2) : Nat) : Int) := by have := htl.out; have := hqe.out; rw [w64 (by omega) (by omega)]; omega
      obtain ⟨tl, htle⟩ : ∃ x, t.length + 2 = x := ⟨_, rfl⟩
      rw [htle] at hR w1 w2
      have hu0 := hu
      clear htle hu
      simp [gz, *]
      (focus repeat' first|refine ga ?_|(refine gb ?_;try simp[gz, *])|refine gk fun _ _=>?_|refine gc ?_ ?_|exact gr _|refine gi fun _=>?_|(refine gn ?_ ?_;focus(intros;simp[*];done)))
      intro b7 hb7; simp only [Fresh, Heap.set_none] at hb7; have n_b7_l := ne_of_fresh hl (b := b7) (by simp [*]); have n_b7_b2 := ne_of_fresh hb2 (b := b7) (by simp [*]); have n_b7_b3 := ne_of_fresh hb3 (b := b7) (by simp [*]); try simp [gz, *]
      have z7 := lxa.isNone hb7
      have m7 : ¬ b7 = l := fun e => n_b7_l e.symm
      have m72 : ¬ b7 = b2 := fun e => n_b7_b2 e.symm
      have m73 : ¬ b7 = b3 := fun e => n_b7_b3 e.symm
      have hx1m : x.length ≤ t.length := by have := unesR_len t t.length 0 [] x hu0; simpa using this
      clear hu0
      by_cases hx1 : x.length = 1
      · rw [if_pos hx1] at hR
        have hx1i : (x.length : Int) = 1 := by omega
        have hx0 : 0 < x.length := by omega
        have hget : x[0]? = some x[0] := List.getElem?_eq_getElem hx0
        have hgd : x.getD 0 0 = x[0] := by simp [List.getD, hget]
        obtain ⟨c, hc⟩ : ∃ c, x[0] = c := ⟨_, rfl⟩
        rw [hc] at hget hgd
        rw [hgd] at hR
        clear hgd
        have hcl := c.toNat_lt
        have w3 : IntKind.i64.wrap (c.toNat : Int) = c.toNat := w64 (by omega) (by omega)
        have htl2 : t.length ≤ 262144 := by have := htl.out; have := hqe.out; omega
        have hfi := hR.out _ ((((lxa.wr z7 n_b7_l (.cells Z28)).put (i + tl) b).wr z2 n_b2_l (.cells [.int .i64 3, .int .i64 0, .str ([39] ++ t ++ [39]), .int .i64 c.toNat, .bool false])).wr z3 n_b3_l (.cells Z28))
        clear lxa
        replace hfi := Shut.mk hfi
        (focus repeat' first|refine ga ?_|(refine gb ?_;try simp[gz, *])|refine gk fun _ _=>?_|refine gc ?_ ?_|exact gr _|refine gi fun _=>?_|(refine gn ?_ ?_;focus(intros;simp[*];done)))
        refine ⟨_, ⟨?_, _, rfl, ?_, _, rfl, rfl⟩, ?_⟩
        · simp [Heap.set_get, *]
        · simp [Heap.set_get, *]
        · simp [aresult, Heap.set_get, *]
          exact hfi.out
      · rw [if_neg hx1] at hR
        have hx1i : ¬ (x.length : Int) = 1 := by omega
        have hfi := hR.out _ (((lxa.wr z7 n_b7_l (.cells Z28)).wr z2 n_b2_l (.cells Z36)).wr z3 n_b3_l (.cells [.int .i64 5, .int .i64 i]))
        clear lxa
        replace hfi := Shut.mk hfi
        (focus repeat' first|refine ga ?_|(refine gb ?_;try simp[gz, *])|refine gk fun _ _=>?_|refine gc ?_ ?_|exact gr _|refine gi fun _=>?_|(refine gn ?_ ?_;focus(intros;simp[*];done)))
        refine awp_region_stores [l] [0, 1, 2, 3] [(4, true), (5, true), (6, false)] [7] follows (by kernel_rfl) rfl (by kernel_rfl) ?_; simp [Heap.set_get, Heap.plus_set, evc_nil, evc_cons, estep, *]
        (focus repeat' first|refine ga ?_|(refine gb ?_;try simp[gz, *])|refine gk fun _ _=>?_|refine gc ?_ ?_|exact gr _|refine gi fun _=>?_|(refine gn ?_ ?_;focus(intros;simp[*];done)))
        refine ⟨_, ⟨?_, _, rfl, ?_, _, rfl, rfl⟩, ?_⟩
        · simp [Heap.set_get, *]
        · simp [Heap.set_get, *]
        · simp [aresult, Heap.set_get, *]
          exact hfi.out
end Go.Proofs.YtcbgpjlcfkkdlaaGreatDoor

