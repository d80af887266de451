import Derived.Test.YtcbgpjlcfkkdlaaGreatDoorSBA
import Derived.Test.YtcbgpjlcfkkdlaaGreatDoorSBH
import Derived.Test.YtcbgpjlcfkkdlaaGreatDoorSAS
import Derived.Test.YtcbgpjlcfkkdlaaGreatDoorSAU
set_option linter.unusedSimpArgs false
set_option linter.unusedVariables false
set_option maxRecDepth 100000
set_option maxHeartbeats 16000000
namespace Go.Proofs.YtcbgpjlcfkkdlaaGreatDoor
open Go Go.AL Go.Proofs
abbrev S00 : St := ⟨0, 0, [], [], 0, 0⟩
def fuel0 : Nat := 200000
def parseT (s : List UInt8) : List Nd × Int × Int := match scanT s with
 | .inr f => ([], f.1, f.2)
 | .inl T => match run T fuel0 (.top []) S00 with
  | none => ([], 0, 0)
  | some (kids, S1) =>
   if (addL T 26 0 [] 0 kids S1).2.fc = 0 then
    (if (checkL (addL T 26 0 [] 0 kids S1).2.nodes).1 = 0 then ((addL T 26 0 [] 0 kids S1).2.nodes, 0, 0) else ([], (checkL (addL T 26 0 [] 0 kids S1).2.nodes).1, s.length))
   else ([], (addL T 26 0 [] 0 kids S1).2.fc, (addL T 26 0 [] 0 kids S1).2.fa)
def parseAV (z : List Nd × Int × Int) : AV := .tup [if z.2.1 = 0 then treeAV z.1 .no else .agg [.list 5 [] .nil], .agg [.int .i64 z.2.1, .int .i64 z.2.2]]
theorem add_nodes (T : List Tk) (kind pos : Int) (x : List UInt8) (n : Int) (kids : List Int) (S : St) : (addL T kind pos x n kids S).2.fc = 0 → ¬ (addL T kind pos x n kids S).2.nodes = [] := by
 unfold addL
 split
 ·split
  ·intro h
   rename_i hf _
   have : (wrongL T 2 S).fc = 2 := by unfold wrongL; rw [if_pos hf]
   rw [show (wrongL T 2 S).fc = 2 from this] at h
   exact absurd h (by decide)
  ·intro _
   simp only
   split
   ·show ¬ (wrongL T 6 _).nodes = []
    rw [(wrongL_deep T 6 _).2]
    simp
   ·simp
 ·rename_i hf
  intro h
  exact absurd h hf
theorem Parse_c (s : List UInt8) (hs : s.length ≤ 3300) (h : Heap) (h0 : h 0 = some .gint) (R : AV → Heap → Prop) (hR : R (parseAV (parseT s)) h) : ACalls Tryz.prog 9 [.str s] h R := by
 refine ACalls.pure ?_ hR
 clear hR
 obtain ⟨z, hz⟩ : ∃ z, parseT s = z := ⟨_, rfl⟩
 rw [hz]
 have hsc := scan_ok s (by omega) (s.length + 1) 0 false [] (by omega) (by omega) (by simp) (by simp)
 unfold parseT at hz
 obtain ⟨r, hr⟩ : ∃ r, scanT s = r := ⟨_, rfl⟩
 have hr2 : scanR s (s.length + 1) 0 false [] = r := hr
 rw [hr2] at hsc
 rw [hr] at hz
 clear hr2
 replace hsc := Shut.mk hsc
 replace hz := Shut.mk hz
 refine acalls_of Tryz.func9 rfl Tryz.ntmps9 (congrArg Array.toList Tryz.results9) fun Q hQ => ?_
 (focus repeat' first|refine ga ?_|(refine gb ?_;try simp[gz, *])|refine gk fun _ _=>?_|refine gc ?_ ?_|exact gr _|refine gi fun _=>?_|(refine gn ?_ ?_;focus(intros;simp[*];done)))
 intro b2 hb2; simp only [Fresh, Heap.set_none] at hb2; try simp [gz, *]
 (focus repeat' first|refine ga ?_|(refine gb ?_;try simp[gz, *])|refine gk fun _ _=>?_|refine gc ?_ ?_|exact gr _|refine gi fun _=>?_|(refine gn ?_ ?_;focus(intros;simp[*];done)))
 intro b3 hb3
 simp only [Fresh, Heap.set_none] at hb3
 obtain ⟨n3', n3, hb3⟩ := hb3
 try simp [Heap.set_get, *]
 (focus repeat' first|refine ga ?_|(refine gb ?_;try simp[gz, *])|refine gk fun _ _=>?_|refine gc ?_ ?_|exact gr _|refine gi fun _=>?_|(refine gn ?_ ?_;focus(intros;simp[*];done)))
 refine Scan_c s (by omega) _ (gint_set (by rw [Heap.set_other _ _ _ _ n3]; exact hb3) (gint_set hb2 h0)) _ ?_
 rw [hr]
 clear hr
 cases r with
 | inr f =>
  replace hz := hz.out
  simp only at hz
  have hf := hsc.out.2 f rfl
  subst hz
  simp only [scanAV]
  simp [gz, *]
  (focus repeat' first|refine ga ?_|(refine gb ?_;try simp[gz, *])|refine gk fun _ _=>?_|refine gc ?_ ?_|exact gr _|refine gi fun _=>?_|(refine gn ?_ ?_;focus(intros;simp[*];done)))
  intro b5 hb5
  simp only [Fresh, Heap.set_none] at hb5
  obtain ⟨n53', n53, n52', n52, hb5⟩ := hb5
  try simp [Heap.set_get, *]
  (focus repeat' first|refine ga ?_|(refine gb ?_;try simp[gz, *])|refine gk fun _ _=>?_|refine gc ?_ ?_|exact gr _|refine gi fun _=>?_|(refine gn ?_ ?_;focus(intros;simp[*];done)))
  refine awp_region_stores [b5] [0] [(1,true),(2,false)] [3] follows (by kernel_rfl) rfl (by kernel_rfl) ?_; simp [Heap.set_get, Heap.plus_set, evc_nil, evc_cons, estep, *]
  (focus repeat' first|refine ga ?_|(refine gb ?_;try simp[gz, *])|refine gk fun _ _=>?_|refine gc ?_ ?_|exact gr _|refine gi fun _=>?_|(refine gn ?_ ?_;focus(intros;simp[*];done)))
  refine ⟨_, ⟨?_, _, rfl, ?_, _, rfl, rfl⟩, ?_, ?_⟩ <;> first | (simp [aresult, parseAV, Heap.set_get, *]; done) | ((repeat (first | exact Sub.refl _ | refine Sub.loc ?_ (by simp [*]) _)); done)
 | inl T =>
  obtain ⟨hT1, hT2, T0, te, hT3, hT4, hT5⟩ := hsc.out.1 T rfl
  have hG : Good T S00 := ⟨⟨fun _ => by rw [hT3]; simp, Nat.zero_le _, by omega, by rw [hT3]; simp, Nat.zero_le _, by rw [hT3]; simp [List.getD, hT4]⟩, rfl⟩
  have hTk : Toks T := ⟨fun t ht => (hT1 t ht).short, fun t ht => (hT1 t ht).num⟩
  have hnd : need T (.top []) S00 ≤ fuel0 := by
   unfold need
   rw [if_pos rfl]
   simp only [rank, fuel0]
   omega
  obtain ⟨kids0, S1, hrun, hzt, hkl0⟩ := term_all T hTk fuel0 (by decide) (.top []) S00 hG InK.nil trivial hnd
  have hkp := hzt.kp
  have hgo : Goes T S00 S1 ∧ InK S1 kids0 := ⟨⟨hzt.good, hzt.len⟩, hzt.ink⟩
  clear hzt
  have hFine : Fine T S1 := hkp.fine ⟨fun n hn => (by cases hn), fun q => absurd rfl q⟩
  have hkl1 : kids0.length ≤ 2 * fuel0 + 2 := by simpa [argK, loopK] using hkl0
  clear hT1 hT3 hT4 hT5 hnd hkl0 hkp hsc
  replace hz := hz.out
  simp only [hrun] at hz
  replace hz := Shut.mk hz
  replace hrun := Shut.mk hrun
  replace hFine := Shut.mk hFine
  replace hgo := Shut.mk hgo
  simp only [scanAV]
  simp [gz, *]
  (focus repeat' first|refine ga ?_|(refine gb ?_;try simp[gz, *])|refine gk fun _ _=>?_|refine gc ?_ ?_|exact gr _|refine gi fun _=>?_|(refine gn ?_ ?_;focus(intros;simp[*];done)))
  intro b5 hb5
  simp only [Fresh, Heap.set_none] at hb5
  obtain ⟨n53', n53, n52', n52, hb5⟩ := hb5
  try simp [Heap.set_get, *]
  (focus repeat' first|refine ga ?_|(refine gb ?_;try simp[gz, *])|refine gk fun _ _=>?_|refine gc ?_ ?_|exact gr _|refine gi fun _=>?_|(refine gn ?_ ?_;focus(intros;simp[*];done)))
  intro b6 hb6
  simp only [Fresh, Heap.set_none] at hb6
  obtain ⟨n65', n65, n63', n63, n62', n62, hb6⟩ := hb6
  obtain ⟨Bp, hBp⟩ : ∃ x, ((h.set b2 (.cells [.list 5 [] .nil])).set b3 (.cells Z28)).set b5 (.cells Z28) = x := ⟨_, rfl⟩
  have hB2 : Bp b2 = some (.cells [.list 5 [] .nil]) := by rw [← hBp, Heap.set_other _ _ _ _ n52', Heap.set_other _ _ _ _ n3', Heap.set_same]
  have hB3 : Bp b3 = some (.cells Z28) := by rw [← hBp, Heap.set_other _ _ _ _ n53', Heap.set_same]
  have hB5 : Bp b5 = some (.cells Z28) := by rw [← hBp, Heap.set_same]
  have hB6 : Bp b6 = none := by rw [← hBp, Heap.set_other _ _ _ _ n65, Heap.set_other _ _ _ _ n63, Heap.set_other _ _ _ _ n62]; exact hb6
  have hsB : AL.Sub h Bp := by rw [← hBp]; exact (((Sub.refl h).loc hb2 _).loc hb3 _).loc hb5 _
  have h0p : Bp 0 = some .gint := hsB _ _ h0
  have hb2o : h b2 = none := hb2
  have hb3o : h b3 = none := hb3
  have hb5o : h b5 = none := hb5
  have ho : Own Bp (Bp.set b6 (.cells (rdRow T .no S00 .nil .nil))) T .no S00 b6 .nil .nil := ⟨(Sub.refl Bp).loc hB6 _, hB6, Heap.set_same _ _ _, trivial, trivial, fun _ _ _ e => (by cases e), fun _ _ _ e => (by cases e), fun _ _ _ _ _ e => (by cases e)⟩
  try simp [Heap.set_get, *]
  (focus repeat' first|refine ga ?_|(refine gb ?_;try simp[gz, *])|refine gk fun _ _=>?_|refine gc ?_ ?_|exact gr _|refine gi fun _=>?_|(refine gn ?_ ?_;focus(intros;simp[*];done)))
  refine awp_loop_h [7,22,23,24,25,26,27,28,29,30,31,32,33,34] (fun m x g => ∃ (q : Nat) (Sq : St) (kids : List Int) (u1 u2 tk : Tok), q ≤ fuel0 ∧ m = q ∧ run T q (.top kids) Sq = some (kids0, S1) ∧ Goes T S00 Sq ∧ InK Sq kids ∧ x 7 = .list 1 (ints kids) tk ∧ TokIn g tk ∧ (∀ b k e, tk = .own b k e → Bp b = none) ∧ kids.length + q ≤ fuel0 ∧ Own (Heap.bk Bp tk) g T .no Sq b6 u1 u2) fuel0
   ⟨fuel0, S00, [], .nil, .nil, .nil, Nat.le_refl _, rfl, hrun.out, .refl hG, InK.nil, by simp, trivial, (fun _ _ _ e => by cases e), by simp, by first | exact ho | (simp [hBp]; exact ho)⟩ (fun m x g hI K hK => ?_)
  clear ho hrun
  obtain ⟨q, Sq, kids, u1, u2, tk, hq, rfl, hrq, gq, hin, hx, htk, htf, hkl, oq⟩ := hI
  obtain ⟨p, rfl⟩ : ∃ p, m = p + 1 := by
   cases m with
   | zero => simp [run] at hrq
   | succ p => exact ⟨p, rfl⟩
  simp only [run] at hrq
  have hf0 : fuel0 ≤ 200000 := Nat.le_refl _
  have h0q : (Heap.bk Bp tk) 0 = some .gint := bk_sub htf _ _ h0p
  have hno : tk ≠ .no := fun e => by subst e; exact htk.elim
  have hr := oq.blk
  have hBs := Shut.mk (bk_sub htf)
  replace htf := Shut.mk htf
  replace oq := Shut.mk oq
  obtain ⟨t, ht⟩ : ∃ t, peekL T Sq = t := ⟨_, rfl⟩
  rw [ht] at hrq
  by_cases hgo2 : Sq.fc = 0 ∧ ¬ t.kind = 6
  ·rw [if_pos hgo2, Option.bind_eq_some_iff] at hrq
   obtain ⟨⟨l2, S2⟩, hs2, hrest⟩ := hrq
   have hfd : decide (Sq.fc = 0) = true := by simp [hgo2.1]
   have hk6 : ¬ t.kind = 6 := hgo2.2
   clear hgo2
   replace hs2 := Shut.mk hs2
   replace hrest := Shut.mk hrest
   replace hin := Shut.mk hin
   refine awp_eqs (s' := [_,_,_,_,_,_,_,x 7,_,_,_,_,_,_,_,_,_,_,_,_,_,_,x 22,x 23,x 24,x 25,x 26,x 27,x 28,x 29,x 30,x 31,x 32,x 33,x 34,_,_,_,_,_,_,_,_,_,_,_,_,_,_,_,_,_,_,_,_,_,_,_,_,_,_,_,_,_]) rfl ?_
   (focus repeat' first|refine ga ?_|(refine gb ?_;try simp[gz, *])|refine gk fun _ _=>?_|refine gc ?_ ?_|exact gr _|refine gi fun _=>?_|(refine gn ?_ ?_;focus(intros;simp[*];done)))
   refine ok_c T .no Sq u1 u2 b6 _ hr _ ?_
   rw [hfd]
   clear hfd
   simp [gz, *]
   (focus repeat' first|refine ga ?_|(refine gb ?_;try simp[gz, *])|refine gk fun _ _=>?_|refine gc ?_ ?_|exact gr _|refine gi fun _=>?_|(refine gn ?_ ?_;focus(intros;simp[*];done)))
   refine peek_c T .no Sq u1 u2 b6 gq.good.rd _ hr _ ?_
   rw [ht]
   clear ht
   simp [gz, *]
   (focus repeat' first|refine ga ?_|(refine gb ?_;try simp[gz, *])|refine gk fun _ _=>?_|refine gc ?_ ?_|exact gr _|refine gi fun _=>?_|(refine gn ?_ ?_;focus(intros;simp[*];done)))
   refine meth_all T .no hTk.short fuel0 (by decide) p .stmt (by omega) _ _ rfl _ _ _ ⟨hs2.out⟩ b6 u1 u2 (Heap.bk Bp tk) _ ⟨oq.out, Sub.refl _, h0q, gq.good, Nat.le_refl _, fun _ h => by cases h⟩ _ ⟨fun k2 v1 v2 oc => ?_⟩
   have o2 := oc.own
   have gs : Goes T Sq S2 := ⟨oc.good, oc.len⟩
   have hi2 : InK S2 [fst0 l2] := oc.ink
   clear oc
   clear hr oq
   rw [show resOf .stmt l2 = .int .i64 (fst0 l2) from rfl]
   have ht2 := tokIn_bk o2.sub hno
   have hr2 := o2.blk
   simp [gz, *]
   (focus repeat' first|refine ga ?_|(refine gb ?_;try simp[gz, *])|refine gk fun _ _=>?_|refine gc ?_ ?_|exact gr _|refine gi fun _=>?_|(refine gn ?_ ?_;focus(intros;simp[*];done)))
   refine .inl ⟨ht2, fun b k e hb => ?_⟩
   obtain ⟨o3, hBb⟩ := o2.growK (k := k) (e := e) htf.out hb
   obtain ⟨HG, hHG⟩ : ∃ HG, (tk.rid k2).set b (.spare k e) = HG := ⟨_, rfl⟩
   rw [hHG] at o3 ⊢
   have hgb : HG b = some (.spare k e) := by rw [← hHG, Heap.set_same]
   clear hb hHG ht2 o2 hr2
   replace o3 := Shut.mk o3
   simp [gz, *]
   (focus repeat' first|refine ga ?_|(refine gb ?_;try simp[gz, *])|refine gk fun _ _=>?_|refine gc ?_ ?_|exact gr _|refine gi fun _=>?_|(refine gn ?_ ?_;focus(intros;simp[*];done)))
   refine ⟨by kernel_rfl, rfl, p, HG, by omega, Sub.refl _, p, S2, kids ++ [fst0 l2], v1, v2, .own b k e, by omega, rfl, hrest.out, gq.trans gs, (hin.out.mono gs.len).append hi2, by simp, hgb, fun b' k' e' q1 => by injection q1 with q1; subst q1; exact hBb, by simp only [List.length_append, List.length_singleton]; omega, o3.out⟩
  ·rw [if_neg hgo2] at hrq
   simp only [Option.some.injEq, Prod.mk.injEq] at hrq
   obtain ⟨rfl, rfl⟩ := hrq
   have hkk := Shut.mk (InK.kids gq.good (l := kids) hin)
   have hkl2 : kids.length ≤ 281474976710 := by have : fuel0 = 200000 := rfl; omega
   obtain ⟨gad, -⟩ := goes_add gq.good 26 0 [] 0 kids
   have hFin : Fine T (addL T 26 0 [] 0 kids Sq).2 := (kp_add gq.good 26 0 [] 0 kids (by simp) (by decide) hkl2).fine hFine.out
   have hnl2 := gad.good.rd.nl
   have hne2 : (addL T 26 0 [] 0 kids Sq).2.fc = 0 → ¬ (addL T 26 0 [] 0 kids Sq).2.nodes = [] := add_nodes T 26 0 [] 0 kids Sq
   obtain ⟨a, ha⟩ : ∃ a, addL T 26 0 [] 0 kids Sq = a := ⟨_, rfl⟩
   rw [ha] at hFin hnl2 hne2 hz
   have hFin := hFin.1
   replace hFin := Shut.mk hFin
   replace hne2 := Shut.mk hne2
   have hq2 : (Heap.bk Bp tk) b2 = some (.cells [.list 5 [] .nil]) := hBs.out _ _ hB2
   have hq3 : (Heap.bk Bp tk) b3 = some (.cells Z28) := hBs.out _ _ hB3
   have hq5 : (Heap.bk Bp tk) b5 = some (.cells Z28) := hBs.out _ _ hB5
   have hsQ := Shut.mk (hsB.trans hBs.out)
   clear hin hgo
   cases hfd : decide (Sq.fc = 0)
   ·refine awp_eqs (s' := [_,_,_,_,_,_,_,x 7,_,_,_,_,_,_,_,_,_,_,_,_,_,_,x 22,x 23,x 24,x 25,x 26,x 27,x 28,x 29,x 30,x 31,x 32,x 33,x 34,_,_,_,_,_,_,_,_,_,_,_,_,_,_,_,_,_,_,_,_,_,_,_,_,_,_,_,_,_]) rfl ?_
    (focus repeat' first|refine ga ?_|(refine gb ?_;try simp[gz, *])|refine gk fun _ _=>?_|refine gc ?_ ?_|exact gr _|refine gi fun _=>?_|(refine gn ?_ ?_;focus(intros;simp[*];done)))
    refine ok_c T .no Sq u1 u2 b6 _ hr _ ?_
    rw [hfd]
    clear hfd hgo2
    simp [gz, *]
    (focus repeat' first|refine ga ?_|(refine gb ?_;try simp[gz, *])|refine gk fun _ _=>?_|refine gc ?_ ?_|exact gr _|refine gi fun _=>?_|(refine gn ?_ ?_;focus(intros;simp[*];done)))
    refine ACalls.weak (ys := [.ptr b6 0, .int .i64 26, .int .i64 0, .str [], .int .i64 0, .list 1 (ints kids) .no]) (.cons (Weak.refl _) (.cons (Weak.refl _) (.cons (Weak.refl _) (.cons (Weak.refl _) (.cons (Weak.refl _) (.cons (Weak.toks (by first | rfl | simp)) .nil)))))) ?_
    refine add_c 26 0 [] 0 kids T .no Sq u1 u2 b6 gq.good.rd gq.good.dl hkk.out hkl2 (Heap.bk Bp tk) _ oq.out _ (fun k3 w1 w2 o3 => ?_)
    rw [ha] at o3 ⊢
    clear oq hr
    have hr := o3.blk
    have hk2 := o3.sub _ _ hq2
    have hk3 := o3.sub _ _ hq3
    have hk5 := o3.sub _ _ hq5
    have hsF : AL.Sub h k3 := hsQ.out.trans o3.sub
    have h0k := o3.sub _ _ h0q
    have hr2 := hr
    clear ha
    simp [gz, *]
    (focus repeat' first|refine ga ?_|(refine gb ?_;try simp[gz, *])|refine gk fun _ _=>?_|refine gc ?_ ?_|exact gr _|refine gi fun _=>?_|(refine gn ?_ ?_;focus(intros;simp[*];done)))
    refine ok_c T .no a.2 w1 w2 b6 _ hr2 _ ?_
    by_cases hfa : a.2.fc = 0
    ·have hfd : decide (a.2.fc = 0) = true := decide_eq_true hfa
     rw [hfd]
     replace hz := hz.out
     rw [if_pos hfa] at hz
     obtain ⟨nodes, hnn⟩ : ∃ x, a.2.nodes = x := ⟨_, rfl⟩
     rw [hnn] at hz hFin hne2 hnl2
     simp [gz, *]
     (focus repeat' first|refine ga ?_|(refine gb ?_;try simp[gz, *])|refine gk fun _ _=>?_|refine gc ?_ ?_|exact gr _|refine gi fun _=>?_|(refine gn ?_ ?_;focus(intros;simp[*];done)))
     refine btree_c T .no a.2 w1 w2 b6 nodes hnn (fun n hn => (hFin.out n hn).1) (fun n hn => (hFin.out n hn).2) hnl2 (hne2.out hfa) _ h0k hr2 _ ?_
     by_cases hck : (checkL nodes).1 = 0
     ·rw [if_pos hck] at hz ⊢
      subst hz
      simp [gz, *]
      (focus repeat' first|refine ga ?_|(refine gb ?_;try simp[gz, *])|refine gk fun _ _=>?_|refine gc ?_ ?_|exact gr _|refine gi fun _=>?_|(refine gn ?_ ?_;focus(intros;simp[*];done)))
      intro b8 hb8
      simp only [Fresh] at hb8
      have n82 := ne_of_fresh hk2 hb8
      have n83 := ne_of_fresh hk3 hb8
      have n85 := ne_of_fresh hk5 hb8
      have n86 := ne_of_fresh hr2 hb8
      have m82 : ¬ b8 = b2 := fun e => n82 e.symm
      have m83 : ¬ b8 = b3 := fun e => n83 e.symm
      have m85 : ¬ b8 = b5 := fun e => n85 e.symm
      have hn8 : h b8 = none := by
       cases e : h b8 with
       | none => rfl
       | some y => rw [hsF _ _ e] at hb8; cases hb8
      try simp [Heap.set_get, *]
      (focus repeat' first|refine ga ?_|(refine gb ?_;try simp[gz, *])|refine gk fun _ _=>?_|refine gc ?_ ?_|exact gr _|refine gi fun _=>?_|(refine gn ?_ ?_;focus(intros;simp[*];done)))
      refine ⟨_, ⟨?_, _, rfl, ?_, _, rfl, rfl⟩, ?_, ?_⟩
      ·simp [Heap.set_get, *]
      ·simp [Heap.set_get, *]
      ·simp [aresult, parseAV, treeAV, Heap.set_get, *]
      ·exact (((hsF.loc hn8 _).loc hb5o _).loc hb2o _).loc hb3o _
     ·rw [if_neg hck] at hz ⊢
      subst hz
      simp [gz, *]
      (focus repeat' first|refine ga ?_|(refine gb ?_;try simp[gz, *])|refine gk fun _ _=>?_|refine gc ?_ ?_|exact gr _|refine gi fun _=>?_|(refine gn ?_ ?_;focus(intros;simp[*];done)))
      intro b8 hb8
      simp only [Fresh] at hb8
      have n82 := ne_of_fresh hk2 hb8
      have n83 := ne_of_fresh hk3 hb8
      have n85 := ne_of_fresh hk5 hb8
      have n86 := ne_of_fresh hr2 hb8
      have m82 : ¬ b8 = b2 := fun e => n82 e.symm
      have m83 : ¬ b8 = b3 := fun e => n83 e.symm
      have m85 : ¬ b8 = b5 := fun e => n85 e.symm
      have hn8 : h b8 = none := by
       cases e : h b8 with
       | none => rfl
       | some y => rw [hsF _ _ e] at hb8; cases hb8
      try simp [Heap.set_get, *]
      (focus repeat' first|refine ga ?_|(refine gb ?_;try simp[gz, *])|refine gk fun _ _=>?_|refine gc ?_ ?_|exact gr _|refine gi fun _=>?_|(refine gn ?_ ?_;focus(intros;simp[*];done)))
      refine awp_region_stores [b5] [0,1,3] [(2,true),(4,true),(5,true),(6,false)] [7] follows (by kernel_rfl) rfl (by kernel_rfl) ?_; simp [Heap.set_get, Heap.plus_set, evc_nil, evc_cons, estep, *]
      (focus repeat' first|refine ga ?_|(refine gb ?_;try simp[gz, *])|refine gk fun _ _=>?_|refine gc ?_ ?_|exact gr _|refine gi fun _=>?_|(refine gn ?_ ?_;focus(intros;simp[*];done)))
      refine ⟨_, ⟨?_, _, rfl, ?_, _, rfl, rfl⟩, ?_, ?_⟩
      ·simp [Heap.set_get, *]
      ·simp [Heap.set_get, *]
      ·simp [aresult, parseAV, treeAV, Heap.set_get, *]
      ·exact (((hsF.loc hn8 _).loc hb5o _).loc hb2o _).loc hb3o _
    ·have hfd : decide (a.2.fc = 0) = false := decide_eq_false hfa
     rw [hfd]
     replace hz := hz.out
     rw [if_neg hfa] at hz
     subst hz
     simp [gz, *]
     (focus repeat' first|refine ga ?_|(refine gb ?_;try simp[gz, *])|refine gk fun _ _=>?_|refine gc ?_ ?_|exact gr _|refine gi fun _=>?_|(refine gn ?_ ?_;focus(intros;simp[*];done)))
     refine awp_region_stores [b6] [0,1,2,3] [(4,true),(5,false)] [6] follows (by kernel_rfl) rfl (by kernel_rfl) ?_; simp [Heap.set_get, Heap.plus_set, evc_nil, evc_cons, estep, *]
     (focus repeat' first|refine ga ?_|(refine gb ?_;try simp[gz, *])|refine gk fun _ _=>?_|refine gc ?_ ?_|exact gr _|refine gi fun _=>?_|(refine gn ?_ ?_;focus(intros;simp[*];done)))
     replace hsF := Shut.mk ((hsF.loc hb2o (.cells [.list 5 [] .nil])).loc hb3o (.cells [.int .i64 a.2.fc, .int .i64 a.2.fa]))
     refine ⟨_, ⟨?_, _, rfl, ?_, _, rfl, rfl⟩, ?_, ?_⟩ <;> first | (simp [aresult, parseAV, Heap.set_get, *]; done) | exact hsF.out
   ·have hk6 : t.kind = 6 := by
     by_cases e : t.kind = 6
     ·exact e
     ·exact absurd ⟨of_decide_eq_true hfd, e⟩ hgo2
    clear hgo2
    refine awp_eqs (s' := [_,_,_,_,_,_,_,x 7,_,_,_,_,_,_,_,_,_,_,_,_,_,_,x 22,x 23,x 24,x 25,x 26,x 27,x 28,x 29,x 30,x 31,x 32,x 33,x 34,_,_,_,_,_,_,_,_,_,_,_,_,_,_,_,_,_,_,_,_,_,_,_,_,_,_,_,_,_]) rfl ?_
    (focus repeat' first|refine ga ?_|(refine gb ?_;try simp[gz, *])|refine gk fun _ _=>?_|refine gc ?_ ?_|exact gr _|refine gi fun _=>?_|(refine gn ?_ ?_;focus(intros;simp[*];done)))
    refine ok_c T .no Sq u1 u2 b6 _ hr _ ?_
    rw [hfd]
    clear hfd
    simp [gz, *]
    (focus repeat' first|refine ga ?_|(refine gb ?_;try simp[gz, *])|refine gk fun _ _=>?_|refine gc ?_ ?_|exact gr _|refine gi fun _=>?_|(refine gn ?_ ?_;focus(intros;simp[*];done)))
    refine peek_c T .no Sq u1 u2 b6 gq.good.rd _ hr _ ?_
    rw [ht]
    clear ht
    simp [gz, *]
    (focus repeat' first|refine ga ?_|(refine gb ?_;try simp[gz, *])|refine gk fun _ _=>?_|refine gc ?_ ?_|exact gr _|refine gi fun _=>?_|(refine gn ?_ ?_;focus(intros;simp[*];done)))
    refine ACalls.weak (ys := [.ptr b6 0, .int .i64 26, .int .i64 0, .str [], .int .i64 0, .list 1 (ints kids) .no]) (.cons (Weak.refl _) (.cons (Weak.refl _) (.cons (Weak.refl _) (.cons (Weak.refl _) (.cons (Weak.refl _) (.cons (Weak.toks (by first | rfl | simp)) .nil)))))) ?_
    refine add_c 26 0 [] 0 kids T .no Sq u1 u2 b6 gq.good.rd gq.good.dl hkk.out hkl2 (Heap.bk Bp tk) _ oq.out _ (fun k3 w1 w2 o3 => ?_)
    rw [ha] at o3 ⊢
    clear oq hr
    have hr := o3.blk
    have hk2 := o3.sub _ _ hq2
    have hk3 := o3.sub _ _ hq3
    have hk5 := o3.sub _ _ hq5
    have hsF : AL.Sub h k3 := hsQ.out.trans o3.sub
    have h0k := o3.sub _ _ h0q
    have hr2 := hr
    clear ha
    simp [gz, *]
    (focus repeat' first|refine ga ?_|(refine gb ?_;try simp[gz, *])|refine gk fun _ _=>?_|refine gc ?_ ?_|exact gr _|refine gi fun _=>?_|(refine gn ?_ ?_;focus(intros;simp[*];done)))
    refine ok_c T .no a.2 w1 w2 b6 _ hr2 _ ?_
    by_cases hfa : a.2.fc = 0
    ·have hfd : decide (a.2.fc = 0) = true := decide_eq_true hfa
     rw [hfd]
     replace hz := hz.out
     rw [if_pos hfa] at hz
     obtain ⟨nodes, hnn⟩ : ∃ x, a.2.nodes = x := ⟨_, rfl⟩
     rw [hnn] at hz hFin hne2 hnl2
     simp [gz, *]
     (focus repeat' first|refine ga ?_|(refine gb ?_;try simp[gz, *])|refine gk fun _ _=>?_|refine gc ?_ ?_|exact gr _|refine gi fun _=>?_|(refine gn ?_ ?_;focus(intros;simp[*];done)))
     refine btree_c T .no a.2 w1 w2 b6 nodes hnn (fun n hn => (hFin.out n hn).1) (fun n hn => (hFin.out n hn).2) hnl2 (hne2.out hfa) _ h0k hr2 _ ?_
     by_cases hck : (checkL nodes).1 = 0
     ·rw [if_pos hck] at hz ⊢
      subst hz
      simp [gz, *]
      (focus repeat' first|refine ga ?_|(refine gb ?_;try simp[gz, *])|refine gk fun _ _=>?_|refine gc ?_ ?_|exact gr _|refine gi fun _=>?_|(refine gn ?_ ?_;focus(intros;simp[*];done)))
      intro b8 hb8
      simp only [Fresh] at hb8
      have n82 := ne_of_fresh hk2 hb8
      have n83 := ne_of_fresh hk3 hb8
      have n85 := ne_of_fresh hk5 hb8
      have n86 := ne_of_fresh hr2 hb8
      have m82 : ¬ b8 = b2 := fun e => n82 e.symm
      have m83 : ¬ b8 = b3 := fun e => n83 e.symm
      have m85 : ¬ b8 = b5 := fun e => n85 e.symm
      have hn8 : h b8 = none := by
       cases e : h b8 with
       | none => rfl
       | some y => rw [hsF _ _ e] at hb8; cases hb8
      try simp [Heap.set_get, *]
      (focus repeat' first|refine ga ?_|(refine gb ?_;try simp[gz, *])|refine gk fun _ _=>?_|refine gc ?_ ?_|exact gr _|refine gi fun _=>?_|(refine gn ?_ ?_;focus(intros;simp[*];done)))
      refine ⟨_, ⟨?_, _, rfl, ?_, _, rfl, rfl⟩, ?_, ?_⟩
      ·simp [Heap.set_get, *]
      ·simp [Heap.set_get, *]
      ·simp [aresult, parseAV, treeAV, Heap.set_get, *]
      ·exact (((hsF.loc hn8 _).loc hb5o _).loc hb2o _).loc hb3o _
     ·rw [if_neg hck] at hz ⊢
      subst hz
      simp [gz, *]
      (focus repeat' first|refine ga ?_|(refine gb ?_;try simp[gz, *])|refine gk fun _ _=>?_|refine gc ?_ ?_|exact gr _|refine gi fun _=>?_|(refine gn ?_ ?_;focus(intros;simp[*];done)))
      intro b8 hb8
      simp only [Fresh] at hb8
      have n82 := ne_of_fresh hk2 hb8
      have n83 := ne_of_fresh hk3 hb8
      have n85 := ne_of_fresh hk5 hb8
      have n86 := ne_of_fresh hr2 hb8
      have m82 : ¬ b8 = b2 := fun e => n82 e.symm
      have m83 : ¬ b8 = b3 := fun e => n83 e.symm
      have m85 : ¬ b8 = b5 := fun e => n85 e.symm
      have hn8 : h b8 = none := by
       cases e : h b8 with
       | none => rfl
       | some y => rw [hsF _ _ e] at hb8; cases hb8
      try simp [Heap.set_get, *]
      (focus repeat' first|refine ga ?_|(refine gb ?_;try simp[gz, *])|refine gk fun _ _=>?_|refine gc ?_ ?_|exact gr _|refine gi fun _=>?_|(refine gn ?_ ?_;focus(intros;simp[*];done)))
      refine awp_region_stores [b5] [0,1,3] [(2,true),(4,true),(5,true),(6,false)] [7] follows (by kernel_rfl) rfl (by kernel_rfl) ?_; simp [Heap.set_get, Heap.plus_set, evc_nil, evc_cons, estep, *]
      (focus repeat' first|refine ga ?_|(refine gb ?_;try simp[gz, *])|refine gk fun _ _=>?_|refine gc ?_ ?_|exact gr _|refine gi fun _=>?_|(refine gn ?_ ?_;focus(intros;simp[*];done)))
      refine ⟨_, ⟨?_, _, rfl, ?_, _, rfl, rfl⟩, ?_, ?_⟩
      ·simp [Heap.set_get, *]
      ·simp [Heap.set_get, *]
      ·simp [aresult, parseAV, treeAV, Heap.set_get, *]
      ·exact (((hsF.loc hn8 _).loc hb5o _).loc hb2o _).loc hb3o _
    ·have hfd : decide (a.2.fc = 0) = false := decide_eq_false hfa
     rw [hfd]
     replace hz := hz.out
     rw [if_neg hfa] at hz
     subst hz
     simp [gz, *]
     (focus repeat' first|refine ga ?_|(refine gb ?_;try simp[gz, *])|refine gk fun _ _=>?_|refine gc ?_ ?_|exact gr _|refine gi fun _=>?_|(refine gn ?_ ?_;focus(intros;simp[*];done)))
     refine awp_region_stores [b6] [0,1,2,3] [(4,true),(5,false)] [6] follows (by kernel_rfl) rfl (by kernel_rfl) ?_; simp [Heap.set_get, Heap.plus_set, evc_nil, evc_cons, estep, *]
     (focus repeat' first|refine ga ?_|(refine gb ?_;try simp[gz, *])|refine gk fun _ _=>?_|refine gc ?_ ?_|exact gr _|refine gi fun _=>?_|(refine gn ?_ ?_;focus(intros;simp[*];done)))
     replace hsF := Shut.mk ((hsF.loc hb2o (.cells [.list 5 [] .nil])).loc hb3o (.cells [.int .i64 a.2.fc, .int .i64 a.2.fa]))
     refine ⟨_, ⟨?_, _, rfl, ?_, _, rfl, rfl⟩, ?_, ?_⟩ <;> first | (simp [aresult, parseAV, Heap.set_get, *]; done) | exact hsF.out
end Go.Proofs.YtcbgpjlcfkkdlaaGreatDoor

namespace Go.Proofs.YtcbgpjlcfkkdlaaGreatDoor
open Go Go.AL Go.Proofs
theorem ck_one {N : List Nd} {a x : Nat} {R : Nat → Prop} (ha : a < N.length) (hx : x < a) (hRx : R x) (hn : N[a].kids = [(x : Int)]) (hf : formL N[a] = true) (hk : kidsL N N[a] = true) (hl : N.length ≤ 200) :
  Ck N a (a + 1) R (fun i => (R i ∧ ¬ i = x) ∨ i = a) := fun o d q => by
 have ox : o.getD x false = false := by
  cases e : o.getD x false
  ·rfl
  ·exact absurd hRx ((q.ow x (by omega)).1 e).2
 obtain ⟨d1, hd1⟩ : ∃ d1, d.set a (max (d.getD a 0) (d.getD x 0 + 1)) = d1 := ⟨_, rfl⟩
 have l1 : d1.length = N.length := by rw [← hd1, List.length_set, q.dl]
 have b1 : ∀ i, i < N.length → 0 ≤ d1.getD i 0 ∧ d1.getD i 0 ≤ i := fun i hi => by
  rw [← hd1, getD_set _ _ _ _ _ (by rw [q.dl]; exact ha)]
  have e1 := q.dd a ha; have e2 := q.dd x (by omega); have e3 := q.dd i hi
  split
  ·subst i; omega
  ·exact e3
 refine ⟨o.set x true, d1, ⟨by rw [List.length_set, q.ol], l1, fun i hi => ?_, b1⟩, ?_⟩
 ·have := q.ol
  rw [getD_set _ _ _ _ _ (by omega)]
  by_cases e2 : i = x
  ·rw [if_pos e2]; exact ⟨fun _ => ⟨by omega, fun e => e.elim (fun e => e.2 e2) (by omega)⟩, fun _ => rfl⟩
  ·rw [if_neg e2, q.ow i hi]
   constructor
   ·exact fun ⟨h1, h2⟩ => ⟨by omega, fun e => e.elim (fun e => h2 e.1) (by omega)⟩
   ·exact fun ⟨h1, h2⟩ => ⟨by have : ¬ i = a := fun e => h2 (.inr e); omega, fun e => h2 (.inl ⟨e, e2⟩)⟩
 ·refine run_next ha hf ?_ hk (by have := (b1 a ha).2; omega)
  rw [hn]
  have k1 : ¬ ((x : Int) < -1 ∨ (a : Int) ≤ x) := by omega
  have k2 : ¬ ((x : Int) < 0) := by omega
  simp only [kidLoop, k1, k2, if_false, Int.toNat_natCast, ox, Bool.false_eq_true, hd1]
theorem stmt_kids {N : List Nd} (p : Int) {x : Nat} (hx : ∃ n : Nd, N[x]? = some n ∧ (n.kind = 6 ∨ n.kind = 10)) : kidsL N ⟨28, p, [], 0, [(x : Int)]⟩ = true := by
 obtain ⟨n, e1, k1⟩ := hx
 have f : fitsL n.kind 1 = true := by rcases k1 with k1 | k1 <;> rw [k1] <;> decide +kernel
 have a1 : kindAt N (x : Int) = n.kind := by simp [kindAt, e1]
 have k2 : kidFine N (x : Int) 1 = true := by
  unfold kidFine
  rw [if_neg (by intro e; omega), a1, f]
  simp
 have d1 : isDefault N (x : Int) = false := by
  unfold isDefault
  rw [a1, decide_eq_false (show ¬ n.kind = 24 by omega)]
  simp
 have hall : ∀ i (h : i < [(x : Int)].length), kidFine N [(x : Int)][i] (wantAt ⟨28, p, [], 0, [(x : Int)]⟩ i) = true := fun i h => by
  have h2 : i < 1 := h
  obtain rfl : i = 0 := by omega
  exact k2
 unfold kidsL
 rw [if_neg (show ¬ (28 : Int) = 20 by decide), decide_eq_true hall]
 simp [shapeL, List.countP_cons, d1]
theorem stmt_form {p : Int} (hp : 0 ≤ p) (ks : List Int) : formL ⟨28, p, [], 0, ks⟩ = true := by simp [formL, textL, hp]
theorem block_kids {N : List Nd} {x : Nat} (hx : ∃ n : Nd, N[x]? = some n ∧ n.kind = 28) : kidsL N ⟨26, 0, [], 0, [(x : Int)]⟩ = true := by
 obtain ⟨n, e1, k1⟩ := hx
 have f : fitsL n.kind 2 = true := by rw [k1]; decide +kernel
 have a1 : kindAt N (x : Int) = n.kind := by simp [kindAt, e1]
 have k2 : kidFine N (x : Int) 2 = true := by
  unfold kidFine
  rw [if_neg (by intro e; omega), a1, f]
  simp
 have d1 : isDefault N (x : Int) = false := by
  unfold isDefault
  rw [a1, decide_eq_false (show ¬ n.kind = 24 by omega)]
  simp
 have hall : ∀ i (h : i < [(x : Int)].length), kidFine N [(x : Int)][i] (wantAt ⟨26, 0, [], 0, [(x : Int)]⟩ i) = true := fun i h => by
  have h2 : i < 1 := h
  obtain rfl : i = 0 := by omega
  exact k2
 unfold kidsL
 rw [if_neg (show ¬ (26 : Int) = 20 by decide), decide_eq_true hall]
 simp [shapeL, List.countP_cons, d1]
theorem bs_nest {S : St} (b : Bs S) (v : Int) : Bs { S with nest := v } := ⟨b.fc, b.dl, b.dd⟩
theorem down_run {T : List Tk} {S : St} (h0 : 0 ≤ S.nest) (h : S.nest < 60) : downL T S = { S with nest := S.nest + 1 } := by
 unfold downL
 simp only
 rw [w64 (by omega) (by omega), if_neg (by show ¬ S.nest + 1 > 60; omega)]
section
variable {T : List Tk} {ops : List (List UInt8)}
theorem expr_run (hb : Bt T ops) (hm : ops.length ≤ 40) (n : Nat) (hn : 2000 ≤ n) {S : St} (b : Bs S) (hx : S.idx = 0) (hne : S.nest = 1) (hnd : S.nodes = []) :
  ∃ S' root, Bm T ops 0 0 ops.length { S with nest := 2 } S' root ∧ run T n .expr S = some ([((root : Nat) : Int)], upL S') := by
 obtain ⟨n, rfl⟩ : ∃ m, n = m + 2 := ⟨n - 2, by omega⟩
 have hrun : run T (n + 2) .expr S = if (downL T S).fc = 0 then
   (run T (n + 1) (.cond (peekL T (downL T S)).pos) (downL T S)).bind fun r =>
    if (peekL T r.2).kind = 5 ∧ isAssign (peekL T r.2).text = true then
     if isTarget (kindL r.2 (fst0 r.1)) = true then (run T (n + 1) .expr (stepL r.2)).bind fun q => (one (addL T 12 (peekL T (downL T S)).pos (peekL T r.2).text 0 [fst0 r.1, fst0 q.1] q.2)).map fun r => (r.1, upL r.2)
     else some (r.1, upL (wrongL T 30 r.2))
    else some (r.1, upL r.2)
   else some ([-1], upL (downL T S)) := by
  conv => lhs; unfold run
 rw [hrun, down_run (by omega) (by omega), hne]
 have b2 : Bs { S with nest := 1 + 1 } := bs_nest b _
 rw [if_pos b2.fc]
 have hcond : ∀ a, run T (n + 1) (.cond a) { S with nest := 1 + 1 } = (run T n (.binary 0) { S with nest := 1 + 1 }).bind fun r => if isL T [63] r.2 then
     (run T n .expr (stepL r.2)).bind fun a' =>
      (run T n (.cond (peekL T (downL T (mustL T [58] a'.2))).pos) (downL T (mustL T [58] a'.2))).bind fun b => (one (addL T 11 a [] 0 [fst0 r.1, fst0 a'.1, fst0 b.1] b.2)).map fun r => (r.1, upL r.2)
    else some r := fun a => by
  conv => lhs; unfold run
 obtain ⟨k, S', root, m, s, e⟩ := bin_run hb 10 0 rfl n 0 { S with nest := 1 + 1 } (by omega) b2 (by show S.idx = _; omega) (by show S.nodes.length + 2 * (ops.length - 0) + 1 ≤ 150; rw [hnd]; simp only [List.length_nil]; omega) (by omega)
 have hk : k = ops.length := by
  rcases s with q | q
  ·omega
  ·rcases Nat.lt_or_ge (0 + k) ops.length with h | h
   ·have := hb.lev _ h; omega
   ·have := m.le; omega
 subst hk
 obtain ⟨-, -, -, h4, -, h6⟩ := next_no hb (i := 0 + ops.length) (by omega) m.bs m.idx
 refine ⟨S', root, m, ?_⟩
 rw [hcond, show (.binary 0 : Op) = .binary ((0 : Nat) : Int) from rfl, e]
 simp only [Option.bind_some, h4, Bool.false_eq_true, if_false]
 rw [if_neg h6]
theorem up_nest {S : St} (h0 : 0 ≤ S.nest) (h : S.nest < 100) : upL S = { S with nest := S.nest - 1 } := by
 unfold upL
 rw [w64 (by omega) (by omega)]
theorem binds_run (hb : Bt T ops) (hm : ops.length ≤ 40) (n : Nat) (hn : 2010 ≤ n) :
  ∃ S' root p s, 0 ≤ p ∧ run T n (.top []) S00 = some ([((S'.nodes.length : Nat) : Int) - 1], S') ∧ Bs S' ∧ Ws 0 ops s ∧ Shows S'.nodes root s ∧ S'.nodes[S'.nodes.length - 1]? = some ⟨28, p, [], 0, [((root : Nat) : Int)]⟩ ∧ 0 < S'.nodes.length ∧ S'.nodes.length ≤ 90 ∧
   (∀ N more, N = S'.nodes ++ more → N.length ≤ 200 → Ck N 0 S'.nodes.length (fun _ => False) (fun j => j = S'.nodes.length - 1)) := by
 obtain ⟨n, rfl⟩ : ∃ m, n = m + 3 := ⟨n - 3, by omega⟩
 have b0 : Bs S00 := ⟨rfl, rfl, fun j hj => by cases hj⟩
 have hk1 : (T.getD 0 default).kind = 1 := (hb.nk 0 (by omega)).1
 have htop : ∀ m kids S, run T (m + 1) (.top kids) S = if S.fc = 0 ∧ ¬ (peekL T S).kind = 6 then (run T m .stmt S).bind fun r => run T m (.top (kids ++ [fst0 r.1])) r.2 else some (kids, S) := fun m kids S => by
  conv => lhs; unfold run
 have hstmt : ∀ m S, (peekL T (downL T S)).kind = 1 → run T (m + 1) .stmt S = (run T m .expr (downL T S)).bind fun r => (one (addL T 28 (peekL T (downL T S)).pos [] 0 [fst0 r.1] r.2)).map fun r => (r.1, upL (endL T r.2)) := fun m S hk => by
  conv => lhs; unfold run
  simp only
  rw [if_neg (by rw [hk]; decide), isL_kind2 _ (by rw [hk]; decide) (by rw [hk]; decide), isL_kind2 _ (by rw [hk]; decide) (by rw [hk]; decide)]
  simp only [Bool.false_eq_true, if_false]
 have hd : downL T S00 = { S00 with nest := 0 + 1 } := down_run (by decide) (by decide)
 have hp0 : peekL T S00 = T.getD 0 default := peek_fc rfl
 have hp1 : peekL T { S00 with nest := 0 + 1 } = T.getD 0 default := peek_fc rfl
 obtain ⟨S1, root, m, e⟩ := expr_run hb hm (n + 1) (by omega) (S := { S00 with nest := 0 + 1 }) (bs_nest b0 _) rfl rfl rfl
 have hn2 : S1.nest = 2 := m.nest
 have e1 : upL S1 = { S1 with nest := S1.nest - 1 } := up_nest (by omega) (by omega)
 have l1 : S1.nodes.length = 2 * ops.length + 1 := by have := m.len; simpa using this
 obtain ⟨S2, e2, b2, g1, g2, g3⟩ := add_run (T := T) (S := { S1 with nest := S1.nest - 1 }) (bs_nest m.bs _) (by show S1.nodes.length < 200; omega) 28 (T.getD 0 default).pos [] 0 [(root : Int)] (fun y hy => by
  have := m.rt
  rw [List.mem_singleton.1 hy]
  show 0 ≤ (root : Int) ∧ (root : Int) < S1.nodes.length
  omega)
 have g1' : S2.nodes = S1.nodes ++ [⟨28, (T.getD 0 default).pos, [], 0, [(root : Int)]⟩] := g1
 have g3' : S2.nest = 1 := by rw [g3]; show S1.nest - 1 = 1; omega
 have hx2 : S2.idx = 2 * ops.length + 1 := by rw [g2]; show S1.idx = _; rw [m.idx]; omega
 have hk6 : (peekL T S2).kind = 6 := by rw [peek_fc b2.fc, hx2]; exact hb.last
 have hend : endL T S2 = S2 := by
  unfold endL
  rw [isL_kind2 _ (by rw [hk6]; decide) (by rw [hk6]; decide)]
  simp only [Bool.false_eq_true, if_false]
  rw [if_pos]
  unfold endsL
  rw [decide_eq_true hk6]
  simp
 have e3 : upL S2 = { S2 with nest := S2.nest - 1 } := up_nest (by omega) (by omega)
 have hk62 : (peekL T { S2 with nest := S2.nest - 1 }).kind = 6 := by rw [peek_fc (S := { S2 with nest := S2.nest - 1 }) b2.fc]; show (T.getD S2.idx default).kind = 6; rw [hx2]; exact hb.last
 have hg : S2.nodes[S1.nodes.length]? = some ⟨28, (T.getD 0 default).pos, [], 0, [(root : Int)]⟩ := by rw [g1']; simp
 have l2 : S2.nodes.length = S1.nodes.length + 1 := by rw [g1']; simp
 obtain ⟨s, ws, sh⟩ := m.sh
 refine ⟨{ S2 with nest := S2.nest - 1 }, root, (T.getD 0 default).pos, s, hb.pos 0, ?_, bs_nest b2 _, ?_, ?_, ?_, by show 0 < S2.nodes.length; omega, by show S2.nodes.length ≤ 90; omega, fun N more eN hl => ?_⟩
 ·rw [htop, if_pos ⟨rfl, by rw [hp0, hk1]; decide⟩, hstmt _ _ (by rw [hd, hp1]; exact hk1), hd, hp1, e, Option.bind_some]
  show Option.bind (Option.map _ (one (addL T 28 _ [] 0 [fst0 [(root : Int)]] (upL S1)))) _ = _
  rw [fst0_one, e1, e2]
  show run T (n + 2) (.top ([] ++ [fst0 [_]])) (upL (endL T S2)) = _
  rw [hend, e3, htop, if_neg (fun q => q.2 hk62)]
  show some ([(S1.nodes.length : Int)], _) = some ([(S2.nodes.length : Int) - 1], _)
  rw [show (S2.nodes.length : Int) - 1 = S1.nodes.length from by omega]
 ·have : seg ops 0 ops.length = ops := by unfold seg; simp
  rw [← this]; exact ws
 ·show Shows S2.nodes root s
  rw [g1']; exact sh.mono
 ·show S2.nodes[S2.nodes.length - 1]? = _
  rw [show S2.nodes.length - 1 = S1.nodes.length from by omega]; exact hg
 ·have eN' : N = S2.nodes ++ more := eN
  have c1 := m.ck N ([⟨28, (T.getD 0 default).pos, [], 0, [(root : Int)]⟩] ++ more) (by rw [eN', g1']; simp) hl (fun _ => False) (fun _ h => h.elim)
  have hN : S1.nodes.length < N.length := by rw [eN', g1']; simp
  have hg2 : N[S1.nodes.length]? = some ⟨28, (T.getD 0 default).pos, [], 0, [(root : Int)]⟩ := by rw [eN', List.getElem?_append_left (List.getElem?_eq_some_iff.1 hg).1, hg]
  have hg3 := (List.getElem?_eq_some_iff.1 hg2).2
  obtain ⟨nd1, q1, q2⟩ := m.kind
  have hr := m.rt
  have i1 : N[root]? = some nd1 := by rw [eN', g1', List.append_assoc, List.getElem?_append_left (List.getElem?_eq_some_iff.1 q1).1, q1]
  have c2 := ck_one (N := N) (a := S1.nodes.length) (x := root) (R := fun j => False ∨ j = root) hN (by omega) (.inr rfl) (by rw [hg3]) (by rw [hg3]; exact stmt_form (hb.pos 0) _) (by rw [hg3]; exact stmt_kids _ ⟨nd1, i1, q2⟩) hl
  show Ck N 0 S2.nodes.length _ _
  rw [l2]
  refine (Ck.trans c1 c2).congr fun j => ⟨?_, ?_⟩
  ·rintro (⟨h1 | h1, h2⟩ | h1)
   ·exact h1.elim
   ·exact absurd h1 h2
   ·show j = S1.nodes.length + 1 - 1; omega
  ·intro h1
   have h1' : j = S1.nodes.length + 1 - 1 := h1
   exact .inr (by omega)
theorem binds_parse (hb : Bt T ops) (hm : ops.length ≤ 40) {src : List UInt8} (hsc : scanT src = .inl T) :
  ∃ pre p q r s, parseT src = (pre ++ [⟨28, p, [], 0, [((r : Nat) : Int)]⟩, ⟨26, q, [], 0, [((pre.length : Nat) : Int)]⟩], 0, 0) ∧ Ws 0 ops s ∧ Shows (pre ++ [⟨28, p, [], 0, [((r : Nat) : Int)]⟩, ⟨26, q, [], 0, [((pre.length : Nat) : Int)]⟩]) r s ∧ pre.length ≤ 100 := by
 obtain ⟨S', root, p, s, hp, e, b, ws, sh, hg, hl0, hl, ck⟩ := binds_run hb hm fuel0 (by decide)
 obtain ⟨S3, e3, b3, g1, -, -⟩ := add_run (T := T) b (by omega) 26 0 [] 0 [(S'.nodes.length : Int) - 1] (fun y hy => by rw [List.mem_singleton.1 hy]; omega)
 obtain ⟨a, hla⟩ : ∃ a, S'.nodes.length = a + 1 := ⟨S'.nodes.length - 1, by omega⟩
 have hkid : (S'.nodes.length : Int) - 1 = (a : Int) := by omega
 rw [hkid] at e e3 g1
 rw [show S'.nodes.length - 1 = a from by omega] at hg
 have hg3 : S3.nodes[S'.nodes.length]? = some ⟨26, 0, [], 0, [(a : Int)]⟩ := by rw [g1]; simp
 have l3 : S3.nodes.length = S'.nodes.length + 1 := by rw [g1]; simp
 have hgN := (List.getElem?_eq_some_iff.1 hg3).2
 have hga : S3.nodes[a]? = some ⟨28, p, [], 0, [(root : Int)]⟩ := by rw [g1, List.getElem?_append_left (by omega), hg]
 have c1 := ck S3.nodes [⟨26, 0, [], 0, [(a : Int)]⟩] g1 (by omega)
 have c2 := ck_one (N := S3.nodes) (a := S'.nodes.length) (x := a) (R := fun j => j = S'.nodes.length - 1) (by omega) (by omega) (by show a = _; omega) (by rw [hgN]) (by rw [hgN]; simp [formL, textL]) (by rw [hgN]; exact block_kids ⟨_, hga, rfl⟩) (by omega)
 have q0 : Q S3.nodes 0 (fun _ => False) (List.replicate S3.nodes.length false) (List.replicate S3.nodes.length 0) := ⟨by simp, by simp, fun i hi => by simp [List.getD_eq_getElem?_getD, List.getElem?_replicate, hi], fun i hi => by simp [List.getD_eq_getElem?_getD, List.getElem?_replicate, hi]⟩
 obtain ⟨o, d, qe, er⟩ := (Ck.trans c1 c2) _ _ q0
 have hchk : checkL S3.nodes = (0, 0) := by
  unfold checkL checkG
  rw [if_neg (by intro q; rcases q with q | q; rw [q] at l3; simp at l3; omega)]
  show runL S3.nodes 0 _ _ = _
  rw [er, run_last (by omega)]
  unfold lastL
  have hk : kindAt S3.nodes (S3.nodes.length - 1 : Int) = 26 := by
   rw [show (S3.nodes.length : Int) - 1 = ((S'.nodes.length : Nat) : Int) from by omega]
   simp [kindAt, hg3]
  rw [if_neg (by rw [hk]; decide)]
  have hf : firstNo (o.take (S3.nodes.length - 1)) = -1 := firstNo_none fun j hj => by
   have hj2 : j < S3.nodes.length - 1 := by rw [List.length_take, qe.ol] at hj; omega
   rw [List.getElem_take]
   have := (qe.ow j (by omega)).2 ⟨by omega, fun q => by rcases q with ⟨q1, q2⟩ | q <;> omega⟩
   simpa [List.getD_eq_getElem?_getD, show j < o.length by rw [qe.ol]; omega] using this
  rw [hf, if_neg (by decide)]
 have hsplit : ∃ pre, S'.nodes = pre ++ [⟨28, p, [], 0, [(root : Int)]⟩] ∧ pre.length = a := by
  refine ⟨S'.nodes.take a, ?_, by rw [List.length_take]; omega⟩
  have h2 := (List.getElem?_eq_some_iff.1 hg).2
  rw [← h2, ← List.take_succ_eq_append_getElem, ← hla, List.take_length]
 obtain ⟨pre, hp1, hp2⟩ := hsplit
 refine ⟨pre, p, 0, root, s, ?_, ws, ?_, by omega⟩
 ·unfold parseT
  rw [hsc]
  simp only [e, e3]
  rw [if_pos b3.fc, hchk, if_pos rfl, g1, hp1, hp2]
  simp
 ·have h2 := sh.mono (more := [⟨26, 0, [], 0, [(a : Int)]⟩])
  rw [hp1, ← hp2] at h2
  simpa using h2
end
end Go.Proofs.YtcbgpjlcfkkdlaaGreatDoor

namespace Go.Proofs.YtcbgpjlcfkkdlaaGreatDoor
open Go Go.AL Go.Proofs
def tailB : Nat → List (List UInt8) → List UInt8
 | _, [] => []
 | j, o :: os => 32 :: (o ++ 32 :: (nm (j + 1) ++ tailB (j + 1) os))
def srcB (ops : List (List UInt8)) : List UInt8 := nm 0 ++ tailB 0 ops
def kindO (o : List UInt8) : Int := if o = [105, 110] ∨ o = [105, 110, 115, 116, 97, 110, 99, 101, 111, 102] then 2 else 5
def tkB : Nat → Nat → List (List UInt8) → List Tk
 | p, _, [] => [⟨6, p, [], 0, false⟩]
 | p, j, o :: os => ⟨kindO o, (p + 1 : Nat), o, 0, false⟩ :: ⟨1, (p + o.length + 2 : Nat), nm (j + 1), 0, false⟩ :: tkB (p + o.length + 3) (j + 1) os
theorem tkB_get : ∀ (ops : List (List UInt8)) (p j : Nat), (∀ i, i < ops.length → (∃ q : Nat, (tkB p j ops).getD (2 * i) default = ⟨kindO (ops.getD i []), q, ops.getD i [], 0, false⟩) ∧ ∃ q : Nat, (tkB p j ops).getD (2 * i + 1) default = ⟨1, q, nm (j + i + 1), 0, false⟩) ∧ (∃ q : Nat, (tkB p j ops).getD (2 * ops.length) default = ⟨6, q, [], 0, false⟩) ∧ (tkB p j ops).length = 2 * ops.length + 1
 | [], p, j => ⟨fun i hi => (by cases hi), ⟨p, rfl⟩, rfl⟩
 | o :: os, p, j => by
  obtain ⟨h1, ⟨q, h2⟩, h3⟩ := tkB_get os (p + o.length + 3) (j + 1)
  refine ⟨fun i hi => ?_, ⟨q, ?_⟩, by simp only [tkB, List.length_cons, h3]; omega⟩
  ·cases i with
   | zero => exact ⟨⟨_, rfl⟩, ⟨_, rfl⟩⟩
   | succ i =>
    obtain ⟨⟨q1, e1⟩, ⟨q2, e2⟩⟩ := h1 i (by simp only [List.length_cons] at hi; omega)
    refine ⟨⟨q1, ?_⟩, ⟨q2, ?_⟩⟩
    ·rw [show 2 * (i + 1) = 2 * i + 1 + 1 from by omega]; exact e1
    ·rw [show 2 * (i + 1) + 1 = 2 * i + 1 + 1 + 1 from by omega, show j + (i + 1) + 1 = j + 1 + i + 1 from by omega]; exact e2
  ·rw [List.length_cons, show 2 * (os.length + 1) = 2 * os.length + 1 + 1 from by omega]; exact h2
def toksB (ops : List (List UInt8)) : List Tk := ⟨1, 0, nm 0, 0, false⟩ :: tkB 1 0 ops
theorem kindO_is (o : List UInt8) : kindO o = 5 ∨ kindO o = 2 := by unfold kindO; split <;> simp
theorem bt_toks {ops : List (List UInt8)} (h : ∀ i, i < ops.length → 0 ≤ levelW (ops.getD i [])) : Bt (toksB ops) ops := by
 obtain ⟨h1, ⟨q, h2⟩, h3⟩ := tkB_get ops 1 0
 have hl : (toksB ops).length = 2 * ops.length + 2 := by simp only [toksB, List.length_cons, h3]
 have hn : ∀ i, i ≤ ops.length → ∃ q : Nat, (toksB ops).getD (2 * i) default = ⟨1, q, nm i, 0, false⟩ := fun i hi => by
  cases i with
  | zero => exact ⟨0, rfl⟩
  | succ i =>
   obtain ⟨-, q2, e2⟩ := h1 i (by omega)
   exact ⟨q2, by rw [show 2 * (i + 1) = 2 * i + 1 + 1 from by omega]; rw [Nat.zero_add] at e2; exact e2⟩
 have ho : ∀ i, i < ops.length → ∃ q : Nat, (toksB ops).getD (2 * i + 1) default = ⟨kindO (ops.getD i []), q, ops.getD i [], 0, false⟩ := fun i hi => (h1 i hi).1
 refine ⟨hl, fun i hi => ?_, fun i hi => ?_, ?_, fun i => ?_, h⟩
 ·obtain ⟨q, e⟩ := hn i hi; rw [e]; exact ⟨rfl, rfl⟩
 ·obtain ⟨q, e⟩ := ho i hi; rw [e]; exact ⟨kindO_is _, rfl⟩
 ·show ((tkB 1 0 ops).getD (2 * ops.length) default).kind = 6
  rw [h2]
 ·by_cases hi : i < 2 * ops.length + 1
  ·rcases Nat.mod_two_eq_zero_or_one i with e | e
   ·obtain ⟨q, e1⟩ := hn (i / 2) (by omega)
    rw [show i = 2 * (i / 2) from by omega, e1]; exact Int.natCast_nonneg q
   ·obtain ⟨q, e1⟩ := ho (i / 2) (by omega)
    rw [show i = 2 * (i / 2) + 1 from by omega, e1]; exact Int.natCast_nonneg q
  ·by_cases hi2 : i = 2 * ops.length + 1
   ·rw [hi2]; show 0 ≤ ((tkB 1 0 ops).getD (2 * ops.length) default).pos; rw [h2]; exact Int.natCast_nonneg q
   ·rw [List.getD_eq_getElem?_getD, List.getElem?_eq_none (by omega)]; exact Int.le_refl 0
theorem op_next {o : List UInt8} (ho : o ∈ allOps) {s : List UInt8} {i : Nat} {rest : List UInt8} (h : s.drop i = o ++ 32 :: rest) : nextR s i = (tokRes (kindO o) o 0, i + o.length) ∧ (∃ c r, s.drop i = c :: r ∧ ¬ c = 10 ∧ ¬ (c = 32 ∨ c = 9 ∨ c = 13) ∧ ¬ c = 35 ∧ Lib.hasPrefix (s.drop i) [47, 47] = false ∧ Lib.hasPrefix (s.drop i) [47, 42] = false) := by
 have hg : s.getD i 0 = (s.drop i).headD 0 := by
  have h2 : (s.drop i)[0]? = s[i]? := by rw [List.getElem?_drop, Nat.add_zero]
  cases e : s.drop i with
  | nil => rw [e] at h2; simp [List.getD, ← h2]
  | cons c r => rw [e] at h2; simp [List.getD, ← h2]
 have hin : o = [105, 110] ∨ o = [105, 110, 115, 116, 97, 110, 99, 101, 111, 102] ∨ o ∈ allOps.filter (fun o => !letterX (o.headD 0)) := by
  by_cases e : letterX (o.headD 0) = true
  ·have : ∀ o ∈ allOps, letterX (o.headD 0) = true → o = [105, 110] ∨ o = [105, 110, 115, 116, 97, 110, 99, 101, 111, 102] := by decide +kernel
   rcases this o ho e with q | q
   ·exact .inl q
   ·exact .inr (.inl q)
  ·exact .inr (.inr (List.mem_filter.2 ⟨ho, (by cases q : letterX (o.headD 0) <;> first | rfl | exact absurd q e)⟩))
 rcases hin with rfl | rfl | hin
 ·refine ⟨?_, 105, _, h, by decide, by decide, by decide, by rw [h]; rfl, by rw [h]; rfl⟩
  have hw : wspan s i = 2 := by unfold wspan; rw [h]; rfl
  have hL : letterX (([105, 110] ++ 32 :: rest).headD 0) = true := (by show letterX 105 = true; decide)
  have hs : spanW s i = [105, 110] := by unfold spanW; rw [hw, h]; rfl
  unfold nextR
  rw [hg, hs, hw, h, if_pos hL, if_pos (by decide +kernel)]
  rfl
 ·refine ⟨?_, 105, _, h, by decide, by decide, by decide, by rw [h]; rfl, by rw [h]; rfl⟩
  have hw : wspan s i = 10 := by unfold wspan; rw [h]; rfl
  have hL : letterX (([105, 110, 115, 116, 97, 110, 99, 101, 111, 102] ++ 32 :: rest).headD 0) = true := (by show letterX 105 = true; decide)
  have hs : spanW s i = [105, 110, 115, 116, 97, 110, 99, 101, 111, 102] := by unfold spanW; rw [hw, h]; rfl
  unfold nextR
  rw [hg, hs, hw, h, if_pos hL, if_pos (by decide +kernel)]
  rfl
 ·have hx : allOps.filter (fun o => !letterX (o.headD 0)) = [[124, 124], [38, 38], [124], [94], [38], [61, 61], [33, 61], [60, 61, 62], [60], [60, 61], [62], [62, 61], [60, 60], [62, 62], [62, 62, 62], [43], [45], [42], [47], [37]] := by decide +kernel
  rw [hx] at hin
  simp only [List.mem_cons, List.not_mem_nil, or_false] at hin
  rcases hin with rfl | rfl | rfl | rfl | rfl | rfl | rfl | rfl | rfl | rfl | rfl | rfl | rfl | rfl | rfl | rfl | rfl | rfl | rfl | rfl
  all_goals
   refine ⟨?_, _, _, h, by decide, by decide, by decide, by rw [h]; rfl, by rw [h]; rfl⟩
   unfold nextR
   rw [hg, h]
   rfl
theorem nm_next {j : Nat} {s : List UInt8} {i : Nat} {rest : List UInt8} (h : s.drop i = nm j ++ rest) (hr : rest = [] ∨ ∃ r, rest = 32 :: r) : nextR s i = (tokRes 1 (nm j) 0, i + 1) ∧ (∃ c r, s.drop i = c :: r ∧ ¬ c = 10 ∧ ¬ (c = 32 ∨ c = 9 ∨ c = 13) ∧ ¬ c = 35 ∧ Lib.hasPrefix (s.drop i) [47, 47] = false ∧ Lib.hasPrefix (s.drop i) [47, 42] = false) := by
 have hg : s.getD i 0 = (s.drop i).headD 0 := by
  have h2 : (s.drop i)[0]? = s[i]? := by rw [List.getElem?_drop, Nat.add_zero]
  rw [h] at h2 ⊢
  simp [List.getD, ← h2, nm]
 have hall : ∀ k, k < 26 → letterX (UInt8.ofNat (97 + k)) = true ∧ wordX (UInt8.ofNat (97 + k)) = true ∧ keyL [UInt8.ofNat (97 + k)] = false ∧ ¬ UInt8.ofNat (97 + k) = 10 ∧ ¬ (UInt8.ofNat (97 + k) = 32 ∨ UInt8.ofNat (97 + k) = 9 ∨ UInt8.ofNat (97 + k) = 13) ∧ ¬ UInt8.ofNat (97 + k) = 35 ∧ ¬ UInt8.ofNat (97 + k) = 47 := by decide +kernel
 obtain ⟨f1, f2, f3, f4, f5, f6, f7⟩ := hall (j % 26) (Nat.mod_lt _ (by decide))
 have hnm : nm j = [UInt8.ofNat (97 + j % 26)] := rfl
 rw [hnm] at h ⊢
 generalize UInt8.ofNat (97 + j % 26) = c at h f1 f2 f3 f4 f5 f6 f7 ⊢
 have hw : wspan s i = 1 := by
  unfold wspan
  rw [h, List.cons_append, List.takeWhile_cons, f2]
  rcases hr with rfl | ⟨r, rfl⟩ <;> rfl
 have hs : spanW s i = [c] := by unfold spanW; rw [hw, h]; rfl
 refine ⟨?_, c, rest, h, f4, f5, f6, ?_, ?_⟩
 ·unfold nextR
  rw [hg, hs, hw, h, if_pos (by exact f1), if_neg (by rw [f3]; decide)]
 ·rw [h]; show ((47 == c) && _) = false; rw [beq_eq_false_iff_ne.2 (fun e => f7 e.symm)]; rfl
 ·rw [h]; show ((47 == c) && _) = false; rw [beq_eq_false_iff_ne.2 (fun e => f7 e.symm)]; rfl
theorem scan_blank {s : List UInt8} {n i : Nat} {out : List Tk} {k : Int} {x : List UInt8} {b : Nat} {c : UInt8} {r : List UInt8} (h0 : s.drop i = 32 :: c :: r) (h1 : s.drop (i + 1) = c :: r) (hn : nextR s (i + 1) = (tokRes k x 0, b))
  (c1 : ¬ c = 10) (c2 : ¬ (c = 32 ∨ c = 9 ∨ c = 13)) (c3 : ¬ c = 35) (c4 : Lib.hasPrefix (s.drop (i + 1)) [47, 47] = false) (c5 : Lib.hasPrefix (s.drop (i + 1)) [47, 42] = false) (ho : out.length < 65536) :
  scanR s (n + 1) i false out = scanR s n b false (out ++ [⟨k, (i + 1 : Nat), x, 0, false⟩]) := by
 have hi : i + 1 < s.length := by
  have : (s.drop i).length = s.length - i := List.length_drop
  rw [h0, List.length_cons, List.length_cons] at this
  omega
 have g1 : s.getD i 0 = 32 := by
  have h2 : (s.drop i)[0]? = s[i]? := by rw [List.getElem?_drop, Nat.add_zero]
  rw [h0] at h2; simp [List.getD, ← h2]
 have g2 : s.getD (i + 1) 0 = c := by
  have h2 : (s.drop (i + 1))[0]? = s[i + 1]? := by rw [List.getElem?_drop, Nat.add_zero]
  rw [h1] at h2; simp [List.getD, ← h2]
 obtain ⟨m, hm⟩ : ∃ m, s.length - i = m + 2 := ⟨s.length - i - 2, by omega⟩
 have hgap : gapR s (s.length - i) i false = (none, i + 1, false) := by
  rw [hm]
  simp only [gapR]
  rw [if_pos (by omega), g1, if_neg (show ¬ (32 : UInt8) = 10 by decide), if_pos (Or.inl rfl), if_pos hi, g2, if_neg c1, if_neg c2, if_neg (by intro e; rcases e with e | e; exact c3 e; rw [c4] at e; cases e), if_neg (by rw [c5]; decide)]
 simp only [scanR, hgap, hn]
 rw [if_neg (by omega), if_neg (by omega)]
 rfl
theorem scan_tail (s : List UInt8) : ∀ (ops : List (List UInt8)) (j i n : Nat) (out : List Tk), (∀ o ∈ ops, o ∈ allOps) → s.drop i = tailB j ops → i ≤ s.length → out.length + 2 * ops.length < 65000 → 2 * ops.length + 1 ≤ n → scanR s n i false out = .inl (out ++ tkB i j ops)
 | [], j, i, n, out, hm, h, hi, ho, hn => by
  obtain ⟨n, rfl⟩ : ∃ m, n = m + 1 := ⟨n - 1, by omega⟩
  have he : i = s.length := by
   have : (s.drop i).length = s.length - i := List.length_drop
   rw [h] at this
   simp [tailB] at this
   omega
  have hz : s.length - i = 0 := by omega
  simp only [scanR, hz, gapR]
  rw [if_pos he]
  rfl
 | o :: os, j, i, n, out, hm, h, hi, ho, hn => by
  obtain ⟨n, rfl⟩ : ∃ m, n = m + 2 := ⟨n - 2, by simp only [List.length_cons] at hn; omega⟩
  simp only [List.length_cons] at ho hn
  have hd : ∀ k, s.drop (i + k) = (s.drop i).drop k := fun k => by rw [List.drop_drop]
  have h1 : s.drop (i + 1) = o ++ 32 :: (nm (j + 1) ++ tailB (j + 1) os) := by rw [hd, h]; rfl
  have h2 : s.drop (i + 1 + o.length) = 32 :: (nm (j + 1) ++ tailB (j + 1) os) := by rw [Nat.add_assoc, hd, h]; simp only [tailB]; rw [Nat.add_comm, List.drop_succ_cons, List.drop_left]
  have h3 : s.drop (i + 1 + o.length + 1) = nm (j + 1) ++ tailB (j + 1) os := by rw [← List.drop_drop, h2]; rfl
  have h4 : s.drop (i + o.length + 3) = tailB (j + 1) os := by rw [show i + o.length + 3 = i + 1 + o.length + 1 + 1 from by omega, ← List.drop_drop, h3]; rfl
  obtain ⟨e1, c, r, d1, d2, d3, d4, d5, d6⟩ := op_next (hm o List.mem_cons_self) h1
  obtain ⟨e2, c', r', d1', d2', d3', d4', d5', d6'⟩ := nm_next (j := j + 1) h3 (by cases os with | nil => exact .inl rfl | cons o2 os => exact .inr ⟨_, rfl⟩)
  have hlen : i + o.length + 3 ≤ s.length := by
   have : (s.drop (i + 1 + o.length + 1)).length = s.length - (i + 1 + o.length + 1) := List.length_drop
   rw [h3, List.length_append] at this
   have : (nm (j + 1)).length = 1 := rfl
   omega
  rw [scan_blank (by rw [h]; show 32 :: _ = _; rw [← d1, h1]) d1 e1 d2 d3 d4 d5 d6 (by omega), scan_blank (i := i + 1 + o.length) (by rw [h2, ← d1', h3]) d1' e2 d2' d3' d4' d5' d6' (by simp; omega),
   show i + 1 + o.length + 1 + 1 = i + o.length + 3 from by omega, scan_tail s os (j + 1) (i + o.length + 3) n _ (fun o ho => hm o (List.mem_cons_of_mem _ ho)) h4 hlen (by simp; omega) (by omega)]
  simp only [tkB, List.append_assoc, List.cons_append, List.nil_append]
  rw [show i + 1 + o.length + 1 = i + o.length + 2 from by omega]
theorem scan_src {ops : List (List UInt8)} (hm : ∀ o ∈ ops, o ∈ allOps) (hl : ops.length ≤ 40) : scanT (srcB ops) = .inl (toksB ops) := by
 have h0 : (srcB ops).drop 0 = nm 0 ++ tailB 0 ops := rfl
 have h1 : (srcB ops).drop 1 = tailB 0 ops := rfl
 obtain ⟨e, c, r, d1, d2, d3, d4, d5, d6⟩ := nm_next (s := srcB ops) (i := 0) (j := 0) h0 (by cases ops with | nil => exact .inl rfl | cons o os => exact .inr ⟨_, rfl⟩)
 have hs : 1 ≤ (srcB ops).length := by unfold srcB; rw [List.length_append]; show 1 ≤ 1 + _; omega
 have hs2 : 2 * ops.length + 1 ≤ (srcB ops).length := by
  have : ∀ (ops : List (List UInt8)) (j : Nat), (∀ o ∈ ops, o ∈ allOps) → 2 * ops.length ≤ (tailB j ops).length := by
   intro ops
   induction ops with
   | nil => intro j _; simp
   | cons o os ih =>
    intro j h
    have := ih (j + 1) (fun o ho => h o (List.mem_cons_of_mem _ ho))
    simp only [tailB, List.length_cons, List.length_append]
    omega
  have := this ops 0 hm
  unfold srcB; rw [List.length_append]; show _ ≤ 1 + _; omega
 unfold scanT
 have g0 : (srcB ops).getD 0 0 = c := by
  have h2 : ((srcB ops).drop 0)[0]? = (srcB ops)[0]? := by rw [List.getElem?_drop]
  rw [d1] at h2; simp [List.getD, ← h2]
 obtain ⟨m, hmm⟩ : ∃ m, (srcB ops).length - 0 = m + 1 := ⟨(srcB ops).length - 1, by omega⟩
 have hgap : gapR (srcB ops) ((srcB ops).length - 0) 0 false = (none, 0, false) := by
  rw [hmm]
  simp only [gapR]
  rw [if_pos (by omega), g0, if_neg d2, if_neg d3, if_neg (by intro e; rcases e with e | e; exact d4 e; rw [d5] at e; cases e), if_neg (by rw [d6]; decide)]
 have hone : scanR (srcB ops) ((srcB ops).length + 1) 0 false [] = scanR (srcB ops) (srcB ops).length 1 false [⟨1, 0, nm 0, 0, false⟩] := by
  simp only [scanR, hgap, e]
  rw [if_neg (by omega), if_neg (by simp)]
  rfl
 rw [hone, scan_tail (srcB ops) ops 0 1 _ _ hm h1 hs (by simp; omega) hs2]
 rfl
theorem binds_src {ops : List (List UInt8)} (h : ∀ i, i < ops.length → 0 ≤ levelW (ops.getD i [])) (hl : ops.length ≤ 40) :
  ∃ pre p q r s, parseT (srcB ops) = (pre ++ [⟨28, p, [], 0, [((r : Nat) : Int)]⟩, ⟨26, q, [], 0, [((pre.length : Nat) : Int)]⟩], 0, 0) ∧ Ws 0 ops s ∧ Shows (pre ++ [⟨28, p, [], 0, [((r : Nat) : Int)]⟩, ⟨26, q, [], 0, [((pre.length : Nat) : Int)]⟩]) r s ∧ pre.length ≤ 100 :=
 binds_parse (bt_toks h) hl (scan_src (fun o ho => by
  obtain ⟨i, hi⟩ := List.mem_iff_getElem?.1 ho
  have hi2 := (List.getElem?_eq_some_iff.1 hi).1
  have := h i hi2
  rw [List.getD_eq_getElem?_getD, hi] at this
  exact op_mem this) hl)
end Go.Proofs.YtcbgpjlcfkkdlaaGreatDoor

namespace Go.Proofs.YtcbgpjlcfkkdlaaGreatDoor
open Go Go.AL Go.Proofs
theorem whole_c {nodes : List Nd} (hl : nodes.length ≤ 131072) {r : Nat} {s : List UInt8} (hs : Shows nodes r s) (hlen : s.length ≤ 1000000) (h : Heap) (R : AV → Heap → Prop) (hR : R (.str s) h) : ACalls Tryz.prog 14 [treeAV nodes .no, .int .i64 r] h R := by
 induction hs generalizing h R with
 | one h1 h2 =>
  rename_i r n
  refine ACalls.pure ?_ hR
  clear hR
  obtain ⟨hr, hg⟩ := List.getElem?_eq_some_iff.1 h1
  have hri : (r : Int) < nodes.length := by omega
  have hr0 : ¬ (r : Int) < 0 := by omega
  have h2d : decide (n.kind = 10) = false := decide_eq_false h2
  refine acalls_of Tryz.func14 rfl Tryz.ntmps14 (congrArg Array.toList Tryz.results14) fun Q hQ => ?_
  (focus repeat' first|refine ga ?_|(refine gb ?_;try simp[gz, *])|refine gk fun _ _=>?_|refine gc ?_ ?_|exact gr _|refine gi fun _=>?_|(refine gn ?_ ?_;focus(intros;simp[*];done)))
  intro b1 hb1; simp only [Fresh, Heap.set_none] at hb1; try simp [gz, *]
  (focus repeat' first|refine ga ?_|(refine gb ?_;try simp[gz, *])|refine gk fun _ _=>?_|refine gc ?_ ?_|exact gr _|refine gi fun _=>?_|(refine gn ?_ ?_;focus(intros;simp[*];done)))
  intro b2 hb2; simp only [Fresh, Heap.set_none] at hb2; obtain ⟨qb20, qb21, hb2⟩ := hb2; try simp [gz, *]
  (focus repeat' first|refine ga ?_|(refine gb ?_;try simp[gz, *])|refine gk fun _ _=>?_|refine gc ?_ ?_|exact gr _|refine gi fun _=>?_|(refine gn ?_ ?_;focus(intros;simp[*];done)))
  (repeat (first | exact Sub.refl _ | refine Sub.loc ?_ (by simp [*]) _))
 | two h1 h2 h3 s1 s2 ih1 ih2 =>
  rename_i r a b n x y
  have hl2 : x.length + n.text.length + y.length + 4 ≤ 1000000 := by simp only [List.length_append, List.length_cons, List.length_nil] at hlen; omega
  clear hlen
  refine ACalls.pure ?_ hR
  clear hR
  obtain ⟨hr, hg⟩ := List.getElem?_eq_some_iff.1 h1
  have hri : (r : Int) < nodes.length := by omega
  have hr0 : ¬ (r : Int) < 0 := by omega
  have h2d : decide (n.kind = 10) = true := decide_eq_true h2
  replace ih1 := Shut.mk ih1
  replace ih2 := Shut.mk ih2
  refine acalls_of Tryz.func14 rfl Tryz.ntmps14 (congrArg Array.toList Tryz.results14) fun Q hQ => ?_
  (focus repeat' first|refine ga ?_|(refine gb ?_;try simp[gz, *])|refine gk fun _ _=>?_|refine gc ?_ ?_|exact gr _|refine gi fun _=>?_|(refine gn ?_ ?_;focus(intros;simp[*];done)))
  intro b1 hb1; simp only [Fresh, Heap.set_none] at hb1; try simp [gz, *]
  (focus repeat' first|refine ga ?_|(refine gb ?_;try simp[gz, *])|refine gk fun _ _=>?_|refine gc ?_ ?_|exact gr _|refine gi fun _=>?_|(refine gn ?_ ?_;focus(intros;simp[*];done)))
  intro b2 hb2; simp only [Fresh, Heap.set_none] at hb2; obtain ⟨qb20, qb21, hb2⟩ := hb2; try simp [gz, *]
  (focus repeat' first|refine ga ?_|(refine gb ?_;try simp[gz, *])|refine gk fun _ _=>?_|refine gc ?_ ?_|exact gr _|refine gi fun _=>?_|(refine gn ?_ ?_;focus(intros;simp[*];done)))
  refine awp_region_draw [b1, b2] [(0,true),(1,true),(2,true),(3,true),(4,true),(8,true),(9,true),(12,true),(13,true),(14,true),(15,true),(16,true),(5,false),(6,true),(7,true),(10,true),(11,true),(17,false),(18,true),(19,true)] [20] follows (by kernel_rfl) rfl (by kernel_rfl) ?_; simp [gz, Heap.plus_set, *]
  refine ih1.out (by omega) _ _ ?_
  simp [gz, Heap.plus_set, *]
  refine ⟨by omega, by omega, by omega, by omega, ih2.out (by omega) _ _ ?_⟩
  simp [gz, Heap.plus_set, *]
  (focus repeat' first|refine ga ?_|(refine gb ?_;try simp[gz, *])|refine gk fun _ _=>?_|refine gc ?_ ?_|exact gr _|refine gi fun _=>?_|(refine gn ?_ ?_;focus(intros;simp[*];done)))
  all_goals ((repeat (first | exact Sub.refl _ | refine Sub.loc ?_ (by simp [*]) _)))
end Go.Proofs.YtcbgpjlcfkkdlaaGreatDoor

