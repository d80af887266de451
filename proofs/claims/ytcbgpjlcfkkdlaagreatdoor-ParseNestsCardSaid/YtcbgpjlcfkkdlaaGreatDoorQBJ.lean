import Derived.Test.YtcbgpjlcfkkdlaaGreatDoorQBA
import Derived.Test.YtcbgpjlcfkkdlaaGreatDoorQBI
import Derived.Test.YtcbgpjlcfkkdlaaGreatDoorQAX
import Derived.Test.YtcbgpjlcfkkdlaaGreatDoorQAV
import Derived.Test.YtcbgpjlcfkkdlaaGreatDoorQAM
set_option linter.unusedSimpArgs false
set_option linter.unusedVariables false
set_option maxRecDepth 100000
set_option maxHeartbeats 16000000
namespace Go.Proofs.YtcbgpjlcfkkdlaaGreatDoor
open Go Go.AL Go.Proofs
abbrev S00 : St := ⟨0, 0, [], [], 0, 0⟩
def fuel0 : Nat := 200000
def parseT (s : List UInt8) : List Nd × Int × Int := match scanT s with
  | .inr f => ([], f.1, f.2)
  | .inl T => match run T fuel0 (.top []) S00 with
    | none => ([], 0, 0)
    | some (kids, S1) =>
      if (addL T 26 0 [] 0 kids S1).2.fc = 0 then
        (if (checkL (addL T 26 0 [] 0 kids S1).2.nodes).1 = 0 then ((addL T 26 0 [] 0 kids S1).2.nodes, 0, 0) else ([], (checkL (addL T 26 0 [] 0 kids S1).2.nodes).1, s.length))
      else ([], (addL T 26 0 [] 0 kids S1).2.fc, (addL T 26 0 [] 0 kids S1).2.fa)
def parseAV (z : List Nd × Int × Int) : AV := .tup [if z.2.1 = 0 then treeAV z.1 .no else .agg [.list 5 [] .nil], .agg [.int .i64 z.2.1, .int .i64 z.2.2]]
theorem add_nodes (T : List Tk) (kind pos : Int) (x : List UInt8) (n : Int) (kids : List Int) (S : St) : (addL T kind pos x n kids S).2.fc = 0 → ¬ (addL T kind pos x n kids S).2.nodes = [] := by
  unfold addL
  split
  · split
    · intro h
      rename_i hf _
      have : (wrongL T 2 S).fc = 2 := by unfold wrongL; rw [if_pos hf]
      rw [show (wrongL T 2 S).fc = 2 from this] at h
      exact absurd h (by decide)
    · intro _
      simp only
      split
      · show ¬ (wrongL T 6 _).nodes = []
        rw [(wrongL_deep T 6 _).2]
        simp
      · simp
  · rename_i hf
    intro h
    exact absurd h hf
theorem Parse_c (s : List UInt8) (hs : s.length ≤ 3300) (h : Heap) (h0 : h 0 = some .gint) (R : AV → Heap → Prop) (hR : R (parseAV (parseT s)) h) : ACalls Tryz.prog 9 [.str s] h R := by
  refine ACalls.pure ?_ hR
  clear hR
  obtain ⟨z, hz⟩ : ∃ z, parseT s = z := ⟨_, rfl⟩
  rw [hz]
  have hsc := scan_ok s (by omega) (s.length + 1) 0 false [] (by omega) (by omega) (by simp) (by simp)
  unfold parseT at hz
  obtain ⟨r, hr⟩ : ∃ r, scanT s = r := ⟨_, rfl⟩
  have hr2 : scanR s (s.length + 1) 0 false [] = r := hr
  rw [hr2] at hsc
  rw [hr] at hz
  clear hr2
  replace hsc := Shut.mk hsc
  replace hz := Shut.mk hz
  refine acalls_of Tryz.func9 rfl Tryz.ntmps9 (congrArg Array.toList Tryz.results9) fun Q hQ => ?_
  (focus repeat' first|refine ga ?_|(refine gb ?_;try simp[gz, *])|refine gk fun _ _=>?_|refine gc ?_ ?_|exact gr _|refine gi fun _=>?_|(refine gn ?_ ?_;focus(intros;simp[*];done)))
  intro b2 hb2; simp only [Fresh, Heap.set_none] at hb2; try simp [gz, *]
  (focus repeat' first|refine ga ?_|(refine gb ?_;try simp[gz, *])|refine gk fun _ _=>?_|refine gc ?_ ?_|exact gr _|refine gi fun _=>?_|(refine gn ?_ ?_;focus(intros;simp[*];done)))
  intro b3 hb3
  simp only [Fresh, Heap.set_none] at hb3
  obtain ⟨n3', n3, hb3⟩ := hb3
  try simp [Heap.set_get, *]
  (focus repeat' first|refine ga ?_|(refine gb ?_;try simp[gz, *])|refine gk fun _ _=>?_|refine gc ?_ ?_|exact gr _|refine gi fun _=>?_|(refine gn ?_ ?_;focus(intros;simp[*];done)))
  refine Scan_c s (by omega) _ (gint_set (by rw [Heap.set_other _ _ _ _ n3]; exact hb3) (gint_set hb2 h0)) _ ?_
  rw [hr]
  clear hr
  cases r with
  | inr f =>
    replace hz := hz.out
    simp only at hz
    have hf := hsc.out.2 f rfl
    subst hz
    simp only [scanAV]
    simp [gz, *]
    (focus repeat' first|refine ga ?_|(refine gb ?_;try simp[gz, *])|refine gk fun _ _=>?_|refine gc ?_ ?_|exact gr _|refine gi fun _=>?_|(refine gn ?_ ?_;focus(intros;simp[*];done)))
    intro b5 hb5
    simp only [Fresh, Heap.set_none] at hb5
    obtain ⟨n53', n53, n52', n52, hb5⟩ := hb5
    try simp [Heap.set_get, *]
    (focus repeat' first|refine ga ?_|(refine gb ?_;try simp[gz, *])|refine gk fun _ _=>?_|refine gc ?_ ?_|exact gr _|refine gi fun _=>?_|(refine gn ?_ ?_;focus(intros;simp[*];done)))
    refine awp_region_stores [b5] [0] [(1, true), (2, false)] [3] follows (by kernel_rfl) rfl (by kernel_rfl) ?_; simp [Heap.set_get, Heap.plus_set, evc_nil, evc_cons, estep, *]
    (focus repeat' first|refine ga ?_|(refine gb ?_;try simp[gz, *])|refine gk fun _ _=>?_|refine gc ?_ ?_|exact gr _|refine gi fun _=>?_|(refine gn ?_ ?_;focus(intros;simp[*];done)))
    refine ⟨_, ⟨?_, _, rfl, ?_, _, rfl, rfl⟩, ?_, ?_⟩ <;> first | (simp [aresult, parseAV, Heap.set_get, *]; done) | ((repeat (first | exact Sub.refl _ | refine Sub.loc ?_ (by simp [*]) _)); done) | trace_state
  | inl T =>
    obtain ⟨hT1, hT2, T0, te, hT3, hT4, hT5⟩ := hsc.out.1 T rfl
    have hG : Good T S00 := ⟨⟨fun _ => by rw [hT3]; simp, Nat.zero_le _, by omega, by rw [hT3]; simp, Nat.zero_le _, by rw [hT3]; simp [List.getD, hT4]⟩, rfl⟩
    have hTk : Toks T := ⟨fun t ht => (hT1 t ht).short, fun t ht => (hT1 t ht).num⟩
    have hnd : need T (.top []) S00 ≤ fuel0 := by
      unfold need
      rw [if_pos rfl]
      simp only [rank, fuel0]
      omega
    obtain ⟨kids0, S1, hrun, hzt, hkl0⟩ := term_all T hTk fuel0 (by decide) (.top []) S00 hG InK.nil trivial hnd
    have hkp := hzt.kp
    have hgo : Goes T S00 S1 ∧ InK S1 kids0 := ⟨⟨hzt.good, hzt.len⟩, hzt.ink⟩
    clear hzt
    have hFine : Fine T S1 := hkp.fine ⟨fun n hn => (by cases hn), fun q => absurd rfl q⟩
    have hkl1 : kids0.length ≤ 2 * fuel0 + 2 := by simpa [argK, loopK] using hkl0
    clear hT1 hT3 hT4 hT5 hnd hkl0 hkp hsc
    replace hz := hz.out
    simp only [hrun] at hz
    replace hz := Shut.mk hz
    replace hrun := Shut.mk hrun
    replace hFine := Shut.mk hFine
    replace hgo := Shut.mk hgo
    simp only [scanAV]
    simp [gz, *]
    (focus repeat' first|refine ga ?_|(refine gb ?_;try simp[gz, *])|refine gk fun _ _=>?_|refine gc ?_ ?_|exact gr _|refine gi fun _=>?_|(refine gn ?_ ?_;focus(intros;simp[*];done)))
    intro b5 hb5
    simp only [Fresh, Heap.set_none] at hb5
    obtain ⟨n53', n53, n52', n52, hb5⟩ := hb5
    try simp [Heap.set_get, *]
    (focus repeat' first|refine ga ?_|(refine gb ?_;try simp[gz, *])|refine gk fun _ _=>?_|refine gc ?_ ?_|exact gr _|refine gi fun _=>?_|(refine gn ?_ ?_;focus(intros;simp[*];done)))
    intro b6 hb6
    simp only [Fresh, Heap.set_none] at hb6
    obtain ⟨n65', n65, n63', n63, n62', n62, hb6⟩ := hb6
    obtain ⟨Bp, hBp⟩ : ∃ x, ((h.set b2 (.cells [.list 5 [] .nil])).set b3 (.cells Z28)).set b5 (.cells Z28) = x := ⟨_, rfl⟩
    have hB2 : Bp b2 = some (.cells [.list 5 [] .nil]) := by rw [← hBp, Heap.set_other _ _ _ _ n52', Heap.set_other _ _ _ _ n3', Heap.set_same]
    have hB3 : Bp b3 = some (.cells Z28) := by rw [← hBp, Heap.set_other _ _ _ _ n53', Heap.set_same]
    have hB5 : Bp b5 = some (.cells Z28) := by rw [← hBp, Heap.set_same]
    have hB6 : Bp b6 = none := by rw [← hBp, Heap.set_other _ _ _ _ n65, Heap.set_other _ _ _ _ n63, Heap.set_other _ _ _ _ n62]; exact hb6
    have hsB : AL.Sub h Bp := by rw [← hBp]; exact (((Sub.refl h).loc hb2 _).loc hb3 _).loc hb5 _
    have h0p : Bp 0 = some .gint := hsB _ _ h0
    have hb2o : h b2 = none := hb2
    have hb3o : h b3 = none := hb3
    have hb5o : h b5 = none := hb5
    have ho : Own Bp (Bp.set b6 (.cells (rdRow T .no S00 .nil .nil))) T .no S00 b6 .nil .nil := ⟨(Sub.refl Bp).loc hB6 _, hB6, Heap.set_same _ _ _, trivial, trivial, fun _ _ _ e => (by cases e), fun _ _ _ e => (by cases e), fun _ _ _ _ _ e => (by cases e)⟩
    try simp [Heap.set_get, *]
    (focus repeat' first|refine ga ?_|(refine gb ?_;try simp[gz, *])|refine gk fun _ _=>?_|refine gc ?_ ?_|exact gr _|refine gi fun _=>?_|(refine gn ?_ ?_;focus(intros;simp[*];done)))
    refine awp_loop_h [7, 22, 23, 24, 25, 26, 27, 28, 29, 30, 31, 32, 33, 34] (fun m x g => ∃ (q : Nat) (Sq : St) (kids : List Int) (u1 u2 tk : Tok), q ≤ fuel0 ∧ m = q ∧ run T q (.top kids) Sq = some (kids0, S1) ∧ Goes T S00 Sq ∧ InK Sq kids ∧ x 7 = .list 1 (ints kids) tk ∧ TokIn g tk ∧ (∀ b k e, tk = .own b k e → Bp b = none) ∧ kids.length + q ≤ fuel0 ∧ Own (Heap.bk Bp tk) g T .no Sq b6 u1 u2) fuel0
      ⟨fuel0, S00, [], .nil, .nil, .nil, Nat.le_refl _, rfl, hrun.out, .refl hG, InK.nil, by simp, trivial, (fun _ _ _ e => by cases e), by simp, by first | exact ho | (simp [hBp]; exact ho)⟩ (fun m x g hI K hK => ?_)
    clear ho hrun
    obtain ⟨q, Sq, kids, u1, u2, tk, hq, rfl, hrq, gq, hin, hx, htk, htf, hkl, oq⟩ := hI
    obtain ⟨p, rfl⟩ : ∃ p, m = p + 1 := by
      cases m with
      | zero => simp [run] at hrq
      | succ p => exact ⟨p, rfl⟩
    simp only [run] at hrq
    have hf0 : fuel0 ≤ 200000 := Nat.le_refl _
    have h0q : (Heap.bk Bp tk) 0 = some .gint := bk_sub htf _ _ h0p
    have hno : tk ≠ .no := fun e => by subst e; exact htk.elim
    have hr := oq.blk
    have hBs := Shut.mk (bk_sub htf)
    replace htf := Shut.mk htf
    replace oq := Shut.mk oq
    obtain ⟨t, ht⟩ : ∃ t, peekL T Sq = t := ⟨_, rfl⟩
    rw [ht] at hrq
    by_cases hgo2 : Sq.fc = 0 ∧ ¬ t.kind = 6
    · rw [if_pos hgo2, Option.bind_eq_some_iff] at hrq
      obtain ⟨⟨l2, S2⟩, hs2, hrest⟩ := hrq
      have hfd : decide (Sq.fc = 0) = true := by simp [hgo2.1]
      have hk6 : ¬ t.kind = 6 := hgo2.2
      clear hgo2
      replace hs2 := Shut.mk hs2
      replace hrest := Shut.mk hrest
      replace hin := Shut.mk hin
      refine awp_eqs (s' := [_, _, _, _, _, _, _, x 7, _, _, _, _, _, _, _, _, _, _, _, _, _, _, x 22, x 23, x 24, x 25, x 26, x 27, x 28, x 29, x 30, x 31, x 32, x 33, x 34, _, _, _, _, _, _, _, _, _, _, _, _, _, _, _, _, _, _, _, _, _, _, _, _, _, _, _, _, _]) rfl ?_
      (focus repeat' first|refine ga ?_|(refine gb ?_;try simp[gz, *])|refine gk fun _ _=>?_|refine gc ?_ ?_|exact gr _|refine gi fun _=>?_|(refine gn ?_ ?_;focus(intros;simp[*];done)))
      refine ok_c T .no Sq u1 u2 b6 _ hr _ ?_
      rw [hfd]
      clear hfd
      simp [gz, *]
      (focus repeat' first|refine ga ?_|(refine gb ?_;try simp[gz, *])|refine gk fun _ _=>?_|refine gc ?_ ?_|exact gr _|refine gi fun _=>?_|(refine gn ?_ ?_;focus(intros;simp[*];done)))
      refine peek_c T .no Sq u1 u2 b6 gq.good.rd _ hr _ ?_
      rw [ht]
      clear ht
      simp [gz, *]
      (focus repeat' first|refine ga ?_|(refine gb ?_;try simp[gz, *])|refine gk fun _ _=>?_|refine gc ?_ ?_|exact gr _|refine gi fun _=>?_|(refine gn ?_ ?_;focus(intros;simp[*];done)))
      refine meth_all T .no hTk.short fuel0 (by decide) p .stmt (by omega) _ _ rfl _ _ _ ⟨hs2.out⟩ b6 u1 u2 (Heap.bk Bp tk) _ ⟨oq.out, Sub.refl _, h0q, gq.good, Nat.le_refl _, fun _ h => by cases h⟩ _ ⟨fun k2 v1 v2 oc => ?_⟩
      have o2 := oc.own
      have gs : Goes T Sq S2 := ⟨oc.good, oc.len⟩
      have hi2 : InK S2 [fst0 l2] := oc.ink
      clear oc
      clear hr oq
      rw [show resOf .stmt l2 = .int .i64 (fst0 l2) from rfl]
      have ht2 := tokIn_bk o2.sub hno
      have hr2 := o2.blk
      simp [gz, *]
      (focus repeat' first|refine ga ?_|(refine gb ?_;try simp[gz, *])|refine gk fun _ _=>?_|refine gc ?_ ?_|exact gr _|refine gi fun _=>?_|(refine gn ?_ ?_;focus(intros;simp[*];done)))
      refine .inl ⟨ht2, fun b k e hb => ?_⟩
      obtain ⟨o3, hBb⟩ := o2.growK (k := k) (e := e) htf.out hb
      obtain ⟨HG, hHG⟩ : ∃ HG, (tk.rid k2).set b (.spare k e) = HG := ⟨_, rfl⟩
      rw [hHG] at o3 ⊢
      have hgb : HG b = some (.spare k e) := by rw [← hHG, Heap.set_same]
      clear hb hHG ht2 o2 hr2
      replace o3 := Shut.mk o3
      simp [gz, *]
      (focus repeat' first|refine ga ?_|(refine gb ?_;try simp[gz, *])|refine gk fun _ _=>?_|refine gc ?_ ?_|exact gr _|refine gi fun _=>?_|(refine gn ?_ ?_;focus(intros;simp[*];done)))
      refine ⟨by kernel_rfl, rfl, p, HG, by omega, Sub.refl _, p, S2, kids ++ [fst0 l2], v1, v2, .own b k e, by omega, rfl, hrest.out, gq.trans gs, (hin.out.mono gs.len).append hi2, by simp, hgb, fun b' k' e' q1 => by injection q1 with q1; subst q1; exact hBb, by simp only [List.length_append, List.length_singleton]; omega, o3.out⟩
    · rw [if_neg hgo2] at hrq
      simp only [Option.some.injEq, Prod.mk.injEq] at hrq
      obtain ⟨rfl, rfl⟩ := hrq
      have hkk := Shut.mk (InK.kids gq.good (l := kids) hin)
      have hkl2 : kids.length ≤ 281474976710 := by have : fuel0 = 200000 := rfl; omega
      obtain ⟨gad, -⟩ := goes_add gq.good 26 0 [] 0 kids
      have hFin : Fine T (addL T 26 0 [] 0 kids Sq).2 := (kp_add gq.good 26 0 [] 0 kids (by simp) (by decide) hkl2).fine hFine.out
      have hnl2 := gad.good.rd.nl
      have hne2 : (addL T 26 0 [] 0 kids Sq).2.fc = 0 → ¬ (addL T 26 0 [] 0 kids Sq).2.nodes = [] := add_nodes T 26 0 [] 0 kids Sq
      obtain ⟨a, ha⟩ : ∃ a, addL T 26 0 [] 0 kids Sq = a := ⟨_, rfl⟩
      rw [ha] at hFin hnl2 hne2 hz
      have hFin := hFin.1
      replace hFin := Shut.mk hFin
      replace hne2 := Shut.mk hne2
      have hq2 : (Heap.bk Bp tk) b2 = some (.cells [.list 5 [] .nil]) := hBs.out _ _ hB2
      have hq3 : (Heap.bk Bp tk) b3 = some (.cells Z28) := hBs.out _ _ hB3
      have hq5 : (Heap.bk Bp tk) b5 = some (.cells Z28) := hBs.out _ _ hB5
      have hsQ := Shut.mk (hsB.trans hBs.out)
      clear hin hgo
      cases hfd : decide (Sq.fc = 0)
      · refine awp_eqs (s' := [_, _, _, _, _, _, _, x 7, _, _, _, _, _, _, _, _, _, _, _, _, _, _, x 22, x 23, x 24, x 25, x 26, x 27, x 28, x 29, x 30, x 31, x 32, x 33, x 34, _, _, _, _, _, _, _, _, _, _, _, _, _, _, _, _, _, _, _, _, _, _, _, _, _, _, _, _, _]) rfl ?_
        (focus repeat' first|refine ga ?_|(refine gb ?_;try simp[gz, *])|refine gk fun _ _=>?_|refine gc ?_ ?_|exact gr _|refine gi fun _=>?_|(refine gn ?_ ?_;focus(intros;simp[*];done)))
        refine ok_c T .no Sq u1 u2 b6 _ hr _ ?_
        rw [hfd]
        clear hfd hgo2
        simp [gz, *]
        (focus repeat' first|refine ga ?_|(refine gb ?_;try simp[gz, *])|refine gk fun _ _=>?_|refine gc ?_ ?_|exact gr _|refine gi fun _=>?_|(refine gn ?_ ?_;focus(intros;simp[*];done)))
        refine ACalls.weak (ys := [.ptr b6 0, .int .i64 26, .int .i64 0, .str [], .int .i64 0, .list 1 (ints kids) .no]) (.cons (Weak.refl _) (.cons (Weak.refl _) (.cons (Weak.refl _) (.cons (Weak.refl _) (.cons (Weak.refl _) (.cons (Weak.toks (by first | rfl | simp)) .nil)))))) ?_
        refine add_c 26 0 [] 0 kids T .no Sq u1 u2 b6 gq.good.rd gq.good.dl hkk.out hkl2 (Heap.bk Bp tk) _ oq.out _ (fun k3 w1 w2 o3 => ?_)
        rw [ha] at o3 ⊢
        clear oq hr
        have hr := o3.blk
        have hk2 := o3.sub _ _ hq2
        have hk3 := o3.sub _ _ hq3
        have hk5 := o3.sub _ _ hq5
        have hsF : AL.Sub h k3 := hsQ.out.trans o3.sub
        have h0k := o3.sub _ _ h0q
        have hr2 := hr
        clear ha
        simp [gz, *]
        (focus repeat' first|refine ga ?_|(refine gb ?_;try simp[gz, *])|refine gk fun _ _=>?_|refine gc ?_ ?_|exact gr _|refine gi fun _=>?_|(refine gn ?_ ?_;focus(intros;simp[*];done)))
        refine ok_c T .no a.2 w1 w2 b6 _ hr2 _ ?_
        by_cases hfa : a.2.fc = 0
        · have hfd : decide (a.2.fc = 0) = true := decide_eq_true hfa
          rw [hfd]
          replace hz := hz.out
          rw [if_pos hfa] at hz
          obtain ⟨nodes, hnn⟩ : ∃ x, a.2.nodes = x := ⟨_, rfl⟩
          rw [hnn] at hz hFin hne2 hnl2
          simp [gz, *]
          (focus repeat' first|refine ga ?_|(refine gb ?_;try simp[gz, *])|refine gk fun _ _=>?_|refine gc ?_ ?_|exact gr _|refine gi fun _=>?_|(refine gn ?_ ?_;focus(intros;simp[*];done)))
          refine btree_c T .no a.2 w1 w2 b6 nodes hnn (fun n hn => (hFin.out n hn).1) (fun n hn => (hFin.out n hn).2) hnl2 (hne2.out hfa) _ h0k hr2 _ ?_
          by_cases hck : (checkL nodes).1 = 0
          · rw [if_pos hck] at hz ⊢
            subst hz
            simp [gz, *]
            (focus repeat' first|refine ga ?_|(refine gb ?_;try simp[gz, *])|refine gk fun _ _=>?_|refine gc ?_ ?_|exact gr _|refine gi fun _=>?_|(refine gn ?_ ?_;focus(intros;simp[*];done)))
            intro b8 hb8
            simp only [Fresh] at hb8
            have n82 := ne_of_fresh hk2 hb8
            have n83 := ne_of_fresh hk3 hb8
            have n85 := ne_of_fresh hk5 hb8
            have n86 := ne_of_fresh hr2 hb8
            have m82 : ¬ b8 = b2 := fun e => n82 e.symm
            have m83 : ¬ b8 = b3 := fun e => n83 e.symm
            have m85 : ¬ b8 = b5 := fun e => n85 e.symm
            have hn8 : h b8 = none := by
              cases e : h b8 with
              | none => rfl
              | some y => rw [hsF _ _ e] at hb8; cases hb8
            try simp [Heap.set_get, *]
            (focus repeat' first|refine ga ?_|(refine gb ?_;try simp[gz, *])|refine gk fun _ _=>?_|refine gc ?_ ?_|exact gr _|refine gi fun _=>?_|(refine gn ?_ ?_;focus(intros;simp[*];done)))
            refine ⟨_, ⟨?_, _, rfl, ?_, _, rfl, rfl⟩, ?_, ?_⟩
            · simp [Heap.set_get, *]
            · simp [Heap.set_get, *]
            · simp [aresult, parseAV, treeAV, Heap.set_get, *]
            · exact (((hsF.loc hn8 _).loc hb5o _).loc hb2o _).loc hb3o _
          · rw [if_neg hck] at hz ⊢
            subst hz
            simp [gz, *]
            (focus repeat' first|refine ga ?_|(refine gb ?_;try simp[gz, *])|refine gk fun _ _=>?_|refine gc ?_ ?_|exact gr _|refine gi fun _=>?_|(refine gn ?_ ?_;focus(intros;simp[*];done)))
            intro b8 hb8
            simp only [Fresh] at hb8
            have n82 := ne_of_fresh hk2 hb8
            have n83 := ne_of_fresh hk3 hb8
            have n85 := ne_of_fresh hk5 hb8
            have n86 := ne_of_fresh hr2 hb8
            have m82 : ¬ b8 = b2 := fun e => n82 e.symm
            have m83 : ¬ b8 = b3 := fun e => n83 e.symm
            have m85 : ¬ b8 = b5 := fun e => n85 e.symm
            have hn8 : h b8 = none := by
              cases e : h b8 with
              | none => rfl
              | some y => rw [hsF _ _ e] at hb8; cases hb8
            try simp [Heap.set_get, *]
            (focus repeat' first|refine ga ?_|(refine gb ?_;try simp[gz, *])|refine gk fun _ _=>?_|refine gc ?_ ?_|exact gr _|refine gi fun _=>?_|(refine gn ?_ ?_;focus(intros;simp[*];done)))
            refine awp_region_stores [b5] [0, 1, 3] [(2, true), (4, true), (5, true), (6, false)] [7] follows (by kernel_rfl) rfl (by kernel_rfl) ?_; simp [Heap.set_get, Heap.plus_set, evc_nil, evc_cons, estep, *]
            (focus repeat' first|refine ga ?_|(refine gb ?_;try simp[gz, *])|refine gk fun _ _=>?_|refine gc ?_ ?_|exact gr _|refine gi fun _=>?_|(refine gn ?_ ?_;focus(intros;simp[*];done)))
            refine ⟨_, ⟨?_, _, rfl, ?_, _, rfl, rfl⟩, ?_, ?_⟩
            · simp [Heap.set_get, *]
            · simp [Heap.set_get, *]
            · simp [aresult, parseAV, treeAV, Heap.set_get, *]
            · exact (((hsF.loc hn8 _).loc hb5o _).loc hb2o _).loc hb3o _
        · have hfd : decide (a.2.fc = 0) = false := decide_eq_false hfa
          rw [hfd]
          replace hz := hz.out
          rw [if_neg hfa] at hz
          subst hz
          simp [gz, *]
          (focus repeat' first|refine ga ?_|(refine gb ?_;try simp[gz, *])|refine gk fun _ _=>?_|refine gc ?_ ?_|exact gr _|refine gi fun _=>?_|(refine gn ?_ ?_;focus(intros;simp[*];done)))
          refine awp_region_stores [b6] [0, 1, 2, 3] [(4, true), (5, false)] [6] follows (by kernel_rfl) rfl (by kernel_rfl) ?_; simp [Heap.set_get, Heap.plus_set, evc_nil, evc_cons, estep, *]
          (focus repeat' first|refine ga ?_|(refine gb ?_;try simp[gz, *])|refine gk fun _ _=>?_|refine gc ?_ ?_|exact gr _|refine gi fun _=>?_|(refine gn ?_ ?_;focus(intros;simp[*];done)))
          replace hsF := Shut.mk ((hsF.loc hb2o (.cells [.list 5 [] .nil])).loc hb3o (.cells [.int .i64 a.2.fc, .int .i64 a.2.fa]))
          refine ⟨_, ⟨?_, _, rfl, ?_, _, rfl, rfl⟩, ?_, ?_⟩ <;> first | (simp [aresult, parseAV, Heap.set_get, *]; done) | exact hsF.out | trace_state
      · have hk6 : t.kind = 6 := by
          by_cases e : t.kind = 6
          · exact e
          · exact absurd ⟨of_decide_eq_true hfd, e⟩ hgo2
        clear hgo2
        refine awp_eqs (s' := [_, _, _, _, _, _, _, x 7, _, _, _, _, _, _, _, _, _, _, _, _, _, _, x 22, x 23, x 24, x 25, x 26, x 27, x 28, x 29, x 30, x 31, x 32, x 33, x 34, _, _, _, _, _, _, _, _, _, _, _, _, _, _, _, _, _, _, _, _, _, _, _, _, _, _, _, _, _]) rfl ?_
        (focus repeat' first|refine ga ?_|(refine gb ?_;try simp[gz, *])|refine gk fun _ _=>?_|refine gc ?_ ?_|exact gr _|refine gi fun _=>?_|(refine gn ?_ ?_;focus(intros;simp[*];done)))
        refine ok_c T .no Sq u1 u2 b6 _ hr _ ?_
        rw [hfd]
        clear hfd
        simp [gz, *]
        (focus repeat' first|refine ga ?_|(refine gb ?_;try simp[gz, *])|refine gk fun _ _=>?_|refine gc ?_ ?_|exact gr _|refine gi fun _=>?_|(refine gn ?_ ?_;focus(intros;simp[*];done)))
        refine peek_c T .no Sq u1 u2 b6 gq.good.rd _ hr _ ?_
        rw [ht]
        clear ht
        simp [gz, *]
        (focus repeat' first|refine ga ?_|(refine gb ?_;try simp[gz, *])|refine gk fun _ _=>?_|refine gc ?_ ?_|exact gr _|refine gi fun _=>?_|(refine gn ?_ ?_;focus(intros;simp[*];done)))
        refine ACalls.weak (ys := [.ptr b6 0, .int .i64 26, .int .i64 0, .str [], .int .i64 0, .list 1 (ints kids) .no]) (.cons (Weak.refl _) (.cons (Weak.refl _) (.cons (Weak.refl _) (.cons (Weak.refl _) (.cons (Weak.refl _) (.cons (Weak.toks (by first | rfl | simp)) .nil)))))) ?_
        refine add_c 26 0 [] 0 kids T .no Sq u1 u2 b6 gq.good.rd gq.good.dl hkk.out hkl2 (Heap.bk Bp tk) _ oq.out _ (fun k3 w1 w2 o3 => ?_)
        rw [ha] at o3 ⊢
        clear oq hr
        have hr := o3.blk
        have hk2 := o3.sub _ _ hq2
        have hk3 := o3.sub _ _ hq3
        have hk5 := o3.sub _ _ hq5
        have hsF : AL.Sub h k3 := hsQ.out.trans o3.sub
        have h0k := o3.sub _ _ h0q
        have hr2 := hr
        clear ha
        simp [gz, *]
        (focus repeat' first|refine ga ?_|(refine gb ?_;try simp[gz, *])|refine gk fun _ _=>?_|refine gc ?_ ?_|exact gr _|refine gi fun _=>?_|(refine gn ?_ ?_;focus(intros;simp[*];done)))
        refine ok_c T .no a.2 w1 w2 b6 _ hr2 _ ?_
        by_cases hfa : a.2.fc = 0
        · have hfd : decide (a.2.fc = 0) = true := decide_eq_true hfa
          rw [hfd]
          replace hz := hz.out
          rw [if_pos hfa] at hz
          obtain ⟨nodes, hnn⟩ : ∃ x, a.2.nodes = x := ⟨_, rfl⟩
          rw [hnn] at hz hFin hne2 hnl2
          simp [gz, *]
          (focus repeat' first|refine ga ?_|(refine gb ?_;try simp[gz, *])|refine gk fun _ _=>?_|refine gc ?_ ?_|exact gr _|refine gi fun _=>?_|(refine gn ?_ ?_;focus(intros;simp[*];done)))
          refine btree_c T .no a.2 w1 w2 b6 nodes hnn (fun n hn => (hFin.out n hn).1) (fun n hn => (hFin.out n hn).2) hnl2 (hne2.out hfa) _ h0k hr2 _ ?_
          by_cases hck : (checkL nodes).1 = 0
          · rw [if_pos hck] at hz ⊢
            subst hz
            simp [gz, *]
            (focus repeat' first|refine ga ?_|(refine gb ?_;try simp[gz, *])|refine gk fun _ _=>?_|refine gc ?_ ?_|exact gr _|refine gi fun _=>?_|(refine gn ?_ ?_;focus(intros;simp[*];done)))
            intro b8 hb8
            simp only [Fresh] at hb8
            have n82 := ne_of_fresh hk2 hb8
            have n83 := ne_of_fresh hk3 hb8
            have n85 := ne_of_fresh hk5 hb8
            have n86 := ne_of_fresh hr2 hb8
            have m82 : ¬ b8 = b2 := fun e => n82 e.symm
            have m83 : ¬ b8 = b3 := fun e => n83 e.symm
            have m85 : ¬ b8 = b5 := fun e => n85 e.symm
            have hn8 : h b8 = none := by
              cases e : h b8 with
              | none => rfl
              | some y => rw [hsF _ _ e] at hb8; cases hb8
            try simp [Heap.set_get, *]
            (focus repeat' first|refine ga ?_|(refine gb ?_;try simp[gz, *])|refine gk fun _ _=>?_|refine gc ?_ ?_|exact gr _|refine gi fun _=>?_|(refine gn ?_ ?_;focus(intros;simp[*];done)))
            refine ⟨_, ⟨?_, _, rfl, ?_, _, rfl, rfl⟩, ?_, ?_⟩
            · simp [Heap.set_get, *]
            · simp [Heap.set_get, *]
            · simp [aresult, parseAV, treeAV, Heap.set_get, *]
            · exact (((hsF.loc hn8 _).loc hb5o _).loc hb2o _).loc hb3o _
          · rw [if_neg hck] at hz ⊢
            subst hz
            simp [gz, *]
            (focus repeat' first|refine ga ?_|(refine gb ?_;try simp[gz, *])|refine gk fun _ _=>?_|refine gc ?_ ?_|exact gr _|refine gi fun _=>?_|(refine gn ?_ ?_;focus(intros;simp[*];done)))
            intro b8 hb8
            simp only [Fresh] at hb8
            have n82 := ne_of_fresh hk2 hb8
            have n83 := ne_of_fresh hk3 hb8
            have n85 := ne_of_fresh hk5 hb8
            have n86 := ne_of_fresh hr2 hb8
            have m82 : ¬ b8 = b2 := fun e => n82 e.symm
            have m83 : ¬ b8 = b3 := fun e => n83 e.symm
            have m85 : ¬ b8 = b5 := fun e => n85 e.symm
            have hn8 : h b8 = none := by
              cases e : h b8 with
              | none => rfl
              | some y => rw [hsF _ _ e] at hb8; cases hb8
            try simp [Heap.set_get, *]
            (focus repeat' first|refine ga ?_|(refine gb ?_;try simp[gz, *])|refine gk fun _ _=>?_|refine gc ?_ ?_|exact gr _|refine gi fun _=>?_|(refine gn ?_ ?_;focus(intros;simp[*];done)))
            refine awp_region_stores [b5] [0, 1, 3] [(2, true), (4, true), (5, true), (6, false)] [7] follows (by kernel_rfl) rfl (by kernel_rfl) ?_; simp [Heap.set_get, Heap.plus_set, evc_nil, evc_cons, estep, *]
            (focus repeat' first|refine ga ?_|(refine gb ?_;try simp[gz, *])|refine gk fun _ _=>?_|refine gc ?_ ?_|exact gr _|refine gi fun _=>?_|(refine gn ?_ ?_;focus(intros;simp[*];done)))
            refine ⟨_, ⟨?_, _, rfl, ?_, _, rfl, rfl⟩, ?_, ?_⟩
            · simp [Heap.set_get, *]
            · simp [Heap.set_get, *]
            · simp [aresult, parseAV, treeAV, Heap.set_get, *]
            · exact (((hsF.loc hn8 _).loc hb5o _).loc hb2o _).loc hb3o _
        · have hfd : decide (a.2.fc = 0) = false := decide_eq_false hfa
          rw [hfd]
          replace hz := hz.out
          rw [if_neg hfa] at hz
          subst hz
          simp [gz, *]
          (focus repeat' first|refine ga ?_|(refine gb ?_;try simp[gz, *])|refine gk fun _ _=>?_|refine gc ?_ ?_|exact gr _|refine gi fun _=>?_|(refine gn ?_ ?_;focus(intros;simp[*];done)))
          refine awp_region_stores [b6] [0, 1, 2, 3] [(4, true), (5, false)] [6] follows (by kernel_rfl) rfl (by kernel_rfl) ?_; simp [Heap.set_get, Heap.plus_set, evc_nil, evc_cons, estep, *]
          (focus repeat' first|refine ga ?_|(refine gb ?_;try simp[gz, *])|refine gk fun _ _=>?_|refine gc ?_ ?_|exact gr _|refine gi fun _=>?_|(refine gn ?_ ?_;focus(intros;simp[*];done)))
          replace hsF := Shut.mk ((hsF.loc hb2o (.cells [.list 5 [] .nil])).loc hb3o (.cells [.int .i64 a.2.fc, .int .i64 a.2.fa]))
          refine ⟨_, ⟨?_, _, rfl, ?_, _, rfl, rfl⟩, ?_, ?_⟩ <;> first | (simp [aresult, parseAV, Heap.set_get, *]; done) | exact hsF.out | trace_state
end Go.Proofs.YtcbgpjlcfkkdlaaGreatDoor

namespace Go.Proofs.YtcbgpjlcfkkdlaaGreatDoor
open Go Go.AL Go.Proofs
theorem kidLoop_code (i : Nat) : ∀ (ks : List Int) (o : List Bool) (d : List Int) (c : Int), kidLoop i ks o d = .inl c → ¬ c = 0
  | [], _, _, _, h => by simp [kidLoop] at h
  | k :: ks, o, d, c, h => by
    simp only [kidLoop] at h
    split at h
    · injection h with h; subst h; decide
    · split at h
      · exact kidLoop_code i ks _ _ c h
      · split at h
        · injection h with h; subst h; decide
        · exact kidLoop_code i ks _ _ c h
theorem runG_zero (form : Nd → Bool) (good : List Nd → Nd → Bool) (nodes : List Nd) : ∀ (ns : List Nd) (i : Nat) (o : List Bool) (d : List Int), (runG form good nodes ns i o d).1 = 0 → (runG form good nodes ns i o d).2 = 0
  | [], i, o, d => by
    simp only [runG]
    unfold lastL
    split
    · intro h; exact absurd (show (30 : Int) = 0 from h) (by decide)
    · split
      · intro h; exact absurd (show (3 : Int) = 0 from h) (by decide)
      · intro _; rfl
  | n :: ns, i, o, d => by
    simp only [runG]
    split
    · intro h; exact absurd (show (5 : Int) = 0 from h) (by decide)
    · split
      · rename_i c hc
        intro h; exact absurd h (kidLoop_code _ _ _ _ _ hc)
      · split
        · intro h; exact absurd (show (30 : Int) = 0 from h) (by decide)
        · split
          · intro h; exact absurd (show (6 : Int) = 0 from h) (by decide)
          · exact runG_zero form good nodes ns _ _ _
theorem check_zero (nodes : List Nd) (h : (checkL nodes).1 = 0) : checkL nodes = ((0 : Int), (0 : Int)) := by
  refine Prod.ext h ?_
  revert h
  unfold checkL checkG
  split
  · intro h; exact absurd (show (2 : Int) = 0 from h) (by decide)
  · exact runG_zero _ _ _ _ _ _ _
structure ParseOk (s : List UInt8) : Prop where
  bad : ∀ f, scanT s = .inr f → ¬ f.1 = 0 ∧ parseT s = ([], f.1, f.2)
  good : (parseT s).2.1 = 0 → (parseT s).2.2 = 0 ∧ (∀ n ∈ (parseT s).1, NdOk n ∧ n.kids.length ≤ 281474976710) ∧ (parseT s).1.length ≤ 131072 ∧ checkL (parseT s).1 = ((0 : Int), (0 : Int))
  fault : ∀ T, scanT s = .inl T → ¬ (parseT s).2.1 = 0 → (parseT s).1 = [] ∧ ∃ t ∈ T, t.pos = (parseT s).2.2
theorem parse_ok (s : List UInt8) (hs : s.length ≤ 3300) : ParseOk s := by
  have hsc := scan_ok s (by omega) (s.length + 1) 0 false [] (by omega) (by omega) (by simp) (by simp)
  have hr2 : scanR s (s.length + 1) 0 false [] = scanT s := rfl
  rw [hr2] at hsc
  clear hr2
  cases hr : scanT s with
  | inr f =>
    rw [hr] at hsc
    have hf := hsc.2 f rfl
    have hp : parseT s = ([], f.1, f.2) := by unfold parseT; rw [hr]
    refine ⟨fun f' e => ?_, fun h => ?_, fun T e => by rw [hr] at e; cases e⟩
    · rw [hr] at e; injection e with e; subst e; exact ⟨hf, hp⟩
    · rw [hp] at h; exact absurd h hf
  | inl T =>
    rw [hr] at hsc
    obtain ⟨hT1, hT2, T0, te, hT3, hT4, hT5⟩ := hsc.1 T rfl
    have hG : Good T S00 := ⟨⟨fun _ => by rw [hT3]; simp, Nat.zero_le _, by omega, by rw [hT3]; simp, Nat.zero_le _, by rw [hT3]; simp [List.getD, hT4]⟩, rfl⟩
    have hTk : Toks T := ⟨fun t ht => (hT1 t ht).short, fun t ht => (hT1 t ht).num⟩
    have hnd : need T (.top []) S00 ≤ fuel0 := by
      unfold need
      rw [if_pos rfl]
      simp only [rank, fuel0]
      omega
    obtain ⟨kids0, S1, hrun, hzt, hkl0⟩ := term_all T hTk fuel0 (by decide) (.top []) S00 hG InK.nil trivial hnd
    have hkp := hzt.kp
    have hgo : Goes T S00 S1 ∧ InK S1 kids0 := ⟨⟨hzt.good, hzt.len⟩, hzt.ink⟩
    clear hzt
    have hFine : Fine T S1 := hkp.fine ⟨fun n hn => (by cases hn), fun q => absurd rfl q⟩
    have hkl1 : kids0.length ≤ 2 * fuel0 + 2 := by simpa [argK, loopK] using hkl0
    have hkl2 : kids0.length ≤ 281474976710 := by have : fuel0 = 200000 := rfl; omega
    have hFin : Fine T (addL T 26 0 [] 0 kids0 S1).2 := (kp_add hgo.1.good 26 0 [] 0 kids0 (by simp) (by decide) hkl2).fine hFine
    have hnl := (goes_add hgo.1.good 26 0 [] 0 kids0).1.good.rd.nl
    have hp : parseT s = if (addL T 26 0 [] 0 kids0 S1).2.fc = 0 then
        (if (checkL (addL T 26 0 [] 0 kids0 S1).2.nodes).1 = 0 then ((addL T 26 0 [] 0 kids0 S1).2.nodes, (0 : Int), (0 : Int)) else ([], (checkL (addL T 26 0 [] 0 kids0 S1).2.nodes).1, (s.length : Int)))
      else ([], (addL T 26 0 [] 0 kids0 S1).2.fc, (addL T 26 0 [] 0 kids0 S1).2.fa) := by
      unfold parseT
      rw [hr]
      simp only [hrun]
    obtain ⟨a, ha⟩ : ∃ a, (addL T 26 0 [] 0 kids0 S1).2 = a := ⟨_, rfl⟩
    rw [ha] at hFin hnl hp
    refine ⟨fun f e => (by rw [hr] at e; cases e), ?_, fun T' e => ?_⟩
    · rw [hp]
      split
      · split
        · rename_i hc
          intro _
          exact ⟨rfl, fun n hn => hFin.1 n hn, hnl, check_zero _ hc⟩
        · rename_i hc
          intro h; exact absurd h hc
      · rename_i hc
        intro h; exact absurd h hc
    · rw [hr] at e
      injection e with e
      subst e
      rw [hp]
      split
      · split
        · intro h; exact absurd rfl h
        · intro _
          refine ⟨rfl, te, by rw [hT3]; simp, hT5⟩
      · rename_i hc
        intro _
        exact ⟨rfl, hFin.2 hc⟩
end Go.Proofs.YtcbgpjlcfkkdlaaGreatDoor

namespace Go.Proofs.YtcbgpjlcfkkdlaaGreatDoor
open Go Go.AL Go.Proofs
def src1 : List UInt8 := [102, 117, 110, 99, 116, 105, 111, 110, 32, 102, 40, 97, 44, 32, 98, 32, 61, 32, 49, 41, 32, 123, 32, 114, 101, 116, 117, 114, 110, 32, 97, 32, 43, 32, 98, 32, 42, 32, 50, 32, 125, 10, 112, 114, 105, 110, 116, 40, 102, 40, 51, 41, 41, 10, 120, 32, 61, 32, 121, 32, 63, 32, 49, 32, 58, 32, 45, 122, 43, 43]
def nodes1 : List Nd := [⟨7, 0, [], 0, []⟩, ⟨15, 0, [102], 0, [0]⟩, ⟨22, 11, [97], 0, [-1]⟩, ⟨4, 18, [], 1, []⟩, ⟨22, 14, [98], 0, [3]⟩,
  ⟨6, 30, [97], 0, []⟩, ⟨6, 34, [98], 0, []⟩, ⟨4, 38, [], 2, []⟩, ⟨10, 34, [42], 0, [6, 7]⟩, ⟨10, 30, [43], 0, [5, 8]⟩,
  ⟨37, 23, [], 0, [9]⟩, ⟨26, 21, [], 0, [10]⟩, ⟨20, 0, [102], 2, [2, 4, 11]⟩, ⟨12, 0, [60, 45], 0, [1, 12]⟩,
  ⟨28, 0, [], 0, [13]⟩, ⟨6, 42, [112, 114, 105, 110, 116], 0, []⟩, ⟨6, 48, [102], 0, []⟩, ⟨4, 50, [], 3, []⟩,
  ⟨17, 48, [], 0, [16, 17]⟩, ⟨17, 42, [], 0, [15, 18]⟩, ⟨28, 42, [], 0, [19]⟩, ⟨6, 54, [120], 0, []⟩,
  ⟨6, 58, [121], 0, []⟩, ⟨4, 62, [], 1, []⟩, ⟨6, 67, [122], 0, []⟩, ⟨13, 67, [43, 43], 1, [24]⟩, ⟨9, 66, [45], 0, [25]⟩,
  ⟨11, 58, [], 0, [22, 23, 26]⟩, ⟨12, 54, [61], 0, [21, 27]⟩, ⟨28, 54, [], 0, [28]⟩, ⟨26, 0, [], 0, [14, 20, 29]⟩]
def ndEq (a b : Nd) : Bool := decide (a.kind = b.kind) && decide (a.pos = b.pos) && decide (a.text = b.text) && decide (a.num = b.num) && decide (a.kids = b.kids)
def ndsEq : List Nd → List Nd → Bool
  | [], [] => true
  | a :: l, b :: m => ndEq a b && ndsEq l m
  | _, _ => false
theorem ndsEq_out : ∀ (l m : List Nd), ndsEq l m = true → l = m
  | [], [], _ => rfl
  | [], _ :: _, h => by simp [ndsEq] at h
  | _ :: _, [], h => by simp [ndsEq] at h
  | ⟨a1, a2, a3, a4, a5⟩ :: l, ⟨b1, b2, b3, b4, b5⟩ :: m, h => by
    simp only [ndsEq, ndEq, Bool.and_eq_true, decide_eq_true_eq] at h
    obtain ⟨⟨⟨⟨⟨rfl, rfl⟩, rfl⟩, rfl⟩, rfl⟩, h2⟩ := h
    rw [ndsEq_out l m h2]
theorem ev1a : (parseT src1).2 = (0, 0) := by decide +kernel
theorem ev1b : ndsEq (parseT src1).1 nodes1 = true := by decide +kernel
theorem ev1 : parseT src1 = (nodes1, ((0 : Int), (0 : Int))) := Prod.ext (ndsEq_out _ _ ev1b) ev1a
theorem ev1c : checkL nodes1 = ((0 : Int), (0 : Int)) := by decide +kernel
def ndFine (n : Nd) : Bool := decide (n.text.length < 4294967200) && decide (n.kids.length ≤ 281474976710656) && decide (n.num ≤ 9223372036854775807)
theorem ok1b : nodes1.all ndFine = true := by decide +kernel
theorem ok1 (n : Nd) (hn : n ∈ nodes1) : NdOk n := by
  have h2 := List.all_eq_true.1 ok1b n hn
  simp only [ndFine, Bool.and_eq_true, decide_eq_true_eq] at h2
  exact ⟨h2.1.1, h2.1.2, h2.2⟩
theorem ev2 : (parseT [120, 32, 61, 32]).2 = (5, 4) := by decide +kernel
theorem ev3 : (parseT [49, 32, 61, 32, 120]).2 = (30, 2) := by decide +kernel
theorem ev4 : (parseT [120, 32, 121]).2 = (5, 2) := by decide +kernel
theorem ev5 : (parseT [120, 10, 121]).2.1 = 0 := by decide +kernel
theorem ev6 : (parseT (Lib.repeatL [40] 99)).2.1 = 6 := by decide +kernel
end Go.Proofs.YtcbgpjlcfkkdlaaGreatDoor

namespace Go.Proofs.YtcbgpjlcfkkdlaaGreatDoor
open Go Go.AL Go.Proofs
def rowsT (z : List Nd × Int × Int) : List (List AV) := if z.2.1 = 0 then z.1.map row else []
def tokT (z : List Nd × Int × Int) : Tok := if z.2.1 = 0 then .no else .nil
theorem parseAV_eq (z : List Nd × Int × Int) : parseAV z = .tup [.agg [.list 5 (rowsT z) (tokT z)], .agg [.int .i64 z.2.1, .int .i64 z.2.2]] := by
  unfold parseAV rowsT tokT
  split <;> rfl
theorem code_c (s : List UInt8) (hs : s.length ≤ 3300) (h : Heap) (h0 : h 0 = some .gint) (R : AV → Heap → Prop) (hR : R (.agg [.int .i64 (parseT s).2.1, .int .i64 (parseT s).2.2]) h) : ACalls Tryz.prog 19 [.str s] h R := by
  refine ACalls.pure ?_ hR
  clear hR
  refine acalls_of Tryz.func19 rfl Tryz.ntmps19 (congrArg Array.toList Tryz.results19) fun Q hQ => ?_
  (focus repeat' first|refine ga ?_|(refine gb ?_;try simp[gz, *])|refine gk fun _ _=>?_|refine gc ?_ ?_|exact gr _|refine gi fun _=>?_|(refine gn ?_ ?_;focus(intros;simp[*];done)))
  intro b1 hb1; simp only [Fresh, Heap.set_none] at hb1; try simp [gz, *]
  (focus repeat' first|refine ga ?_|(refine gb ?_;try simp[gz, *])|refine gk fun _ _=>?_|refine gc ?_ ?_|exact gr _|refine gi fun _=>?_|(refine gn ?_ ?_;focus(intros;simp[*];done)))
  refine Parse_c s hs _ (gint_set hb1 h0) _ ?_
  rw [parseAV_eq]
  obtain ⟨z, hz⟩ : ∃ z, parseT s = z := ⟨_, rfl⟩
  rw [hz]
  replace hz := Shut.mk hz
  simp [gz, *]
  (focus repeat' first|refine ga ?_|(refine gb ?_;try simp[gz, *])|refine gk fun _ _=>?_|refine gc ?_ ?_|exact gr _|refine gi fun _=>?_|(refine gn ?_ ?_;focus(intros;simp[*];done)))
  intro b2 hb2
  simp only [Fresh, Heap.set_none] at hb2
  obtain ⟨n12, n21, hb2⟩ := hb2
  try simp [gz, *]
  (focus repeat' first|refine ga ?_|(refine gb ?_;try simp[gz, *])|refine gk fun _ _=>?_|refine gc ?_ ?_|exact gr _|refine gi fun _=>?_|(refine gn ?_ ?_;focus(intros;simp[*];done)))
  intro b3 hb3
  simp only [Fresh, Heap.set_none] at hb3
  obtain ⟨n13, n31, n23, n32, hb3⟩ := hb3
  try simp [gz, *]
  (focus repeat' first|refine ga ?_|(refine gb ?_;try simp[gz, *])|refine gk fun _ _=>?_|refine gc ?_ ?_|exact gr _|refine gi fun _=>?_|(refine gn ?_ ?_;focus(intros;simp[*];done)))
  rw [hz.out]
  exact ⟨⟨rfl, rfl⟩, by (repeat (first | exact Sub.refl _ | refine Sub.loc ?_ (by simp [*]) _))⟩
theorem reads_c (h : Heap) (h0 : h 0 = some .gint) (R : AV → Heap → Prop) (hR : R (.bool true) h) : ACalls Tryz.prog 8 [] h R := by
  refine ACalls.pure ?_ hR
  clear hR
  refine acalls_of Tryz.func8 rfl Tryz.ntmps8 (congrArg Array.toList Tryz.results8) fun Q hQ => ?_
  (focus repeat' first|refine ga ?_|(refine gb ?_;try simp[gz, *])|refine gk fun _ _=>?_|refine gc ?_ ?_|exact gr _|refine gi fun _=>?_|(refine gn ?_ ?_;focus(intros;simp[*];done)))
  refine Parse_c src1 (by decide) _ h0 _ ?_
  rw [ev1]
  obtain ⟨N, hN⟩ : ∃ N, nodes1 = N := ⟨_, rfl⟩
  have hc : checkL N = ((0 : Int), (0 : Int)) := by rw [← hN]; exact ev1c
  have hok : ∀ n ∈ N, NdOk n := by rw [← hN]; exact ok1
  have hl : N.length = 31 := by rw [← hN]; rfl
  obtain ⟨q30, g30⟩ : (∃ q : 30 < N.length, N[30] = ⟨26, 0, [], 0, [14, 20, 29]⟩) := ⟨by omega, by subst hN; rfl⟩
  obtain ⟨q14, g14⟩ : (∃ q : 14 < N.length, N[14] = ⟨28, 0, [], 0, [13]⟩) := ⟨by omega, by subst hN; rfl⟩
  obtain ⟨q13, g13⟩ : (∃ q : 13 < N.length, N[13] = ⟨12, 0, [60, 45], 0, [1, 12]⟩) := ⟨by omega, by subst hN; rfl⟩
  obtain ⟨q12, g12⟩ : (∃ q : 12 < N.length, N[12] = ⟨20, 0, [102], 2, [2, 4, 11]⟩) := ⟨by omega, by subst hN; rfl⟩
  rw [hN]
  clear hN
  replace hok := Shut.mk hok
  replace hc := Shut.mk hc
  show _ ∧ _
  simp only [parseAV, if_true]
  simp [gz, *]
  (focus repeat' first|refine ga ?_|(refine gb ?_;try simp[gz, *])|refine gk fun _ _=>?_|refine gc ?_ ?_|exact gr _|refine gi fun _=>?_|(refine gn ?_ ?_;focus(intros;simp[*];done)))
  intro b1 hb1; simp only [Fresh, Heap.set_none] at hb1; try simp [gz, *]
  (focus repeat' first|refine ga ?_|(refine gb ?_;try simp[gz, *])|refine gk fun _ _=>?_|refine gc ?_ ?_|exact gr _|refine gi fun _=>?_|(refine gn ?_ ?_;focus(intros;simp[*];done)))
  intro b2 hb2; simp only [Fresh, Heap.set_none] at hb2; obtain ⟨qb20, qb21, hb2⟩ := hb2; try simp [gz, *]
  (focus repeat' first|refine ga ?_|(refine gb ?_;try simp[gz, *])|refine gk fun _ _=>?_|refine gc ?_ ?_|exact gr _|refine gi fun _=>?_|(refine gn ?_ ?_;focus(intros;simp[*];done)))
  refine Check_c N .no hok.out (by omega) _ ((show AL.Sub h _ by (repeat (first | exact Sub.refl _ | refine Sub.loc ?_ (by simp [*]) _))) _ _ h0) _ ?_
  rw [hc.out]
  simp [gz, *]
  (focus repeat' first|refine ga ?_|(refine gb ?_;try simp[gz, *])|refine gk fun _ _=>?_|refine gc ?_ ?_|exact gr _|refine gi fun _=>?_|(refine gn ?_ ?_;focus(intros;simp[*];done)))
  refine awp_heap (fun g => g b1 = some (.cells [.list 5 (N.map row) .no]) ∧ AL.Sub h g) ⟨by simp [Heap.set_get, *], by (repeat (first | exact Sub.refl _ | refine Sub.loc ?_ (by simp [*]) _))⟩ (fun H hH => ?_)
  obtain ⟨H1, hsH⟩ := hH
  clear hb1 hb2 qb20 qb21
  have H0 := hsH _ _ h0
  replace hsH := Shut.mk hsH
  clear h0
  refine awp_region_pair2 [b1] [(0, true), (1, true), (2, true)] 3 [(4, true), (5, true), (6, false)] 6 [(3, false), (4, true), (5, true)] [7] follows (by kernel_rfl) rfl (by kernel_rfl) ?_
  simp [Heap.set_get, Heap.plus_set, *]
  refine ⟨?A, ?B⟩
  case' A =>
    refine Root_c N .no (by omega) _ _ ?_
    simp [Heap.set_get, Heap.plus_set, *]
    intro b3 hb3
    simp only [Fresh] at hb3
    simp [Heap.set_get, Heap.plus_set, *]
    intro n13
    have n31 : ¬ b3 = b1 := fun e => n13 e.symm
    have z3 : H b3 = none := by simpa [n31] using hb3
    clear hb3
    simp [Heap.set_get, Heap.plus_set, *]
  case' B =>
    intro b3 hb3
    simp only [Fresh] at hb3
    simp [Heap.set_get, Heap.plus_set, *]
    intro n13
    have n31 : ¬ b3 = b1 := fun e => n13 e.symm
    have z3 : H b3 = none := by simpa [n31] using hb3
    clear hb3
    simp [Heap.set_get, Heap.plus_set, *]
    refine Root_c N .no (by omega) _ _ ?_
    simp [Heap.set_get, Heap.plus_set, *]
  all_goals
    (focus repeat' first|refine ga ?_|(refine gb ?_;try simp[gz, *])|refine gk fun _ _=>?_|refine gc ?_ ?_|exact gr _|refine gi fun _=>?_|(refine gn ?_ ?_;focus(intros;simp[*];done)))
    refine awp_region_draw [b1, b3] [(0, true), (1, true), (2, true), (3, true), (4, true), (5, true), (6, true), (7, true), (8, true), (9, true), (10, true), (11, true), (12, true), (13, true), (14, true), (15, false)] [16] follows (by kernel_rfl) rfl (by kernel_rfl) ?_; simp [gz, Heap.plus_set, *]
    intro b4 hb4
    simp only [Fresh] at hb4
    simp [Heap.set_get, Heap.plus_set, *]
    intro n14 n34
    have n41 : ¬ b4 = b1 := fun e => n14 e.symm
    have n43 : ¬ b4 = b3 := fun e => n34 e.symm
    have z4 : H b4 = none := by simpa [Heap.set_get, n41, n43, n14, n34] using hb4
    clear hb4
    simp [Heap.set_get, Heap.plus_set, *]
    refine Keep.go (by assumption) ?_
    refine awp_heap (fun g => g b1 = some (.cells [.list 5 (N.map row) .no]) ∧ g b4 = some (.cells [.int .i64 12, .int .i64 0, .str [60, 45], .int .i64 0, .list 1 [[.int .i64 1], [.int .i64 12]] .no]) ∧ AL.Sub H g) ⟨by simp [Heap.set_get, *], by simp [Heap.set_get, *], ?_⟩ (fun H' hH' => ?_)
    · exact ((Sub.refl H).loc z3 _).loc z4 _
    obtain ⟨G1, G4, hsG⟩ := hH'
    clear n14 n34 n41 n43 z4 z3 n13 n31
    have G0 := hsG _ _ H0
    have m1 : ¬ 0 = b1 := fun e => by rw [← e, G0] at G1; cases G1
    have m4 : ¬ 0 = b4 := fun e => by rw [← e, G0] at G4; cases G4
    have M0 : (H'.minus [b1, b4]) 0 = some .gint := by rw [Heap.minus_get, if_neg (by simp [m1, m4])]; exact G0
    replace hsG := Shut.mk hsG
    clear H0 H1
    (focus repeat' first|refine ga ?_|(refine gb ?_;try simp[gz, *])|refine gk fun _ _=>?_|refine gc ?_ ?_|exact gr _|refine gi fun _=>?_|(refine gn ?_ ?_;focus(intros;simp[*];done)))
    refine awp_region_draw [b1, b4] [(0, true), (1, true), (2, true), (3, true), (4, true), (5, true), (6, true), (7, true), (8, true), (9, true), (10, true), (11, true), (12, true), (13, true), (14, true), (15, true), (16, true), (17, true), (18, true), (19, true), (20, true), (21, true), (22, true), (23, true), (24, true), (25, true), (26, true), (27, true), (28, true), (29, true), (30, true), (31, true), (32, true), (34, true), (33, false), (35, true), (36, true), (37, true), (39, true), (38, false), (40, true), (41, true), (42, true), (44, true), (43, false), (45, true), (46, true), (47, true), (48, false), (49, true), (50, true), (51, true), (52, true), (53, false), (54, false), (55, true), (56, true), (57, true), (58, true), (59, true)] [60] follows (by kernel_rfl) rfl (by kernel_rfl) ?_; simp [gz, Heap.plus_set, *]
    refine code_c [120, 32, 61, 32] (by decide) _ M0 _ ?_
    rw [show (parseT [120, 32, 61, 32]).2.1 = _ from congrArg Prod.fst ev2, show (parseT [120, 32, 61, 32]).2.2 = _ from congrArg Prod.snd ev2]
    simp [Heap.set_get, Heap.plus_set, *]
    refine code_c [49, 32, 61, 32, 120] (by decide) _ M0 _ ?_
    rw [show (parseT [49, 32, 61, 32, 120]).2.1 = _ from congrArg Prod.fst ev3, show (parseT [49, 32, 61, 32, 120]).2.2 = _ from congrArg Prod.snd ev3]
    simp [Heap.set_get, Heap.plus_set, *]
    refine code_c [120, 32, 121] (by decide) _ M0 _ ?_
    rw [show (parseT [120, 32, 121]).2.1 = _ from congrArg Prod.fst ev4, show (parseT [120, 32, 121]).2.2 = _ from congrArg Prod.snd ev4]
    simp [Heap.set_get, Heap.plus_set, *]
    refine code_c [120, 10, 121] (by decide) _ M0 _ ?_
    rw [ev5]
    simp [Heap.set_get, Heap.plus_set, *]
    refine Repeat_c [40] 99 (by decide) (by decide) _ _ ?_
    simp [Heap.set_get, Heap.plus_set, *]
    refine code_c (Lib.repeatL [40] 99) (by decide) _ M0 _ ?_
    rw [ev6]
    simp [Heap.set_get, Heap.plus_set, *]
    (focus repeat' first|refine ga ?_|(refine gb ?_;try simp[gz, *])|refine gk fun _ _=>?_|refine gc ?_ ?_|exact gr _|refine gi fun _=>?_|(refine gn ?_ ?_;focus(intros;simp[*];done)))
    exact hsH.out.trans hsG.out
end Go.Proofs.YtcbgpjlcfkkdlaaGreatDoor

namespace Go.Proofs.YtcbgpjlcfkkdlaaGreatDoor
open Go Go.AL Go.Proofs
theorem ParseReads_c (s : List UInt8) (hs0 : s.length ≤ 9223372036854775807) (h : Heap) (h0 : h 0 = some .gint) (R : AV → Heap → Prop) (hR : R (.bool true) h) : ACalls Tryz.prog 3 [.str s] h R := by
  refine ACalls.pure ?_ hR
  clear hR
  by_cases hs : (3000 : Int) < s.length
  · refine acalls_of Tryz.func3 rfl Tryz.ntmps3 (congrArg Array.toList Tryz.results3) fun Q hQ => ?_
    (focus repeat' first|refine ga ?_|(refine gb ?_;try simp[gz, *])|refine gk fun _ _=>?_|refine gc ?_ ?_|exact gr _|refine gi fun _=>?_|(refine gn ?_ ?_;focus(intros;simp[*];done)))
    refine reads_c _ h0 _ ?_
    simp [gz, *]
    (focus repeat' first|refine ga ?_|(refine gb ?_;try simp[gz, *])|refine gk fun _ _=>?_|refine gc ?_ ?_|exact gr _|refine gi fun _=>?_|(refine gn ?_ ?_;focus(intros;simp[*];done)))
  · have hp := parse_ok s (by omega)
    have hln : ∀ T, scanT s = .inl T → T.length ≤ s.length + 1 := fun T e => ((scan_ok s (by omega) (s.length + 1) 0 false [] (by omega) (by omega) (by simp) (by simp)).1 T e).2.1
    obtain ⟨z, hz⟩ : ∃ z, parseT s = z := ⟨_, rfl⟩
    obtain ⟨r, hr⟩ : ∃ r, scanT s = r := ⟨_, rfl⟩
    have hpc := Parse_c s (by omega)
    have hsc := Scan_c s (by omega)
    rw [parseAV_eq, hz] at hpc
    rw [hr] at hsc
    obtain ⟨p1, p2, p3⟩ := hp
    rw [hr] at hln
    rw [hz, hr] at p1 p3
    rw [hz] at p2
    obtain ⟨ns, c, a⟩ := z
    clear hz hr
    replace hpc := Shut.mk hpc
    replace hsc := Shut.mk hsc
    cases r with
    | inr f =>
      obtain ⟨e1, e2⟩ := p1 f rfl
      injection e2 with e2 e3
      injection e3 with e3 e4
      subst e2 e3 e4
      have hk : ¬ f.1 = 0 := e1
      clear p1 p2 p3 hln
      replace hpc := hpc.out
      rw [show rowsT (([] : List Nd), f.1, f.2) = [] from by unfold rowsT; split <;> rfl] at hpc
      replace hpc := Shut.mk hpc
      refine acalls_of Tryz.func3 rfl Tryz.ntmps3 (congrArg Array.toList Tryz.results3) fun Q hQ => ?_
      (focus repeat' first|refine ga ?_|(refine gb ?_;try simp[gz, *])|refine gk fun _ _=>?_|refine gc ?_ ?_|exact gr _|refine gi fun _=>?_|(refine gn ?_ ?_;focus(intros;simp[*];done)))
      refine reads_c _ h0 _ ?_
      simp [gz, *]
      (focus repeat' first|refine ga ?_|(refine gb ?_;try simp[gz, *])|refine gk fun _ _=>?_|refine gc ?_ ?_|exact gr _|refine gi fun _=>?_|(refine gn ?_ ?_;focus(intros;simp[*];done)))
      refine hpc.out _ h0 _ ?_
      simp [gz, *]
      (focus repeat' first|refine ga ?_|(refine gb ?_;try simp[gz, *])|refine gk fun _ _=>?_|refine gc ?_ ?_|exact gr _|refine gi fun _=>?_|(refine gn ?_ ?_;focus(intros;simp[*];done)))
      intro b3 hb3; simp only [Fresh, Heap.set_none] at hb3; try simp [gz, *]
      (focus repeat' first|refine ga ?_|(refine gb ?_;try simp[gz, *])|refine gk fun _ _=>?_|refine gc ?_ ?_|exact gr _|refine gi fun _=>?_|(refine gn ?_ ?_;focus(intros;simp[*];done)))
      intro b4 hb4; simp only [Fresh, Heap.set_none] at hb4; obtain ⟨qb40, qb41, hb4⟩ := hb4; try simp [gz, *]
      (focus repeat' first|refine ga ?_|(refine gb ?_;try simp[gz, *])|refine gk fun _ _=>?_|refine gc ?_ ?_|exact gr _|refine gi fun _=>?_|(refine gn ?_ ?_;focus(intros;simp[*];done)))
      refine hsc.out _ ((show AL.Sub h _ by (repeat (first | exact Sub.refl _ | refine Sub.loc ?_ (by simp [*]) _))) _ _ h0) _ ?_
      simp only [scanAV]
      simp [gz, *]
      (focus repeat' first|refine ga ?_|(refine gb ?_;try simp[gz, *])|refine gk fun _ _=>?_|refine gc ?_ ?_|exact gr _|refine gi fun _=>?_|(refine gn ?_ ?_;focus(intros;simp[*];done)))
      intro b6 hb6; simp only [Fresh, Heap.set_none] at hb6; obtain ⟨qb60, qb61, qb62, qb63, hb6⟩ := hb6; try simp [gz, *]
      (focus repeat' first|refine ga ?_|(refine gb ?_;try simp[gz, *])|refine gk fun _ _=>?_|refine gc ?_ ?_|exact gr _|refine gi fun _=>?_|(refine gn ?_ ?_;focus(intros;simp[*];done)))
      (repeat (first | exact Sub.refl _ | refine Sub.loc ?_ (by simp [*]) _))
    | inl T =>
      by_cases hc : c = 0
      · obtain ⟨g1, g2, g3, g4⟩ := p2 hc
        clear p1 p3 hln
        simp only at g1 g2 g3 g4
        subst hc g1
        rw [rowsT, if_pos rfl, tokT, if_pos rfl] at hpc
        have hck := Check_c ns .no (fun n hn => (g2 n hn).1) (by omega)
        rw [g4] at hck
        clear g2 g4 p2
        replace hck := Shut.mk hck
        refine acalls_of Tryz.func3 rfl Tryz.ntmps3 (congrArg Array.toList Tryz.results3) fun Q hQ => ?_
        (focus repeat' first|refine ga ?_|(refine gb ?_;try simp[gz, *])|refine gk fun _ _=>?_|refine gc ?_ ?_|exact gr _|refine gi fun _=>?_|(refine gn ?_ ?_;focus(intros;simp[*];done)))
        refine reads_c _ h0 _ ?_
        simp [gz, *]
        (focus repeat' first|refine ga ?_|(refine gb ?_;try simp[gz, *])|refine gk fun _ _=>?_|refine gc ?_ ?_|exact gr _|refine gi fun _=>?_|(refine gn ?_ ?_;focus(intros;simp[*];done)))
        refine hpc.out _ h0 _ ?_
        simp [gz, *]
        (focus repeat' first|refine ga ?_|(refine gb ?_;try simp[gz, *])|refine gk fun _ _=>?_|refine gc ?_ ?_|exact gr _|refine gi fun _=>?_|(refine gn ?_ ?_;focus(intros;simp[*];done)))
        intro b3 hb3; simp only [Fresh, Heap.set_none] at hb3; try simp [gz, *]
        (focus repeat' first|refine ga ?_|(refine gb ?_;try simp[gz, *])|refine gk fun _ _=>?_|refine gc ?_ ?_|exact gr _|refine gi fun _=>?_|(refine gn ?_ ?_;focus(intros;simp[*];done)))
        intro b4 hb4; simp only [Fresh, Heap.set_none] at hb4; obtain ⟨qb40, qb41, hb4⟩ := hb4; try simp [gz, *]
        (focus repeat' first|refine ga ?_|(refine gb ?_;try simp[gz, *])|refine gk fun _ _=>?_|refine gc ?_ ?_|exact gr _|refine gi fun _=>?_|(refine gn ?_ ?_;focus(intros;simp[*];done)))
        refine hsc.out _ ((show AL.Sub h _ by (repeat (first | exact Sub.refl _ | refine Sub.loc ?_ (by simp [*]) _))) _ _ h0) _ ?_
        simp only [scanAV]
        simp [gz, *]
        (focus repeat' first|refine ga ?_|(refine gb ?_;try simp[gz, *])|refine gk fun _ _=>?_|refine gc ?_ ?_|exact gr _|refine gi fun _=>?_|(refine gn ?_ ?_;focus(intros;simp[*];done)))
        intro b6 hb6; simp only [Fresh, Heap.set_none] at hb6; obtain ⟨qb60, qb61, qb62, qb63, hb6⟩ := hb6; try simp [gz, *]
        (focus repeat' first|refine ga ?_|(refine gb ?_;try simp[gz, *])|refine gk fun _ _=>?_|refine gc ?_ ?_|exact gr _|refine gi fun _=>?_|(refine gn ?_ ?_;focus(intros;simp[*];done)))
        refine hck.out _ ((show AL.Sub h _ by (repeat (first | exact Sub.refl _ | refine Sub.loc ?_ (by simp [*]) _))) _ _ h0) _ ?_
        simp [gz, *]
        (focus repeat' first|refine ga ?_|(refine gb ?_;try simp[gz, *])|refine gk fun _ _=>?_|refine gc ?_ ?_|exact gr _|refine gi fun _=>?_|(refine gn ?_ ?_;focus(intros;simp[*];done)))
        (repeat (first | exact Sub.refl _ | refine Sub.loc ?_ (by simp [*]) _))
      · obtain ⟨-, te, ht1, ht2⟩ := p3 T rfl hc
        simp only at ht2
        have hck : ¬ c = 0 := hc
        clear p1 p2 p3 hc
        replace hpc := hpc.out
        rw [rowsT, if_neg hck] at hpc
        replace hpc := Shut.mk hpc
        have hTl : T.length ≤ 65537 := by have := hln T rfl; omega
        clear hln
        refine acalls_of Tryz.func3 rfl Tryz.ntmps3 (congrArg Array.toList Tryz.results3) fun Q hQ => ?_
        (focus repeat' first|refine ga ?_|(refine gb ?_;try simp[gz, *])|refine gk fun _ _=>?_|refine gc ?_ ?_|exact gr _|refine gi fun _=>?_|(refine gn ?_ ?_;focus(intros;simp[*];done)))
        refine reads_c _ h0 _ ?_
        simp [gz, *]
        (focus repeat' first|refine ga ?_|(refine gb ?_;try simp[gz, *])|refine gk fun _ _=>?_|refine gc ?_ ?_|exact gr _|refine gi fun _=>?_|(refine gn ?_ ?_;focus(intros;simp[*];done)))
        refine hpc.out _ h0 _ ?_
        simp [gz, *]
        (focus repeat' first|refine ga ?_|(refine gb ?_;try simp[gz, *])|refine gk fun _ _=>?_|refine gc ?_ ?_|exact gr _|refine gi fun _=>?_|(refine gn ?_ ?_;focus(intros;simp[*];done)))
        intro b3 hb3; simp only [Fresh, Heap.set_none] at hb3; try simp [gz, *]
        (focus repeat' first|refine ga ?_|(refine gb ?_;try simp[gz, *])|refine gk fun _ _=>?_|refine gc ?_ ?_|exact gr _|refine gi fun _=>?_|(refine gn ?_ ?_;focus(intros;simp[*];done)))
        intro b4 hb4; simp only [Fresh, Heap.set_none] at hb4; obtain ⟨qb40, qb41, hb4⟩ := hb4; try simp [gz, *]
        (focus repeat' first|refine ga ?_|(refine gb ?_;try simp[gz, *])|refine gk fun _ _=>?_|refine gc ?_ ?_|exact gr _|refine gi fun _=>?_|(refine gn ?_ ?_;focus(intros;simp[*];done)))
        refine hsc.out _ ((show AL.Sub h _ by (repeat (first | exact Sub.refl _ | refine Sub.loc ?_ (by simp [*]) _))) _ _ h0) _ ?_
        simp only [scanAV]
        simp [gz, *]
        (focus repeat' first|refine ga ?_|(refine gb ?_;try simp[gz, *])|refine gk fun _ _=>?_|refine gc ?_ ?_|exact gr _|refine gi fun _=>?_|(refine gn ?_ ?_;focus(intros;simp[*];done)))
        intro b6 hb6; simp only [Fresh, Heap.set_none] at hb6; obtain ⟨qb60, qb61, qb62, qb63, hb6⟩ := hb6; try simp [gz, *]
        (focus repeat' first|refine ga ?_|(refine gb ?_;try simp[gz, *])|refine gk fun _ _=>?_|refine gc ?_ ?_|exact gr _|refine gi fun _=>?_|(refine gn ?_ ?_;focus(intros;simp[*];done)))
        refine awp_heap (fun g => g b3 = some (.cells [.list 5 [] (tokT (ns, c, a))]) ∧ g b4 = some (.cells [.int .i64 c, .int .i64 a]) ∧ AL.Sub h g) ⟨by simp [Heap.set_get, *], by simp [Heap.set_get, *], by (repeat (first | exact Sub.refl _ | refine Sub.loc ?_ (by simp [*]) _))⟩ (fun H hH => ?_)
        clear hb3 hb4 hb6 qb40 qb41 qb60 qb61 qb62 qb63 h0 hpc hsc
        obtain ⟨hb3, hb4, hsH⟩ := hH
        replace hsH := Shut.mk hsH
        refine awp_loop_h [2, 8, 50, 51, 52, 53, 54, 55, 56, 57, 58, 59, 60, 61, 62, 63] (fun m x g => ∃ i : Nat, i ≤ T.length ∧ m = T.length - i ∧ x 50 = .int .i64 i ∧ te ∈ T.drop i ∧ g = H) T.length ⟨0, by omega, rfl, by simp, by simpa using ht1, rfl⟩ (fun m x g hI K hK => ?_)
        obtain ⟨i, hi, rfl, hx, hte, rfl⟩ := hI
        have hil : i < T.length := by
          by_cases e : i < T.length
          · exact e
          · rw [List.drop_eq_nil_of_le (by omega)] at hte; cases hte
        rw [List.drop_eq_getElem_cons hil] at hte
        obtain ⟨t, ht⟩ : ∃ t, T[i] = t := ⟨_, rfl⟩
        rw [ht] at hte
        have hget : T[i]? = some t := by rw [List.getElem?_eq_getElem hil, ht]
        have w1 : IntKind.i64.wrap ((i : Int) + 1) = ((i + 1 : Nat) : Int) := by rw [w64 (by omega) (by omega)]; omega
        have hii : (i : Int) < T.length := by omega
        have hi0 : ¬ ((i : Int) < 0) := by omega
        replace hte := Shut.mk hte
        clear ht1
        by_cases he : t.pos = a
        · replace hte := hte
          refine awp_eqs (s' := [_, _, x 2, _, _, _, _, _, x 8, _, _, _, _, _, _, _, _, _, _, _, _, _, _, _, _, _, _, _, _, _, _, _, _, _, _, _, _, _, _, _, _, _, _, _, _, _, _, _, _, _, x 50, x 51, x 52, x 53, x 54, x 55, x 56, x 57, x 58, x 59, x 60, x 61, x 62, x 63]) rfl ?_
          (focus repeat' first|refine ga ?_|(refine gb ?_;try simp[gz, *])|refine gk fun _ _=>?_|refine gc ?_ ?_|exact gr _|refine gi fun _=>?_|(refine gn ?_ ?_;focus(intros;simp[*];done)))
          intro b8 hb8; simp only [Fresh, Heap.set_none] at hb8; have n_b8_b3 := ne_of_fresh hb3 (b := b8) (by simp [*]); have n_b8_b4 := ne_of_fresh hb4 (b := b8) (by simp [*]); try simp [gz, *]
          (focus repeat' first|refine ga ?_|(refine gb ?_;try simp[gz, *])|refine gk fun _ _=>?_|refine gc ?_ ?_|exact gr _|refine gi fun _=>?_|(refine gn ?_ ?_;focus(intros;simp[*];done)))
          have hz8 : h b8 = none := by
            cases e : h b8 with
            | none => rfl
            | some y => rw [hsH.out _ _ e] at hb8; cases hb8
          exact hsH.out.loc hz8 _
        · refine awp_eqs (s' := [_, _, x 2, _, _, _, _, _, x 8, _, _, _, _, _, _, _, _, _, _, _, _, _, _, _, _, _, _, _, _, _, _, _, _, _, _, _, _, _, _, _, _, _, _, _, _, _, _, _, _, _, x 50, x 51, x 52, x 53, x 54, x 55, x 56, x 57, x 58, x 59, x 60, x 61, x 62, x 63]) rfl ?_
          (focus repeat' first|refine ga ?_|(refine gb ?_;try simp[gz, *])|refine gk fun _ _=>?_|refine gc ?_ ?_|exact gr _|refine gi fun _=>?_|(refine gn ?_ ?_;focus(intros;simp[*];done)))
          intro b8 hb8; simp only [Fresh, Heap.set_none] at hb8; have n_b8_b3 := ne_of_fresh hb3 (b := b8) (by simp [*]); have n_b8_b4 := ne_of_fresh hb4 (b := b8) (by simp [*]); try simp [gz, *]
          (focus repeat' first|refine ga ?_|(refine gb ?_;try simp[gz, *])|refine gk fun _ _=>?_|refine gc ?_ ?_|exact gr _|refine gi fun _=>?_|(refine gn ?_ ?_;focus(intros;simp[*];done)))
          have hte2 : te ∈ T.drop (i + 1) := by
            rcases List.mem_cons.1 hte.out with e | e
            · rw [e] at ht2; exact absurd ht2 he
            · exact e
          exact ⟨by kernel_rfl, rfl, T.length - (i + 1), g, by omega, (Sub.refl g).loc hb8 _, i + 1, by omega, rfl, by simp, hte2, rfl⟩
end Go.Proofs.YtcbgpjlcfkkdlaaGreatDoor

