import Derived.Test.YtmnkalojpefclaaDoorWP
set_option linter.unusedSimpArgs false
set_option linter.unusedVariables false
namespace Go.Proofs.YtmnkalojpefclaaDoor
open Go Go.AL Go.Proofs
-- NOPICK
attribute [local simp] pickV_b pickV_s pickV_i
/-- The slots that the loop over a node's kids writes. -/
abbrev W1 : List Nat := [2, 3, 9, 10, 11, 72, 73, 74, 75, 76, 77, 78, 79, 80, 81, 82, 83, 84, 85, 86, 87, 88, 89, 90, 91, 92, 93, 94, 95, 96, 97, 98, 99, 100, 101, 102, 103, 104, 105, 106, 107, 108, 109, 110, 111, 112, 113, 114, 115, 116, 117, 118, 119, 120, 121, 122, 123, 124, 125, 126, 127, 128, 129, 130, 131, 132, 133, 134]
set_option maxRecDepth 100000 in
set_option maxHeartbeats 16000000 in
theorem Wrong_kids (nodes : List Nd) (n : Nd) (i : Nat) (hlt : i < nodes.length) (hn : nodes[i] = n) (hN : nodes.length ≤ 131072) (hnok : NdOk n) (hkl6 : n.kids.length ≤ 281474976710) (o : List Bool) (d : List Int) (h g2 : Heap) (b1 b7 bo bd : Nat)
    (hol : o.length = nodes.length) (hdl : d.length = nodes.length) (hdb : ∀ j, 0 ≤ d.getD j 0 ∧ d.getD j 0 ≤ j)
    (hbo1 : ¬ b1 = bo) (hbo1' : ¬ bo = b1) (hbd1 : ¬ b1 = bd) (hbd1' : ¬ bd = b1) (hod : ¬ bo = bd) (hdo : ¬ bd = bo) (n17 : ¬ b1 = b7) (e71 : ¬ b7 = b1) (no7 : ¬ bo = b7) (e7o : ¬ b7 = bo) (nd7 : ¬ bd = b7) (e7d : ¬ b7 = bd) (hbo0 : h bo = none) (hbd0 : h bd = none)
    (hM : WMem h g2 nodes b1 bo bd o d) (q7 : g2 b7 = some (.cells (row n)))
    {c : Code} (hc : ∃ b, Tryd.f9.body = some b ∧ (loopsOf b)[1]? = some c) {α : AAct} {Q : APostT} (hs : α.s.length = 238) (hds : α.ds = [])
    (h1 : α.s.getD 1 .any = .ptr b1 0) (h4 : α.s.getD 4 .any = .arr bo 0 nodes.length nodes.length) (h5 : α.s.getD 5 .any = .arr bd 0 nodes.length nodes.length) (h6 : α.s.getD 6 .any = .int .i64 i) (h7 : α.s.getD 7 .any = .ptr b7 0) (h9 : α.s.getD 9 .any = .list 1 [] .nil) (h10 : α.s.getD 10 .any = .int .i64 0)
    (hret : ∀ (α' : AAct) (g' : Heap) (e : Int), α'.ds = [] → kidLoop i n.kids o d = .inl e → α'.s.getD 2 .any = .int .i64 e → α'.s.getD 3 .any = .int .i64 i → AL.Sub h g' → Q .ret α' g')
    (hexit : ∀ (x : Nat → AV) (g' : Heap) (o' : List Bool) (d' : List Int) (tok : Tok), kidLoop i n.kids o d = .inr (o', d') → o'.length = nodes.length → d'.length = nodes.length → (∀ j, 0 ≤ d'.getD j 0 ∧ d'.getD j 0 ≤ j) → (∀ k ∈ n.kids, -1 ≤ k ∧ k < (i : Int)) →
      x 9 = .list 1 (ints (n.kids.map (kindR nodes))) tok → WMem h g' nodes b1 bo bd o' d' → g' b7 = some (.cells (row n)) → Q (.exit 2) ⟨hav W1 x 0 α.s, []⟩ g') : awp Tryd.prog (.loop c) Q α g2 := by
  obtain ⟨b, hb, hc⟩ := hc
  obtain rfl : b = _ := Option.some.inj (hb.symm.trans rfl)
  obtain rfl : c = _ := Option.some.inj (hc.symm.trans rfl)
  clear hb hc
  obtain ⟨s, ds⟩ := α
  simp only at hs hds h1 h4 h5 h6 h7 h9 h10 hexit
  subst hds
  replace hs := fr_of hs
  obtain ⟨x0, hx0⟩ : ∃ x0 : Nat → AV, (fun j => s.getD j .any) = x0 := ⟨_, rfl⟩
  rw [hx0] at hs
  have z1 : x0 1 = .ptr b1 0 := by rw [← hx0]; exact h1
  have z4 : x0 4 = .arr bo 0 nodes.length nodes.length := by rw [← hx0]; exact h4
  have z5 : x0 5 = .arr bd 0 nodes.length nodes.length := by rw [← hx0]; exact h5
  have z6 : x0 6 = .int .i64 i := by rw [← hx0]; exact h6
  have z7 : x0 7 = .ptr b7 0 := by rw [← hx0]; exact h7
  have z9 : x0 9 = .list 1 [] .nil := by rw [← hx0]; exact h9
  have z10 : x0 10 = .int .i64 0 := by rw [← hx0]; exact h10
  clear h1 h4 h5 h6 h7 h9 h10 hx0
  subst hs
  simp only [fr, Nat.reduceAdd, z1, z4, z5, z6, z7, z9, z10] at hexit ⊢
  clear z1 z4 z5 z6 z7 z9 z10
  have r1 := hM.tree
  have r2 := hM.own
  have r3 := hM.deep
  have r4 := hM.sub
  clear hM
  refine awp_loop_h [2, 3, 9, 10, 11, 72, 73, 74, 75, 76, 77, 78, 79, 80, 81, 82, 83, 84, 85, 86, 87, 88, 89, 90, 91, 92, 93, 94, 95, 96, 97, 98, 99, 100, 101, 102, 103, 104, 105, 106, 107, 108, 109, 110, 111, 112, 113, 114, 115, 116, 117, 118, 119, 120, 121, 122, 123, 124, 125, 126, 127, 128, 129, 130, 131, 132, 133, 134] (fun m x g' => ∃ (j : Nat) (o' : List Bool) (d' : List Int) (tok : Tok), j ≤ n.kids.length ∧ m = n.kids.length - j ∧ x 10 = .int .i64 j ∧ x 9 = .list 1 (ints ((n.kids.take j).map (kindR nodes))) tok ∧ TokIn g' tok ∧ (∀ b k e, tok = .own b k e → h b = none) ∧
    o'.length = nodes.length ∧ d'.length = nodes.length ∧ (∀ j, 0 ≤ d'.getD j 0 ∧ d'.getD j 0 ≤ j) ∧ (∀ s (hs : s < n.kids.length), s < j → -1 ≤ n.kids[s] ∧ n.kids[s] < i) ∧ kidLoop i (n.kids.drop j) o' d' = kidLoop i n.kids o d ∧ WMem h g' nodes b1 bo bd o' d' ∧ g' b7 = some (.cells (row n))) n.kids.length
    ⟨0, o, d, .nil, by omega, by omega, rfl, by simp, trivial, (fun _ _ _ e => by cases e), hol, hdl, hdb, fun s _ hs => by omega, rfl, ⟨r1, r2, r3, r4⟩, q7⟩ (fun m x g' hI K hK => ?_)
  clear r1 r2 r3 r4 q7
  obtain ⟨j, o', d', tok, hj, rfl, hx10, hx9, htok, htn, hol', hdl', hdb', hin, hkl, hM', q7⟩ := hI
  have q1 := hM'.tree
  have q2 := hM'.own
  have q3 := hM'.deep
  have q4 := hM'.sub
  clear hM'
  have w2 : IntKind.i64.wrap ((j : Int) + 1) = j + 1 := w64 (by omega) (by have := hnok.kids; omega)
  by_cases hjl : j < n.kids.length
  · obtain ⟨k, hk⟩ : ∃ k, n.kids[j] = k := ⟨_, rfl⟩
    have htk : (n.kids.take (j + 1)).map (kindR nodes) = (n.kids.take j).map (kindR nodes) ++ [kindR nodes k] := by
      rw [List.take_add_one, List.getElem?_eq_getElem hjl, hk]; simp
    by_cases hbad : k < -1 ∨ (i : Int) ≤ k
    · rw [kid_miss hjl (by rw [hk]; exact hbad)] at hkl
      clear htk
      rcases hbad with hbad | hbad
      all_goals
        simp (maxSteps := 10000000) only [AgainAt, hav, List.contains_cons, List.contains_nil, Bool.or_false, Nat.reduceAdd, Nat.reduceBEq, Bool.or_true, Bool.true_or, Bool.false_or, if_true, if_false, Bool.false_eq_true]
        repeat' (first | refine Keep.go (by assumption) ?_ | refine awp_seq_k fun K hK => ?_ | (refine awp_region ?_; try simp [Heap.set_get, -pickV, *]) | refine awp_block ?_ | (refine awp_ret ?_; try simp) | (refine awp_skip ?_; try simp) | (refine awp_exit ?_; try simp) | (refine KeepQ.go (by assumption) ?_; try simp [Heap.set_get, -pickV, *]) | (refine awp_cond' ?_; try simp [Heap.set_get, -pickV, *]) | refine And.intro (by omega) ?_ | refine And.intro (by assumption) ?_ | refine and_lf (by omega) ?_ | refine and_rf ?_ (by omega) | refine and_imps (fun _ => ?_) (fun _ => ?_) | refine arounds_k fun K hK => ?_ | refine Or.inl ⟨by omega, ?_⟩ | refine Or.inr ⟨by omega, ?_⟩ | refine or_split (fun _ => ?_) (fun _ => ?_) | exact Sub.refl _ | refine imp_in fun _ => ?_ | refine and_ri ?_ (fun _ => ?_) | refine and_li (fun _ => ?_) ?_ | (refine And.intro ?_ ?_; focus (intros; simp [*]; done)) | fail)
        first
          | exact hret _ _ 3 rfl hkl.symm rfl rfl q4
    · by_cases hk1 : k = -1
      · rw [kid_none hjl (by rw [hk]; exact hk1)] at hkl
        rw [hk1] at htk
        simp (maxSteps := 10000000) only [AgainAt, hav, List.contains_cons, List.contains_nil, Bool.or_false, Nat.reduceAdd, Nat.reduceBEq, Bool.or_true, Bool.true_or, Bool.false_or, if_true, if_false, Bool.false_eq_true]
        repeat' (first | refine Keep.go (by assumption) ?_ | refine awp_seq_k fun K hK => ?_ | (refine awp_region ?_; try simp [Heap.set_get, -pickV, *]) | refine awp_block ?_ | (refine awp_ret ?_; try simp) | (refine awp_skip ?_; try simp) | (refine awp_exit ?_; try simp) | (refine KeepQ.go (by assumption) ?_; try simp [Heap.set_get, -pickV, *]) | (refine awp_cond' ?_; try simp [Heap.set_get, -pickV, *]) | refine And.intro (by omega) ?_ | refine And.intro (by assumption) ?_ | refine and_lf (by omega) ?_ | refine and_rf ?_ (by omega) | refine and_imps (fun _ => ?_) (fun _ => ?_) | refine arounds_k fun K hK => ?_ | refine Or.inl ⟨by omega, ?_⟩ | refine Or.inr ⟨by omega, ?_⟩ | refine or_split (fun _ => ?_) (fun _ => ?_) | exact Sub.refl _ | refine imp_in fun _ => ?_ | refine and_ri ?_ (fun _ => ?_) | refine and_li (fun _ => ?_) ?_ | (refine And.intro ?_ ?_; focus (intros; simp [*]; done)) | fail)
        refine .inl ⟨htok, fun b kk e hb => ?_⟩
        have f1 := grow_keep (k := kk) (e := e) q1 htok hb
        have f2 := grow_keep (k := kk) (e := e) q2 htok hb
        have f3 := grow_keep (k := kk) (e := e) q3 htok hb
        have f7 := grow_keep (k := kk) (e := e) q7 htok hb
        have f4 := grow_sub (k := kk) (e := e) q4 htn hb
        have ft : TokIn ((tok.rid g').set b (.spare kk e)) (.own b kk e) := by simp [TokIn]
        have fb : h b = none := by
          rcases hb with hb | ⟨k2, e2, hb⟩
          · exact sub_none q4 hb
          · exact htn _ _ _ hb
        generalize (tok.rid g').set b (.spare kk e) = H3 at f1 f2 f3 f7 f4 ft ⊢
        clear hx9 hx10 htok htn hb
        simp [Heap.set_get, -pickV, *]
        repeat' (first | refine Keep.go (by assumption) ?_ | refine awp_seq_k fun K hK => ?_ | (refine awp_region ?_; try simp [Heap.set_get, -pickV, *]) | refine awp_block ?_ | (refine awp_ret ?_; try simp) | (refine awp_skip ?_; try simp) | (refine awp_exit ?_; try simp) | (refine KeepQ.go (by assumption) ?_; try simp [Heap.set_get, -pickV, *]) | (refine awp_cond' ?_; try simp [Heap.set_get, -pickV, *]) | refine And.intro (by omega) ?_ | refine And.intro (by assumption) ?_ | refine and_lf (by omega) ?_ | refine and_rf ?_ (by omega) | refine and_imps (fun _ => ?_) (fun _ => ?_) | refine arounds_k fun K hK => ?_ | refine Or.inl ⟨by omega, ?_⟩ | refine Or.inr ⟨by omega, ?_⟩ | refine or_split (fun _ => ?_) (fun _ => ?_) | exact Sub.refl _ | refine imp_in fun _ => ?_ | refine and_ri ?_ (fun _ => ?_) | refine and_li (fun _ => ?_) ?_ | (refine And.intro ?_ ?_; focus (intros; simp [*]; done)) | fail)
        refine ⟨by simp [hav], rfl, n.kids.length - (j + 1), H3, by omega, Sub.refl _, j + 1, o', d', .own b kk e, by omega, rfl, by simp, ?_, ft, fun b' k' e' q => ?_, hol', hdl', hdb', fun s hs hsj => ?_, hkl, ⟨f1, f2, f3, f4⟩, f7⟩
        · rw [htk]; simp [List.map_take, kindR]
        · injection q with q; subst q; exact fb
        · by_cases e : s < j
          · exact hin s hs e
          · have : s = j := by omega
            subst this
            rw [hk]; omega
      · obtain ⟨m, hm⟩ := Int.eq_ofNat_of_zero_le (a := k) (by omega)
        have hmi : m < i := by omega
        have hmo : m < o'.length := by omega
        have hmd : m < d'.length := by omega
        have hid : i < d'.length := by omega
        have hmN : m < nodes.length := by omega
        have hm0 : ¬ ((m : Int) < 0) := by omega
        have hm1 : ¬ ((m : Int) < -1) := by omega
        have hm2 : ¬ ((i : Int) ≤ m) := by omega
        cases hom : o'[m]
        · have hom' : o'[m]? = some false := by rw [List.getElem?_eq_getElem hmo, hom]
          rw [kid_next hjl (by rw [hk]; exact hm) hmi (by simp [List.getD, hmo, hom])] at hkl
          have hdm := hdb' m
          have hdi := hdb' i
          simp only [List.getD, List.getElem?_eq_getElem hmd, List.getElem?_eq_getElem hid, Option.getD_some] at hdm hdi hkl
          have w3 : IntKind.i64.wrap (d'[m] + 1) = d'[m] + 1 := w64 (by omega) (by omega)
          have hsp : ∀ x : AV, (List.take m (cnts o') ++ x :: List.drop (m + 1) (cnts o'))[m]? = some x := fun x => by
            rw [List.getElem?_append_right (by simp; omega), List.length_take]
            simp [Nat.min_eq_left (Nat.le_of_lt hmo)]
          have v1 : IntKind.i64.wrap 1 = 1 := by decide
          simp (maxSteps := 10000000) only [AgainAt, hav, List.contains_cons, List.contains_nil, Bool.or_false, Nat.reduceAdd, Nat.reduceBEq, Bool.or_true, Bool.true_or, Bool.false_or, if_true, if_false, Bool.false_eq_true]
          repeat' (first | refine Keep.go (by assumption) ?_ | refine awp_seq_k fun K hK => ?_ | (refine awp_region ?_; try simp [Heap.set_get, -pickV, *]) | refine awp_block ?_ | (refine awp_ret ?_; try simp) | (refine awp_skip ?_; try simp) | (refine awp_exit ?_; try simp) | (refine KeepQ.go (by assumption) ?_; try simp [Heap.set_get, -pickV, *]) | (refine awp_cond' ?_; try simp [Heap.set_get, -pickV, *]) | refine And.intro (by omega) ?_ | refine And.intro (by assumption) ?_ | refine and_lf (by omega) ?_ | refine and_rf ?_ (by omega) | refine and_imps (fun _ => ?_) (fun _ => ?_) | refine arounds_k fun K hK => ?_ | refine Or.inl ⟨by omega, ?_⟩ | refine Or.inr ⟨by omega, ?_⟩ | refine or_split (fun _ => ?_) (fun _ => ?_) | exact Sub.refl _ | refine imp_in fun _ => ?_ | refine and_ri ?_ (fun _ => ?_) | refine and_li (fun _ => ?_) ?_ | (refine And.intro ?_ ?_; focus (intros; simp [*]; done)) | fail)
          have hs1 := splice_map (fun b => AV.int .i64 (if b then 1 else 0)) o' m true hmo
          simp only [splice, List.append_assoc, List.cons_append, List.nil_append, List.length_singleton, if_true] at hs1
          have q2' : (g'.set bo (.cells (List.take m (cnts o') ++ .int .i64 1 :: List.drop (m + 1) (cnts o')))) bo = some (.cells (cnts (o'.set m true))) := by rw [Heap.set_same]; exact congrArg (fun l => some (Blk.cells l)) hs1
          have q1' : (g'.set bo (.cells (List.take m (cnts o') ++ .int .i64 1 :: List.drop (m + 1) (cnts o')))) b1 = some (.cells [AV.list 5 (nodes.map row) .no]) := by simp [Heap.set_get, *]
          have q3' : (g'.set bo (.cells (List.take m (cnts o') ++ .int .i64 1 :: List.drop (m + 1) (cnts o')))) bd = some (.cells (nums d')) := by simp [Heap.set_get, *]
          have q7' : (g'.set bo (.cells (List.take m (cnts o') ++ .int .i64 1 :: List.drop (m + 1) (cnts o')))) b7 = some (.cells (row n)) := by simp [Heap.set_get, *]
          have q4' : AL.Sub h (g'.set bo (.cells (List.take m (cnts o') ++ .int .i64 1 :: List.drop (m + 1) (cnts o')))) := q4.loc hbo0 _
          have htok' : TokIn (g'.set bo (.cells (List.take m (cnts o') ++ .int .i64 1 :: List.drop (m + 1) (cnts o')))) tok := tok_set q2 htok
          refine .inl ⟨htok', fun b kk e hb => ?_⟩
          generalize (g'.set bo (.cells (List.take m (cnts o') ++ .int .i64 1 :: List.drop (m + 1) (cnts o')))) = H2 at q1' q2' q3' q4' q7' htok' hb ⊢
          clear q1 q2 q3 q4 q7 htok hs1 hsp hom hom'
          have f1 := grow_keep (k := kk) (e := e) q1' htok' hb
          have f2 := grow_keep (k := kk) (e := e) q2' htok' hb
          have f3 := grow_keep (k := kk) (e := e) q3' htok' hb
          have f7 := grow_keep (k := kk) (e := e) q7' htok' hb
          have f4 := grow_sub (k := kk) (e := e) q4' htn hb
          have ft : TokIn ((tok.rid H2).set b (.spare kk e)) (.own b kk e) := by simp [TokIn]
          have fb : h b = none := by
            rcases hb with hb | ⟨k2, e2, hb⟩
            · exact sub_none q4' hb
            · exact htn _ _ _ hb
          generalize (tok.rid H2).set b (.spare kk e) = H3 at f1 f2 f3 f7 f4 ft ⊢
          clear hx9 hx10 htok' htn hb q1' q2' q3' q4' q7'
          simp [Heap.set_get, -pickV, *]
          repeat' (first | refine Keep.go (by assumption) ?_ | refine awp_seq_k fun K hK => ?_ | (refine awp_region ?_; try simp [Heap.set_get, -pickV, *]) | refine awp_block ?_ | (refine awp_ret ?_; try simp) | (refine awp_skip ?_; try simp) | (refine awp_exit ?_; try simp) | (refine KeepQ.go (by assumption) ?_; try simp [Heap.set_get, -pickV, *]) | (refine awp_cond' ?_; try simp [Heap.set_get, -pickV, *]) | refine And.intro (by omega) ?_ | refine And.intro (by assumption) ?_ | refine and_lf (by omega) ?_ | refine and_rf ?_ (by omega) | refine and_imps (fun _ => ?_) (fun _ => ?_) | refine arounds_k fun K hK => ?_ | refine Or.inl ⟨by omega, ?_⟩ | refine Or.inr ⟨by omega, ?_⟩ | refine or_split (fun _ => ?_) (fun _ => ?_) | exact Sub.refl _ | refine imp_in fun _ => ?_ | refine and_ri ?_ (fun _ => ?_) | refine and_li (fun _ => ?_) ?_ | (refine And.intro ?_ ?_; focus (intros; simp [*]; done)) | fail)
          refine awp_region_quiet follows (by kernel_rfl) ?_; simp [Heap.set_get, -pickV, *]
          repeat' (first | refine Keep.go (by assumption) ?_ | refine awp_seq_k fun K hK => ?_ | (refine awp_region ?_; try simp [Heap.set_get, -pickV, *]) | refine awp_block ?_ | (refine awp_ret ?_; try simp) | (refine awp_skip ?_; try simp) | (refine awp_exit ?_; try simp) | (refine KeepQ.go (by assumption) ?_; try simp [Heap.set_get, -pickV, *]) | (refine awp_cond' ?_; try simp [Heap.set_get, -pickV, *]) | refine And.intro (by omega) ?_ | refine And.intro (by assumption) ?_ | refine and_lf (by omega) ?_ | refine and_rf ?_ (by omega) | refine and_imps (fun _ => ?_) (fun _ => ?_) | refine arounds_k fun K hK => ?_ | refine Or.inl ⟨by omega, ?_⟩ | refine Or.inr ⟨by omega, ?_⟩ | refine or_split (fun _ => ?_) (fun _ => ?_) | exact Sub.refl _ | refine imp_in fun _ => ?_ | refine and_ri ?_ (fun _ => ?_) | refine and_li (fun _ => ?_) ?_ | (refine And.intro ?_ ?_; focus (intros; simp [*]; done)) | fail)
          · have hge : d'[i] ≤ d'[m] := by assumption
            have hs2 := splice_map (AV.int .i64) d' i (max d'[i] (d'[m] + 1)) hid
            have hmx : max d'[i] (d'[m] + 1) = d'[m] + 1 := by omega
            rw [hmx] at hs2 hkl
            simp only [splice, List.append_assoc, List.cons_append, List.nil_append, List.length_singleton] at hs2
            refine ⟨by simp [hav], rfl, n.kids.length - (j + 1), _, by omega, Sub.refl _, j + 1, o'.set m true, d'.set i (d'[m] + 1), .own b kk e, by omega, rfl, by simp, ?_, tok_set f3 ft, fun b' k' e' q => ?_, by simpa using hol', by simpa using hdl', fun s => ?_, fun s hs hsj => ?_, hkl, ⟨by simp [Heap.set_get, *], by simp [Heap.set_get, *], by rw [Heap.set_same]; exact congrArg (fun l => some (Blk.cells l)) hs2, f4.loc hbd0 _⟩, by simp [Heap.set_get, *]⟩
            · rw [htk]; simp [List.map_take, kindR, hm, hm0, hmN, kindAt_get]
            · injection q with q; subst q; exact fb
            · by_cases e9 : s = i
              · subst e9
                simp [List.getD, hid]; omega
              · have h2 := hdb' s
                have h3 : ¬ i = s := fun q => e9 q.symm
                simpa [List.getD, List.getElem?_set, h3] using h2
            · by_cases e9 : s < j
              · exact hin s hs e9
              · have : s = j := by omega
                subst this
                rw [hk]; omega
          · have hge : ¬ d'[i] ≤ d'[m] := by omega
            have hmx : max d'[i] (d'[m] + 1) = d'[i] := by omega
            have hds : d'.set i d'[i] = d' := by simp
            rw [hmx, hds] at hkl
            refine ⟨by simp [hav], rfl, n.kids.length - (j + 1), _, by omega, Sub.refl _, j + 1, o'.set m true, d', .own b kk e, by omega, rfl, by simp, ?_, ft, fun b' k' e' q => ?_, by simpa using hol', hdl', hdb', fun s hs hsj => ?_, hkl, ⟨f1, f2, f3, f4⟩, f7⟩
            · rw [htk]; simp [List.map_take, kindR, hm, hm0, hmN, kindAt_get]
            · injection q with q; subst q; exact fb
            · by_cases e9 : s < j
              · exact hin s hs e9
              · have : s = j := by omega
                subst this
                rw [hk]; omega
        · have hom' : o'[m]? = some true := by rw [List.getElem?_eq_getElem hmo, hom]
          rw [kid_twice hjl (by rw [hk]; exact hm) hmi (by simp [List.getD, hmo, hom])] at hkl
          have hsp : ∀ x : AV, (List.take m (cnts o') ++ x :: List.drop (m + 1) (cnts o'))[m]? = some x := fun x => by
            rw [List.getElem?_append_right (by simp; omega), List.length_take]
            simp [Nat.min_eq_left (Nat.le_of_lt hmo)]
          have v1 : IntKind.i64.wrap 2 = 2 := by decide
          simp (maxSteps := 10000000) only [AgainAt, hav, List.contains_cons, List.contains_nil, Bool.or_false, Nat.reduceAdd, Nat.reduceBEq, Bool.or_true, Bool.true_or, Bool.false_or, if_true, if_false, Bool.false_eq_true]
          repeat' (first | refine Keep.go (by assumption) ?_ | refine awp_seq_k fun K hK => ?_ | (refine awp_region ?_; try simp [Heap.set_get, -pickV, *]) | refine awp_block ?_ | (refine awp_ret ?_; try simp) | (refine awp_skip ?_; try simp) | (refine awp_exit ?_; try simp) | (refine KeepQ.go (by assumption) ?_; try simp [Heap.set_get, -pickV, *]) | (refine awp_cond' ?_; try simp [Heap.set_get, -pickV, *]) | refine And.intro (by omega) ?_ | refine And.intro (by assumption) ?_ | refine and_lf (by omega) ?_ | refine and_rf ?_ (by omega) | refine and_imps (fun _ => ?_) (fun _ => ?_) | refine arounds_k fun K hK => ?_ | refine Or.inl ⟨by omega, ?_⟩ | refine Or.inr ⟨by omega, ?_⟩ | refine or_split (fun _ => ?_) (fun _ => ?_) | exact Sub.refl _ | refine imp_in fun _ => ?_ | refine and_ri ?_ (fun _ => ?_) | refine and_li (fun _ => ?_) ?_ | (refine And.intro ?_ ?_; focus (intros; simp [*]; done)) | fail)
          first
            | exact hret _ _ 4 rfl hkl.symm rfl rfl (q4.loc hbo0 _)
  · rw [kid_end (by omega)] at hkl
    have htake : n.kids.take j = n.kids := List.take_of_length_le (by omega)
    rw [htake] at hx9
    have hkr : ∀ k ∈ n.kids, -1 ≤ k ∧ k < (i : Int) := fun k hk => by
      obtain ⟨s, hs, rfl⟩ := List.getElem_of_mem hk
      exact hin s hs (by omega)
    simp (maxSteps := 10000000) only [AgainAt, hav, List.contains_cons, List.contains_nil, Bool.or_false, Nat.reduceAdd, Nat.reduceBEq, Bool.or_true, Bool.true_or, Bool.false_or, if_true, if_false, Bool.false_eq_true]
    repeat' (first | refine Keep.go (by assumption) ?_ | refine awp_seq_k fun K hK => ?_ | (refine awp_region ?_; try simp [Heap.set_get, -pickV, *]) | refine awp_block ?_ | (refine awp_ret ?_; try simp) | (refine awp_skip ?_; try simp) | (refine awp_exit ?_; try simp) | (refine KeepQ.go (by assumption) ?_; try simp [Heap.set_get, -pickV, *]) | (refine awp_cond' ?_; try simp [Heap.set_get, -pickV, *]) | refine And.intro (by omega) ?_ | refine And.intro (by assumption) ?_ | refine and_lf (by omega) ?_ | refine and_rf ?_ (by omega) | refine and_imps (fun _ => ?_) (fun _ => ?_) | refine arounds_k fun K hK => ?_ | refine Or.inl ⟨by omega, ?_⟩ | refine Or.inr ⟨by omega, ?_⟩ | refine or_split (fun _ => ?_) (fun _ => ?_) | exact Sub.refl _ | refine imp_in fun _ => ?_ | refine and_ri ?_ (fun _ => ?_) | refine and_li (fun _ => ?_) ?_ | (refine And.intro ?_ ?_; focus (intros; simp [*]; done)) | fail)
    refine exit_hav W1 _ ?_ rfl (fun x hx => hexit x _ o' d' tok hkl.symm hol' hdl' hdb' hkr (by rw [hx]; simp) ⟨q1, q2, q3, q4⟩ q7)
    simp (maxSteps := 10000000) [hav]
end Go.Proofs.YtmnkalojpefclaaDoor
