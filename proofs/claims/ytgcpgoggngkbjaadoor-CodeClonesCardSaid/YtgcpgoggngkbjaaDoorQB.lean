import Derived.Test.YtgcpgoggngkbjaaDoorQ
import Derived.Test.YtgcpgoggngkbjaaDoorO
set_option linter.unusedSimpArgs false
set_option linter.unusedVariables false
namespace Go.Proofs.YtgcpgoggngkbjaaDoor
open Go Go.AL Go.Proofs
theorem rows4_lenB (l : List Stp) : ((l.map stRow).flatten).length = l.length * 4 := by
  induction l with
  | nil => rfl
  | cons a l ih => simp only [List.map_cons, List.flatten_cons, List.length_append, ih, List.length_cons, List.length_nil]; omega
theorem take_rows4 : ∀ (l : List Stp) (z : List AV) (i : Nat) (hi : i < l.length), List.take 4 (List.drop (i * 4) ((l.map stRow).flatten ++ z)) = stRow l[i]
  | s :: l, z, 0, _ => by simp
  | s :: l, z, i + 1, hi => by
    have := take_rows4 l z i (by simpa using hi)
    simp only [List.map_cons, List.flatten_cons, List.append_assoc, List.getElem_cons_succ]
    rw [show (i + 1) * 4 = 4 + i * 4 by omega, ← List.drop_drop]
    exact this
set_option maxRecDepth 100000 in
set_option maxHeartbeats 8000000 in
theorem LinesBTok_c (P : Int → Prop) (H : Heap → Prop) (hI : ItoaOn P H) (hH : ∀ h g, AL.Sub h g → H h → H g) (f : Fn) (hf : f.steps.length ≤ 1048576) (hP : ∀ i : Nat, i < f.steps.length → P i) (hS : ∀ s ∈ f.steps, P s.a ∧ P s.b ∧ P s.c)
    (kb kc : Nat) (hne : f.steps ≠ []) (hkc : f.steps.length ≤ kc) (h : Heap) (sp : List AV) (hkb : h kb = some (.cells ((f.steps.map stRow).flatten ++ sp))) (hg : h 0 = some .gint) (hHh : H h) (R : AV → Heap → Prop) (hR : ∀ tok g, AL.Sub h g → R (.list 1 (strs1 (linesL f)) tok) g) :
    ACalls Tryd.prog 12 [.agg (rowC f kb kc)] h R := by
  have hr0 : rowC f kb kc = [.arr kb 0 f.steps.length kc, .list 3 (f.consts.map vlRow) .no, .int .i64 f.regs, .int .i64 f.params, .int .i64 f.defaults, .list 2 (f.caps.map capRow) .no, .list 4 (f.tries.map trRow) .no, .bool f.yields, .str f.name] := by simp [rowC, hne]
  rw [hr0]
  obtain ⟨CS, hCS⟩ : ∃ CS, (f.steps.map stRow).flatten ++ sp = CS := ⟨_, rfl⟩
  have hCl : f.steps.length * 4 ≤ CS.length := by rw [← hCS, List.length_append, rows4_lenB]; omega
  have hrow4 : ∀ i (hi : i < f.steps.length), List.take 4 (List.drop (i * 4) CS) = stRow f.steps[i] := fun i hi => by
    rw [← hCS]; exact take_rows4 f.steps sp i hi
  rw [hCS] at hkb
  clear hCS
  replace hrow4 := Shut.mk hrow4
  refine acalls_of Tryd.func12 rfl Tryd.ntmps12 (congrArg Array.toList Tryd.results12) fun Q hQ => ?_
  repeat' (first | refine Keep.go (by assumption) ?_ | refine awp_seq_k fun K hK => ?_ | (refine awp_region ?_; try simp [Heap.set_get, *]) | refine awp_block ?_ | (refine awp_ret ?_; try simp) | (refine awp_skip ?_; try simp) | (refine awp_exit ?_; try simp) | (refine KeepQ.go (by assumption) ?_; try simp [Heap.set_get, *]) | (refine awp_cond' ?_; try simp [Heap.set_get, *]) | refine And.intro (by omega) ?_ | refine And.intro (by assumption) ?_ | refine and_lf (by omega) ?_ | refine and_rf ?_ (by omega) | refine and_imps (fun _ => ?_) (fun _ => ?_) | refine arounds_k fun K hK => ?_ | refine Or.inl ⟨by omega, ?_⟩ | refine Or.inr ⟨by omega, ?_⟩ | refine or_split (fun _ => ?_) (fun _ => ?_) | exact Sub.refl _ | refine imp_in fun _ => ?_ | refine and_ri ?_ (fun _ => ?_) | refine and_li (fun _ => ?_) ?_ | (refine And.intro ?_ ?_; focus (intros; simp [*]; done)) | fail)
  intro b1 hb1; simp only [Fresh, Heap.set_none] at hb1; try simp [Heap.set_get, *]
  repeat' (first | refine Keep.go (by assumption) ?_ | refine awp_seq_k fun K hK => ?_ | (refine awp_region ?_; try simp [Heap.set_get, *]) | refine awp_block ?_ | (refine awp_ret ?_; try simp) | (refine awp_skip ?_; try simp) | (refine awp_exit ?_; try simp) | (refine KeepQ.go (by assumption) ?_; try simp [Heap.set_get, *]) | (refine awp_cond' ?_; try simp [Heap.set_get, *]) | refine And.intro (by omega) ?_ | refine And.intro (by assumption) ?_ | refine and_lf (by omega) ?_ | refine and_rf ?_ (by omega) | refine and_imps (fun _ => ?_) (fun _ => ?_) | refine arounds_k fun K hK => ?_ | refine Or.inl ⟨by omega, ?_⟩ | refine Or.inr ⟨by omega, ?_⟩ | refine or_split (fun _ => ?_) (fun _ => ?_) | exact Sub.refl _ | refine imp_in fun _ => ?_ | refine and_ri ?_ (fun _ => ?_) | refine and_li (fun _ => ?_) ?_ | (refine And.intro ?_ ?_; focus (intros; simp [*]; done)) | fail)
  refine awp_loop_h [3, 4, 5, 9, 10, 11, 12, 13, 14, 15, 16, 17, 18, 19, 20, 21, 22, 23, 24, 25, 26, 27, 28, 29, 30, 31, 32, 33, 34, 35, 36, 37, 38, 39] (fun m x g => ∃ (i : Nat) (tok : Tok), i ≤ f.steps.length ∧ m = f.steps.length - i ∧ x 9 = .int .i64 i ∧ x 3 = .list 1 (strs1 (linesFrom 0 (f.steps.take i))) tok ∧ TokIn g tok ∧ (∀ b k e, tok = .own b k e → h b = none) ∧ g b1 = some (.cells [.arr kb 0 f.steps.length kc, .list 3 (f.consts.map vlRow) .no, .int .i64 f.regs, .int .i64 f.params, .int .i64 f.defaults, .list 2 (f.caps.map capRow) .no, .list 4 (f.tries.map trRow) .no, .bool f.yields, .str f.name]) ∧ AL.Sub h g) f.steps.length
    ⟨0, .nil, by omega, by omega, rfl, rfl, trivial, (fun _ _ _ e => by cases e), by simp [Heap.set_get, *], by (repeat (first | exact Sub.refl _ | refine Sub.loc ?_ (by simp [*]) _))⟩ (fun m x g hI2 K hK => ?_)
  obtain ⟨i, tok, hi, rfl, hx9, hx3, htok, htn, g1, gs⟩ := hI2
  have z1 := hb1
  clear hb1
  have w1 : IntKind.i64.wrap ((i : Int) + 1) = i + 1 := w64 (by omega) (by omega)
  by_cases hlt : i < f.steps.length
  · obtain ⟨s, hs⟩ : ∃ s, f.steps[i] = s := ⟨_, rfl⟩
    have hsg : f.steps[i]? = some s := by rw [List.getElem?_eq_getElem hlt, hs]
    obtain ⟨p1, p2, p3⟩ := hS s (hs ▸ List.getElem_mem hlt)
    have p0 := hP i hlt
    have hkg := gs _ _ hkb
    have hrw := hrow4.out i hlt
    rw [hs] at hrw
    have hl4 : i * 4 + 4 ≤ CS.length := by omega
    have htk : linesFrom 0 (f.steps.take (i + 1)) = linesFrom 0 (f.steps.take i) ++ [lineL i s] := by
      rw [List.take_add_one, hsg]
      simp only [Option.toList_some]
      rw [linesFrom_snoc]
      simp [Nat.min_eq_left (Nat.le_of_lt hlt)]
    have hnm : (nameAt s.op).length ≤ 1000 := nameAt_len s.op
    have y0 := hI.1 _ p0
    have y1 := hI.1 _ p1
    have y2 := hI.1 _ p2
    have y3 := hI.1 _ p3
    have hll : (linesFrom 0 (f.steps.take i)).length = i := by rw [linesFrom_length]; simp; omega
    replace hS := Shut.mk hS
    replace hP := Shut.mk hP
    refine awp_eqs (s' := [_, _, _, x 3, x 4, x 5, _, _, _, x 9, x 10, x 11, x 12, x 13, x 14, x 15, x 16, x 17, x 18, x 19, x 20, x 21, x 22, x 23, x 24, x 25, x 26, x 27, x 28, x 29, x 30, x 31, x 32, x 33, x 34, x 35, x 36, x 37, x 38, x 39, _]) rfl ?_
    repeat' (first | refine Keep.go (by assumption) ?_ | refine awp_seq_k fun K hK => ?_ | (refine awp_region ?_; try simp [Heap.set_get, *]) | refine awp_block ?_ | (refine awp_ret ?_; try simp) | (refine awp_skip ?_; try simp) | (refine awp_exit ?_; try simp) | (refine KeepQ.go (by assumption) ?_; try simp [Heap.set_get, *]) | (refine awp_cond' ?_; try simp [Heap.set_get, *]) | refine And.intro (by omega) ?_ | refine And.intro (by assumption) ?_ | refine and_lf (by omega) ?_ | refine and_rf ?_ (by omega) | refine and_imps (fun _ => ?_) (fun _ => ?_) | refine arounds_k fun K hK => ?_ | refine Or.inl ⟨by omega, ?_⟩ | refine Or.inr ⟨by omega, ?_⟩ | refine or_split (fun _ => ?_) (fun _ => ?_) | exact Sub.refl _ | refine imp_in fun _ => ?_ | refine and_ri ?_ (fun _ => ?_) | refine and_li (fun _ => ?_) ?_ | (refine And.intro ?_ ?_; focus (intros; simp [*]; done)) | fail)
    intro b5 hb5; simp only [Fresh, Heap.set_none] at hb5; try simp [Heap.set_get, *]
    have e51 := ne_of_fresh g1 hb5
    have z5 : h b5 = none := by
      cases e : h b5 with
      | none => rfl
      | some x => rw [gs _ _ e] at hb5; cases hb5
    have hsm : AL.Sub h ((g.set b5 (.cells (stRow s))).minus [b1, b5]) := fun c x hc => by
      have n1 : ¬ c = b1 := fun e => by rw [e, z1] at hc; cases hc
      have n5 : ¬ c = b5 := fun e => by rw [e, z5] at hc; cases hc
      simp [n1, n5, Heap.set_get, gs _ _ hc]
    have hHm : H ((g.set b5 (.cells (stRow s))).minus [b1, b5]) := hH h _ hsm hHh
    have hgm : ((g.set b5 (.cells (stRow s))).minus [b1, b5]) 0 = some .gint := hsm _ _ hg
    replace hsm := Shut.mk hsm
    repeat' (first | refine Keep.go (by assumption) ?_ | refine awp_seq_k fun K hK => ?_ | (refine awp_region ?_; try simp [Heap.set_get, *]) | refine awp_block ?_ | (refine awp_ret ?_; try simp) | (refine awp_skip ?_; try simp) | (refine awp_exit ?_; try simp) | (refine KeepQ.go (by assumption) ?_; try simp [Heap.set_get, *]) | (refine awp_cond' ?_; try simp [Heap.set_get, *]) | refine And.intro (by omega) ?_ | refine And.intro (by assumption) ?_ | refine and_lf (by omega) ?_ | refine and_rf ?_ (by omega) | refine and_imps (fun _ => ?_) (fun _ => ?_) | refine arounds_k fun K hK => ?_ | refine Or.inl ⟨by omega, ?_⟩ | refine Or.inr ⟨by omega, ?_⟩ | refine or_split (fun _ => ?_) (fun _ => ?_) | exact Sub.refl _ | refine imp_in fun _ => ?_ | refine and_ri ?_ (fun _ => ?_) | refine and_li (fun _ => ?_) ?_ | (refine And.intro ?_ ?_; focus (intros; simp [*]; done)) | fail)
    refine awp_region_draw [b1, b5] [(0, true), (1, true), (4, true), (5, true), (9, true), (10, true), (14, true), (15, true), (19, true), (20, true), (2, false), (3, true), (6, false), (7, true), (8, true), (11, false), (12, true), (13, true), (16, false), (17, true), (18, true), (21, false), (22, true), (23, false), (24, false)] [25] follows (by kernel_rfl) rfl (by kernel_rfl) ?_; simp [Heap.set_get, Heap.plus_set, *]
    repeat' (first | refine Keep.go (by assumption) ?_ | refine awp_seq_k fun K hK => ?_ | (refine awp_region ?_; try simp [Heap.set_get, *]) | refine awp_block ?_ | (refine awp_ret ?_; try simp) | (refine awp_skip ?_; try simp) | (refine awp_exit ?_; try simp) | (refine KeepQ.go (by assumption) ?_; try simp [Heap.set_get, *]) | (refine awp_cond' ?_; try simp [Heap.set_get, *]) | refine And.intro (by omega) ?_ | refine And.intro (by assumption) ?_ | refine and_lf (by omega) ?_ | refine and_rf ?_ (by omega) | refine and_imps (fun _ => ?_) (fun _ => ?_) | refine arounds_k fun K hK => ?_ | refine Or.inl ⟨by omega, ?_⟩ | refine Or.inr ⟨by omega, ?_⟩ | refine or_split (fun _ => ?_) (fun _ => ?_) | exact Sub.refl _ | refine imp_in fun _ => ?_ | refine and_ri ?_ (fun _ => ?_) | refine and_li (fun _ => ?_) ?_ | (refine And.intro ?_ ?_; focus (intros; simp [*]; done)) | fail)
    refine hI.2 _ _ _ p0 hHm ?_
    simp [Heap.set_get, *]
    repeat' (first | refine Keep.go (by assumption) ?_ | refine awp_seq_k fun K hK => ?_ | (refine awp_region ?_; try simp [Heap.set_get, *]) | refine awp_block ?_ | (refine awp_ret ?_; try simp) | (refine awp_skip ?_; try simp) | (refine awp_exit ?_; try simp) | (refine KeepQ.go (by assumption) ?_; try simp [Heap.set_get, *]) | (refine awp_cond' ?_; try simp [Heap.set_get, *]) | refine And.intro (by omega) ?_ | refine And.intro (by assumption) ?_ | refine and_lf (by omega) ?_ | refine and_rf ?_ (by omega) | refine and_imps (fun _ => ?_) (fun _ => ?_) | refine arounds_k fun K hK => ?_ | refine Or.inl ⟨by omega, ?_⟩ | refine Or.inr ⟨by omega, ?_⟩ | refine or_split (fun _ => ?_) (fun _ => ?_) | exact Sub.refl _ | refine imp_in fun _ => ?_ | refine and_ri ?_ (fun _ => ?_) | refine and_li (fun _ => ?_) ?_ | (refine And.intro ?_ ?_; focus (intros; simp [*]; done)) | fail)
    refine Name_c s.op _ hgm _ ?_
    simp [Heap.set_get, *]
    repeat' (first | refine Keep.go (by assumption) ?_ | refine awp_seq_k fun K hK => ?_ | (refine awp_region ?_; try simp [Heap.set_get, *]) | refine awp_block ?_ | (refine awp_ret ?_; try simp) | (refine awp_skip ?_; try simp) | (refine awp_exit ?_; try simp) | (refine KeepQ.go (by assumption) ?_; try simp [Heap.set_get, *]) | (refine awp_cond' ?_; try simp [Heap.set_get, *]) | refine And.intro (by omega) ?_ | refine And.intro (by assumption) ?_ | refine and_lf (by omega) ?_ | refine and_rf ?_ (by omega) | refine and_imps (fun _ => ?_) (fun _ => ?_) | refine arounds_k fun K hK => ?_ | refine Or.inl ⟨by omega, ?_⟩ | refine Or.inr ⟨by omega, ?_⟩ | refine or_split (fun _ => ?_) (fun _ => ?_) | exact Sub.refl _ | refine imp_in fun _ => ?_ | refine and_ri ?_ (fun _ => ?_) | refine and_li (fun _ => ?_) ?_ | (refine And.intro ?_ ?_; focus (intros; simp [*]; done)) | fail)
    refine hI.2 _ _ _ p1 hHm ?_
    simp [Heap.set_get, *]
    repeat' (first | refine Keep.go (by assumption) ?_ | refine awp_seq_k fun K hK => ?_ | (refine awp_region ?_; try simp [Heap.set_get, *]) | refine awp_block ?_ | (refine awp_ret ?_; try simp) | (refine awp_skip ?_; try simp) | (refine awp_exit ?_; try simp) | (refine KeepQ.go (by assumption) ?_; try simp [Heap.set_get, *]) | (refine awp_cond' ?_; try simp [Heap.set_get, *]) | refine And.intro (by omega) ?_ | refine And.intro (by assumption) ?_ | refine and_lf (by omega) ?_ | refine and_rf ?_ (by omega) | refine and_imps (fun _ => ?_) (fun _ => ?_) | refine arounds_k fun K hK => ?_ | refine Or.inl ⟨by omega, ?_⟩ | refine Or.inr ⟨by omega, ?_⟩ | refine or_split (fun _ => ?_) (fun _ => ?_) | exact Sub.refl _ | refine imp_in fun _ => ?_ | refine and_ri ?_ (fun _ => ?_) | refine and_li (fun _ => ?_) ?_ | (refine And.intro ?_ ?_; focus (intros; simp [*]; done)) | fail)
    refine hI.2 _ _ _ p2 hHm ?_
    simp [Heap.set_get, *]
    repeat' (first | refine Keep.go (by assumption) ?_ | refine awp_seq_k fun K hK => ?_ | (refine awp_region ?_; try simp [Heap.set_get, *]) | refine awp_block ?_ | (refine awp_ret ?_; try simp) | (refine awp_skip ?_; try simp) | (refine awp_exit ?_; try simp) | (refine KeepQ.go (by assumption) ?_; try simp [Heap.set_get, *]) | (refine awp_cond' ?_; try simp [Heap.set_get, *]) | refine And.intro (by omega) ?_ | refine And.intro (by assumption) ?_ | refine and_lf (by omega) ?_ | refine and_rf ?_ (by omega) | refine and_imps (fun _ => ?_) (fun _ => ?_) | refine arounds_k fun K hK => ?_ | refine Or.inl ⟨by omega, ?_⟩ | refine Or.inr ⟨by omega, ?_⟩ | refine or_split (fun _ => ?_) (fun _ => ?_) | exact Sub.refl _ | refine imp_in fun _ => ?_ | refine and_ri ?_ (fun _ => ?_) | refine and_li (fun _ => ?_) ?_ | (refine And.intro ?_ ?_; focus (intros; simp [*]; done)) | fail)
    refine hI.2 _ _ _ p3 hHm ?_
    simp [Heap.set_get, *]
    repeat' (first | refine Keep.go (by assumption) ?_ | refine awp_seq_k fun K hK => ?_ | (refine awp_region ?_; try simp [Heap.set_get, *]) | refine awp_block ?_ | (refine awp_ret ?_; try simp) | (refine awp_skip ?_; try simp) | (refine awp_exit ?_; try simp) | (refine KeepQ.go (by assumption) ?_; try simp [Heap.set_get, *]) | (refine awp_cond' ?_; try simp [Heap.set_get, *]) | refine And.intro (by omega) ?_ | refine And.intro (by assumption) ?_ | refine and_lf (by omega) ?_ | refine and_rf ?_ (by omega) | refine and_imps (fun _ => ?_) (fun _ => ?_) | refine arounds_k fun K hK => ?_ | refine Or.inl ⟨by omega, ?_⟩ | refine Or.inr ⟨by omega, ?_⟩ | refine or_split (fun _ => ?_) (fun _ => ?_) | exact Sub.refl _ | refine imp_in fun _ => ?_ | refine and_ri ?_ (fun _ => ?_) | refine and_li (fun _ => ?_) ?_ | (refine And.intro ?_ ?_; focus (intros; simp [*]; done)) | fail)
    refine .inl ⟨?_, fun b kk e hb => ?_⟩
    · cases tok with
      | own b k e =>
        have h1 : g b = some (.spare k e) := htok
        have h2 : ¬ b = b1 := fun q => by rw [q, g1] at h1; cases h1
        have h3 : ¬ b = b5 := fun q => by rw [q, hb5] at h1; cases h1
        simp [h1, h2, h3]
      | no => exact htok.elim
      | nil => trivial
      | full => trivial
    have htm : TokIn ((g.set b5 (.cells (stRow s))).minus [b1, b5]) tok := by
      cases tok with
      | own b k e =>
        have h1 : g b = some (.spare k e) := htok
        have h2 : ¬ b = b1 := fun q => by rw [q, g1] at h1; cases h1
        have h3 : ¬ b = b5 := fun q => by rw [q, hb5] at h1; cases h1
        simp [h1, h2, h3, Heap.set_get]
      | no => exact htok.elim
      | nil => trivial
      | full => trivial
    have f4 := grow_sub (k := kk) (e := e) hsm.out htn hb
    have ft : TokIn ((tok.rid ((g.set b5 (.cells (stRow s))).minus [b1, b5])).set b (.spare kk e)) (.own b kk e) := by simp [TokIn]
    have fb : h b = none := by
      rcases hb with hb | ⟨k2, e2, hb⟩
      · exact sub_none hsm.out hb
      · exact htn _ _ _ hb
    obtain ⟨H3, hH3⟩ : ∃ H3, (tok.rid ((g.set b5 (.cells (stRow s))).minus [b1, b5])).set b (.spare kk e) = H3 := ⟨_, rfl⟩
    rw [hH3] at f4 ft ⊢
    clear hx9 hx3 htok htn hb htm
    simp only [Cont_apply, Back_apply, svc_nil, List.mem_cons, List.not_mem_nil, or_false, forall_eq_or_imp, forall_eq]
    rintro ⟨c1, c5⟩
    replace c1 := c1 (by simp [Heap.set_get, e51, g1])
    replace c5 := c5 (by simp [Heap.set_get])
    have hs3 : H3 b = some (.spare kk e) := ft
    have m1 : ¬ b = b1 := fun q => by rw [q, c1] at hs3; cases hs3
    have m5 : ¬ b = b5 := fun q => by rw [q, c5] at hs3; cases hs3
    obtain ⟨HF, hHF⟩ : ∃ HF, H3.plus [b1, b5] (g.set b5 (.cells (stRow s))) = HF := ⟨_, rfl⟩
    have k1 : HF b1 = some (.cells [.arr kb 0 f.steps.length kc, .list 3 (f.consts.map vlRow) .no, .int .i64 f.regs, .int .i64 f.params, .int .i64 f.defaults, .list 2 (f.caps.map capRow) .no, .list 4 (f.tries.map trRow) .no, .bool f.yields, .str f.name]) := by rw [← hHF]; simp [Heap.set_get, e51, g1]
    have k2 : HF b = some (.spare kk e) := by rw [← hHF]; simp [m1, m5, hs3]
    have k3 : AL.Sub h HF := fun c x hc => by
      have n1 : ¬ c = b1 := fun e => by rw [e, z1] at hc; cases hc
      have n5 : ¬ c = b5 := fun e => by rw [e, z5] at hc; cases hc
      rw [← hHF]; simp [n1, n5, f4 _ _ hc]
    rw [hHF]
    clear hHF hHm hgm g1 gs hb5 z5 hH3 f4 ft c1 c5 hs3
    simp [Heap.set_get, *]
    repeat' (first | refine Keep.go (by assumption) ?_ | refine awp_seq_k fun K hK => ?_ | (refine awp_region ?_; try simp [Heap.set_get, *]) | refine awp_block ?_ | (refine awp_ret ?_; try simp) | (refine awp_skip ?_; try simp) | (refine awp_exit ?_; try simp) | (refine KeepQ.go (by assumption) ?_; try simp [Heap.set_get, *]) | (refine awp_cond' ?_; try simp [Heap.set_get, *]) | refine And.intro (by omega) ?_ | refine And.intro (by assumption) ?_ | refine and_lf (by omega) ?_ | refine and_rf ?_ (by omega) | refine and_imps (fun _ => ?_) (fun _ => ?_) | refine arounds_k fun K hK => ?_ | refine Or.inl ⟨by omega, ?_⟩ | refine Or.inr ⟨by omega, ?_⟩ | refine or_split (fun _ => ?_) (fun _ => ?_) | exact Sub.refl _ | refine imp_in fun _ => ?_ | refine and_ri ?_ (fun _ => ?_) | refine and_li (fun _ => ?_) ?_ | (refine And.intro ?_ ?_; focus (intros; simp [*]; done)) | fail)
    refine ⟨by kernel_rfl, rfl, f.steps.length - (i + 1), HF, by omega, Sub.refl _, i + 1, .own b kk e, by omega, rfl, rfl, ?_, k2, fun b' k' e' q => ?_, k1, k3⟩
    · rw [htk]; simp [lineL]
    · injection q with q; subst q; exact fb
  · refine awp_eqs (s' := [_, _, _, x 3, x 4, x 5, _, _, _, x 9, x 10, x 11, x 12, x 13, x 14, x 15, x 16, x 17, x 18, x 19, x 20, x 21, x 22, x 23, x 24, x 25, x 26, x 27, x 28, x 29, x 30, x 31, x 32, x 33, x 34, x 35, x 36, x 37, x 38, x 39, _]) rfl ?_
    repeat' (first | refine Keep.go (by assumption) ?_ | refine awp_seq_k fun K hK => ?_ | (refine awp_region ?_; try simp [Heap.set_get, *]) | refine awp_block ?_ | (refine awp_ret ?_; try simp) | (refine awp_skip ?_; try simp) | (refine awp_exit ?_; try simp) | (refine KeepQ.go (by assumption) ?_; try simp [Heap.set_get, *]) | (refine awp_cond' ?_; try simp [Heap.set_get, *]) | refine And.intro (by omega) ?_ | refine And.intro (by assumption) ?_ | refine and_lf (by omega) ?_ | refine and_rf ?_ (by omega) | refine and_imps (fun _ => ?_) (fun _ => ?_) | refine arounds_k fun K hK => ?_ | refine Or.inl ⟨by omega, ?_⟩ | refine Or.inr ⟨by omega, ?_⟩ | refine or_split (fun _ => ?_) (fun _ => ?_) | exact Sub.refl _ | refine imp_in fun _ => ?_ | refine and_ri ?_ (fun _ => ?_) | refine and_li (fun _ => ?_) ?_ | (refine And.intro ?_ ?_; focus (intros; simp [*]; done)) | fail)
    have hie : i = f.steps.length := by omega
    subst hie
    rw [List.take_length]
    exact hR _ _ gs
theorem LinesB_c (P : Int → Prop) (H : Heap → Prop) (hI : ItoaOn P H) (hH : ∀ h g, AL.Sub h g → H h → H g) (f : Fn) (hf : f.steps.length ≤ 1048576) (hP : ∀ i : Nat, i < f.steps.length → P i) (hS : ∀ s ∈ f.steps, P s.a ∧ P s.b ∧ P s.c)
    (kb kc : Nat) (h : Heap) (hk : f.steps ≠ [] → f.steps.length ≤ kc ∧ ∃ sp, h kb = some (.cells ((f.steps.map stRow).flatten ++ sp))) (hg : h 0 = some .gint) (hHh : H h) (R : AV → Heap → Prop) (hR : R (.list 1 (strs1 (linesL f)) .no) h) :
    ACalls Tryd.prog 12 [.agg (rowC f kb kc)] h R := by
  by_cases hne : f.steps = []
  · have e : rowC f kb kc = fnRow f := by simp [rowC, hne]
    rw [e]
    refine ACalls.conv (LinesTok_c P H hI hH f hf hP hS h hg hHh (fun x g => ∃ tok, x = .list 1 (strs1 (linesL f)) tok ∧ AL.Sub h g) (fun tok g hg => ⟨tok, rfl, hg⟩)) ?_
    rintro x g ⟨tok, rfl, hg⟩
    exact ⟨_, _, View.of (Weak.tok _ _ tok) hg, hR⟩
  · obtain ⟨hkc, sp, hkb⟩ := hk hne
    refine ACalls.conv (LinesBTok_c P H hI hH f hf hP hS kb kc hne hkc h sp hkb hg hHh (fun x g => ∃ tok, x = .list 1 (strs1 (linesL f)) tok ∧ AL.Sub h g) (fun tok g hg => ⟨tok, rfl, hg⟩)) ?_
    rintro x g ⟨tok, rfl, hg⟩
    exact ⟨_, _, View.of (Weak.tok _ _ tok) hg, hR⟩
end Go.Proofs.YtgcpgoggngkbjaaDoor
