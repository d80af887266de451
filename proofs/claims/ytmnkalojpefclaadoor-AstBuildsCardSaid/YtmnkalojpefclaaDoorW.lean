import Derived.Test.YtmnkalojpefclaaDoorV
set_option linter.unusedSimpArgs false
set_option linter.unusedVariables false
namespace Go.Proofs.YtmnkalojpefclaaDoor
open Go Go.AL Go.Proofs
/-- Do two nodes of two trees say the same? 'f': how deep it is looked at most. -/
def sameF (a b : List Nd) : Nat → Int → Int → Bool
  | 0, i, k => decide (i = k)
  | f + 1, i, k =>
    if i < 0 ∨ k < 0 then decide (i = k)
    else match a[i.toNat]?, b[k.toNat]? with
      | some x, some y => decide (x.kind = y.kind) && decide (x.text = y.text) && decide (x.num = y.num) && decide (x.kids.length = y.kids.length) && (List.zip x.kids y.kids).all fun p => sameF a b f p.1 p.2
      | _, _ => false
/-- Each node's kids stand ahead of it. -/
def Down (nodes : List Nd) : Prop := ∀ i (hi : i < nodes.length), ∀ k ∈ nodes[i].kids, k < (i : Int)
theorem awp_at4 {P : Program} {c : Code} {Q : APostT} {α : AAct} {H0 h : Heap} {b1 b2 b3 b4 : Nat} {x1 x2 x3 x4 : Blk} (e1 : H0 b1 = some x1) (e2 : H0 b2 = some x2) (e3 : H0 b3 = some x3) (e4 : H0 b4 = some x4) (hs : AL.Sub h H0)
    (k : ∀ H, H b1 = some x1 → H b2 = some x2 → H b3 = some x3 → H b4 = some x4 → AL.Sub h H → awp P c Q α H) : awp P c Q α H0 := k H0 e1 e2 e3 e4 hs
set_option maxRecDepth 100000 in
set_option maxHeartbeats 4000000 in
theorem same_c (a b : List Nd) (ha : Down a) (hla : a.length ≤ 131072) (hlb : b.length ≤ 131072) (hka : ∀ n ∈ a, n.kids.length ≤ 281474976710656) (hkb : ∀ n ∈ b, ∀ k ∈ n.kids, k < b.length) (t u : Tok) : ∀ (f : Nat) (i k : Int), i < f → i < a.length → k < b.length → ∀ (h : Heap) (R : AV → Heap → Prop),
    R (.bool (sameF a b f i k)) h → ACalls Tryd.prog 37 [treeAV a t, treeAV b u, .int .i64 i, .int .i64 k] h R := by
  intro f
  induction f with
  | zero =>
    intro i k hi hia hkb' h R hR
    refine ACalls.pure ?_ hR
    clear hR
    have hi0 : i < 0 := by omega
    refine acalls_of Tryd.func37 rfl Tryd.ntmps37 (congrArg Array.toList Tryd.results37) fun Q hQ => ?_
    repeat' (first | refine Keep.go (by assumption) ?_ | refine awp_seq_k fun K hK => ?_ | (refine awp_region ?_; try simp [Heap.set_get, *]) | refine awp_block ?_ | (refine awp_ret ?_; try simp) | (refine awp_skip ?_; try simp) | (refine awp_exit ?_; try simp) | (refine KeepQ.go (by assumption) ?_; try simp [Heap.set_get, *]) | (refine awp_cond' ?_; try simp [Heap.set_get, *]) | refine And.intro (by omega) ?_ | refine And.intro (by assumption) ?_ | refine and_lf (by omega) ?_ | refine and_rf ?_ (by omega) | refine and_imps (fun _ => ?_) (fun _ => ?_) | refine arounds_k fun K hK => ?_ | refine Or.inl ⟨by omega, ?_⟩ | refine Or.inr ⟨by omega, ?_⟩ | refine or_split (fun _ => ?_) (fun _ => ?_) | exact Sub.refl _ | refine imp_in fun _ => ?_ | refine and_ri ?_ (fun _ => ?_) | refine and_li (fun _ => ?_) ?_ | (refine And.intro ?_ ?_; focus (intros; simp [*]; done)) | fail)
    intro b1 hb1; simp only [Fresh, Heap.set_none] at hb1; try simp [Heap.set_get, *]
    intro b2 hb2; simp only [Fresh, Heap.set_none] at hb2; try simp [Heap.set_get, *]
    repeat' (first | refine Keep.go (by assumption) ?_ | refine awp_seq_k fun K hK => ?_ | (refine awp_region ?_; try simp [Heap.set_get, *]) | refine awp_block ?_ | (refine awp_ret ?_; try simp) | (refine awp_skip ?_; try simp) | (refine awp_exit ?_; try simp) | (refine KeepQ.go (by assumption) ?_; try simp [Heap.set_get, *]) | (refine awp_cond' ?_; try simp [Heap.set_get, *]) | refine And.intro (by omega) ?_ | refine And.intro (by assumption) ?_ | refine and_lf (by omega) ?_ | refine and_rf ?_ (by omega) | refine and_imps (fun _ => ?_) (fun _ => ?_) | refine arounds_k fun K hK => ?_ | refine Or.inl ⟨by omega, ?_⟩ | refine Or.inr ⟨by omega, ?_⟩ | refine or_split (fun _ => ?_) (fun _ => ?_) | exact Sub.refl _ | refine imp_in fun _ => ?_ | refine and_ri ?_ (fun _ => ?_) | refine and_li (fun _ => ?_) ?_ | (refine And.intro ?_ ?_; focus (intros; simp [*]; done)) | fail)
    all_goals exact ⟨by simp [sameF], ((Sub.refl h).loc hb1 _).loc (by simp [*]) _⟩
  | succ f ih =>
    intro i k hi hia hkl h R hR
    refine ACalls.pure ?_ hR
    clear hR
    by_cases h0 : i < 0 ∨ k < 0
    · refine acalls_of Tryd.func37 rfl Tryd.ntmps37 (congrArg Array.toList Tryd.results37) fun Q hQ => ?_
      repeat' (first | refine Keep.go (by assumption) ?_ | refine awp_seq_k fun K hK => ?_ | (refine awp_region ?_; try simp [Heap.set_get, *]) | refine awp_block ?_ | (refine awp_ret ?_; try simp) | (refine awp_skip ?_; try simp) | (refine awp_exit ?_; try simp) | (refine KeepQ.go (by assumption) ?_; try simp [Heap.set_get, *]) | (refine awp_cond' ?_; try simp [Heap.set_get, *]) | refine And.intro (by omega) ?_ | refine And.intro (by assumption) ?_ | refine and_lf (by omega) ?_ | refine and_rf ?_ (by omega) | refine and_imps (fun _ => ?_) (fun _ => ?_) | refine arounds_k fun K hK => ?_ | refine Or.inl ⟨by omega, ?_⟩ | refine Or.inr ⟨by omega, ?_⟩ | refine or_split (fun _ => ?_) (fun _ => ?_) | exact Sub.refl _ | refine imp_in fun _ => ?_ | refine and_ri ?_ (fun _ => ?_) | refine and_li (fun _ => ?_) ?_ | (refine And.intro ?_ ?_; focus (intros; simp [*]; done)) | fail)
      intro b1 hb1; simp only [Fresh, Heap.set_none] at hb1; try simp [Heap.set_get, *]
      intro b2 hb2; simp only [Fresh, Heap.set_none] at hb2; try simp [Heap.set_get, *]
      repeat' (first | refine Keep.go (by assumption) ?_ | refine awp_seq_k fun K hK => ?_ | (refine awp_region ?_; try simp [Heap.set_get, *]) | refine awp_block ?_ | (refine awp_ret ?_; try simp) | (refine awp_skip ?_; try simp) | (refine awp_exit ?_; try simp) | (refine KeepQ.go (by assumption) ?_; try simp [Heap.set_get, *]) | (refine awp_cond' ?_; try simp [Heap.set_get, *]) | refine And.intro (by omega) ?_ | refine And.intro (by assumption) ?_ | refine and_lf (by omega) ?_ | refine and_rf ?_ (by omega) | refine and_imps (fun _ => ?_) (fun _ => ?_) | refine arounds_k fun K hK => ?_ | refine Or.inl ⟨by omega, ?_⟩ | refine Or.inr ⟨by omega, ?_⟩ | refine or_split (fun _ => ?_) (fun _ => ?_) | exact Sub.refl _ | refine imp_in fun _ => ?_ | refine and_ri ?_ (fun _ => ?_) | refine and_li (fun _ => ?_) ?_ | (refine And.intro ?_ ?_; focus (intros; simp [*]; done)) | fail)
      · exact ⟨by simp [sameF, h0], ((Sub.refl h).loc hb1 _).loc (by simp [*]) _⟩
      · exfalso; omega
    obtain ⟨i, rfl⟩ := Int.eq_ofNat_of_zero_le (a := i) (by omega)
    obtain ⟨k, rfl⟩ := Int.eq_ofNat_of_zero_le (a := k) (by omega)
    have hia' : i < a.length := by omega
    have hkb' : k < b.length := by omega
    have hi0 : ¬ (i : Int) < 0 := by omega
    have hk0 : ¬ (k : Int) < 0 := by omega
    obtain ⟨x, hx⟩ : ∃ x, a[i] = x := ⟨_, rfl⟩
    obtain ⟨y, hy⟩ : ∃ y, b[k] = y := ⟨_, rfl⟩
    have hsame : sameF a b (f + 1) i k = (decide (x.kind = y.kind) && decide (x.text = y.text) && decide (x.num = y.num) && decide (x.kids.length = y.kids.length) && (List.zip x.kids y.kids).all fun p => sameF a b f p.1 p.2) := by
      simp only [sameF, h0, if_false, Int.toNat_natCast, List.getElem?_eq_getElem hia', List.getElem?_eq_getElem hkb', hx, hy]
    have hxd : ∀ q ∈ x.kids, q < (i : Int) := fun q hq => ha i hia' q (by rw [hx]; exact hq)
    have hxl := hka x (hx ▸ List.getElem_mem hia')
    have hyd := hkb y (hy ▸ List.getElem_mem hkb')
    refine acalls_of Tryd.func37 rfl Tryd.ntmps37 (congrArg Array.toList Tryd.results37) fun Q hQ => ?_
    repeat' (first | refine Keep.go (by assumption) ?_ | refine awp_seq_k fun K hK => ?_ | (refine awp_region ?_; try simp [Heap.set_get, *]) | refine awp_block ?_ | (refine awp_ret ?_; try simp) | (refine awp_skip ?_; try simp) | (refine awp_exit ?_; try simp) | (refine KeepQ.go (by assumption) ?_; try simp [Heap.set_get, *]) | (refine awp_cond' ?_; try simp [Heap.set_get, *]) | refine And.intro (by omega) ?_ | refine And.intro (by assumption) ?_ | refine and_lf (by omega) ?_ | refine and_rf ?_ (by omega) | refine and_imps (fun _ => ?_) (fun _ => ?_) | refine arounds_k fun K hK => ?_ | refine Or.inl ⟨by omega, ?_⟩ | refine Or.inr ⟨by omega, ?_⟩ | refine or_split (fun _ => ?_) (fun _ => ?_) | exact Sub.refl _ | refine imp_in fun _ => ?_ | refine and_ri ?_ (fun _ => ?_) | refine and_li (fun _ => ?_) ?_ | (refine And.intro ?_ ?_; focus (intros; simp [*]; done)) | fail)
    intro b1 hb1; simp only [Fresh, Heap.set_none] at hb1; try simp [Heap.set_get, *]
    intro b2 hb2; simp only [Fresh, Heap.set_none] at hb2; try simp [Heap.set_get, *]
    repeat' (first | refine Keep.go (by assumption) ?_ | refine awp_seq_k fun K hK => ?_ | (refine awp_region ?_; try simp [Heap.set_get, *]) | refine awp_block ?_ | (refine awp_ret ?_; try simp) | (refine awp_skip ?_; try simp) | (refine awp_exit ?_; try simp) | (refine KeepQ.go (by assumption) ?_; try simp [Heap.set_get, *]) | (refine awp_cond' ?_; try simp [Heap.set_get, *]) | refine And.intro (by omega) ?_ | refine And.intro (by assumption) ?_ | refine and_lf (by omega) ?_ | refine and_rf ?_ (by omega) | refine and_imps (fun _ => ?_) (fun _ => ?_) | refine arounds_k fun K hK => ?_ | refine Or.inl ⟨by omega, ?_⟩ | refine Or.inr ⟨by omega, ?_⟩ | refine or_split (fun _ => ?_) (fun _ => ?_) | exact Sub.refl _ | refine imp_in fun _ => ?_ | refine and_ri ?_ (fun _ => ?_) | refine and_li (fun _ => ?_) ?_ | (refine And.intro ?_ ?_; focus (intros; simp [*]; done)) | fail)
    refine awp_region_pair [b1, b2] [(0, true), (1, true), (2, true), (3, true), (4, true), (5, true), (6, true), (7, true), (8, true), (9, true)] 10 11 [(12, false)] [13] follows (by kernel_rfl) rfl (by kernel_rfl) ?_
    simp [Heap.set_get, Heap.plus_set, *]
    refine ⟨?A, ?B⟩
    case' A =>
      intro b9 hbb9
      simp only [Fresh] at hbb9
      simp [Heap.set_get, Heap.plus_set, *]
      intro n1 n2
      have m1 : ¬ b9 = b1 := fun e => n1 e.symm
      have m2 : ¬ b9 = b2 := fun e => n2 e.symm
      have fb9 : h b9 = none := by simpa [Heap.set_get, m1, m2, n1, n2] using hbb9
      clear hbb9
      intro b10 hbb10
      simp only [Fresh] at hbb10
      simp [Heap.set_get, Heap.plus_set, *]
      intro k1 k2
      have l1 : ¬ b10 = b1 := fun e => k1 e.symm
      have l2 : ¬ b10 = b2 := fun e => k2 e.symm
      have f10 : ¬ b10 = b9 ∧ h b10 = none := by
        by_cases e : b10 = b9
        · subst e; simp [Heap.set_get, m1, m2] at hbb10
        · refine ⟨e, ?_⟩
          simpa [Heap.set_get, l1, l2, k1, k2, e] using hbb10
      clear hbb10
      obtain ⟨m3, fb10⟩ := f10
      have m4 : ¬ b9 = b10 := fun e => m3 e.symm
      simp [*]
      refine Keep.go (by assumption) ?_
      refine awp_at4 (h := h) (b1 := b1) (b2 := b2) (b3 := b9) (b4 := b10) (x1 := .cells [AV.list 5 (List.map row a) t]) (x2 := .cells [AV.list 5 (List.map row b) u]) (x3 := .cells (row x)) (x4 := .cells (row y)) (by simp [Heap.set_get, *]) (by simp [Heap.set_get, *]) (by simp [Heap.set_get, *]) (by simp [Heap.set_get, *]) (fun c z hz => by
        have q1 : ¬ c = b1 := fun e => by rw [e, hb1] at hz; cases hz
        have q2 : ¬ c = b2 := fun e => by rw [e, hb2.2.2] at hz; cases hz
        have q9 : ¬ c = b9 := fun e => by rw [e, fb9] at hz; cases hz
        have q10 : ¬ c = b10 := fun e => by rw [e, fb10] at hz; cases hz
        simp [Heap.set_get, q1, q2, q9, q10, hz]) (fun H e1 e2 e3 e4 hs => ?_)
      clear m1 m2 n1 n2 l1 l2 k1 k2 m3 m4 fb9 fb10 hb1 hb2
    case' B =>
      intro b10 hbb10
      simp only [Fresh] at hbb10
      simp [Heap.set_get, Heap.plus_set, *]
      intro n1 n2
      have m1 : ¬ b10 = b1 := fun e => n1 e.symm
      have m2 : ¬ b10 = b2 := fun e => n2 e.symm
      have fb10 : h b10 = none := by simpa [Heap.set_get, m1, m2, n1, n2] using hbb10
      clear hbb10
      intro b9 hbb9
      simp only [Fresh] at hbb9
      simp [Heap.set_get, Heap.plus_set, *]
      intro k1 k2
      have l1 : ¬ b9 = b1 := fun e => k1 e.symm
      have l2 : ¬ b9 = b2 := fun e => k2 e.symm
      have f10 : ¬ b9 = b10 ∧ h b9 = none := by
        by_cases e : b9 = b10
        · subst e; simp [Heap.set_get, m1, m2] at hbb9
        · refine ⟨e, ?_⟩
          simpa [Heap.set_get, l1, l2, k1, k2, e] using hbb9
      clear hbb9
      obtain ⟨m3, fb9⟩ := f10
      have m4 : ¬ b10 = b9 := fun e => m3 e.symm
      simp [*]
      refine Keep.go (by assumption) ?_
      refine awp_at4 (h := h) (b1 := b1) (b2 := b2) (b3 := b9) (b4 := b10) (x1 := .cells [AV.list 5 (List.map row a) t]) (x2 := .cells [AV.list 5 (List.map row b) u]) (x3 := .cells (row x)) (x4 := .cells (row y)) (by simp [Heap.set_get, *]) (by simp [Heap.set_get, *]) (by simp [Heap.set_get, *]) (by simp [Heap.set_get, *]) (fun c z hz => by
        have q1 : ¬ c = b1 := fun e => by rw [e, hb1] at hz; cases hz
        have q2 : ¬ c = b2 := fun e => by rw [e, hb2.2.2] at hz; cases hz
        have q9 : ¬ c = b10 := fun e => by rw [e, fb10] at hz; cases hz
        have q10 : ¬ c = b9 := fun e => by rw [e, fb9] at hz; cases hz
        simp [Heap.set_get, q1, q2, q9, q10, hz]) (fun H e1 e2 e3 e4 hs => ?_)
      clear m1 m2 n1 n2 l1 l2 k1 k2 m3 m4 fb10 fb9 hb1 hb2
    all_goals
      by_cases hsm : x.kind = y.kind ∧ x.text = y.text ∧ x.num = y.num ∧ x.kids.length = y.kids.length
      rotate_left
      · have hf : sameF a b (f + 1) i k = false := by
          rw [hsame]
          simp only [Bool.and_eq_false_iff, decide_eq_false_iff_not]
          by_cases c1 : x.kind = y.kind
          · by_cases c2 : x.text = y.text
            · by_cases c3 : x.num = y.num
              · by_cases c4 : x.kids.length = y.kids.length
                · exact absurd ⟨c1, c2, c3, c4⟩ hsm
                · exact .inl (.inr c4)
              · exact .inl (.inl (.inr c3))
            · exact .inl (.inl (.inl (.inr c2)))
          · exact .inl (.inl (.inl (.inl c1)))
        clear hsame
        repeat' (first | refine Keep.go (by assumption) ?_ | refine awp_seq_k fun K hK => ?_ | (refine awp_region ?_; try simp [Heap.set_get, *]) | refine awp_block ?_ | (refine awp_ret ?_; try simp) | (refine awp_skip ?_; try simp) | (refine awp_exit ?_; try simp) | (refine KeepQ.go (by assumption) ?_; try simp [Heap.set_get, *]) | (refine awp_cond' ?_; try simp [Heap.set_get, *]) | refine And.intro (by omega) ?_ | refine And.intro (by assumption) ?_ | refine and_lf (by omega) ?_ | refine and_rf ?_ (by omega) | refine and_imps (fun _ => ?_) (fun _ => ?_) | refine arounds_k fun K hK => ?_ | refine Or.inl ⟨by omega, ?_⟩ | refine Or.inr ⟨by omega, ?_⟩ | refine or_split (fun _ => ?_) (fun _ => ?_) | exact Sub.refl _ | refine imp_in fun _ => ?_ | refine and_ri ?_ (fun _ => ?_) | refine and_li (fun _ => ?_) ?_ | (refine And.intro ?_ ?_; focus (intros; simp [*]; done)) | fail)
        all_goals first
          | exact ⟨hf.symm, hs⟩
          | exact absurd ⟨by assumption, by assumption, by assumption, by omega⟩ hsm
          | trace_state
      obtain ⟨c1, c2, c3, c4⟩ := hsm
      have hall : sameF a b (f + 1) i k = (List.zip x.kids y.kids).all fun p => sameF a b f p.1 p.2 := by rw [hsame]; simp [c1, c2, c3, c4]
      clear hsame
      repeat' (first | refine Keep.go (by assumption) ?_ | refine awp_seq_k fun K hK => ?_ | (refine awp_region ?_; try simp [Heap.set_get, *]) | refine awp_block ?_ | (refine awp_ret ?_; try simp) | (refine awp_skip ?_; try simp) | (refine awp_exit ?_; try simp) | (refine KeepQ.go (by assumption) ?_; try simp [Heap.set_get, *]) | (refine awp_cond' ?_; try simp [Heap.set_get, *]) | refine And.intro (by omega) ?_ | refine And.intro (by assumption) ?_ | refine and_lf (by omega) ?_ | refine and_rf ?_ (by omega) | refine and_imps (fun _ => ?_) (fun _ => ?_) | refine arounds_k fun K hK => ?_ | refine Or.inl ⟨by omega, ?_⟩ | refine Or.inr ⟨by omega, ?_⟩ | refine or_split (fun _ => ?_) (fun _ => ?_) | exact Sub.refl _ | refine imp_in fun _ => ?_ | refine and_ri ?_ (fun _ => ?_) | refine and_li (fun _ => ?_) ?_ | (refine And.intro ?_ ?_; focus (intros; simp [*]; done)) | fail)
      refine awp_loop_h [8, 11, 62, 63, 64, 65, 66, 67, 68, 69, 70, 71, 72, 73, 74, 75, 76, 77, 78, 79] (fun m z g => ∃ j : Nat, j ≤ x.kids.length ∧ m = x.kids.length - j ∧ z 62 = .int .i64 j ∧ (∀ s (h1 : s < x.kids.length) (h2 : s < y.kids.length), s < j → sameF a b f x.kids[s] y.kids[s] = true) ∧ g = H) x.kids.length ⟨0, by omega, by omega, rfl, by simp, rfl⟩ (fun m z g hI K hK => ?_)
      obtain ⟨j, hj, rfl, hx, hn, rfl⟩ := hI
      have w1 : IntKind.i64.wrap ((j : Int) + 1) = j + 1 := w64 (by omega) (by omega)
      by_cases hjl : j < x.kids.length
      · have hjy : j < y.kids.length := by omega
        have r1 := hxd _ (List.getElem_mem hjl)
        have r2 := hyd _ (List.getElem_mem hjy)
        cases hv : sameF a b f x.kids[j] y.kids[j]
        · have hf : sameF a b (f + 1) i k = false := by
            rw [hall, List.all_eq_false]
            exact ⟨(x.kids[j], y.kids[j]), List.mem_iff_getElem.2 ⟨j, by simp; omega, by simp⟩, by simp [hv]⟩
          clear hall
          simp (maxSteps := 10000000) only [AgainAt, hav, List.contains_cons, List.contains_nil, Bool.or_false, Nat.reduceAdd, Nat.reduceBEq, Bool.or_true, Bool.true_or, Bool.false_or, if_true, if_false, Bool.false_eq_true]
          repeat' (first | refine Keep.go (by assumption) ?_ | refine awp_seq_k fun K hK => ?_ | (refine awp_region ?_; try simp [Heap.set_get, *]) | refine awp_block ?_ | (refine awp_ret ?_; try simp) | (refine awp_skip ?_; try simp) | (refine awp_exit ?_; try simp) | (refine KeepQ.go (by assumption) ?_; try simp [Heap.set_get, *]) | (refine awp_cond' ?_; try simp [Heap.set_get, *]) | refine And.intro (by omega) ?_ | refine And.intro (by assumption) ?_ | refine and_lf (by omega) ?_ | refine and_rf ?_ (by omega) | refine and_imps (fun _ => ?_) (fun _ => ?_) | refine arounds_k fun K hK => ?_ | refine Or.inl ⟨by omega, ?_⟩ | refine Or.inr ⟨by omega, ?_⟩ | refine or_split (fun _ => ?_) (fun _ => ?_) | exact Sub.refl _ | refine imp_in fun _ => ?_ | refine and_ri ?_ (fun _ => ?_) | refine and_li (fun _ => ?_) ?_ | (refine And.intro ?_ ?_; focus (intros; simp [*]; done)) | fail)
          refine awp_region_draw [b1, b2, b9, b10] [(0, true), (1, true), (2, true), (3, true), (4, true), (5, true), (6, true), (7, true), (8, true), (9, true), (10, true), (11, true), (12, false), (13, true)] [] follows (by kernel_rfl) rfl (by kernel_rfl) ?_; simp [Heap.set_get, Heap.plus_set, *]
          refine ih x.kids[j] y.kids[j] (by omega) (by omega) (by omega) _ _ ?_
          simp [Heap.set_get, Heap.plus_set, *]
          repeat' (first | refine Keep.go (by assumption) ?_ | refine awp_seq_k fun K hK => ?_ | (refine awp_region ?_; try simp [Heap.set_get, *]) | refine awp_block ?_ | (refine awp_ret ?_; try simp) | (refine awp_skip ?_; try simp) | (refine awp_exit ?_; try simp) | (refine KeepQ.go (by assumption) ?_; try simp [Heap.set_get, *]) | (refine awp_cond' ?_; try simp [Heap.set_get, *]) | refine And.intro (by omega) ?_ | refine And.intro (by assumption) ?_ | refine and_lf (by omega) ?_ | refine and_rf ?_ (by omega) | refine and_imps (fun _ => ?_) (fun _ => ?_) | refine arounds_k fun K hK => ?_ | refine Or.inl ⟨by omega, ?_⟩ | refine Or.inr ⟨by omega, ?_⟩ | refine or_split (fun _ => ?_) (fun _ => ?_) | exact Sub.refl _ | refine imp_in fun _ => ?_ | refine and_ri ?_ (fun _ => ?_) | refine and_li (fun _ => ?_) ?_ | (refine And.intro ?_ ?_; focus (intros; simp [*]; done)) | fail)
          all_goals first
            | exact ⟨hf.symm, hs⟩
            | trace_state
        · simp (maxSteps := 10000000) only [AgainAt, hav, List.contains_cons, List.contains_nil, Bool.or_false, Nat.reduceAdd, Nat.reduceBEq, Bool.or_true, Bool.true_or, Bool.false_or, if_true, if_false, Bool.false_eq_true]
          repeat' (first | refine Keep.go (by assumption) ?_ | refine awp_seq_k fun K hK => ?_ | (refine awp_region ?_; try simp [Heap.set_get, *]) | refine awp_block ?_ | (refine awp_ret ?_; try simp) | (refine awp_skip ?_; try simp) | (refine awp_exit ?_; try simp) | (refine KeepQ.go (by assumption) ?_; try simp [Heap.set_get, *]) | (refine awp_cond' ?_; try simp [Heap.set_get, *]) | refine And.intro (by omega) ?_ | refine And.intro (by assumption) ?_ | refine and_lf (by omega) ?_ | refine and_rf ?_ (by omega) | refine and_imps (fun _ => ?_) (fun _ => ?_) | refine arounds_k fun K hK => ?_ | refine Or.inl ⟨by omega, ?_⟩ | refine Or.inr ⟨by omega, ?_⟩ | refine or_split (fun _ => ?_) (fun _ => ?_) | exact Sub.refl _ | refine imp_in fun _ => ?_ | refine and_ri ?_ (fun _ => ?_) | refine and_li (fun _ => ?_) ?_ | (refine And.intro ?_ ?_; focus (intros; simp [*]; done)) | fail)
          refine awp_region_draw [b1, b2, b9, b10] [(0, true), (1, true), (2, true), (3, true), (4, true), (5, true), (6, true), (7, true), (8, true), (9, true), (10, true), (11, true), (12, false), (13, true)] [] follows (by kernel_rfl) rfl (by kernel_rfl) ?_; simp [Heap.set_get, Heap.plus_set, *]
          refine ih x.kids[j] y.kids[j] (by omega) (by omega) (by omega) _ _ ?_
          simp [Heap.set_get, Heap.plus_set, *]
          repeat' (first | refine Keep.go (by assumption) ?_ | refine awp_seq_k fun K hK => ?_ | (refine awp_region ?_; try simp [Heap.set_get, *]) | refine awp_block ?_ | (refine awp_ret ?_; try simp) | (refine awp_skip ?_; try simp) | (refine awp_exit ?_; try simp) | (refine KeepQ.go (by assumption) ?_; try simp [Heap.set_get, *]) | (refine awp_cond' ?_; try simp [Heap.set_get, *]) | refine And.intro (by omega) ?_ | refine And.intro (by assumption) ?_ | refine and_lf (by omega) ?_ | refine and_rf ?_ (by omega) | refine and_imps (fun _ => ?_) (fun _ => ?_) | refine arounds_k fun K hK => ?_ | refine Or.inl ⟨by omega, ?_⟩ | refine Or.inr ⟨by omega, ?_⟩ | refine or_split (fun _ => ?_) (fun _ => ?_) | exact Sub.refl _ | refine imp_in fun _ => ?_ | refine and_ri ?_ (fun _ => ?_) | refine and_li (fun _ => ?_) ?_ | (refine And.intro ?_ ?_; focus (intros; simp [*]; done)) | fail)
          all_goals first
            | exact ⟨by simp [hav], rfl, x.kids.length - (j + 1), _, by omega, Sub.refl _, j + 1, by omega, rfl, by simp, fun s h1 h2 hsj => by
                by_cases e : s < j
                · exact hn s h1 h2 e
                · have : s = j := by omega
                  subst this; exact hv, rfl⟩
            | trace_state
      · have hf : sameF a b (f + 1) i k = true := by
          rw [hall, List.all_eq_true]
          intro p hp
          obtain ⟨s, hs1, rfl⟩ := List.getElem_of_mem hp
          have h1 : s < x.kids.length := by simp at hs1; omega
          have h2 : s < y.kids.length := by omega
          simpa using hn s h1 h2 (by omega)
        have hge : ¬ j < y.kids.length := by omega
        clear hall
        simp (maxSteps := 10000000) only [AgainAt, hav, List.contains_cons, List.contains_nil, Bool.or_false, Nat.reduceAdd, Nat.reduceBEq, Bool.or_true, Bool.true_or, Bool.false_or, if_true, if_false, Bool.false_eq_true]
        repeat' (first | refine Keep.go (by assumption) ?_ | refine awp_seq_k fun K hK => ?_ | (refine awp_region ?_; try simp [Heap.set_get, *]) | refine awp_block ?_ | (refine awp_ret ?_; try simp) | (refine awp_skip ?_; try simp) | (refine awp_exit ?_; try simp) | (refine KeepQ.go (by assumption) ?_; try simp [Heap.set_get, *]) | (refine awp_cond' ?_; try simp [Heap.set_get, *]) | refine And.intro (by omega) ?_ | refine And.intro (by assumption) ?_ | refine and_lf (by omega) ?_ | refine and_rf ?_ (by omega) | refine and_imps (fun _ => ?_) (fun _ => ?_) | refine arounds_k fun K hK => ?_ | refine Or.inl ⟨by omega, ?_⟩ | refine Or.inr ⟨by omega, ?_⟩ | refine or_split (fun _ => ?_) (fun _ => ?_) | exact Sub.refl _ | refine imp_in fun _ => ?_ | refine and_ri ?_ (fun _ => ?_) | refine and_li (fun _ => ?_) ?_ | (refine And.intro ?_ ?_; focus (intros; simp [*]; done)) | fail)
        all_goals first
          | exact ⟨hf.symm, hs⟩
          | trace_state
end Go.Proofs.YtmnkalojpefclaaDoor
