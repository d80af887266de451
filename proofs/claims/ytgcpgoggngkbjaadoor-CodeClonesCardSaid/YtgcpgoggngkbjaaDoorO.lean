import Derived.Test.YtgcpgoggngkbjaaDoorN
import Derived.Test.YtgcpgoggngkbjaaDoorAL20
import Derived.Test.YtgcpgoggngkbjaaDoorA0
set_option linter.unusedSimpArgs false
set_option linter.unusedVariables false
namespace Go.Proofs.YtgcpgoggngkbjaaDoor
open Go Go.AL Go.Proofs
theorem CloneS_c (l : List Stp) (hl : l.length ≤ 1048576) (h : Heap) (R : AV → Heap → Prop)
    (h0 : l = [] → R (.list 4 [] .no) h) (h1 : l ≠ [] → ∀ b c, h b = none → l.length ≤ c → R (.arr b 0 l.length c) (h.set b (.cells ((l.map stRow).flatten ++ List.replicate ((c - l.length) * 4) .any)))) :
    ACalls Tryd.prog 20 [.list 4 (l.map stRow) .no] h R := by
  refine ACalls.conv (CloneSA_c l hl h (fun x g => (l = [] ∧ ∃ tok, x = .list 4 [] tok ∧ g = h) ∨ (l ≠ [] ∧ R x g)) (fun e tok _ => .inl ⟨e, tok, rfl, rfl⟩) (fun e b c hb hc => .inr ⟨e, h1 e b c hb hc⟩)) ?_
  rintro x g (⟨e, tok, rfl, rfl⟩ | ⟨e, hr⟩)
  · exact ⟨_, _, View.of (Weak.tok _ _ tok) (Sub.refl _), h0 e⟩
  · exact ⟨_, _, View.of (Weak.refl _) (Sub.refl _), hr⟩
theorem CloneF_c (l : List Fn) (hl : l.length ≤ 1048576) (h : Heap) (R : AV → Heap → Prop)
    (h0 : l = [] → R (.list 9 [] .no) h) (h1 : l ≠ [] → ∀ b c, h b = none → l.length ≤ c → R (.arr b 0 l.length c) (h.set b (.cells ((l.map fnRow).flatten ++ List.replicate ((c - l.length) * 9) .any)))) :
    ACalls Tryd.prog 19 [.list 9 (l.map fnRow) .no] h R := by
  refine ACalls.conv (CloneFA_c l hl h (fun x g => (l = [] ∧ ∃ tok, x = .list 9 [] tok ∧ g = h) ∨ (l ≠ [] ∧ R x g)) (fun e tok _ => .inl ⟨e, tok, rfl, rfl⟩) (fun e b c hb hc => .inr ⟨e, h1 e b c hb hc⟩)) ?_
  rintro x g (⟨e, tok, rfl, rfl⟩ | ⟨e, hr⟩)
  · exact ⟨_, _, View.of (Weak.tok _ _ tok) (Sub.refl _), h0 e⟩
  · exact ⟨_, _, View.of (Weak.refl _) (Sub.refl _), hr⟩
/-- A function's row, its steps in a block that may be written. -/
def rowC (f : Fn) (b c : Nat) : List AV := [if f.steps = [] then .list 4 [] .no else .arr b 0 f.steps.length c, .list 3 (f.consts.map vlRow) .no, .int .i64 f.regs, .int .i64 f.params, .int .i64 f.defaults, .list 2 (f.caps.map capRow) .no, .list 4 (f.tries.map trRow) .no, .bool f.yields, .str f.name]
/-- A copy: its functions in the block b. -/
structure CopyOf (h g : Heap) (p : List Fn) (b : Nat) (cs : List AV) (kb kc : Nat → Nat) (n : Nat) : Prop where
  len : p.length * 9 ≤ cs.length
  rows : ∀ j (hj : j < p.length) q, q < 9 → cs.getD (j * 9 + q) .any = (if j < n then rowC p[j] (kb j) (kc j) else fnRow p[j]).getD q .any
  steps : ∀ j (hj : j < p.length), j < n → p[j].steps ≠ [] → h (kb j) = none ∧ ¬ kb j = b ∧ p[j].steps.length ≤ kc j ∧ ∃ sp, g (kb j) = some (.cells ((p[j].steps.map stRow).flatten ++ sp))
  apart : ∀ i j (hi : i < p.length) (hj : j < p.length), i < j → j < n → p[i].steps ≠ [] → p[j].steps ≠ [] → ¬ kb i = kb j
  blk : g b = some (.cells cs)
  fresh : h b = none
  sub : AL.Sub h g
theorem getD_rowsF (l : List Fn) (z : List AV) (j q : Nat) (hj : j < l.length) (hq : q < 9) : ((l.map fnRow).flatten ++ z).getD (j * 9 + q) .any = (fnRow l[j]).getD q .any := by
  have h1 : ∀ (rs : List (List AV)) (j q : Nat) (hr : ∀ r ∈ rs, r.length = 9) (hj : j < rs.length), q < 9 → (rs.flatten ++ z).getD (j * 9 + q) .any = rs[j].getD q .any := by
    intro rs
    induction rs with
    | nil => intro j q _ hj; simp at hj
    | cons r rs ih =>
      intro j q hr hj hq
      have hl := hr r (by simp)
      cases j with
      | zero =>
        simp only [List.flatten_cons, Nat.zero_mul, Nat.zero_add, List.append_assoc, List.getElem_cons_zero, List.getD]
        rw [List.getElem?_append_left (by omega)]
      | succ j =>
        have h2 := ih j q (fun x hx => hr x (by simp [hx])) (by simpa using hj) hq
        simp only [List.flatten_cons, List.append_assoc, List.getElem_cons_succ, List.getD] at h2 ⊢
        rw [List.getElem?_append_right (by omega), show (j + 1) * 9 + q - r.length = j * 9 + q by omega]
        exact h2
  have := h1 (l.map fnRow) j q (by simp) (by simpa using hj) hq
  simpa using this
theorem splice4 (cs : List AV) (o0 o1 o2 o3 : Nat) (v0 v1 v2 v3 : AV) (h0 : o0 < cs.length) (h1 : o1 < cs.length) (h2 : o2 < cs.length) (h3 : o3 < cs.length) :
    o0 + 1 ≤ cs.length ∧ o1 + 1 ≤ (splice cs o0 [v0]).length ∧ o2 + 1 ≤ (splice (splice cs o0 [v0]) o1 [v1]).length ∧ o3 + 1 ≤ (splice (splice (splice cs o0 [v0]) o1 [v1]) o2 [v2]).length ∧
    (splice (splice (splice (splice cs o0 [v0]) o1 [v1]) o2 [v2]) o3 [v3]).length = cs.length ∧
    ∀ i, i < cs.length → (splice (splice (splice (splice cs o0 [v0]) o1 [v1]) o2 [v2]) o3 [v3]).getD i .any = if i = o3 then v3 else if i = o2 then v2 else if i = o1 then v1 else if i = o0 then v0 else cs.getD i .any := by
  have one : ∀ (xs : List AV) (o : Nat) (v : AV), o < xs.length → (splice xs o [v]).length = xs.length ∧ ∀ i, i < xs.length → (splice xs o [v]).getD i .any = if i = o then v else xs.getD i .any := fun xs o v ho => by
    refine ⟨splice_length xs o [v] (by simp only [List.length_singleton]; omega), fun i hi => ?_⟩
    rw [splice_getD xs o [v] (by simp only [List.length_singleton]; omega) i hi]
    simp only [List.length_singleton]
    by_cases e : i = o
    · subst e; simp
    · rw [if_neg (by omega), if_neg e]
  obtain ⟨a1, a2⟩ := one cs o0 v0 h0
  obtain ⟨b1, b2⟩ := one (splice cs o0 [v0]) o1 v1 (by omega)
  obtain ⟨c1, c2⟩ := one (splice (splice cs o0 [v0]) o1 [v1]) o2 v2 (by omega)
  obtain ⟨d1, d2⟩ := one (splice (splice (splice cs o0 [v0]) o1 [v1]) o2 [v2]) o3 v3 (by omega)
  refine ⟨by omega, by omega, by omega, by omega, by omega, fun i hi => ?_⟩
  rw [d2 i (by omega), c2 i (by omega), b2 i (by omega), a2 i hi]
theorem CopyOf.next {h g g' : Heap} {p : List Fn} {b : Nat} {cs cs' : List AV} {kb kc : Nat → Nat} {i : Nat} (hC : CopyOf h g p b cs kb kc i) (hlt : i < p.length) (f : Fn) (hf : p[i] = f) (v0 : AV) (b' c' : Nat)
    (hlen : cs'.length = cs.length)
    (hcs : ∀ q, q < cs.length → cs'.getD q .any = if q = i * 9 + 6 then .list 4 (f.tries.map trRow) .no else if q = i * 9 + 5 then .list 2 (f.caps.map capRow) .no else if q = i * 9 + 1 then .list 3 (f.consts.map vlRow) .no else if q = i * 9 then v0 else cs.getD q .any)
    (hv0 : v0 = if f.steps = [] then .list 4 [] .no else .arr b' 0 f.steps.length c') (hst : f.steps ≠ [] → g b' = none ∧ f.steps.length ≤ c' ∧ ∃ sp, g' b' = some (.cells ((f.steps.map stRow).flatten ++ sp)))
    (hg : g' b = some (.cells cs')) (hsame : ∀ x c, x ≠ b → g x = some (.cells c) → g' x = some (.cells c)) (hsub : AL.Sub h g') :
    CopyOf h g' p b cs' (fun j => if j = i then b' else kb j) (fun j => if j = i then c' else kc j) (i + 1) := by
  subst hf
  refine ⟨by rw [hlen]; exact hC.len, fun j hj q hq => ?_, fun j hj hji hne => ?_, fun j1 j2 h1 h2 h12 h2i hn1 hn2 => ?_, hg, hC.fresh, hsub⟩
  · have hl := hC.len
    rw [hcs (j * 9 + q) (by omega), hC.rows j hj q hq]
    by_cases e : j = i
    · subst e
      rw [if_neg (Nat.lt_irrefl j), if_pos (Nat.lt_succ_self j)]
      simp only [if_true]
      rw [hv0]
      rcases (show q = 0 ∨ q = 1 ∨ q = 2 ∨ q = 3 ∨ q = 4 ∨ q = 5 ∨ q = 6 ∨ q = 7 ∨ q = 8 by omega) with rfl | rfl | rfl | rfl | rfl | rfl | rfl | rfl | rfl <;> simp [rowC]
    · rw [if_neg (by omega), if_neg (by omega), if_neg (by omega), if_neg (by omega)]
      by_cases e2 : j < i
      · rw [if_pos e2, if_pos (by omega)]; simp [e]
      · rw [if_neg e2, if_neg (by omega)]
  · by_cases e : j = i
    · subst e
      obtain ⟨s1, s2, s3⟩ := hst hne
      simp only [if_true]
      refine ⟨?_, fun e2 => ?_, s2, s3⟩
      · cases e3 : h b' with
        | none => rfl
        | some z => rw [hC.sub _ _ e3] at s1; cases s1
      · rw [e2, hC.blk] at s1; cases s1
    · obtain ⟨s1, s2, s3, sp, s4⟩ := hC.steps j hj (by omega) hne
      simp only [e, if_false]
      exact ⟨s1, s2, s3, sp, hsame _ _ s2 s4⟩
  · by_cases e : j2 = i
    · subst e
      obtain ⟨s1, s2, s3⟩ := hst hn2
      obtain ⟨_, _, _, sp, s4⟩ := hC.steps j1 h1 h12 hn1
      have e1 : ¬ j1 = j2 := by omega
      simp only [e1, if_false, if_true]
      intro e2
      rw [e2, s1] at s4; cases s4
    · have e1 : ¬ j1 = i := by omega
      simp only [e, e1, if_false]
      exact hC.apart j1 j2 h1 h2 h12 (by omega) hn1 hn2
set_option maxRecDepth 100000 in
set_option maxHeartbeats 8000000 in
theorem Copy_c (p : List Fn) (hl : p.length ≤ 1048576) (hf : ∀ f ∈ p, f.steps.length ≤ 1048576 ∧ f.consts.length ≤ 1048576 ∧ f.caps.length ≤ 1048576 ∧ f.tries.length ≤ 1048576) (h : Heap) (R : AV → Heap → Prop)
    (h0 : p = [] → R (.agg [.list 9 [] .no]) h)
    (hR : p ≠ [] → ∀ (b c : Nat) (cs : List AV) (kb kc : Nat → Nat) (g : Heap), p.length ≤ c → CopyOf h g p b cs kb kc p.length → R (.agg [.arr b 0 p.length c]) g) :
    ACalls Tryd.prog 11 [progAV p .no] h R := by
  by_cases hne : p = []
  · subst hne
    refine ACalls.pure ?_ (h0 rfl)
    clear h0 hR
    refine acalls_of Tryd.func11 rfl Tryd.ntmps11 (congrArg Array.toList Tryd.results11) fun Q hQ => ?_
    repeat' (first | refine Keep.go (by assumption) ?_ | refine awp_seq_k fun K hK => ?_ | (refine awp_region ?_; try simp [Heap.set_get, *]) | refine awp_block ?_ | (refine awp_ret ?_; try simp) | (refine awp_skip ?_; try simp) | (refine awp_exit ?_; try simp) | (refine KeepQ.go (by assumption) ?_; try simp [Heap.set_get, *]) | (refine awp_cond' ?_; try simp [Heap.set_get, *]) | refine And.intro (by omega) ?_ | refine And.intro (by assumption) ?_ | refine and_lf (by omega) ?_ | refine and_rf ?_ (by omega) | refine and_imps (fun _ => ?_) (fun _ => ?_) | refine arounds_k fun K hK => ?_ | refine Or.inl ⟨by omega, ?_⟩ | refine Or.inr ⟨by omega, ?_⟩ | refine or_split (fun _ => ?_) (fun _ => ?_) | exact Sub.refl _ | refine imp_in fun _ => ?_ | refine and_ri ?_ (fun _ => ?_) | refine and_li (fun _ => ?_) ?_ | (refine And.intro ?_ ?_; focus (intros; simp [*]; done)) | fail)
    intro b1 hb1; simp only [Fresh, Heap.set_none] at hb1; try simp [Heap.set_get, *]
    intro b2 hb2; simp only [Fresh, Heap.set_none] at hb2; try simp [Heap.set_get, *]
    have z2 := hb2
    repeat' (first | refine Keep.go (by assumption) ?_ | refine awp_seq_k fun K hK => ?_ | (refine awp_region ?_; try simp [Heap.set_get, *]) | refine awp_block ?_ | (refine awp_ret ?_; try simp) | (refine awp_skip ?_; try simp) | (refine awp_exit ?_; try simp) | (refine KeepQ.go (by assumption) ?_; try simp [Heap.set_get, *]) | (refine awp_cond' ?_; try simp [Heap.set_get, *]) | refine And.intro (by omega) ?_ | refine And.intro (by assumption) ?_ | refine and_lf (by omega) ?_ | refine and_rf ?_ (by omega) | refine and_imps (fun _ => ?_) (fun _ => ?_) | refine arounds_k fun K hK => ?_ | refine Or.inl ⟨by omega, ?_⟩ | refine Or.inr ⟨by omega, ?_⟩ | refine or_split (fun _ => ?_) (fun _ => ?_) | exact Sub.refl _ | refine imp_in fun _ => ?_ | refine and_ri ?_ (fun _ => ?_) | refine and_li (fun _ => ?_) ?_ | (refine And.intro ?_ ?_; focus (intros; simp [*]; done)) | fail)
    refine CloneF_c [] hl _ _ (fun _ => ?_) (fun e => absurd rfl e)
    simp [Heap.set_get, *]
    intro b3 hb3; simp only [Fresh, Heap.set_none] at hb3; try simp [Heap.set_get, *]
    obtain ⟨n13, n31, n23, n32, z3⟩ := hb3
    repeat' (first | refine Keep.go (by assumption) ?_ | refine awp_seq_k fun K hK => ?_ | (refine awp_region ?_; try simp [Heap.set_get, *]) | refine awp_block ?_ | (refine awp_ret ?_; try simp) | (refine awp_skip ?_; try simp) | (refine awp_exit ?_; try simp) | (refine KeepQ.go (by assumption) ?_; try simp [Heap.set_get, *]) | (refine awp_cond' ?_; try simp [Heap.set_get, *]) | refine And.intro (by omega) ?_ | refine And.intro (by assumption) ?_ | refine and_lf (by omega) ?_ | refine and_rf ?_ (by omega) | refine and_imps (fun _ => ?_) (fun _ => ?_) | refine arounds_k fun K hK => ?_ | refine Or.inl ⟨by omega, ?_⟩ | refine Or.inr ⟨by omega, ?_⟩ | refine or_split (fun _ => ?_) (fun _ => ?_) | exact Sub.refl _ | refine imp_in fun _ => ?_ | refine and_ri ?_ (fun _ => ?_) | refine and_li (fun _ => ?_) ?_ | (refine And.intro ?_ ?_; focus (intros; simp [*]; done)) | fail)
    refine awp_loop_h [4, 5, 13, 14, 15, 16, 17, 18, 19, 20, 21, 22, 23, 24, 25, 26, 27, 28, 29, 30, 31, 32, 33, 34, 35, 36, 37, 38, 39, 40, 41, 42, 43, 44, 45, 46, 47, 48, 49, 50, 51, 52] (fun m x g => x 13 = .int .i64 0 ∧ g b3 = some (.cells [.list 9 [] .no]) ∧ g b2 = some (.cells [.list 9 [] .nil]) ∧ AL.Sub h g) 0
      ⟨rfl, by simp [Heap.set_get, *], by simp [Heap.set_get, *], by (repeat (first | exact Sub.refl _ | refine Sub.loc ?_ (by simp [*]) _))⟩ (fun m x g hI K hK => ?_)
    obtain ⟨hx, g3, g2, gs⟩ := hI
    refine awp_eqs (s' := [_, _, _, _, x 4, x 5, _, _, _, _, _, _, _, x 13, x 14, x 15, x 16, x 17, x 18, x 19, x 20, x 21, x 22, x 23, x 24, x 25, x 26, x 27, x 28, x 29, x 30, x 31, x 32, x 33, x 34, x 35, x 36, x 37, x 38, x 39, x 40, x 41, x 42, x 43, x 44, x 45, x 46, x 47, x 48, x 49, x 50, x 51, x 52, _]) rfl ?_
    repeat' (first | refine Keep.go (by assumption) ?_ | refine awp_seq_k fun K hK => ?_ | (refine awp_region ?_; try simp [Heap.set_get, *]) | refine awp_block ?_ | (refine awp_ret ?_; try simp) | (refine awp_skip ?_; try simp) | (refine awp_exit ?_; try simp) | (refine KeepQ.go (by assumption) ?_; try simp [Heap.set_get, *]) | (refine awp_cond' ?_; try simp [Heap.set_get, *]) | refine And.intro (by omega) ?_ | refine And.intro (by assumption) ?_ | refine and_lf (by omega) ?_ | refine and_rf ?_ (by omega) | refine and_imps (fun _ => ?_) (fun _ => ?_) | refine arounds_k fun K hK => ?_ | refine Or.inl ⟨by omega, ?_⟩ | refine Or.inr ⟨by omega, ?_⟩ | refine or_split (fun _ => ?_) (fun _ => ?_) | exact Sub.refl _ | refine imp_in fun _ => ?_ | refine and_ri ?_ (fun _ => ?_) | refine and_li (fun _ => ?_) ?_ | (refine And.intro ?_ ?_; focus (intros; simp [*]; done)) | fail)
    all_goals exact gs.loc z2.2.2 _
  · have hpos : 0 < p.length := List.length_pos_iff.2 hne
    clear h0
    refine acalls_of Tryd.func11 rfl Tryd.ntmps11 (congrArg Array.toList Tryd.results11) fun Q hQ => ?_
    repeat' (first | refine Keep.go (by assumption) ?_ | refine awp_seq_k fun K hK => ?_ | (refine awp_region ?_; try simp [Heap.set_get, *]) | refine awp_block ?_ | (refine awp_ret ?_; try simp) | (refine awp_skip ?_; try simp) | (refine awp_exit ?_; try simp) | (refine KeepQ.go (by assumption) ?_; try simp [Heap.set_get, *]) | (refine awp_cond' ?_; try simp [Heap.set_get, *]) | refine And.intro (by omega) ?_ | refine And.intro (by assumption) ?_ | refine and_lf (by omega) ?_ | refine and_rf ?_ (by omega) | refine and_imps (fun _ => ?_) (fun _ => ?_) | refine arounds_k fun K hK => ?_ | refine Or.inl ⟨by omega, ?_⟩ | refine Or.inr ⟨by omega, ?_⟩ | refine or_split (fun _ => ?_) (fun _ => ?_) | exact Sub.refl _ | refine imp_in fun _ => ?_ | refine and_ri ?_ (fun _ => ?_) | refine and_li (fun _ => ?_) ?_ | (refine And.intro ?_ ?_; focus (intros; simp [*]; done)) | fail)
    intro b1 hb1; simp only [Fresh, Heap.set_none] at hb1; try simp [Heap.set_get, *]
    intro b2 hb2; simp only [Fresh, Heap.set_none] at hb2; try simp [Heap.set_get, *]
    obtain ⟨n12, n21, z2⟩ := hb2
    repeat' (first | refine Keep.go (by assumption) ?_ | refine awp_seq_k fun K hK => ?_ | (refine awp_region ?_; try simp [Heap.set_get, *]) | refine awp_block ?_ | (refine awp_ret ?_; try simp) | (refine awp_skip ?_; try simp) | (refine awp_exit ?_; try simp) | (refine KeepQ.go (by assumption) ?_; try simp [Heap.set_get, *]) | (refine awp_cond' ?_; try simp [Heap.set_get, *]) | refine And.intro (by omega) ?_ | refine And.intro (by assumption) ?_ | refine and_lf (by omega) ?_ | refine and_rf ?_ (by omega) | refine and_imps (fun _ => ?_) (fun _ => ?_) | refine arounds_k fun K hK => ?_ | refine Or.inl ⟨by omega, ?_⟩ | refine Or.inr ⟨by omega, ?_⟩ | refine or_split (fun _ => ?_) (fun _ => ?_) | exact Sub.refl _ | refine imp_in fun _ => ?_ | refine and_ri ?_ (fun _ => ?_) | refine and_li (fun _ => ?_) ?_ | (refine And.intro ?_ ?_; focus (intros; simp [*]; done)) | fail)
    refine CloneF_c p hl _ _ (fun e => absurd e hne) (fun _ bn c hbn hc => ?_)
    simp only [Heap.set_none] at hbn
    obtain ⟨n2n, nn2, n1n, nn1, zn⟩ : ¬ b2 = bn ∧ ¬ bn = b2 ∧ ¬ b1 = bn ∧ ¬ bn = b1 ∧ h bn = none := by simpa [and_assoc] using hbn
    simp [Heap.set_get, *]
    intro b3 hb3; simp only [Fresh, Heap.set_none] at hb3; try simp [Heap.set_get, *]
    have hflen : ((p.map fnRow).flatten).length = p.length * 9 := by
      have : ∀ l : List Fn, ((l.map fnRow).flatten).length = l.length * 9 := fun l => by
        induction l with
        | nil => rfl
        | cons a l ih => simp only [List.map_cons, List.flatten_cons, List.length_append, ih, List.length_cons, List.length_nil]; omega
      exact this p
    repeat' (first | refine Keep.go (by assumption) ?_ | refine awp_seq_k fun K hK => ?_ | (refine awp_region ?_; try simp [Heap.set_get, *]) | refine awp_block ?_ | (refine awp_ret ?_; try simp) | (refine awp_skip ?_; try simp) | (refine awp_exit ?_; try simp) | (refine KeepQ.go (by assumption) ?_; try simp [Heap.set_get, *]) | (refine awp_cond' ?_; try simp [Heap.set_get, *]) | refine And.intro (by omega) ?_ | refine And.intro (by assumption) ?_ | refine and_lf (by omega) ?_ | refine and_rf ?_ (by omega) | refine and_imps (fun _ => ?_) (fun _ => ?_) | refine arounds_k fun K hK => ?_ | refine Or.inl ⟨by omega, ?_⟩ | refine Or.inr ⟨by omega, ?_⟩ | refine or_split (fun _ => ?_) (fun _ => ?_) | exact Sub.refl _ | refine imp_in fun _ => ?_ | refine and_ri ?_ (fun _ => ?_) | refine and_li (fun _ => ?_) ?_ | (refine And.intro ?_ ?_; focus (intros; simp [*]; done)) | fail)
    refine awp_loop_h [4, 5, 13, 14, 15, 16, 17, 18, 19, 20, 21, 22, 23, 24, 25, 26, 27, 28, 29, 30, 31, 32, 33, 34, 35, 36, 37, 38, 39, 40, 41, 42, 43, 44, 45, 46, 47, 48, 49, 50, 51, 52] (fun m x g => ∃ (i : Nat) (cs : List AV) (kb kc : Nat → Nat), i ≤ p.length ∧ m = p.length - i ∧ x 13 = .int .i64 i ∧ g b3 = some (.cells [.arr bn 0 p.length c]) ∧ g b2 = some (.cells [.list 9 [] .nil]) ∧ CopyOf h g p bn cs kb kc i) p.length
      ⟨0, (p.map fnRow).flatten ++ List.replicate ((c - p.length) * 9) .any, fun _ => 0, fun _ => 0, by omega, by omega, rfl, by simp [Heap.set_get, *], by simp [Heap.set_get, *], ?_⟩ (fun m x g hI K hK => ?_)
    · exact ⟨by rw [List.length_append, hflen]; omega, fun j hj q hq => by rw [if_neg (Nat.not_lt_zero j)]; exact getD_rowsF p _ j q hj hq, fun j _ hj => by omega, fun _ j _ _ _ hj => by omega, by simp [Heap.set_get, *], zn, by (repeat (first | exact Sub.refl _ | refine Sub.loc ?_ (by simp [*]) _))⟩
    obtain ⟨i, cs, kb, kc, hi, rfl, hx, g3, g2, hC⟩ := hI
    have w1 : IntKind.i64.wrap ((i : Int) + 1) = i + 1 := w64 (by omega) (by omega)
    by_cases hlt : i < p.length
    · obtain ⟨f, hfi⟩ : ∃ f, p[i] = f := ⟨_, rfl⟩
      have hff := hf f (hfi ▸ List.getElem_mem hlt)
      have hcl := hC.len
      have gn := hC.blk
      have hat : ∀ q, q < 9 → cs[i * 9 + q]? = some ((fnRow f).getD q .any) := fun q hq => by
        have h1 := hC.rows i hlt q hq
        rw [if_neg (Nat.lt_irrefl i), hfi] at h1
        have h2 : i * 9 + q < cs.length := by omega
        rw [List.getElem?_eq_getElem h2]
        simp only [List.getD, List.getElem?_eq_getElem h2, Option.getD_some] at h1
        rw [h1]; rfl
      have a0 : cs[i * 9]? = some (.list 4 (f.steps.map stRow) .no) := hat 0 (by omega)
      have a1 : cs[i * 9 + 1]? = some (.list 3 (f.consts.map vlRow) .no) := hat 1 (by omega)
      have a5 : cs[i * 9 + 5]? = some (.list 2 (f.caps.map capRow) .no) := hat 5 (by omega)
      have a6 : cs[i * 9 + 6]? = some (.list 4 (f.tries.map trRow) .no) := hat 6 (by omega)
      have b0 := (List.getElem?_eq_some_iff.1 a0).2
      have b1 := (List.getElem?_eq_some_iff.1 a1).2
      have b5 := (List.getElem?_eq_some_iff.1 a5).2
      have b6 := (List.getElem?_eq_some_iff.1 a6).2
      have lc : i * 9 + 9 ≤ cs.length := by omega
      have l0 : i * 9 < cs.length := by omega
      have l1 : i * 9 + 1 < cs.length := by omega
      have l5 : i * 9 + 5 < cs.length := by omega
      have l6 : i * 9 + 6 < cs.length := by omega
      obtain ⟨hsl, hkl, hpl, htl⟩ := hff
      refine awp_eqs (s' := [_, _, _, _, x 4, x 5, _, _, _, _, _, _, _, x 13, x 14, x 15, x 16, x 17, x 18, x 19, x 20, x 21, x 22, x 23, x 24, x 25, x 26, x 27, x 28, x 29, x 30, x 31, x 32, x 33, x 34, x 35, x 36, x 37, x 38, x 39, x 40, x 41, x 42, x 43, x 44, x 45, x 46, x 47, x 48, x 49, x 50, x 51, x 52, _]) rfl ?_
      repeat' (first | refine Keep.go (by assumption) ?_ | refine awp_seq_k fun K hK => ?_ | (refine awp_region ?_; try simp [Heap.set_get, *]) | refine awp_block ?_ | (refine awp_ret ?_; try simp) | (refine awp_skip ?_; try simp) | (refine awp_exit ?_; try simp) | (refine KeepQ.go (by assumption) ?_; try simp [Heap.set_get, *]) | (refine awp_cond' ?_; try simp [Heap.set_get, *]) | refine And.intro (by omega) ?_ | refine And.intro (by assumption) ?_ | refine and_lf (by omega) ?_ | refine and_rf ?_ (by omega) | refine and_imps (fun _ => ?_) (fun _ => ?_) | refine arounds_k fun K hK => ?_ | refine Or.inl ⟨by omega, ?_⟩ | refine Or.inr ⟨by omega, ?_⟩ | refine or_split (fun _ => ?_) (fun _ => ?_) | exact Sub.refl _ | refine imp_in fun _ => ?_ | refine and_ri ?_ (fun _ => ?_) | refine and_li (fun _ => ?_) ?_ | (refine And.intro ?_ ?_; focus (intros; simp [*]; done)) | fail)
      refine awp_region_stores [b3, bn] [0, 1, 2, 3, 4, 5, 6, 9, 10, 11, 14, 15, 16, 19, 20, 21] [(7, true), (12, true), (17, true), (22, true), (8, false), (13, false), (18, false), (23, false)] [24, 25, 26, 27, 28, 29, 30, 31, 32, 33, 34, 35] follows (by kernel_rfl) rfl (by kernel_rfl) ?_; simp [Heap.set_get, Heap.plus_set, evc_nil, evc_cons, estep, *]
      repeat' (first | refine Keep.go (by assumption) ?_ | refine awp_seq_k fun K hK => ?_ | (refine awp_region ?_; try simp [Heap.set_get, *]) | refine awp_block ?_ | (refine awp_ret ?_; try simp) | (refine awp_skip ?_; try simp) | (refine awp_exit ?_; try simp) | (refine KeepQ.go (by assumption) ?_; try simp [Heap.set_get, *]) | (refine awp_cond' ?_; try simp [Heap.set_get, *]) | refine And.intro (by omega) ?_ | refine And.intro (by assumption) ?_ | refine and_lf (by omega) ?_ | refine and_rf ?_ (by omega) | refine and_imps (fun _ => ?_) (fun _ => ?_) | refine arounds_k fun K hK => ?_ | refine Or.inl ⟨by omega, ?_⟩ | refine Or.inr ⟨by omega, ?_⟩ | refine or_split (fun _ => ?_) (fun _ => ?_) | exact Sub.refl _ | refine imp_in fun _ => ?_ | refine and_ri ?_ (fun _ => ?_) | refine and_li (fun _ => ?_) ?_ | (refine And.intro ?_ ?_; focus (intros; simp [*]; done)) | fail)
      refine CloneS_c f.steps hsl _ _ (fun he => ?_) (fun he b c2 hb hc2 => ?_)
      · obtain ⟨q1, q2, q3, q4, q5, q6⟩ := splice4 cs (i * 9) (i * 9 + 1) (i * 9 + 5) (i * 9 + 6) (.list 4 [] .no) (.list 3 (f.consts.map vlRow) .no) (.list 2 (f.caps.map capRow) .no) (.list 4 (f.tries.map trRow) .no) l0 l1 l5 l6
        simp [Heap.set_get, Heap.plus_set]
        refine CloneV_c f.consts hkl _ _ ?_
        simp [Heap.set_get, Heap.plus_set]
        refine CloneP_c f.caps hpl _ _ ?_
        simp [Heap.set_get, Heap.plus_set]
        refine CloneT_c f.tries htl _ _ ?_
        simp [Heap.set_get, Heap.plus_set, gn, g3, -splice, q1, q2, q3, q4]
        obtain ⟨cs', hcs'⟩ : ∃ cs', splice (splice (splice (splice cs (i * 9) [.list 4 [] .no]) (i * 9 + 1) [.list 3 (f.consts.map vlRow) .no]) (i * 9 + 5) [.list 2 (f.caps.map capRow) .no]) (i * 9 + 6) [.list 4 (f.tries.map trRow) .no] = cs' := ⟨_, rfl⟩
        rw [hcs'] at q5 q6 ⊢
        clear q1 q2 q3 q4 hcs' a0 a1 a5 a6 b0 b1 b5 b6
        replace q6 := Shut.mk q6
        repeat' (first | refine Keep.go (by assumption) ?_ | refine awp_seq_k fun K hK => ?_ | (refine awp_region ?_; try simp [Heap.set_get, *]) | refine awp_block ?_ | (refine awp_ret ?_; try simp) | (refine awp_skip ?_; try simp) | (refine awp_exit ?_; try simp) | (refine KeepQ.go (by assumption) ?_; try simp [Heap.set_get, *]) | (refine awp_cond' ?_; try simp [Heap.set_get, *]) | refine And.intro (by omega) ?_ | refine And.intro (by assumption) ?_ | refine and_lf (by omega) ?_ | refine and_rf ?_ (by omega) | refine and_imps (fun _ => ?_) (fun _ => ?_) | refine arounds_k fun K hK => ?_ | refine Or.inl ⟨by omega, ?_⟩ | refine Or.inr ⟨by omega, ?_⟩ | refine or_split (fun _ => ?_) (fun _ => ?_) | exact Sub.refl _ | refine imp_in fun _ => ?_ | refine and_ri ?_ (fun _ => ?_) | refine and_li (fun _ => ?_) ?_ | (refine And.intro ?_ ?_; focus (intros; simp [*]; done)) | fail)
        refine ⟨by kernel_rfl, rfl, p.length - (i + 1), _, by omega, Sub.refl _, i + 1, cs', _, _, by omega, rfl, rfl, ?_, ?_, hC.next hlt f hfi (.list 4 [] .no) 0 0 q5 q6.out (by rw [if_pos he]) (fun e => absurd he e) (by simp [Heap.set_get]) (fun x c hx hg => by simp [Heap.set_get, hx, hg]) (hC.sub.loc zn _)⟩
        · simp [Heap.set_get, *]
        · simp [Heap.set_get, *]
      · obtain ⟨q1, q2, q3, q4, q5, q6⟩ := splice4 cs (i * 9) (i * 9 + 1) (i * 9 + 5) (i * 9 + 6) (.arr b 0 f.steps.length c2) (.list 3 (f.consts.map vlRow) .no) (.list 2 (f.caps.map capRow) .no) (.list 4 (f.tries.map trRow) .no) l0 l1 l5 l6
        simp only [Heap.minus_get] at hb
        simp [Heap.set_get, Heap.plus_set, g3, gn]
        intro n1 n2
        have m1 : ¬ b = b3 := fun e => n1 e.symm
        have m2 : ¬ b = bn := fun e => n2 e.symm
        have fb : g b = none := by simpa [m1, m2] using hb
        have fbh : h b = none := by
          cases e9 : h b with
          | none => rfl
          | some z => rw [hC.sub _ _ e9] at fb; cases fb
        have m3 : ¬ b = b2 := fun e => by rw [e, g2] at fb; cases fb
        have m4 : ¬ b2 = b := fun e => m3 e.symm
        clear hb
        refine CloneV_c f.consts hkl _ _ ?_
        simp [Heap.set_get, Heap.plus_set, m1, m2, n1, n2, g3, gn]
        refine CloneP_c f.caps hpl _ _ ?_
        simp [Heap.set_get, Heap.plus_set, m1, m2, n1, n2, g3, gn]
        refine CloneT_c f.tries htl _ _ ?_
        simp [Heap.set_get, Heap.plus_set, gn, g3, m1, m2, n1, n2, -splice, q1, q2, q3, q4]
        obtain ⟨cs', hcs'⟩ : ∃ cs', splice (splice (splice (splice cs (i * 9) [.arr b 0 f.steps.length c2]) (i * 9 + 1) [.list 3 (f.consts.map vlRow) .no]) (i * 9 + 5) [.list 2 (f.caps.map capRow) .no]) (i * 9 + 6) [.list 4 (f.tries.map trRow) .no] = cs' := ⟨_, rfl⟩
        rw [hcs'] at q5 q6 ⊢
        clear q1 q2 q3 q4 hcs' a0 a1 a5 a6 b0 b1 b5 b6
        replace q6 := Shut.mk q6
        repeat' (first | refine Keep.go (by assumption) ?_ | refine awp_seq_k fun K hK => ?_ | (refine awp_region ?_; try simp [Heap.set_get, *]) | refine awp_block ?_ | (refine awp_ret ?_; try simp) | (refine awp_skip ?_; try simp) | (refine awp_exit ?_; try simp) | (refine KeepQ.go (by assumption) ?_; try simp [Heap.set_get, *]) | (refine awp_cond' ?_; try simp [Heap.set_get, *]) | refine And.intro (by omega) ?_ | refine And.intro (by assumption) ?_ | refine and_lf (by omega) ?_ | refine and_rf ?_ (by omega) | refine and_imps (fun _ => ?_) (fun _ => ?_) | refine arounds_k fun K hK => ?_ | refine Or.inl ⟨by omega, ?_⟩ | refine Or.inr ⟨by omega, ?_⟩ | refine or_split (fun _ => ?_) (fun _ => ?_) | exact Sub.refl _ | refine imp_in fun _ => ?_ | refine and_ri ?_ (fun _ => ?_) | refine and_li (fun _ => ?_) ?_ | (refine And.intro ?_ ?_; focus (intros; simp [*]; done)) | fail)
        refine ⟨by kernel_rfl, rfl, p.length - (i + 1), _, by omega, Sub.refl _, i + 1, cs', _, _, by omega, rfl, rfl, ?_, ?_, hC.next hlt f hfi (.arr b 0 f.steps.length c2) b c2 q5 q6.out (by rw [if_neg he]) (fun _ => ⟨fb, hc2, _, by simp [Heap.set_get, *]; rfl⟩) (by simp [Heap.set_get]) (fun x c hx hg => by
          have : ¬ x = b := fun e => by rw [e, fb] at hg; cases hg
          simp [Heap.set_get, hx, hg, this]) ((hC.sub.loc fbh _).loc zn _)⟩
        · simp [Heap.set_get, *]
        · simp [Heap.set_get, *]
    · refine awp_eqs (s' := [_, _, _, _, x 4, x 5, _, _, _, _, _, _, _, x 13, x 14, x 15, x 16, x 17, x 18, x 19, x 20, x 21, x 22, x 23, x 24, x 25, x 26, x 27, x 28, x 29, x 30, x 31, x 32, x 33, x 34, x 35, x 36, x 37, x 38, x 39, x 40, x 41, x 42, x 43, x 44, x 45, x 46, x 47, x 48, x 49, x 50, x 51, x 52, _]) rfl ?_
      repeat' (first | refine Keep.go (by assumption) ?_ | refine awp_seq_k fun K hK => ?_ | (refine awp_region ?_; try simp [Heap.set_get, *]) | refine awp_block ?_ | (refine awp_ret ?_; try simp) | (refine awp_skip ?_; try simp) | (refine awp_exit ?_; try simp) | (refine KeepQ.go (by assumption) ?_; try simp [Heap.set_get, *]) | (refine awp_cond' ?_; try simp [Heap.set_get, *]) | refine And.intro (by omega) ?_ | refine And.intro (by assumption) ?_ | refine and_lf (by omega) ?_ | refine and_rf ?_ (by omega) | refine and_imps (fun _ => ?_) (fun _ => ?_) | refine arounds_k fun K hK => ?_ | refine Or.inl ⟨by omega, ?_⟩ | refine Or.inr ⟨by omega, ?_⟩ | refine or_split (fun _ => ?_) (fun _ => ?_) | exact Sub.refl _ | refine imp_in fun _ => ?_ | refine and_ri ?_ (fun _ => ?_) | refine and_li (fun _ => ?_) ?_ | (refine And.intro ?_ ?_; focus (intros; simp [*]; done)) | fail)
      have hie : i = p.length := by omega
      subst hie
      refine hR hne bn c cs kb kc _ hc ⟨hC.len, hC.rows, fun j hj hji hjn => ?_, hC.apart, by simp [Heap.set_get, hC.blk, nn2], zn, hC.sub.loc z2 _⟩
      obtain ⟨s1, s2, s3, sp, s4⟩ := hC.steps j hj hji hjn
      have k4 : ¬ kb j = b2 := fun e => by
        rw [e, g2] at s4
        injection s4 with s4
        injection s4 with s4
        obtain ⟨z, zs, hz⟩ := List.exists_cons_of_ne_nil hjn
        rw [hz] at s4
        simp at s4
      exact ⟨s1, s2, s3, sp, by simp [Heap.set_get, k4, s4]⟩
end Go.Proofs.YtgcpgoggngkbjaaDoor
