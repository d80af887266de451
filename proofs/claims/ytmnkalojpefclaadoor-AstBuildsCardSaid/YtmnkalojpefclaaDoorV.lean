import Derived.Test.YtmnkalojpefclaaDoorU
set_option linter.unusedSimpArgs false
set_option linter.unusedVariables false
namespace Go.Proofs.YtmnkalojpefclaaDoor
open Go Go.AL Go.Proofs
theorem CloneIF_c (l : List Int) (hl : l.length ≤ 281474976710) (h : Heap) (R : AV → Heap → Prop)
    (h0 : ∀ tok, tok = .nil ∨ tok = .full ∨ (∃ b k e, tok = .own b k e) → ∀ g, AL.Sub h g → R (.list 1 (ints l) tok) g) :
    ACalls Tryd.prog 36 [.list 1 (ints l) .no] h R := by
  cases l with
  | nil =>
    refine acalls_of Tryd.func36 rfl Tryd.ntmps36 (congrArg Array.toList Tryd.results36) fun Q hQ => ?_
    repeat' (first | refine Keep.go (by assumption) ?_ | refine awp_seq_k fun K hK => ?_ | (refine awp_region ?_; try simp [Heap.set_get, *]) | refine awp_block ?_ | (refine awp_ret ?_; try simp) | (refine awp_skip ?_; try simp) | (refine awp_exit ?_; try simp) | (refine KeepQ.go (by assumption) ?_; try simp [Heap.set_get, *]) | (refine awp_cond' ?_; try simp [Heap.set_get, *]) | refine And.intro (by omega) ?_ | refine And.intro (by assumption) ?_ | refine and_lf (by omega) ?_ | refine and_rf ?_ (by omega) | refine and_imps (fun _ => ?_) (fun _ => ?_) | refine arounds_k fun K hK => ?_ | refine Or.inl ⟨by omega, ?_⟩ | refine Or.inr ⟨by omega, ?_⟩ | refine or_split (fun _ => ?_) (fun _ => ?_) | exact Sub.refl _ | refine imp_in fun _ => ?_ | refine and_ri ?_ (fun _ => ?_) | refine and_li (fun _ => ?_) ?_ | (refine And.intro ?_ ?_; focus (intros; simp [*]; done)) | fail)
    intro b hb
    cases b
    · simp [Heap.set_get, *]
      repeat' (first | refine Keep.go (by assumption) ?_ | refine awp_seq_k fun K hK => ?_ | (refine awp_region ?_; try simp [Heap.set_get, *]) | refine awp_block ?_ | (refine awp_ret ?_; try simp) | (refine awp_skip ?_; try simp) | (refine awp_exit ?_; try simp) | (refine KeepQ.go (by assumption) ?_; try simp [Heap.set_get, *]) | (refine awp_cond' ?_; try simp [Heap.set_get, *]) | refine And.intro (by omega) ?_ | refine And.intro (by assumption) ?_ | refine and_lf (by omega) ?_ | refine and_rf ?_ (by omega) | refine and_imps (fun _ => ?_) (fun _ => ?_) | refine arounds_k fun K hK => ?_ | refine Or.inl ⟨by omega, ?_⟩ | refine Or.inr ⟨by omega, ?_⟩ | refine or_split (fun _ => ?_) (fun _ => ?_) | exact Sub.refl _ | refine imp_in fun _ => ?_ | refine and_ri ?_ (fun _ => ?_) | refine and_li (fun _ => ?_) ?_ | (refine And.intro ?_ ?_; focus (intros; simp [*]; done)) | fail)
      all_goals first
        | exact h0 _ (.inr (.inl rfl)) _ (Sub.refl _)
        | trivial
    · simp [Heap.set_get, *]
      repeat' (first | refine Keep.go (by assumption) ?_ | refine awp_seq_k fun K hK => ?_ | (refine awp_region ?_; try simp [Heap.set_get, *]) | refine awp_block ?_ | (refine awp_ret ?_; try simp) | (refine awp_skip ?_; try simp) | (refine awp_exit ?_; try simp) | (refine KeepQ.go (by assumption) ?_; try simp [Heap.set_get, *]) | (refine awp_cond' ?_; try simp [Heap.set_get, *]) | refine And.intro (by omega) ?_ | refine And.intro (by assumption) ?_ | refine and_lf (by omega) ?_ | refine and_rf ?_ (by omega) | refine and_imps (fun _ => ?_) (fun _ => ?_) | refine arounds_k fun K hK => ?_ | refine Or.inl ⟨by omega, ?_⟩ | refine Or.inr ⟨by omega, ?_⟩ | refine or_split (fun _ => ?_) (fun _ => ?_) | exact Sub.refl _ | refine imp_in fun _ => ?_ | refine and_ri ?_ (fun _ => ?_) | refine and_li (fun _ => ?_) ?_ | (refine And.intro ?_ ?_; focus (intros; simp [*]; done)) | fail)
      all_goals exact h0 _ (.inl rfl) _ (Sub.refl _)
  | cons a l =>
    simp only [List.length_cons] at hl
    refine acalls_of Tryd.func36 rfl Tryd.ntmps36 (congrArg Array.toList Tryd.results36) fun Q hQ => ?_
    repeat' (first | refine Keep.go (by assumption) ?_ | refine awp_seq_k fun K hK => ?_ | (refine awp_region ?_; try simp [Heap.set_get, *]) | refine awp_block ?_ | (refine awp_ret ?_; try simp) | (refine awp_skip ?_; try simp) | (refine awp_exit ?_; try simp) | (refine KeepQ.go (by assumption) ?_; try simp [Heap.set_get, *]) | (refine awp_cond' ?_; try simp [Heap.set_get, *]) | refine And.intro (by omega) ?_ | refine And.intro (by assumption) ?_ | refine and_lf (by omega) ?_ | refine and_rf ?_ (by omega) | refine and_imps (fun _ => ?_) (fun _ => ?_) | refine arounds_k fun K hK => ?_ | refine Or.inl ⟨by omega, ?_⟩ | refine Or.inr ⟨by omega, ?_⟩ | refine or_split (fun _ => ?_) (fun _ => ?_) | exact Sub.refl _ | refine imp_in fun _ => ?_ | refine and_ri ?_ (fun _ => ?_) | refine and_li (fun _ => ?_) ?_ | (refine And.intro ?_ ?_; focus (intros; simp [*]; done)) | fail)
    intro b hb
    cases b
    · simp [Heap.set_get, *]
      repeat' (first | refine Keep.go (by assumption) ?_ | refine awp_seq_k fun K hK => ?_ | (refine awp_region ?_; try simp [Heap.set_get, *]) | refine awp_block ?_ | (refine awp_ret ?_; try simp) | (refine awp_skip ?_; try simp) | (refine awp_exit ?_; try simp) | (refine KeepQ.go (by assumption) ?_; try simp [Heap.set_get, *]) | (refine awp_cond' ?_; try simp [Heap.set_get, *]) | refine And.intro (by omega) ?_ | refine And.intro (by assumption) ?_ | refine and_lf (by omega) ?_ | refine and_rf ?_ (by omega) | refine and_imps (fun _ => ?_) (fun _ => ?_) | refine arounds_k fun K hK => ?_ | refine Or.inl ⟨by omega, ?_⟩ | refine Or.inr ⟨by omega, ?_⟩ | refine or_split (fun _ => ?_) (fun _ => ?_) | exact Sub.refl _ | refine imp_in fun _ => ?_ | refine and_ri ?_ (fun _ => ?_) | refine and_li (fun _ => ?_) ?_ | (refine And.intro ?_ ?_; focus (intros; simp [*]; done)) | fail)
      refine .inl ?_
      intro b k e hb
      have hb' : h b = none := by
        rcases hb with hb | ⟨k, e, hb⟩
        · exact hb
        · cases hb
      have := h0 _ (.inr (.inr ⟨b, k, e, rfl⟩)) _ ((Sub.refl h).loc hb' (.spare k e))
      simp only [ints, List.map_cons] at this
      simp [Heap.set_get, *]
      repeat' (first | refine Keep.go (by assumption) ?_ | refine awp_seq_k fun K hK => ?_ | (refine awp_region ?_; try simp [Heap.set_get, *]) | refine awp_block ?_ | (refine awp_ret ?_; try simp) | (refine awp_skip ?_; try simp) | (refine awp_exit ?_; try simp) | (refine KeepQ.go (by assumption) ?_; try simp [Heap.set_get, *]) | (refine awp_cond' ?_; try simp [Heap.set_get, *]) | refine And.intro (by omega) ?_ | refine And.intro (by assumption) ?_ | refine and_lf (by omega) ?_ | refine and_rf ?_ (by omega) | refine and_imps (fun _ => ?_) (fun _ => ?_) | refine arounds_k fun K hK => ?_ | refine Or.inl ⟨by omega, ?_⟩ | refine Or.inr ⟨by omega, ?_⟩ | refine or_split (fun _ => ?_) (fun _ => ?_) | exact Sub.refl _ | refine imp_in fun _ => ?_ | refine and_ri ?_ (fun _ => ?_) | refine and_li (fun _ => ?_) ?_ | (refine And.intro ?_ ?_; focus (intros; simp [*]; done)) | fail)
      all_goals first
        | exact this
        | trace_state
    · exact absurd (hb rfl) (by simp)
set_option maxRecDepth 100000 in
theorem ClipIF_c (l : List Int) (tok : Tok) (hl : l.length ≤ 281474976710) (h : Heap) (R : AV → Heap → Prop) (hR : R (.list 1 (ints l) .full) h) :
    ACalls Tryd.prog 57 [.list 1 (ints l) tok] h R := by
  have htk : List.take l.length (ints l) = ints l := List.take_of_length_le (by simp)
  refine acalls_of Tryd.func57 rfl Tryd.ntmps57 (congrArg Array.toList Tryd.results57) fun Q hQ => ?_
  repeat' (first | refine Keep.go (by assumption) ?_ | refine awp_seq_k fun K hK => ?_ | (refine awp_region ?_; try simp [Heap.set_get, *]) | refine awp_block ?_ | (refine awp_ret ?_; try simp) | (refine awp_skip ?_; try simp) | (refine awp_exit ?_; try simp) | (refine KeepQ.go (by assumption) ?_; try simp [Heap.set_get, *]) | (refine awp_cond' ?_; try simp [Heap.set_get, *]) | refine And.intro (by omega) ?_ | refine And.intro (by assumption) ?_ | refine and_lf (by omega) ?_ | refine and_rf ?_ (by omega) | refine and_imps (fun _ => ?_) (fun _ => ?_) | refine arounds_k fun K hK => ?_ | refine Or.inl ⟨by omega, ?_⟩ | refine Or.inr ⟨by omega, ?_⟩ | refine or_split (fun _ => ?_) (fun _ => ?_) | exact Sub.refl _ | refine imp_in fun _ => ?_ | refine and_ri ?_ (fun _ => ?_) | refine and_li (fun _ => ?_) ?_ | (refine And.intro ?_ ?_; focus (intros; simp [*]; done)) | fail)
  all_goals first
    | exact hR
    | trace_state
theorem ownIF_c (l : List Int) (hl : l.length ≤ 281474976710) (h : Heap) (R : AV → Heap → Prop)
    (h0 : R (.list 1 (ints l) .full) h) :
    ACalls Tryd.prog 45 [.list 1 (ints l) .no] h R := by
  refine ACalls.pure ?_ h0
  refine acalls_of Tryd.func45 rfl Tryd.ntmps45 (congrArg Array.toList Tryd.results45) fun Q hQ => ?_
  repeat' (first | refine Keep.go (by assumption) ?_ | refine awp_seq_k fun K hK => ?_ | (refine awp_region ?_; try simp [Heap.set_get, *]) | refine awp_block ?_ | (refine awp_ret ?_; try simp) | (refine awp_skip ?_; try simp) | (refine awp_exit ?_; try simp) | (refine KeepQ.go (by assumption) ?_; try simp [Heap.set_get, *]) | (refine awp_cond' ?_; try simp [Heap.set_get, *]) | refine And.intro (by omega) ?_ | refine And.intro (by assumption) ?_ | refine and_lf (by omega) ?_ | refine and_rf ?_ (by omega) | refine and_imps (fun _ => ?_) (fun _ => ?_) | refine arounds_k fun K hK => ?_ | refine Or.inl ⟨by omega, ?_⟩ | refine Or.inr ⟨by omega, ?_⟩ | refine or_split (fun _ => ?_) (fun _ => ?_) | exact Sub.refl _ | refine imp_in fun _ => ?_ | refine and_ri ?_ (fun _ => ?_) | refine and_li (fun _ => ?_) ?_ | (refine And.intro ?_ ?_; focus (intros; simp [*]; done)) | fail)
  refine CloneIF_c l hl _ _ (fun tok _ g hg => ?_)
  simp [Heap.set_get, *]
  refine ClipIF_c _ _ hl _ _ ?_
  simp [Heap.set_get, *]
  repeat' (first | refine Keep.go (by assumption) ?_ | refine awp_seq_k fun K hK => ?_ | (refine awp_region ?_; try simp [Heap.set_get, *]) | refine awp_block ?_ | (refine awp_ret ?_; try simp) | (refine awp_skip ?_; try simp) | (refine awp_exit ?_; try simp) | (refine KeepQ.go (by assumption) ?_; try simp [Heap.set_get, *]) | (refine awp_cond' ?_; try simp [Heap.set_get, *]) | refine And.intro (by omega) ?_ | refine And.intro (by assumption) ?_ | refine and_lf (by omega) ?_ | refine and_rf ?_ (by omega) | refine and_imps (fun _ => ?_) (fun _ => ?_) | refine arounds_k fun K hK => ?_ | refine Or.inl ⟨by omega, ?_⟩ | refine Or.inr ⟨by omega, ?_⟩ | refine or_split (fun _ => ?_) (fun _ => ?_) | exact Sub.refl _ | refine imp_in fun _ => ?_ | refine and_ri ?_ (fun _ => ?_) | refine and_li (fun _ => ?_) ?_ | (refine And.intro ?_ ?_; focus (intros; simp [*]; done)) | fail)

abbrev rowF (n : Nd) : List AV := ndRow n .full
theorem chunk_rows {A : Type} (f : A → List AV) (k : Nat) (hf : ∀ a, (f a).length = k) : ∀ (l : List A) (cs : List AV), cs.length = l.length * k → (∀ j (hj : j < l.length) q, q < k → cs.getD (j * k + q) .any = (f l[j]).getD q .any) → chunk l.length k cs = l.map f
  | [], _, _, _ => rfl
  | a :: l, cs, hl, hg => by
    rw [List.length_cons, Nat.add_mul, Nat.one_mul] at hl
    simp only [chunk, List.length_cons, List.map_cons]
    congr 1
    · apply List.ext_getElem?
      intro q
      by_cases hq : q < k
      · have h1 := hg 0 (by simp) q hq
        simp only [Nat.zero_mul, Nat.zero_add, List.getElem_cons_zero, List.getD] at h1
        rw [List.getElem?_take_of_lt hq]
        have h2 : q < cs.length := by omega
        have h3 : q < (f a).length := by rw [hf]; exact hq
        rw [List.getElem?_eq_getElem h2, List.getElem?_eq_getElem h3] at h1 ⊢
        simpa using h1
      · rw [List.getElem?_eq_none (by simp; omega), List.getElem?_eq_none (by rw [hf]; omega)]
    · refine chunk_rows f k hf l (cs.drop k) (by simp; omega) (fun j hj q hq => ?_)
      have h1 := hg (j + 1) (by simpa using hj) q hq
      simp only [List.getElem_cons_succ] at h1
      rw [← h1]
      simp only [List.getD, List.getElem?_drop]
      congr 2
      rw [Nat.add_mul]; omega
theorem getD_rows_append (l : List Nd) (sp : List AV) (j q : Nat) (hj : j < l.length) (hq : q < 5) : ((l.map row).flatten ++ sp).getD (j * 5 + q) .any = (row l[j]).getD q .any := by
  have h1 : ∀ r ∈ l.map row, r.length = 5 := by simp [ndRow]
  have h2 := getD_flatten (sz := 5) (l.map row) h1 j q (by simpa using hj) hq
  have h3 := length_flatten (sz := 5) (l.map row) h1
  simp only [List.length_map] at h3
  have h4 : j * 5 + q < l.length * 5 := by omega
  simp only [List.getD] at h2 ⊢
  rw [List.getElem?_append_left (by omega), h2]
  simp [hj]
theorem View.agg1 {x y : AV} {h g : Heap} (hv : View x h y g) : View (.agg [x]) h (.agg [y]) g := fun w0 F w v hi hr => by
  obtain ⟨cs, rfl, hc⟩ := hr.agg_inv
  obtain ⟨F', m, i, r⟩ := hv w0 F w _ hi (hc.2 0 (by simp))
  refine ⟨F', m, i, .agg cs [y] (by rw [hc.1]; rfl) fun k hk => ?_⟩
  have : k = 0 := by simpa using hk
  subst this
  exact r
theorem sub_of_eq' {g h : Heap} (e : g = h) : AL.Sub g h := e ▸ Sub.refl _
set_option maxRecDepth 100000 in
set_option maxHeartbeats 4000000 in
theorem CloneM_c (nodes : List Nd) (hl : nodes.length ≤ 131072) (hk : ∀ n ∈ nodes, n.kids.length ≤ 281474976710) (h : Heap) (R : AV → Heap → Prop) (hne : nodes ≠ [])
    (hR : ∀ b cs g, h b = none → nodes.length * 5 ≤ cs.length → (∀ j (hj : j < nodes.length) q, q < 5 → cs.getD (j * 5 + q) .any = (rowF nodes[j]).getD q .any) → AL.Sub h g → g b = some (.cells cs) → R (.agg [.arr b 0 nodes.length nodes.length]) g) :
    ACalls Tryd.prog 30 [treeAV nodes .no] h R := by
  refine acalls_of Tryd.func30 rfl Tryd.ntmps30 (congrArg Array.toList Tryd.results30) fun Q hQ => ?_
  repeat' (first | refine Keep.go (by assumption) ?_ | refine awp_seq_k fun K hK => ?_ | (refine awp_region ?_; try simp [Heap.set_get, *]) | refine awp_block ?_ | (refine awp_ret ?_; try simp) | (refine awp_skip ?_; try simp) | (refine awp_exit ?_; try simp) | (refine KeepQ.go (by assumption) ?_; try simp [Heap.set_get, *]) | (refine awp_cond' ?_; try simp [Heap.set_get, *]) | refine And.intro (by omega) ?_ | refine And.intro (by assumption) ?_ | refine and_lf (by omega) ?_ | refine and_rf ?_ (by omega) | refine and_imps (fun _ => ?_) (fun _ => ?_) | refine arounds_k fun K hK => ?_ | refine Or.inl ⟨by omega, ?_⟩ | refine Or.inr ⟨by omega, ?_⟩ | refine or_split (fun _ => ?_) (fun _ => ?_) | exact Sub.refl _ | refine imp_in fun _ => ?_ | refine and_ri ?_ (fun _ => ?_) | refine and_li (fun _ => ?_) ?_ | (refine And.intro ?_ ?_; focus (intros; simp [*]; done)) | fail)
  intro b1 hb1; simp only [Fresh, Heap.set_none] at hb1; try simp [Heap.set_get, *]
  intro b2 hb2; simp only [Fresh, Heap.set_none] at hb2; try simp [Heap.set_get, *]
  repeat' (first | refine Keep.go (by assumption) ?_ | refine awp_seq_k fun K hK => ?_ | (refine awp_region ?_; try simp [Heap.set_get, *]) | refine awp_block ?_ | (refine awp_ret ?_; try simp) | (refine awp_skip ?_; try simp) | (refine awp_exit ?_; try simp) | (refine KeepQ.go (by assumption) ?_; try simp [Heap.set_get, *]) | (refine awp_cond' ?_; try simp [Heap.set_get, *]) | refine And.intro (by omega) ?_ | refine And.intro (by assumption) ?_ | refine and_lf (by omega) ?_ | refine and_rf ?_ (by omega) | refine and_imps (fun _ => ?_) (fun _ => ?_) | refine arounds_k fun K hK => ?_ | refine Or.inl ⟨by omega, ?_⟩ | refine Or.inr ⟨by omega, ?_⟩ | refine or_split (fun _ => ?_) (fun _ => ?_) | exact Sub.refl _ | refine imp_in fun _ => ?_ | refine and_ri ?_ (fun _ => ?_) | refine and_li (fun _ => ?_) ?_ | (refine And.intro ?_ ?_; focus (intros; simp [*]; done)) | fail)
  refine ownN_c nodes (by omega) _ _ (fun e => absurd e hne) (fun _ bn c hbn hc => ?_)
  simp only [Heap.set_none] at hbn
  simp [Heap.set_get, *]
  repeat' (first | refine Keep.go (by assumption) ?_ | refine awp_seq_k fun K hK => ?_ | (refine awp_region ?_; try simp [Heap.set_get, *]) | refine awp_block ?_ | (refine awp_ret ?_; try simp) | (refine awp_skip ?_; try simp) | (refine awp_exit ?_; try simp) | (refine KeepQ.go (by assumption) ?_; try simp [Heap.set_get, *]) | (refine awp_cond' ?_; try simp [Heap.set_get, *]) | refine And.intro (by omega) ?_ | refine And.intro (by assumption) ?_ | refine and_lf (by omega) ?_ | refine and_rf ?_ (by omega) | refine and_imps (fun _ => ?_) (fun _ => ?_) | refine arounds_k fun K hK => ?_ | refine Or.inl ⟨by omega, ?_⟩ | refine Or.inr ⟨by omega, ?_⟩ | refine or_split (fun _ => ?_) (fun _ => ?_) | exact Sub.refl _ | refine imp_in fun _ => ?_ | refine and_ri ?_ (fun _ => ?_) | refine and_li (fun _ => ?_) ?_ | (refine And.intro ?_ ?_; focus (intros; simp [*]; done)) | fail)
  intro b3 hb3; simp only [Fresh, Heap.set_none] at hb3; try simp [Heap.set_get, *]
  repeat' (first | refine Keep.go (by assumption) ?_ | refine awp_seq_k fun K hK => ?_ | (refine awp_region ?_; try simp [Heap.set_get, *]) | refine awp_block ?_ | (refine awp_ret ?_; try simp) | (refine awp_skip ?_; try simp) | (refine awp_exit ?_; try simp) | (refine KeepQ.go (by assumption) ?_; try simp [Heap.set_get, *]) | (refine awp_cond' ?_; try simp [Heap.set_get, *]) | refine And.intro (by omega) ?_ | refine And.intro (by assumption) ?_ | refine and_lf (by omega) ?_ | refine and_rf ?_ (by omega) | refine and_imps (fun _ => ?_) (fun _ => ?_) | refine arounds_k fun K hK => ?_ | refine Or.inl ⟨by omega, ?_⟩ | refine Or.inr ⟨by omega, ?_⟩ | refine or_split (fun _ => ?_) (fun _ => ?_) | exact Sub.refl _ | refine imp_in fun _ => ?_ | refine and_ri ?_ (fun _ => ?_) | refine and_li (fun _ => ?_) ?_ | (refine And.intro ?_ ?_; focus (intros; simp [*]; done)) | fail)
  have hpos : 0 < nodes.length := List.length_pos_iff.2 hne
  refine awp_loop_h [4, 12, 13, 14, 15, 16, 17, 18, 19, 20, 21, 22, 23, 24, 25, 26, 27] (fun m x g => ∃ (i : Nat) (cs : List AV), i ≤ nodes.length ∧ m = nodes.length - i ∧ x 12 = .int .i64 i ∧ nodes.length * 5 ≤ cs.length ∧
    (∀ j (hj : j < nodes.length) q, q < 5 → cs.getD (j * 5 + q) .any = (if j < i then rowF nodes[j] else row nodes[j]).getD q .any) ∧ 
    g = ((((h.set b1 (.cells [AV.list 5 (List.map row nodes) .no])).set b2 (.cells [.list 5 [] .nil])).set bn (.cells cs)).set b3 (.cells [.arr bn 0 nodes.length nodes.length]))) nodes.length
    ⟨0, _, by omega, by omega, rfl, ?_, fun j hj q hq => by simpa using getD_rows_append nodes (List.replicate ((c - nodes.length) * 5) .any) j q hj hq, rfl⟩ (fun m x g hI K hK => ?_)
  · rw [List.length_append, length_flatten (sz := 5) (nodes.map row) (by simp [ndRow])]; simp
  obtain ⟨i, cs, hi, rfl, hx, hcl, hcs, rfl⟩ := hI
  have w1 : IntKind.i64.wrap ((i : Int) + 1) = i + 1 := w64 (by omega) (by omega)
  by_cases hlt : i < nodes.length
  · have h4 := hcs i hlt 4 (by omega)
    simp only [Nat.lt_irrefl, if_false] at h4
    have h4' : cs[i * 5 + 4]? = some (.list 1 (ints nodes[i].kids) .no) := by
      have h5 : i * 5 + 4 < cs.length := by omega
      rw [List.getElem?_eq_getElem h5]
      simp only [List.getD, List.getElem?_eq_getElem h5, Option.getD_some] at h4
      rw [h4]; rfl
    have h5 : i * 5 + 4 < cs.length := by omega
    have h6 : cs[i * 5 + 4] = .list 1 (ints nodes[i].kids) .no := by
      rw [List.getElem?_eq_getElem h5] at h4'
      exact Option.some.inj h4'
    simp (maxSteps := 10000000) only [AgainAt, hav, List.contains_cons, List.contains_nil, Bool.or_false, Nat.reduceAdd, Nat.reduceBEq, Bool.or_true, Bool.true_or, Bool.false_or, if_true, if_false, Bool.false_eq_true]
    repeat' (first | refine Keep.go (by assumption) ?_ | refine awp_seq_k fun K hK => ?_ | (refine awp_region ?_; try simp [Heap.set_get, *]) | refine awp_block ?_ | (refine awp_ret ?_; try simp) | (refine awp_skip ?_; try simp) | (refine awp_exit ?_; try simp) | (refine KeepQ.go (by assumption) ?_; try simp [Heap.set_get, *]) | (refine awp_cond' ?_; try simp [Heap.set_get, *]) | refine And.intro (by omega) ?_ | refine And.intro (by assumption) ?_ | refine and_lf (by omega) ?_ | refine and_rf ?_ (by omega) | refine and_imps (fun _ => ?_) (fun _ => ?_) | refine arounds_k fun K hK => ?_ | refine Or.inl ⟨by omega, ?_⟩ | refine Or.inr ⟨by omega, ?_⟩ | refine or_split (fun _ => ?_) (fun _ => ?_) | exact Sub.refl _ | refine imp_in fun _ => ?_ | refine and_ri ?_ (fun _ => ?_) | refine and_li (fun _ => ?_) ?_ | (refine And.intro ?_ ?_; focus (intros; simp [*]; done)) | fail)
    refine awp_region_draw [b3, bn] [(0, true), (1, true), (2, true), (3, true), (4, true), (5, true), (6, true), (7, true), (8, true), (9, false)] [10, 11, 12] follows (by kernel_rfl) rfl (by kernel_rfl) ?_; simp [Heap.set_get, Heap.plus_set, *]
    refine ownIF_c nodes[i].kids (hk _ (List.getElem_mem hlt)) _ _ ?_
    simp [Heap.set_get, Heap.plus_set, *]
    repeat' (first | refine Keep.go (by assumption) ?_ | refine awp_seq_k fun K hK => ?_ | (refine awp_region ?_; try simp [Heap.set_get, *]) | refine awp_block ?_ | (refine awp_ret ?_; try simp) | (refine awp_skip ?_; try simp) | (refine awp_exit ?_; try simp) | (refine KeepQ.go (by assumption) ?_; try simp [Heap.set_get, *]) | (refine awp_cond' ?_; try simp [Heap.set_get, *]) | refine And.intro (by omega) ?_ | refine And.intro (by assumption) ?_ | refine and_lf (by omega) ?_ | refine and_rf ?_ (by omega) | refine and_imps (fun _ => ?_) (fun _ => ?_) | refine arounds_k fun K hK => ?_ | refine Or.inl ⟨by omega, ?_⟩ | refine Or.inr ⟨by omega, ?_⟩ | refine or_split (fun _ => ?_) (fun _ => ?_) | exact Sub.refl _ | refine imp_in fun _ => ?_ | refine and_ri ?_ (fun _ => ?_) | refine and_li (fun _ => ?_) ?_ | (refine And.intro ?_ ?_; focus (intros; simp [*]; done)) | fail)
    have hsp := splice_getD cs (i * 5 + 4) [.list 1 (ints nodes[i].kids) .full] (by simp; omega)
    have hsl := splice_length cs (i * 5 + 4) [.list 1 (ints nodes[i].kids) .full] (by simp; omega)
    simp only [splice, List.append_assoc, List.cons_append, List.nil_append, List.length_singleton] at hsp hsl
    refine ⟨by simp [hav], rfl, nodes.length - (i + 1), _, by omega, ?_, i + 1, _, by omega, rfl, by simp, by rw [hsl]; exact hcl, fun j hj q hq => ?_, rfl⟩
    · refine sub_of_eq' ?_
      funext d
      simp only [Heap.set_get]
      by_cases c1 : d = b3
      · simp [c1, hb3]
      · by_cases c2 : d = bn
        · simp [c2, hb3]
        · simp [c1, c2]
    · have h7 : j * 5 + q < cs.length := by omega
      rw [hsp (j * 5 + q) h7, hcs j hj q hq]
      by_cases e : j = i
      · subst e
        by_cases e2 : q = 4
        · subst e2; simp
        · have e3 : ¬ (j * 5 + 4 ≤ j * 5 + q ∧ j * 5 + q < j * 5 + 4 + 1) := by omega
          simp only [e3, if_false, Nat.lt_irrefl, Nat.lt_succ_self, if_true]
          have e5 : q = 0 ∨ q = 1 ∨ q = 2 ∨ q = 3 := by omega
          rcases e5 with rfl | rfl | rfl | rfl <;> rfl
      · have e3 : ¬ (i * 5 + 4 ≤ j * 5 + q ∧ j * 5 + q < i * 5 + 4 + 1) := by omega
        have e4 : (j < i + 1) = (j < i) := propext ⟨fun _ => by omega, fun _ => by omega⟩
        simp only [e3, if_false, e4]
  · simp (maxSteps := 10000000) only [AgainAt, hav, List.contains_cons, List.contains_nil, Bool.or_false, Nat.reduceAdd, Nat.reduceBEq, Bool.or_true, Bool.true_or, Bool.false_or, if_true, if_false, Bool.false_eq_true]
    repeat' (first | refine Keep.go (by assumption) ?_ | refine awp_seq_k fun K hK => ?_ | (refine awp_region ?_; try simp [Heap.set_get, *]) | refine awp_block ?_ | (refine awp_ret ?_; try simp) | (refine awp_skip ?_; try simp) | (refine awp_exit ?_; try simp) | (refine KeepQ.go (by assumption) ?_; try simp [Heap.set_get, *]) | (refine awp_cond' ?_; try simp [Heap.set_get, *]) | refine And.intro (by omega) ?_ | refine And.intro (by assumption) ?_ | refine and_lf (by omega) ?_ | refine and_rf ?_ (by omega) | refine and_imps (fun _ => ?_) (fun _ => ?_) | refine arounds_k fun K hK => ?_ | refine Or.inl ⟨by omega, ?_⟩ | refine Or.inr ⟨by omega, ?_⟩ | refine or_split (fun _ => ?_) (fun _ => ?_) | exact Sub.refl _ | refine imp_in fun _ => ?_ | refine and_ri ?_ (fun _ => ?_) | refine and_li (fun _ => ?_) ?_ | (refine And.intro ?_ ?_; focus (intros; simp [*]; done)) | fail)
    refine hR bn cs _ hbn.2.2.2.2 hcl (fun j hj q hq => ?_) (by (repeat (first | exact Sub.refl _ | refine Sub.loc ?_ (by simp [*]) _))) (by simp [Heap.set_get, hb3, hbn])
    have := hcs j hj q hq
    rwa [if_pos (by omega)] at this

theorem ndRow_weak (n : Nd) (tok : Tok) : WeakL (ndRow n tok) (row n) := .cons (.refl _) (.cons (.refl _) (.cons (.refl _) (.cons (.refl _) (.cons (Weak.tok _ _ _) .nil))))
theorem rows_weak (nodes : List Nd) (tok : Tok) (t : Tok) : Weak (.list 5 (nodes.map fun n => ndRow n tok) t) (.list 5 (nodes.map row) t) :=
  Weak.rows (by simp) fun i hi => by
    have hi' : i < nodes.length := by simpa using hi
    simpa [List.getD, hi'] using ndRow_weak nodes[i] tok
/-- A copy, that nobody will write. -/
theorem Clone_c (nodes : List Nd) (hl : nodes.length ≤ 131072) (hk : ∀ n ∈ nodes, n.kids.length ≤ 281474976710) (h : Heap) (R : AV → Heap → Prop) (hne : nodes ≠ [])
    (hR : R (treeAV nodes .no) h) : ACalls Tryd.prog 30 [treeAV nodes .no] h R := by
  refine ACalls.conv (R' := fun y g => ∃ b cs, h b = none ∧ nodes.length * 5 ≤ cs.length ∧ (∀ j (hj : j < nodes.length) q, q < 5 → cs.getD (j * 5 + q) .any = (rowF nodes[j]).getD q .any) ∧ AL.Sub h g ∧ g b = some (.cells cs) ∧ y = .agg [.arr b 0 nodes.length nodes.length])
    (CloneM_c nodes hl hk h _ hne fun b cs g h1 h2 h3 h4 h5 => ⟨b, cs, h1, h2, h3, h4, h5, rfl⟩) ?_
  rintro x g ⟨b, cs, h1, h2, h3, h4, h5, rfl⟩
  refine ⟨_, h, View.trans (View.agg1 (View.freeze (off := 0) (sz := 5) h5 (by omega) (Nat.le_refl _) (.inr ⟨rfl, rfl⟩))) (View.of ?_ (h4.del h1)), hR⟩
  have hch : chunk nodes.length 5 ((cs.drop 0).take (nodes.length * 5)) = nodes.map rowF := by
    refine chunk_rows rowF 5 (fun _ => rfl) nodes _ (by simp; omega) fun j hj q hq => ?_
    rw [← h3 j hj q hq]
    simp only [List.drop_zero, List.getD]
    rw [List.getElem?_take_of_lt (by omega)]
  rw [hch]
  exact Weak.agg (.cons (fun F v hr => Weak.tok _ _ _ F v (rows_weak nodes .full .full F v hr)) .nil)
end Go.Proofs.YtmnkalojpefclaaDoor
