import Derived.Test.YtmnkalojpefclaaDoorWB
set_option linter.unusedSimpArgs false
set_option linter.unusedVariables false
namespace Go.Proofs.YtmnkalojpefclaaDoor
open Go Go.AL Go.Proofs
-- NOPICK
attribute [local simp] pickV_b pickV_s pickV_i
set_option maxRecDepth 100000 in
set_option maxHeartbeats 16000000 in
theorem Wrong_c (nodes : List Nd) (hok : ∀ n ∈ nodes, NdOk n) (hks : ∀ n ∈ nodes, n.kids.length ≤ 281474976710) (hl : nodes.length ≤ 281474976710656) (h : Heap) (R : AV → Heap → Prop)
    (hR : R (.tup [.int .i64 (wrongL nodes).1, .int .i64 (wrongL nodes).2]) h) : ACalls Tryd.prog 9 [treeAV nodes .no] h R := by
  refine ACalls.pure ?_ hR
  clear hR
  by_cases h0 : nodes.length = 0
  · have hn : nodes = [] := List.eq_nil_of_length_eq_zero h0
    subst hn
    refine acalls_of Tryd.func9 rfl Tryd.ntmps9 (congrArg Array.toList Tryd.results9) fun Q hQ => ?_
    repeat' (first | refine Keep.go (by assumption) ?_ | refine awp_seq_k fun K hK => ?_ | (refine awp_region ?_; try simp [Heap.set_get, -pickV, *]) | refine awp_block ?_ | (refine awp_ret ?_; try simp) | (refine awp_skip ?_; try simp) | (refine awp_exit ?_; try simp) | (refine KeepQ.go (by assumption) ?_; try simp [Heap.set_get, -pickV, *]) | (refine awp_cond' ?_; try simp [Heap.set_get, -pickV, *]) | refine And.intro (by omega) ?_ | refine And.intro (by assumption) ?_ | refine and_lf (by omega) ?_ | refine and_rf ?_ (by omega) | refine and_imps (fun _ => ?_) (fun _ => ?_) | refine arounds_k fun K hK => ?_ | refine Or.inl ⟨by omega, ?_⟩ | refine Or.inr ⟨by omega, ?_⟩ | refine or_split (fun _ => ?_) (fun _ => ?_) | exact Sub.refl _ | refine imp_in fun _ => ?_ | refine and_ri ?_ (fun _ => ?_) | refine and_li (fun _ => ?_) ?_ | (refine And.intro ?_ ?_; focus (intros; simp [*]; done)) | fail)
    intro b1 hb1; simp only [Fresh, Heap.set_none] at hb1; try simp [Heap.set_get, -pickV, *]
    repeat' (first | refine Keep.go (by assumption) ?_ | refine awp_seq_k fun K hK => ?_ | (refine awp_region ?_; try simp [Heap.set_get, -pickV, *]) | refine awp_block ?_ | (refine awp_ret ?_; try simp) | (refine awp_skip ?_; try simp) | (refine awp_exit ?_; try simp) | (refine KeepQ.go (by assumption) ?_; try simp [Heap.set_get, -pickV, *]) | (refine awp_cond' ?_; try simp [Heap.set_get, -pickV, *]) | refine And.intro (by omega) ?_ | refine And.intro (by assumption) ?_ | refine and_lf (by omega) ?_ | refine and_rf ?_ (by omega) | refine and_imps (fun _ => ?_) (fun _ => ?_) | refine arounds_k fun K hK => ?_ | refine Or.inl ⟨by omega, ?_⟩ | refine Or.inr ⟨by omega, ?_⟩ | refine or_split (fun _ => ?_) (fun _ => ?_) | exact Sub.refl _ | refine imp_in fun _ => ?_ | refine and_ri ?_ (fun _ => ?_) | refine and_li (fun _ => ?_) ?_ | (refine And.intro ?_ ?_; focus (intros; simp [*]; done)) | fail)
    all_goals first
      | exact ⟨by simp [wrongL, checkG], (Sub.refl h).loc hb1 _⟩
  by_cases h1 : 131072 < nodes.length
  · refine acalls_of Tryd.func9 rfl Tryd.ntmps9 (congrArg Array.toList Tryd.results9) fun Q hQ => ?_
    repeat' (first | refine Keep.go (by assumption) ?_ | refine awp_seq_k fun K hK => ?_ | (refine awp_region ?_; try simp [Heap.set_get, -pickV, *]) | refine awp_block ?_ | (refine awp_ret ?_; try simp) | (refine awp_skip ?_; try simp) | (refine awp_exit ?_; try simp) | (refine KeepQ.go (by assumption) ?_; try simp [Heap.set_get, -pickV, *]) | (refine awp_cond' ?_; try simp [Heap.set_get, -pickV, *]) | refine And.intro (by omega) ?_ | refine And.intro (by assumption) ?_ | refine and_lf (by omega) ?_ | refine and_rf ?_ (by omega) | refine and_imps (fun _ => ?_) (fun _ => ?_) | refine arounds_k fun K hK => ?_ | refine Or.inl ⟨by omega, ?_⟩ | refine Or.inr ⟨by omega, ?_⟩ | refine or_split (fun _ => ?_) (fun _ => ?_) | exact Sub.refl _ | refine imp_in fun _ => ?_ | refine and_ri ?_ (fun _ => ?_) | refine and_li (fun _ => ?_) ?_ | (refine And.intro ?_ ?_; focus (intros; simp [*]; done)) | fail)
    intro b1 hb1; simp only [Fresh, Heap.set_none] at hb1; try simp [Heap.set_get, -pickV, *]
    repeat' (first | refine Keep.go (by assumption) ?_ | refine awp_seq_k fun K hK => ?_ | (refine awp_region ?_; try simp [Heap.set_get, -pickV, *]) | refine awp_block ?_ | (refine awp_ret ?_; try simp) | (refine awp_skip ?_; try simp) | (refine awp_exit ?_; try simp) | (refine KeepQ.go (by assumption) ?_; try simp [Heap.set_get, -pickV, *]) | (refine awp_cond' ?_; try simp [Heap.set_get, -pickV, *]) | refine And.intro (by omega) ?_ | refine And.intro (by assumption) ?_ | refine and_lf (by omega) ?_ | refine and_rf ?_ (by omega) | refine and_imps (fun _ => ?_) (fun _ => ?_) | refine arounds_k fun K hK => ?_ | refine Or.inl ⟨by omega, ?_⟩ | refine Or.inr ⟨by omega, ?_⟩ | refine or_split (fun _ => ?_) (fun _ => ?_) | exact Sub.refl _ | refine imp_in fun _ => ?_ | refine and_ri ?_ (fun _ => ?_) | refine and_li (fun _ => ?_) ?_ | (refine And.intro ?_ ?_; focus (intros; simp [*]; done)) | fail)
    all_goals first
      | exact ⟨by simp [wrongL, checkG, *], (Sub.refl h).loc hb1 _⟩
  have hne : ¬ nodes = [] := fun e => h0 (by rw [e]; rfl)
  refine acalls_of Tryd.func9 rfl Tryd.ntmps9 (congrArg Array.toList Tryd.results9) fun Q hQ => ?_
  repeat' (first | refine Keep.go (by assumption) ?_ | refine awp_seq_k fun K hK => ?_ | (refine awp_region ?_; try simp [Heap.set_get, -pickV, *]) | refine awp_block ?_ | (refine awp_ret ?_; try simp) | (refine awp_skip ?_; try simp) | (refine awp_exit ?_; try simp) | (refine KeepQ.go (by assumption) ?_; try simp [Heap.set_get, -pickV, *]) | (refine awp_cond' ?_; try simp [Heap.set_get, -pickV, *]) | refine And.intro (by omega) ?_ | refine And.intro (by assumption) ?_ | refine and_lf (by omega) ?_ | refine and_rf ?_ (by omega) | refine and_imps (fun _ => ?_) (fun _ => ?_) | refine arounds_k fun K hK => ?_ | refine Or.inl ⟨by omega, ?_⟩ | refine Or.inr ⟨by omega, ?_⟩ | refine or_split (fun _ => ?_) (fun _ => ?_) | exact Sub.refl _ | refine imp_in fun _ => ?_ | refine and_ri ?_ (fun _ => ?_) | refine and_li (fun _ => ?_) ?_ | (refine And.intro ?_ ?_; focus (intros; simp [*]; done)) | fail)
  intro b1 hb1; simp only [Fresh, Heap.set_none] at hb1; try simp [Heap.set_get, -pickV, *]
  repeat' (first | refine Keep.go (by assumption) ?_ | refine awp_seq_k fun K hK => ?_ | (refine awp_region ?_; try simp [Heap.set_get, -pickV, *]) | refine awp_block ?_ | (refine awp_ret ?_; try simp) | (refine awp_skip ?_; try simp) | (refine awp_exit ?_; try simp) | (refine KeepQ.go (by assumption) ?_; try simp [Heap.set_get, -pickV, *]) | (refine awp_cond' ?_; try simp [Heap.set_get, -pickV, *]) | refine And.intro (by omega) ?_ | refine And.intro (by assumption) ?_ | refine and_lf (by omega) ?_ | refine and_rf ?_ (by omega) | refine and_imps (fun _ => ?_) (fun _ => ?_) | refine arounds_k fun K hK => ?_ | refine Or.inl ⟨by omega, ?_⟩ | refine Or.inr ⟨by omega, ?_⟩ | refine or_split (fun _ => ?_) (fun _ => ?_) | exact Sub.refl _ | refine imp_in fun _ => ?_ | refine and_ri ?_ (fun _ => ?_) | refine and_li (fun _ => ?_) ?_ | (refine And.intro ?_ ?_; focus (intros; simp [*]; done)) | fail)
  refine MakeK.arr fun bo hbo => ?_
  simp only [Fresh, Heap.set_none] at hbo
  simp [Heap.set_get, -pickV, *]
  repeat' (first | refine Keep.go (by assumption) ?_ | refine awp_seq_k fun K hK => ?_ | (refine awp_region ?_; try simp [Heap.set_get, -pickV, *]) | refine awp_block ?_ | (refine awp_ret ?_; try simp) | (refine awp_skip ?_; try simp) | (refine awp_exit ?_; try simp) | (refine KeepQ.go (by assumption) ?_; try simp [Heap.set_get, -pickV, *]) | (refine awp_cond' ?_; try simp [Heap.set_get, -pickV, *]) | refine And.intro (by omega) ?_ | refine And.intro (by assumption) ?_ | refine and_lf (by omega) ?_ | refine and_rf ?_ (by omega) | refine and_imps (fun _ => ?_) (fun _ => ?_) | refine arounds_k fun K hK => ?_ | refine Or.inl ⟨by omega, ?_⟩ | refine Or.inr ⟨by omega, ?_⟩ | refine or_split (fun _ => ?_) (fun _ => ?_) | exact Sub.refl _ | refine imp_in fun _ => ?_ | refine and_ri ?_ (fun _ => ?_) | refine and_li (fun _ => ?_) ?_ | (refine And.intro ?_ ?_; focus (intros; simp [*]; done)) | fail)
  refine MakeK.arr fun bd hbd => ?_
  simp only [Fresh, Heap.set_none] at hbd
  simp [Heap.set_get, -pickV, *]
  repeat' (first | refine Keep.go (by assumption) ?_ | refine awp_seq_k fun K hK => ?_ | (refine awp_region ?_; try simp [Heap.set_get, -pickV, *]) | refine awp_block ?_ | (refine awp_ret ?_; try simp) | (refine awp_skip ?_; try simp) | (refine awp_exit ?_; try simp) | (refine KeepQ.go (by assumption) ?_; try simp [Heap.set_get, -pickV, *]) | (refine awp_cond' ?_; try simp [Heap.set_get, -pickV, *]) | refine And.intro (by omega) ?_ | refine And.intro (by assumption) ?_ | refine and_lf (by omega) ?_ | refine and_rf ?_ (by omega) | refine and_imps (fun _ => ?_) (fun _ => ?_) | refine arounds_k fun K hK => ?_ | refine Or.inl ⟨by omega, ?_⟩ | refine Or.inr ⟨by omega, ?_⟩ | refine or_split (fun _ => ?_) (fun _ => ?_) | exact Sub.refl _ | refine imp_in fun _ => ?_ | refine and_ri ?_ (fun _ => ?_) | refine and_li (fun _ => ?_) ?_ | (refine And.intro ?_ ?_; focus (intros; simp [*]; done)) | fail)
  have hN : nodes.length ≤ 131072 := by omega
  refine awp_loop_h [2, 3, 6, 7, 8, 9, 10, 11, 12, 13, 14, 15, 36, 37, 38, 39, 40, 41, 42, 43, 44, 45, 46, 47, 48, 49, 50, 51, 52, 53, 54, 55, 56, 57, 58, 59, 60, 61, 62, 63, 64, 65, 66, 67, 68, 69, 70, 71, 72, 73, 74, 75, 76, 77, 78, 79, 80, 81, 82, 83, 84, 85, 86, 87, 88, 89, 90, 91, 92, 93, 94, 95, 96, 97, 98, 99, 100, 101, 102, 103, 104, 105, 106, 107, 108, 109, 110, 111, 112, 113, 114, 115, 116, 117, 118, 119, 120, 121, 122, 123, 124, 125, 126, 127, 128, 129, 130, 131, 132, 133, 134, 135, 136, 137, 138, 139, 140, 141, 142, 143, 144, 145, 146, 147, 148, 149, 150, 151, 152, 153, 154, 155, 156, 157, 158, 159, 160, 161, 162, 163, 164, 165, 166, 167, 168, 169, 170, 171, 172, 173, 174, 175, 176, 177, 178, 179, 180, 181, 182, 183, 184, 185, 186, 187, 188, 189, 190, 191, 192, 193, 194, 195, 196, 197, 198, 199, 200, 201, 202, 203, 204, 205, 206, 207, 208, 209, 210, 211, 212, 213, 214] (fun m x g => ∃ (i : Nat) (o : List Bool) (d : List Int), i ≤ nodes.length ∧ m = nodes.length - i ∧ x 6 = .int .i64 i ∧ o.length = nodes.length ∧ d.length = nodes.length ∧ (∀ j, 0 ≤ d.getD j 0 ∧ d.getD j 0 ≤ j) ∧
    (∀ j (hj : j < nodes.length), j < i → nodes[j].kind = 24 → nodes[j].kids ≠ []) ∧ runG formR goodR nodes (nodes.drop i) i o d = wrongL nodes ∧ WMem h g nodes b1 bo bd o d) nodes.length
    ⟨0, List.replicate nodes.length false, List.replicate nodes.length 0, by omega, by omega, rfl, by simp, by simp, fun j => by simp [List.getD, List.getElem?_replicate]; split <;> simp, fun j _ hj => by omega, by simp [wrongL, checkG, hne, h1], ⟨by simp [Heap.set_get, hbo, hbd], by simp [Heap.set_get, hbd, cnts], by simp [nums], by (repeat (first | exact Sub.refl _ | refine Sub.loc ?_ (by simp [*]) _))⟩⟩ (fun m x g hI K hK => ?_)
  obtain ⟨i, o, d, hi, rfl, hx, hol, hdl, hdb, hcase, hres, hM⟩ := hI
  have m1 := hM.tree
  have m2 := hM.own
  have m3 := hM.deep
  have m4 := hM.sub
  clear hM
  have w1 : IntKind.i64.wrap ((i : Int) + 1) = i + 1 := w64 (by omega) (by omega)
  by_cases hlt : i < nodes.length
  · obtain ⟨n, hn⟩ : ∃ n, nodes[i] = n := ⟨_, rfl⟩
    have hnok : NdOk n := hok n (hn ▸ List.getElem_mem hlt)
    have htl : n.text.length < 9223372036854775807 := by have := hnok.text; omega
    have htl2 : n.text.length < 9223372036854775807 := htl
    simp (maxSteps := 10000000) only [AgainAt, hav, List.contains_cons, List.contains_nil, Bool.or_false, Nat.reduceAdd, Nat.reduceBEq, Bool.or_true, Bool.true_or, Bool.false_or, if_true, if_false, Bool.false_eq_true]
    repeat' (first | refine Keep.go (by assumption) ?_ | refine awp_seq_k fun K hK => ?_ | (refine awp_region ?_; try simp [Heap.set_get, -pickV, *]) | refine awp_block ?_ | (refine awp_ret ?_; try simp) | (refine awp_skip ?_; try simp) | (refine awp_exit ?_; try simp) | (refine KeepQ.go (by assumption) ?_; try simp [Heap.set_get, -pickV, *]) | refine And.intro (by omega) ?_ | refine And.intro (by assumption) ?_ | refine and_lf (by omega) ?_ | refine and_rf ?_ (by omega) | refine and_imps (fun _ => ?_) (fun _ => ?_) | refine arounds_k fun K hK => ?_ | refine Or.inl ⟨by omega, ?_⟩ | refine Or.inr ⟨by omega, ?_⟩ | refine or_split (fun _ => ?_) (fun _ => ?_) | exact Sub.refl _ | refine imp_in fun _ => ?_ | refine and_ri ?_ (fun _ => ?_) | refine and_li (fun _ => ?_) ?_ | (refine And.intro ?_ ?_; focus (intros; simp [*]; done)) | fail)
    (refine awp_cond' ?_; try simp [Heap.set_get, -pickV, *])
    repeat' (first | refine Keep.go (by assumption) ?_ | refine awp_seq_k fun K hK => ?_ | (refine awp_region ?_; try simp [Heap.set_get, -pickV, *]) | refine awp_block ?_ | (refine awp_ret ?_; try simp) | (refine awp_skip ?_; try simp) | (refine awp_exit ?_; try simp) | (refine KeepQ.go (by assumption) ?_; try simp [Heap.set_get, -pickV, *]) | refine And.intro (by omega) ?_ | refine And.intro (by assumption) ?_ | refine and_lf (by omega) ?_ | refine and_rf ?_ (by omega) | refine and_imps (fun _ => ?_) (fun _ => ?_) | refine arounds_k fun K hK => ?_ | refine Or.inl ⟨by omega, ?_⟩ | refine Or.inr ⟨by omega, ?_⟩ | refine or_split (fun _ => ?_) (fun _ => ?_) | exact Sub.refl _ | refine imp_in fun _ => ?_ | refine and_ri ?_ (fun _ => ?_) | refine and_li (fun _ => ?_) ?_ | (refine And.intro ?_ ?_; focus (intros; simp [*]; done)) | fail)
    intro b7 hb7; simp only [Fresh, Heap.set_none] at hb7; try simp [Heap.set_get, -pickV, *]
    repeat' (first | refine Keep.go (by assumption) ?_ | refine awp_seq_k fun K hK => ?_ | (refine awp_region ?_; try simp [Heap.set_get, -pickV, *]) | refine awp_block ?_ | (refine awp_ret ?_; try simp) | (refine awp_skip ?_; try simp) | (refine awp_exit ?_; try simp) | (refine KeepQ.go (by assumption) ?_; try simp [Heap.set_get, -pickV, *]) | refine And.intro (by omega) ?_ | refine And.intro (by assumption) ?_ | refine and_lf (by omega) ?_ | refine and_rf ?_ (by omega) | refine and_imps (fun _ => ?_) (fun _ => ?_) | refine arounds_k fun K hK => ?_ | refine Or.inl ⟨by omega, ?_⟩ | refine Or.inr ⟨by omega, ?_⟩ | refine or_split (fun _ => ?_) (fun _ => ?_) | exact Sub.refl _ | refine imp_in fun _ => ?_ | refine and_ri ?_ (fun _ => ?_) | refine and_li (fun _ => ?_) ?_ | (refine And.intro ?_ ?_; focus (intros; simp [*]; done)) | fail)
    intro b8 hb8; simp only [Fresh, Heap.set_none] at hb8; try simp [Heap.set_get, -pickV, *]
    have hh7 := sub_none m4 hb7
    have hh8 := sub_none m4 hb8.2.2
    have n17 := ne_of_fresh m1 hb7
    have no7 := ne_of_fresh m2 hb7
    have nd7 := ne_of_fresh m3 hb7
    have n18 := ne_of_fresh m1 hb8.2.2
    have no8 := ne_of_fresh m2 hb8.2.2
    have nd8 := ne_of_fresh m3 hb8.2.2
    repeat' (first | refine Keep.go (by assumption) ?_ | refine awp_seq_k fun K hK => ?_ | (refine awp_region ?_; try simp [Heap.set_get, -pickV, *]) | refine awp_block ?_ | (refine awp_ret ?_; try simp) | (refine awp_skip ?_; try simp) | (refine awp_exit ?_; try simp) | (refine KeepQ.go (by assumption) ?_; try simp [Heap.set_get, -pickV, *]) | refine And.intro (by omega) ?_ | refine And.intro (by assumption) ?_ | refine and_lf (by omega) ?_ | refine and_rf ?_ (by omega) | refine and_imps (fun _ => ?_) (fun _ => ?_) | refine arounds_k fun K hK => ?_ | refine Or.inl ⟨by omega, ?_⟩ | refine Or.inr ⟨by omega, ?_⟩ | refine or_split (fun _ => ?_) (fun _ => ?_) | exact Sub.refl _ | refine imp_in fun _ => ?_ | refine and_ri ?_ (fun _ => ?_) | refine and_li (fun _ => ?_) ?_ | (refine And.intro ?_ ?_; focus (intros; simp [*]; done)) | fail)
    refine awp_cut (by assumption) [51, 52] (fun x g' => ∃ nm, nm = (if n.kind = 20 then 0 else n.num) ∧ WMem h g' nodes b1 bo bd o d ∧ g' b7 = some (.cells (row n)) ∧ g' b8 = some (.cells (row ⟨n.kind, n.pos, n.text, nm, n.kids⟩))) (fun K' hK' => ?_) (fun x2 g2 hI2 => ?_)
    · cases h20 : decide (n.kind = 20)
      · repeat' (first | refine Keep.go (by assumption) ?_ | refine awp_seq_k fun K hK => ?_ | (refine awp_region ?_; try simp [Heap.set_get, -pickV, *]) | refine awp_block ?_ | (refine awp_ret ?_; try simp) | (refine awp_skip ?_; try simp) | (refine awp_exit ?_; try simp) | (refine KeepQ.go (by assumption) ?_; try simp [Heap.set_get, -pickV, *]) | (refine awp_cond' ?_; try simp [Heap.set_get, -pickV, *]) | refine And.intro (by omega) ?_ | refine And.intro (by assumption) ?_ | refine and_lf (by omega) ?_ | refine and_rf ?_ (by omega) | refine and_imps (fun _ => ?_) (fun _ => ?_) | refine arounds_k fun K hK => ?_ | refine Or.inl ⟨by omega, ?_⟩ | refine Or.inr ⟨by omega, ?_⟩ | refine or_split (fun _ => ?_) (fun _ => ?_) | exact Sub.refl _ | refine imp_in fun _ => ?_ | refine and_ri ?_ (fun _ => ?_) | refine and_li (fun _ => ?_) ?_ | (refine And.intro ?_ ?_; focus (intros; simp [*]; done)) | fail)
        have h20' : ¬ n.kind = 20 := by simpa using h20
        refine ⟨by simp [hav], rfl, _, Sub.refl _, n.num, (if_neg h20').symm, ⟨by simp [Heap.set_get, *], by simp [Heap.set_get, *], by simp [Heap.set_get, *], (m4.loc hh7 _).loc hh8 _⟩, by simp [Heap.set_get, *], by simp [Heap.set_get, *]⟩
      · repeat' (first | refine Keep.go (by assumption) ?_ | refine awp_seq_k fun K hK => ?_ | (refine awp_region ?_; try simp [Heap.set_get, -pickV, *]) | refine awp_block ?_ | (refine awp_ret ?_; try simp) | (refine awp_skip ?_; try simp) | (refine awp_exit ?_; try simp) | (refine KeepQ.go (by assumption) ?_; try simp [Heap.set_get, -pickV, *]) | (refine awp_cond' ?_; try simp [Heap.set_get, -pickV, *]) | refine And.intro (by omega) ?_ | refine And.intro (by assumption) ?_ | refine and_lf (by omega) ?_ | refine and_rf ?_ (by omega) | refine and_imps (fun _ => ?_) (fun _ => ?_) | refine arounds_k fun K hK => ?_ | refine Or.inl ⟨by omega, ?_⟩ | refine Or.inr ⟨by omega, ?_⟩ | refine or_split (fun _ => ?_) (fun _ => ?_) | exact Sub.refl _ | refine imp_in fun _ => ?_ | refine and_ri ?_ (fun _ => ?_) | refine and_li (fun _ => ?_) ?_ | (refine And.intro ?_ ?_; focus (intros; simp [*]; done)) | fail)
        have h20' : n.kind = 20 := by simpa using h20
        refine ⟨by simp [hav], rfl, _, Sub.refl _, 0, (if_pos h20').symm, ⟨by simp [Heap.set_get, *], by simp [Heap.set_get, *], by simp [Heap.set_get, *], (m4.loc hh7 _).loc hh8 _⟩, by simp [Heap.set_get, *], by simp [Heap.set_get, *]⟩
    obtain ⟨nm, hnm, hM2, q7, q8⟩ := hI2
    have r1 := hM2.tree
    have r2 := hM2.own
    have r3 := hM2.deep
    have r4 := hM2.sub
    have e71 : ¬ b7 = b1 := fun e => n17 e.symm
    have e7o : ¬ b7 = bo := fun e => no7 e.symm
    have e7d : ¬ b7 = bd := fun e => nd7 e.symm
    clear hM2 m1 m2 m3 m4 hb7 hb8 hh8 n18 no8 nd8
    have hform : formR n = (decide (1 ≤ n.kind) && decide (n.kind ≤ 43) && decide (0 ≤ n.pos) && textR n.kind n.text nm) := by rw [hnm]; rfl
    clear hnm
    cases hfm : formR n
    · rw [runG_form hlt (by rw [hn]; exact hfm)] at hres
      have htx : 1 ≤ n.kind → n.kind ≤ 43 → 0 ≤ n.pos → textR n.kind n.text nm = false := fun e1 e2 e3 => by
        rw [hform] at hfm
        simpa only [e1, e2, e3, decide_true, Bool.true_and] using hfm
      clear hform
      simp (maxSteps := 10000000) only [AgainAt, hav, List.contains_cons, List.contains_nil, Bool.or_false, Nat.reduceAdd, Nat.reduceBEq, Bool.or_true, Bool.true_or, Bool.false_or, if_true, if_false, Bool.false_eq_true]
      repeat' (first | refine Keep.go (by assumption) ?_ | refine awp_seq_k fun K hK => ?_ | (refine awp_region ?_; try simp [Heap.set_get, -pickV, *]) | refine awp_block ?_ | (refine awp_ret ?_; try simp) | (refine awp_skip ?_; try simp) | (refine awp_exit ?_; try simp) | (refine KeepQ.go (by assumption) ?_; try simp [Heap.set_get, -pickV, *]) | (refine awp_cond' ?_; try simp [Heap.set_get, -pickV, *]) | refine And.intro (by omega) ?_ | refine And.intro (by assumption) ?_ | refine and_lf (by omega) ?_ | refine and_rf ?_ (by omega) | refine and_imps (fun _ => ?_) (fun _ => ?_) | refine arounds_k fun K hK => ?_ | refine Or.inl ⟨by omega, ?_⟩ | refine Or.inr ⟨by omega, ?_⟩ | refine or_split (fun _ => ?_) (fun _ => ?_) | exact Sub.refl _ | refine imp_in fun _ => ?_ | refine and_ri ?_ (fun _ => ?_) | refine and_li (fun _ => ?_) ?_ | (refine And.intro ?_ ?_; focus (intros; simp [*]; done)) | fail)
      all_goals try (refine RText_c ⟨n.kind, n.pos, n.text, nm, n.kids⟩ .no htl _ _ ?_; rw [htx (by omega) (by omega) (by omega)]; simp [Heap.set_get, -pickV, *]; repeat' (first | refine Keep.go (by assumption) ?_ | refine awp_seq_k fun K hK => ?_ | (refine awp_region ?_; try simp [Heap.set_get, -pickV, *]) | refine awp_block ?_ | (refine awp_ret ?_; try simp) | (refine awp_skip ?_; try simp) | (refine awp_exit ?_; try simp) | (refine KeepQ.go (by assumption) ?_; try simp [Heap.set_get, -pickV, *]) | (refine awp_cond' ?_; try simp [Heap.set_get, -pickV, *]) | refine And.intro (by omega) ?_ | refine And.intro (by assumption) ?_ | refine and_lf (by omega) ?_ | refine and_rf ?_ (by omega) | refine and_imps (fun _ => ?_) (fun _ => ?_) | refine arounds_k fun K hK => ?_ | refine Or.inl ⟨by omega, ?_⟩ | refine Or.inr ⟨by omega, ?_⟩ | refine or_split (fun _ => ?_) (fun _ => ?_) | exact Sub.refl _ | refine imp_in fun _ => ?_ | refine and_ri ?_ (fun _ => ?_) | refine and_li (fun _ => ?_) ?_ | (refine And.intro ?_ ?_; focus (intros; simp [*]; done)) | fail))
      all_goals first
        | (rw [← hres]; exact ⟨rfl, rfl⟩)
    · have hf := hfm
      rw [hform] at hf
      simp only [Bool.and_eq_true, decide_eq_true_eq] at hf
      obtain ⟨⟨⟨hf1, hf2⟩, hf3⟩, hf4⟩ := hf
      clear hform
      have hf1' : ¬ n.kind < 1 := by omega
      have hf2' : ¬ 43 < n.kind := by omega
      have hf3' : ¬ n.pos < 0 := by omega
      simp (maxSteps := 10000000) only [AgainAt, hav, List.contains_cons, List.contains_nil, Bool.or_false, Nat.reduceAdd, Nat.reduceBEq, Bool.or_true, Bool.true_or, Bool.false_or, if_true, if_false, Bool.false_eq_true]
      repeat' (first | refine Keep.go (by assumption) ?_ | refine awp_seq_k fun K hK => ?_ | (refine awp_region ?_; try simp [Heap.set_get, -pickV, *]) | refine awp_block ?_ | (refine awp_ret ?_; try simp) | (refine awp_skip ?_; try simp) | (refine awp_exit ?_; try simp) | (refine KeepQ.go (by assumption) ?_; try simp [Heap.set_get, -pickV, *]) | (refine awp_cond' ?_; try simp [Heap.set_get, -pickV, *]) | refine And.intro (by omega) ?_ | refine And.intro (by assumption) ?_ | refine and_lf (by omega) ?_ | refine and_rf ?_ (by omega) | refine and_imps (fun _ => ?_) (fun _ => ?_) | refine arounds_k fun K hK => ?_ | refine Or.inl ⟨by omega, ?_⟩ | refine Or.inr ⟨by omega, ?_⟩ | refine or_split (fun _ => ?_) (fun _ => ?_) | exact Sub.refl _ | refine imp_in fun _ => ?_ | refine and_ri ?_ (fun _ => ?_) | refine and_li (fun _ => ?_) ?_ | (refine And.intro ?_ ?_; focus (intros; simp [*]; done)) | fail)
      refine RText_c ⟨n.kind, n.pos, n.text, nm, n.kids⟩ .no htl _ _ ?_
      rw [hf4]
      simp [Heap.set_get, -pickV, *]
      repeat' (first | refine Keep.go (by assumption) ?_ | refine awp_seq_k fun K hK => ?_ | (refine awp_region ?_; try simp [Heap.set_get, -pickV, *]) | refine awp_block ?_ | (refine awp_ret ?_; try simp) | (refine awp_skip ?_; try simp) | (refine awp_exit ?_; try simp) | (refine KeepQ.go (by assumption) ?_; try simp [Heap.set_get, -pickV, *]) | (refine awp_cond' ?_; try simp [Heap.set_get, -pickV, *]) | refine And.intro (by omega) ?_ | refine And.intro (by assumption) ?_ | refine and_lf (by omega) ?_ | refine and_rf ?_ (by omega) | refine and_imps (fun _ => ?_) (fun _ => ?_) | refine arounds_k fun K hK => ?_ | refine Or.inl ⟨by omega, ?_⟩ | refine Or.inr ⟨by omega, ?_⟩ | refine or_split (fun _ => ?_) (fun _ => ?_) | exact Sub.refl _ | refine imp_in fun _ => ?_ | refine and_ri ?_ (fun _ => ?_) | refine and_li (fun _ => ?_) ?_ | (refine And.intro ?_ ?_; focus (intros; simp [*]; done)) | fail)
      have hbo0 : h bo = none := hbo.2.2
      have hbd0 : h bd = none := hbd.2.2.2.2
      have hod : ¬ bo = bd := fun e => hbd.2.1 e.symm
      have hbo1 : ¬ b1 = bo := hbo.1
      have hbo1' : ¬ bo = b1 := hbo.2.1
      have hbd1 : ¬ b1 = bd := hbd.2.2.1
      have hbd1' : ¬ bd = b1 := hbd.2.2.2.1
      have hdo : ¬ bd = bo := hbd.2.1
      have hkl6 : n.kids.length ≤ 281474976710 := hks n (hn ▸ List.getElem_mem hlt)
      refine Wrong_kids nodes n i hlt hn hN hnok hkl6 o d h g2 b1 b7 bo bd hol hdl hdb hbo1 hbo1' hbd1 hbd1' hod hdo n17 e71 no7 e7o nd7 e7d hbo0 hbd0 ⟨r1, r2, r3, r4⟩ q7 ⟨_, rfl, rfl⟩ rfl rfl rfl rfl rfl rfl rfl rfl rfl (fun α' g' e hd1 hke he2 he3 hsb => ?_) (fun x g' o' d' tok hkl hol' hdl' hdb' hkr hx9 hM' q7n => ?_)
      · rw [runG_kid hlt (by rw [hn]; exact hfm) (by rw [hn]; exact hke)] at hres
        simp [Heap.set_get, -pickV, *]
        repeat' (first | refine Keep.go (by assumption) ?_ | refine awp_seq_k fun K hK => ?_ | (refine awp_region ?_; try simp [Heap.set_get, -pickV, *]) | refine awp_block ?_ | (refine awp_ret ?_; try simp) | (refine awp_skip ?_; try simp) | (refine awp_exit ?_; try simp) | (refine KeepQ.go (by assumption) ?_; try simp [Heap.set_get, -pickV, *]) | (refine awp_cond' ?_; try simp [Heap.set_get, -pickV, *]) | refine And.intro (by omega) ?_ | refine And.intro (by assumption) ?_ | refine and_lf (by omega) ?_ | refine and_rf ?_ (by omega) | refine and_imps (fun _ => ?_) (fun _ => ?_) | refine arounds_k fun K hK => ?_ | refine Or.inl ⟨by omega, ?_⟩ | refine Or.inr ⟨by omega, ?_⟩ | refine or_split (fun _ => ?_) (fun _ => ?_) | exact Sub.refl _ | refine imp_in fun _ => ?_ | refine and_ri ?_ (fun _ => ?_) | refine and_li (fun _ => ?_) ?_ | (refine And.intro ?_ ?_; focus (intros; simp [*]; done)) | fail)
        all_goals first
          | (rw [← hres]; exact ⟨rfl, rfl⟩)
          | (rw [← hres]; exact ⟨by simpa using he2, by simpa using he3⟩)
      clear r1 r2 r3 r4 q7 q8
      have q7 := q7n
      clear q7n
      have q1 := hM'.tree
      have q2 := hM'.own
      have q3 := hM'.deep
      have q4 := hM'.sub
      clear hM'
      have hkc : ∀ m (hm : m < nodes.length), (m : Int) ∈ n.kids → nodes[m].kind = 24 → nodes[m].kids ≠ [] := fun m hm hmem => hcase m hm (by have := hkr _ hmem; omega)
      have hpl := patL_length n.kind n.text
      have w9 : IntKind.i64.wrap ((n.kids.length : Int) - 1) = n.kids.length - 1 := w64 (by omega) (by omega)
      obtain ⟨kr, hkr2⟩ : ∃ kr, n.kids.map (kindR nodes) = kr := ⟨_, rfl⟩
      have hkrl : kr.length = n.kids.length := by rw [← hkr2]; simp
      rw [hkr2] at hx9
      have hgr : goodR nodes n = (fitsR (patL n.kind n.text) kr && !((decide (n.kind = 20) && !decide (n.num = (n.kids.length : Int) - 1)) || (decide (n.kind = 19) && decide (n.kids.length % 2 = 1))) && decide (othersR nodes n ≤ 1)) := by rw [← hkr2]; rfl
      clear hkr2
      simp only [W1]
      simp (maxSteps := 10000000) only [AgainAt, hav, List.contains_cons, List.contains_nil, Bool.or_false, Nat.reduceAdd, Nat.reduceBEq, Bool.or_true, Bool.true_or, Bool.false_or, if_true, if_false, Bool.false_eq_true]
      simp [Heap.set_get, -pickV, *]
      repeat' (first | refine Keep.go (by assumption) ?_ | refine awp_seq_k fun K hK => ?_ | (refine awp_region ?_; try simp [Heap.set_get, -pickV, *]) | refine awp_block ?_ | (refine awp_ret ?_; try simp) | (refine awp_skip ?_; try simp) | (refine awp_exit ?_; try simp) | (refine KeepQ.go (by assumption) ?_; try simp [Heap.set_get, -pickV, *]) | (refine awp_cond' ?_; try simp [Heap.set_get, -pickV, *]) | refine And.intro (by omega) ?_ | refine And.intro (by assumption) ?_ | refine and_lf (by omega) ?_ | refine and_rf ?_ (by omega) | refine and_imps (fun _ => ?_) (fun _ => ?_) | refine arounds_k fun K hK => ?_ | refine Or.inl ⟨by omega, ?_⟩ | refine Or.inr ⟨by omega, ?_⟩ | refine or_split (fun _ => ?_) (fun _ => ?_) | exact Sub.refl _ | refine imp_in fun _ => ?_ | refine and_ri ?_ (fun _ => ?_) | refine and_li (fun _ => ?_) ?_ | (refine And.intro ?_ ?_; focus (intros; simp [*]; done)) | fail)
      refine Pattern_c n .no _ _ ?_
      simp [Heap.set_get, -pickV, *]
      refine Fits_c 100 (patL n.kind n.text) kr tok (by omega) (by omega) (by omega) _ _ ?_
      obtain ⟨F, hF⟩ : ∃ F, fitsR (patL n.kind n.text) kr = F := ⟨_, rfl⟩
      rw [hF] at hgr ⊢
      simp [Heap.set_get, -pickV, *]
      refine Keep.go (by assumption) ?_
      refine awp_seq_k fun K9 hK9 => ?_
      refine awp_cut (by assumption) [12, 139, 140, 141, 142, 143, 144, 145, 146, 147, 148, 149, 150, 151, 152, 153, 154, 155, 156, 157, 158, 159, 160] (fun x g => x 12 = .bool (F && !((decide (n.kind = 20) && !decide (n.num = (n.kids.length : Int) - 1)) || (decide (n.kind = 19) && decide (n.kids.length % 2 = 1)))) ∧ g = g') (fun K' hK' => ?_) (fun x2 g2 hI2 => ?_)
      · have hrem : ((n.kids.length : Int).tmod 2 = 1) ↔ n.kids.length % 2 = 1 := by rw [show (n.kids.length : Int).tmod 2 = ((n.kids.length % 2 : Nat) : Int) from rfl]; omega
        clear hgr
        cases h20 : decide (n.kind = 20)
        · cases h19 : decide (n.kind = 19)
          · repeat' (first | refine Keep.go (by assumption) ?_ | refine awp_seq_k fun K hK => ?_ | (refine awp_region ?_; try simp [Heap.set_get, -pickV, *]) | refine awp_block ?_ | (refine awp_ret ?_; try simp) | (refine awp_skip ?_; try simp) | (refine awp_exit ?_; try simp) | (refine KeepQ.go (by assumption) ?_; try simp [Heap.set_get, -pickV, *]) | (refine awp_cond' ?_; try simp [Heap.set_get, -pickV, *]) | refine And.intro (by omega) ?_ | refine And.intro (by assumption) ?_ | refine and_lf (by omega) ?_ | refine and_rf ?_ (by omega) | refine and_imps (fun _ => ?_) (fun _ => ?_) | refine arounds_k fun K hK => ?_ | refine Or.inl ⟨by omega, ?_⟩ | refine Or.inr ⟨by omega, ?_⟩ | refine or_split (fun _ => ?_) (fun _ => ?_) | exact Sub.refl _ | refine imp_in fun _ => ?_ | refine and_ri ?_ (fun _ => ?_) | refine and_li (fun _ => ?_) ?_ | (refine And.intro ?_ ?_; focus (intros; simp [*]; done)) | fail)
            all_goals first
              | exact ⟨by simp [hav], rfl, g', Sub.refl _, by simp [*], rfl⟩
              | exact ⟨by simp [hav], rfl, g', Sub.refl _, by simp_all, rfl⟩
          · repeat' (first | refine Keep.go (by assumption) ?_ | refine awp_seq_k fun K hK => ?_ | (refine awp_region ?_; try simp [Heap.set_get, -pickV, *]) | refine awp_block ?_ | (refine awp_ret ?_; try simp) | (refine awp_skip ?_; try simp) | (refine awp_exit ?_; try simp) | (refine KeepQ.go (by assumption) ?_; try simp [Heap.set_get, -pickV, *]) | (refine awp_cond' ?_; try simp [Heap.set_get, -pickV, *]) | refine And.intro (by omega) ?_ | refine And.intro (by assumption) ?_ | refine and_lf (by omega) ?_ | refine and_rf ?_ (by omega) | refine and_imps (fun _ => ?_) (fun _ => ?_) | refine arounds_k fun K hK => ?_ | refine Or.inl ⟨by omega, ?_⟩ | refine Or.inr ⟨by omega, ?_⟩ | refine or_split (fun _ => ?_) (fun _ => ?_) | exact Sub.refl _ | refine imp_in fun _ => ?_ | refine and_ri ?_ (fun _ => ?_) | refine and_li (fun _ => ?_) ?_ | (refine And.intro ?_ ?_; focus (intros; simp [*]; done)) | fail)
            all_goals first
              | exact ⟨by simp [hav], rfl, g', Sub.refl _, by simp [*], rfl⟩
              | exact ⟨by simp [hav], rfl, g', Sub.refl _, by simp_all, rfl⟩
        · have h19 : ¬ n.kind = 19 := by have := of_decide_eq_true h20; omega
          repeat' (first | refine Keep.go (by assumption) ?_ | refine awp_seq_k fun K hK => ?_ | (refine awp_region ?_; try simp [Heap.set_get, -pickV, *]) | refine awp_block ?_ | (refine awp_ret ?_; try simp) | (refine awp_skip ?_; try simp) | (refine awp_exit ?_; try simp) | (refine KeepQ.go (by assumption) ?_; try simp [Heap.set_get, -pickV, *]) | (refine awp_cond' ?_; try simp [Heap.set_get, -pickV, *]) | refine And.intro (by omega) ?_ | refine And.intro (by assumption) ?_ | refine and_lf (by omega) ?_ | refine and_rf ?_ (by omega) | refine and_imps (fun _ => ?_) (fun _ => ?_) | refine arounds_k fun K hK => ?_ | refine Or.inl ⟨by omega, ?_⟩ | refine Or.inr ⟨by omega, ?_⟩ | refine or_split (fun _ => ?_) (fun _ => ?_) | exact Sub.refl _ | refine imp_in fun _ => ?_ | refine and_ri ?_ (fun _ => ?_) | refine and_li (fun _ => ?_) ?_ | (refine And.intro ?_ ?_; focus (intros; simp [*]; done)) | fail)
          all_goals first
            | exact ⟨by simp [hav], rfl, g', Sub.refl _, by simp [*], rfl⟩
            | exact ⟨by simp [hav], rfl, g', Sub.refl _, by simp_all, rfl⟩
      · obtain ⟨hx12, hgg⟩ := hI2
        subst g2
        obtain ⟨G, hG⟩ : ∃ G, (F && !((decide (n.kind = 20) && !decide (n.num = (n.kids.length : Int) - 1)) || (decide (n.kind = 19) && decide (n.kids.length % 2 = 1)))) = G := ⟨_, rfl⟩
        rw [hG] at hx12 hgr
        clear hG hF
        simp (maxSteps := 10000000) only [AgainAt, hav, List.contains_cons, List.contains_nil, Bool.or_false, Nat.reduceAdd, Nat.reduceBEq, Bool.or_true, Bool.true_or, Bool.false_or, if_true, if_false, Bool.false_eq_true]
        repeat' (first | refine Keep.go (by assumption) ?_ | refine awp_seq_k fun K hK => ?_ | (refine awp_region ?_; try simp [Heap.set_get, -pickV, *]) | refine awp_block ?_ | (refine awp_ret ?_; try simp) | (refine awp_skip ?_; try simp) | (refine awp_exit ?_; try simp) | (refine KeepQ.go (by assumption) ?_; try simp [Heap.set_get, -pickV, *]) | (refine awp_cond' ?_; try simp [Heap.set_get, -pickV, *]) | refine And.intro (by omega) ?_ | refine And.intro (by assumption) ?_ | refine and_lf (by omega) ?_ | refine and_rf ?_ (by omega) | refine and_imps (fun _ => ?_) (fun _ => ?_) | refine arounds_k fun K hK => ?_ | refine Or.inl ⟨by omega, ?_⟩ | refine Or.inr ⟨by omega, ?_⟩ | refine or_split (fun _ => ?_) (fun _ => ?_) | exact Sub.refl _ | refine imp_in fun _ => ?_ | refine and_ri ?_ (fun _ => ?_) | refine and_li (fun _ => ?_) ?_ | (refine And.intro ?_ ?_; focus (intros; simp [*]; done)) | fail)
        refine awp_loop_h [13, 14, 15, 161, 162, 163, 164, 165, 166, 167, 168, 169, 170, 171, 172, 173, 174, 175, 176, 177, 178, 179, 180, 181, 182, 183, 184, 185, 186, 187, 188, 189, 190, 191, 192, 193, 194, 195, 196, 197, 198, 199, 200, 201] (fun m x g => ∃ (j : Nat), j ≤ n.kids.length ∧ m = n.kids.length - j ∧ x 14 = .int .i64 j ∧ x 13 = .int .i64 (if n.kind = 34 then ((n.kids.take j).countP (isDefault nodes) : Int) else 0) ∧ g = g') n.kids.length
          ⟨0, by omega, by omega, rfl, by simp, rfl⟩ (fun m x g hI K hK => ?_)
        obtain ⟨j2, hj2, rfl, hx14, hx13, hgg⟩ := hI
        subst g
        have w2 : IntKind.i64.wrap ((j2 : Int) + 1) = j2 + 1 := w64 (by omega) (by omega)
        by_cases hjl2 : j2 < n.kids.length
        · obtain ⟨k, hk⟩ : ∃ k, n.kids[j2] = k := ⟨_, rfl⟩
          have hkm := hkr k (hk ▸ List.getElem_mem hjl2)
          have htc : (n.kids.take (j2 + 1)).countP (isDefault nodes) = (n.kids.take j2).countP (isDefault nodes) + (if isDefault nodes k then 1 else 0) := by
            rw [List.take_add_one, List.getElem?_eq_getElem hjl2, hk, List.countP_append]; simp
          have hcl : (n.kids.take j2).countP (isDefault nodes) ≤ j2 := by
            have := List.countP_le_length (p := isDefault nodes) (l := n.kids.take j2)
            simp at this; omega
          cases h34 : decide (n.kind = 34)
          · have h34' : ¬ n.kind = 34 := of_decide_eq_false h34
            rw [if_neg h34'] at hx13
            simp (maxSteps := 10000000) only [AgainAt, hav, List.contains_cons, List.contains_nil, Bool.or_false, Nat.reduceAdd, Nat.reduceBEq, Bool.or_true, Bool.true_or, Bool.false_or, if_true, if_false, Bool.false_eq_true]
            repeat' (first | refine Keep.go (by assumption) ?_ | refine awp_seq_k fun K hK => ?_ | (refine awp_region ?_; try simp [Heap.set_get, -pickV, *]) | refine awp_block ?_ | (refine awp_ret ?_; try simp) | (refine awp_skip ?_; try simp) | (refine awp_exit ?_; try simp) | (refine KeepQ.go (by assumption) ?_; try simp [Heap.set_get, -pickV, *]) | (refine awp_cond' ?_; try simp [Heap.set_get, -pickV, *]) | refine And.intro (by omega) ?_ | refine And.intro (by assumption) ?_ | refine and_lf (by omega) ?_ | refine and_rf ?_ (by omega) | refine and_imps (fun _ => ?_) (fun _ => ?_) | refine arounds_k fun K hK => ?_ | refine Or.inl ⟨by omega, ?_⟩ | refine Or.inr ⟨by omega, ?_⟩ | refine or_split (fun _ => ?_) (fun _ => ?_) | exact Sub.refl _ | refine imp_in fun _ => ?_ | refine and_ri ?_ (fun _ => ?_) | refine and_li (fun _ => ?_) ?_ | (refine And.intro ?_ ?_; focus (intros; simp [*]; done)) | fail)
            refine ⟨by simp [hav], rfl, n.kids.length - (j2 + 1), _, by omega, Sub.refl _, j2 + 1, by omega, rfl, by simp, by simp [h34'], rfl⟩
          · have h34' : n.kind = 34 := of_decide_eq_true h34
            rw [if_pos h34'] at hx13
            clear h34'
            by_cases hk1 : k = -1
            · have hdf : isDefault nodes k = false := by simp [hk1, isDefault]
              rw [hdf] at htc
              simp (maxSteps := 10000000) only [AgainAt, hav, List.contains_cons, List.contains_nil, Bool.or_false, Nat.reduceAdd, Nat.reduceBEq, Bool.or_true, Bool.true_or, Bool.false_or, if_true, if_false, Bool.false_eq_true]
              repeat' (first | refine Keep.go (by assumption) ?_ | refine awp_seq_k fun K hK => ?_ | (refine awp_region ?_; try simp [Heap.set_get, -pickV, *]) | refine awp_block ?_ | (refine awp_ret ?_; try simp) | (refine awp_skip ?_; try simp) | (refine awp_exit ?_; try simp) | (refine KeepQ.go (by assumption) ?_; try simp [Heap.set_get, -pickV, *]) | (refine awp_cond' ?_; try simp [Heap.set_get, -pickV, *]) | refine And.intro (by omega) ?_ | refine And.intro (by assumption) ?_ | refine and_lf (by omega) ?_ | refine and_rf ?_ (by omega) | refine and_imps (fun _ => ?_) (fun _ => ?_) | refine arounds_k fun K hK => ?_ | refine Or.inl ⟨by omega, ?_⟩ | refine Or.inr ⟨by omega, ?_⟩ | refine or_split (fun _ => ?_) (fun _ => ?_) | exact Sub.refl _ | refine imp_in fun _ => ?_ | refine and_ri ?_ (fun _ => ?_) | refine and_li (fun _ => ?_) ?_ | (refine And.intro ?_ ?_; focus (intros; simp [*]; done)) | fail)
              refine ⟨by simp [hav], rfl, n.kids.length - (j2 + 1), _, by omega, Sub.refl _, j2 + 1, by omega, rfl, by simp, by simp [of_decide_eq_true h34, htc], rfl⟩
            · obtain ⟨m, hm⟩ := Int.eq_ofNat_of_zero_le (a := k) (by omega)
              have hmN : m < nodes.length := by omega
              have hm0 : ¬ ((m : Int) < 0) := by omega
              have hkcm := hkc m hmN (by rw [← hm, ← hk]; exact List.getElem_mem hjl2)
              cases h24 : decide (nodes[m].kind = 24)
              · have h24' : ¬ nodes[m].kind = 24 := of_decide_eq_false h24
                have hdf : isDefault nodes k = false := by simp [hm, isDefault, kindAt_get hmN, h24']
                rw [hdf] at htc
                clear hkcm
                simp (maxSteps := 10000000) only [AgainAt, hav, List.contains_cons, List.contains_nil, Bool.or_false, Nat.reduceAdd, Nat.reduceBEq, Bool.or_true, Bool.true_or, Bool.false_or, if_true, if_false, Bool.false_eq_true]
                repeat' (first | refine Keep.go (by assumption) ?_ | refine awp_seq_k fun K hK => ?_ | (refine awp_region ?_; try simp [Heap.set_get, -pickV, *]) | refine awp_block ?_ | (refine awp_ret ?_; try simp) | (refine awp_skip ?_; try simp) | (refine awp_exit ?_; try simp) | (refine KeepQ.go (by assumption) ?_; try simp [Heap.set_get, -pickV, *]) | (refine awp_cond' ?_; try simp [Heap.set_get, -pickV, *]) | refine And.intro (by omega) ?_ | refine And.intro (by assumption) ?_ | refine and_lf (by omega) ?_ | refine and_rf ?_ (by omega) | refine and_imps (fun _ => ?_) (fun _ => ?_) | refine arounds_k fun K hK => ?_ | refine Or.inl ⟨by omega, ?_⟩ | refine Or.inr ⟨by omega, ?_⟩ | refine or_split (fun _ => ?_) (fun _ => ?_) | exact Sub.refl _ | refine imp_in fun _ => ?_ | refine and_ri ?_ (fun _ => ?_) | refine and_li (fun _ => ?_) ?_ | (refine And.intro ?_ ?_; focus (intros; simp [*]; done)) | fail)
                refine ⟨by simp [hav], rfl, n.kids.length - (j2 + 1), _, by omega, Sub.refl _, j2 + 1, by omega, rfl, by simp, by simp [of_decide_eq_true h34, htc], rfl⟩
              · have h24' : nodes[m].kind = 24 := of_decide_eq_true h24
                obtain ⟨z, zs, hz⟩ := List.exists_cons_of_ne_nil (hkcm h24')
                have hdf : isDefault nodes k = decide (z = -1) := by simp [hm, isDefault, kindAt_get hmN, h24', firstKid, hmN, hz]
                rw [hdf] at htc
                clear hkcm
                cases hz1 : decide (z = -1)
                · rw [hz1] at htc
                  simp (maxSteps := 10000000) only [AgainAt, hav, List.contains_cons, List.contains_nil, Bool.or_false, Nat.reduceAdd, Nat.reduceBEq, Bool.or_true, Bool.true_or, Bool.false_or, if_true, if_false, Bool.false_eq_true]
                  repeat' (first | refine Keep.go (by assumption) ?_ | refine awp_seq_k fun K hK => ?_ | (refine awp_region ?_; try simp [Heap.set_get, -pickV, *]) | refine awp_block ?_ | (refine awp_ret ?_; try simp) | (refine awp_skip ?_; try simp) | (refine awp_exit ?_; try simp) | (refine KeepQ.go (by assumption) ?_; try simp [Heap.set_get, -pickV, *]) | (refine awp_cond' ?_; try simp [Heap.set_get, -pickV, *]) | refine And.intro (by omega) ?_ | refine And.intro (by assumption) ?_ | refine and_lf (by omega) ?_ | refine and_rf ?_ (by omega) | refine and_imps (fun _ => ?_) (fun _ => ?_) | refine arounds_k fun K hK => ?_ | refine Or.inl ⟨by omega, ?_⟩ | refine Or.inr ⟨by omega, ?_⟩ | refine or_split (fun _ => ?_) (fun _ => ?_) | exact Sub.refl _ | refine imp_in fun _ => ?_ | refine and_ri ?_ (fun _ => ?_) | refine and_li (fun _ => ?_) ?_ | (refine And.intro ?_ ?_; focus (intros; simp [*]; done)) | fail)
                  refine ⟨by simp [hav], rfl, n.kids.length - (j2 + 1), _, by omega, Sub.refl _, j2 + 1, by omega, rfl, by simp, by simp [of_decide_eq_true h34, htc], rfl⟩
                · rw [hz1] at htc
                  have w4 : IntKind.i64.wrap (((n.kids.take j2).countP (isDefault nodes) : Int) + 1) = (n.kids.take j2).countP (isDefault nodes) + 1 := w64 (by omega) (by omega)
                  simp (maxSteps := 10000000) only [AgainAt, hav, List.contains_cons, List.contains_nil, Bool.or_false, Nat.reduceAdd, Nat.reduceBEq, Bool.or_true, Bool.true_or, Bool.false_or, if_true, if_false, Bool.false_eq_true]
                  repeat' (first | refine Keep.go (by assumption) ?_ | refine awp_seq_k fun K hK => ?_ | (refine awp_region ?_; try simp [Heap.set_get, -pickV, *]) | refine awp_block ?_ | (refine awp_ret ?_; try simp) | (refine awp_skip ?_; try simp) | (refine awp_exit ?_; try simp) | (refine KeepQ.go (by assumption) ?_; try simp [Heap.set_get, -pickV, *]) | (refine awp_cond' ?_; try simp [Heap.set_get, -pickV, *]) | refine And.intro (by omega) ?_ | refine And.intro (by assumption) ?_ | refine and_lf (by omega) ?_ | refine and_rf ?_ (by omega) | refine and_imps (fun _ => ?_) (fun _ => ?_) | refine arounds_k fun K hK => ?_ | refine Or.inl ⟨by omega, ?_⟩ | refine Or.inr ⟨by omega, ?_⟩ | refine or_split (fun _ => ?_) (fun _ => ?_) | exact Sub.refl _ | refine imp_in fun _ => ?_ | refine and_ri ?_ (fun _ => ?_) | refine and_li (fun _ => ?_) ?_ | (refine And.intro ?_ ?_; focus (intros; simp [*]; done)) | fail)
                  refine ⟨by simp [hav], rfl, n.kids.length - (j2 + 1), _, by omega, Sub.refl _, j2 + 1, by omega, rfl, by simp, by simp [of_decide_eq_true h34, htc], rfl⟩
        · have htk2 : n.kids.take j2 = n.kids := List.take_of_length_le (by omega)
          rw [htk2] at hx13
          have hx13' : x 13 = .int .i64 (othersR nodes n) := by
            rw [hx13]; unfold othersR; split <;> rfl
          clear hx13
          have hid : i < d'.length := by omega
          have hid' : d'[i]? = some d'[i] := List.getElem?_eq_getElem hid
          cases G
          · have hgd : goodR nodes n = false := by rw [hgr]; simp
            rw [runG_good hlt (by rw [hn]; exact hfm) (by rw [hn]; exact hkl) (by rw [hn]; exact hgd)] at hres
            clear hgr
            simp (maxSteps := 10000000) only [AgainAt, hav, List.contains_cons, List.contains_nil, Bool.or_false, Nat.reduceAdd, Nat.reduceBEq, Bool.or_true, Bool.true_or, Bool.false_or, if_true, if_false, Bool.false_eq_true]
            repeat' (first | refine Keep.go (by assumption) ?_ | refine awp_seq_k fun K hK => ?_ | (refine awp_region ?_; try simp [Heap.set_get, -pickV, *]) | refine awp_block ?_ | (refine awp_ret ?_; try simp) | (refine awp_skip ?_; try simp) | (refine awp_exit ?_; try simp) | (refine KeepQ.go (by assumption) ?_; try simp [Heap.set_get, -pickV, *]) | (refine awp_cond' ?_; try simp [Heap.set_get, -pickV, *]) | refine And.intro (by omega) ?_ | refine And.intro (by assumption) ?_ | refine and_lf (by omega) ?_ | refine and_rf ?_ (by omega) | refine and_imps (fun _ => ?_) (fun _ => ?_) | refine arounds_k fun K hK => ?_ | refine Or.inl ⟨by omega, ?_⟩ | refine Or.inr ⟨by omega, ?_⟩ | refine or_split (fun _ => ?_) (fun _ => ?_) | exact Sub.refl _ | refine imp_in fun _ => ?_ | refine and_ri ?_ (fun _ => ?_) | refine and_li (fun _ => ?_) ?_ | (refine And.intro ?_ ?_; focus (intros; simp [*]; done)) | fail)
            all_goals first
              | (rw [← hres]; exact ⟨rfl, rfl⟩)
              | exact ⟨by rw [← hres]; exact ⟨rfl, rfl⟩, q4⟩
          · by_cases ho : 1 < othersR nodes n
            · have hgd : goodR nodes n = false := by rw [hgr]; simp; omega
              rw [runG_good hlt (by rw [hn]; exact hfm) (by rw [hn]; exact hkl) (by rw [hn]; exact hgd)] at hres
              clear hgr
              simp (maxSteps := 10000000) only [AgainAt, hav, List.contains_cons, List.contains_nil, Bool.or_false, Nat.reduceAdd, Nat.reduceBEq, Bool.or_true, Bool.true_or, Bool.false_or, if_true, if_false, Bool.false_eq_true]
              repeat' (first | refine Keep.go (by assumption) ?_ | refine awp_seq_k fun K hK => ?_ | (refine awp_region ?_; try simp [Heap.set_get, -pickV, *]) | refine awp_block ?_ | (refine awp_ret ?_; try simp) | (refine awp_skip ?_; try simp) | (refine awp_exit ?_; try simp) | (refine KeepQ.go (by assumption) ?_; try simp [Heap.set_get, -pickV, *]) | (refine awp_cond' ?_; try simp [Heap.set_get, -pickV, *]) | refine And.intro (by omega) ?_ | refine And.intro (by assumption) ?_ | refine and_lf (by omega) ?_ | refine and_rf ?_ (by omega) | refine and_imps (fun _ => ?_) (fun _ => ?_) | refine arounds_k fun K hK => ?_ | refine Or.inl ⟨by omega, ?_⟩ | refine Or.inr ⟨by omega, ?_⟩ | refine or_split (fun _ => ?_) (fun _ => ?_) | exact Sub.refl _ | refine imp_in fun _ => ?_ | refine and_ri ?_ (fun _ => ?_) | refine and_li (fun _ => ?_) ?_ | (refine And.intro ?_ ?_; focus (intros; simp [*]; done)) | fail)
              all_goals first
                | (rw [← hres]; exact ⟨rfl, rfl⟩)
                | exact ⟨by rw [← hres]; exact ⟨rfl, rfl⟩, q4⟩
            · have hgd : goodR nodes n = true := by rw [hgr]; simp; omega
              by_cases hdp : 200 < d'[i]
              · rw [runG_deep hlt (by rw [hn]; exact hfm) (by rw [hn]; exact hkl) (by rw [hn]; exact hgd) (by simpa [List.getD, hid] using hdp)] at hres
                clear hgr
                simp (maxSteps := 10000000) only [AgainAt, hav, List.contains_cons, List.contains_nil, Bool.or_false, Nat.reduceAdd, Nat.reduceBEq, Bool.or_true, Bool.true_or, Bool.false_or, if_true, if_false, Bool.false_eq_true]
                repeat' (first | refine Keep.go (by assumption) ?_ | refine awp_seq_k fun K hK => ?_ | (refine awp_region ?_; try simp [Heap.set_get, -pickV, *]) | refine awp_block ?_ | (refine awp_ret ?_; try simp) | (refine awp_skip ?_; try simp) | (refine awp_exit ?_; try simp) | (refine KeepQ.go (by assumption) ?_; try simp [Heap.set_get, -pickV, *]) | (refine awp_cond' ?_; try simp [Heap.set_get, -pickV, *]) | refine And.intro (by omega) ?_ | refine And.intro (by assumption) ?_ | refine and_lf (by omega) ?_ | refine and_rf ?_ (by omega) | refine and_imps (fun _ => ?_) (fun _ => ?_) | refine arounds_k fun K hK => ?_ | refine Or.inl ⟨by omega, ?_⟩ | refine Or.inr ⟨by omega, ?_⟩ | refine or_split (fun _ => ?_) (fun _ => ?_) | exact Sub.refl _ | refine imp_in fun _ => ?_ | refine and_ri ?_ (fun _ => ?_) | refine and_li (fun _ => ?_) ?_ | (refine And.intro ?_ ?_; focus (intros; simp [*]; done)) | fail)
                all_goals first
                  | (rw [← hres]; exact ⟨rfl, rfl⟩)
                  | exact ⟨by rw [← hres]; exact ⟨rfl, rfl⟩, q4⟩
              · rw [runG_next hlt (by rw [hn]; exact hfm) (by rw [hn]; exact hkl) (by rw [hn]; exact hgd) (by simpa [List.getD, hid] using hdp)] at hres
                clear hgr
                simp (maxSteps := 10000000) only [AgainAt, hav, List.contains_cons, List.contains_nil, Bool.or_false, Nat.reduceAdd, Nat.reduceBEq, Bool.or_true, Bool.true_or, Bool.false_or, if_true, if_false, Bool.false_eq_true]
                repeat' (first | refine Keep.go (by assumption) ?_ | refine awp_seq_k fun K hK => ?_ | (refine awp_region ?_; try simp [Heap.set_get, -pickV, *]) | refine awp_block ?_ | (refine awp_ret ?_; try simp) | (refine awp_skip ?_; try simp) | (refine awp_exit ?_; try simp) | (refine KeepQ.go (by assumption) ?_; try simp [Heap.set_get, -pickV, *]) | (refine awp_cond' ?_; try simp [Heap.set_get, -pickV, *]) | refine And.intro (by omega) ?_ | refine And.intro (by assumption) ?_ | refine and_lf (by omega) ?_ | refine and_rf ?_ (by omega) | refine and_imps (fun _ => ?_) (fun _ => ?_) | refine arounds_k fun K hK => ?_ | refine Or.inl ⟨by omega, ?_⟩ | refine Or.inr ⟨by omega, ?_⟩ | refine or_split (fun _ => ?_) (fun _ => ?_) | exact Sub.refl _ | refine imp_in fun _ => ?_ | refine and_ri ?_ (fun _ => ?_) | refine and_li (fun _ => ?_) ?_ | (refine And.intro ?_ ?_; focus (intros; simp [*]; done)) | fail)
                refine ⟨by simp (maxSteps := 10000000) [hav], rfl, nodes.length - (i + 1), _, by omega, Sub.refl _, i + 1, o', d', by omega, rfl, by simp, hol', hdl', hdb', fun s hs hsi => ?_, hres, ⟨q1, q2, q3, q4⟩⟩
                by_cases e : s < i
                · exact hcase s hs e
                · have : s = i := by omega
                  subst this
                  rw [hn]; exact caseR_kids hgd
  · rw [runG_last (by omega)] at hres
    have hpos : 0 < nodes.length := by omega
    have hkin := kindAt_get (nodes := nodes) (k := nodes.length - 1) (by omega)
    have hlast : nodes[nodes.length - 1]? = some nodes[nodes.length - 1] := List.getElem?_eq_getElem (by omega)
    have w6 : (nodes.length : Int) - 1 = ((nodes.length - 1 : Nat) : Int) := by omega
    have w5 : IntKind.i64.wrap ((nodes.length - 1 : Nat) : Int) = ((nodes.length - 1 : Nat) : Int) := w64 (by omega) (by omega)
    have hlt1 : nodes.length - 1 < nodes.length := by omega
    cases hk26 : decide (nodes[nodes.length - 1].kind = 26)
    · have hk26' := of_decide_eq_false hk26
      have hll : lastL nodes o = (30, ((nodes.length - 1 : Nat) : Int)) := by simp [lastL, w6, hkin, hk26']
      rw [hll] at hres
      clear hk26' hkin
      simp (maxSteps := 10000000) only [AgainAt, hav, List.contains_cons, List.contains_nil, Bool.or_false, Nat.reduceAdd, Nat.reduceBEq, Bool.or_true, Bool.true_or, Bool.false_or, if_true, if_false, Bool.false_eq_true]
      repeat' (first | refine Keep.go (by assumption) ?_ | refine awp_seq_k fun K hK => ?_ | (refine awp_region ?_; try simp [Heap.set_get, -pickV, *]) | refine awp_block ?_ | (refine awp_ret ?_; try simp) | (refine awp_skip ?_; try simp) | (refine awp_exit ?_; try simp) | (refine KeepQ.go (by assumption) ?_; try simp [Heap.set_get, -pickV, *]) | (refine awp_cond' ?_; try simp [Heap.set_get, -pickV, *]) | refine And.intro (by omega) ?_ | refine And.intro (by assumption) ?_ | refine and_lf (by omega) ?_ | refine and_rf ?_ (by omega) | refine and_imps (fun _ => ?_) (fun _ => ?_) | refine arounds_k fun K hK => ?_ | refine Or.inl ⟨by omega, ?_⟩ | refine Or.inr ⟨by omega, ?_⟩ | refine or_split (fun _ => ?_) (fun _ => ?_) | exact Sub.refl _ | refine imp_in fun _ => ?_ | refine and_ri ?_ (fun _ => ?_) | refine and_li (fun _ => ?_) ?_ | (refine And.intro ?_ ?_; focus (intros; simp [*]; done)) | fail)
      all_goals first
        | (rw [← hres]; exact ⟨rfl, rfl⟩)
        | exact ⟨by rw [← hres]; exact ⟨rfl, rfl⟩, m4⟩
    · have hk26' := of_decide_eq_true hk26
      have hll : lastL nodes o = (if 0 ≤ firstNo (o.take (nodes.length - 1)) then (3, firstNo (o.take (nodes.length - 1))) else (0, 0)) := by simp [lastL, w6, hkin, hk26']
      rw [hll] at hres
      clear hk26' hkin hll
      simp (maxSteps := 10000000) only [AgainAt, hav, List.contains_cons, List.contains_nil, Bool.or_false, Nat.reduceAdd, Nat.reduceBEq, Bool.or_true, Bool.true_or, Bool.false_or, if_true, if_false, Bool.false_eq_true]
      repeat' (first | refine Keep.go (by assumption) ?_ | refine awp_seq_k fun K hK => ?_ | (refine awp_region ?_; try simp [Heap.set_get, -pickV, *]) | refine awp_block ?_ | (refine awp_ret ?_; try simp) | (refine awp_skip ?_; try simp) | (refine awp_exit ?_; try simp) | (refine KeepQ.go (by assumption) ?_; try simp [Heap.set_get, -pickV, *]) | (refine awp_cond' ?_; try simp [Heap.set_get, -pickV, *]) | refine And.intro (by omega) ?_ | refine And.intro (by assumption) ?_ | refine and_lf (by omega) ?_ | refine and_rf ?_ (by omega) | refine and_imps (fun _ => ?_) (fun _ => ?_) | refine arounds_k fun K hK => ?_ | refine Or.inl ⟨by omega, ?_⟩ | refine Or.inr ⟨by omega, ?_⟩ | refine or_split (fun _ => ?_) (fun _ => ?_) | exact Sub.refl _ | refine imp_in fun _ => ?_ | refine and_ri ?_ (fun _ => ?_) | refine and_li (fun _ => ?_) ?_ | (refine And.intro ?_ ?_; focus (intros; simp [*]; done)) | fail)
      refine awp_loop_h [2, 3, 17, 227, 228, 229, 230, 231, 232, 233, 234, 235, 236, 237] (fun m x g' => ∃ (j : Nat), j ≤ nodes.length - 1 ∧ m = nodes.length - 1 - j ∧ x 17 = .int .i64 j ∧ (∀ s (hs : s < o.length), s < j → o[s] = true) ∧ g' = g) (nodes.length - 1)
        ⟨0, by omega, by omega, rfl, fun s _ h => by omega, rfl⟩ (fun m x g' hI K hK => ?_)
      obtain ⟨j, hj, rfl, hx17, hall, hgg⟩ := hI
      subst g'
      have w2 : IntKind.i64.wrap ((j : Int) + 1) = j + 1 := w64 (by omega) (by omega)
      have htl : (o.take (nodes.length - 1)).length = nodes.length - 1 := by simp; omega
      by_cases hjl : j < nodes.length - 1
      · have hjo : j < o.length := by omega
        cases hoj : o[j]
        · have hoj' : o[j]? = some false := by rw [List.getElem?_eq_getElem hjo, hoj]
          have hfn : firstNo (o.take (nodes.length - 1)) = j := firstNo_at (by omega) (by simp [hoj]) (fun s hs hsj => by simpa using hall s (by omega) hsj)
          rw [hfn, if_pos (by omega)] at hres
          clear hfn
          simp (maxSteps := 10000000) only [AgainAt, hav, List.contains_cons, List.contains_nil, Bool.or_false, Nat.reduceAdd, Nat.reduceBEq, Bool.or_true, Bool.true_or, Bool.false_or, if_true, if_false, Bool.false_eq_true]
          repeat' (first | refine Keep.go (by assumption) ?_ | refine awp_seq_k fun K hK => ?_ | (refine awp_region ?_; try simp [Heap.set_get, -pickV, *]) | refine awp_block ?_ | (refine awp_ret ?_; try simp) | (refine awp_skip ?_; try simp) | (refine awp_exit ?_; try simp) | (refine KeepQ.go (by assumption) ?_; try simp [Heap.set_get, -pickV, *]) | (refine awp_cond' ?_; try simp [Heap.set_get, -pickV, *]) | refine And.intro (by omega) ?_ | refine And.intro (by assumption) ?_ | refine and_lf (by omega) ?_ | refine and_rf ?_ (by omega) | refine and_imps (fun _ => ?_) (fun _ => ?_) | refine arounds_k fun K hK => ?_ | refine Or.inl ⟨by omega, ?_⟩ | refine Or.inr ⟨by omega, ?_⟩ | refine or_split (fun _ => ?_) (fun _ => ?_) | exact Sub.refl _ | refine imp_in fun _ => ?_ | refine and_ri ?_ (fun _ => ?_) | refine and_li (fun _ => ?_) ?_ | (refine And.intro ?_ ?_; focus (intros; simp [*]; done)) | fail)
          all_goals first
            | (rw [← hres]; exact ⟨rfl, rfl⟩)
            | exact ⟨by rw [← hres]; exact ⟨rfl, rfl⟩, m4⟩
        · have hoj' : o[j]? = some true := by rw [List.getElem?_eq_getElem hjo, hoj]
          simp (maxSteps := 10000000) only [AgainAt, hav, List.contains_cons, List.contains_nil, Bool.or_false, Nat.reduceAdd, Nat.reduceBEq, Bool.or_true, Bool.true_or, Bool.false_or, if_true, if_false, Bool.false_eq_true]
          repeat' (first | refine Keep.go (by assumption) ?_ | refine awp_seq_k fun K hK => ?_ | (refine awp_region ?_; try simp [Heap.set_get, -pickV, *]) | refine awp_block ?_ | (refine awp_ret ?_; try simp) | (refine awp_skip ?_; try simp) | (refine awp_exit ?_; try simp) | (refine KeepQ.go (by assumption) ?_; try simp [Heap.set_get, -pickV, *]) | (refine awp_cond' ?_; try simp [Heap.set_get, -pickV, *]) | refine And.intro (by omega) ?_ | refine And.intro (by assumption) ?_ | refine and_lf (by omega) ?_ | refine and_rf ?_ (by omega) | refine and_imps (fun _ => ?_) (fun _ => ?_) | refine arounds_k fun K hK => ?_ | refine Or.inl ⟨by omega, ?_⟩ | refine Or.inr ⟨by omega, ?_⟩ | refine or_split (fun _ => ?_) (fun _ => ?_) | exact Sub.refl _ | refine imp_in fun _ => ?_ | refine and_ri ?_ (fun _ => ?_) | refine and_li (fun _ => ?_) ?_ | (refine And.intro ?_ ?_; focus (intros; simp [*]; done)) | fail)
          refine ⟨by simp [hav], rfl, nodes.length - 1 - (j + 1), _, by omega, Sub.refl _, j + 1, by omega, rfl, by simp, fun s hs hsj => ?_, rfl⟩
          by_cases e : s < j
          · exact hall s hs e
          · have : s = j := by omega
            subst this
            exact hoj
      · have hfn : firstNo (o.take (nodes.length - 1)) = -1 := firstNo_none (fun s hs => by simpa using hall s (by simp at hs; omega) (by omega))
        rw [hfn, if_neg (by omega)] at hres
        clear hfn
        simp (maxSteps := 10000000) only [AgainAt, hav, List.contains_cons, List.contains_nil, Bool.or_false, Nat.reduceAdd, Nat.reduceBEq, Bool.or_true, Bool.true_or, Bool.false_or, if_true, if_false, Bool.false_eq_true]
        repeat' (first | refine Keep.go (by assumption) ?_ | refine awp_seq_k fun K hK => ?_ | (refine awp_region ?_; try simp [Heap.set_get, -pickV, *]) | refine awp_block ?_ | (refine awp_ret ?_; try simp) | (refine awp_skip ?_; try simp) | (refine awp_exit ?_; try simp) | (refine KeepQ.go (by assumption) ?_; try simp [Heap.set_get, -pickV, *]) | (refine awp_cond' ?_; try simp [Heap.set_get, -pickV, *]) | refine And.intro (by omega) ?_ | refine And.intro (by assumption) ?_ | refine and_lf (by omega) ?_ | refine and_rf ?_ (by omega) | refine and_imps (fun _ => ?_) (fun _ => ?_) | refine arounds_k fun K hK => ?_ | refine Or.inl ⟨by omega, ?_⟩ | refine Or.inr ⟨by omega, ?_⟩ | refine or_split (fun _ => ?_) (fun _ => ?_) | exact Sub.refl _ | refine imp_in fun _ => ?_ | refine and_ri ?_ (fun _ => ?_) | refine and_li (fun _ => ?_) ?_ | (refine And.intro ?_ ?_; focus (intros; simp [*]; done)) | fail)
        all_goals first
          | (rw [← hres]; exact ⟨rfl, rfl⟩)
          | exact ⟨by rw [← hres]; exact ⟨rfl, rfl⟩, m4⟩
end Go.Proofs.YtmnkalojpefclaaDoor
