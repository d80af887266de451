import Derived.Test.YtmnkalojpefclaaDoorX
import Derived.Test.YtmnkalojpefclaaDoorV
import Derived.Test.YtmnkalojpefclaaDoorAL17
import Derived.Test.YtmnkalojpefclaaDoorSM
import Derived.Test.YtmnkalojpefclaaDoorM
import Derived.Test.YtmnkalojpefclaaDoorK
import Derived.Test.YtmnkalojpefclaaDoorAL12
import Derived.Test.YtmnkalojpefclaaDoorWR
import Derived.Test.YtmnkalojpefclaaDoorY
set_option linter.unusedSimpArgs false
set_option linter.unusedVariables false
namespace Go.Proofs.YtmnkalojpefclaaDoor
open Go Go.AL Go.Proofs
theorem kidLoop_in2 (i : Nat) : ∀ (ks : List Int) (o : List Bool) (d : List Int) (x : List Bool × List Int), kidLoop i ks o d = .inr x → ∀ k ∈ ks, -1 ≤ k ∧ k < (i : Int)
  | [], _, _, _, _, k, hk => by simp at hk
  | q :: ks, o, d, x, h, k, hk => by
    simp only [kidLoop] at h
    split at h
    · cases h
    · rename_i hq
      rcases List.mem_cons.1 hk with rfl | hk
      · omega
      · split at h
        · exact kidLoop_in2 i ks _ _ x h k hk
        · split at h
          · cases h
          · exact kidLoop_in2 i ks _ _ x h k hk
/-- Each node's kids stand ahead of it, and are nodes or none. -/
def KidsIn (nodes : List Nd) : Prop := ∀ j (hj : j < nodes.length), ∀ k ∈ nodes[j].kids, -1 ≤ k ∧ k < (j : Int)
theorem run_kids {form : Nd → Bool} {good : List Nd → Nd → Bool} (nodes : List Nd) : ∀ (ns : List Nd) (i : Nat) (o : List Bool) (d : List Int), nodes.drop i = ns → (runG form good nodes ns i o d).1 = 0 → ∀ j (hj : j < nodes.length), i ≤ j → ∀ k ∈ nodes[j].kids, -1 ≤ k ∧ k < (j : Int)
  | [], i, o, d, he, _, j, hj, hij, k, _ => by
    have := List.drop_eq_nil_iff.1 he
    omega
  | n :: ns, i, o, d, he, hz, j, hj, hij, k, hk => by
    have hlt : i < nodes.length := by
      by_cases h : i < nodes.length
      · exact h
      · rw [List.drop_eq_nil_of_le (by omega)] at he; cases he
    rw [List.drop_eq_getElem_cons hlt] at he
    injection he with he1 he2
    simp only [runG] at hz
    split at hz
    · simp at hz
    · split at hz
      · rename_i c hkl
        have : c ≠ 0 := kidLoop_err i n.kids o d c hkl
        exact absurd hz this
      · rename_i o' d' hkl
        split at hz
        · simp at hz
        · split at hz
          · simp at hz
          · by_cases e : j = i
            · subst e
              rw [he1] at hk
              exact kidLoop_in2 j n.kids o d _ hkl k hk
            · exact run_kids nodes ns (i + 1) o' d' he2 hz j hj (by omega) k hk
where
  kidLoop_err (i : Nat) : ∀ (ks : List Int) (o : List Bool) (d : List Int) (c : Int), kidLoop i ks o d = .inl c → c ≠ 0
  | [], _, _, _, h => by simp [kidLoop] at h
  | q :: ks, o, d, c, h => by
    simp only [kidLoop] at h
    split at h
    · injection h with h; omega
    · split at h
      · exact kidLoop_err i ks _ _ c h
      · split at h
        · injection h with h; omega
        · exact kidLoop_err i ks _ _ c h
theorem check_kids {nodes : List Nd} (h : (checkL nodes).1 = 0) : KidsIn nodes := by
  simp only [checkL, checkG] at h
  split at h
  · simp at h
  · exact fun j hj k hk => run_kids nodes nodes 0 _ _ rfl h j hj (by omega) k hk
theorem KidsIn.down {nodes : List Nd} (h : KidsIn nodes) : Down nodes := fun i hi k hk => (h i hi k hk).2
theorem KidsIn.lt {nodes : List Nd} (h : KidsIn nodes) : ∀ n ∈ nodes, ∀ k ∈ n.kids, k < (nodes.length : Int) := fun n hn k hk => by
  obtain ⟨i, hi, rfl⟩ := List.getElem_of_mem hn
  have := (h i hi k hk).2
  omega
theorem sameF_self {nodes : List Nd} (hd : Down nodes) : ∀ (f : Nat) (i : Int), i < f → i < nodes.length → sameF nodes nodes f i i = true
  | 0, i, _, _ => by simp [sameF]
  | f + 1, i, hf, hi => by
    simp only [sameF]
    split
    · simp
    · rename_i h0
      have hlt : i.toNat < nodes.length := by omega
      rw [List.getElem?_eq_getElem hlt]
      simp only [decide_true, Bool.true_and, List.all_eq_true]
      intro p hp
      have h1 : p.1 = p.2 ∧ p.1 ∈ nodes[i.toNat].kids := by
        obtain ⟨s, hs, rfl⟩ := List.getElem_of_mem hp
        simp at hs ⊢
      have h2 := hd i.toNat hlt p.1 h1.2
      obtain ⟨p1, p2⟩ := p
      simp only at h1 h2 ⊢
      rw [← h1.1]
      exact sameF_self hd f p1 (by omega) (by omega)
theorem sameL_self {nodes : List Nd} (hd : Down nodes) : sameL nodes nodes = true := by
  simp only [sameL, decide_true, Bool.true_and, Bool.or_eq_true, decide_eq_true_eq]
  exact .inr (sameF_self hd _ _ (by omega) (by omega))
end Go.Proofs.YtmnkalojpefclaaDoor
namespace Go.Proofs.YtmnkalojpefclaaDoor
open Go Go.AL Go.Proofs
/-- A node's row, its kids in a block that may be written. -/
def rowB (n : Nd) (b : Nat) : List AV := [.int .i64 n.kind, .int .i64 n.pos, .str n.text, .int .i64 n.num, if n.kids = [] then .list 1 [] .full else .arr b 0 n.kids.length n.kids.length]
theorem rowB_length (n : Nd) (b : Nat) : (rowB n b).length = 5 := rfl
set_option maxRecDepth 100000 in
set_option maxHeartbeats 4000000 in
theorem CloneB_c (nodes : List Nd) (hl : nodes.length ≤ 131072) (hk : ∀ n ∈ nodes, n.kids.length ≤ 281474976710) (h : Heap) (R : AV → Heap → Prop) (hne : nodes ≠ [])
    (hR : ∀ (b : Nat) (cs : List AV) (kb : Nat → Nat) (g : Heap), h b = none → nodes.length * 5 ≤ cs.length → (∀ j (hj : j < nodes.length) q, q < 5 → cs.getD (j * 5 + q) .any = (rowB nodes[j] (kb j)).getD q .any) → AL.Sub h g → g b = some (.cells cs) →
      (∀ j (hj : j < nodes.length), nodes[j].kids ≠ [] → h (kb j) = none ∧ ¬ kb j = b ∧ ∃ sp, g (kb j) = some (.cells (nodes[j].kids.map (AV.int .i64) ++ sp))) → R (.agg [.arr b 0 nodes.length nodes.length]) g) :
    ACalls Tryd.prog 30 [treeAV nodes .no] h R := by
  refine acalls_of Tryd.func30 rfl Tryd.ntmps30 (congrArg Array.toList Tryd.results30) fun Q hQ => ?_
  repeat' (first | refine Keep.go (by assumption) ?_ | refine awp_seq_k fun K hK => ?_ | (refine awp_region ?_; try simp [Heap.set_get, *]) | refine awp_block ?_ | (refine awp_ret ?_; try simp) | (refine awp_skip ?_; try simp) | (refine awp_exit ?_; try simp) | (refine KeepQ.go (by assumption) ?_; try simp [Heap.set_get, *]) | (refine awp_cond' ?_; try simp [Heap.set_get, *]) | refine And.intro (by omega) ?_ | refine And.intro (by assumption) ?_ | refine and_lf (by omega) ?_ | refine and_rf ?_ (by omega) | refine and_imps (fun _ => ?_) (fun _ => ?_) | refine arounds_k fun K hK => ?_ | refine Or.inl ⟨by omega, ?_⟩ | refine Or.inr ⟨by omega, ?_⟩ | refine or_split (fun _ => ?_) (fun _ => ?_) | exact Sub.refl _ | refine imp_in fun _ => ?_ | refine and_ri ?_ (fun _ => ?_) | refine and_li (fun _ => ?_) ?_ | (refine And.intro ?_ ?_; focus (intros; simp [*]; done)) | fail)
  intro b1 hb1; simp only [Fresh, Heap.set_none] at hb1; try simp [Heap.set_get, *]
  intro b2 hb2; simp only [Fresh, Heap.set_none] at hb2; try simp [Heap.set_get, *]
  repeat' (first | refine Keep.go (by assumption) ?_ | refine awp_seq_k fun K hK => ?_ | (refine awp_region ?_; try simp [Heap.set_get, *]) | refine awp_block ?_ | (refine awp_ret ?_; try simp) | (refine awp_skip ?_; try simp) | (refine awp_exit ?_; try simp) | (refine KeepQ.go (by assumption) ?_; try simp [Heap.set_get, *]) | (refine awp_cond' ?_; try simp [Heap.set_get, *]) | refine And.intro (by omega) ?_ | refine And.intro (by assumption) ?_ | refine and_lf (by omega) ?_ | refine and_rf ?_ (by omega) | refine and_imps (fun _ => ?_) (fun _ => ?_) | refine arounds_k fun K hK => ?_ | refine Or.inl ⟨by omega, ?_⟩ | refine Or.inr ⟨by omega, ?_⟩ | refine or_split (fun _ => ?_) (fun _ => ?_) | exact Sub.refl _ | refine imp_in fun _ => ?_ | refine and_ri ?_ (fun _ => ?_) | refine and_li (fun _ => ?_) ?_ | (refine And.intro ?_ ?_; focus (intros; simp [*]; done)) | fail)
  refine ownN_c nodes (by omega) _ _ (fun e => absurd e hne) (fun _ bn c hbn hc => ?_)
  simp only [Heap.set_none] at hbn
  simp [Heap.set_get, *]
  repeat' (first | refine Keep.go (by assumption) ?_ | refine awp_seq_k fun K hK => ?_ | (refine awp_region ?_; try simp [Heap.set_get, *]) | refine awp_block ?_ | (refine awp_ret ?_; try simp) | (refine awp_skip ?_; try simp) | (refine awp_exit ?_; try simp) | (refine KeepQ.go (by assumption) ?_; try simp [Heap.set_get, *]) | (refine awp_cond' ?_; try simp [Heap.set_get, *]) | refine And.intro (by omega) ?_ | refine And.intro (by assumption) ?_ | refine and_lf (by omega) ?_ | refine and_rf ?_ (by omega) | refine and_imps (fun _ => ?_) (fun _ => ?_) | refine arounds_k fun K hK => ?_ | refine Or.inl ⟨by omega, ?_⟩ | refine Or.inr ⟨by omega, ?_⟩ | refine or_split (fun _ => ?_) (fun _ => ?_) | exact Sub.refl _ | refine imp_in fun _ => ?_ | refine and_ri ?_ (fun _ => ?_) | refine and_li (fun _ => ?_) ?_ | (refine And.intro ?_ ?_; focus (intros; simp [*]; done)) | fail)
  intro b3 hb3; simp only [Fresh, Heap.set_none] at hb3; try simp [Heap.set_get, *]
  repeat' (first | refine Keep.go (by assumption) ?_ | refine awp_seq_k fun K hK => ?_ | (refine awp_region ?_; try simp [Heap.set_get, *]) | refine awp_block ?_ | (refine awp_ret ?_; try simp) | (refine awp_skip ?_; try simp) | (refine awp_exit ?_; try simp) | (refine KeepQ.go (by assumption) ?_; try simp [Heap.set_get, *]) | (refine awp_cond' ?_; try simp [Heap.set_get, *]) | refine And.intro (by omega) ?_ | refine And.intro (by assumption) ?_ | refine and_lf (by omega) ?_ | refine and_rf ?_ (by omega) | refine and_imps (fun _ => ?_) (fun _ => ?_) | refine arounds_k fun K hK => ?_ | refine Or.inl ⟨by omega, ?_⟩ | refine Or.inr ⟨by omega, ?_⟩ | refine or_split (fun _ => ?_) (fun _ => ?_) | exact Sub.refl _ | refine imp_in fun _ => ?_ | refine and_ri ?_ (fun _ => ?_) | refine and_li (fun _ => ?_) ?_ | (refine And.intro ?_ ?_; focus (intros; simp [*]; done)) | fail)
  have hpos : 0 < nodes.length := List.length_pos_iff.2 hne
  have hbh : h bn = none := hbn.2.2.2.2
  refine awp_loop_h [4, 12, 13, 14, 15, 16, 17, 18, 19, 20, 21, 22, 23, 24, 25, 26, 27] (fun m x g => ∃ (i : Nat) (cs : List AV) (kb : Nat → Nat), i ≤ nodes.length ∧ m = nodes.length - i ∧ x 12 = .int .i64 i ∧ nodes.length * 5 ≤ cs.length ∧
    (∀ j (hj : j < nodes.length) q, q < 5 → cs.getD (j * 5 + q) .any = (if j < i then rowB nodes[j] (kb j) else row nodes[j]).getD q .any) ∧ 
    (∀ j (hj : j < nodes.length), j < i → nodes[j].kids ≠ [] → h (kb j) = none ∧ ¬ kb j = bn ∧ ∃ sp, g (kb j) = some (.cells (nodes[j].kids.map (AV.int .i64) ++ sp))) ∧
    g bn = some (.cells cs) ∧ g b3 = some (.cells [.arr bn 0 nodes.length nodes.length]) ∧ g b2 = some (.cells [.list 5 [] .nil]) ∧ AL.Sub h g) nodes.length
    ⟨0, _, fun _ => 0, by omega, by omega, rfl, ?_, fun j hj q hq => by simpa using getD_rows_append nodes (List.replicate ((c - nodes.length) * 5) .any) j q hj hq, fun j _ hj => by omega, by simp [Heap.set_get, hb3], by simp [Heap.set_get], by simp [Heap.set_get, hb3, hbn], by (repeat (first | exact Sub.refl _ | refine Sub.loc ?_ (by simp [*]) _))⟩ (fun m x g hI K hK => ?_)
  · rw [List.length_append, length_flatten (sz := 5) (nodes.map row) (by simp [ndRow])]; simp
  obtain ⟨i, cs, kb, hi, rfl, hx, hcl, hcs, hkb, hgn, hg3, hg2, hsub⟩ := hI
  have w1 : IntKind.i64.wrap ((i : Int) + 1) = i + 1 := w64 (by omega) (by omega)
  have n3n : ¬ b3 = bn := fun e => by rw [e, hgn] at hg3; injection hg3 with hg3; injection hg3 with hg3; rw [hg3] at hcl; simp at hcl; omega
  have nn3 : ¬ bn = b3 := fun e => n3n e.symm
  by_cases hlt : i < nodes.length
  · have h4 := hcs i hlt 4 (by omega)
    simp only [Nat.lt_irrefl, if_false] at h4
    have h5 : i * 5 + 4 < cs.length := by omega
    have h4' : cs[i * 5 + 4]? = some (.list 1 (ints nodes[i].kids) .no) := by
      rw [List.getElem?_eq_getElem h5]
      simp only [List.getD, List.getElem?_eq_getElem h5, Option.getD_some] at h4
      rw [h4]; rfl
    have h6 : cs[i * 5 + 4] = .list 1 (ints nodes[i].kids) .no := by
      rw [List.getElem?_eq_getElem h5] at h4'
      exact Option.some.inj h4'
    simp (maxSteps := 10000000) only [AgainAt, hav, List.contains_cons, List.contains_nil, Bool.or_false, Nat.reduceAdd, Nat.reduceBEq, Bool.or_true, Bool.true_or, Bool.false_or, if_true, if_false, Bool.false_eq_true]
    repeat' (first | refine Keep.go (by assumption) ?_ | refine awp_seq_k fun K hK => ?_ | (refine awp_region ?_; try simp [Heap.set_get, *]) | refine awp_block ?_ | (refine awp_ret ?_; try simp) | (refine awp_skip ?_; try simp) | (refine awp_exit ?_; try simp) | (refine KeepQ.go (by assumption) ?_; try simp [Heap.set_get, *]) | (refine awp_cond' ?_; try simp [Heap.set_get, *]) | refine And.intro (by omega) ?_ | refine And.intro (by assumption) ?_ | refine and_lf (by omega) ?_ | refine and_rf ?_ (by omega) | refine and_imps (fun _ => ?_) (fun _ => ?_) | refine arounds_k fun K hK => ?_ | refine Or.inl ⟨by omega, ?_⟩ | refine Or.inr ⟨by omega, ?_⟩ | refine or_split (fun _ => ?_) (fun _ => ?_) | exact Sub.refl _ | refine imp_in fun _ => ?_ | refine and_ri ?_ (fun _ => ?_) | refine and_li (fun _ => ?_) ?_ | (refine And.intro ?_ ?_; focus (intros; simp [*]; done)) | fail)
    refine awp_region_draw [b3, bn] [(0, true), (1, true), (2, true), (3, true), (4, true), (5, true), (6, true), (7, true), (8, true), (9, false)] [10, 11, 12] follows (by kernel_rfl) rfl (by kernel_rfl) ?_; simp [Heap.set_get, Heap.plus_set, *]
    refine ownI_c nodes[i].kids (hk _ (List.getElem_mem hlt)) _ _ (fun e => ?_) (fun e b c2 hb hc2 => ?_)
    · simp [Heap.set_get, Heap.plus_set, *]
      repeat' (first | refine Keep.go (by assumption) ?_ | refine awp_seq_k fun K hK => ?_ | (refine awp_region ?_; try simp [Heap.set_get, *]) | refine awp_block ?_ | (refine awp_ret ?_; try simp) | (refine awp_skip ?_; try simp) | (refine awp_exit ?_; try simp) | (refine KeepQ.go (by assumption) ?_; try simp [Heap.set_get, *]) | (refine awp_cond' ?_; try simp [Heap.set_get, *]) | refine And.intro (by omega) ?_ | refine And.intro (by assumption) ?_ | refine and_lf (by omega) ?_ | refine and_rf ?_ (by omega) | refine and_imps (fun _ => ?_) (fun _ => ?_) | refine arounds_k fun K hK => ?_ | refine Or.inl ⟨by omega, ?_⟩ | refine Or.inr ⟨by omega, ?_⟩ | refine or_split (fun _ => ?_) (fun _ => ?_) | exact Sub.refl _ | refine imp_in fun _ => ?_ | refine and_ri ?_ (fun _ => ?_) | refine and_li (fun _ => ?_) ?_ | (refine And.intro ?_ ?_; focus (intros; simp [*]; done)) | fail)
      have hsp := splice_getD cs (i * 5 + 4) [.list 1 [] .full] (by simp; omega)
      have hsl := splice_length cs (i * 5 + 4) [.list 1 [] .full] (by simp; omega)
      simp only [splice, List.append_assoc, List.cons_append, List.nil_append, List.length_singleton] at hsp hsl
      refine ⟨by simp [hav], rfl, nodes.length - (i + 1), _, by omega, Sub.refl _, i + 1, _, kb, by omega, rfl, by simp, by rw [hsl]; exact hcl, fun j hj q hq => ?_, fun j hj hji hjk => ?_, by simp [Heap.set_get], by simp [Heap.set_get, *], by simp [Heap.set_get, *], hsub.loc hbh _⟩
      · have h7 : j * 5 + q < cs.length := by omega
        rw [hsp (j * 5 + q) h7, hcs j hj q hq]
        by_cases e9 : j = i
        · subst e9
          by_cases e2 : q = 4
          · subst e2; simp [rowB, e]
          · have e3 : ¬ (j * 5 + 4 ≤ j * 5 + q ∧ j * 5 + q < j * 5 + 4 + 1) := by omega
            simp only [e3, if_false, Nat.lt_irrefl, Nat.lt_succ_self, if_true]
            have e5 : q = 0 ∨ q = 1 ∨ q = 2 ∨ q = 3 := by omega
            rcases e5 with rfl | rfl | rfl | rfl <;> rfl
        · have e3 : ¬ (i * 5 + 4 ≤ j * 5 + q ∧ j * 5 + q < i * 5 + 4 + 1) := by omega
          have e4 : (j < i + 1) = (j < i) := propext ⟨fun _ => by omega, fun _ => by omega⟩
          simp only [e3, if_false, e4]
      · by_cases e9 : j = i
        · subst e9; exact absurd e hjk
        · obtain ⟨k1, k2, sp, k3⟩ := hkb j hj (by omega) hjk
          exact ⟨k1, k2, sp, by simp [Heap.set_get, k2, k3]⟩
    · have hb0 := hb
      simp only [Heap.minus_get] at hb0
      simp [Heap.set_get, Heap.plus_set, *]
      intro n1 n2
      have m1 : ¬ b = b3 := fun e => n1 e.symm
      have m2 : ¬ b = bn := fun e => n2 e.symm
      have fb : g b = none := by simpa [m1, m2] using hb0
      have fbh : h b = none := by
        cases e9 : h b with
        | none => rfl
        | some z => rw [hsub _ _ e9] at fb; cases fb
      have m3 : ¬ b = b2 := fun e => by rw [e, hg2] at fb; cases fb
      have n3 : ¬ b2 = b := fun e => m3 e.symm
      clear hb hb0
      simp [Heap.set_get, Heap.plus_set, *]
      repeat' (first | refine Keep.go (by assumption) ?_ | refine awp_seq_k fun K hK => ?_ | (refine awp_region ?_; try simp [Heap.set_get, *]) | refine awp_block ?_ | (refine awp_ret ?_; try simp) | (refine awp_skip ?_; try simp) | (refine awp_exit ?_; try simp) | (refine KeepQ.go (by assumption) ?_; try simp [Heap.set_get, *]) | (refine awp_cond' ?_; try simp [Heap.set_get, *]) | refine And.intro (by omega) ?_ | refine And.intro (by assumption) ?_ | refine and_lf (by omega) ?_ | refine and_rf ?_ (by omega) | refine and_imps (fun _ => ?_) (fun _ => ?_) | refine arounds_k fun K hK => ?_ | refine Or.inl ⟨by omega, ?_⟩ | refine Or.inr ⟨by omega, ?_⟩ | refine or_split (fun _ => ?_) (fun _ => ?_) | exact Sub.refl _ | refine imp_in fun _ => ?_ | refine and_ri ?_ (fun _ => ?_) | refine and_li (fun _ => ?_) ?_ | (refine And.intro ?_ ?_; focus (intros; simp [*]; done)) | fail)
      have hsp := splice_getD cs (i * 5 + 4) [.arr b 0 nodes[i].kids.length nodes[i].kids.length] (by simp; omega)
      have hsl := splice_length cs (i * 5 + 4) [.arr b 0 nodes[i].kids.length nodes[i].kids.length] (by simp; omega)
      simp only [splice, List.append_assoc, List.cons_append, List.nil_append, List.length_singleton] at hsp hsl
      refine ⟨by simp [hav], rfl, nodes.length - (i + 1), _, by omega, Sub.refl _, i + 1, _, fun j => if j = i then b else kb j, by omega, rfl, by simp, by rw [hsl]; exact hcl, fun j hj q hq => ?_, fun j hj hji hjk => ?_, by simp [Heap.set_get, *], by simp [Heap.set_get, *], by simp [Heap.set_get, *], ?_⟩
      · have h7 : j * 5 + q < cs.length := by omega
        rw [hsp (j * 5 + q) h7, hcs j hj q hq]
        by_cases e9 : j = i
        · subst e9
          by_cases e2 : q = 4
          · subst e2; simp [rowB, e]
          · have e3 : ¬ (j * 5 + 4 ≤ j * 5 + q ∧ j * 5 + q < j * 5 + 4 + 1) := by omega
            simp only [e3, if_false, Nat.lt_irrefl, Nat.lt_succ_self, if_true]
            have e5 : q = 0 ∨ q = 1 ∨ q = 2 ∨ q = 3 := by omega
            rcases e5 with rfl | rfl | rfl | rfl <;> rfl
        · have e3 : ¬ (i * 5 + 4 ≤ j * 5 + q ∧ j * 5 + q < i * 5 + 4 + 1) := by omega
          have e4 : (j < i + 1) = (j < i) := propext ⟨fun _ => by omega, fun _ => by omega⟩
          simp only [e3, if_false, e4, e9]
      · by_cases e9 : j = i
        · subst e9
          simp only [if_true]
          exact ⟨fbh, m2, List.replicate (c2 - nodes[j].kids.length) .any, by simp [Heap.set_get, *]⟩
        · obtain ⟨k1, k2, sp, k3⟩ := hkb j hj (by omega) hjk
          have k4 : ¬ kb j = b := fun e => by rw [e, fb] at k3; cases k3
          simp only [e9, if_false]
          exact ⟨k1, k2, sp, by simp [Heap.set_get, k2, k3, k4]⟩
      · exact (hsub.loc fbh _).loc hbh _
  · simp (maxSteps := 10000000) only [AgainAt, hav, List.contains_cons, List.contains_nil, Bool.or_false, Nat.reduceAdd, Nat.reduceBEq, Bool.or_true, Bool.true_or, Bool.false_or, if_true, if_false, Bool.false_eq_true]
    repeat' (first | refine Keep.go (by assumption) ?_ | refine awp_seq_k fun K hK => ?_ | (refine awp_region ?_; try simp [Heap.set_get, *]) | refine awp_block ?_ | (refine awp_ret ?_; try simp) | (refine awp_skip ?_; try simp) | (refine awp_exit ?_; try simp) | (refine KeepQ.go (by assumption) ?_; try simp [Heap.set_get, *]) | (refine awp_cond' ?_; try simp [Heap.set_get, *]) | refine And.intro (by omega) ?_ | refine And.intro (by assumption) ?_ | refine and_lf (by omega) ?_ | refine and_rf ?_ (by omega) | refine and_imps (fun _ => ?_) (fun _ => ?_) | refine arounds_k fun K hK => ?_ | refine Or.inl ⟨by omega, ?_⟩ | refine Or.inr ⟨by omega, ?_⟩ | refine or_split (fun _ => ?_) (fun _ => ?_) | exact Sub.refl _ | refine imp_in fun _ => ?_ | refine and_ri ?_ (fun _ => ?_) | refine and_li (fun _ => ?_) ?_ | (refine And.intro ?_ ?_; focus (intros; simp [*]; done)) | fail)
    have hb2h : h b2 = none := hb2.2.2
    refine hR bn cs kb _ hbh hcl (fun j hj q hq => ?_) (hsub.loc hb2h _) (by simp [Heap.set_get, *]) (fun j hj hjk => ?_)
    · have := hcs j hj q hq
      rwa [if_pos (by omega)] at this
    · obtain ⟨k1, k2, sp, k3⟩ := hkb j hj (by omega) hjk
      have k4 : ¬ kb j = b2 := fun e => by
        rw [e, hg2] at k3
        injection k3 with k3
        injection k3 with k3
        obtain ⟨z, zs, hz⟩ := List.exists_cons_of_ne_nil hjk
        rw [hz] at k3
        simp at k3
      exact ⟨k1, k2, sp, by simp [Heap.set_get, k4, k3]⟩
end Go.Proofs.YtmnkalojpefclaaDoor
namespace Go.Proofs.YtmnkalojpefclaaDoor
open Go Go.AL Go.Proofs
/-- A tree whose lists may all be written. -/
structure Open (h : Heap) (nodes : List Nd) (b : Nat) (cs : List AV) (kb : Nat → Nat) : Prop where
  at_ : h b = some (.cells cs)
  len : nodes.length * 5 ≤ cs.length
  cell : ∀ j (hj : j < nodes.length) q, q < 5 → cs.getD (j * 5 + q) .any = (rowB nodes[j] (kb j)).getD q .any
  kid : ∀ j (hj : j < nodes.length), nodes[j].kids ≠ [] → ¬ kb j = b ∧ ∃ sp, h (kb j) = some (.cells (nodes[j].kids.map (AV.int .i64) ++ sp))
/-- What it looks like while nobody writes. -/
theorem Open.deep {h : Heap} {nodes : List Nd} {b : Nat} {cs : List AV} {kb : Nat → Nat} (o : Open h nodes b cs kb) : Deep h (.agg [.arr b 0 nodes.length nodes.length]) (treeAV nodes .no) := by
  refine .agg _ _ rfl fun i hi => ?_
  have : i = 0 := by simpa using hi
  subst this
  simp only [List.getD_cons_zero]
  refine .arr b 0 _ _ 5 _ cs o.at_ (by have := o.len; omega) (Nat.le_refl _) (by simp) (by simp [ndRow]) fun j q hj hq => ?_
  have h1 := o.cell j hj q hq
  rw [Nat.zero_add, h1]
  have h2 : (nodes.map row).getD j [] = row nodes[j] := by simp [List.getD, hj]
  rw [h2]
  have e5 : q = 0 ∨ q = 1 ∨ q = 2 ∨ q = 3 ∨ q = 4 := by omega
  rcases e5 with rfl | rfl | rfl | rfl | rfl
  · exact .refl _ _
  · exact .refl _ _
  · exact .refl _ _
  · exact .refl _ _
  · show Deep h (if nodes[j].kids = [] then .list 1 [] .full else .arr (kb j) 0 nodes[j].kids.length nodes[j].kids.length) (.list 1 (ints nodes[j].kids) .no)
    by_cases e : nodes[j].kids = []
    · rw [if_pos e, e]; exact .weak _ _ (Weak.tok _ _ _)
    · rw [if_neg e]
      obtain ⟨_, sp, hk⟩ := o.kid j hj e
      refine .arr (kb j) 0 _ _ 1 _ _ hk (by simp) (Nat.le_refl _) (by simp) (by simp) fun s q2 hs hq2 => ?_
      have : q2 = 0 := by omega
      subst this
      have h3 : (nodes[j].kids.map (AV.int .i64) ++ sp).getD (0 + s * 1 + 0) .any = .int .i64 nodes[j].kids[s] := by
        simp only [Nat.zero_add, Nat.mul_one, Nat.add_zero, List.getD]
        rw [List.getElem?_append_left (by simpa using hs)]
        simp [hs]
      have h4 : ((ints nodes[j].kids).getD s []).getD 0 .any = .int .i64 nodes[j].kids[s] := by simp [List.getD, hs]
      rw [h3, h4]; exact .refl _ _
set_option maxRecDepth 100000 in
theorem TreeB_c (nodes : List Nd) (tok : Tok) (p : Nat) (hok : ∀ n ∈ nodes, NdOk n) (hk : ∀ n ∈ nodes, n.kids.length ≤ 281474976710) (hl : nodes.length ≤ 131072) (hne : nodes ≠ []) (h : Heap) (hg : h 0 = some .gint) (hp : h p = some (bld nodes tok)) (hc : (checkL nodes).1 = 0) (R : AV → Heap → Prop)
    (hR : ∀ (b : Nat) (cs : List AV) (kb : Nat → Nat) (g : Heap), AL.Sub h g → h b = none → (∀ j (hj : j < nodes.length), nodes[j].kids ≠ [] → h (kb j) = none) → Open g nodes b cs kb → R (.tup [.agg [.arr b 0 nodes.length nodes.length], .agg [.int .i64 0, .int .i64 0]]) g) :
    ACalls Tryd.prog 13 [.ptr p 0] h R := by
  refine acalls_of Tryd.func13 rfl Tryd.ntmps13 (congrArg Array.toList Tryd.results13) fun Q hQ => ?_
  repeat' (first | refine Keep.go (by assumption) ?_ | refine awp_seq_k fun K hK => ?_ | (refine awp_region ?_; try simp [Heap.set_get, *]) | refine awp_block ?_ | (refine awp_ret ?_; try simp) | (refine awp_skip ?_; try simp) | (refine awp_exit ?_; try simp) | (refine KeepQ.go (by assumption) ?_; try simp [Heap.set_get, *]) | (refine awp_cond' ?_; try simp [Heap.set_get, *]) | refine And.intro (by omega) ?_ | refine And.intro (by assumption) ?_ | refine and_lf (by omega) ?_ | refine and_rf ?_ (by omega) | refine and_imps (fun _ => ?_) (fun _ => ?_) | refine arounds_k fun K hK => ?_ | refine Or.inl ⟨by omega, ?_⟩ | refine Or.inr ⟨by omega, ?_⟩ | refine or_split (fun _ => ?_) (fun _ => ?_) | exact Sub.refl _ | refine imp_in fun _ => ?_ | refine and_ri ?_ (fun _ => ?_) | refine and_li (fun _ => ?_) ?_ | (refine And.intro ?_ ?_; focus (intros; simp [*]; done)) | fail)
  intro b1 hb1; simp only [Fresh, Heap.set_none] at hb1; have n_b1_p := ne_of_fresh hp (b := b1) (by simp [*]); try simp [Heap.set_get, *]
  intro b2 hb2; simp only [Fresh, Heap.set_none] at hb2; have n_b2_p := ne_of_fresh hp (b := b2) (by simp [*]); try simp [Heap.set_get, *]
  repeat' (first | refine Keep.go (by assumption) ?_ | refine awp_seq_k fun K hK => ?_ | (refine awp_region ?_; try simp [Heap.set_get, *]) | refine awp_block ?_ | (refine awp_ret ?_; try simp) | (refine awp_skip ?_; try simp) | (refine awp_exit ?_; try simp) | (refine KeepQ.go (by assumption) ?_; try simp [Heap.set_get, *]) | (refine awp_cond' ?_; try simp [Heap.set_get, *]) | refine And.intro (by omega) ?_ | refine And.intro (by assumption) ?_ | refine and_lf (by omega) ?_ | refine and_rf ?_ (by omega) | refine and_imps (fun _ => ?_) (fun _ => ?_) | refine arounds_k fun K hK => ?_ | refine Or.inl ⟨by omega, ?_⟩ | refine Or.inr ⟨by omega, ?_⟩ | refine or_split (fun _ => ?_) (fun _ => ?_) | exact Sub.refl _ | refine imp_in fun _ => ?_ | refine and_ri ?_ (fun _ => ?_) | refine and_li (fun _ => ?_) ?_ | (refine And.intro ?_ ?_; focus (intros; simp [*]; done)) | fail)
  refine Check_c nodes tok hok (by omega) _ ((show AL.Sub h _ by (repeat (first | exact Sub.refl _ | refine Sub.loc ?_ (by simp [*]) _))) 0 _ hg) _ ?_
  simp [Heap.set_get, *]
  repeat' (first | refine Keep.go (by assumption) ?_ | refine awp_seq_k fun K hK => ?_ | (refine awp_region ?_; try simp [Heap.set_get, *]) | refine awp_block ?_ | (refine awp_ret ?_; try simp) | (refine awp_skip ?_; try simp) | (refine awp_exit ?_; try simp) | (refine KeepQ.go (by assumption) ?_; try simp [Heap.set_get, *]) | (refine awp_cond' ?_; try simp [Heap.set_get, *]) | refine And.intro (by omega) ?_ | refine And.intro (by assumption) ?_ | refine and_lf (by omega) ?_ | refine and_rf ?_ (by omega) | refine and_imps (fun _ => ?_) (fun _ => ?_) | refine arounds_k fun K hK => ?_ | refine Or.inl ⟨by omega, ?_⟩ | refine Or.inr ⟨by omega, ?_⟩ | refine or_split (fun _ => ?_) (fun _ => ?_) | exact Sub.refl _ | refine imp_in fun _ => ?_ | refine and_ri ?_ (fun _ => ?_) | refine and_li (fun _ => ?_) ?_ | (refine And.intro ?_ ?_; focus (intros; simp [*]; done)) | fail)
  intro b4 hb4; simp only [Fresh, Heap.set_none] at hb4; have n_b4_p := ne_of_fresh hp (b := b4) (by simp [*]); try simp [Heap.set_get, *]
  repeat' (first | refine Keep.go (by assumption) ?_ | refine awp_seq_k fun K hK => ?_ | (refine awp_region ?_; try simp [Heap.set_get, *]) | refine awp_block ?_ | (refine awp_ret ?_; try simp) | (refine awp_skip ?_; try simp) | (refine awp_exit ?_; try simp) | (refine KeepQ.go (by assumption) ?_; try simp [Heap.set_get, *]) | (refine awp_cond' ?_; try simp [Heap.set_get, *]) | refine And.intro (by omega) ?_ | refine And.intro (by assumption) ?_ | refine and_lf (by omega) ?_ | refine and_rf ?_ (by omega) | refine and_imps (fun _ => ?_) (fun _ => ?_) | refine arounds_k fun K hK => ?_ | refine Or.inl ⟨by omega, ?_⟩ | refine Or.inr ⟨by omega, ?_⟩ | refine or_split (fun _ => ?_) (fun _ => ?_) | exact Sub.refl _ | refine imp_in fun _ => ?_ | refine and_ri ?_ (fun _ => ?_) | refine and_li (fun _ => ?_) ?_ | (refine And.intro ?_ ?_; focus (intros; simp [*]; done)) | fail)
  refine ACalls.weak (ys := [treeAV nodes .no]) (.cons (Weak.agg (.cons (Weak.tok _ _ _) .nil)) .nil) ?_
  refine CloneB_c nodes hl hk _ _ hne (fun b cs kb g q1 q2 q3 q4 q5 q6 => ?_)
  have s1 := q4 b1 (.cells [.list 5 [] .nil]) (by simp [Heap.set_get, *])
  have s2 := q4 b2 (.cells [.int .i64 0, .int .i64 0]) (by simp [Heap.set_get, *])
  have s0 : AL.Sub h g := fun x y e => q4 x y ((show AL.Sub h _ by (repeat (first | exact Sub.refl _ | refine Sub.loc ?_ (by simp [*]) _))) x y e)
  have f1 : ¬ b = b1 := fun e => by rw [e] at q1; simp [Heap.set_get, *] at q1
  have f2 : ¬ b = b2 := fun e => by rw [e] at q1; simp [Heap.set_get, *] at q1
  have g1 : ∀ j (hj : j < nodes.length), nodes[j].kids ≠ [] → ¬ kb j = b1 := fun j hj hjk e => by
    have := (q6 j hj hjk).1
    rw [e] at this; simp [Heap.set_get, *] at this
  have g2 : ∀ j (hj : j < nodes.length), nodes[j].kids ≠ [] → ¬ kb j = b2 := fun j hj hjk e => by
    have := (q6 j hj hjk).1
    rw [e] at this; simp [Heap.set_get, *] at this
  have hn : ∀ c, ((((h.set b1 (.cells [.list 5 [] .nil])).set b2 (.cells [.int .i64 0, .int .i64 0])).set b4 (.cells [.int .i64 0, .int .i64 (checkL nodes).2])) c = none) → h c = none := by
    intro c hc
    simp only [Heap.set_none] at hc
    exact hc.2.2.2.2.2.2
  simp [Heap.set_get, *]
  repeat' (first | refine Keep.go (by assumption) ?_ | refine awp_seq_k fun K hK => ?_ | (refine awp_region ?_; try simp [Heap.set_get, *]) | refine awp_block ?_ | (refine awp_ret ?_; try simp) | (refine awp_skip ?_; try simp) | (refine awp_exit ?_; try simp) | (refine KeepQ.go (by assumption) ?_; try simp [Heap.set_get, *]) | (refine awp_cond' ?_; try simp [Heap.set_get, *]) | refine And.intro (by omega) ?_ | refine And.intro (by assumption) ?_ | refine and_lf (by omega) ?_ | refine and_rf ?_ (by omega) | refine and_imps (fun _ => ?_) (fun _ => ?_) | refine arounds_k fun K hK => ?_ | refine Or.inl ⟨by omega, ?_⟩ | refine Or.inr ⟨by omega, ?_⟩ | refine or_split (fun _ => ?_) (fun _ => ?_) | exact Sub.refl _ | refine imp_in fun _ => ?_ | refine and_ri ?_ (fun _ => ?_) | refine and_li (fun _ => ?_) ?_ | (refine And.intro ?_ ?_; focus (intros; simp [*]; done)) | fail)
  refine hR b cs kb _ ((s0.loc hb1 _).loc (by simp [*]) _) (hn b q1) (fun j hj hjk => hn _ (q6 j hj hjk).1) ⟨by simp [Heap.set_get, f1, f2, q5], q2, q3, fun j hj hjk => ?_⟩
  obtain ⟨_, k2, sp, k3⟩ := q6 j hj hjk
  exact ⟨k2, sp, by simp [Heap.set_get, g1 j hj hjk, g2 j hj hjk, k3]⟩
end Go.Proofs.YtmnkalojpefclaaDoor
namespace Go.Proofs.YtmnkalojpefclaaDoor
open Go Go.AL Go.Proofs
set_option maxRecDepth 100000 in
theorem small2_c (nodes : List Nd) (t : Tok) (hl : nodes.length ≤ 9223372036854775807) (h : Heap) (R : AV → Heap → Prop) (hR : R (.bool (smallL nodes)) h) :
    ACalls Tryd.prog 8 [treeAV nodes t] h R := by
  refine ACalls.pure ?_ hR
  clear hR
  refine acalls_of Tryd.func8 rfl Tryd.ntmps8 (congrArg Array.toList Tryd.results8) fun Q hQ => ?_
  repeat' (first | refine Keep.go (by assumption) ?_ | refine awp_seq_k fun K hK => ?_ | (refine awp_region ?_; try simp [Heap.set_get, *]) | refine awp_block ?_ | (refine awp_ret ?_; try simp) | (refine awp_skip ?_; try simp) | (refine awp_exit ?_; try simp) | (refine KeepQ.go (by assumption) ?_; try simp [Heap.set_get, *]) | (refine awp_cond' ?_; try simp [Heap.set_get, *]) | refine And.intro (by omega) ?_ | refine And.intro (by assumption) ?_ | refine and_lf (by omega) ?_ | refine and_rf ?_ (by omega) | refine and_imps (fun _ => ?_) (fun _ => ?_) | refine arounds_k fun K hK => ?_ | refine Or.inl ⟨by omega, ?_⟩ | refine Or.inr ⟨by omega, ?_⟩ | refine or_split (fun _ => ?_) (fun _ => ?_) | exact Sub.refl _ | refine imp_in fun _ => ?_ | refine and_ri ?_ (fun _ => ?_) | refine and_li (fun _ => ?_) ?_ | (refine And.intro ?_ ?_; focus (intros; simp [*]; done)) | fail)
  intro b1 hb1; simp only [Fresh, Heap.set_none] at hb1; try simp [Heap.set_get, *]
  repeat' (first | refine Keep.go (by assumption) ?_ | refine awp_seq_k fun K hK => ?_ | (refine awp_region ?_; try simp [Heap.set_get, *]) | refine awp_block ?_ | (refine awp_ret ?_; try simp) | (refine awp_skip ?_; try simp) | (refine awp_exit ?_; try simp) | (refine KeepQ.go (by assumption) ?_; try simp [Heap.set_get, *]) | (refine awp_cond' ?_; try simp [Heap.set_get, *]) | refine And.intro (by omega) ?_ | refine And.intro (by assumption) ?_ | refine and_lf (by omega) ?_ | refine and_rf ?_ (by omega) | refine and_imps (fun _ => ?_) (fun _ => ?_) | refine arounds_k fun K hK => ?_ | refine Or.inl ⟨by omega, ?_⟩ | refine Or.inr ⟨by omega, ?_⟩ | refine or_split (fun _ => ?_) (fun _ => ?_) | exact Sub.refl _ | refine imp_in fun _ => ?_ | refine and_ri ?_ (fun _ => ?_) | refine and_li (fun _ => ?_) ?_ | (refine And.intro ?_ ?_; focus (intros; simp [*]; done)) | fail)
  refine awp_loop_h [2, 4, 8, 9, 10, 11, 12, 13, 14, 15, 16, 17, 18, 19, 20, 21, 22] (fun m x g => ∃ i : Nat, i ≤ nodes.length ∧ m = nodes.length - i ∧ x 8 = .int .i64 i ∧ (∀ j (hj : j < nodes.length), j < i → nodes[j].kids.length ≤ 100 ∧ nodes[j].text.length ≤ 200) ∧ g = h.set b1 (.cells [AV.list 5 (List.map row nodes) t])) nodes.length ⟨0, by omega, by omega, rfl, by simp, rfl⟩ (fun m x g hI K hK => ?_)
  obtain ⟨i, hi, rfl, hx, hn, rfl⟩ := hI
  by_cases hlt : i < nodes.length
  · have w1 : IntKind.i64.wrap ((i : Int) + 1) = i + 1 := w64 (by omega) (by omega)
    obtain ⟨n, hnn⟩ : ∃ n, nodes[i] = n := ⟨_, rfl⟩
    by_cases hs : n.kids.length ≤ 100 ∧ n.text.length ≤ 200
    · obtain ⟨hs1, hs2⟩ := hs
      have hs3 : ¬ 100 < n.kids.length := by omega
      have hs4 : ¬ 200 < n.text.length := by omega
      simp (maxSteps := 10000000) only [AgainAt, hav, List.contains_cons, List.contains_nil, Bool.or_false, Nat.reduceAdd, Nat.reduceBEq, Bool.or_true, Bool.true_or, Bool.false_or, if_true, if_false, Bool.false_eq_true]
      repeat' (first | refine Keep.go (by assumption) ?_ | refine awp_seq_k fun K hK => ?_ | (refine awp_region ?_; try simp [Heap.set_get, *]) | refine awp_block ?_ | (refine awp_ret ?_; try simp) | (refine awp_skip ?_; try simp) | (refine awp_exit ?_; try simp) | (refine KeepQ.go (by assumption) ?_; try simp [Heap.set_get, *]) | (refine awp_cond' ?_; try simp [Heap.set_get, *]) | refine And.intro (by omega) ?_ | refine And.intro (by assumption) ?_ | refine and_lf (by omega) ?_ | refine and_rf ?_ (by omega) | refine and_imps (fun _ => ?_) (fun _ => ?_) | refine arounds_k fun K hK => ?_ | refine Or.inl ⟨by omega, ?_⟩ | refine Or.inr ⟨by omega, ?_⟩ | refine or_split (fun _ => ?_) (fun _ => ?_) | exact Sub.refl _ | refine imp_in fun _ => ?_ | refine and_ri ?_ (fun _ => ?_) | refine and_li (fun _ => ?_) ?_ | (refine And.intro ?_ ?_; focus (intros; simp [*]; done)) | fail)
      intro b4 hb4; simp only [Fresh, Heap.set_none] at hb4; try simp [Heap.set_get, *]
      repeat' (first | refine Keep.go (by assumption) ?_ | refine awp_seq_k fun K hK => ?_ | (refine awp_region ?_; try simp [Heap.set_get, *]) | refine awp_block ?_ | (refine awp_ret ?_; try simp) | (refine awp_skip ?_; try simp) | (refine awp_exit ?_; try simp) | (refine KeepQ.go (by assumption) ?_; try simp [Heap.set_get, *]) | (refine awp_cond' ?_; try simp [Heap.set_get, *]) | refine And.intro (by omega) ?_ | refine And.intro (by assumption) ?_ | refine and_lf (by omega) ?_ | refine and_rf ?_ (by omega) | refine and_imps (fun _ => ?_) (fun _ => ?_) | refine arounds_k fun K hK => ?_ | refine Or.inl ⟨by omega, ?_⟩ | refine Or.inr ⟨by omega, ?_⟩ | refine or_split (fun _ => ?_) (fun _ => ?_) | exact Sub.refl _ | refine imp_in fun _ => ?_ | refine and_ri ?_ (fun _ => ?_) | refine and_li (fun _ => ?_) ?_ | (refine And.intro ?_ ?_; focus (intros; simp [*]; done)) | fail)
      all_goals first
        | (refine ⟨by simp [hav], rfl, nodes.length - (i + 1), _, by omega, (Sub.refl _).loc (by simp [*]) _, i + 1, by omega, rfl, by simp, fun j hj hji => ?_, rfl⟩
           by_cases e : j < i
           · exact hn j hj e
           · have : j = i := by omega
             subst this
             simp only [hnn]
             exact ⟨hs1, hs2⟩)
        | (refine ⟨nodes.length - (i + 1), _, by omega, (Sub.refl _).loc (by simp [*]) _, i + 1, by omega, rfl, by simp, fun j hj hji => ?_, rfl⟩
           by_cases e : j < i
           · exact hn j hj e
           · have : j = i := by omega
             subst this
             simp only [hnn]
             exact ⟨hs1, hs2⟩)
        | (exfalso; omega)
        | trace_state
    · have hf : smallL nodes = false := by
        simp only [smallL, Bool.and_eq_false_iff]
        refine .inl (List.all_eq_false.2 ⟨n, hnn ▸ List.getElem_mem hlt, ?_⟩)
        simp only [Bool.and_eq_true, decide_eq_true_eq]
        exact hs
      simp (maxSteps := 10000000) only [AgainAt, hav, List.contains_cons, List.contains_nil, Bool.or_false, Nat.reduceAdd, Nat.reduceBEq, Bool.or_true, Bool.true_or, Bool.false_or, if_true, if_false, Bool.false_eq_true]
      repeat' (first | refine Keep.go (by assumption) ?_ | refine awp_seq_k fun K hK => ?_ | (refine awp_region ?_; try simp [Heap.set_get, *]) | refine awp_block ?_ | (refine awp_ret ?_; try simp) | (refine awp_skip ?_; try simp) | (refine awp_exit ?_; try simp) | (refine KeepQ.go (by assumption) ?_; try simp [Heap.set_get, *]) | (refine awp_cond' ?_; try simp [Heap.set_get, *]) | refine And.intro (by omega) ?_ | refine And.intro (by assumption) ?_ | refine and_lf (by omega) ?_ | refine and_rf ?_ (by omega) | refine and_imps (fun _ => ?_) (fun _ => ?_) | refine arounds_k fun K hK => ?_ | refine Or.inl ⟨by omega, ?_⟩ | refine Or.inr ⟨by omega, ?_⟩ | refine or_split (fun _ => ?_) (fun _ => ?_) | exact Sub.refl _ | refine imp_in fun _ => ?_ | refine and_ri ?_ (fun _ => ?_) | refine and_li (fun _ => ?_) ?_ | (refine And.intro ?_ ?_; focus (intros; simp [*]; done)) | fail)
      intro b4 hb4; simp only [Fresh, Heap.set_none] at hb4; try simp [Heap.set_get, *]
      repeat' (first | refine Keep.go (by assumption) ?_ | refine awp_seq_k fun K hK => ?_ | (refine awp_region ?_; try simp [Heap.set_get, *]) | refine awp_block ?_ | (refine awp_ret ?_; try simp) | (refine awp_skip ?_; try simp) | (refine awp_exit ?_; try simp) | (refine KeepQ.go (by assumption) ?_; try simp [Heap.set_get, *]) | (refine awp_cond' ?_; try simp [Heap.set_get, *]) | refine And.intro (by omega) ?_ | refine And.intro (by assumption) ?_ | refine and_lf (by omega) ?_ | refine and_rf ?_ (by omega) | refine and_imps (fun _ => ?_) (fun _ => ?_) | refine arounds_k fun K hK => ?_ | refine Or.inl ⟨by omega, ?_⟩ | refine Or.inr ⟨by omega, ?_⟩ | refine or_split (fun _ => ?_) (fun _ => ?_) | exact Sub.refl _ | refine imp_in fun _ => ?_ | refine and_ri ?_ (fun _ => ?_) | refine and_li (fun _ => ?_) ?_ | (refine And.intro ?_ ?_; focus (intros; simp [*]; done)) | fail)
      all_goals first
        | exact ⟨hf.symm, by (repeat (first | exact Sub.refl _ | refine Sub.loc ?_ (by simp [*]) _))⟩
        | ((repeat (first | exact Sub.refl _ | refine Sub.loc ?_ (by simp [*]) _)); done)
        | exact absurd ⟨by omega, by omega⟩ hs
        | trace_state
  · have hf : smallL nodes = decide (nodes.length ≤ 400) := by
      simp only [smallL]
      rw [List.all_eq_true.2 fun n hm => ?_, Bool.true_and]
      obtain ⟨j, hj, rfl⟩ := List.getElem_of_mem hm
      simpa using hn j hj (by omega)
    simp (maxSteps := 10000000) only [AgainAt, hav, List.contains_cons, List.contains_nil, Bool.or_false, Nat.reduceAdd, Nat.reduceBEq, Bool.or_true, Bool.true_or, Bool.false_or, if_true, if_false, Bool.false_eq_true]
    repeat' (first | refine Keep.go (by assumption) ?_ | refine awp_seq_k fun K hK => ?_ | (refine awp_region ?_; try simp [Heap.set_get, *]) | refine awp_block ?_ | (refine awp_ret ?_; try simp) | (refine awp_skip ?_; try simp) | (refine awp_exit ?_; try simp) | (refine KeepQ.go (by assumption) ?_; try simp [Heap.set_get, *]) | (refine awp_cond' ?_; try simp [Heap.set_get, *]) | refine And.intro (by omega) ?_ | refine And.intro (by assumption) ?_ | refine and_lf (by omega) ?_ | refine and_rf ?_ (by omega) | refine and_imps (fun _ => ?_) (fun _ => ?_) | refine arounds_k fun K hK => ?_ | refine Or.inl ⟨by omega, ?_⟩ | refine Or.inr ⟨by omega, ?_⟩ | refine or_split (fun _ => ?_) (fun _ => ?_) | exact Sub.refl _ | refine imp_in fun _ => ?_ | refine and_ri ?_ (fun _ => ?_) | refine and_li (fun _ => ?_) ?_ | (refine And.intro ?_ ?_; focus (intros; simp [*]; done)) | fail)
    all_goals first
      | exact ⟨by rw [hf]; simp, by (repeat (first | exact Sub.refl _ | refine Sub.loc ?_ (by simp [*]) _))⟩
      | ((repeat (first | exact Sub.refl _ | refine Sub.loc ?_ (by simp [*]) _)); done)
      | trace_state
theorem small_ok {nodes : List Nd} (h : smallL nodes = true) : nodes.length ≤ 400 ∧ ∀ n ∈ nodes, n.kids.length ≤ 100 ∧ n.text.length ≤ 200 := by
  simp only [smallL, Bool.and_eq_true, decide_eq_true_eq, List.all_eq_true] at h
  exact ⟨h.2, h.1⟩
theorem small_nd {nodes : List Nd} (h : smallL nodes = true) (hn : ∀ n ∈ nodes, n.num ≤ 9223372036854775807) : ∀ n ∈ nodes, NdOk n := fun n hm => by
  have := (small_ok h).2 n hm
  exact ⟨by omega, by omega, hn n hm⟩
end Go.Proofs.YtmnkalojpefclaaDoor
namespace Go.Proofs.YtmnkalojpefclaaDoor
open Go Go.AL Go.Proofs
theorem cells37 : Tryd.prog.cellsOf 37 = 5 := by kernel_rfl
theorem cells3 : Tryd.prog.cellsOf 3 = 1 := by kernel_rfl
section
variable {H : Type}
theorem ints_arg {m : Nat} {d : DataW H} (hf : fitD Tryd.prog (m + 2) 35 d) : ∃ l : List Int, avL Tryd.prog (m + 2) 35 d = [.list 1 (ints l) .no] := by
  obtain ⟨l, -, h2, -, -⟩ := slice_arg (A := Int) (Q := fun _ => True) (g := fun n => [.int .i64 n]) Tryd.underlying35 (fun x hx => by
    obtain ⟨n, rfl, -⟩ := fit_int (m := m) Tryd.underlying3 hx
    exact ⟨n, trivial, avL_int Tryd.underlying3⟩) hf
  rw [cells3] at h2
  exact ⟨l, h2⟩
theorem node_arg {m : Nat} {d : DataW H} (hf : fitD Tryd.prog (m + 3) 37 d) : ∃ n : Nd, n.num ≤ 9223372036854775807 ∧ avL Tryd.prog (m + 3) 37 d = ndRow n .no := by
  obtain ⟨parts, rfl, hl, hx⟩ := fit_struct Tryd.underlying37 hf
  rcases parts with _ | ⟨d1, _ | ⟨d2, _ | ⟨d3, _ | ⟨d4, _ | ⟨d5, _ | ⟨d6, ps⟩⟩⟩⟩⟩⟩ <;> simp at hl
  simp only [List.zip_cons_cons, List.zip_nil_right, List.mem_cons, List.not_mem_nil, or_false, forall_eq_or_imp, forall_eq] at hx
  obtain ⟨h1, h2, h3, h4, h5⟩ := hx
  obtain ⟨k, rfl, -⟩ := fit_int (m := m + 1) Tryd.underlying3 h1
  obtain ⟨p, rfl, -⟩ := fit_int (m := m + 1) Tryd.underlying3 h2
  obtain ⟨t, rfl, -⟩ := fit_string (m := m + 1) Tryd.underlying9 h3
  obtain ⟨u, rfl, hw⟩ := fit_int (m := m + 1) Tryd.underlying2 h4
  obtain ⟨l, h5⟩ := ints_arg h5
  refine ⟨⟨k, p, t, u, l⟩, ?_, ?_⟩
  · simp only [Lit.wf, Bool.and_eq_true, decide_eq_true_eq] at hw
    exact hw.2
  · rw [avL_struct Tryd.underlying37]
    simp only [List.zipWith_cons_cons, List.zipWith_nil_right, List.flatten_cons, List.flatten_nil, avL_int Tryd.underlying3, avL_string Tryd.underlying9, avL_int Tryd.underlying2, h5, List.cons_append, List.nil_append, List.append_nil]
theorem tree_arg {m : Nat} {d : DataW H} (hf : fitD Tryd.prog (m + 5) 24 d) : ∃ nodes : List Nd, lawArg Tryd.prog (m + 5) 24 d = treeAV nodes .no ∧ (∀ n ∈ nodes, n.num ≤ 9223372036854775807) ∧ nodes.length ≤ maxLen := by
  obtain ⟨parts, rfl, hl, hx⟩ := fit_struct Tryd.underlying24 hf
  rcases parts with _ | ⟨d1, _ | ⟨d2, ps⟩⟩ <;> simp at hl
  simp only [List.zip_cons_cons, List.zip_nil_right, List.mem_cons, List.not_mem_nil, or_false, forall_eq] at hx
  obtain ⟨l, -, h2, h3, h4⟩ := slice_arg (A := Nd) (Q := fun n => n.num ≤ 9223372036854775807) (g := fun n => ndRow n .no) Tryd.underlying22 (fun x hx => node_arg hx) hx
  refine ⟨l, ?_, h3, h4⟩
  rw [lawArg_struct Tryd.underlying24, avL_struct Tryd.underlying24]
  simp only [List.zipWith_cons_cons, List.zipWith_nil_right, List.flatten_cons, List.flatten_nil, List.append_nil]
  rw [h2, cells37]
end
end Go.Proofs.YtmnkalojpefclaaDoor
namespace Go.Proofs.YtmnkalojpefclaaDoor
open Go Go.AL Go.Proofs
-- NOPICK
attribute [local simp] pickV_b pickV_s pickV_i
theorem sub_none3 {h g : Heap} {b : Nat} (hs : AL.Sub h g) (hb : g b = none) : h b = none := by
  cases e : h b with
  | none => rfl
  | some x => rw [hs b x e] at hb; cases hb
/-- Of what may not be, the error alone. -/
theorem TreeE_c (nodes : List Nd) (tok : Tok) (p : Nat) (hok : ∀ n ∈ nodes, NdOk n) (hl : nodes.length ≤ 131072) (h : Heap) (hg : h 0 = some .gint) (hp : h p = some (bld nodes tok)) (h1 : ¬ (checkL nodes).1 = 0) (R : AV → Heap → Prop)
    (hR : R (.tup [.agg [.list 5 [] .nil], .agg [.int .i64 (checkL nodes).1, .int .i64 (checkL nodes).2]]) h) :
    ACalls Tryd.prog 13 [.ptr p 0] h R := by
  refine ACalls.pure ?_ hR
  clear hR
  refine acalls_of Tryd.func13 rfl Tryd.ntmps13 (congrArg Array.toList Tryd.results13) fun Q hQ => ?_
  repeat' (first | refine Keep.go (by assumption) ?_ | refine awp_seq_k fun K hK => ?_ | (refine awp_region ?_; try simp [Heap.set_get, -pickV, *]) | refine awp_block ?_ | (refine awp_ret ?_; try simp) | (refine awp_skip ?_; try simp) | (refine awp_exit ?_; try simp) | (refine KeepQ.go (by assumption) ?_; try simp [Heap.set_get, -pickV, *]) | (refine awp_cond' ?_; try simp [Heap.set_get, -pickV, *]) | refine And.intro (by omega) ?_ | refine And.intro (by assumption) ?_ | refine and_lf (by omega) ?_ | refine and_rf ?_ (by omega) | refine and_imps (fun _ => ?_) (fun _ => ?_) | refine arounds_k fun K hK => ?_ | refine Or.inl ⟨by omega, ?_⟩ | refine Or.inr ⟨by omega, ?_⟩ | refine or_split (fun _ => ?_) (fun _ => ?_) | exact Sub.refl _ | refine imp_in fun _ => ?_ | refine and_ri ?_ (fun _ => ?_) | refine and_li (fun _ => ?_) ?_ | (refine And.intro ?_ ?_; focus (intros; simp [*]; done)) | fail)
  intro b1 hb1; simp only [Fresh, Heap.set_none] at hb1; have n_b1_p := ne_of_fresh hp (b := b1) (by simp [*]); try simp [Heap.set_get, -pickV, *]
  intro b2 hb2; simp only [Fresh, Heap.set_none] at hb2; have n_b2_p := ne_of_fresh hp (b := b2) (by simp [*]); try simp [Heap.set_get, -pickV, *]
  repeat' (first | refine Keep.go (by assumption) ?_ | refine awp_seq_k fun K hK => ?_ | (refine awp_region ?_; try simp [Heap.set_get, -pickV, *]) | refine awp_block ?_ | (refine awp_ret ?_; try simp) | (refine awp_skip ?_; try simp) | (refine awp_exit ?_; try simp) | (refine KeepQ.go (by assumption) ?_; try simp [Heap.set_get, -pickV, *]) | (refine awp_cond' ?_; try simp [Heap.set_get, -pickV, *]) | refine And.intro (by omega) ?_ | refine And.intro (by assumption) ?_ | refine and_lf (by omega) ?_ | refine and_rf ?_ (by omega) | refine and_imps (fun _ => ?_) (fun _ => ?_) | refine arounds_k fun K hK => ?_ | refine Or.inl ⟨by omega, ?_⟩ | refine Or.inr ⟨by omega, ?_⟩ | refine or_split (fun _ => ?_) (fun _ => ?_) | exact Sub.refl _ | refine imp_in fun _ => ?_ | refine and_ri ?_ (fun _ => ?_) | refine and_li (fun _ => ?_) ?_ | (refine And.intro ?_ ?_; focus (intros; simp [*]; done)) | fail)
  refine Check_c nodes tok hok (by omega) _ ((show AL.Sub h _ by (repeat (first | exact Sub.refl _ | refine Sub.loc ?_ (by simp [*]) _))) 0 _ hg) _ ?_
  simp [Heap.set_get, -pickV, *]
  repeat' (first | refine Keep.go (by assumption) ?_ | refine awp_seq_k fun K hK => ?_ | (refine awp_region ?_; try simp [Heap.set_get, -pickV, *]) | refine awp_block ?_ | (refine awp_ret ?_; try simp) | (refine awp_skip ?_; try simp) | (refine awp_exit ?_; try simp) | (refine KeepQ.go (by assumption) ?_; try simp [Heap.set_get, -pickV, *]) | (refine awp_cond' ?_; try simp [Heap.set_get, -pickV, *]) | refine And.intro (by omega) ?_ | refine And.intro (by assumption) ?_ | refine and_lf (by omega) ?_ | refine and_rf ?_ (by omega) | refine and_imps (fun _ => ?_) (fun _ => ?_) | refine arounds_k fun K hK => ?_ | refine Or.inl ⟨by omega, ?_⟩ | refine Or.inr ⟨by omega, ?_⟩ | refine or_split (fun _ => ?_) (fun _ => ?_) | exact Sub.refl _ | refine imp_in fun _ => ?_ | refine and_ri ?_ (fun _ => ?_) | refine and_li (fun _ => ?_) ?_ | (refine And.intro ?_ ?_; focus (intros; simp [*]; done)) | fail)
  intro b4 hb4; simp only [Fresh, Heap.set_none] at hb4; have n_b4_p := ne_of_fresh hp (b := b4) (by simp [*]); try simp [Heap.set_get, -pickV, *]
  repeat' (first | refine Keep.go (by assumption) ?_ | refine awp_seq_k fun K hK => ?_ | (refine awp_region ?_; try simp [Heap.set_get, -pickV, *]) | refine awp_block ?_ | (refine awp_ret ?_; try simp) | (refine awp_skip ?_; try simp) | (refine awp_exit ?_; try simp) | (refine KeepQ.go (by assumption) ?_; try simp [Heap.set_get, -pickV, *]) | (refine awp_cond' ?_; try simp [Heap.set_get, -pickV, *]) | refine And.intro (by omega) ?_ | refine And.intro (by assumption) ?_ | refine and_lf (by omega) ?_ | refine and_rf ?_ (by omega) | refine and_imps (fun _ => ?_) (fun _ => ?_) | refine arounds_k fun K hK => ?_ | refine Or.inl ⟨by omega, ?_⟩ | refine Or.inr ⟨by omega, ?_⟩ | refine or_split (fun _ => ?_) (fun _ => ?_) | exact Sub.refl _ | refine imp_in fun _ => ?_ | refine and_ri ?_ (fun _ => ?_) | refine and_li (fun _ => ?_) ?_ | (refine And.intro ?_ ?_; focus (intros; simp [*]; done)) | fail)
  refine awp_region_draw [b4] [(0, true), (1, true), (2, false)] [3] follows (by kernel_rfl) rfl (by kernel_rfl) ?_; simp [Heap.set_get, Heap.plus_set, -pickV, *]
  repeat' (first | refine Keep.go (by assumption) ?_ | refine awp_seq_k fun K hK => ?_ | (refine awp_region ?_; try simp [Heap.set_get, -pickV, *]) | refine awp_block ?_ | (refine awp_ret ?_; try simp) | (refine awp_skip ?_; try simp) | (refine awp_exit ?_; try simp) | (refine KeepQ.go (by assumption) ?_; try simp [Heap.set_get, -pickV, *]) | (refine awp_cond' ?_; try simp [Heap.set_get, -pickV, *]) | refine And.intro (by omega) ?_ | refine And.intro (by assumption) ?_ | refine and_lf (by omega) ?_ | refine and_rf ?_ (by omega) | refine and_imps (fun _ => ?_) (fun _ => ?_) | refine arounds_k fun K hK => ?_ | refine Or.inl ⟨by omega, ?_⟩ | refine Or.inr ⟨by omega, ?_⟩ | refine or_split (fun _ => ?_) (fun _ => ?_) | exact Sub.refl _ | refine imp_in fun _ => ?_ | refine and_ri ?_ (fun _ => ?_) | refine and_li (fun _ => ?_) ?_ | (refine And.intro ?_ ?_; focus (intros; simp [*]; done)) | fail)
  all_goals (repeat (first | exact Sub.refl _ | refine Sub.loc ?_ (by simp [*]) _))
theorem Open.mono {g g' : Heap} {nodes : List Nd} {b : Nat} {cs : List AV} {kb : Nat → Nat} (o : Open g nodes b cs kb) (hs : AL.Sub g g') : Open g' nodes b cs kb where
  at_ := hs _ _ o.at_
  len := o.len
  cell := o.cell
  kid := fun j hj hk => by
    obtain ⟨h1, sp, h2⟩ := o.kid j hj hk
    exact ⟨h1, sp, hs _ _ h2⟩
theorem acalls_heap {P : Program} {f : FuncId} {args : List AV} {h : Heap} {R : AV → Heap → Prop} (S : Heap → Prop) (hS : S h) (k : ∀ g, S g → ACalls P f args g R) : ACalls P f args h R := k h hS
set_option maxRecDepth 100000 in
set_option maxHeartbeats 8000000 in
theorem AstBuilds_c (nodes : List Nd) (hn : ∀ n ∈ nodes, n.num ≤ 9223372036854775807) (hl : nodes.length ≤ 9223372036854775807) (h : Heap) (hg : h 0 = some .gint) (R : AV → Heap → Prop) (hR : R (.bool true) h) :
    ACalls Tryd.prog 4 [treeAV nodes .no] h R := by
  refine ACalls.pure ?_ hR
  clear hR
  refine acalls_of Tryd.func4 rfl Tryd.ntmps4 (congrArg Array.toList Tryd.results4) fun Q hQ => ?_
  repeat' (first | refine Keep.go (by assumption) ?_ | refine awp_seq_k fun K hK => ?_ | (refine awp_region ?_; try simp [Heap.set_get, -pickV, *]) | refine awp_block ?_ | (refine awp_ret ?_; try simp) | (refine awp_skip ?_; try simp) | (refine awp_exit ?_; try simp) | (refine KeepQ.go (by assumption) ?_; try simp [Heap.set_get, -pickV, *]) | (refine awp_cond' ?_; try simp [Heap.set_get, -pickV, *]) | refine And.intro (by omega) ?_ | refine And.intro (by assumption) ?_ | refine and_lf (by omega) ?_ | refine and_rf ?_ (by omega) | refine and_imps (fun _ => ?_) (fun _ => ?_) | refine arounds_k fun K hK => ?_ | refine Or.inl ⟨by omega, ?_⟩ | refine Or.inr ⟨by omega, ?_⟩ | refine or_split (fun _ => ?_) (fun _ => ?_) | exact Sub.refl _ | refine imp_in fun _ => ?_ | refine and_ri ?_ (fun _ => ?_) | refine and_li (fun _ => ?_) ?_ | (refine And.intro ?_ ?_; focus (intros; simp [*]; done)) | fail)
  intro b1 hb1; simp only [Fresh, Heap.set_none] at hb1; try simp [Heap.set_get, -pickV, *]
  repeat' (first | refine Keep.go (by assumption) ?_ | refine awp_seq_k fun K hK => ?_ | (refine awp_region ?_; try simp [Heap.set_get, -pickV, *]) | refine awp_block ?_ | (refine awp_ret ?_; try simp) | (refine awp_skip ?_; try simp) | (refine awp_exit ?_; try simp) | (refine KeepQ.go (by assumption) ?_; try simp [Heap.set_get, -pickV, *]) | (refine awp_cond' ?_; try simp [Heap.set_get, -pickV, *]) | refine And.intro (by omega) ?_ | refine And.intro (by assumption) ?_ | refine and_lf (by omega) ?_ | refine and_rf ?_ (by omega) | refine and_imps (fun _ => ?_) (fun _ => ?_) | refine arounds_k fun K hK => ?_ | refine Or.inl ⟨by omega, ?_⟩ | refine Or.inr ⟨by omega, ?_⟩ | refine or_split (fun _ => ?_) (fun _ => ?_) | exact Sub.refl _ | refine imp_in fun _ => ?_ | refine and_ri ?_ (fun _ => ?_) | refine and_li (fun _ => ?_) ?_ | (refine And.intro ?_ ?_; focus (intros; simp [*]; done)) | fail)
  refine builds_c _ ((show AL.Sub h _ by (repeat (first | exact Sub.refl _ | refine Sub.loc ?_ (by simp [*]) _))) 0 _ hg) _ ?_
  simp [Heap.set_get, -pickV, *]
  repeat' (first | refine Keep.go (by assumption) ?_ | refine awp_seq_k fun K hK => ?_ | (refine awp_region ?_; try simp [Heap.set_get, -pickV, *]) | refine awp_block ?_ | (refine awp_ret ?_; try simp) | (refine awp_skip ?_; try simp) | (refine awp_exit ?_; try simp) | (refine KeepQ.go (by assumption) ?_; try simp [Heap.set_get, -pickV, *]) | (refine awp_cond' ?_; try simp [Heap.set_get, -pickV, *]) | refine And.intro (by omega) ?_ | refine And.intro (by assumption) ?_ | refine and_lf (by omega) ?_ | refine and_rf ?_ (by omega) | refine and_imps (fun _ => ?_) (fun _ => ?_) | refine arounds_k fun K hK => ?_ | refine Or.inl ⟨by omega, ?_⟩ | refine Or.inr ⟨by omega, ?_⟩ | refine or_split (fun _ => ?_) (fun _ => ?_) | exact Sub.refl _ | refine imp_in fun _ => ?_ | refine and_ri ?_ (fun _ => ?_) | refine and_li (fun _ => ?_) ?_ | (refine And.intro ?_ ?_; focus (intros; simp [*]; done)) | fail)
  refine small2_c nodes .no hl _ _ ?_
  cases hs : smallL nodes
  · simp [Heap.set_get, -pickV, *]
    repeat' (first | refine Keep.go (by assumption) ?_ | refine awp_seq_k fun K hK => ?_ | (refine awp_region ?_; try simp [Heap.set_get, -pickV, *]) | refine awp_block ?_ | (refine awp_ret ?_; try simp) | (refine awp_skip ?_; try simp) | (refine awp_exit ?_; try simp) | (refine KeepQ.go (by assumption) ?_; try simp [Heap.set_get, -pickV, *]) | (refine awp_cond' ?_; try simp [Heap.set_get, -pickV, *]) | refine And.intro (by omega) ?_ | refine And.intro (by assumption) ?_ | refine and_lf (by omega) ?_ | refine and_rf ?_ (by omega) | refine and_imps (fun _ => ?_) (fun _ => ?_) | refine arounds_k fun K hK => ?_ | refine Or.inl ⟨by omega, ?_⟩ | refine Or.inr ⟨by omega, ?_⟩ | refine or_split (fun _ => ?_) (fun _ => ?_) | exact Sub.refl _ | refine imp_in fun _ => ?_ | refine and_ri ?_ (fun _ => ?_) | refine and_li (fun _ => ?_) ?_ | (refine And.intro ?_ ?_; focus (intros; simp [*]; done)) | fail)
    all_goals (repeat (first | exact Sub.refl _ | refine Sub.loc ?_ (by simp [*]) _))
  have hs1 := small_ok hs
  have hok := small_nd hs hn
  have hks : ∀ n ∈ nodes, n.kids.length ≤ 281474976710 := fun n hm => by have := (hs1.2 n hm).1; omega
  simp [Heap.set_get, -pickV, *]
  repeat' (first | refine Keep.go (by assumption) ?_ | refine awp_seq_k fun K hK => ?_ | (refine awp_region ?_; try simp [Heap.set_get, -pickV, *]) | refine awp_block ?_ | (refine awp_ret ?_; try simp) | (refine awp_skip ?_; try simp) | (refine awp_exit ?_; try simp) | (refine KeepQ.go (by assumption) ?_; try simp [Heap.set_get, -pickV, *]) | (refine awp_cond' ?_; try simp [Heap.set_get, -pickV, *]) | refine And.intro (by omega) ?_ | refine And.intro (by assumption) ?_ | refine and_lf (by omega) ?_ | refine and_rf ?_ (by omega) | refine and_imps (fun _ => ?_) (fun _ => ?_) | refine arounds_k fun K hK => ?_ | refine Or.inl ⟨by omega, ?_⟩ | refine Or.inr ⟨by omega, ?_⟩ | refine or_split (fun _ => ?_) (fun _ => ?_) | exact Sub.refl _ | refine imp_in fun _ => ?_ | refine and_ri ?_ (fun _ => ?_) | refine and_li (fun _ => ?_) ?_ | (refine And.intro ?_ ?_; focus (intros; simp [*]; done)) | fail)
  intro p hp0
  simp only [Fresh, Heap.set_none] at hp0
  obtain ⟨p1, p1', hp⟩ := hp0
  simp [Heap.set_get, -pickV, *]
  repeat' (first | refine Keep.go (by assumption) ?_ | refine awp_seq_k fun K hK => ?_ | (refine awp_region ?_; try simp [Heap.set_get, -pickV, *]) | refine awp_block ?_ | (refine awp_ret ?_; try simp) | (refine awp_skip ?_; try simp) | (refine awp_exit ?_; try simp) | (refine KeepQ.go (by assumption) ?_; try simp [Heap.set_get, -pickV, *]) | (refine awp_cond' ?_; try simp [Heap.set_get, -pickV, *]) | refine And.intro (by omega) ?_ | refine And.intro (by assumption) ?_ | refine and_lf (by omega) ?_ | refine and_rf ?_ (by omega) | refine and_imps (fun _ => ?_) (fun _ => ?_) | refine arounds_k fun K hK => ?_ | refine Or.inl ⟨by omega, ?_⟩ | refine Or.inr ⟨by omega, ?_⟩ | refine or_split (fun _ => ?_) (fun _ => ?_) | exact Sub.refl _ | refine imp_in fun _ => ?_ | refine and_ri ?_ (fun _ => ?_) | refine and_li (fun _ => ?_) ?_ | (refine And.intro ?_ ?_; focus (intros; simp [*]; done)) | fail)
  obtain ⟨h1, hh1⟩ : ∃ h1, h.set b1 (.cells [AV.list 5 (nodes.map row) .no]) = h1 := ⟨_, rfl⟩
  have k1 : h1 b1 = some (.cells [AV.list 5 (nodes.map row) .no]) := by rw [← hh1]; simp
  have kp : h1 p = none := by rw [← hh1]; simp [Heap.set_get, *]
  have hs01 : AL.Sub h h1 := by rw [← hh1]; (repeat (first | exact Sub.refl _ | refine Sub.loc ?_ (by simp [*]) _))
  rw [hh1]
  refine awp_loop_h [2, 4, 5, 6, 7, 8, 9, 30, 31, 32, 33, 34, 35, 36, 37, 38, 39, 40, 41, 42, 43, 44, 45, 46, 47, 48, 49, 50, 51, 52, 53, 54, 55, 56, 57, 58, 59, 60, 61, 62, 63, 64, 65, 66, 67, 68, 69, 70, 71, 72, 73, 74, 75, 76, 77, 78, 79, 80, 81, 82, 83, 84, 85, 86] (fun m x g => ∃ (i : Nat) (tok : Tok), i ≤ nodes.length ∧ m = nodes.length - i ∧ x 30 = .int .i64 i ∧ Kept h1 g p tok ∧ g p = some (bld (nodes.take i) tok) ∧ TokIn g tok) nodes.length
    ⟨0, .nil, by omega, by omega, rfl, ⟨kp, (Sub.refl h1).loc kp _, fun q k e e2 => by cases e2⟩, by simp, trivial⟩ (fun m x g hI K hK => ?_)
  obtain ⟨i, tok, hi, rfl, hx, hkp, hgp, htk⟩ := hI
  have w1 : IntKind.i64.wrap ((i : Int) + 1) = i + 1 := w64 (by omega) (by omega)
  have g1 := hkp.sub _ _ k1
  by_cases hlt : i < nodes.length
  · obtain ⟨n, hnn⟩ : ∃ n, nodes[i] = n := ⟨_, rfl⟩
    have hnm : n ∈ nodes := hnn ▸ List.getElem_mem hlt
    have hil : (nodes.take i).length = i := by simp; omega
    have htki : nodes.take i ++ [n] = nodes.take (i + 1) := by rw [List.take_add_one, List.getElem?_eq_getElem hlt, hnn]; rfl
    simp (maxSteps := 10000000) only [AgainAt, hav, List.contains_cons, List.contains_nil, Bool.or_false, Nat.reduceAdd, Nat.reduceBEq, Bool.or_true, Bool.true_or, Bool.false_or, if_true, if_false, Bool.false_eq_true]
    repeat' (first | refine Keep.go (by assumption) ?_ | refine awp_seq_k fun K hK => ?_ | (refine awp_region ?_; try simp [Heap.set_get, -pickV, *]) | refine awp_block ?_ | (refine awp_ret ?_; try simp) | (refine awp_skip ?_; try simp) | (refine awp_exit ?_; try simp) | (refine KeepQ.go (by assumption) ?_; try simp [Heap.set_get, -pickV, *]) | (refine awp_cond' ?_; try simp [Heap.set_get, -pickV, *]) | refine And.intro (by omega) ?_ | refine And.intro (by assumption) ?_ | refine and_lf (by omega) ?_ | refine and_rf ?_ (by omega) | refine and_imps (fun _ => ?_) (fun _ => ?_) | refine arounds_k fun K hK => ?_ | refine Or.inl ⟨by omega, ?_⟩ | refine Or.inr ⟨by omega, ?_⟩ | refine or_split (fun _ => ?_) (fun _ => ?_) | exact Sub.refl _ | refine imp_in fun _ => ?_ | refine and_ri ?_ (fun _ => ?_) | refine and_li (fun _ => ?_) ?_ | (refine And.intro ?_ ?_; focus (intros; simp [*]; done)) | fail)
    intro b5 hb5; simp only [Fresh, Heap.set_none] at hb5; try simp [Heap.set_get, -pickV, *]
    have z5 := sub_none3 hkp.sub hb5
    have e15 := ne_of_fresh g1 hb5
    have ep5 := ne_of_fresh hgp hb5
    have e5p : ¬ b5 = p := fun e => ep5 e.symm
    have htk5 : TokIn (g.set b5 (.cells (row n))) tok := by
      cases tok with
      | own b k e =>
        have q : g b = some (.spare k e) := htk
        have : ¬ b = b5 := fun e => by rw [e, hb5] at q; cases q
        simp [TokIn, Heap.set_get, this, q]
      | no => exact htk
      | nil => trivial
      | full => trivial
    have hkp5 : Kept h1 (g.set b5 (.cells (row n))) p tok := ⟨hkp.new, hkp.sub.loc z5 _, hkp.tok⟩
    repeat' (first | refine Keep.go (by assumption) ?_ | refine awp_seq_k fun K hK => ?_ | (refine awp_region ?_; try simp [Heap.set_get, -pickV, *]) | refine awp_block ?_ | (refine awp_ret ?_; try simp) | (refine awp_skip ?_; try simp) | (refine awp_exit ?_; try simp) | (refine KeepQ.go (by assumption) ?_; try simp [Heap.set_get, -pickV, *]) | (refine awp_cond' ?_; try simp [Heap.set_get, -pickV, *]) | refine And.intro (by omega) ?_ | refine And.intro (by assumption) ?_ | refine and_lf (by omega) ?_ | refine and_rf ?_ (by omega) | refine and_imps (fun _ => ?_) (fun _ => ?_) | refine arounds_k fun K hK => ?_ | refine Or.inl ⟨by omega, ?_⟩ | refine Or.inr ⟨by omega, ?_⟩ | refine or_split (fun _ => ?_) (fun _ => ?_) | exact Sub.refl _ | refine imp_in fun _ => ?_ | refine and_ri ?_ (fun _ => ?_) | refine and_li (fun _ => ?_) ?_ | (refine And.intro ?_ ?_; focus (intros; simp [*]; done)) | fail)
    refine Add_c (nodes.take i) tok p n (by omega) (hks n hnm) _ (by simp [Heap.set_get, *]) htk5 _ (fun tok2 g2 hp2 ht2 hk2 hq2 => ?_)
    have hkp2 := hkp5.step hk2 hq2
    have g25 : g2 b5 = some (.cells (row n)) := hk2 b5 _ e5p (fun k e q => by
      subst q
      have : g b5 = some (.spare k e) := by
        have := htk
        exact this
      rw [hb5] at this; cases this) (by simp)
    rw [htki] at hp2
    rw [hil]
    clear htk5 hkp5 hk2 hq2
    simp [Heap.set_get, -pickV, *]
    repeat' (first | refine Keep.go (by assumption) ?_ | refine awp_seq_k fun K hK => ?_ | (refine awp_region ?_; try simp [Heap.set_get, -pickV, *]) | refine awp_block ?_ | (refine awp_ret ?_; try simp) | (refine awp_skip ?_; try simp) | (refine awp_exit ?_; try simp) | (refine KeepQ.go (by assumption) ?_; try simp [Heap.set_get, -pickV, *]) | (refine awp_cond' ?_; try simp [Heap.set_get, -pickV, *]) | refine And.intro (by omega) ?_ | refine And.intro (by assumption) ?_ | refine and_lf (by omega) ?_ | refine and_rf ?_ (by omega) | refine and_imps (fun _ => ?_) (fun _ => ?_) | refine arounds_k fun K hK => ?_ | refine Or.inl ⟨by omega, ?_⟩ | refine Or.inr ⟨by omega, ?_⟩ | refine or_split (fun _ => ?_) (fun _ => ?_) | exact Sub.refl _ | refine imp_in fun _ => ?_ | refine and_ri ?_ (fun _ => ?_) | refine and_li (fun _ => ?_) ?_ | (refine And.intro ?_ ?_; focus (intros; simp [*]; done)) | fail)
    refine Node_c (nodes.take (i + 1)) tok2 p i (by simp; omega) _ hp2 _ ?_
    rw [dif_pos ⟨by omega, by simp; omega⟩]
    simp only [Int.toNat_natCast, List.getElem_take, hnn]
    simp [Heap.set_get, -pickV, *]
    intro b8 hb8; simp only [Fresh, Heap.set_none] at hb8; try simp [Heap.set_get, -pickV, *]
    have z8 := sub_none3 hkp2.sub hb8
    have ep8 := ne_of_fresh hp2 hb8
    have e58 := ne_of_fresh g25 hb8
    have e8p : ¬ b8 = p := fun e => ep8 e.symm
    have htk8 : TokIn (g2.set b8 (.cells (row n))) tok2 := by
      cases tok2 with
      | own b k e =>
        have q : g2 b = some (.spare k e) := ht2
        have : ¬ b = b8 := fun e => by rw [e, hb8] at q; cases q
        simp [TokIn, Heap.set_get, this, q]
      | no => exact ht2
      | nil => trivial
      | full => trivial
    repeat' (first | refine Keep.go (by assumption) ?_ | refine awp_seq_k fun K hK => ?_ | (refine awp_region ?_; try simp [Heap.set_get, -pickV, *]) | refine awp_block ?_ | (refine awp_ret ?_; try simp) | (refine awp_skip ?_; try simp) | (refine awp_exit ?_; try simp) | (refine KeepQ.go (by assumption) ?_; try simp [Heap.set_get, -pickV, *]) | (refine awp_cond' ?_; try simp [Heap.set_get, -pickV, *]) | refine And.intro (by omega) ?_ | refine And.intro (by assumption) ?_ | refine and_lf (by omega) ?_ | refine and_rf ?_ (by omega) | refine and_imps (fun _ => ?_) (fun _ => ?_) | refine arounds_k fun K hK => ?_ | refine Or.inl ⟨by omega, ?_⟩ | refine Or.inr ⟨by omega, ?_⟩ | refine or_split (fun _ => ?_) (fun _ => ?_) | exact Sub.refl _ | refine imp_in fun _ => ?_ | refine and_ri ?_ (fun _ => ?_) | refine and_li (fun _ => ?_) ?_ | (refine And.intro ?_ ?_; focus (intros; simp [*]; done)) | fail)
    all_goals first
      | exact ⟨by simp [hav], rfl, nodes.length - (i + 1), _, by omega, Sub.refl _, i + 1, tok2, by omega, rfl, by simp, ⟨hkp2.new, hkp2.sub.loc z8 _, hkp2.tok⟩, by simp [Heap.set_get, *], htk8⟩
  · have hi2 : i = nodes.length := by omega
    subst hi2
    rw [List.take_length] at hgp
    simp (maxSteps := 10000000) only [AgainAt, hav, List.contains_cons, List.contains_nil, Bool.or_false, Nat.reduceAdd, Nat.reduceBEq, Bool.or_true, Bool.true_or, Bool.false_or, if_true, if_false, Bool.false_eq_true]
    repeat' (first | refine Keep.go (by assumption) ?_ | refine awp_seq_k fun K hK => ?_ | (refine awp_region ?_; try simp [Heap.set_get, -pickV, *]) | refine awp_block ?_ | (refine awp_ret ?_; try simp) | (refine awp_skip ?_; try simp) | (refine awp_exit ?_; try simp) | (refine KeepQ.go (by assumption) ?_; try simp [Heap.set_get, -pickV, *]) | (refine awp_cond' ?_; try simp [Heap.set_get, -pickV, *]) | refine And.intro (by omega) ?_ | refine And.intro (by assumption) ?_ | refine and_lf (by omega) ?_ | refine and_rf ?_ (by omega) | refine and_imps (fun _ => ?_) (fun _ => ?_) | refine arounds_k fun K hK => ?_ | refine Or.inl ⟨by omega, ?_⟩ | refine Or.inr ⟨by omega, ?_⟩ | refine or_split (fun _ => ?_) (fun _ => ?_) | exact Sub.refl _ | refine imp_in fun _ => ?_ | refine and_ri ?_ (fun _ => ?_) | refine and_li (fun _ => ?_) ?_ | (refine And.intro ?_ ?_; focus (intros; simp [*]; done)) | fail)
    refine Node_c nodes tok p nodes.length (by omega) _ hgp _ ?_
    rw [dif_neg (by omega)]
    simp [Heap.set_get, -pickV, *]
    intro b10 hb10; simp only [Fresh, Heap.set_none] at hb10; try simp [Heap.set_get, -pickV, *]
    have ep10 := ne_of_fresh hgp hb10
    have e10p : ¬ b10 = p := fun e => ep10 e.symm
    have z10 := sub_none3 hkp.sub hb10
    repeat' (first | refine Keep.go (by assumption) ?_ | refine awp_seq_k fun K hK => ?_ | (refine awp_region ?_; try simp [Heap.set_get, -pickV, *]) | refine awp_block ?_ | (refine awp_ret ?_; try simp) | (refine awp_skip ?_; try simp) | (refine awp_exit ?_; try simp) | (refine KeepQ.go (by assumption) ?_; try simp [Heap.set_get, -pickV, *]) | (refine awp_cond' ?_; try simp [Heap.set_get, -pickV, *]) | refine And.intro (by omega) ?_ | refine And.intro (by assumption) ?_ | refine and_lf (by omega) ?_ | refine and_rf ?_ (by omega) | refine and_imps (fun _ => ?_) (fun _ => ?_) | refine arounds_k fun K hK => ?_ | refine Or.inl ⟨by omega, ?_⟩ | refine Or.inr ⟨by omega, ?_⟩ | refine or_split (fun _ => ?_) (fun _ => ?_) | exact Sub.refl _ | refine imp_in fun _ => ?_ | refine and_ri ?_ (fun _ => ?_) | refine and_li (fun _ => ?_) ?_ | (refine And.intro ?_ ?_; focus (intros; simp [*]; done)) | fail)
    refine Node_c nodes tok p (-1) (by omega) _ (by simp [Heap.set_get, *]) _ ?_
    rw [dif_neg (by omega)]
    simp [Heap.set_get, -pickV, *]
    intro b12 hb12; simp only [Fresh, Heap.set_none] at hb12; try simp [Heap.set_get, -pickV, *]
    repeat' (first | refine Keep.go (by assumption) ?_ | refine awp_seq_k fun K hK => ?_ | (refine awp_region ?_; try simp [Heap.set_get, -pickV, *]) | refine awp_block ?_ | (refine awp_ret ?_; try simp) | (refine awp_skip ?_; try simp) | (refine awp_exit ?_; try simp) | (refine KeepQ.go (by assumption) ?_; try simp [Heap.set_get, -pickV, *]) | (refine awp_cond' ?_; try simp [Heap.set_get, -pickV, *]) | refine And.intro (by omega) ?_ | refine And.intro (by assumption) ?_ | refine and_lf (by omega) ?_ | refine and_rf ?_ (by omega) | refine and_imps (fun _ => ?_) (fun _ => ?_) | refine arounds_k fun K hK => ?_ | refine Or.inl ⟨by omega, ?_⟩ | refine Or.inr ⟨by omega, ?_⟩ | refine or_split (fun _ => ?_) (fun _ => ?_) | exact Sub.refl _ | refine imp_in fun _ => ?_ | refine and_ri ?_ (fun _ => ?_) | refine and_li (fun _ => ?_) ?_ | (refine And.intro ?_ ?_; focus (intros; simp [*]; done)) | fail)
    obtain ⟨n1012, n1210, z12g⟩ := hb12
    have ep12 := ne_of_fresh hgp z12g
    have e12p : ¬ b12 = p := fun e => ep12 e.symm
    have z12 := sub_none3 hkp.sub z12g
    have e110 := ne_of_fresh g1 hb10
    have e112 := ne_of_fresh g1 z12g
    obtain ⟨G0, hG0⟩ : ∃ G0, (g.set b10 (.cells [.int .i64 0, .int .i64 0, .str [], .int .i64 0, .list 1 [] Tok.nil])).set b12 (.cells [.int .i64 0, .int .i64 0, .str [], .int .i64 0, .list 1 [] Tok.nil]) = G0 := ⟨_, rfl⟩
    have v1 : G0 b1 = some (.cells [AV.list 5 (nodes.map row) .no]) := by rw [← hG0]; simp [Heap.set_get, *]
    have vp : G0 p = some (bld nodes tok) := by rw [← hG0]; simp [Heap.set_get, *]
    have vs : AL.Sub h1 G0 := by rw [← hG0]; exact (hkp.sub.loc z10 _).loc z12 _
    rw [hG0]
    clear hG0 ep10 e10p z10 ep12 e12p z12 e110 e112 n1012 n1210 z12g hb10 hgp g1 hkp htk
    have vg : G0 0 = some .gint := vs _ _ (hs01 _ _ hg)
    cases hc : decide ((checkL nodes).1 = 0)
    · have hc' := of_decide_eq_false hc
      have hw : ¬ (wrongL nodes).1 = 0 := by rw [← check_plain]; exact hc'
      refine TreeE_c nodes tok p hok (by omega) _ vg vp hc' _ ?_
      rw [check_plain]
      simp [Heap.set_get, -pickV, *]
      intro b14 hb14; simp only [Fresh, Heap.set_none] at hb14; try simp [Heap.set_get, -pickV, *]
      have e114 := ne_of_fresh v1 hb14
      intro b15 hb15; simp only [Fresh, Heap.set_none] at hb15; try simp [Heap.set_get, -pickV, *]
      have e115 := ne_of_fresh v1 hb15.2.2
      have e1514 : ¬ b15 = b14 := hb15.2.1
      repeat' (first | refine Keep.go (by assumption) ?_ | refine awp_seq_k fun K hK => ?_ | (refine awp_region ?_; try simp [Heap.set_get, -pickV, *]) | refine awp_block ?_ | (refine awp_ret ?_; try simp) | (refine awp_skip ?_; try simp) | (refine awp_exit ?_; try simp) | (refine KeepQ.go (by assumption) ?_; try simp [Heap.set_get, -pickV, *]) | (refine awp_cond' ?_; try simp [Heap.set_get, -pickV, *]) | refine And.intro (by omega) ?_ | refine And.intro (by assumption) ?_ | refine and_lf (by omega) ?_ | refine and_rf ?_ (by omega) | refine and_imps (fun _ => ?_) (fun _ => ?_) | refine arounds_k fun K hK => ?_ | refine Or.inl ⟨by omega, ?_⟩ | refine Or.inr ⟨by omega, ?_⟩ | refine or_split (fun _ => ?_) (fun _ => ?_) | exact Sub.refl _ | refine imp_in fun _ => ?_ | refine and_ri ?_ (fun _ => ?_) | refine and_li (fun _ => ?_) ?_ | (refine And.intro ?_ ?_; focus (intros; simp [*]; done)) | fail)
      refine Wrong_c nodes hok hks (by omega) _ _ ?_
      simp [Heap.set_get, -pickV, *]
      repeat' (first | refine Keep.go (by assumption) ?_ | refine awp_seq_k fun K hK => ?_ | (refine awp_region ?_; try simp [Heap.set_get, -pickV, *]) | refine awp_block ?_ | (refine awp_ret ?_; try simp) | (refine awp_skip ?_; try simp) | (refine awp_exit ?_; try simp) | (refine KeepQ.go (by assumption) ?_; try simp [Heap.set_get, -pickV, *]) | (refine awp_cond' ?_; try simp [Heap.set_get, -pickV, *]) | refine And.intro (by omega) ?_ | refine And.intro (by assumption) ?_ | refine and_lf (by omega) ?_ | refine and_rf ?_ (by omega) | refine and_imps (fun _ => ?_) (fun _ => ?_) | refine arounds_k fun K hK => ?_ | refine Or.inl ⟨by omega, ?_⟩ | refine Or.inr ⟨by omega, ?_⟩ | refine or_split (fun _ => ?_) (fun _ => ?_) | exact Sub.refl _ | refine imp_in fun _ => ?_ | refine and_ri ?_ (fun _ => ?_) | refine and_li (fun _ => ?_) ?_ | (refine And.intro ?_ ?_; focus (intros; simp [*]; done)) | fail)
      all_goals exact ((((((hs01.trans vs).loc (sub_none3 (hs01.trans vs) hb14) _).loc (sub_none3 (hs01.trans vs) hb15.2.2) _).loc (sub_none3 (hs01.trans vs) hb14) _).loc (sub_none3 (hs01.trans vs) hb15.2.2) _))
    · have hc' := of_decide_eq_true hc
      have hw : (wrongL nodes).1 = 0 := by rw [← check_plain]; exact hc'
      have hki := check_kids hc'
      have hself := sameL_self hki.down
      have hne : nodes ≠ [] := fun e => by subst e; rw [chk0] at hc'; simp at hc'
      refine TreeB_c nodes tok p hok hks (by omega) hne _ vg vp hc' _ (fun b cs kb g2 t1 t2 t3 t4 => ?_)
      have u1 := t1 _ _ v1
      have up := t1 _ _ vp
      have us : AL.Sub h1 g2 := fun x y e => t1 x y (vs x y e)
      simp [Heap.set_get, -pickV, *]
      intro b14 hb14; simp only [Fresh, Heap.set_none] at hb14; try simp [Heap.set_get, -pickV, *]
      have e114 := ne_of_fresh u1 hb14
      have s14 := sub_none3 us hb14
      have ep14 := ne_of_fresh up hb14
      intro b15 hb15; simp only [Fresh, Heap.set_none] at hb15; try simp [Heap.set_get, -pickV, *]
      have e115 := ne_of_fresh u1 hb15.2.2
      have s15 := sub_none3 us hb15.2.2
      have ep15 := ne_of_fresh up hb15.2.2
      have e1514 : ¬ b15 = b14 := hb15.2.1
      have e1415 : ¬ b14 = b15 := hb15.1
      repeat' (first | refine Keep.go (by assumption) ?_ | refine awp_seq_k fun K hK => ?_ | (refine awp_region ?_; try simp [Heap.set_get, -pickV, *]) | refine awp_block ?_ | (refine awp_ret ?_; try simp) | (refine awp_skip ?_; try simp) | (refine awp_exit ?_; try simp) | (refine KeepQ.go (by assumption) ?_; try simp [Heap.set_get, -pickV, *]) | (refine awp_cond' ?_; try simp [Heap.set_get, -pickV, *]) | refine And.intro (by omega) ?_ | refine And.intro (by assumption) ?_ | refine and_lf (by omega) ?_ | refine and_rf ?_ (by omega) | refine and_imps (fun _ => ?_) (fun _ => ?_) | refine arounds_k fun K hK => ?_ | refine Or.inl ⟨by omega, ?_⟩ | refine Or.inr ⟨by omega, ?_⟩ | refine or_split (fun _ => ?_) (fun _ => ?_) | exact Sub.refl _ | refine imp_in fun _ => ?_ | refine and_ri ?_ (fun _ => ?_) | refine and_li (fun _ => ?_) ?_ | (refine And.intro ?_ ?_; focus (intros; simp [*]; done)) | fail)
      refine Wrong_c nodes hok hks (by omega) _ _ ?_
      simp [Heap.set_get, -pickV, *]
      repeat' (first | refine Keep.go (by assumption) ?_ | refine awp_seq_k fun K hK => ?_ | (refine awp_region ?_; try simp [Heap.set_get, -pickV, *]) | refine awp_block ?_ | (refine awp_ret ?_; try simp) | (refine awp_skip ?_; try simp) | (refine awp_exit ?_; try simp) | (refine KeepQ.go (by assumption) ?_; try simp [Heap.set_get, -pickV, *]) | (refine awp_cond' ?_; try simp [Heap.set_get, -pickV, *]) | refine And.intro (by omega) ?_ | refine And.intro (by assumption) ?_ | refine and_lf (by omega) ?_ | refine and_rf ?_ (by omega) | refine and_imps (fun _ => ?_) (fun _ => ?_) | refine arounds_k fun K hK => ?_ | refine Or.inl ⟨by omega, ?_⟩ | refine Or.inr ⟨by omega, ?_⟩ | refine or_split (fun _ => ?_) (fun _ => ?_) | exact Sub.refl _ | refine imp_in fun _ => ?_ | refine and_ri ?_ (fun _ => ?_) | refine and_li (fun _ => ?_) ?_ | (refine And.intro ?_ ?_; focus (intros; simp [*]; done)) | fail)
      have f1 : ∀ j (hj : j < nodes.length), nodes[j].kids ≠ [] → ¬ kb j = b1 := fun j hj hjk e => by
        have h9 := t3 j hj hjk
        rw [e, v1] at h9; cases h9
      have fp : ∀ j (hj : j < nodes.length), nodes[j].kids ≠ [] → ¬ kb j = p := fun j hj hjk e => by
        have h9 := t3 j hj hjk
        rw [e, vp] at h9; cases h9
      have f14 : ∀ j (hj : j < nodes.length), nodes[j].kids ≠ [] → ¬ kb j = b14 := fun j hj hjk e => by
        obtain ⟨_, sp, h9⟩ := t4.kid j hj hjk
        rw [e, hb14] at h9; cases h9
      have fz : ∀ j (hj : j < nodes.length), nodes[j].kids ≠ [] → h1 (kb j) = none := fun j hj hjk => sub_none3 vs (t3 j hj hjk)
      refine acalls_heap (fun G => G b1 = some (.cells [AV.list 5 (nodes.map row) .no]) ∧ G p = some (bld nodes tok) ∧ G b14 = some (.cells [.arr b 0 nodes.length nodes.length]) ∧ Open G nodes b cs kb ∧ AL.Sub h1 G)
        ⟨by simp [Heap.set_get, *], by simp [Heap.set_get, *], by simp [Heap.set_get, *], t4.mono ((((Sub.refl g2).loc hb14 _).loc hb15.2.2 _ |>.loc hb14 _).loc hb15.2.2 _), (((us.loc s14 _).loc s15 _).loc s14 _).loc s15 _⟩ (fun G hG => ?_)
      clear u1 up us s14 ep14 s15 ep15 hb14 hb15 t1 t4 v1 vp vs vg e114 e115
      obtain ⟨u1, up, u14, uo, us⟩ := hG
      refine ACalls.peek (args' := [treeAV nodes .no, treeAV nodes .no]) (.cons (.refl _ _) (.cons uo.deep .nil)) ?_
      refine Same_c nodes nodes hki.down (by omega) (by omega) (fun n hm => by have := hks n hm; omega) hki.lt _ _ ?_
      rw [hself]
      refine ⟨.bool _, ?_⟩
      simp [Heap.set_get, -pickV, *]
      repeat' (first | refine Keep.go (by assumption) ?_ | refine awp_seq_k fun K hK => ?_ | (refine awp_region ?_; try simp [Heap.set_get, -pickV, *]) | refine awp_block ?_ | (refine awp_ret ?_; try simp) | (refine awp_skip ?_; try simp) | (refine awp_exit ?_; try simp) | (refine KeepQ.go (by assumption) ?_; try simp [Heap.set_get, -pickV, *]) | (refine awp_cond' ?_; try simp [Heap.set_get, -pickV, *]) | refine And.intro (by omega) ?_ | refine And.intro (by assumption) ?_ | refine and_lf (by omega) ?_ | refine and_rf ?_ (by omega) | refine and_imps (fun _ => ?_) (fun _ => ?_) | refine arounds_k fun K hK => ?_ | refine Or.inl ⟨by omega, ?_⟩ | refine Or.inr ⟨by omega, ?_⟩ | refine or_split (fun _ => ?_) (fun _ => ?_) | exact Sub.refl _ | refine imp_in fun _ => ?_ | refine and_ri ?_ (fun _ => ?_) | refine and_li (fun _ => ?_) ?_ | (refine And.intro ?_ ?_; focus (intros; simp [*]; done)) | fail)
      refine awp_loop_h [18, 19, 138, 139, 140, 141, 142, 143, 144, 145, 146, 147, 148, 149, 150, 151, 152, 153, 154, 155, 156, 157, 158, 159, 160] (fun m x g => ∃ (i : Nat), i ≤ nodes.length ∧ m = nodes.length - i ∧ x 138 = .int .i64 i ∧ g b1 = some (.cells [AV.list 5 (nodes.map row) .no]) ∧ g p = some (bld nodes tok) ∧ g b14 = some (.cells [.arr b 0 nodes.length nodes.length]) ∧ g b = some (.cells cs) ∧
        (∀ j (hj : j < nodes.length), nodes[j].kids ≠ [] → ∃ ws, g (kb j) = some (.cells ws) ∧ nodes[j].kids.length ≤ ws.length) ∧ AL.Sub h1 g) nodes.length
        ⟨0, by omega, by omega, rfl, u1, up, u14, uo.at_, fun j hj hjk => by obtain ⟨_, sp, h9⟩ := uo.kid j hj hjk; exact ⟨_, h9, by simp⟩, us⟩ (fun m x g3 hI K hK => ?_)
      have ucell := uo.cell
      have ulen := uo.len
      have ukb : ∀ j (hj : j < nodes.length), nodes[j].kids ≠ [] → ¬ kb j = b := fun j hj hjk => (uo.kid j hj hjk).1
      clear u1 up u14 uo us t3
      obtain ⟨i, hi, rfl, hx, u1, up, u14, ub, uk, us⟩ := hI
      have w1 : IntKind.i64.wrap ((i : Int) + 1) = i + 1 := w64 (by omega) (by omega)
      by_cases hlt : i < nodes.length
      · obtain ⟨n, hnn⟩ : ∃ n, nodes[i] = n := ⟨_, rfl⟩
        have h5 : i * 5 + 4 < cs.length := by omega
        have h4 := ucell i hlt 4 (by omega)
        rw [hnn] at h4
        simp only [List.getD, List.getElem?_eq_getElem h5, Option.getD_some, rowB] at h4
        have hnk := (hs1.2 n (hnn ▸ List.getElem_mem hlt)).1
        by_cases hk0 : n.kids = []
        · simp only [hk0, if_true] at h4
          have h4' : cs[i * 5 + 4] = AV.list 1 [] .full := h4
          have h6 : cs[i * 5 + 4]? = some (AV.list 1 [] .full) := by rw [List.getElem?_eq_getElem h5, h4']
          clear h4 ucell
          simp (maxSteps := 10000000) only [AgainAt, hav, List.contains_cons, List.contains_nil, Bool.or_false, Nat.reduceAdd, Nat.reduceBEq, Bool.or_true, Bool.true_or, Bool.false_or, if_true, if_false, Bool.false_eq_true]
          repeat' (first | refine Keep.go (by assumption) ?_ | refine awp_seq_k fun K hK => ?_ | (refine awp_region ?_; try simp [Heap.set_get, -pickV, *]) | refine awp_block ?_ | (refine awp_ret ?_; try simp) | (refine awp_skip ?_; try simp) | (refine awp_exit ?_; try simp) | (refine KeepQ.go (by assumption) ?_; try simp [Heap.set_get, -pickV, *]) | (refine awp_cond' ?_; try simp [Heap.set_get, -pickV, *]) | refine And.intro (by omega) ?_ | refine And.intro (by assumption) ?_ | refine and_lf (by omega) ?_ | refine and_rf ?_ (by omega) | refine and_imps (fun _ => ?_) (fun _ => ?_) | refine arounds_k fun K hK => ?_ | refine Or.inl ⟨by omega, ?_⟩ | refine Or.inr ⟨by omega, ?_⟩ | refine or_split (fun _ => ?_) (fun _ => ?_) | exact Sub.refl _ | refine imp_in fun _ => ?_ | refine and_ri ?_ (fun _ => ?_) | refine and_li (fun _ => ?_) ?_ | (refine And.intro ?_ ?_; focus (intros; simp [*]; done)) | fail)
          refine awp_loop_h [19, 148, 149, 150, 151, 152, 153, 154, 155, 156, 157, 158, 159] (fun m x g => m = 0 ∧ x 148 = .int .i64 0 ∧ g = g3) 0 ⟨rfl, rfl, rfl⟩ (fun m x2 g hI K hK => ?_)
          obtain ⟨rfl, hx2, hgg⟩ := hI
          subst g
          simp (maxSteps := 10000000) only [AgainAt, hav, List.contains_cons, List.contains_nil, Bool.or_false, Nat.reduceAdd, Nat.reduceBEq, Bool.or_true, Bool.true_or, Bool.false_or, if_true, if_false, Bool.false_eq_true]
          repeat' (first | refine Keep.go (by assumption) ?_ | refine awp_seq_k fun K hK => ?_ | (refine awp_region ?_; try simp [Heap.set_get, -pickV, *]) | refine awp_block ?_ | (refine awp_ret ?_; try simp) | (refine awp_skip ?_; try simp) | (refine awp_exit ?_; try simp) | (refine KeepQ.go (by assumption) ?_; try simp [Heap.set_get, -pickV, *]) | (refine awp_cond' ?_; try simp [Heap.set_get, -pickV, *]) | refine And.intro (by omega) ?_ | refine And.intro (by assumption) ?_ | refine and_lf (by omega) ?_ | refine and_rf ?_ (by omega) | refine and_imps (fun _ => ?_) (fun _ => ?_) | refine arounds_k fun K hK => ?_ | refine Or.inl ⟨by omega, ?_⟩ | refine Or.inr ⟨by omega, ?_⟩ | refine or_split (fun _ => ?_) (fun _ => ?_) | exact Sub.refl _ | refine imp_in fun _ => ?_ | refine and_ri ?_ (fun _ => ?_) | refine and_li (fun _ => ?_) ?_ | (refine And.intro ?_ ?_; focus (intros; simp [*]; done)) | fail)
          exact ⟨by simp [hav], rfl, nodes.length - (i + 1), _, by omega, Sub.refl _, i + 1, by omega, rfl, by simp, u1, up, u14, ub, uk, us⟩
        · simp only [hk0, if_false] at h4
          have h4' : cs[i * 5 + 4] = AV.arr (kb i) 0 n.kids.length n.kids.length := h4
          have h6 : cs[i * 5 + 4]? = some (AV.arr (kb i) 0 n.kids.length n.kids.length) := by rw [List.getElem?_eq_getElem h5, h4']
          have hk0' : nodes[i].kids ≠ [] := by rw [hnn]; exact hk0
          clear h4 ucell
          simp (maxSteps := 10000000) only [AgainAt, hav, List.contains_cons, List.contains_nil, Bool.or_false, Nat.reduceAdd, Nat.reduceBEq, Bool.or_true, Bool.true_or, Bool.false_or, if_true, if_false, Bool.false_eq_true]
          repeat' (first | refine Keep.go (by assumption) ?_ | refine awp_seq_k fun K hK => ?_ | (refine awp_region ?_; try simp [Heap.set_get, -pickV, *]) | refine awp_block ?_ | (refine awp_ret ?_; try simp) | (refine awp_skip ?_; try simp) | (refine awp_exit ?_; try simp) | (refine KeepQ.go (by assumption) ?_; try simp [Heap.set_get, -pickV, *]) | (refine awp_cond' ?_; try simp [Heap.set_get, -pickV, *]) | refine And.intro (by omega) ?_ | refine And.intro (by assumption) ?_ | refine and_lf (by omega) ?_ | refine and_rf ?_ (by omega) | refine and_imps (fun _ => ?_) (fun _ => ?_) | refine arounds_k fun K hK => ?_ | refine Or.inl ⟨by omega, ?_⟩ | refine Or.inr ⟨by omega, ?_⟩ | refine or_split (fun _ => ?_) (fun _ => ?_) | exact Sub.refl _ | refine imp_in fun _ => ?_ | refine and_ri ?_ (fun _ => ?_) | refine and_li (fun _ => ?_) ?_ | (refine And.intro ?_ ?_; focus (intros; simp [*]; done)) | fail)
          refine awp_loop_h [19, 148, 149, 150, 151, 152, 153, 154, 155, 156, 157, 158, 159] (fun m x g => ∃ k : Nat, k ≤ n.kids.length ∧ m = n.kids.length - k ∧ x 148 = .int .i64 k ∧ g b1 = some (.cells [AV.list 5 (nodes.map row) .no]) ∧ g p = some (bld nodes tok) ∧ g b14 = some (.cells [.arr b 0 nodes.length nodes.length]) ∧ g b = some (.cells cs) ∧
            (∀ j (hj : j < nodes.length), nodes[j].kids ≠ [] → ∃ ws, g (kb j) = some (.cells ws) ∧ nodes[j].kids.length ≤ ws.length) ∧ AL.Sub h1 g) n.kids.length ⟨0, by omega, by omega, rfl, u1, up, u14, ub, uk, us⟩ (fun m x2 g hI K hK => ?_)
          clear u1 up u14 ub uk us
          obtain ⟨k, hkl, rfl, hx2, u1, up, u14, ub, uk, us⟩ := hI
          have w2 : IntKind.i64.wrap ((k : Int) + 1) = k + 1 := w64 (by omega) (by omega)
          by_cases hlk : k < n.kids.length
          · obtain ⟨ws, hws, hwl⟩ := uk i hlt hk0'
            rw [hnn] at hwl
            have d1 := f1 i hlt hk0'
            have dp := fp i hlt hk0'
            have d14 := f14 i hlt hk0'
            have db := ukb i hlt hk0'
            have d1' : ¬ b1 = kb i := fun e => d1 e.symm
            have dp' : ¬ p = kb i := fun e => dp e.symm
            have d14' : ¬ b14 = kb i := fun e => d14 e.symm
            have db' : ¬ b = kb i := fun e => db e.symm
            simp (maxSteps := 10000000) only [AgainAt, hav, List.contains_cons, List.contains_nil, Bool.or_false, Nat.reduceAdd, Nat.reduceBEq, Bool.or_true, Bool.true_or, Bool.false_or, if_true, if_false, Bool.false_eq_true]
            repeat' (first | refine Keep.go (by assumption) ?_ | refine awp_seq_k fun K hK => ?_ | (refine awp_region ?_; try simp [Heap.set_get, -pickV, *]) | refine awp_block ?_ | (refine awp_ret ?_; try simp) | (refine awp_skip ?_; try simp) | (refine awp_exit ?_; try simp) | (refine KeepQ.go (by assumption) ?_; try simp [Heap.set_get, -pickV, *]) | (refine awp_cond' ?_; try simp [Heap.set_get, -pickV, *]) | refine And.intro (by omega) ?_ | refine And.intro (by assumption) ?_ | refine and_lf (by omega) ?_ | refine and_rf ?_ (by omega) | refine and_imps (fun _ => ?_) (fun _ => ?_) | refine arounds_k fun K hK => ?_ | refine Or.inl ⟨by omega, ?_⟩ | refine Or.inr ⟨by omega, ?_⟩ | refine or_split (fun _ => ?_) (fun _ => ?_) | exact Sub.refl _ | refine imp_in fun _ => ?_ | refine and_ri ?_ (fun _ => ?_) | refine and_li (fun _ => ?_) ?_ | (refine And.intro ?_ ?_; focus (intros; simp [*]; done)) | fail)
            refine ⟨by simp [hav], rfl, n.kids.length - (k + 1), _, by omega, Sub.refl _, k + 1, by omega, rfl, by simp, by simp [Heap.set_get, *], by simp [Heap.set_get, *], by simp [Heap.set_get, *], by simp [Heap.set_get, *], fun j hj hjk => ?_, us.loc (fz i hlt hk0') _⟩
            by_cases e : kb j = kb i
            · obtain ⟨ws2, hw2, hl2⟩ := uk j hj hjk
              rw [e, hws] at hw2
              injection hw2 with hw2
              injection hw2 with hw2
              subst hw2
              refine ⟨_, by rw [e, Heap.set_same], ?_⟩
              simp
              omega
            · obtain ⟨ws2, hw2, hl2⟩ := uk j hj hjk
              exact ⟨ws2, by simp [Heap.set_get, e, hw2], hl2⟩
          · simp (maxSteps := 10000000) only [AgainAt, hav, List.contains_cons, List.contains_nil, Bool.or_false, Nat.reduceAdd, Nat.reduceBEq, Bool.or_true, Bool.true_or, Bool.false_or, if_true, if_false, Bool.false_eq_true]
            repeat' (first | refine Keep.go (by assumption) ?_ | refine awp_seq_k fun K hK => ?_ | (refine awp_region ?_; try simp [Heap.set_get, -pickV, *]) | refine awp_block ?_ | (refine awp_ret ?_; try simp) | (refine awp_skip ?_; try simp) | (refine awp_exit ?_; try simp) | (refine KeepQ.go (by assumption) ?_; try simp [Heap.set_get, -pickV, *]) | (refine awp_cond' ?_; try simp [Heap.set_get, -pickV, *]) | refine And.intro (by omega) ?_ | refine And.intro (by assumption) ?_ | refine and_lf (by omega) ?_ | refine and_rf ?_ (by omega) | refine and_imps (fun _ => ?_) (fun _ => ?_) | refine arounds_k fun K hK => ?_ | refine Or.inl ⟨by omega, ?_⟩ | refine Or.inr ⟨by omega, ?_⟩ | refine or_split (fun _ => ?_) (fun _ => ?_) | exact Sub.refl _ | refine imp_in fun _ => ?_ | refine and_ri ?_ (fun _ => ?_) | refine and_li (fun _ => ?_) ?_ | (refine And.intro ?_ ?_; focus (intros; simp [*]; done)) | fail)
            exact ⟨by simp [hav], rfl, nodes.length - (i + 1), _, by omega, Sub.refl _, i + 1, by omega, rfl, by simp, u1, up, u14, ub, uk, us⟩
      · clear ucell
        simp (maxSteps := 10000000) only [AgainAt, hav, List.contains_cons, List.contains_nil, Bool.or_false, Nat.reduceAdd, Nat.reduceBEq, Bool.or_true, Bool.true_or, Bool.false_or, if_true, if_false, Bool.false_eq_true]
        repeat' (first | refine Keep.go (by assumption) ?_ | refine awp_seq_k fun K hK => ?_ | (refine awp_region ?_; try simp [Heap.set_get, -pickV, *]) | refine awp_block ?_ | (refine awp_ret ?_; try simp) | (refine awp_skip ?_; try simp) | (refine awp_exit ?_; try simp) | (refine KeepQ.go (by assumption) ?_; try simp [Heap.set_get, -pickV, *]) | (refine awp_cond' ?_; try simp [Heap.set_get, -pickV, *]) | refine And.intro (by omega) ?_ | refine And.intro (by assumption) ?_ | refine and_lf (by omega) ?_ | refine and_rf ?_ (by omega) | refine and_imps (fun _ => ?_) (fun _ => ?_) | refine arounds_k fun K hK => ?_ | refine Or.inl ⟨by omega, ?_⟩ | refine Or.inr ⟨by omega, ?_⟩ | refine or_split (fun _ => ?_) (fun _ => ?_) | exact Sub.refl _ | refine imp_in fun _ => ?_ | refine and_ri ?_ (fun _ => ?_) | refine and_li (fun _ => ?_) ?_ | (refine And.intro ?_ ?_; focus (intros; simp [*]; done)) | fail)
        refine Tree_c nodes tok p hok hks (by omega) hne _ (us _ _ (hs01 _ _ hg)) up _ ?_
        rw [if_pos hc']
        simp [Heap.set_get, -pickV, *]
        intro b20 hb20; simp only [Fresh, Heap.set_none] at hb20; try simp [Heap.set_get, -pickV, *]
        have e120 := ne_of_fresh u1 hb20
        intro b21 hb21; simp only [Fresh, Heap.set_none] at hb21; try simp [Heap.set_get, -pickV, *]
        have e121 := ne_of_fresh u1 hb21.2.2
        repeat' (first | refine Keep.go (by assumption) ?_ | refine awp_seq_k fun K hK => ?_ | (refine awp_region ?_; try simp [Heap.set_get, -pickV, *]) | refine awp_block ?_ | (refine awp_ret ?_; try simp) | (refine awp_skip ?_; try simp) | (refine awp_exit ?_; try simp) | (refine KeepQ.go (by assumption) ?_; try simp [Heap.set_get, -pickV, *]) | (refine awp_cond' ?_; try simp [Heap.set_get, -pickV, *]) | refine And.intro (by omega) ?_ | refine And.intro (by assumption) ?_ | refine and_lf (by omega) ?_ | refine and_rf ?_ (by omega) | refine and_imps (fun _ => ?_) (fun _ => ?_) | refine arounds_k fun K hK => ?_ | refine Or.inl ⟨by omega, ?_⟩ | refine Or.inr ⟨by omega, ?_⟩ | refine or_split (fun _ => ?_) (fun _ => ?_) | exact Sub.refl _ | refine imp_in fun _ => ?_ | refine and_ri ?_ (fun _ => ?_) | refine and_li (fun _ => ?_) ?_ | (refine And.intro ?_ ?_; focus (intros; simp [*]; done)) | fail)
        refine Same_c nodes nodes hki.down (by omega) (by omega) (fun n hm => by have := hks n hm; omega) hki.lt _ _ ?_
        rw [hself]
        simp [Heap.set_get, -pickV, *]
        repeat' (first | refine Keep.go (by assumption) ?_ | refine awp_seq_k fun K hK => ?_ | (refine awp_region ?_; try simp [Heap.set_get, -pickV, *]) | refine awp_block ?_ | (refine awp_ret ?_; try simp) | (refine awp_skip ?_; try simp) | (refine awp_exit ?_; try simp) | (refine KeepQ.go (by assumption) ?_; try simp [Heap.set_get, -pickV, *]) | (refine awp_cond' ?_; try simp [Heap.set_get, -pickV, *]) | refine And.intro (by omega) ?_ | refine And.intro (by assumption) ?_ | refine and_lf (by omega) ?_ | refine and_rf ?_ (by omega) | refine and_imps (fun _ => ?_) (fun _ => ?_) | refine arounds_k fun K hK => ?_ | refine Or.inl ⟨by omega, ?_⟩ | refine Or.inr ⟨by omega, ?_⟩ | refine or_split (fun _ => ?_) (fun _ => ?_) | exact Sub.refl _ | refine imp_in fun _ => ?_ | refine and_ri ?_ (fun _ => ?_) | refine and_li (fun _ => ?_) ?_ | (refine And.intro ?_ ?_; focus (intros; simp [*]; done)) | fail)
        all_goals exact ((((((hs01.trans us).loc (sub_none3 (hs01.trans us) hb20) _).loc (sub_none3 (hs01.trans us) hb21.2.2) _).loc (sub_none3 (hs01.trans us) hb20) _).loc (sub_none3 (hs01.trans us) hb21.2.2) _))
end Go.Proofs.YtmnkalojpefclaaDoor
