/-
  The abstract logic, 7: literals; 'pev' is right.
-/
import Derived.Test.YtgcpgoggngkbjaaDoorAL6
set_option linter.unusedSimpArgs false
set_option linter.unusedVariables false
namespace Go.AL
open Go Go.RowKit

section
variable {P : Program} {w0 : Base} {w : World} {F : Fin} {h : Heap}

theorem foldl_put (off : Nat) : ∀ (l : List Value) (k : Nat) (cells : Array Value),
    ((l.zipIdx k).foldl (fun cs p => cs.setIfInBounds (off + p.2) p.1) cells).size = cells.size ∧
    ∀ i, i < cells.size → ((l.zipIdx k).foldl (fun cs p => cs.setIfInBounds (off + p.2) p.1) cells).getD i undef =
      if off + k ≤ i ∧ i < off + k + l.length then l.getD (i - off - k) undef else cells.getD i undef
  | [], k, cells => ⟨rfl, fun i _ => by
      rw [if_neg (by simp)]; rfl⟩
  | v :: l, k, cells => by
    have ih := foldl_put off l (k + 1) (cells.setIfInBounds (off + k) v)
    simp only [List.zipIdx_cons, List.foldl_cons]
    refine ⟨by rw [ih.1]; simp, fun i hi => ?_⟩
    rw [ih.2 i (by simpa using hi)]
    by_cases h1 : off + (k + 1) ≤ i ∧ i < off + (k + 1) + l.length
    · rw [if_pos h1, if_pos (by simp; omega), show i - off - k = (i - off - (k + 1)) + 1 by omega]
      simp
    · rw [if_neg h1]
      by_cases h2 : i = off + k
      · subst h2
        rw [if_pos (by simp), show off + k - off - k = 0 by omega]
        simp [Array.getD, hi]
      · rw [if_neg (by simp; omega)]
        have h3 : off + k ≠ i := fun e => h2 e.symm
        simp [Array.getD, hi, h3]

theorem repL_cells {v : Value} {x : AV} (hr : Rep F v x) (hc : ∀ c ∈ x.cells, c.isCell = true) : RepL F v.cells x.cells ∧ ∀ j, j < x.cells.length → (v.cells.getD j undef).oneCell' = true := by
  by_cases hx : ∃ cs, x = .agg cs
  · obtain ⟨cs, rfl⟩ := hx
    obtain ⟨vs, rfl, hv⟩ := hr.agg_inv
    refine ⟨hv, fun j hj => ?_⟩
    have h1 := hv.2 j hj
    have h2 : (cs.getD j .any).isCell = true := by
      have hj' : j < cs.length := hj
      have : cs.getD j .any = cs[j] := by simp [List.getD, hj']
      rw [this]; exact hc _ (List.getElem_mem hj')
    exact h1.oneCell h2
  · have hcells : x.cells = [x] := by cases x <;> first | rfl | exact absurd ⟨_, rfl⟩ hx
    rw [hcells] at hc ⊢
    have h1 := hr.oneCell (hc x (by simp))
    have h2 : v.cells = #[v] := by cases v <;> first | rfl | (simp [Value.oneCell'] at h1; done)
    rw [h2]
    refine ⟨⟨rfl, fun i hi => ?_⟩, fun i hi => ?_⟩
    · have : i = 0 := by simpa using hi
      subst this; exact hr
    · have : i = 0 := by simpa using hi
      subst this; exact h1

theorem splice_getD (cs : List AV) (off : Nat) (vs : List AV) (hn : off + vs.length ≤ cs.length) (i : Nat) (hi : i < cs.length) :
    (splice cs off vs).getD i .any = if off ≤ i ∧ i < off + vs.length then vs.getD (i - off) .any else cs.getD i .any := by
  unfold splice
  simp only [List.getD]
  by_cases h1 : i < off
  · rw [if_neg (by omega), List.append_assoc, List.getElem?_append_left (by simp; omega)]
    simp [List.getElem?_take, h1]
  · by_cases h2 : i < off + vs.length
    · rw [if_pos (by omega), List.getElem?_append_left (by simp; omega), List.getElem?_append_right (by simp; omega)]
      simp
      congr 2
      omega
    · rw [if_neg (by omega), List.getElem?_append_right (by simp; omega)]
      simp [List.getElem?_drop]
      congr 2
      omega

theorem splice_length (cs : List AV) (off : Nat) (vs : List AV) (hn : off + vs.length ≤ cs.length) : (splice cs off vs).length = cs.length := by
  unfold splice; simp; omega

theorem repL_splice {arr : Array Value} {cs : List AV} (hr : RepL F arr cs) {vs : Array Value} {xs : List AV} (hv : RepL F vs xs) (off : Nat) (hn : off + xs.length ≤ cs.length) :
    RepL F (vs.zipIdx.foldl (fun cs (p : Value × Nat) => cs.setIfInBounds (off + p.2) p.1) arr) (splice cs off xs) := by
  rw [← Array.foldl_toList, Array.toList_zipIdx]
  have hp := foldl_put off vs.toList 0 arr
  have hvl : vs.toList.length = xs.length := by simpa using hv.1
  refine ⟨by rw [hp.1, splice_length _ _ _ hn, hr.1], fun i hi => ?_⟩
  rw [splice_length _ _ _ hn] at hi
  rw [hp.2 i (by rw [hr.1]; exact hi), splice_getD _ _ _ hn _ hi, hvl]
  simp only [Nat.add_zero, Nat.sub_zero]
  split
  · have h2 := hv.2 (i - off) (by omega)
    have h3 : i - off < vs.size := by rw [hv.1]; omega
    simp only [Array.getD, h3, dif_pos] at h2
    simpa [List.getD, h3] using h2
  · exact hr.2 i hi

/-- The parts, in place. -/
theorem fill_sound {t : TypeId} {place : Nat → Option (Nat × Nat)} (hp : ∀ i x, placeT P t i = some x → place i = some x) :
    ∀ (ps : List (Nat × AV)) (vs : List (Nat × Value)) (cs : List AV) (arr : Array Value), vs.length = ps.length →
    (∀ k, k < ps.length → (vs.getD k (0, undef)).1 = (ps.getD k (0, .any)).1 ∧ Rep F (vs.getD k (0, undef)).2 (ps.getD k (0, .any)).2) →
    RepL F arr cs → (fillA P t ps cs).1 → ∃ arr', Instr.fill place arr vs = some arr' ∧ RepL F arr' (fillA P t ps cs).2
  | [], vs, cs, arr, hl, hv, hr, hs => by
    cases vs with
    | nil => exact ⟨arr, rfl, hr⟩
    | cons v vs => simp at hl
  | (i, x) :: ps, vs, cs, arr, hl, hv, hr, hs => by
    cases vs with
    | nil => simp at hl
    | cons v vs =>
      obtain ⟨j, u⟩ := v
      have h0 := hv 0 (by simp)
      simp at h0
      obtain ⟨rfl, hrep⟩ := h0
      unfold fillA at hs ⊢
      cases hpl : placeT P t j with
      | none => rw [hpl] at hs; exact hs.elim
      | some q =>
        obtain ⟨off, sz⟩ := q
        rw [hpl] at hs
        simp only at hs ⊢
        obtain ⟨a1, a2, a3, a4⟩ := hs
        have hc := repL_cells hrep a3
        have hsz : u.cells.size = sz := by rw [hc.1.1, a1]
        unfold Instr.fill
        rw [hp j _ hpl]
        simp only
        rw [if_neg (by simp [hsz, hr.1]; omega)]
        exact fill_sound hp ps vs _ _ (by simpa using hl) (fun k hk => by have := hv (k + 1) (by simp; omega); simpa using this) (repL_splice hr hc.1 off (by omega)) a4

theorem run_mapM_fields (ft : List Field) (w : World) (h : ∀ f ∈ ft, ∃ j, P.info? f.type = some j) :
    (ft.mapM fun (f : Field) => do pure (f.offset, ← sizeOf f.type) : Sem (List (Nat × Nat))).run P w = .ok (ft.map fun f => (f.offset, ((P.info? f.type).map (·.size)).getD 0)) w := by
  induction ft with
  | nil => rfl
  | cons f ft ih =>
    obtain ⟨j, hj⟩ := h f (by simp)
    have ih' := ih (fun g hg => h g (by simp [hg]))
    simp only [List.mapM_cons, Sem.run_bind, run_sizeOf_info hj, Result.andThen_ok, Sem.run_pure, ih', List.map_cons, hj]
    rfl

theorem build_sound {t : TypeId} {ps : List (Nat × AV)} {vs : Array (Nat × Value)} {S : Prop} {y : AV} (e : buildAV P t ps = (S, y)) (hs : S)
    (hl : vs.size = ps.length) (hv : ∀ k, k < ps.length → (vs.toList.getD k (0, undef)).1 = (ps.getD k (0, .any)).1 ∧ Rep F (vs.toList.getD k (0, undef)).2 (ps.getD k (0, .any)).2) :
    ∃ q, (∀ w, (Instr.build t vs).run P w = .ok q w) ∧ Rep F q y := by
  unfold buildAV at e
  split at e
  · rename_i z hz
    injection e with e1 e2
    subst e1 e2
    obtain ⟨hok, hs⟩ := hs
    obtain ⟨ti, zv, h1, h2, h3, h4, _⟩ := zeroA_spec hz F
    unfold fieldsOk at hok
    split at hok
    · rename_i fs hu
      have hfs : ∀ f ∈ fs.toList, ∃ j, P.info? f.type = some j := fun f hf => by
        have := List.all_eq_true.1 hok f hf
        exact Option.isSome_iff_exists.1 this
      have hm := fun w => run_mapM_fields (P := P) fs.toList w hfs
      have hma : ∀ w, (fs.mapM fun (f : Field) => do pure (f.offset, ← sizeOf f.type) : Sem (Array (Nat × Nat))).run P w = .ok (fs.map fun f => (f.offset, ((P.info? f.type).map (·.size)).getD 0)) w := by
        intro w
        rw [Array.mapM_eq_mapM_toList]
        simp only [Sem.run_map, hm, Result.andThen_ok]
        congr 1
        apply Array.ext'
        simp
      have hplace : ∀ i x, placeT P t i = some x → (fun i => (fs.map fun f => (f.offset, ((P.info? f.type).map (·.size)).getD 0))[i]?) i = some x := by
        intro i x hx
        unfold placeT at hx
        simp only [hu] at hx
        cases hf : fldT P t i with
        | none => simp [hf] at hx
        | some q =>
          obtain ⟨off, ft, sz⟩ := q
          obtain ⟨fs', f, j, q1, q2, q3, q4, q5, q6⟩ := fldT_spec hf
          rw [hu] at q1
          injection q1 with q1
          injection q1 with q1
          subst q1
          simp [hf] at hx
          subst hx
          simp [q2, q3, q4, q6]
      obtain ⟨arr', r1, r2⟩ := fill_sound hplace ps vs.toList z zv.cells (by simpa using hl) hv h4 hs
      refine ⟨.agg arr', fun w => ?_, .agg _ _ r2.1 r2.2⟩
      unfold Instr.build
      simp only [Sem.run_bind, run_zeroValue h1 h2, Result.andThen_ok, run_underlying hu, hma]
      rw [r1]
      rfl
    · rename_i n el hu
      obtain ⟨j, hj⟩ := Option.isSome_iff_exists.1 hok
      have hplace : ∀ i x, placeT P t i = some x → (fun i => some (i * j.size, j.size)) i = some x := by
        intro i x hx
        unfold placeT at hx
        simp only [hu, hj] at hx
        simpa using hx
      obtain ⟨arr', r1, r2⟩ := fill_sound hplace ps vs.toList z zv.cells (by simpa using hl) hv h4 hs
      refine ⟨.agg arr', fun w => ?_, .agg _ _ r2.1 r2.2⟩
      unfold Instr.build
      simp only [Sem.run_bind, run_zeroValue h1 h2, Result.andThen_ok, run_underlying hu, run_sizeOf_info hj]
      rw [r1]
      rfl
    · cases hok
  · injection e with e1 e2; subst e1; exact hs.elim


theorem nil_sound {x : AV} {S : Prop} {y : AV} (e : nilAV x = (S, y)) (hs : S) {v : Value} (hv : Rep F v x) : Rep F v y ∧ (v ≠ .pointer none ∧ v ≠ .nilIface ∧ v ≠ .nilFunc ∧ ∀ n f c, v ≠ .func (.method n) f c) := by
  unfold nilAV at e
  split at e <;> injection e with e1 e2 <;> subst e1 e2
  · exact ⟨hv, by cases hv; simp⟩
  · exact ⟨hv, by cases hv; simp⟩
  · exact ⟨hv, by cases hv; simp⟩
  · exact hs.elim

theorem un_sound {op : UnOp} {x : AV} {S : Prop} {y : AV} (e : unAV op x = (S, y)) (hs : S) {v : Value} (hv : Rep F v x) : ∃ q, (∀ w, (Op.unary op v).run P w = .ok q w) ∧ Rep F q y := by
  unfold unAV at e
  split at e <;> injection e with e1 e2 <;> subst e1 e2
  · cases hv; exact ⟨_, fun w => rfl, .int _ _⟩
  · cases hv; exact ⟨_, fun w => rfl, .bool _⟩
  · exact hs.elim

theorem conv_sound {src dst : TypeId} {x : AV} {S : Prop} {y : AV} (e : convAV P src dst x = (S, y)) (hs : S) {v : Value} (hv : Rep F v x) : ∃ q, (∀ w, (convert src dst v).run P w = .ok q w) ∧ Rep F q y := by
  unfold convAV at e
  split at e
  · rename_i k k' n hk
    injection e with e1 e2
    subst e1 e2
    cases hv
    unfold convK at hk
    split at hk
    · rename_i d k2 hsrc hdst
      injection hk with hk
      injection hk with hk
      subst hk
      refine ⟨_, fun w => ?_, .int _ _⟩
      unfold convert
      simp only [Sem.run_bind, run_underlying hsrc, run_underlying hdst, Result.andThen_ok]
      cases d <;> rfl
    · simp at hk
    · split at hk <;> simp at hk
    · cases hk
  · rename_i s hk
    injection e with e1 e2
    subst e1 e2
    unfold convK at hk
    split at hk
    · simp at hk
    · rename_i hsrc hdst
      obtain ⟨bs, rfl, rfl⟩ := hv.str_inv
      refine ⟨.string bs, fun w => ?_, .str _ _ rfl⟩
      unfold convert
      simp only [Sem.run_bind, run_underlying hsrc, run_underlying hdst, Result.andThen_ok]
      rfl
    · split at hk <;> simp at hk
    · cases hk
  · injection e with e1 e2; subst e1; exact hs.elim

theorem max_sound {x y z : AV} {S : Prop} (e : maxAV x y = (S, z)) (hs : S) {u v : Value} (hu : Rep F u x) (hv : Rep F v y) (ts : Array TypeId) (t : TypeId) :
    ∃ q, (∀ w, (Builtin.max_ ts t #[u, v]).run P w = .ok q w) ∧ Rep F q z := by
  unfold maxAV at e
  split at e <;> injection e with e1 e2 <;> subst e1 e2
  · cases hu; cases hv
    refine ⟨_, fun w => run_max_int2 w ts t _ _ _ _, ?_⟩
    rename_i k a k' b
    have : max a b = if b > a then b else a := by split <;> omega
    rw [this]; exact .int _ _
  · exact hs.elim
theorem min_sound {x y z : AV} {S : Prop} (e : minAV x y = (S, z)) (hs : S) {u v : Value} (hu : Rep F u x) (hv : Rep F v y) (ts : Array TypeId) (t : TypeId) :
    ∃ q, (∀ w, (Builtin.min_ ts t #[u, v]).run P w = .ok q w) ∧ Rep F q z := by
  unfold minAV at e
  split at e <;> injection e with e1 e2 <;> subst e1 e2
  · cases hu; cases hv
    refine ⟨_, fun w => run_min_int2 w ts t _ _ _ _, ?_⟩
    rename_i k a k' b
    have : min a b = if b < a then b else a := by split <;> omega
    rw [this]; exact .int _ _
  · exact hs.elim

theorem okO_rep {α : AAct} {a : Act} (hr : RepA F a α) (o : Option Operand) (ho : okO (o.map (α.ev P 0))) : RepO F (o.map a.eval) ((o.map (α.ev P 0)).map AV.val) := by
  cases o with
  | none => trivial
  | some x => exact (hr.ev P 0 x).val ho

theorem pev_sound {α : AAct} {o : Oper} {S : Prop} {x : AV} (e : pev P α h o = some (S, x)) (hs : S) : Pure P o α h x := by
  intro w0 F a w1 hi hr
  have hev := fun t x => hr.ev P t x
  obtain ⟨dst, op, type, pos, after, guard⟩ := o
  unfold pev at e
  simp only at e
  split at e
  · -- move
    rename_i x0 _
    injection e with e; injection e with e1 e2; subst e1 e2
    exact ⟨_, hev _ _, fun w _ => rfl⟩
  · injection e with e; injection e with e1 e2; subst e1 e2
    exact ⟨_, hev _ _, fun w _ => rfl⟩
  · -- pick
    rename_i c p q
    injection e with e
    obtain ⟨h1, T, h2, h3⟩ := one_split e hs
    unfold pickAV at h2
    split at h2
    · rename_i t ht
      injection h2 with e1 e2
      subst e1 e2
      have hc := (hev 0 c).val h1
      rw [ht] at hc
      have hcv := hc.bool_inv
      refine ⟨if t then a.eval p else a.eval q, pickV_rep (fun e => (hev _ _).val (h3.1 e)) (fun e => (hev _ _).val (h3.2 e)), fun w _ => ?_⟩
      simp only [execOp, hcv, asBool]
      cases t <;> rfl
    · injection h2 with e1 e2; subst e1; exact h3.elim
  · -- build
    rename_i t parts
    injection e with e
    have := build_sound (P := P) (F := F) (t := t) (vs := parts.map fun p => (p.1, a.eval p.2)) e hs (by simp) (fun k hk => by
      simp at hk
      simp [List.getD, hk]
      exact hev _ _)
    obtain ⟨q, h1, h2⟩ := this
    exact ⟨q, h2, fun w _ => by simp only [execOp, Sem.run_bind]; rw [h1]; rfl⟩
  · -- load
    rename_i t ad
    injection e with e
    obtain ⟨h1, T, h2, h3⟩ := one_split e hs
    obtain ⟨q, r1, r2⟩ := loadAV_sound hi ((hev 0 ad).val h1) h2 h3
    exact ⟨q, r2, fun w hl => by simp only [execOp, Sem.run_bind]; rw [r1 w hl]; rfl⟩
  · -- nilCheck
    rename_i y
    injection e with e
    obtain ⟨h1, T, h2, h3⟩ := one_split e hs
    obtain ⟨r1, r2, r3, r4, r5⟩ := nil_sound h2 h3 ((hev 0 y).val h1)
    refine ⟨a.eval y, r1, fun w _ => ?_⟩
    simp only [execOp]
    rfl
  · -- binOp
    rename_i bop t p q yt
    split at e
    · cases e
    injection e with e
    obtain ⟨h1, h2, T, h3, h4⟩ := two_split e hs
    obtain ⟨r, r1, r2⟩ := binAV_sound (ox := p) (oy := q) h3 h4 ((hev t p).val h1) ((hev t q).val h2)
    exact ⟨r, r2, fun w _ => by simp only [execOp]; rw [Sem.run_bind, r1]; rfl⟩
  · -- unOp
    rename_i uop t p
    injection e with e
    obtain ⟨h1, T, h2, h3⟩ := one_split e hs
    obtain ⟨q, r1, r2⟩ := un_sound (P := P) h2 h3 ((hev t p).val h1)
    exact ⟨q, r2, fun w _ => by simp only [execOp, Sem.run_bind]; rw [r1]; rfl⟩
  · -- convert
    rename_i src dst' p
    split at e
    · injection e with e
      obtain ⟨h1, T, h2, h3⟩ := one_split e hs
      obtain ⟨q, r1, r2⟩ := conv_sound h2 h3 ((hev src p).val h1)
      exact ⟨q, r2, fun w _ => by simp only [execOp, Sem.run_bind]; rw [r1]; rfl⟩
    · injection e with e
      obtain ⟨h1, T, h2, h3⟩ := one_split e hs
      obtain ⟨q, r1, r2⟩ := conv_sound h2 h3 ((hev src p).val h1)
      exact ⟨q, r2, fun w _ => by simp only [execOp, Sem.run_bind]; rw [r1]; rfl⟩
    · cases e
  · -- makeFunc
    rename_i f first caps
    split at e
    · rename_i h0
      injection e with e; injection e with e1 e2; subst e1 e2
      have hf : first = #[] := Array.size_eq_zero_iff.1 h0
      subst hf
      refine ⟨.func (.func f) #[] (caps.map a.eval), .fn _ _ _ (by simp) (fun i hi => ?_), fun w _ => ?_⟩
      rotate_left
      · simp only [execOp, Instr.makeFunc, Sem.run_bind, Sem.run_pure, Result.andThen_ok]; simp
      · simp at hi
        simp [Array.getD, List.getD, hi]
        exact hev _ _
    · cases e
  · -- slice
    rename_i t p lo hh mx
    injection e with e
    injection e with e1 e2
    subst e1
    obtain ⟨k1, k2, k3, k4, k5⟩ := hs
    obtain ⟨q, r1, r2⟩ := slice_sound (S := _) (y := x) (by rw [← e2]) k5 ((hev t p).val k1) (okO_rep hr lo k2) (okO_rep hr hh k3) (okO_rep hr mx k4)
    exact ⟨q, r2, fun w _ => by simp only [execOp, Sem.run_bind]; rw [r1]; rfl⟩
  · -- fieldAddr
    rename_i t p i
    injection e with e
    obtain ⟨h1, T, h2, h3⟩ := one_split e hs
    obtain ⟨q, r1, r2⟩ := faddr_sound h2 h3 ((hev 0 p).val h1)
    exact ⟨q, r2, fun w _ => by simp only [execOp, Sem.run_bind]; rw [r1]; rfl⟩
  · rename_i t p i
    injection e with e
    obtain ⟨h1, T, h2, h3⟩ := one_split e hs
    obtain ⟨q, r1, r2⟩ := field_sound h2 h3 ((hev t p).val h1)
    exact ⟨q, r2, fun w _ => by simp only [execOp, Sem.run_bind]; rw [r1]; rfl⟩
  · rename_i t p i
    injection e with e
    obtain ⟨h1, h2, T, h3, h4⟩ := two_split e hs
    obtain ⟨q, r1, r2⟩ := idxAddr_sound h3 h4 ((hev t p).val h1) ((hev 0 i).val h2)
    exact ⟨q, r2, fun w _ => by simp only [execOp, Sem.run_bind]; rw [r1]; rfl⟩
  · rename_i t p i
    injection e with e
    obtain ⟨h1, h2, T, h3, h4⟩ := two_split e hs
    obtain ⟨q, r1, r2⟩ := idx_sound h3 h4 ((hev t p).val h1) ((hev 0 i).val h2)
    exact ⟨q, r2, fun w _ => by simp only [execOp, Sem.run_bind]; rw [r1]; rfl⟩
  · -- extract
    rename_i p i
    injection e with e
    obtain ⟨h1, T, h2, h3⟩ := one_split e hs
    unfold extAV at h2
    split at h2
    · rename_i vs hvs
      injection h2 with e1 e2
      subst e1 e2
      have hv := (hev 0 p).val h1
      rw [hvs] at hv
      obtain ⟨cs, he, hc⟩ := hv.tup_inv
      have h5 := hc.2 i h3
      have h6 : i < cs.size := by rw [hc.1]; exact h3
      refine ⟨cs[i], by simpa [Array.getD, h6] using h5, fun w _ => ?_⟩
      simp [execOp, he, Instr.extract, h6]
    · injection h2 with e1 e2; subst e1; exact h3.elim
  · -- len
    rename_i args argTypes
    split at e
    · rename_i p t ha ht
      injection e with e
      obtain ⟨h1, T, h2, h3⟩ := one_split e hs
      obtain ⟨q, r1, r2⟩ := len_sound (ty := type) h2 h3 ((hev t p).val h1)
      have ha' : args = #[p] := Array.toList_inj.1 ha
      have ht' : argTypes = #[t] := Array.toList_inj.1 ht
      subst ha' ht'
      refine ⟨q, r2, fun w _ => ?_⟩
      simp only [execOp, resolve, invoke, builtin]
      simp [r1]
    · cases e
  · rename_i args argTypes
    split at e
    · rename_i p q ha
      injection e with e
      obtain ⟨h1, h2, T, h3, h4⟩ := two_split e hs
      obtain ⟨r, r1, r2⟩ := max_sound (P := P) h3 h4 ((hev 0 p).val h1) ((hev 0 q).val h2) argTypes type
      have ha' : args = #[p, q] := Array.toList_inj.1 ha
      subst ha'
      refine ⟨r, r2, fun w _ => ?_⟩
      simp only [execOp, resolve, invoke, builtin]
      simp [r1]
    · cases e
  · rename_i args argTypes
    split at e
    · rename_i p q ha
      injection e with e
      obtain ⟨h1, h2, T, h3, h4⟩ := two_split e hs
      obtain ⟨r, r1, r2⟩ := min_sound (P := P) h3 h4 ((hev 0 p).val h1) ((hev 0 q).val h2) argTypes type
      have ha' : args = #[p, q] := Array.toList_inj.1 ha
      subst ha'
      refine ⟨r, r2, fun w _ => ?_⟩
      simp only [execOp, resolve, invoke, builtin]
      simp [r1]
    · cases e
  · cases e

end
end Go.AL
