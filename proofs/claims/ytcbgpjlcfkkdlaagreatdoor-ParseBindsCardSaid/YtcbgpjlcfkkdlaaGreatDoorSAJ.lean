import Derived.Test.YtcbgpjlcfkkdlaaGreatDoorSAE
import Derived.Scope
import Derived.Test.YtcbgpjlcfkkdlaaGreatDoorSAI
set_option linter.unusedSimpArgs false
set_option linter.unusedVariables false
namespace Go.AL
open Go Go.RowKit
def NoGotoA (Q : APostT) : APostT := fun e α h => match e with
 | .goto _ => False
 | e => Q e α h
theorem awp_scope {P : Program} {c : Code} {Q : APostT} {α : AAct} {h : Heap} (e : awp P c (NoGotoA Q) α h) : awp P (.scope c) Q α h := by
 intro w0 F a w hi hr
 refine wp_scope_straight (wp_mono (e w0 F a w hi hr) ?_)
 intro e a w ⟨F', α', h', h1, h2, h3, h4⟩
 cases e with
 | goto l => exact h4.elim
 | normal => exact ⟨F', α', h', h1, h2, h3, h4⟩
 | exit id => exact ⟨F', α', h', h1, h2, h3, h4⟩
 | ret => exact ⟨F', α', h', h1, h2, h3, h4⟩
 | panic ch => exact ⟨F', α', h', h1, h2, h3, h4⟩
 | outgrown => exact ⟨F', α', h', h1, h2, h3, h4⟩
theorem awp_label {P : Program} {l : Nat} {Q : APostT} {α : AAct} {h : Heap} (e : Q .normal α h) : awp P (.label l) Q α h := by
 intro w0 F a w hi hr
 exact wp_label ⟨F, α, h, .refl F, hi, hr, e⟩
end Go.AL

namespace Go.AL
open Go Go.RowKit
def schedOkF (ops : Array Oper) (Z : List Nat) (okF : Array Bool → Bool) : List (Nat × Bool) → Array Bool → Bool
 | [], listed => okF listed
 | (i, true) :: is, listed => (Region.ready .any ops listed).contains i && Region.free .any ops listed i && Z.all (fun z => edgeOn ops z i) && schedOkF ops Z okF is (listed.setIfInBounds i true)
 | (i, false) :: is, listed => Region.ready .any ops listed == [i] && schedOkF ops Z okF is (listed.setIfInBounds i true)
section
variable {P : Program} {ops : Array Oper} {K : AAct → Heap → Prop}
theorem svcF_sound {Z : List Nat} {N : Nat} {KF : AAct → Heap → Prop} {okF : Array Bool → Bool} {G : List Nat} (hsel : Region.noSelect ops = true)
  (hfin : ∀ (listed : Array Bool) (α : AAct) (h h0 : Heap), KF α h → okF listed = true → (∀ b, b ∈ G → h b = h0 b) →
   ∀ (w0 : Base) (F F0 Fr : Fin) (a : Act) (w w1 : World), Mono F0 F → Mono Fr F → Inv w0 F w h → RepA F a α → Held w1 G h0 F w →
   wpAnyZ P ops (RPost w0 Fr K) Z (Held w1 G h0 F0) N listed a w) :
  ∀ (sched : List (Nat × Bool)) (listed : Array Bool) (α : AAct) (h h0 : Heap), svc P ops G KF sched α h → schedOkF ops Z okF sched listed = true →
  (∀ b, b ∈ G → h b = h0 b) →
  ∀ (w0 : Base) (F F0 Fr : Fin) (a : Act) (w w1 : World), Mono F0 F → Mono Fr F → Inv w0 F w h → RepA F a α → Held w1 G h0 F w →
  wpAnyZ P ops (RPost w0 Fr K) Z (Held w1 G h0 F0) (sched.length + N) listed a w
 | [], listed, α, h, h0, e, hok, hG, w0, F, F0, Fr, a, w, w1, hm, hmr, hi, hr, hheld => by
  rw [svc_nil] at e
  simp only [schedOkF] at hok
  rw [List.length_nil, Nat.zero_add]
  exact hfin listed α h h0 e hok hG w0 F F0 Fr a w w1 hm hmr hi hr hheld
 | (i, early) :: is, listed, α, h, h0, e, hok, hG, w0, F, F0, Fr, a, w, w1, hm, hmr, hi, hr, hheld => by
  have hlen : ((i, early) :: is).length + N = (is.length + N) + 1 := by simp; omega
  rw [hlen]
  have hheldF : ∀ w', Held w1 G h0 F w' → Held w1 G h0 F0 w' := fun w' hw' => ⟨hw'.1, fun b o u hu => hw'.2 b o u (hm _ _ _ hu)⟩
  have hheldh : Held w1 G h F w := ⟨fun b hb y hy => hheld.1 b hb y (by rw [← hG b hb]; exact hy), hheld.2⟩
  have hheldh' : ∀ w', Held w1 G h0 F w' → Held w1 G h F w' := fun w' hw' => ⟨fun b hb y hy => hw'.1 b hb y (by rw [← hG b hb]; exact hy), hw'.2⟩
  rw [svc_cons] at e
  unfold sstep at e
  cases ho : ops[i]? with
  | none => rw [ho] at e; exact e.elim
  | some o =>
   rw [ho] at e
   simp only at e
   cases hg : guardAV ops α o.guard with
   | none => rw [hg] at e; exact e.elim
   | some c =>
    rw [hg] at e
    simp only at e
    have hw := guard_sound (ops := ops) (o := o) hr hg
    cases early with
    | true =>
     simp only [schedOkF, Bool.and_eq_true] at hok
     obtain ⟨⟨⟨hready, hfree⟩, hZ⟩, hok'⟩ := hok
     have hZ' : ∀ z ∈ Z, edgeOn ops z i = true := fun z hz => List.all_eq_true.1 hZ z hz
     have hready' : i ∈ Region.ready .any ops listed := by simpa using hready
     simp only at e
     cases hp : pev P α (h.only G) o with
     | none => rw [hp] at e; exact e.elim
     | some q =>
      obtain ⟨S, x⟩ := q
      rw [hp] at e
      simp only at e
      refine wpAnyZ_weaken hheldF _ _ _ _ ?_
      cases c with
      | true =>
       obtain ⟨v, h1, h2⟩ := pev_held hp (e.1 rfl) hi hr hheldh
       refine wpAnyZ_first ho hsel (fun _ _ _ hq => RPost_panic hq) hZ' _ _ _ _ (Region.free_spec ho hfree) hready' (.inl ⟨hw, fun w' hw' => h2 w' (hheldh' w' hw')⟩) hheld ?_
       exact svcF_sound hsel hfin is _ _ h h0 e.2 hok' hG w0 F F Fr _ w w1 (.refl F) hmr hi (hr.put o.dst (rep_under rfl h1)) hheld
      | false =>
       refine wpAnyZ_first ho hsel (fun _ _ _ hq => RPost_panic hq) hZ' _ _ _ _ (Region.free_spec ho hfree) hready' (.inr ⟨hw, rfl⟩) hheld ?_
       cases hgo : o.guard with
       | none => rw [hgo] at hg; simp [guardAV] at hg
       | some j =>
        rw [hgo] at e
        exact svcF_sound hsel hfin is _ _ h h0 e.2 hok' hG w0 F F Fr _ w w1 (.refl F) hmr hi (hr.put o.dst rep_skip) hheld
    | false =>
     simp only [schedOkF, Bool.and_eq_true] at hok
     obtain ⟨hready, hok'⟩ := hok
     have hready' : Region.ready .any ops listed = [i] := by simpa using hready
     refine ⟨fun h0 => (by rw [hready'] at h0; cases h0), fun i' hi' => ?_⟩
     rw [hready'] at hi'
     have : i' = i := by simpa using hi'
     subst this
     unfold wpOp
     rw [ho]
     simp only at e ⊢
     cases hp : pev P α h o with
     | some q =>
      obtain ⟨S, x⟩ := q
      rw [hp] at e
      simp only at e
      cases c with
      | true =>
       rw [if_pos hw]
       obtain ⟨v, h1, h2⟩ := pev_sound hp (e.1 rfl) w0 F a w hi hr
       left
       unfold Oper.wp
       rw [h2 w hi.like]
       exact ⟨.inr (hheldF w hheld), svcF_sound hsel hfin is _ _ h h0 e.2 hok' hG w0 F F0 Fr _ w w1 hm hmr hi (hr.put o.dst (rep_under rfl h1)) hheld⟩
      | false =>
       rw [hw]
       simp only [Bool.false_eq_true, if_false]
       cases hgo : o.guard with
       | none => rw [hgo] at hg; simp [guardAV] at hg
       | some j =>
        rw [hgo] at e
        exact ⟨.inr (hheldF w hheld), svcF_sound hsel hfin is _ _ h h0 e.2 hok' hG w0 F F0 Fr _ w w1 hm hmr hi (hr.put o.dst rep_skip) hheld⟩
     | none =>
      rw [hp] at e
      simp only at e
      cases c with
      | true =>
       rw [if_pos hw]
       left
       refine veff_frame (e.1 rfl) (.refl F) hi (hr.known hg) hheldh ?_
       intro F' α' h' a' w' m1 m2 m3 m4 m6 m5
       have hG' : ∀ b, b ∈ G → (h'.plus G h) b = h0 b := fun b hb => (Heap.plus_mem hb).trans (hG b hb)
       have hheld' : Held w1 G h0 F' w' := ⟨fun b hb y hy => m4.1 b hb y (by rw [hG b hb]; exact hy), fun b o u hu => (m2.fin b o u hu).1⟩
       refine ⟨.inr ⟨hheld'.1, fun b o u hu => hheld'.2 b o u (m1 _ _ _ (hm _ _ _ hu))⟩, ?_⟩
       exact svcF_sound hsel hfin is _ _ _ h0 (m5 m6) hok' hG' w0 F' F0 Fr a' w' w1 (hm.trans m1) (hmr.trans m1) m2 m3 hheld'
      | false =>
       rw [hw]
       simp only [Bool.false_eq_true, if_false]
       exact ⟨.inr (hheldF w hheld), svcF_sound hsel hfin is _ _ h h0 (e.2 rfl) hok' hG w0 F F0 Fr _ w w1 hm hmr hi (AAct.put_any_rep (hr.known hg) _) hheld⟩
def pvc (P : Program) (ops : Array Oper) (G : List Nat) (i j : Nat) (S2 : List (Nat × Bool)) (K : AAct → Heap → Prop) (α : AAct) (h : Heap) : Prop :=
 sstep P ops G (i, false) (svc P ops G K ((j, false) :: S2)) α h ∧ sstep P ops G (j, false) (svc P ops G K ((i, false) :: S2)) α h
theorem sstep_op {Z : List Nat} {G : List Nat} {i : Nat} {KF : AAct → Heap → Prop} {α : AAct} {h h0 : Heap} {R : Act → World → Prop} {Q : Exit → Act → World → Prop} (e : sstep P ops G (i, false) KF α h) (hG : ∀ b, b ∈ G → h b = h0 b)
  {w0 : Base} {F F0 : Fin} {a : Act} {w w1 : World} (hm : Mono F0 F) (hi : Inv w0 F w h) (hr : RepA F a α) (hheld : Held w1 G h0 F w)
  (next : ∀ F' α' h' a' w', Mono F F' → Inv w0 F' w' h' → RepA F' a' α' → (∀ b, b ∈ G → h' b = h0 b) → Held w1 G h0 F' w' → KF α' h' → R a' w') :
  wpOp P ops Q i (fun a' w' => (i ∈ Z ∨ Held w1 G h0 F0 w') ∧ R a' w') a w := by
 have hheldF : ∀ w', Held w1 G h0 F w' → Held w1 G h0 F0 w' := fun w' hw' => ⟨hw'.1, fun b o u hu => hw'.2 b o u (hm _ _ _ hu)⟩
 have hheldh : Held w1 G h F w := ⟨fun b hb y hy => hheld.1 b hb y (by rw [← hG b hb]; exact hy), hheld.2⟩
 unfold sstep at e
 unfold wpOp
 cases ho : ops[i]? with
 | none => rw [ho] at e; exact e.elim
 | some o =>
  rw [ho] at e
  simp only at e ⊢
  cases hg : guardAV ops α o.guard with
  | none => rw [hg] at e; exact e.elim
  | some c =>
   rw [hg] at e
   simp only at e
   have hw := guard_sound (ops := ops) (o := o) hr hg
   cases hp : pev P α h o with
   | some q =>
    obtain ⟨S, x⟩ := q
    rw [hp] at e
    simp only at e
    cases c with
    | true =>
     rw [if_pos hw]
     obtain ⟨v, h1, h2⟩ := pev_sound hp (e.1 rfl) w0 F a w hi hr
     left
     unfold Oper.wp
     rw [h2 w hi.like]
     exact ⟨.inr (hheldF w hheld), next F _ _ _ _ (.refl F) hi (hr.put o.dst (rep_under rfl h1)) hG hheld e.2⟩
    | false =>
     rw [hw]
     simp only [Bool.false_eq_true, if_false]
     cases hgo : o.guard with
     | none => rw [hgo] at hg; simp [guardAV] at hg
     | some j =>
      rw [hgo] at e
      exact ⟨.inr (hheldF w hheld), next F _ _ _ _ (.refl F) hi (hr.put o.dst rep_skip) hG hheld e.2⟩
   | none =>
    rw [hp] at e
    simp only at e
    cases c with
    | true =>
     rw [if_pos hw]
     left
     refine veff_frame (e.1 rfl) (.refl F) hi (hr.known hg) hheldh ?_
     intro F' α' h' a' w' m1 m2 m3 m4 m6 m5
     have hG' : ∀ b, b ∈ G → (h'.plus G h) b = h0 b := fun b hb => (Heap.plus_mem hb).trans (hG b hb)
     have hheld' : Held w1 G h0 F' w' := ⟨fun b hb y hy => m4.1 b hb y (by rw [hG b hb]; exact hy), fun b o u hu => (m2.fin b o u hu).1⟩
     exact ⟨.inr ⟨hheld'.1, fun b o u hu => hheld'.2 b o u (m1 _ _ _ (hm _ _ _ hu))⟩, next F' _ _ _ _ m1 m2 m3 hG' hheld' (m5 m6)⟩
    | false =>
     rw [hw]
     simp only [Bool.false_eq_true, if_false]
     exact ⟨.inr (hheldF w hheld), next F _ _ _ _ (.refl F) hi (AAct.put_any_rep (hr.known hg) _) hG hheld (e.2 rfl)⟩
end
theorem ACalls.weak {P : Program} {f : FuncId} {xs ys : List AV} {h : Heap} {R : AV → Heap → Prop} (hw : WeakL xs ys) (hc : ACalls P f ys h R) : ACalls P f xs h R :=
 fun w0 F w cargs hi ha => hc w0 F w cargs hi ⟨ha.1.trans hw.1, fun i hi' => hw.2 i (by rw [hw.1]; exact hi') F _ (ha.2 i (by rw [hw.1]; exact hi'))⟩
attribute [simp] pvc
end Go.AL

namespace Go.AL
open Go Go.RowKit
theorem acalls_ofD {P : Program} {f : FuncId} {fn : Func} {c : Code} {args : List AV} {h : Heap} {R : AV → Heap → Prop} {n : Nat} {rs : List ResultVar} (hf : P.funcs[f]? = some fn) (hb : fn.body = some c)
  (hn : fn.ntmps = n) (hrs : fn.results.toList = rs) (e : ∀ Q, KeepQ Q (BodyPostD P rs R) → awp P c Q ⟨args ++ List.replicate (n - args.length) .any, []⟩ h) : ACalls P f args h R :=
 acalls_of_awpD hf hb hn hrs (e _ ⟨fun _ _ _ h => h⟩)
@[simp] theorem BodyPostD_at {P : Program} {rs : List ResultVar} {R : AV → Heap → Prop} {e : Exit} {α : AAct} {h : Heap} : BodyPostD P rs R e α h = ((e = .normal ∨ e = .ret) ∧ RunDs P rs R α.s α.ds h) := rfl
@[simp] theorem RunDs_cons {P : Program} {rs : List ResultVar} {R : AV → Heap → Prop} {s : List AV} {f : FuncId} {args : List AV} {ds : List (FuncId × List AV)} {h : Heap} : RunDs P rs R s ((f, args) :: ds) h = (callable P f = true ∧ ACallsD P f args h fun _ h' => RunDs P rs R s ds h') := rfl
@[simp] theorem RunDs_ret1 {P : Program} {t : Tmp} {R : AV → Heap → Prop} {s : List AV} {h : Heap} : RunDs P [.tmp t] R s [] h = R (s.getD t .any) h := by simp [RunDs, aresults, aresult]
@[simp] theorem RunDs_ret2 {P : Program} {t u : Tmp} {R : AV → Heap → Prop} {s : List AV} {h : Heap} : RunDs P [.tmp t, .tmp u] R s [] h = R (.tup [s.getD t .any, s.getD u .any]) h := by simp [RunDs, aresults, aresult]
end Go.AL

namespace Go.AL
open Go Go.RowKit
section
variable {P : Program} {w0 : Base} {w : World} {F : Fin} {h : Heap}
theorem buildSlice_arr_sound (hi : Inv w0 F w h) {t el : TypeId} {n sz : Nat} {ps : List (Nat × AV)} {vs : Array (Nat × Value)} (ht : elemT P t = some (.slice, el, sz)) (hz : (zeroA P el).isSome = true) (hn : n * sz ≤ 16777216)
  (hl : vs.size = ps.length) (hv : ∀ k, k < ps.length → (vs.toList.getD k (0, undef)).1 = (ps.getD k (0, .any)).1 ∧ Rep F (vs.toList.getD k (0, undef)).2 (ps.getD k (0, .any)).2)
  (hs : (fillA P t ps (List.replicate (n * sz) .any)).1) (hc : ∀ c ∈ (fillA P t ps (List.replicate (n * sz) .any)).2, c.isCell = true) (hlen : (fillA P t ps (List.replicate (n * sz) .any)).2.length = n * sz) :
  ∃ w', (Instr.buildSlice t n vs).run P w = .ok (.slice (some ⟨w.heap.size, 0, none⟩) n n) w' ∧ Inv w0 F w' (h.set w.heap.size (.cells (fillA P t ps (List.replicate (n * sz) .any)).2)) := by
 obtain ⟨i, h1, h2, h3⟩ := elemT_slice ht
 obtain ⟨z, hz⟩ := Option.isSome_iff_exists.1 hz
 obtain ⟨i', zv, q1, q2, q3, q4, q5⟩ := zeroA_spec hz F
 have : i' = i := Option.some.inj (q1.symm.trans h2)
 subst this
 subst h3
 have hplace : ∀ j x, placeT P t j = some x → (fun j => some (j * i'.size, i'.size)) j = some x := by
  intro j x hx
  unfold placeT at hx
  simp only [h1, h2] at hx
  simpa using hx
 have fin : ∀ (zz : Array Value), ((Array.range (n * i'.size)).map fun q => zz[q % zz.size]!).size = n * i'.size → ∃ arr', Instr.fill (fun j => some (j * i'.size, i'.size)) ((Array.range (n * i'.size)).map fun q => zz[q % zz.size]!) vs.toList = some arr' ∧
   RepL F arr' (fillA P t ps (List.replicate (n * i'.size) .any)).2 := by
  intro zz hzz
  refine fill_sound hplace ps vs.toList (List.replicate (n * i'.size) .any) _ (by simpa using hl) hv ⟨by simp, fun q hq => ?_⟩ hs
  simp at hq
  simp [List.getD, hq]
  exact .any _
 have done : ∀ (zz : Array Value), (∀ arr', Instr.fill (fun j => some (j * i'.size, i'.size)) ((Array.range (n * i'.size)).map fun q => zz[q % zz.size]!) vs.toList = some arr' →
    (Instr.buildSlice t n vs).run P w = .ok (.slice (some ⟨w.heap.size, 0, none⟩) n n) (w.alloc (.cells arr' el))) →
   ∃ w', (Instr.buildSlice t n vs).run P w = .ok (.slice (some ⟨w.heap.size, 0, none⟩) n n) w' ∧ Inv w0 F w' (h.set w.heap.size (.cells (fillA P t ps (List.replicate (n * i'.size) .any)).2)) := by
  intro zz hrun
  obtain ⟨arr', r1, r2⟩ := fin zz (by simp)
  have hone : ∀ j, j < (fillA P t ps (List.replicate (n * i'.size) .any)).2.length → (arr'.getD j undef).oneCell' = true := by
   intro j hj
   refine (r2.2 j hj).oneCell ?_
   rw [List.getD, List.getElem?_eq_getElem hj]
   exact hc _ (List.getElem_mem hj)
  exact ⟨_, hrun arr' r1, hi.alloc _ el _ r2.1 r2.2 hone⟩
 have hle : ¬ (n * i'.size > 2 ^ 24) := by simpa using hn
 by_cases h0 : n * i'.size = 0
 ·refine done #[] fun arr' r1 => ?_
  unfold Instr.buildSlice
  have r2 : Instr.fill (fun j => some (j * i'.size, i'.size)) #[] vs.toList = some arr' := by simpa [h0, Array.range_zero'] using r1
  simp only [Sem.run_bind, run_underlying h1, Result.andThen_ok, run_sizeOf_info h2, hle, if_false, h0, if_true, Sem.run_pure]
  simp [newRow, Array.range_zero', r2]
 ·refine done zv.cells fun arr' r1 => ?_
  unfold Instr.buildSlice
  simp only [Sem.run_bind, run_underlying h1, Result.andThen_ok, run_sizeOf_info h2, hle, if_false, h0, run_zeroValue q1 q2, Sem.run_pure, r1]
  simp [newRow]
end
def litA (P : Program) (t : TypeId) (n : Nat) (parts : TypeId → List (Nat × AV)) (K : AV → Heap → Prop) (h : Heap) : Prop :=
 match elemT P t with
 | some (.slice, el, sz) => (zeroA P el).isSome = true ∧ n * sz ≤ 16777216 ∧ (fillA P t (parts el) (List.replicate (n * sz) .any)).1 ∧ (∀ c ∈ (fillA P t (parts el) (List.replicate (n * sz) .any)).2, c.isCell = true) ∧
   (fillA P t (parts el) (List.replicate (n * sz) .any)).2.length = n * sz ∧ ∀ b, Fresh h b → K (.arr b 0 n n) (h.set b (.cells (fillA P t (parts el) (List.replicate (n * sz) .any)).2))
 | _ => False
attribute [simp] litA
theorem awp_region_lit {P : Program} {ops : Array Oper} {Q : APostT} {α : AAct} {h : Heap} {id : Nat} {o : Oper} {rest : List Oper} {t : TypeId} {n : Nat} {parts : Array (Nat × Operand)}
  (hops : ops.toList = o :: rest) (ho : o.op = .buildSlice t n parts) (hg : o.guard = none)
  (e : litA P t n (fun el => litParts P α el parts.toList) (Cont (rvc P ops (Q .normal) rest) o.dst α) h) : awp P (.region id ops false) Q α h := by
 intro w0 F a w hi hr
 refine wp_mono (P := P) (wp_region_list (Q := RPost w0 F (Q .normal)) ?_) ?_
 ·rw [hops]
  unfold wpList
  have hw : Region.wanted o (yielded ops a.tmps) = true := by simp [Region.wanted, hg]
  rw [if_pos hw]
  left
  unfold litA at e
  split at e
  ·rename_i el sz hel
   obtain ⟨e1, e2, e3, e4, e5, e6⟩ := e
   obtain ⟨w', r1, r2⟩ := buildSlice_arr_sound (n := n) (vs := parts.map fun p => (p.1, a.eval p.2)) hi hel e1 e2 (by simp [litParts]) (fun k hk => by
    simp [litParts] at hk
    simp only [litParts, Array.toList_map, List.getD, List.getElem?_map]
    have hk' : k < parts.toList.length := by simpa using hk
    rw [List.getElem?_eq_getElem hk']
    exact ⟨rfl, hr.ev P el _⟩) e3 e4 e5
   have hrun : (execOp a.eval o).run P w = .ok (.value (.slice (some ⟨w.heap.size, 0, none⟩) n n)) w' := by
    unfold execOp
    rw [ho]
    simp [r1]
   unfold Oper.wp
   rw [hrun]
   exact rvc_sound rest _ _ (e6 w.heap.size hi.fresh.1) w0 F _ w' F (.refl F) r2 (hr.put o.dst (.arr _ _ _ _))
  ·exact e.elim
 ·rintro e a w ⟨rfl, F', α', h', h1, h2, h3, h4⟩
  exact ⟨F', α', h', h1, h2, h3, h4⟩
theorem awp_view {P : Program} {c : Code} {Q : APostT} {α : AAct} {h g : Heap} (i : Nat) {x y : AV} (hx : α.s[i]? = some x) (hv : View x h y g) (k : awp P c Q ⟨α.s.set i y, α.ds⟩ g) : awp P c Q α h := by
 intro w0 F a w hi hr
 have h1 := hr.s.get i
 have hx' : α.s.getD i .any = x := by simp [List.getD, hx]
 rw [hx'] at h1
 obtain ⟨F', m, i1, r1⟩ := hv w0 F w _ hi h1
 refine wp_mono (k w0 F' a w i1 ⟨?_, (hr.mono m).ds⟩) (APost.mono m)
 have h2 := (hr.mono m).s
 refine ⟨by rw [List.length_set]; exact h2.1, fun j hj => ?_⟩
 rw [List.length_set] at hj
 by_cases e : j = i
 ·subst e
  have : (α.s.set j y).getD j .any = y := by simp [List.getD, hj]
  rw [this]
  exact r1
 ·have : (α.s.set i y).getD j .any = α.s.getD j .any := by simp [List.getD, List.getElem?_set_ne (Ne.symm e)]
  rw [this]
  exact h2.2 j hj
end Go.AL

