import Derived.Test.YtcbgpjlcfkkdlaaGreatDoorUAE
import Derived.Defers
set_option linter.unusedSimpArgs false
set_option linter.unusedVariables false
namespace Go.AL
open Go Go.RowKit
section
variable {P : Program}
def ACallsD (P : Program) (f : FuncId) (args : List AV) (h : Heap) (R : AV → Heap → Prop) : Prop :=
 ∀ (w0 : Base) (F : Fin) (w : World) (cargs : Array Value), Inv w0 F w h → RepL F cargs args →
  CallsD P f cargs .returning w fun e u' w' => u' = .returning ∧ ∃ v F' x h', e = .returned v ∧ Mono F F' ∧ Inv w0 F' w' h' ∧ Rep F' v x ∧ R x h'
theorem acallsD_of_awp {f : FuncId} {fn : Func} {c : Code} {args : List AV} {h : Heap} {R : AV → Heap → Prop} {n : Nat} {rs : List ResultVar} (hf : P.funcs[f]? = some fn) (hb : fn.body = some c)
  (hn : fn.ntmps = n) (hrs : fn.results.toList = rs) (e : awp P c (BodyPost P rs R) ⟨args ++ List.replicate (n - args.length) .any, []⟩ h) : ACallsD P f args h R := by
 intro w0 F w cargs hi ha
 subst hn hrs
 refine (callsD_of_wp (R := fun e w' => ∃ v F' x h', e = .returned v ∧ Mono F F' ∧ Inv w0 F' w' h' ∧ Rep F' v x ∧ R x h') hf hb (wp_mono (e w0 F _ w hi ⟨repL_entry ha _, .nil⟩) ?_)).mono (fun e u' w' hq => hq)
 intro e a w ⟨F', α', h', h1, h2, h3, h4, h5, xs, h6, h7⟩
 obtain ⟨v, k1, k2⟩ := results_sound h2 h3 h6
 have hd : a.defers = [] := by
  have h8 := h3.ds
  rw [h5] at h8
  revert h8
  generalize a.defers = q
  intro h8
  cases h8
  rfl
 rcases h4 with rfl | rfl
 ·exact ⟨hd, v, k1, v, F', _, h', rfl, h1, h2, k2, h7⟩
 ·exact ⟨hd, v, k1, v, F', _, h', rfl, h1, h2, k2, h7⟩
def RunDs (P : Program) (rs : List ResultVar) (R : AV → Heap → Prop) (s : List AV) : List (FuncId × List AV) → Heap → Prop
 | [], h => ∃ xs, aresults P ⟨s, []⟩ h rs xs ∧ R (aresult xs) h
 | (f, args) :: ds, h => callable P f = true ∧ ACallsD P f args h fun _ h' => RunDs P rs R s ds h'
def BodyPostD (P : Program) (rs : List ResultVar) (R : AV → Heap → Prop) : APostT := fun e α h => (e = .normal ∨ e = .ret) ∧ RunDs P rs R α.s α.ds h
theorem runDs_sound {fn : Func} {tmps : Array Value} {s : List AV} {R : AV → Heap → Prop} {w0 : Base} {F0 : Fin} : ∀ (as : List (FuncId × List AV)) (ds : List Deferred) (F : Fin) (w : World) (h : Heap), Mono F0 F → Inv w0 F w h → RepL F tmps s → RepDs F ds as →
  RunDs P fn.results.toList R s as h → Leaves P fn tmps (fun e w' => ∃ v F' x h', e = .returned v ∧ Mono F0 F' ∧ Inv w0 F' w' h' ∧ Rep F' v x ∧ R x h') ds .returning w
 | [], ds, F, w, h, hm, hi, hs, hd, ⟨xs, e1, e2⟩ => by
  cases hd
  obtain ⟨v, k1, k2⟩ := results_sound (a := ⟨tmps, []⟩) hi ⟨hs, .nil⟩ e1
  exact ⟨v, k1, v, F, _, h, rfl, hm, hi, k2, e2⟩
 | (f, args) :: as, ds, F, w, h, hm, hi, hs, hd, ⟨hc, e⟩ => by
  cases hd with
  | cons _ cargs _ ds' _ hargs hrest =>
   refine leaves_cons (f := f) (args := cargs) (by simp) (by simpa [invoke] using run_callFunc hc cargs w) ?_
   refine (e w0 F w cargs hi hargs).mono ?_
   rintro e u' w' ⟨rfl, v, F', x, h', rfl, m1, m2, m3, m4⟩
   exact runDs_sound as ds' F' w' h' (hm.trans m1) m2 (hs.mono m1) (hrest.mono m1) m4
theorem acalls_of_awpD {f : FuncId} {fn : Func} {c : Code} {args : List AV} {h : Heap} {R : AV → Heap → Prop} {n : Nat} {rs : List ResultVar} (hf : P.funcs[f]? = some fn) (hb : fn.body = some c)
  (hn : fn.ntmps = n) (hrs : fn.results.toList = rs) (e : awp P c (BodyPostD P rs R) ⟨args ++ List.replicate (n - args.length) .any, []⟩ h) : ACalls P f args h R := by
 intro w0 F w cargs hi ha
 subst hn hrs
 refine calls_of_wp_defers hf hb (wp_mono (e w0 F _ w hi ⟨repL_entry ha _, .nil⟩) ?_)
 intro e a w ⟨F', α', h', h1, h2, h3, h4, h5⟩
 have := runDs_sound α'.ds a.defers F' w h' h1 h2 h3.s h3.ds h5
 rcases h4 with rfl | rfl
 ·exact this
 ·exact this
end
end Go.AL

namespace Go.AL
open Go Go.RowKit
theorem acalls_ofD {P : Program} {f : FuncId} {fn : Func} {c : Code} {args : List AV} {h : Heap} {R : AV → Heap → Prop} {n : Nat} {rs : List ResultVar} (hf : P.funcs[f]? = some fn) (hb : fn.body = some c)
  (hn : fn.ntmps = n) (hrs : fn.results.toList = rs) (e : ∀ Q, KeepQ Q (BodyPostD P rs R) → awp P c Q ⟨args ++ List.replicate (n - args.length) .any, []⟩ h) : ACalls P f args h R :=
 acalls_of_awpD hf hb hn hrs (e _ ⟨fun _ _ _ h => h⟩)
@[simp] theorem BodyPostD_at {P : Program} {rs : List ResultVar} {R : AV → Heap → Prop} {e : Exit} {α : AAct} {h : Heap} : BodyPostD P rs R e α h = ((e = .normal ∨ e = .ret) ∧ RunDs P rs R α.s α.ds h) := rfl
@[simp] theorem RunDs_cons {P : Program} {rs : List ResultVar} {R : AV → Heap → Prop} {s : List AV} {f : FuncId} {args : List AV} {ds : List (FuncId × List AV)} {h : Heap} : RunDs P rs R s ((f, args) :: ds) h = (callable P f = true ∧ ACallsD P f args h fun _ h' => RunDs P rs R s ds h') := rfl
@[simp] theorem RunDs_ret1 {P : Program} {t : Tmp} {R : AV → Heap → Prop} {s : List AV} {h : Heap} : RunDs P [.tmp t] R s [] h = R (s.getD t .any) h := by simp [RunDs, aresults, aresult]
@[simp] theorem RunDs_ret2 {P : Program} {t u : Tmp} {R : AV → Heap → Prop} {s : List AV} {h : Heap} : RunDs P [.tmp t, .tmp u] R s [] h = R (.tup [s.getD t .any, s.getD u .any]) h := by simp [RunDs, aresults, aresult]
end Go.AL

namespace Go.AL
open Go Go.RowKit
section
variable {P : Program} {w0 : Base} {w : World} {F : Fin} {h : Heap}
theorem buildSlice_arr_sound (hi : Inv w0 F w h) {t el : TypeId} {n sz : Nat} {ps : List (Nat × AV)} {vs : Array (Nat × Value)} (ht : elemT P t = some (.slice, el, sz)) (hz : (zeroA P el).isSome = true) (hn : n * sz ≤ 16777216)
  (hl : vs.size = ps.length) (hv : ∀ k, k < ps.length → (vs.toList.getD k (0, undef)).1 = (ps.getD k (0, .any)).1 ∧ Rep F (vs.toList.getD k (0, undef)).2 (ps.getD k (0, .any)).2)
  (hs : (fillA P t ps (List.replicate (n * sz) .any)).1) (hc : ∀ c ∈ (fillA P t ps (List.replicate (n * sz) .any)).2, c.isCell = true) (hlen : (fillA P t ps (List.replicate (n * sz) .any)).2.length = n * sz) :
  ∃ w', (Instr.buildSlice t n vs).run P w = .ok (.slice (some ⟨w.heap.size, 0, none⟩) n n) w' ∧ Inv w0 F w' (h.set w.heap.size (.cells (fillA P t ps (List.replicate (n * sz) .any)).2)) := by
 obtain ⟨i, h1, h2, h3⟩ := elemT_slice ht
 obtain ⟨z, hz⟩ := Option.isSome_iff_exists.1 hz
 obtain ⟨i', zv, q1, q2, q3, q4, q5⟩ := zeroA_spec hz F
 have : i' = i := Option.some.inj (q1.symm.trans h2)
 subst this
 subst h3
 have hplace : ∀ j x, placeT P t j = some x → (fun j => some (j * i'.size, i'.size)) j = some x := by
  intro j x hx
  unfold placeT at hx
  simp only [h1, h2] at hx
  simpa using hx
 have fin : ∀ (zz : Array Value), ((Array.range (n * i'.size)).map fun q => zz[q % zz.size]!).size = n * i'.size → ∃ arr', Instr.fill (fun j => some (j * i'.size, i'.size)) ((Array.range (n * i'.size)).map fun q => zz[q % zz.size]!) vs.toList = some arr' ∧
   RepL F arr' (fillA P t ps (List.replicate (n * i'.size) .any)).2 := by
  intro zz hzz
  refine fill_sound hplace ps vs.toList (List.replicate (n * i'.size) .any) _ (by simpa using hl) hv ⟨by simp, fun q hq => ?_⟩ hs
  simp at hq
  simp [List.getD, hq]
  exact .any _
 have done : ∀ (zz : Array Value), (∀ arr', Instr.fill (fun j => some (j * i'.size, i'.size)) ((Array.range (n * i'.size)).map fun q => zz[q % zz.size]!) vs.toList = some arr' →
    (Instr.buildSlice t n vs).run P w = .ok (.slice (some ⟨w.heap.size, 0, none⟩) n n) (w.alloc (.cells arr' el))) →
   ∃ w', (Instr.buildSlice t n vs).run P w = .ok (.slice (some ⟨w.heap.size, 0, none⟩) n n) w' ∧ Inv w0 F w' (h.set w.heap.size (.cells (fillA P t ps (List.replicate (n * i'.size) .any)).2)) := by
  intro zz hrun
  obtain ⟨arr', r1, r2⟩ := fin zz (by simp)
  have hone : ∀ j, j < (fillA P t ps (List.replicate (n * i'.size) .any)).2.length → (arr'.getD j undef).oneCell' = true := by
   intro j hj
   refine (r2.2 j hj).oneCell ?_
   rw [List.getD, List.getElem?_eq_getElem hj]
   exact hc _ (List.getElem_mem hj)
  exact ⟨_, hrun arr' r1, hi.alloc _ el _ r2.1 r2.2 hone⟩
 have hle : ¬ (n * i'.size > 2 ^ 24) := by simpa using hn
 by_cases h0 : n * i'.size = 0
 ·refine done #[] fun arr' r1 => ?_
  unfold Instr.buildSlice
  have r2 : Instr.fill (fun j => some (j * i'.size, i'.size)) #[] vs.toList = some arr' := by simpa [h0, Array.range_zero'] using r1
  simp only [Sem.run_bind, run_underlying h1, Result.andThen_ok, run_sizeOf_info h2, hle, if_false, h0, if_true, Sem.run_pure]
  simp [newRow, Array.range_zero', r2]
 ·refine done zv.cells fun arr' r1 => ?_
  unfold Instr.buildSlice
  simp only [Sem.run_bind, run_underlying h1, Result.andThen_ok, run_sizeOf_info h2, hle, if_false, h0, run_zeroValue q1 q2, Sem.run_pure, r1]
  simp [newRow]
end
def litA (P : Program) (t : TypeId) (n : Nat) (parts : TypeId → List (Nat × AV)) (K : AV → Heap → Prop) (h : Heap) : Prop :=
 match elemT P t with
 | some (.slice, el, sz) => (zeroA P el).isSome = true ∧ n * sz ≤ 16777216 ∧ (fillA P t (parts el) (List.replicate (n * sz) .any)).1 ∧ (∀ c ∈ (fillA P t (parts el) (List.replicate (n * sz) .any)).2, c.isCell = true) ∧
   (fillA P t (parts el) (List.replicate (n * sz) .any)).2.length = n * sz ∧ ∀ b, Fresh h b → K (.arr b 0 n n) (h.set b (.cells (fillA P t (parts el) (List.replicate (n * sz) .any)).2))
 | _ => False
attribute [simp] litA
theorem awp_region_lit {P : Program} {ops : Array Oper} {Q : APostT} {α : AAct} {h : Heap} {id : Nat} {o : Oper} {rest : List Oper} {t : TypeId} {n : Nat} {parts : Array (Nat × Operand)}
  (hops : ops.toList = o :: rest) (ho : o.op = .buildSlice t n parts) (hg : o.guard = none)
  (e : litA P t n (fun el => litParts P α el parts.toList) (Cont (rvc P ops (Q .normal) rest) o.dst α) h) : awp P (.region id ops false) Q α h := by
 intro w0 F a w hi hr
 refine wp_mono (P := P) (wp_region_list (Q := RPost w0 F (Q .normal)) ?_) ?_
 ·rw [hops]
  unfold wpList
  have hw : Region.wanted o (yielded ops a.tmps) = true := by simp [Region.wanted, hg]
  rw [if_pos hw]
  left
  unfold litA at e
  split at e
  ·rename_i el sz hel
   obtain ⟨e1, e2, e3, e4, e5, e6⟩ := e
   obtain ⟨w', r1, r2⟩ := buildSlice_arr_sound (n := n) (vs := parts.map fun p => (p.1, a.eval p.2)) hi hel e1 e2 (by simp [litParts]) (fun k hk => by
    simp [litParts] at hk
    simp only [litParts, Array.toList_map, List.getD, List.getElem?_map]
    have hk' : k < parts.toList.length := by simpa using hk
    rw [List.getElem?_eq_getElem hk']
    exact ⟨rfl, hr.ev P el _⟩) e3 e4 e5
   have hrun : (execOp a.eval o).run P w = .ok (.value (.slice (some ⟨w.heap.size, 0, none⟩) n n)) w' := by
    unfold execOp
    rw [ho]
    simp [r1]
   unfold Oper.wp
   rw [hrun]
   exact rvc_sound rest _ _ (e6 w.heap.size hi.fresh.1) w0 F _ w' F (.refl F) r2 (hr.put o.dst (.arr _ _ _ _))
  ·exact e.elim
 ·rintro e a w ⟨rfl, F', α', h', h1, h2, h3, h4⟩
  exact ⟨F', α', h', h1, h2, h3, h4⟩
theorem awp_view {P : Program} {c : Code} {Q : APostT} {α : AAct} {h g : Heap} (i : Nat) {x y : AV} (hx : α.s[i]? = some x) (hv : View x h y g) (k : awp P c Q ⟨α.s.set i y, α.ds⟩ g) : awp P c Q α h := by
 intro w0 F a w hi hr
 have h1 := hr.s.get i
 have hx' : α.s.getD i .any = x := by simp [List.getD, hx]
 rw [hx'] at h1
 obtain ⟨F', m, i1, r1⟩ := hv w0 F w _ hi h1
 refine wp_mono (k w0 F' a w i1 ⟨?_, (hr.mono m).ds⟩) (APost.mono m)
 have h2 := (hr.mono m).s
 refine ⟨by rw [List.length_set]; exact h2.1, fun j hj => ?_⟩
 rw [List.length_set] at hj
 by_cases e : j = i
 ·subst e
  have : (α.s.set j y).getD j .any = y := by simp [List.getD, hj]
  rw [this]
  exact r1
 ·have : (α.s.set i y).getD j .any = α.s.getD j .any := by simp [List.getD, List.getElem?_set_ne (Ne.symm e)]
  rw [this]
  exact h2.2 j hj
end Go.AL

