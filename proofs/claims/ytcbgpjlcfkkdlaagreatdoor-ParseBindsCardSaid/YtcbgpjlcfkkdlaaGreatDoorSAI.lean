import Derived.Test.YtcbgpjlcfkkdlaaGreatDoorSAE
import Derived.Defers
set_option linter.unusedSimpArgs false
set_option linter.unusedVariables false
namespace Go.AL
open Go Go.RowKit
section
variable {P : Program}
def ACallsD (P : Program) (f : FuncId) (args : List AV) (h : Heap) (R : AV → Heap → Prop) : Prop :=
 ∀ (w0 : Base) (F : Fin) (w : World) (cargs : Array Value), Inv w0 F w h → RepL F cargs args →
  CallsD P f cargs .returning w fun e u' w' => u' = .returning ∧ ∃ v F' x h', e = .returned v ∧ Mono F F' ∧ Inv w0 F' w' h' ∧ Rep F' v x ∧ R x h'
theorem acallsD_of_awp {f : FuncId} {fn : Func} {c : Code} {args : List AV} {h : Heap} {R : AV → Heap → Prop} {n : Nat} {rs : List ResultVar} (hf : P.funcs[f]? = some fn) (hb : fn.body = some c)
  (hn : fn.ntmps = n) (hrs : fn.results.toList = rs) (e : awp P c (BodyPost P rs R) ⟨args ++ List.replicate (n - args.length) .any, []⟩ h) : ACallsD P f args h R := by
 intro w0 F w cargs hi ha
 subst hn hrs
 refine (callsD_of_wp (R := fun e w' => ∃ v F' x h', e = .returned v ∧ Mono F F' ∧ Inv w0 F' w' h' ∧ Rep F' v x ∧ R x h') hf hb (wp_mono (e w0 F _ w hi ⟨repL_entry ha _, .nil⟩) ?_)).mono (fun e u' w' hq => hq)
 intro e a w ⟨F', α', h', h1, h2, h3, h4, h5, xs, h6, h7⟩
 obtain ⟨v, k1, k2⟩ := results_sound h2 h3 h6
 have hd : a.defers = [] := by
  have h8 := h3.ds
  rw [h5] at h8
  revert h8
  generalize a.defers = q
  intro h8
  cases h8
  rfl
 rcases h4 with rfl | rfl
 ·exact ⟨hd, v, k1, v, F', _, h', rfl, h1, h2, k2, h7⟩
 ·exact ⟨hd, v, k1, v, F', _, h', rfl, h1, h2, k2, h7⟩
def RunDs (P : Program) (rs : List ResultVar) (R : AV → Heap → Prop) (s : List AV) : List (FuncId × List AV) → Heap → Prop
 | [], h => ∃ xs, aresults P ⟨s, []⟩ h rs xs ∧ R (aresult xs) h
 | (f, args) :: ds, h => callable P f = true ∧ ACallsD P f args h fun _ h' => RunDs P rs R s ds h'
def BodyPostD (P : Program) (rs : List ResultVar) (R : AV → Heap → Prop) : APostT := fun e α h => (e = .normal ∨ e = .ret) ∧ RunDs P rs R α.s α.ds h
theorem runDs_sound {fn : Func} {tmps : Array Value} {s : List AV} {R : AV → Heap → Prop} {w0 : Base} {F0 : Fin} : ∀ (as : List (FuncId × List AV)) (ds : List Deferred) (F : Fin) (w : World) (h : Heap), Mono F0 F → Inv w0 F w h → RepL F tmps s → RepDs F ds as →
  RunDs P fn.results.toList R s as h → Leaves P fn tmps (fun e w' => ∃ v F' x h', e = .returned v ∧ Mono F0 F' ∧ Inv w0 F' w' h' ∧ Rep F' v x ∧ R x h') ds .returning w
 | [], ds, F, w, h, hm, hi, hs, hd, ⟨xs, e1, e2⟩ => by
  cases hd
  obtain ⟨v, k1, k2⟩ := results_sound (a := ⟨tmps, []⟩) hi ⟨hs, .nil⟩ e1
  exact ⟨v, k1, v, F, _, h, rfl, hm, hi, k2, e2⟩
 | (f, args) :: as, ds, F, w, h, hm, hi, hs, hd, ⟨hc, e⟩ => by
  cases hd with
  | cons _ cargs _ ds' _ hargs hrest =>
   refine leaves_cons (f := f) (args := cargs) (by simp) (by simpa [invoke] using run_callFunc hc cargs w) ?_
   refine (e w0 F w cargs hi hargs).mono ?_
   rintro e u' w' ⟨rfl, v, F', x, h', rfl, m1, m2, m3, m4⟩
   exact runDs_sound as ds' F' w' h' (hm.trans m1) m2 (hs.mono m1) (hrest.mono m1) m4
theorem acalls_of_awpD {f : FuncId} {fn : Func} {c : Code} {args : List AV} {h : Heap} {R : AV → Heap → Prop} {n : Nat} {rs : List ResultVar} (hf : P.funcs[f]? = some fn) (hb : fn.body = some c)
  (hn : fn.ntmps = n) (hrs : fn.results.toList = rs) (e : awp P c (BodyPostD P rs R) ⟨args ++ List.replicate (n - args.length) .any, []⟩ h) : ACalls P f args h R := by
 intro w0 F w cargs hi ha
 subst hn hrs
 refine calls_of_wp_defers hf hb (wp_mono (e w0 F _ w hi ⟨repL_entry ha _, .nil⟩) ?_)
 intro e a w ⟨F', α', h', h1, h2, h3, h4, h5⟩
 have := runDs_sound α'.ds a.defers F' w h' h1 h2 h3.s h3.ds h5
 rcases h4 with rfl | rfl
 ·exact this
 ·exact this
end
end Go.AL

