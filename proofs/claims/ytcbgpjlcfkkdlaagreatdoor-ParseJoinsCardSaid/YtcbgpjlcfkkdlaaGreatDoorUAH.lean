import Derived.Test.YtcbgpjlcfkkdlaaGreatDoorUAG
import Derived.Lib.SplitLaws
import Derived.Deep.Draws
import Derived.Test.YtcbgpjlcfkkdlaaGreatDoorUAE
set_option linter.unusedSimpArgs false
set_option linter.unusedVariables false
namespace Go.AL
open Go Go.RowKit
theorem repL_str2 {F : Fin} {cargs : Array Value} {s t : List UInt8} (h : RepL F cargs [.str s, .str t]) : ∃ a b : ByteArray, cargs = #[.string a, .string b] ∧ a.data.toList = s ∧ b.data.toList = t := by
 obtain ⟨hl, hr⟩ := h
 obtain ⟨l⟩ := cargs
 match l, hl with
 | [x, y], _ =>
  have h0 := hr 0 (by simp)
  have h1 := hr 1 (by simp)
  simp [Array.getD] at h0 h1
  obtain ⟨a, rfl, ha⟩ := h0.str_inv
  obtain ⟨b, rfl, hb⟩ := h1.str_inv
  exact ⟨a, b, rfl, ha, hb⟩
theorem Inv.gint {w0 : Base} {F : Fin} {w : World} {h : Heap} {g : Nat} (hi : Inv w0 F w h) (hg : h g = some .gint) : ∃ m, w.cell? ⟨g, 0, none⟩ = some (.int .i64 m) := by
 obtain ⟨_, m, hF⟩ := (hi.blk g _ hg).2
 exact ⟨m, (hi.fin _ _ _ hF).1⟩
theorem Inv.drewN {w0 : Base} {F : Fin} {w : World} {h : Heap} (hi : Inv w0 F w h) : ∀ n, Inv w0 F (w.drewN n) h
 | n => ⟨⟨hi.below.os, hi.below.tape, hi.below.output, hi.below.size, hi.below.lt, hi.below.block⟩, hi.fin, hi.fin0, hi.blk⟩
theorem chunk_one {A : Type} (f : A → AV) : ∀ l : List A, chunk l.length 1 (l.map f) = l.map fun a => [f a]
 | [] => rfl
 | a :: l => by simp [chunk, chunk_one f l]
theorem acalls_split {P : Program} {f : FuncId} {g : Nat} {el : TypeId}
  (hc : ∀ (s sep : ByteArray) (m : Int) (w : World), s.size < 4294967281 → w.cell? ⟨g, 0, none⟩ = some (.int .i64 m) → 1 ≤ sep.size →
   Calls P f #[.string s, .string sep] w fun e w' => e = .returned (.slice (some ⟨w.heap.size, 0, none⟩) (Lib.countB s sep + 1) (Lib.countB s sep + 1)) ∧
    w' = w.alloc (.cells ((Lib.splitB sep 0 (Lib.countB s sep) s).map Value.string).toArray el))
  (s sep : List UInt8) (hs : s.length < 4294967281) (h1 : 1 ≤ sep.length) (h : Heap) (hg : h g = some .gint) (R : AV → Heap → Prop) (hR : R (.list 1 ((Lib.split s sep).map fun p => [.str p]) .full) h) :
  ACalls P f [.str s, .str sep] h R := by
 intro w0 F w cargs hi ha
 obtain ⟨a, b, rfl, rfl, rfl⟩ := repL_str2 ha
 obtain ⟨m, hm⟩ := hi.gint hg
 refine (hc a b m w (by simpa using hs) hm (by simpa using h1)).mono ?_
 rintro e w' ⟨rfl, rfl⟩
 have hsp : (Lib.splitB b 0 (Lib.countB a b) a).map (·.data.toList) = Lib.split a.data.toList b.data.toList := Lib.splitB_data b 0 _ a
 have hlen : (Lib.splitB b 0 (Lib.countB a b) a).length = Lib.countB a b + 1 := Lib.splitB_all b (by simpa using h1) 0 _ a rfl
 obtain ⟨F', m1, m2, m3⟩ := hi.lay (n := Lib.countB a b + 1) (sz := 1) (el := el) (arr := ((Lib.splitB b 0 (Lib.countB a b) a).map Value.string).toArray) (cs := (Lib.split a.data.toList b.data.toList).map AV.str)
  ⟨by simp [← hsp], fun i hi' => by
   simp [← hsp] at hi'
   simp [← hsp, List.getD, hi', Array.getD]
   exact .str _ _ rfl⟩ (by simp [← hsp, hlen]) (fun j hj => by
   simp [← hsp] at hj
   simp [Array.getD, hj, Value.oneCell'])
 refine ⟨_, F', _, h, rfl, m1, m2, m3, ?_⟩
 have := chunk_one AV.str (Lib.split a.data.toList b.data.toList)
 rw [← hsp, List.length_map, hlen] at this
 rw [← hsp, this, hsp]
 exact hR
theorem acalls_str2 {P : Program} {f : FuncId} {s t : List UInt8} {x : AV} {h : Heap} {g : Nat} (hg : h g = some .gint)
  (hc : ∀ (a b : ByteArray) (m : Int) (w : World), a.data.toList = s → b.data.toList = t → w.cell? ⟨g, 0, none⟩ = some (.int .i64 m) →
   Calls P f #[.string a, .string b] w fun e w' => (∃ v, e = .returned v ∧ ∀ F, Rep F v x) ∧ ∃ n, w' = w.drewN n) {R : AV → Heap → Prop} (hR : R x h) : ACalls P f [.str s, .str t] h R := by
 intro w0 F w cargs hi ha
 obtain ⟨a, b, rfl, ea, eb⟩ := repL_str2 ha
 obtain ⟨m, hm⟩ := hi.gint hg
 refine (hc a b m w ea eb hm).mono ?_
 rintro e w' ⟨⟨v, rfl, hv⟩, n, rfl⟩
 exact ⟨v, F, x, h, rfl, .refl F, hi.drewN n, hv F, hR⟩
end Go.AL

namespace Go.AL
open Go Go.RowKit
theorem awp_heap {P : Program} {c : Code} {Q : APostT} {α : AAct} {h : Heap} (S : Heap → Prop) (hS : S h) (k : ∀ g, S g → awp P c Q α g) : awp P c Q α h := k h hS
end Go.AL

namespace Go.AL
open Go Go.RowKit
def fr (x : Nat → AV) : Nat → Nat → List AV
 | 0, _ => []
 | n + 1, i => x i :: fr x n (i + 1)
end Go.AL

namespace Go.AL
open Go Go.RowKit
theorem awp_eqs {P : Program} {c : Code} {Q : APostT} {s s' : List AV} {ds : List (FuncId × List AV)} {h : Heap} (e : s = s') (k : awp P c Q ⟨s', ds⟩ h) : awp P c Q ⟨s, ds⟩ h := by subst e; exact k
structure Shut (p : Prop) : Type where
 out : p
end Go.AL

namespace Go.AL
open Go Go.RowKit
section
variable {P : Program} {ops : Array Oper} {K : AAct → Heap → Prop}
def wpAnyT (P : Program) (ops : Array Oper) (Q : Exit → Act → World → Prop) (T : Nat → World → Prop) : Nat → Array Bool → Act → World → Prop
 | 0, listed, a, w => Region.ready .any ops listed = [] ∧ Q .normal a w
 | n + 1, listed, a, w => (Region.ready .any ops listed = [] → Q .normal a w) ∧
   ∀ i ∈ Region.ready .any ops listed, wpOp P ops Q i (fun a' w' => T i w' ∧ wpAnyT P ops Q T n (listed.setIfInBounds i true) a' w') a w
theorem wpAny_of_T {Q : Exit → Act → World → Prop} {T : Nat → World → Prop} : ∀ (n : Nat) (listed : Array Bool) (a : Act) (w : World), wpAnyT P ops Q T n listed a w → wpAny P .any ops Q n listed a w
 | 0, _, _, _, h => h
 | n + 1, _, _, _, h => ⟨h.1, fun i hi => wpOp_mono (fun a' w' h' => wpAny_of_T n _ a' w' h'.2) (h.2 i hi)⟩
theorem wpAnyT_weaken {Q : Exit → Act → World → Prop} {T T' : Nat → World → Prop} (hS : ∀ z w, T z w → T' z w) : ∀ (n : Nat) (listed : Array Bool) (a : Act) (w : World),
  wpAnyT P ops Q T n listed a w → wpAnyT P ops Q T' n listed a w
 | 0, _, _, _, h => h
 | n + 1, _, _, _, h => ⟨h.1, fun i hi => wpOp_mono (fun a' w' h' => ⟨hS _ _ h'.1, wpAnyT_weaken hS n _ a' w' h'.2⟩) (h.2 i hi)⟩
theorem wpAnyT_first {Q : Exit → Act → World → Prop} {T : Nat → World → Prop} {S : World → Prop} {i : Nat} {oi : Oper} {v : Value} (hi : ops[i]? = some oi) (hsel : Region.noSelect ops = true)
  (hQ : ∀ c a w, Q (.panic c) (a.put oi.dst v) w → Q (.panic c) a w) (hT : ∀ w', S w' → T i w') :
  ∀ (n : Nat) (listed : Array Bool) (a : Act) (w : World),
   (∀ j oj, ops[j]? = some oj → j ≠ i → listed.getD j true = false → (∀ e ∈ oj.after, Region.binds .any e = true → e.on ≠ i) → oi.apart ops oj = true) →
   (∀ z w', listed.getD z true = false → z ≠ i → T z w' → edgeOn ops z i = true ∨ S w') →
   i ∈ Region.ready .any ops listed → YieldsIf P ops S oi v a → S w →
   wpAnyT P ops Q T n (listed.setIfInBounds i true) (a.put oi.dst v) w → wpAnyT P ops Q T (n + 1) listed a w := by
 have hns := fun (cs : Array SelectCase) (b : Bool) => Region.noSelect_spec hsel i oi cs b hi
 intro n
 induction n with
 | zero =>
  intro listed a w _ _ hr hy hS H
  refine ⟨fun h0 => absurd (h0 ▸ hr : i ∈ []) (by simp), fun j hj => ?_⟩
  by_cases hji : j = i
  ·subst hji; exact hy.wpOp hi hS ⟨hT w hS, H⟩
  ·exact absurd (H.1 ▸ ready_mono hj hji : j ∈ []) (by simp)
 | succ n ih =>
  intro listed a w hap hZ hr hy hS H
  refine ⟨fun h0 => absurd (h0 ▸ hr : i ∈ []) (by simp), fun j hj => ?_⟩
  by_cases hji : j = i
  ·subst hji; exact hy.wpOp hi hS ⟨hT w hS, H⟩
  ·obtain ⟨hun, oj, hoj, hall⟩ := mem_ready.1 hj
   have hnw : ∀ e ∈ oj.after, Region.binds .any e = true → e.on ≠ i := by
    intro e he hb heq
    have h1 := hall e he hb
    have h0 := (mem_ready.1 hr).1
    rw [heq] at h1
    rcases Nat.lt_or_ge i listed.size with hlt | hge
    ·simp [hlt] at h0 h1; rw [h0] at h1; cases h1
    ·simp [Array.getElem?_eq_none hge] at h1
   have hjS : ∀ w', T j w' → S w' := fun w' ht => (hZ j w' hun hji ht).resolve_left fun he => by
    obtain ⟨o', ho', e, he, hb, hon⟩ := edgeOn_spec he
    rw [hoj] at ho'
    injection ho' with ho'
    subst ho'
    exact hnw e he hb hon
   have h2 := wpOp_putIf hoj (hap j oj hoj hji hun hnw) hns (fun cs b => Region.noSelect_spec hsel j oj cs b hoj) hQ hy (H.2 j (ready_mono hj hji))
   refine wpOp_mono (fun a' w' h3 => ?_) h2
   have hSw : S w' := hjS w' h3.2.1
   refine ⟨h3.2.1, ih (listed.setIfInBounds j true) a' w' ?_ ?_ (ready_mono hr (Ne.symm hji)) h3.1 hSw ?_⟩
   ·intro k ok hk hki hunk hnk
    refine hap k ok hk hki ?_ hnk
    by_cases hjk : j = k
    ·subst hjk; exact hun
    ·rw [getD_set_ne true hjk] at hunk; exact hunk
   ·intro z w2 hz hzi ht
    refine hZ z w2 ?_ hzi ht
    by_cases hjk : j = z
    ·subst hjk; exact hun
    ·rw [getD_set_ne true hjk] at hz; exact hz
   ·rw [Array.setIfInBounds_comm _ _ hji]
    exact h3.2.2
def TT (w1 : World) (G : List Nat) (h0 : Heap) (Z E : List Nat) (F : Fin) : Nat → World → Prop := fun z w' => (z ∈ Z ∨ z ∈ E ∨ Held w1 G h0 F w') ∧ ∀ b o u, F b o = some u → w'.cell? ⟨b, o, none⟩ = some u
theorem TT_mono {w1 : World} {G : List Nat} {h0 : Heap} {Z E : List Nat} {F F0 : Fin} (hm : Mono F0 F) (z : Nat) (w : World) (h : TT w1 G h0 Z E F z w) : TT w1 G h0 Z E F0 z w :=
 ⟨h.1.imp id (.imp id fun k => ⟨k.1, fun b o u hu => k.2 b o u (hm _ _ _ hu)⟩), fun b o u hu => h.2 b o u (hm _ _ _ hu)⟩
theorem fvcT_sound {T : Nat → World → Prop} {Z0 : List Nat} {FB : Fin} (hT : ∀ z ∈ Z0, ∀ w', (∀ b o u, FB b o = some u → w'.cell? ⟨b, o, none⟩ = some u) → T z w') : ∀ (Z : List Nat) (listed : Array Bool) (α : AAct) (h : Heap), (∀ z ∈ Z, z ∈ Z0) → fvc P ops K Z α h → finOk ops Z listed = true →
  ∀ (w0 : Base) (F Fr : Fin) (a : Act) (w : World), Mono FB F → Mono Fr F → Inv w0 F w h → RepA F a α → wpAnyT P ops (RPost w0 Fr K) T Z.length listed a w
 | [], listed, α, h, _, e, hok, w0, F, Fr, a, w, hmb, hmr, hi, hr => ⟨by simpa [finOk] using hok, rfl, F, α, h, hmr, hi, hr, e⟩
 | z :: Z, listed, α, h, hz, e, hok, w0, F, Fr, a, w, hmb, hmr, hi, hr => by
  simp only [finOk, Bool.and_eq_true] at hok
  obtain ⟨hready, hok'⟩ := hok
  have hready' : Region.ready .any ops listed = [z] := by simpa using hready
  have hz' : ∀ y ∈ Z, y ∈ Z0 := fun y hy => hz y (List.mem_cons_of_mem _ hy)
  have hzz : z ∈ Z0 := hz z (List.mem_cons_self ..)
  refine ⟨fun h0 => (by rw [hready'] at h0; cases h0), fun i' hi' => ?_⟩
  rw [hready'] at hi'
  have : i' = z := by simpa using hi'
  subst this
  rw [fvc_cons] at e
  unfold fstep at e
  cases ho : ops[i']? with
  | none => rw [ho] at e; exact e.elim
  | some o =>
   rw [ho] at e
   simp only at e
   unfold wpOp
   rw [ho]
   simp only
   unfold ostep at e
   cases hg : guardAV ops α o.guard with
   | none => rw [hg] at e; exact e.elim
   | some c =>
    rw [hg] at e
    simp only at e
    have hw := guard_sound (ops := ops) (o := o) hr hg
    cases hp : pev P α h o with
    | some q =>
     obtain ⟨T, x⟩ := q
     rw [hp] at e
     simp only at e
     cases c with
     | true =>
      rw [if_pos hw]
      obtain ⟨v, h1, h2⟩ := pev_sound hp (e.1 rfl) w0 F a w hi hr
      left
      unfold Oper.wp
      rw [h2 w hi.like]
      exact ⟨hT _ hzz _ fun b o u hu => (hi.fin b o u (hmb _ _ _ hu)).1, fvcT_sound hT Z _ _ h hz' e.2 hok' w0 F Fr _ w hmb hmr hi (hr.put o.dst (rep_under rfl h1))⟩
     | false =>
      rw [hw]
      simp only [Bool.false_eq_true, if_false]
      cases hgo : o.guard with
      | none => rw [hgo] at hg; simp [guardAV] at hg
      | some j =>
       rw [hgo] at e
       exact ⟨hT _ hzz _ fun b o u hu => (hi.fin b o u (hmb _ _ _ hu)).1, fvcT_sound hT Z _ _ h hz' e.2 hok' w0 F Fr _ w hmb hmr hi (hr.put o.dst rep_skip)⟩
    | none =>
     rw [hp] at e
     simp only at e
     cases c with
     | true =>
      rw [if_pos hw]
      left
      exact veff_sound (e.1 rfl) w0 F a w _ _ hi (hr.known hg) fun F' α' h' a' w' m1 m2 m3 m4 => ⟨hT _ hzz _ fun b o u hu => (m2.fin b o u (m1 _ _ _ (hmb _ _ _ hu))).1, fvcT_sound hT Z _ α' h' hz' m4 hok' w0 F' Fr a' w' (hmb.trans m1) (hmr.trans m1) m2 m3⟩
     | false =>
      rw [hw]
      simp only [Bool.false_eq_true, if_false]
      exact ⟨hT _ hzz _ fun b o u hu => (hi.fin b o u (hmb _ _ _ hu)).1, fvcT_sound hT Z _ _ h hz' (e.2 rfl) hok' w0 F Fr _ w hmb hmr hi (AAct.put_any_rep (hr.known hg) _)⟩
theorem svcT_sound {Z E : List Nat} (hsel : Region.noSelect ops = true) : ∀ (sched : List (Nat × Bool)) (listed : Array Bool) (G : List Nat) (α : AAct) (h h0 : Heap), svc P ops G (fvc P ops K Z) sched α h → schedOk ops Z sched listed = true →
  (∀ b, b ∈ G → h b = h0 b) → (∀ z ∈ E, listed.getD z true = true) →
  ∀ (w0 : Base) (F F0 Fr : Fin) (a : Act) (w w1 : World), Mono F0 F → Mono Fr F → Inv w0 F w h → RepA F a α → Held w1 G h0 F w →
  wpAnyT P ops (RPost w0 Fr K) (TT w1 G h0 Z E F0) (sched.length + Z.length) listed a w
 | [], listed, G, α, h, h0, e, hok, hG, hE, w0, F, F0, Fr, a, w, w1, hm, hmr, hi, hr, hheld => by
  rw [svc_nil] at e
  simp only [schedOk] at hok
  rw [List.length_nil, Nat.zero_add]
  exact fvcT_sound (Z0 := Z) (FB := F0) (fun z hz w' hf => ⟨.inl hz, hf⟩) Z listed α h (fun _ hz => hz) e hok w0 F Fr a w hm hmr hi hr
 | (i, early) :: is, listed, G, α, h, h0, e, hok, hG, hE, w0, F, F0, Fr, a, w, w1, hm, hmr, hi, hr, hheld => by
  have hlen : ((i, early) :: is).length + Z.length = (is.length + Z.length) + 1 := by simp; omega
  rw [hlen]
  have hheldF : ∀ w', Held w1 G h0 F w' → Held w1 G h0 F0 w' := fun w' hw' => ⟨hw'.1, fun b o u hu => hw'.2 b o u (hm _ _ _ hu)⟩
  have hheldh : Held w1 G h F w := ⟨fun b hb y hy => hheld.1 b hb y (by rw [← hG b hb]; exact hy), hheld.2⟩
  have hheldh' : ∀ w', Held w1 G h0 F w' → Held w1 G h F w' := fun w' hw' => ⟨fun b hb y hy => hw'.1 b hb y (by rw [← hG b hb]; exact hy), hw'.2⟩
  have hE' : ∀ z ∈ E, (listed.setIfInBounds i true).getD z true = true := fun z hz => by
   by_cases hzi : i = z
   ·subst hzi
    by_cases hlt : i < listed.size
    ·simp [Array.getD, hlt]
    ·simp [Array.getD, hlt]
   ·rw [getD_set_ne true hzi]; exact hE z hz
  rw [svc_cons] at e
  unfold sstep at e
  cases ho : ops[i]? with
  | none => rw [ho] at e; exact e.elim
  | some o =>
   rw [ho] at e
   simp only at e
   cases hg : guardAV ops α o.guard with
   | none => rw [hg] at e; exact e.elim
   | some c =>
    rw [hg] at e
    simp only at e
    have hw := guard_sound (ops := ops) (o := o) hr hg
    cases early with
    | true =>
     simp only [schedOk, Bool.and_eq_true] at hok
     obtain ⟨⟨⟨hready, hfree⟩, hZ⟩, hok'⟩ := hok
     have hZ' : ∀ z ∈ Z, edgeOn ops z i = true := fun z hz => List.all_eq_true.1 hZ z hz
     have hready' : i ∈ Region.ready .any ops listed := by simpa using hready
     simp only at e
     cases hp : pev P α (h.only G) o with
     | none => rw [hp] at e; exact e.elim
     | some q =>
      obtain ⟨S, x⟩ := q
      rw [hp] at e
      simp only at e
      refine wpAnyT_weaken (TT_mono hm) _ _ _ _ ?_
      cases c with
      | true =>
       obtain ⟨v, h1, h2⟩ := pev_held hp (e.1 rfl) hi hr hheldh
       refine wpAnyT_first ho hsel (fun _ _ _ hq => RPost_panic hq) (fun _ h => ⟨.inr (.inr h), h.2⟩) _ _ _ _ (Region.free_spec ho hfree) (fun z w' hz _ ht => by
        rcases ht.1 with h1 | h1 | h1
        ·exact .inl (hZ' z h1)
        ·rw [hE z h1] at hz; cases hz
        ·exact .inr h1) hready' (.inl ⟨hw, fun w' hw' => h2 w' (hheldh' w' hw')⟩) hheld ?_
       exact svcT_sound hsel is _ G _ h h0 e.2 hok' hG hE' w0 F F Fr _ w w1 (.refl F) hmr hi (hr.put o.dst (rep_under rfl h1)) hheld
      | false =>
       refine wpAnyT_first ho hsel (fun _ _ _ hq => RPost_panic hq) (fun _ h => ⟨.inr (.inr h), h.2⟩) _ _ _ _ (Region.free_spec ho hfree) (fun z w' hz _ ht => by
        rcases ht.1 with h1 | h1 | h1
        ·exact .inl (hZ' z h1)
        ·rw [hE z h1] at hz; cases hz
        ·exact .inr h1) hready' (.inr ⟨hw, rfl⟩) hheld ?_
       cases hgo : o.guard with
       | none => rw [hgo] at hg; simp [guardAV] at hg
       | some j =>
        rw [hgo] at e
        exact svcT_sound hsel is _ G _ h h0 e.2 hok' hG hE' w0 F F Fr _ w w1 (.refl F) hmr hi (hr.put o.dst rep_skip) hheld
    | false =>
     simp only [schedOk, Bool.and_eq_true] at hok
     obtain ⟨hready, hok'⟩ := hok
     have hready' : Region.ready .any ops listed = [i] := by simpa using hready
     refine ⟨fun h0 => (by rw [hready'] at h0; cases h0), fun i' hi' => ?_⟩
     rw [hready'] at hi'
     have : i' = i := by simpa using hi'
     subst this
     unfold wpOp
     rw [ho]
     simp only at e ⊢
     cases hp : pev P α h o with
     | some q =>
      obtain ⟨S, x⟩ := q
      rw [hp] at e
      simp only at e
      cases c with
      | true =>
       rw [if_pos hw]
       obtain ⟨v, h1, h2⟩ := pev_sound hp (e.1 rfl) w0 F a w hi hr
       left
       unfold Oper.wp
       rw [h2 w hi.like]
       exact ⟨⟨.inr (.inr (hheldF w hheld)), (hheldF w hheld).2⟩, svcT_sound hsel is _ G _ h h0 e.2 hok' hG hE' w0 F F0 Fr _ w w1 hm hmr hi (hr.put o.dst (rep_under rfl h1)) hheld⟩
      | false =>
       rw [hw]
       simp only [Bool.false_eq_true, if_false]
       cases hgo : o.guard with
       | none => rw [hgo] at hg; simp [guardAV] at hg
       | some j =>
        rw [hgo] at e
        exact ⟨⟨.inr (.inr (hheldF w hheld)), (hheldF w hheld).2⟩, svcT_sound hsel is _ G _ h h0 e.2 hok' hG hE' w0 F F0 Fr _ w w1 hm hmr hi (hr.put o.dst rep_skip) hheld⟩
     | none =>
      rw [hp] at e
      simp only at e
      cases c with
      | true =>
       rw [if_pos hw]
       left
       refine veff_frame (e.1 rfl) (.refl F) hi (hr.known hg) hheldh ?_
       intro F' α' h' a' w' m1 m2 m3 m4 m6 m5
       have hG' : ∀ b, b ∈ G → (h'.plus G h) b = h0 b := fun b hb => (Heap.plus_mem hb).trans (hG b hb)
       have hheld' : Held w1 G h0 F' w' := ⟨fun b hb y hy => m4.1 b hb y (by rw [hG b hb]; exact hy), fun b o u hu => (m2.fin b o u hu).1⟩
       have hh : Held w1 G h0 F0 w' := ⟨hheld'.1, fun b o u hu => hheld'.2 b o u (m1 _ _ _ (hm _ _ _ hu))⟩
       refine ⟨⟨.inr (.inr hh), hh.2⟩, ?_⟩
       exact svcT_sound hsel is _ G _ _ h0 (m5 m6) hok' hG' hE' w0 F' F0 Fr a' w' w1 (hm.trans m1) (hmr.trans m1) m2 m3 hheld'
      | false =>
       rw [hw]
       simp only [Bool.false_eq_true, if_false]
       exact ⟨⟨.inr (.inr (hheldF w hheld)), (hheldF w hheld).2⟩, svcT_sound hsel is _ G _ h h0 (e.2 rfl) hok' hG hE' w0 F F0 Fr _ w w1 hm hmr hi (AAct.put_any_rep (hr.known hg) _) hheld⟩
def earlyOk (ops : Array Oper) : List Nat → Array Bool → Bool
 | [], _ => true
 | i :: is, listed => (Region.ready .any ops listed).contains i && Region.free .any ops listed i && earlyOk ops is (listed.setIfInBounds i true)
def listAll : List Nat → Array Bool → Array Bool
 | [], listed => listed
 | i :: is, listed => listAll is (listed.setIfInBounds i true)
def estep (P : Program) (ops : Array Oper) (i : Nat) (K : AAct → Heap → Prop) (α : AAct) (h : Heap) : Prop :=
 match ops[i]? with
 | none => False
 | some o => match guardAV ops α o.guard with
  | none => False
  | some c => match pev P α (h.only []) o with
   | some q => (c = true → q.1) ∧ K (α.put o.dst (q.2.under o.guard c)) h
   | none => False
def evc (P : Program) (ops : Array Oper) (K : AAct → Heap → Prop) (l : List Nat) : AAct → Heap → Prop := l.foldr (estep P ops) K
theorem evc_nil {P : Program} {ops : Array Oper} {K : AAct → Heap → Prop} {α : AAct} {h : Heap} : evc P ops K [] α h = K α h := rfl
theorem evc_cons {P : Program} {ops : Array Oper} {K : AAct → Heap → Prop} {i : Nat} {l : List Nat} {α : AAct} {h : Heap} : evc P ops K (i :: l) α h = estep P ops i (evc P ops K l) α h := rfl
theorem evc_sound {Z : List Nat} (hsel : Region.noSelect ops = true) (E0 : List Nat) (sched : List (Nat × Bool)) (G : List Nat) : ∀ (E : List Nat) (listed : Array Bool) (α : AAct) (h : Heap), (∀ z ∈ E, z ∈ E0) →
  evc P ops (svc P ops G (fvc P ops K Z) sched) E α h → earlyOk ops E listed = true → schedOk ops Z sched (listAll E listed) = true → (∀ z ∈ E0, (listAll E listed).getD z true = true) →
  ∀ (w0 : Base) (F Fr : Fin) (a : Act) (w : World), Mono Fr F → Inv w0 F w h → RepA F a α →
  wpAnyT P ops (RPost w0 Fr K) (TT w G h Z E0 F) (E.length + (sched.length + Z.length)) listed a w
 | [], listed, α, h, _, e, _, hok, hall, w0, F, Fr, a, w, hmr, hi, hr => by
  rw [List.length_nil, Nat.zero_add]
  exact svcT_sound hsel sched listed G α h h e hok (fun _ _ => rfl) hall w0 F F Fr a w w (.refl F) hmr hi hr ⟨fun _ _ _ _ => rfl, fun b o u hu => (hi.fin b o u hu).1⟩
 | i :: E, listed, α, h, hE, e, hear, hok, hall, w0, F, Fr, a, w, hmr, hi, hr => by
  have hlen : (i :: E).length + (sched.length + Z.length) = (E.length + (sched.length + Z.length)) + 1 := by simp; omega
  rw [hlen]
  rw [evc_cons] at e
  unfold estep at e
  cases ho : ops[i]? with
  | none => rw [ho] at e; exact e.elim
  | some o =>
   rw [ho] at e
   simp only at e
   cases hg : guardAV ops α o.guard with
   | none => rw [hg] at e; exact e.elim
   | some c =>
    rw [hg] at e
    simp only at e
    have hw := guard_sound (ops := ops) (o := o) hr hg
    simp only [earlyOk, Bool.and_eq_true] at hear
    obtain ⟨⟨hready, hfree⟩, hear'⟩ := hear
    have hready' : i ∈ Region.ready .any ops listed := by simpa using hready
    have hiE : i ∈ E0 := hE i (by simp)
    have hE' : ∀ z ∈ E, z ∈ E0 := fun z hz => hE z (by simp [hz])
    cases hp : pev P α (h.only []) o with
    | none => rw [hp] at e; exact e.elim
    | some q =>
     obtain ⟨S, x⟩ := q
     rw [hp] at e
     simp only at e
     have hfin : ∀ b o u, F b o = some u → w.cell? ⟨b, o, none⟩ = some u := fun b o u hu => (hi.fin b o u hu).1
     cases c with
     | true =>
      obtain ⟨v, h1, h2⟩ := pev_held (w1 := w) hp (e.1 rfl) hi hr ⟨fun _ hb => absurd hb (by simp), hfin⟩
      refine wpAnyT_first (S := fun w' => ∀ b o u, F b o = some u → w'.cell? ⟨b, o, none⟩ = some u) ho hsel (fun _ _ _ hq => RPost_panic hq) (fun _ h => ⟨.inr (.inl hiE), h⟩) _ _ _ _ (Region.free_spec ho hfree) (fun z w' _ _ ht => .inr ht.2) hready'
       (.inl ⟨hw, fun w' hw' => h2 w' ⟨fun _ hb => absurd hb (by simp), hw'⟩⟩) hfin ?_
      exact evc_sound hsel E0 sched G E _ _ h hE' e.2 hear' hok hall w0 F Fr _ w hmr hi (hr.put o.dst (rep_under rfl h1))
     | false =>
      refine wpAnyT_first (S := fun w' => ∀ b o u, F b o = some u → w'.cell? ⟨b, o, none⟩ = some u) ho hsel (fun _ _ _ hq => RPost_panic hq) (fun _ h => ⟨.inr (.inl hiE), h⟩) _ _ _ _ (Region.free_spec ho hfree) (fun z w' _ _ ht => .inr ht.2) hready'
       (.inr ⟨hw, rfl⟩) hfin ?_
      cases hgo : o.guard with
      | none => rw [hgo] at hg; simp [guardAV] at hg
      | some j =>
       rw [hgo] at e
       exact evc_sound hsel E0 sched G E _ _ h hE' e.2 hear' hok hall w0 F Fr _ w hmr hi (hr.put o.dst rep_skip)
theorem awp_region_stores {Q : APostT} {α : AAct} {h : Heap} {id : Nat} (G : List Nat) (E : List Nat) (sched : List (Nat × Bool)) (Z : List Nat) (hm : P.follows .mixedOrders = true) (hsel : Region.noSelect ops = true)
  (hl : E.length + (sched.length + Z.length) = ops.size) (hok : (earlyOk ops E (Array.replicate ops.size false) && schedOk ops Z sched (listAll E (Array.replicate ops.size false)) && E.all fun z => (listAll E (Array.replicate ops.size false)).getD z true) = true)
  (e : evc P ops (svc P ops G (fvc P ops (Q .normal) Z) sched) E α h) : awp P (.region id ops true) Q α h := by
 intro w0 F a w hi hr
 simp only [Bool.and_eq_true] at hok
 obtain ⟨⟨h1, h2⟩, h3⟩ := hok
 have key := evc_sound hsel E sched G E (Array.replicate ops.size false) α h (fun _ hz => hz) e h1 h2 (fun z hz => List.all_eq_true.1 h3 z hz) w0 F F a w.drew (.refl F) hi.drew hr
 rw [hl] at key
 refine wp_mono (wp_region_any hm (wpAny_of_T _ _ _ _ key)) ?_
 intro e a w ⟨he, F', α', h', h1, h2, h3, h4⟩
 subst he
 exact ⟨F', α', h', h1, h2, h3, h4⟩
end
end Go.AL

