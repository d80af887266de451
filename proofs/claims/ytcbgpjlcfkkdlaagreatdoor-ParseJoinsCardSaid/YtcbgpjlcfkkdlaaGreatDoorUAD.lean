import Derived.Test.YtcbgpjlcfkkdlaaGreatDoorUAC
import Derived.Still
set_option linter.unusedSimpArgs false
set_option linter.unusedVariables false
namespace Go.AL
open Go Go.RowKit
def ostep (P : Program) (ops : Array Oper) (o : Oper) (K : AAct → Heap → Prop) (α : AAct) (h : Heap) : Prop :=
 match guardAV ops α o.guard with
 | none => False
 | some c => match pev P α h o with
  | some q => (c = true → q.1) ∧ K (α.put o.dst (q.2.under o.guard c)) h
  | none => (c = true → veff P o (α.known ops o.guard true) h K) ∧ (c = false → K ((α.known ops o.guard false).put o.dst (.whn false .any)) h)
def rvc (P : Program) (ops : Array Oper) (K : AAct → Heap → Prop) (l : List Oper) : AAct → Heap → Prop := l.foldr (ostep P ops) K
theorem rvc_nil {P : Program} {ops : Array Oper} {K : AAct → Heap → Prop} {α : AAct} {h : Heap} : rvc P ops K [] α h = K α h := rfl
theorem rvc_cons {P : Program} {ops : Array Oper} {K : AAct → Heap → Prop} {o : Oper} {l : List Oper} {α : AAct} {h : Heap} : rvc P ops K (o :: l) α h = ostep P ops o (rvc P ops K l) α h := rfl
def RPost (w0 : Base) (F : Fin) (K : AAct → Heap → Prop) : Exit → Act → World → Prop :=
 fun e a w => e = .normal ∧ ∃ F' α h, Mono F F' ∧ Inv w0 F' w h ∧ RepA F' a α ∧ K α h
theorem AOp.frame {P : Program} {o : Oper} {α : AAct} {h : Heap} {K : AAct → Heap → Prop} (e : AOp P o α h K) : AOp P o α h K := e
section
variable {P : Program} {ops : Array Oper} {K : AAct → Heap → Prop}
theorem AAct.put_any_rep {F : Fin} {a : Act} {α : AAct} (hr : RepA F a α) (d : Option Tmp) : RepA F (a.put d undef) (α.put d (.whn false .any)) := hr.put d (.whn _ _ _ (fun e => by cases e) fun _ => rfl)
theorem rvc_sound : ∀ (l : List Oper) (α : AAct) (h : Heap), rvc P ops K l α h → ∀ (w0 : Base) (F : Fin) (a : Act) (w : World) (F0 : Fin), Mono F0 F → Inv w0 F w h → RepA F a α →
  wpList P ops (RPost w0 F0 K) l a w
 | [], α, h, e, w0, F, a, w, F0, hm, hi, hr => ⟨rfl, F, α, h, hm, hi, hr, e⟩
 | o :: rest, α, h, e, w0, F, a, w, F0, hm, hi, hr => by
  rw [rvc_cons] at e
  unfold ostep at e
  cases hg : guardAV ops α o.guard with
  | none => rw [hg] at e; exact e.elim
  | some c =>
   rw [hg] at e
   simp only at e
   have hw := guard_sound (ops := ops) (o := o) hr hg
   unfold wpList
   cases hp : pev P α h o with
   | some q =>
    obtain ⟨S, x⟩ := q
    rw [hp] at e
    simp only at e
    cases c with
    | true =>
     rw [if_pos hw]
     obtain ⟨v, h1, h2⟩ := pev_sound hp (e.1 rfl) w0 F a w hi hr
     left
     unfold Oper.wp
     rw [h2 w hi.like]
     exact rvc_sound rest _ h e.2 w0 F _ w F0 hm hi (hr.put o.dst (rep_under rfl h1))
    | false =>
     rw [hw]
     simp only [Bool.false_eq_true, if_false]
     cases hgo : o.guard with
     | none => rw [hgo] at hg; simp [guardAV] at hg
     | some j =>
      rw [hgo] at e
      exact rvc_sound rest _ h e.2 w0 F _ w F0 hm hi (hr.put o.dst rep_skip)
   | none =>
    rw [hp] at e
    simp only at e
    cases c with
    | true =>
     rw [if_pos hw]
     left
     exact veff_sound (e.1 rfl) w0 F a w _ _ hi (hr.known hg) fun F' α' h' a' w' m1 m2 m3 m4 => rvc_sound rest α' h' m4 w0 F' a' w' F0 (hm.trans m1) m2 m3
    | false =>
     rw [hw]
     simp only [Bool.false_eq_true, if_false]
     exact rvc_sound rest _ h (e.2 rfl) w0 F _ w F0 hm hi (AAct.put_any_rep (hr.known hg) _)
theorem awp_region {Q : APostT} {α : AAct} {h : Heap} {id : Nat} (e : rvc P ops (Q .normal) ops.toList α h) : awp P (.region id ops false) Q α h :=
 fun w0 F a w hi hr => wp_mono (wp_region_list (rvc_sound ops.toList α h e w0 F a w F (.refl F) hi hr)) fun e a w ⟨he, F', α', h', h1, h2, h3, h4⟩ => by
  subst he; exact ⟨F', α', h', h1, h2, h3, h4⟩
def qvc (P : Program) (ops : Array Oper) (K : AAct → Heap → Prop) : List Oper → AAct → Heap → Prop
 | [], α, h => K α h
 | o :: rest, α, h => match guardAV ops α o.guard with
  | none => False
  | some c => match pev P α h o with
   | some q => (c = true → q.1) ∧ qvc P ops K rest (α.put o.dst (q.2.under o.guard c)) h
   | none => False
theorem qvc_sound : ∀ (l : List Oper) (α : AAct) (h : Heap), qvc P ops K l α h → ∀ (w0 : Base) (F : Fin) (a : Act) (w : World) (R : Act → Prop), (∀ a' α', RepA F a' α' → K α' h → R a') → Inv w0 F w h → RepA F a α →
  wpStill P ops w R l a
 | [], α, h, e, w0, F, a, w, R, hR, hi, hr => hR a α hr e
 | o :: rest, α, h, e, w0, F, a, w, R, hR, hi, hr => by
  unfold qvc at e
  cases hg : guardAV ops α o.guard with
  | none => rw [hg] at e; exact e.elim
  | some c =>
   rw [hg] at e
   simp only at e
   have hw := guard_sound (ops := ops) (o := o) hr hg
   unfold wpStill
   cases hp : pev P α h o with
   | some q =>
    obtain ⟨S, x⟩ := q
    rw [hp] at e
    simp only at e
    cases c with
    | true =>
     rw [if_pos hw]
     obtain ⟨v, h1, h2⟩ := pev_sound hp (e.1 rfl) w0 F a w hi hr
     unfold Oper.still
     rw [h2 w hi.like, Oper.stillUpon_value]
     exact qvc_sound rest _ h e.2 w0 F _ w R hR hi (hr.put o.dst (rep_under rfl h1))
    | false =>
     rw [hw]
     simp only [Bool.false_eq_true, if_false]
     cases hgo : o.guard with
     | none => rw [hgo] at hg; simp [guardAV] at hg
     | some j =>
      rw [hgo] at e
      exact qvc_sound rest _ h e.2 w0 F _ w R hR hi (hr.put o.dst rep_skip)
   | none => rw [hp] at e; exact e.elim
theorem awp_region_quiet {Q : APostT} {α : AAct} {h : Heap} {id : Nat} (hm : P.follows .mixedOrders = true) (hB : Region.lexB .any ops = true) (e : qvc P ops (Q .normal) ops.toList α h) :
  awp P (.region id ops true) Q α h :=
 fun w0 F a w hi hr => wp_region_still hm hB (qvc_sound ops.toList α h e w0 F a w.drew _ (fun a' α' h1 h2 => ⟨F, α', h, .refl F, hi.drew, h1, h2⟩) hi.drew hr)
def Heap.minus (h : Heap) (G : List Nat) : Heap := fun b => if b ∈ G then none else h b
def Heap.only (h : Heap) (G : List Nat) : Heap := fun b => if b ∈ G then h b else none
def Heap.plus (h' : Heap) (G : List Nat) (h : Heap) : Heap := fun b => if b ∈ G then h b else h' b
def edgeOn (ops : Array Oper) (z i : Nat) : Bool := ((ops[z]?).map fun o => o.after.any fun e => Region.binds .any e && e.on == i).getD false
def finOk (ops : Array Oper) : List Nat → Array Bool → Bool
 | [], listed => Region.ready .any ops listed == []
 | z :: zs, listed => Region.ready .any ops listed == [z] && finOk ops zs (listed.setIfInBounds z true)
def schedOk (ops : Array Oper) (Z : List Nat) : List (Nat × Bool) → Array Bool → Bool
 | [], listed => finOk ops Z listed
 | (i, true) :: is, listed => (Region.ready .any ops listed).contains i && Region.free .any ops listed i && Z.all (fun z => edgeOn ops z i) && schedOk ops Z is (listed.setIfInBounds i true)
 | (i, false) :: is, listed => Region.ready .any ops listed == [i] && schedOk ops Z is (listed.setIfInBounds i true)
def fstep (P : Program) (ops : Array Oper) (z : Nat) (K : AAct → Heap → Prop) (α : AAct) (h : Heap) : Prop :=
 match ops[z]? with
 | none => False
 | some o => ostep P ops o K α h
def fvc (P : Program) (ops : Array Oper) (K : AAct → Heap → Prop) (l : List Nat) : AAct → Heap → Prop := l.foldr (fstep P ops) K
theorem fvc_nil {P : Program} {ops : Array Oper} {K : AAct → Heap → Prop} {α : AAct} {h : Heap} : fvc P ops K [] α h = K α h := rfl
theorem fvc_cons {P : Program} {ops : Array Oper} {K : AAct → Heap → Prop} {z : Nat} {l : List Nat} {α : AAct} {h : Heap} : fvc P ops K (z :: l) α h = fstep P ops z (fvc P ops K l) α h := rfl
def IsCells (o : Option Blk) : Prop := ∃ cs, o = some (.cells cs)
@[simp] theorem isCells_cells {cs : List AV} : IsCells (some (.cells cs)) = True := by simp [IsCells]
@[simp] theorem isCells_none : IsCells none = False := by simp [IsCells]
theorem BlkFr.mono {f g : Nat → Prop} {b : Nat} {x : Blk} (h : f b → g b) (k : BlkFr g b x) : BlkFr f b x := by
 cases x with
 | gint => trivial
 | tab arr => trivial
 | cells cs => exact fun e => k (h e)
 | spare i j => exact fun e => k (h e)
def Back (G : List Nat) (h : Heap) (K : AAct → Heap → Prop) : AAct → Heap → Prop := fun α' h' => (∀ b ∈ G, IsCells (h b) → h' b = none) → K α' (h'.plus G h)
def sstep (P : Program) (ops : Array Oper) (G : List Nat) (x : Nat × Bool) (K : AAct → Heap → Prop) (α : AAct) (h : Heap) : Prop :=
 match ops[x.1]? with
 | none => False
 | some o => match guardAV ops α o.guard with
  | none => False
  | some c => match x.2 with
   | true => (match pev P α (h.only G) o with
    | some q => (c = true → q.1) ∧ K (α.put o.dst (q.2.under o.guard c)) h
    | none => False)
   | false => (match pev P α h o with
    | some q => (c = true → q.1) ∧ K (α.put o.dst (q.2.under o.guard c)) h
    | none => (c = true → veff P o (α.known ops o.guard true) (h.minus G) (Back G h K)) ∧ (c = false → K ((α.known ops o.guard false).put o.dst (.whn false .any)) h))
def svc (P : Program) (ops : Array Oper) (G : List Nat) (K : AAct → Heap → Prop) (l : List (Nat × Bool)) : AAct → Heap → Prop := l.foldr (sstep P ops G) K
theorem svc_nil {P : Program} {ops : Array Oper} {G : List Nat} {K : AAct → Heap → Prop} {α : AAct} {h : Heap} : svc P ops G K [] α h = K α h := rfl
theorem svc_cons {P : Program} {ops : Array Oper} {G : List Nat} {K : AAct → Heap → Prop} {x : Nat × Bool} {l : List (Nat × Bool)} {α : AAct} {h : Heap} : svc P ops G K (x :: l) α h = sstep P ops G x (svc P ops G K l) α h := rfl
def Held (w1 : World) (G : List Nat) (h : Heap) (F : Fin) (w : World) : Prop :=
 (∀ b, b ∈ G → ∀ y, h b = some y → w.heap[b]? = w1.heap[b]?) ∧ ∀ b o u, F b o = some u → w.cell? ⟨b, o, none⟩ = some u
theorem Heap.only_sub (h : Heap) (G : List Nat) : Sub (h.only G) h := fun b x e => by
 unfold Heap.only at e; split at e
 ·exact e
 ·cases e
theorem Heap.minus_sub (h : Heap) (G : List Nat) : Sub (h.minus G) h := fun b x e => by
 unfold Heap.minus at e; split at e
 ·cases e
 ·exact e
def wpAnyZ (P : Program) (ops : Array Oper) (Q : Exit → Act → World → Prop) (Z : List Nat) (S : World → Prop) : Nat → Array Bool → Act → World → Prop
 | 0, listed, a, w => Region.ready .any ops listed = [] ∧ Q .normal a w
 | n + 1, listed, a, w => (Region.ready .any ops listed = [] → Q .normal a w) ∧
   ∀ i ∈ Region.ready .any ops listed, wpOp P ops Q i (fun a' w' => (i ∈ Z ∨ S w') ∧ wpAnyZ P ops Q Z S n (listed.setIfInBounds i true) a' w') a w
theorem wpAny_of_Z {Q : Exit → Act → World → Prop} {Z : List Nat} {S : World → Prop} : ∀ (n : Nat) (listed : Array Bool) (a : Act) (w : World), wpAnyZ P ops Q Z S n listed a w → wpAny P .any ops Q n listed a w
 | 0, _, _, _, h => h
 | n + 1, _, _, _, h => ⟨h.1, fun i hi => wpOp_mono (fun a' w' h' => wpAny_of_Z n _ a' w' h'.2) (h.2 i hi)⟩
theorem wpAnyZ_weaken {Q : Exit → Act → World → Prop} {Z : List Nat} {S S' : World → Prop} (hS : ∀ w, S w → S' w) : ∀ (n : Nat) (listed : Array Bool) (a : Act) (w : World),
  wpAnyZ P ops Q Z S n listed a w → wpAnyZ P ops Q Z S' n listed a w
 | 0, _, _, _, h => h
 | n + 1, _, _, _, h => ⟨h.1, fun i hi => wpOp_mono (fun a' w' h' => ⟨h'.1.imp id (hS _), wpAnyZ_weaken hS n _ a' w' h'.2⟩) (h.2 i hi)⟩
theorem edgeOn_spec {z i : Nat} (h : edgeOn ops z i = true) : ∃ o, ops[z]? = some o ∧ ∃ e ∈ o.after, Region.binds .any e = true ∧ e.on = i := by
 unfold edgeOn at h
 cases ho : ops[z]? with
 | none => simp [ho] at h
 | some o =>
  simp [ho] at h
  obtain ⟨k, hk, h1, h2⟩ := h
  exact ⟨o, rfl, o.after[k], Array.getElem_mem hk, h1, h2⟩
theorem wpAnyZ_first {Q : Exit → Act → World → Prop} {Z : List Nat} {S : World → Prop} {i : Nat} {oi : Oper} {v : Value} (hi : ops[i]? = some oi) (hsel : Region.noSelect ops = true)
  (hQ : ∀ c a w, Q (.panic c) (a.put oi.dst v) w → Q (.panic c) a w) (hZ : ∀ z ∈ Z, edgeOn ops z i = true) :
  ∀ (n : Nat) (listed : Array Bool) (a : Act) (w : World),
   (∀ j oj, ops[j]? = some oj → j ≠ i → listed.getD j true = false → (∀ e ∈ oj.after, Region.binds .any e = true → e.on ≠ i) → oi.apart ops oj = true) →
   i ∈ Region.ready .any ops listed → YieldsIf P ops S oi v a → S w →
   wpAnyZ P ops Q Z S n (listed.setIfInBounds i true) (a.put oi.dst v) w → wpAnyZ P ops Q Z S (n + 1) listed a w := by
 have hns := fun (cs : Array SelectCase) (b : Bool) => Region.noSelect_spec hsel i oi cs b hi
 intro n
 induction n with
 | zero =>
  intro listed a w _ hr hy hS H
  refine ⟨fun h0 => absurd (h0 ▸ hr : i ∈ []) (by simp), fun j hj => ?_⟩
  by_cases hji : j = i
  ·subst hji; exact hy.wpOp hi hS ⟨.inr hS, H⟩
  ·exact absurd (H.1 ▸ ready_mono hj hji : j ∈ []) (by simp)
 | succ n ih =>
  intro listed a w hap hr hy hS H
  refine ⟨fun h0 => absurd (h0 ▸ hr : i ∈ []) (by simp), fun j hj => ?_⟩
  by_cases hji : j = i
  ·subst hji; exact hy.wpOp hi hS ⟨.inr hS, H⟩
  ·obtain ⟨hun, oj, hoj, hall⟩ := mem_ready.1 hj
   have hnw : ∀ e ∈ oj.after, Region.binds .any e = true → e.on ≠ i := by
    intro e he hb heq
    have h1 := hall e he hb
    have h0 := (mem_ready.1 hr).1
    rw [heq] at h1
    rcases Nat.lt_or_ge i listed.size with hlt | hge
    ·simp [hlt] at h0 h1; rw [h0] at h1; cases h1
    ·simp [Array.getElem?_eq_none hge] at h1
   have hjZ : j ∉ Z := fun hz => by
    obtain ⟨o', ho', e, he, hb, hon⟩ := edgeOn_spec (hZ j hz)
    rw [hoj] at ho'
    injection ho' with ho'
    subst ho'
    exact hnw e he hb hon
   have h2 := wpOp_putIf hoj (hap j oj hoj hji hun hnw) hns (fun cs b => Region.noSelect_spec hsel j oj cs b hoj) hQ hy (H.2 j (ready_mono hj hji))
   refine wpOp_mono (fun a' w' h3 => ?_) h2
   have hSw : S w' := h3.2.1.resolve_left hjZ
   refine ⟨.inr hSw, ih (listed.setIfInBounds j true) a' w' ?_ (ready_mono hr (Ne.symm hji)) h3.1 hSw ?_⟩
   ·intro k ok hk hki hunk hnk
    refine hap k ok hk hki ?_ hnk
    by_cases hjk : j = k
    ·subst hjk; exact hun
    ·rw [getD_set_ne true hjk] at hunk; exact hunk
   ·rw [Array.setIfInBounds_comm _ _ hji]
    exact h3.2.2
theorem RPost_panic {w0 : Base} {F : Fin} {c : List PanicEntry} {a a' : Act} {w : World} (h : RPost w0 F K (.panic c) a w) : RPost w0 F K (.panic c) a' w := by
 cases h.1
theorem veff_frame {o : Oper} {α : AAct} {h : Heap} {G : List Nat} {K' : AAct → Heap → Prop} (e : veff P o α (h.minus G) K') {w0 : Base} {F : Fin} {a : Act} {w w1 : World}
  {Q : Exit → Act → World → Prop} {next : Act → World → Prop} {F0 : Fin} (hF0 : Mono F0 F) (hi : Inv w0 F w h) (hr : RepA F a α) (hheld : Held w1 G h F0 w)
  (hK : ∀ F' α' h' a' w', Mono F F' → Inv w0 F' w' (h'.plus G h) → RepA F' a' α' → Held w1 G h F0 w' → (∀ b ∈ G, IsCells (h b) → h' b = none) → K' α' h' → next a' w') : o.wp P a w next Q := by
 let β : Base := ⟨w, fun b => w0.fr b ∨ (b ∈ G ∧ (h b).isSome), F⟩
 have hβ : Inv β F w (h.minus G) := by
  refine ⟨⟨rfl, rfl, rfl, Nat.le_refl _, ?_, fun _ _ => rfl⟩, hi.fin, fun _ _ _ => rfl, fun b x hb => ?_⟩
  ·rintro k (hk | ⟨_, hk⟩)
   ·have h1 := hi.below.lt k hk
    have h2 := hi.below.size
    show k < w.heap.size
    omega
   ·obtain ⟨y, hy⟩ := Option.isSome_iff_exists.1 hk
    exact (hi.blk k y hy).2.lt
  ·have h1 := hi.blk b x (Heap.minus_sub h G b x hb)
   refine ⟨h1.1.mono ?_, h1.2⟩
   rintro (hk | ⟨hk, _⟩)
   ·exact hk
   ·unfold Heap.minus at hb; rw [if_pos hk] at hb; cases hb
 refine veff_sound e β F a w next Q hβ hr ?_
 intro F' α' h' a' w' m1 m2 m3 m4
 have blk : ∀ b, (w0.fr b ∨ (b ∈ G ∧ (h b).isSome)) → w'.heap[b]? = w.heap[b]? := fun b hb => m2.below.block b hb
 refine hK F' α' h' a' w' m1 ⟨⟨m2.below.os.trans hi.below.os, m2.below.tape.trans hi.below.tape, m2.below.output.trans hi.below.output,
  Nat.le_trans hi.below.size m2.below.size, hi.below.lt, fun k hk => (blk k (.inl hk)).trans (hi.below.block k hk)⟩, m2.fin, fun b o hb => (m2.fin0 b o (.inl hb)).trans (hi.fin0 b o hb), fun b x hb => ?_⟩ m3 ⟨fun b hb y hy => ?_, fun b o u hu => ?_⟩ (fun b hb hy => ?_) m4
 ·unfold Heap.plus at hb
  split at hb
  ·rename_i hG
   have h1 := hi.blk b x hb
   have h2 : w'.heap[b]? = w.heap[b]? := blk b (.inr ⟨hG, by rw [hb]; rfl⟩)
   refine ⟨h1.1, ?_⟩
   have h3 := h1.2.of_block h2
   have hF : ∀ o, F' b o = F b o := fun o => m2.fin0 b o (.inr ⟨hG, by rw [hb]; rfl⟩)
   cases x with
   | cells cs =>
    obtain ⟨k1, arr, t, k2, k3, k4, k5⟩ := h3
    exact ⟨fun o => (hF o).trans (k1 o), arr, t, k2, k3, fun i hi' => (k4 i hi').mono m1, k5⟩
   | spare k e =>
    obtain ⟨k1, rest⟩ := h3
    exact ⟨fun o ho => (hF o).trans (k1 o ho), rest⟩
   | gint =>
    obtain ⟨k1, m, k2⟩ := h3
    exact ⟨k1, m, m1 _ _ _ k2⟩
   | tab arr =>
    obtain ⟨⟨v, k1⟩, t, z, k2⟩ := h3
    exact ⟨⟨v, m1 _ _ _ k1⟩, t, z, k2⟩
  ·have h1 := m2.blk b x hb
   exact ⟨h1.1.mono .inl, h1.2⟩
 ·rw [blk b (.inr ⟨hb, by rw [hy]; rfl⟩)]; exact hheld.1 b hb y hy
 ·exact (m2.fin b o u (m1 _ _ _ (hF0 _ _ _ hu))).1
 ·cases e' : h' b with
  | none => rfl
  | some x =>
   obtain ⟨cs, hy⟩ := hy
   have hfr : β.fr b := .inr ⟨hb, by rw [hy]; rfl⟩
   have h1 := m2.blk b x e'
   cases x with
   | cells ds => exact absurd hfr h1.1
   | spare i j => exact absurd hfr h1.1
   | gint =>
    obtain ⟨_, m, k2⟩ := h1.2
    rw [m2.fin0 b 0 hfr] at k2
    obtain ⟨k1, _⟩ := (hi.blk b _ hy).2
    rw [show β.F0 b 0 = F b 0 from rfl, k1 0] at k2
    cases k2
   | tab arr =>
    obtain ⟨⟨v, k2⟩, _⟩ := h1.2
    rw [m2.fin0 b 0 hfr] at k2
    obtain ⟨k1, _⟩ := (hi.blk b _ hy).2
    rw [show β.F0 b 0 = F b 0 from rfl, k1 0] at k2
    cases k2
theorem pev_held {o : Oper} {α : AAct} {h : Heap} {G : List Nat} {S : Prop} {x : AV} (e : pev P α (h.only G) o = some (S, x)) (hs : S) {w0 : Base} {F : Fin} {a : Act} {w w1 : World}
  (hi : Inv w0 F w h) (hr : RepA F a α) (hheld : Held w1 G h F w) : ∃ v, Rep F v x ∧ ∀ w', Held w1 G h F w' → (execOp a.eval o).run P w' = .ok (.value v) w' := by
 obtain ⟨v, h1, h2⟩ := pev_sound e hs w0 F a w (hi.sub (Heap.only_sub h G)) hr
 refine ⟨v, h1, fun w' hw' => h2 w' ⟨fun b y hb => ?_, hw'.2⟩⟩
 have hb2 := Heap.only_sub h G b y hb
 unfold Heap.only at hb
 split at hb
 ·rename_i hG
  rw [hw'.1 b hG y hb2, hheld.1 b hG y hb2]
 ·cases hb
theorem Heap.plus_mem {h' h : Heap} {G : List Nat} {b : Nat} (hb : b ∈ G) : (h'.plus G h) b = h b := by simp [Heap.plus, hb]
theorem fvc_sound {Z0 : List Nat} {S : World → Prop} : ∀ (Z : List Nat) (listed : Array Bool) (α : AAct) (h : Heap), (∀ z ∈ Z, z ∈ Z0) → fvc P ops K Z α h → finOk ops Z listed = true →
  ∀ (w0 : Base) (F Fr : Fin) (a : Act) (w : World), Mono Fr F → Inv w0 F w h → RepA F a α → wpAnyZ P ops (RPost w0 Fr K) Z0 S Z.length listed a w
 | [], listed, α, h, _, e, hok, w0, F, Fr, a, w, hmr, hi, hr => ⟨by simpa [finOk] using hok, rfl, F, α, h, hmr, hi, hr, e⟩
 | z :: Z, listed, α, h, hz, e, hok, w0, F, Fr, a, w, hmr, hi, hr => by
  simp only [finOk, Bool.and_eq_true] at hok
  obtain ⟨hready, hok'⟩ := hok
  have hready' : Region.ready .any ops listed = [z] := by simpa using hready
  have hz' : ∀ y ∈ Z, y ∈ Z0 := fun y hy => hz y (List.mem_cons_of_mem _ hy)
  have hzz : z ∈ Z0 := hz z (List.mem_cons_self ..)
  refine ⟨fun h0 => (by rw [hready'] at h0; cases h0), fun i' hi' => ?_⟩
  rw [hready'] at hi'
  have : i' = z := by simpa using hi'
  subst this
  rw [fvc_cons] at e
  unfold fstep at e
  cases ho : ops[i']? with
  | none => rw [ho] at e; exact e.elim
  | some o =>
   rw [ho] at e
   simp only at e
   unfold wpOp
   rw [ho]
   simp only
   unfold ostep at e
   cases hg : guardAV ops α o.guard with
   | none => rw [hg] at e; exact e.elim
   | some c =>
    rw [hg] at e
    simp only at e
    have hw := guard_sound (ops := ops) (o := o) hr hg
    cases hp : pev P α h o with
    | some q =>
     obtain ⟨T, x⟩ := q
     rw [hp] at e
     simp only at e
     cases c with
     | true =>
      rw [if_pos hw]
      obtain ⟨v, h1, h2⟩ := pev_sound hp (e.1 rfl) w0 F a w hi hr
      left
      unfold Oper.wp
      rw [h2 w hi.like]
      exact ⟨.inl hzz, fvc_sound Z _ _ h hz' e.2 hok' w0 F Fr _ w hmr hi (hr.put o.dst (rep_under rfl h1))⟩
     | false =>
      rw [hw]
      simp only [Bool.false_eq_true, if_false]
      cases hgo : o.guard with
      | none => rw [hgo] at hg; simp [guardAV] at hg
      | some j =>
       rw [hgo] at e
       exact ⟨.inl hzz, fvc_sound Z _ _ h hz' e.2 hok' w0 F Fr _ w hmr hi (hr.put o.dst rep_skip)⟩
    | none =>
     rw [hp] at e
     simp only at e
     cases c with
     | true =>
      rw [if_pos hw]
      left
      exact veff_sound (e.1 rfl) w0 F a w _ _ hi (hr.known hg) fun F' α' h' a' w' m1 m2 m3 m4 => ⟨.inl hzz, fvc_sound Z _ α' h' hz' m4 hok' w0 F' Fr a' w' (hmr.trans m1) m2 m3⟩
     | false =>
      rw [hw]
      simp only [Bool.false_eq_true, if_false]
      exact ⟨.inl hzz, fvc_sound Z _ _ h hz' (e.2 rfl) hok' w0 F Fr _ w hmr hi (AAct.put_any_rep (hr.known hg) _)⟩
theorem svc_sound {Z : List Nat} (hsel : Region.noSelect ops = true) : ∀ (sched : List (Nat × Bool)) (listed : Array Bool) (G : List Nat) (α : AAct) (h h0 : Heap), svc P ops G (fvc P ops K Z) sched α h → schedOk ops Z sched listed = true →
  (∀ b, b ∈ G → h b = h0 b) →
  ∀ (w0 : Base) (F F0 Fr : Fin) (a : Act) (w w1 : World), Mono F0 F → Mono Fr F → Inv w0 F w h → RepA F a α → Held w1 G h0 F w →
  wpAnyZ P ops (RPost w0 Fr K) Z (Held w1 G h0 F0) (sched.length + Z.length) listed a w
 | [], listed, G, α, h, h0, e, hok, hG, w0, F, F0, Fr, a, w, w1, hm, hmr, hi, hr, hheld => by
  rw [svc_nil] at e
  simp only [schedOk] at hok
  rw [List.length_nil, Nat.zero_add]
  exact fvc_sound Z listed α h (fun _ hz => hz) e hok w0 F Fr a w hmr hi hr
 | (i, early) :: is, listed, G, α, h, h0, e, hok, hG, w0, F, F0, Fr, a, w, w1, hm, hmr, hi, hr, hheld => by
  have hlen : ((i, early) :: is).length + Z.length = (is.length + Z.length) + 1 := by simp; omega
  rw [hlen]
  have hheldF : ∀ w', Held w1 G h0 F w' → Held w1 G h0 F0 w' := fun w' hw' => ⟨hw'.1, fun b o u hu => hw'.2 b o u (hm _ _ _ hu)⟩
  have hheldh : Held w1 G h F w := ⟨fun b hb y hy => hheld.1 b hb y (by rw [← hG b hb]; exact hy), hheld.2⟩
  have hheldh' : ∀ w', Held w1 G h0 F w' → Held w1 G h F w' := fun w' hw' => ⟨fun b hb y hy => hw'.1 b hb y (by rw [← hG b hb]; exact hy), hw'.2⟩
  rw [svc_cons] at e
  unfold sstep at e
  cases ho : ops[i]? with
  | none => rw [ho] at e; exact e.elim
  | some o =>
   rw [ho] at e
   simp only at e
   cases hg : guardAV ops α o.guard with
   | none => rw [hg] at e; exact e.elim
   | some c =>
    rw [hg] at e
    simp only at e
    have hw := guard_sound (ops := ops) (o := o) hr hg
    cases early with
    | true =>
     simp only [schedOk, Bool.and_eq_true] at hok
     obtain ⟨⟨⟨hready, hfree⟩, hZ⟩, hok'⟩ := hok
     have hZ' : ∀ z ∈ Z, edgeOn ops z i = true := fun z hz => List.all_eq_true.1 hZ z hz
     have hready' : i ∈ Region.ready .any ops listed := by simpa using hready
     simp only at e
     cases hp : pev P α (h.only G) o with
     | none => rw [hp] at e; exact e.elim
     | some q =>
      obtain ⟨S, x⟩ := q
      rw [hp] at e
      simp only at e
      refine wpAnyZ_weaken hheldF _ _ _ _ ?_
      cases c with
      | true =>
       obtain ⟨v, h1, h2⟩ := pev_held hp (e.1 rfl) hi hr hheldh
       refine wpAnyZ_first ho hsel (fun _ _ _ hq => RPost_panic hq) hZ' _ _ _ _ (Region.free_spec ho hfree) hready' (.inl ⟨hw, fun w' hw' => h2 w' (hheldh' w' hw')⟩) hheld ?_
       exact svc_sound hsel is _ G _ h h0 e.2 hok' hG w0 F F Fr _ w w1 (.refl F) hmr hi (hr.put o.dst (rep_under rfl h1)) hheld
      | false =>
       refine wpAnyZ_first ho hsel (fun _ _ _ hq => RPost_panic hq) hZ' _ _ _ _ (Region.free_spec ho hfree) hready' (.inr ⟨hw, rfl⟩) hheld ?_
       cases hgo : o.guard with
       | none => rw [hgo] at hg; simp [guardAV] at hg
       | some j =>
        rw [hgo] at e
        exact svc_sound hsel is _ G _ h h0 e.2 hok' hG w0 F F Fr _ w w1 (.refl F) hmr hi (hr.put o.dst rep_skip) hheld
    | false =>
     simp only [schedOk, Bool.and_eq_true] at hok
     obtain ⟨hready, hok'⟩ := hok
     have hready' : Region.ready .any ops listed = [i] := by simpa using hready
     refine ⟨fun h0 => (by rw [hready'] at h0; cases h0), fun i' hi' => ?_⟩
     rw [hready'] at hi'
     have : i' = i := by simpa using hi'
     subst this
     unfold wpOp
     rw [ho]
     simp only at e ⊢
     cases hp : pev P α h o with
     | some q =>
      obtain ⟨S, x⟩ := q
      rw [hp] at e
      simp only at e
      cases c with
      | true =>
       rw [if_pos hw]
       obtain ⟨v, h1, h2⟩ := pev_sound hp (e.1 rfl) w0 F a w hi hr
       left
       unfold Oper.wp
       rw [h2 w hi.like]
       exact ⟨.inr (hheldF w hheld), svc_sound hsel is _ G _ h h0 e.2 hok' hG w0 F F0 Fr _ w w1 hm hmr hi (hr.put o.dst (rep_under rfl h1)) hheld⟩
      | false =>
       rw [hw]
       simp only [Bool.false_eq_true, if_false]
       cases hgo : o.guard with
       | none => rw [hgo] at hg; simp [guardAV] at hg
       | some j =>
        rw [hgo] at e
        exact ⟨.inr (hheldF w hheld), svc_sound hsel is _ G _ h h0 e.2 hok' hG w0 F F0 Fr _ w w1 hm hmr hi (hr.put o.dst rep_skip) hheld⟩
     | none =>
      rw [hp] at e
      simp only at e
      cases c with
      | true =>
       rw [if_pos hw]
       left
       refine veff_frame (e.1 rfl) (.refl F) hi (hr.known hg) hheldh ?_
       intro F' α' h' a' w' m1 m2 m3 m4 m6 m5
       have hG' : ∀ b, b ∈ G → (h'.plus G h) b = h0 b := fun b hb => (Heap.plus_mem hb).trans (hG b hb)
       have hheld' : Held w1 G h0 F' w' := ⟨fun b hb y hy => m4.1 b hb y (by rw [hG b hb]; exact hy), fun b o u hu => (m2.fin b o u hu).1⟩
       refine ⟨.inr ⟨hheld'.1, fun b o u hu => hheld'.2 b o u (m1 _ _ _ (hm _ _ _ hu))⟩, ?_⟩
       exact svc_sound hsel is _ G _ _ h0 (m5 m6) hok' hG' w0 F' F0 Fr a' w' w1 (hm.trans m1) (hmr.trans m1) m2 m3 hheld'
      | false =>
       rw [hw]
       simp only [Bool.false_eq_true, if_false]
       exact ⟨.inr (hheldF w hheld), svc_sound hsel is _ G _ h h0 (e.2 rfl) hok' hG w0 F F0 Fr _ w w1 hm hmr hi (AAct.put_any_rep (hr.known hg) _) hheld⟩
theorem awp_region_draw {Q : APostT} {α : AAct} {h : Heap} {id : Nat} (G : List Nat) (sched : List (Nat × Bool)) (Z : List Nat) (hm : P.follows .mixedOrders = true) (hsel : Region.noSelect ops = true)
  (hl : sched.length + Z.length = ops.size) (hok : schedOk ops Z sched (Array.replicate ops.size false) = true) (e : svc P ops G (fvc P ops (Q .normal) Z) sched α h) :
  awp P (.region id ops true) Q α h := by
 intro w0 F a w hi hr
 have key := svc_sound hsel sched (Array.replicate ops.size false) G α h h e hok (fun _ _ => rfl) w0 F F F a w.drew w.drew (.refl F) (.refl F) hi.drew hr ⟨fun _ _ _ _ => rfl, fun b o u hu => (hi.drew.fin b o u hu).1⟩
 rw [hl] at key
 refine wp_mono (wp_region_any hm (wpAny_of_Z _ _ _ _ key)) ?_
 intro e a w ⟨he, F', α', h', h1, h2, h3, h4⟩
 subst he
 exact ⟨F', α', h', h1, h2, h3, h4⟩
def aresults (P : Program) (α : AAct) (h : Heap) : List ResultVar → List AV → Prop
 | [], xs => xs = []
 | .tmp t :: rs, xs => ∃ ys, xs = α.s.getD t .any :: ys ∧ aresults P α h rs ys
 | .cell p t :: rs, xs => (loadAV P h t (α.s.getD p .any)).1 ∧ ∃ ys, xs = (loadAV P h t (α.s.getD p .any)).2 :: ys ∧ aresults P α h rs ys
def aresult (xs : List AV) : AV :=
 match xs with
 | [x] => x
 | xs => .tup xs
def BodyPost (P : Program) (rs : List ResultVar) (R : AV → Heap → Prop) : APostT := fun e α h =>
 (e = .normal ∨ e = .ret) ∧ α.ds = [] ∧ ∃ xs, aresults P α h rs xs ∧ R (aresult xs) h
theorem loadAV_ptr {h : Heap} {t : TypeId} {x : AV} (hs : (loadAV P h t x).1) {F : Fin} {v : Value} (hr : Rep F v x) : ∃ a, v = .pointer (some a) := by
 cases hr with
 | ptr b o => exact ⟨_, rfl⟩
 | vptr b o row cv _ _ => exact ⟨_, rfl⟩
 | _ =>
  exfalso
  unfold loadAV at hs
  split at hs <;> first | exact hs | (simp at hs; done)
theorem aresults_sound {α : AAct} {h : Heap} {w0 : Base} {F : Fin} {a : Act} {w : World} (hi : Inv w0 F w h) (hr : RepA F a α) : ∀ (rs : List ResultVar) (xs : List AV), aresults P α h rs xs →
  ∃ vs : List Value, (rs.mapM fun
   | .tmp t => pure (a.tmps.getD t undef)
   | .cell p t => do loadVar t (← asAddr (a.tmps.getD p undef)) : Sem (List Value)).run P w = .ok vs w ∧ vs.length = xs.length ∧ ∀ i, i < xs.length → Rep F (vs.getD i undef) (xs.getD i .any)
 | [], xs, e => by
  simp only [aresults] at e
  subst e
  exact ⟨[], rfl, rfl, fun i hi => by simp at hi⟩
 | .tmp t :: rs, xs, e => by
  obtain ⟨ys, rfl, e2⟩ := e
  obtain ⟨vs, h1, h2, h3⟩ := aresults_sound hi hr rs ys e2
  refine ⟨a.tmps.getD t undef :: vs, ?_, by simp [h2], fun i hi' => ?_⟩
  ·simp only [List.mapM_cons, Sem.run_bind, Sem.run_pure, Result.andThen_ok, h1]
  ·cases i with
   | zero => simpa using hr.s.get t
   | succ i => simpa using h3 i (by simpa using hi')
 | .cell p t :: rs, xs, e => by
  obtain ⟨hs, ys, rfl, e2⟩ := e
  obtain ⟨vs, h1, h2, h3⟩ := aresults_sound hi hr rs ys e2
  have hp := hr.s.get p
  obtain ⟨ad, had⟩ := loadAV_ptr hs hp
  obtain ⟨u, k1, k2⟩ := loadAV_sound hi hp (Prod.eta _).symm hs
  have k3 := k1 w hi.like
  rw [had] at k3
  simp only [Instr.loadAt, Instr.sureAddr, Sem.run_bind, Sem.run_pure, Result.andThen_ok] at k3
  refine ⟨u :: vs, ?_, by simp [h2], fun i hi' => ?_⟩
  ·have hasa : (asAddr (a.tmps.getD p undef)).run P w = .ok ad w := by rw [had]; rfl
   simp only [List.mapM_cons, Sem.run_bind, Sem.run_pure, Result.andThen_ok, hasa, k3, h1]
  ·cases i with
   | zero => simpa using k2
   | succ i => simpa using h3 i (by simpa using hi')
theorem results_sound {α : AAct} {h : Heap} {w0 : Base} {F : Fin} {a : Act} {w : World} (hi : Inv w0 F w h) (hr : RepA F a α) {fn : Func} {xs : List AV} (e : aresults P α h fn.results.toList xs) :
  ∃ v, (results fn a.tmps).run P w = .ok v w ∧ Rep F v (aresult xs) := by
 obtain ⟨vs, h1, h2, h3⟩ := aresults_sound hi hr fn.results.toList xs e
 unfold results
 rw [Array.mapM_eq_mapM_toList]
 simp only [Sem.run_bind, Sem.run_map]
 erw [h1]
 simp only [Result.andThen_ok, Sem.run_pure]
 refine ⟨_, rfl, ?_⟩
 by_cases hone : vs.length = 1
 ·obtain ⟨v, rfl⟩ := List.length_eq_one_iff.1 hone
  obtain ⟨x, rfl⟩ := List.length_eq_one_iff.1 (h2 ▸ hone : xs.length = 1)
  have := h3 0 (by simp)
  simpa [aresult] using this
 ·have hne : ¬ vs.toArray.size = 1 := by simpa using hone
  have hx : aresult xs = .tup xs := by
   unfold aresult
   split
   ·rename_i x; simp at h2; exact absurd h2 hone
   ·rfl
  rw [dif_neg hne, hx]
  refine .tup _ _ (by simpa using h2) (fun i hi' => ?_)
  have := h3 i hi'
  have hlt : i < vs.length := by omega
  simp only [Array.getD, List.size_toArray, hlt, dif_pos] at this ⊢
  simpa [List.getD, hlt] using this
theorem repL_entry {F : Fin} {cargs : Array Value} {args : List AV} (ha : RepL F cargs args) (n : Nat) :
  RepL F (cargs ++ Array.replicate (n - cargs.size) undef) (args ++ List.replicate (n - args.length) .any) := by
 have h0 := ha.1
 refine ⟨by simp [h0], fun i hi => ?_⟩
 by_cases hlt : i < args.length
 ·have h1 := ha.2 i hlt
  have e1 : (cargs ++ Array.replicate (n - cargs.size) undef).getD i undef = cargs.getD i undef := by
   rw [Array.getD_eq_getD_getElem?, Array.getD_eq_getD_getElem?, Array.getElem?_append_left (by omega)]
  have e2 : (args ++ List.replicate (n - args.length) AV.any).getD i .any = args.getD i .any := by
   simp only [List.getD]; rw [List.getElem?_append_left hlt]
  rw [e1, e2]; exact h1
 ·have e2 : (args ++ List.replicate (n - args.length) AV.any).getD i .any = .any := by
   simp only [List.getD]; rw [List.getElem?_append_right (by omega), List.getElem?_replicate]; split <;> rfl
  rw [e2]; exact .any _
theorem acalls_of_awp {f : FuncId} {fn : Func} {c : Code} {args : List AV} {h : Heap} {R : AV → Heap → Prop} {n : Nat} {rs : List ResultVar} (hf : P.funcs[f]? = some fn) (hb : fn.body = some c)
  (hn : fn.ntmps = n) (hrs : fn.results.toList = rs) (e : awp P c (BodyPost P rs R) ⟨args ++ List.replicate (n - args.length) .any, []⟩ h) : ACalls P f args h R := by
 intro w0 F w cargs hi ha
 subst hn hrs
 refine calls_of_wp hf hb (wp_mono (e w0 F _ w hi ⟨repL_entry ha _, .nil⟩) ?_)
 intro e a w ⟨F', α', h', h1, h2, h3, h4, h5, xs, h6, h7⟩
 obtain ⟨v, k1, k2⟩ := results_sound h2 h3 h6
 have hd : a.defers = [] := by
  have := h3.ds
  rw [h5] at this
  cases hdd : a.defers with
  | nil => rfl
  | cons d ds => rw [hdd] at this; cases this
 rcases h4 with rfl | rfl
 ·exact ⟨hd, v, k1, v, F', _, h', rfl, h1, h2, k2, h7⟩
 ·exact ⟨hd, v, k1, v, F', _, h', rfl, h1, h2, k2, h7⟩
end
end Go.AL

