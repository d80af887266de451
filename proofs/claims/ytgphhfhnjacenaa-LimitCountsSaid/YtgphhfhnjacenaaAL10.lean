/-
  The abstract logic, 10: the condition of a piece of code, to be unfolded by simp.
-/
import Derived.Test.YtgphhfhnjacenaaAL9
import Derived.LoopN
set_option linter.unusedSimpArgs false
set_option linter.unusedVariables false
namespace Go.AL
open Go Go.RowKit

section
variable {P : Program} {Q : APostT} {α : AAct} {h : Heap}

/-- What is still to come, behind a name that simp does not open. -/
def Keep (K J : AAct → Heap → Prop) : Prop := ∀ α h, J α h → K α h
theorem Keep.go {K J : AAct → Heap → Prop} (k : Keep K J) {α : AAct} {h : Heap} (e : J α h) : K α h := k α h e
def KeepQ (K J : APostT) : Prop := ∀ e α h, J e α h → K e α h
theorem KeepQ.go {K J : APostT} (k : KeepQ K J) {e : Exit} {α : AAct} {h : Heap} (i : J e α h) : K e α h := k e α h i

theorem awp_seq_k {x y : Code} (e : ∀ K : AAct → Heap → Prop, Keep K (awp P y Q) → awp P x (AThen K Q) α h) : awp P (.seq x y) Q α h := awp_seq (e _ fun _ _ h => h)

theorem awp_cond' {c : Operand} {x y : Code} (e : ∃ t, α.ev P 0 c = .bool t ∧ (t = true → awp P x Q α h) ∧ (t = false → awp P y Q α h)) : awp P (.cond c x y) Q α h := by
  obtain ⟨t, h1, h2, h3⟩ := e
  exact awp_cond t h1 h2 h3
end

theorem acalls_of {P : Program} {f : FuncId} {fn : Func} {c : Code} {args : List AV} {h : Heap} {R : AV → Heap → Prop} {n : Nat} {rs : List ResultVar} (hf : P.funcs[f]? = some fn) (hb : fn.body = some c)
    (hn : fn.ntmps = n) (hrs : fn.results.toList = rs) (e : ∀ Q, KeepQ Q (BodyPost P rs R) → awp P c Q ⟨args ++ List.replicate (n - args.length) .any, []⟩ h) : ACalls P f args h R :=
  acalls_of_awp hf hb hn hrs (e _ fun _ _ _ h => h)

theorem ACalls.subR {P : Program} {f : FuncId} {args : List AV} {h : Heap} {R R' : AV → Heap → Prop} (hc : ACalls P f args h R) (hr : ∀ x h', R x h' → ∃ g, Sub g h' ∧ R' x g) : ACalls P f args h R' :=
  fun w0 F w cargs hi ha => (hc w0 F w cargs hi ha).mono fun _ _ ⟨v, F', x, h', e, h1, h2, h3, h4⟩ => by
    obtain ⟨g, hs, hg⟩ := hr x h' h4
    exact ⟨v, F', x, g, e, h1, h2.sub hs, h3, hg⟩

/-- One result, memory as it is wanted. -/
theorem BodyPost_ret1 {P : Program} {t : Tmp} {R : AV → Heap → Prop} {e : Exit} {α : AAct} {h : Heap} : BodyPost P [.tmp t] R e α h = ((e = .normal ∨ e = .ret) ∧ α.ds = [] ∧ R (α.s.getD t .any) h) := by
  simp [BodyPost, aresults, aresult]
theorem BodyPost_ret0 {P : Program} {R : AV → Heap → Prop} {e : Exit} {α : AAct} {h : Heap} : BodyPost P [] R e α h = ((e = .normal ∨ e = .ret) ∧ α.ds = [] ∧ R (.tup []) h) := by
  simp [BodyPost, aresults, aresult]
theorem BodyPost_ret2 {P : Program} {t u : Tmp} {R : AV → Heap → Prop} {e : Exit} {α : AAct} {h : Heap} : BodyPost P [.tmp t, .tmp u] R e α h = ((e = .normal ∨ e = .ret) ∧ α.ds = [] ∧ R (.tup [α.s.getD t .any, α.s.getD u .any]) h) := by
  simp [BodyPost, aresults, aresult]
theorem BodyPost_ret3 {P : Program} {t u v : Tmp} {R : AV → Heap → Prop} {e : Exit} {α : AAct} {h : Heap} : BodyPost P [.tmp t, .tmp u, .tmp v] R e α h = ((e = .normal ∨ e = .ret) ∧ α.ds = [] ∧ R (.tup [α.s.getD t .any, α.s.getD u .any, α.s.getD v .any]) h) := by
  simp [BodyPost, aresults, aresult]
theorem BodyPost_cell1 {P : Program} {p : Tmp} {t : TypeId} {R : AV → Heap → Prop} {e : Exit} {α : AAct} {h : Heap} : BodyPost P [.cell p t] R e α h =
    ((e = .normal ∨ e = .ret) ∧ α.ds = [] ∧ (loadAV P h t (α.s.getD p .any)).1 ∧ R (loadAV P h t (α.s.getD p .any)).2 h) := by
  unfold BodyPost
  refine propext ⟨?_, ?_⟩
  · rintro ⟨h1, h2, xs, ⟨h3, ys, h4, h5⟩, h6⟩
    simp only [aresults] at h5
    subst h5 h4
    exact ⟨h1, h2, h3, h6⟩
  · rintro ⟨h1, h2, h3, h4⟩
    exact ⟨h1, h2, [_], ⟨h3, [], rfl, rfl⟩, h4⟩

/-- A function that only computes. -/
theorem ACalls.pure {P : Program} {f : FuncId} {args : List AV} {x : AV} {h : Heap} (hc : ACalls P f args h fun y h' => y = x ∧ Sub h h') {R : AV → Heap → Prop} (hR : R x h) : ACalls P f args h R :=
  hc.subR fun y h' ⟨e, hs⟩ => ⟨h, hs, e ▸ hR⟩

theorem Cont_apply {K : AAct → Heap → Prop} {d : Option Tmp} {α : AAct} {x : AV} {h : Heap} : Cont K d α x h = K (α.put d x) h := rfl
theorem Back_apply {K : AAct → Heap → Prop} {G : List Nat} {α : AAct} {h h' : Heap} : Back G h K α h' = ((∀ b ∈ G, h b ≠ none → h' b = none) → K α (h'.plus G h)) := rfl

/-! ### Looking up -/

@[simp] theorem Heap.set_none {h : Heap} {a b : Nat} {x : Blk} : (h.set a x b = none) = (¬ a = b ∧ ¬ b = a ∧ h b = none) := by
  unfold Heap.set
  by_cases e : b = a
  · simp [e]
  · have e' : ¬ a = b := fun q => e q.symm
    simp [e, e']
theorem ne_of_fresh {h : Heap} {p b : Nat} {x : Blk} (hp : h p = some x) (hb : h b = none) : ¬ p = b := fun e => by rw [e, hb] at hp; cases hp
theorem Heap.set_get {h : Heap} {a b : Nat} {x : Blk} : h.set a x b = if b = a then some x else h b := rfl
@[simp] theorem Heap.only_get {h : Heap} {G : List Nat} {b : Nat} : h.only G b = if b ∈ G then h b else none := rfl
@[simp] theorem Heap.minus_get {h : Heap} {G : List Nat} {b : Nat} : h.minus G b = if b ∈ G then none else h b := rfl
@[simp] theorem Heap.plus_get {h h' : Heap} {G : List Nat} {b : Nat} : h'.plus G h b = if b ∈ G then h b else h' b := rfl
@[simp] theorem Heap.minus_plus {h : Heap} {G : List Nat} : (h.minus G).plus G h = h := by
  funext b; simp only [Heap.plus_get, Heap.minus_get]; split <;> simp_all
theorem Heap.plus_set {h h' : Heap} {G : List Nat} {b : Nat} {x : Blk} (hb : b ∉ G) : (h'.set b x).plus G h = (h'.plus G h).set b x := by
  funext c
  simp only [Heap.plus_get, Heap.set_get]
  by_cases e : c = b
  · subst e; simp [hb]
  · simp [e]
theorem Heap.set_comm {h : Heap} {a b : Nat} {x y : Blk} (e : ¬ a = b) : (h.set a x).set b y = (h.set b y).set a x := by
  funext c
  simp only [Heap.set_get]
  by_cases e1 : c = b
  · have : ¬ c = a := fun q => e (q.symm.trans e1)
    simp [e1]
    intro q; exact absurd q.symm e
  · simp [e1]

attribute [simp] Cont_apply Back_apply fvc_nil fvc_cons fstep rvc_nil rvc_cons ostep qvc svc_nil svc_cons sstep AThen ABlock guardAV AV.under AAct.put AAct.ev absC pev one two AV.val AV.ok okO okL argsA veff
  loadAV binAV binInt binStr isShift eqOp eqAV eqAVs pickAV pickV nilAV unAV convAV faddrAV fieldAV idxAddrAV idxAV extAV lenAV maxAV minAV loOf hiOf sliceAV fillA buildAV splice AV.cells AV.isCell
  BodyPost_ret1 BodyPost_ret0 BodyPost_ret2 BodyPost_ret3 BodyPost_cell1

/-- A loop of so many rounds at most, round by round. -/
def arounds (P : Program) (c : Code) (Q : APostT) : Nat → AAct → Heap → Prop
  | 0, _, _ => False
  | n + 1, α, h => awp P c (AThen (arounds P c Q n) Q) α h

theorem arounds_k {P : Program} {c : Code} {Q : APostT} {n : Nat} {α : AAct} {h : Heap} (e : ∀ K : AAct → Heap → Prop, Keep K (arounds P c Q n) → awp P c (AThen K Q) α h) : arounds P c Q (n + 1) α h :=
  e _ fun _ _ h => h

theorem awp_rounds {P : Program} {c : Code} {Q : APostT} {α : AAct} {h : Heap} (n : Nat) (e : arounds P c Q n α h) : awp P (.loop c) Q α h := by
  intro w0 F a w hi hr
  refine wp_loop_rounds n ?_
  have key : ∀ n α h F1 a w, Mono F F1 → Inv w0 F1 w h → RepA F1 a α → arounds P c Q n α h → Code.rounds P c (APost w0 F Q) n a w := by
    intro n
    induction n with
    | zero => intro α h F1 a w _ _ _ e; exact e
    | succ n ih =>
      intro α h F1 a w hm hi hr e
      rw [rounds_succ]
      refine wp_mono (e w0 F1 a w hi hr) ?_
      intro x a' w' ⟨F', α', h', k1, k2, k3, k4⟩
      cases x with
      | normal => exact ih α' h' F' a' w' (hm.trans k1) k2 k3 k4
      | exit id => exact ⟨F', α', h', hm.trans k1, k2, k3, k4⟩
      | goto l => exact ⟨F', α', h', hm.trans k1, k2, k3, k4⟩
      | ret => exact ⟨F', α', h', hm.trans k1, k2, k3, k4⟩
      | panic ch => exact ⟨F', α', h', hm.trans k1, k2, k3, k4⟩
      | outgrown => exact ⟨F', α', h', hm.trans k1, k2, k3, k4⟩
  exact key n α h F a w (.refl F) hi hr e

/-- A frame of which the slots in W are as x tells. -/
def hav (W : List Nat) (x : Nat → AV) : Nat → List AV → List AV
  | _, [] => []
  | i, a :: s => (if W.contains i then x i else a) :: hav W x (i + 1) s

theorem hav_self {W : List Nat} (s0 : List AV) : ∀ (i : Nat) (s : List AV), (∀ j, j < s.length → s0.getD (i + j) .any = s.getD j .any) → hav W (fun k => s0.getD k .any) i s = s
  | _, [], _ => rfl
  | i, a :: s, h => by
    have h0 := h 0 (by simp)
    simp only [Nat.add_zero, List.getD_cons_zero] at h0
    simp only [hav, h0, ite_self]
    rw [hav_self s0 (i + 1) s (fun j hj => by have := h (j + 1) (by simpa using hj); simpa [Nat.add_assoc, Nat.add_comm 1 j] using this)]

/-- Rounds that write the slots in W alone; what is asked of memory may be less than what is there. -/
def AgainAt (W : List Nat) (α : AAct) (n : Nat) (I : Nat → (Nat → AV) → Heap → Prop) (α' : AAct) (h' : Heap) : Prop :=
  α'.s = hav W (fun i => α'.s.getD i .any) 0 α.s ∧ α'.ds = α.ds ∧ ∃ m g, m < n ∧ Sub g h' ∧ I m (fun i => α'.s.getD i .any) g

theorem awp_loop_h {P : Program} {c : Code} {Q : APostT} {α : AAct} {h : Heap} (W : List Nat) (I : Nat → (Nat → AV) → Heap → Prop) (n₀ : Nat) (h₀ : I n₀ (fun i => α.s.getD i .any) h)
    (round : ∀ n x g, I n x g → ∀ K, Keep K (AgainAt W α n I) → awp P c (AThen K Q) ⟨hav W x 0 α.s, α.ds⟩ g) : awp P (.loop c) Q α h := by
  refine awp_loop (fun n α' h' => ∃ g x, Sub g h' ∧ α' = ⟨hav W x 0 α.s, α.ds⟩ ∧ I n x g) n₀ ⟨h, fun i => α.s.getD i .any, Sub.refl h, ?_, h₀⟩ ?_
  · rw [hav_self α.s 0 α.s (fun j _ => by simp)]
  · intro n α' h' ⟨g, x, hs, e, hI⟩
    subst e
    refine awp_mono ?_ (awp_sub hs (round n x g hI _ fun _ _ h => h))
    intro e α' h' hq
    cases e with
    | normal =>
      obtain ⟨h1, h2, m, g', h3, h4, h5⟩ := hq
      refine ⟨m, h3, g', _, h4, ?_, h5⟩
      obtain ⟨s', ds'⟩ := α'
      simp only at h1 h2
      subst h2
      rw [← h1]
    | exit id => exact hq
    | goto l => exact hq
    | ret => exact hq
    | panic ch => exact hq
    | outgrown => exact hq

/-- Where an array's elements lie. -/
theorem placeT_array {P : Program} {t n e sz : Nat} (h : elemT P t = some (.array n, e, sz)) (i : Nat) : placeT P t i = some (i * sz, sz) := by
  unfold elemT at h
  unfold placeT
  split at h
  · cases hx : P.info? ‹TypeId› <;> simp [hx] at h
  · rename_i m e' hu
    cases hx : P.info? e' with
    | none => simp [hx] at h
    | some j =>
      simp [hx] at h
      simp [hu, hx, h.2.2]
  · cases h
  · cases h

end Go.AL
