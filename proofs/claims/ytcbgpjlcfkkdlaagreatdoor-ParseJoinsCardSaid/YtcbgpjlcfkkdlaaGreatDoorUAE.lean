import Derived.Test.YtcbgpjlcfkkdlaaGreatDoorUAD
import Derived.LoopN
set_option linter.unusedSimpArgs false
set_option linter.unusedVariables false
namespace Go.AL
open Go Go.RowKit
section
variable {P : Program} {Q : APostT} {α : AAct} {h : Heap}
-- No propositions: so that simp passes over them.
structure Keep (K J : AAct → Heap → Prop) : Type where
 keep : ∀ α h, J α h → K α h
theorem Keep.go {K J : AAct → Heap → Prop} (k : Keep K J) {α : AAct} {h : Heap} (e : J α h) : K α h := k.keep α h e
structure KeepQ (K J : APostT) : Type where
 keep : ∀ e α h, J e α h → K e α h
theorem KeepQ.go {K J : APostT} (k : KeepQ K J) {e : Exit} {α : AAct} {h : Heap} (i : J e α h) : K e α h := k.keep e α h i
theorem awp_seq_k {x y : Code} (e : ∀ K : AAct → Heap → Prop, Keep K (awp P y Q) → awp P x (AThen K Q) α h) : awp P (.seq x y) Q α h := awp_seq (e _ ⟨fun _ _ h => h⟩)
def AV.asBool : AV → Bool
 | .bool b => b
 | _ => false
def AV.isBool : AV → Bool
 | .bool _ => true
 | _ => false
theorem awp_cond' {c : Operand} {x y : Code} (e : (α.ev P 0 c).isBool = true ∧ ((α.ev P 0 c).asBool = true → awp P x Q α h) ∧ ((α.ev P 0 c).asBool = false → awp P y Q α h)) : awp P (.cond c x y) Q α h := by
 obtain ⟨h1, h2, h3⟩ := e
 generalize hx : α.ev P 0 c = v at h1 h2 h3
 cases v <;> first | (simp [AV.isBool] at h1; done) | skip
 exact awp_cond _ hx h2 h3
end
theorem acalls_of {P : Program} {f : FuncId} {fn : Func} {c : Code} {args : List AV} {h : Heap} {R : AV → Heap → Prop} {n : Nat} {rs : List ResultVar} (hf : P.funcs[f]? = some fn) (hb : fn.body = some c)
  (hn : fn.ntmps = n) (hrs : fn.results.toList = rs) (e : ∀ Q, KeepQ Q (BodyPost P rs R) → awp P c Q ⟨args ++ List.replicate (n - args.length) .any, []⟩ h) : ACalls P f args h R :=
 acalls_of_awp hf hb hn hrs (e _ ⟨fun _ _ _ h => h⟩)
theorem ACalls.subR {P : Program} {f : FuncId} {args : List AV} {h : Heap} {R R' : AV → Heap → Prop} (hc : ACalls P f args h R) (hr : ∀ x h', R x h' → ∃ g, Sub g h' ∧ R' x g) : ACalls P f args h R' :=
 fun w0 F w cargs hi ha => (hc w0 F w cargs hi ha).mono fun _ _ ⟨v, F', x, h', e, h1, h2, h3, h4⟩ => by
  obtain ⟨g, hs, hg⟩ := hr x h' h4
  exact ⟨v, F', x, g, e, h1, h2.sub hs, h3, hg⟩
theorem BodyPost_ret1 {P : Program} {t : Tmp} {R : AV → Heap → Prop} {e : Exit} {α : AAct} {h : Heap} : BodyPost P [.tmp t] R e α h = ((e = .normal ∨ e = .ret) ∧ α.ds = [] ∧ R (α.s.getD t .any) h) := by
 simp [BodyPost, aresults, aresult]
theorem BodyPost_ret0 {P : Program} {R : AV → Heap → Prop} {e : Exit} {α : AAct} {h : Heap} : BodyPost P [] R e α h = ((e = .normal ∨ e = .ret) ∧ α.ds = [] ∧ R (.tup []) h) := by
 simp [BodyPost, aresults, aresult]
theorem BodyPost_ret2 {P : Program} {t u : Tmp} {R : AV → Heap → Prop} {e : Exit} {α : AAct} {h : Heap} : BodyPost P [.tmp t, .tmp u] R e α h = ((e = .normal ∨ e = .ret) ∧ α.ds = [] ∧ R (.tup [α.s.getD t .any, α.s.getD u .any]) h) := by
 simp [BodyPost, aresults, aresult]
theorem BodyPost_ret3 {P : Program} {t u v : Tmp} {R : AV → Heap → Prop} {e : Exit} {α : AAct} {h : Heap} : BodyPost P [.tmp t, .tmp u, .tmp v] R e α h = ((e = .normal ∨ e = .ret) ∧ α.ds = [] ∧ R (.tup [α.s.getD t .any, α.s.getD u .any, α.s.getD v .any]) h) := by
 simp [BodyPost, aresults, aresult]
theorem BodyPost_cell1 {P : Program} {p : Tmp} {t : TypeId} {R : AV → Heap → Prop} {e : Exit} {α : AAct} {h : Heap} : BodyPost P [.cell p t] R e α h =
  ((e = .normal ∨ e = .ret) ∧ α.ds = [] ∧ (loadAV P h t (α.s.getD p .any)).1 ∧ R (loadAV P h t (α.s.getD p .any)).2 h) := by
 unfold BodyPost
 refine propext ⟨?_, ?_⟩
 ·rintro ⟨h1, h2, xs, ⟨h3, ys, h4, h5⟩, h6⟩
  simp only [aresults] at h5
  subst h5 h4
  exact ⟨h1, h2, h3, h6⟩
 ·rintro ⟨h1, h2, h3, h4⟩
  exact ⟨h1, h2, [_], ⟨h3, [], rfl, rfl⟩, h4⟩
theorem ACalls.pure {P : Program} {f : FuncId} {args : List AV} {x : AV} {h : Heap} (hc : ACalls P f args h fun y h' => y = x ∧ Sub h h') {R : AV → Heap → Prop} (hR : R x h) : ACalls P f args h R :=
 hc.subR fun y h' ⟨e, hs⟩ => ⟨h, hs, e ▸ hR⟩
theorem Cont_apply {K : AAct → Heap → Prop} {d : Option Tmp} {α : AAct} {x : AV} {h : Heap} : Cont K d α x h = K (α.put d x) h := rfl
theorem Back_apply {K : AAct → Heap → Prop} {G : List Nat} {α : AAct} {h h' : Heap} : Back G h K α h' = ((∀ b ∈ G, IsCells (h b) → h' b = none) → K α (h'.plus G h)) := rfl
theorem and_ri {q X Y : Prop} (h1 : X) (h2 : q → Y) : X ∧ (q → Y) := ⟨h1, h2⟩
theorem and_li {q X Y : Prop} (h1 : q → Y) (h2 : X) : (q → Y) ∧ X := ⟨h1, h2⟩
theorem and_lf {q X Y : Prop} (h1 : q → False) (h2 : X) : (q → Y) ∧ X := ⟨fun h => (h1 h).elim, h2⟩
theorem and_rf {q X Y : Prop} (h1 : X) (h2 : q → False) : X ∧ (q → Y) := ⟨h1, fun h => (h2 h).elim⟩
theorem or_split {p X Y : Prop} (h1 : p → X) (h2 : ¬ p → Y) : (p ∧ X) ∨ (¬ p ∧ Y) := by
 by_cases h : p
 ·exact .inl ⟨h, h1 h⟩
 ·exact .inr ⟨h, h2 h⟩
@[simp] theorem Heap.set_none {h : Heap} {a b : Nat} {x : Blk} : (h.set a x b = none) = (¬ a = b ∧ ¬ b = a ∧ h b = none) := by
 unfold Heap.set
 by_cases e : b = a
 ·simp [e]
 ·have e' : ¬ a = b := fun q => e q.symm
  simp [e, e']
theorem ne_of_fresh {h : Heap} {p b : Nat} {x : Blk} (hp : h p = some x) (hb : h b = none) : ¬ p = b := fun e => by rw [e, hb] at hp; cases hp
theorem Heap.set_get {h : Heap} {a b : Nat} {x : Blk} : h.set a x b = if b = a then some x else h b := rfl
@[simp] theorem Heap.only_get {h : Heap} {G : List Nat} {b : Nat} : h.only G b = if b ∈ G then h b else none := rfl
@[simp] theorem Heap.minus_get {h : Heap} {G : List Nat} {b : Nat} : h.minus G b = if b ∈ G then none else h b := rfl
@[simp] theorem Heap.plus_get {h h' : Heap} {G : List Nat} {b : Nat} : h'.plus G h b = if b ∈ G then h b else h' b := rfl
@[simp] theorem Heap.minus_plus {h : Heap} {G : List Nat} : (h.minus G).plus G h = h := by
 funext b; simp only [Heap.plus_get, Heap.minus_get]; split <;> simp_all
theorem Heap.plus_set {h h' : Heap} {G : List Nat} {b : Nat} {x : Blk} (hb : b ∉ G) : (h'.set b x).plus G h = (h'.plus G h).set b x := by
 funext c
 simp only [Heap.plus_get, Heap.set_get]
 by_cases e : c = b
 ·subst e; simp [hb]
 ·simp [e]
@[simp high] theorem pickV_true (x y : AV) : pickV true x y = x := by
 cases x <;> cases y <;> simp [pickV]
@[simp high] theorem pickV_false (x y : AV) : pickV false x y = y := by
 cases x <;> cases y <;> simp [pickV]
attribute [simp] Cont_apply Back_apply fvc_nil fvc_cons fstep rvc_nil rvc_cons ostep qvc svc_nil svc_cons sstep AThen ABlock guardAV AAct.known AV.asBool AV.isBool AV.under AV.cond AV.body AAct.put AAct.ev absC pev one two AV.val AV.ok okO okL argsA veff litK litParts chunk makeK makeL appendK appendL nilQ rowsOf notB TokIn Tok.rid
 loadAV binAV binInt binStr isShift eqOp eqAV eqAVs pickAV nilAV unAV convAV faddrAV fieldAV idxAddrAV idxAV extAV lenAV maxAV minAV loOf hiOf sliceAV fillA buildAV splice AV.cells AV.isCell
 BodyPost_ret1 BodyPost_ret0 BodyPost_ret2 BodyPost_ret3 BodyPost_cell1
@[simp] theorem pickV_b (t a b : Bool) : pickV t (.bool a) (.bool b) = .bool (if t then a else b) := rfl
@[simp] theorem pickV_s (t : Bool) (a b : List UInt8) : pickV t (.str a) (.str b) = .str (if t then a else b) := rfl
@[simp] theorem pickV_i (t : Bool) (k : IntKind) (a b : Int) : pickV t (.int k a) (.int k b) = .int k (if t then a else b) := by simp [pickV]
def arounds (P : Program) (c : Code) (Q : APostT) : Nat → AAct → Heap → Prop
 | 0, _, _ => False
 | n + 1, α, h => awp P c (AThen (arounds P c Q n) Q) α h
theorem arounds_k {P : Program} {c : Code} {Q : APostT} {n : Nat} {α : AAct} {h : Heap} (e : ∀ K : AAct → Heap → Prop, Keep K (arounds P c Q n) → awp P c (AThen K Q) α h) : arounds P c Q (n + 1) α h :=
 e _ ⟨fun _ _ h => h⟩
def hav : List Nat → (Nat → AV) → Nat → List AV → List AV
 | _, _, _, [] => []
 | [], _, _, a :: s => a :: s
 | w :: W, x, i, a :: s => if w = i then x i :: hav W x (i + 1) s else a :: hav (w :: W) x (i + 1) s
theorem hav_nil {x : Nat → AV} {i : Nat} {s : List AV} : hav [] x i s = s := by cases s <;> rfl
theorem hav_end {W : List Nat} {x : Nat → AV} {i : Nat} : hav W x i [] = [] := by cases W <;> rfl
theorem hav_cons {w : Nat} {W : List Nat} {x : Nat → AV} {i : Nat} {a : AV} {s : List AV} : hav (w :: W) x i (a :: s) = if w = i then x i :: hav W x (i + 1) s else a :: hav (w :: W) x (i + 1) s := rfl
theorem hav_self (s0 : List AV) : ∀ (W : List Nat) (i : Nat) (s : List AV), (∀ j, j < s.length → s0.getD (i + j) .any = s.getD j .any) → hav W (fun k => s0.getD k .any) i s = s
 | W, _, [], _ => hav_end
 | [], _, _ :: _, _ => rfl
 | w :: W, i, a :: s, h => by
  have h0 := h 0 (by simp)
  simp only [Nat.add_zero, List.getD_cons_zero] at h0
  have hr : ∀ j, j < s.length → s0.getD (i + 1 + j) .any = s.getD j .any := fun j hj => by have := h (j + 1) (by simpa using hj); simpa [Nat.add_assoc, Nat.add_comm 1 j] using this
  rw [hav_cons, h0]
  split
  ·rw [hav_self s0 W (i + 1) s hr]
  ·rw [hav_self s0 (w :: W) (i + 1) s hr]
def AgainAt (W : List Nat) (α : AAct) (n : Nat) (I : Nat → (Nat → AV) → Heap → Prop) (α' : AAct) (h' : Heap) : Prop :=
 α'.s = hav W (fun i => α'.s.getD i .any) 0 α.s ∧ α'.ds = α.ds ∧ ∃ m g, m < n ∧ Sub g h' ∧ I m (fun i => α'.s.getD i .any) g
theorem awp_loop_h {P : Program} {c : Code} {Q : APostT} {α : AAct} {h : Heap} (W : List Nat) (I : Nat → (Nat → AV) → Heap → Prop) (n₀ : Nat) (h₀ : I n₀ (fun i => α.s.getD i .any) h)
  (round : ∀ n x g, I n x g → ∀ K, Keep K (AgainAt W α n I) → awp P c (AThen K Q) ⟨hav W x 0 α.s, α.ds⟩ g) : awp P (.loop c) Q α h := by
 refine awp_loop (fun n α' h' => ∃ g x, Sub g h' ∧ α' = ⟨hav W x 0 α.s, α.ds⟩ ∧ I n x g) n₀ ⟨h, fun i => α.s.getD i .any, Sub.refl h, ?_, h₀⟩ ?_
 ·rw [hav_self α.s W 0 α.s (fun j _ => by simp)]
 ·intro n α' h' ⟨g, x, hs, e, hI⟩
  subst e
  refine awp_mono ?_ (awp_sub hs (round n x g hI _ ⟨fun _ _ h => h⟩))
  intro e α' h' hq
  cases e with
  | normal =>
   obtain ⟨h1, h2, m, g', h3, h4, h5⟩ := hq
   refine ⟨m, h3, g', _, h4, ?_, h5⟩
   obtain ⟨s', ds'⟩ := α'
   simp only at h1 h2
   subst h2
   rw [← h1]
  | exit id => exact hq
  | goto l => exact hq
  | ret => exact hq
  | panic ch => exact hq
  | outgrown => exact hq
@[simp] theorem Heap.del_get {h : Heap} {a b : Nat} : h.del a b = if b = a then none else h b := rfl
theorem placeT_slice {P : Program} {t e sz : Nat} (h : elemT P t = some (.slice, e, sz)) (i : Nat) : placeT P t i = some (i * sz, sz) := by
 obtain ⟨j, h1, h2, h3⟩ := elemT_slice h
 unfold placeT
 simp [h1, h2, h3]
@[simp] theorem NilK_nil {K : AV → Heap → Prop} {h : Heap} {sz : Nat} {rows : List (List AV)} {tok : Tok} : NilK K h sz rows [] tok = K (.list sz rows tok) h := by simp [NilK]
@[simp] theorem NilK_cons {K : AV → Heap → Prop} {h : Heap} {sz : Nat} {rows rows2 : List (List AV)} {r : List AV} {tok : Tok} : NilK K h sz rows (r :: rows2) tok = ((TokIn h tok ∧ GrowK K h sz (rows ++ r :: rows2) tok) ∨ GrowA K h sz (rows ++ r :: rows2) tok) := by simp [NilK]
theorem MakeK.arr {K : AV → Heap → Prop} {h : Heap} {sz : Nat} {z : List AV} {l c : Int} (e : ∀ b, Fresh h b → K (.arr b 0 l.toNat c.toNat) (h.set b (.cells (List.replicate c.toNat z).flatten))) : MakeK K h sz z l c := .inl e
theorem MakeK.list {K : AV → Heap → Prop} {h : Heap} {sz : Nat} {z : List AV} {c : Int} (e : ∀ b, Fresh h b → K (.list sz [] (.own b 0 (c.toNat * sz))) (h.set b (.spare 0 (c.toNat * sz)))) : MakeK K h sz z 0 c := .inr ⟨rfl, e⟩
theorem gint_set {h : Heap} {b c : Nat} {x : Blk} (hb : h b = none) (hc : h c = some .gint) : h.set b x c = some .gint := by
 have : c ≠ b := fun e => by rw [e, hb] at hc; cases hc
 rw [Heap.set_other _ _ _ _ this]; exact hc
@[simp] theorem getD_blk16 (a0 a1 a2 a3 a4 a5 a6 a7 a8 a9 a10 a11 a12 a13 a14 a15 : AV) (l : List AV) (n : Nat) (d : AV) : List.getD (a0 :: a1 :: a2 :: a3 :: a4 :: a5 :: a6 :: a7 :: a8 :: a9 :: a10 :: a11 :: a12 :: a13 :: a14 :: a15 :: l) (n + 16) d = List.getD l n d := rfl
@[simp] theorem set_blk16 (a0 a1 a2 a3 a4 a5 a6 a7 a8 a9 a10 a11 a12 a13 a14 a15 : AV) (l : List AV) (n : Nat) (x : AV) : List.set (a0 :: a1 :: a2 :: a3 :: a4 :: a5 :: a6 :: a7 :: a8 :: a9 :: a10 :: a11 :: a12 :: a13 :: a14 :: a15 :: l) (n + 16) x = a0 :: a1 :: a2 :: a3 :: a4 :: a5 :: a6 :: a7 :: a8 :: a9 :: a10 :: a11 :: a12 :: a13 :: a14 :: a15 :: List.set l n x := rfl
@[simp high] theorem getD_blk64 (a0 a1 a2 a3 a4 a5 a6 a7 a8 a9 a10 a11 a12 a13 a14 a15 a16 a17 a18 a19 a20 a21 a22 a23 a24 a25 a26 a27 a28 a29 a30 a31 a32 a33 a34 a35 a36 a37 a38 a39 a40 a41 a42 a43 a44 a45 a46 a47 a48 a49 a50 a51 a52 a53 a54 a55 a56 a57 a58 a59 a60 a61 a62 a63 : AV) (l : List AV) (n : Nat) (d : AV) : List.getD (a0 :: a1 :: a2 :: a3 :: a4 :: a5 :: a6 :: a7 :: a8 :: a9 :: a10 :: a11 :: a12 :: a13 :: a14 :: a15 :: a16 :: a17 :: a18 :: a19 :: a20 :: a21 :: a22 :: a23 :: a24 :: a25 :: a26 :: a27 :: a28 :: a29 :: a30 :: a31 :: a32 :: a33 :: a34 :: a35 :: a36 :: a37 :: a38 :: a39 :: a40 :: a41 :: a42 :: a43 :: a44 :: a45 :: a46 :: a47 :: a48 :: a49 :: a50 :: a51 :: a52 :: a53 :: a54 :: a55 :: a56 :: a57 :: a58 :: a59 :: a60 :: a61 :: a62 :: a63 :: l) (n + 64) d = List.getD l n d := rfl
@[simp high] theorem set_blk64 (a0 a1 a2 a3 a4 a5 a6 a7 a8 a9 a10 a11 a12 a13 a14 a15 a16 a17 a18 a19 a20 a21 a22 a23 a24 a25 a26 a27 a28 a29 a30 a31 a32 a33 a34 a35 a36 a37 a38 a39 a40 a41 a42 a43 a44 a45 a46 a47 a48 a49 a50 a51 a52 a53 a54 a55 a56 a57 a58 a59 a60 a61 a62 a63 : AV) (l : List AV) (n : Nat) (x : AV) : List.set (a0 :: a1 :: a2 :: a3 :: a4 :: a5 :: a6 :: a7 :: a8 :: a9 :: a10 :: a11 :: a12 :: a13 :: a14 :: a15 :: a16 :: a17 :: a18 :: a19 :: a20 :: a21 :: a22 :: a23 :: a24 :: a25 :: a26 :: a27 :: a28 :: a29 :: a30 :: a31 :: a32 :: a33 :: a34 :: a35 :: a36 :: a37 :: a38 :: a39 :: a40 :: a41 :: a42 :: a43 :: a44 :: a45 :: a46 :: a47 :: a48 :: a49 :: a50 :: a51 :: a52 :: a53 :: a54 :: a55 :: a56 :: a57 :: a58 :: a59 :: a60 :: a61 :: a62 :: a63 :: l) (n + 64) x = a0 :: a1 :: a2 :: a3 :: a4 :: a5 :: a6 :: a7 :: a8 :: a9 :: a10 :: a11 :: a12 :: a13 :: a14 :: a15 :: a16 :: a17 :: a18 :: a19 :: a20 :: a21 :: a22 :: a23 :: a24 :: a25 :: a26 :: a27 :: a28 :: a29 :: a30 :: a31 :: a32 :: a33 :: a34 :: a35 :: a36 :: a37 :: a38 :: a39 :: a40 :: a41 :: a42 :: a43 :: a44 :: a45 :: a46 :: a47 :: a48 :: a49 :: a50 :: a51 :: a52 :: a53 :: a54 :: a55 :: a56 :: a57 :: a58 :: a59 :: a60 :: a61 :: a62 :: a63 :: List.set l n x := rfl
@[simp high] theorem getD_at0 (a0 : AV) (l : List AV) (d : AV) : List.getD (a0 :: l) 0 d = a0 := rfl
@[simp high] theorem set_at0 (a0 : AV) (l : List AV) (x : AV) : List.set (a0 :: l) 0 x = x :: l := rfl
@[simp high] theorem getD_at1 (a0 a1 : AV) (l : List AV) (d : AV) : List.getD (a0 :: a1 :: l) 1 d = a1 := rfl
@[simp high] theorem set_at1 (a0 a1 : AV) (l : List AV) (x : AV) : List.set (a0 :: a1 :: l) 1 x = a0 :: x :: l := rfl
@[simp high] theorem getD_at2 (a0 a1 a2 : AV) (l : List AV) (d : AV) : List.getD (a0 :: a1 :: a2 :: l) 2 d = a2 := rfl
@[simp high] theorem set_at2 (a0 a1 a2 : AV) (l : List AV) (x : AV) : List.set (a0 :: a1 :: a2 :: l) 2 x = a0 :: a1 :: x :: l := rfl
@[simp high] theorem getD_at3 (a0 a1 a2 a3 : AV) (l : List AV) (d : AV) : List.getD (a0 :: a1 :: a2 :: a3 :: l) 3 d = a3 := rfl
@[simp high] theorem set_at3 (a0 a1 a2 a3 : AV) (l : List AV) (x : AV) : List.set (a0 :: a1 :: a2 :: a3 :: l) 3 x = a0 :: a1 :: a2 :: x :: l := rfl
@[simp high] theorem getD_at4 (a0 a1 a2 a3 a4 : AV) (l : List AV) (d : AV) : List.getD (a0 :: a1 :: a2 :: a3 :: a4 :: l) 4 d = a4 := rfl
@[simp high] theorem set_at4 (a0 a1 a2 a3 a4 : AV) (l : List AV) (x : AV) : List.set (a0 :: a1 :: a2 :: a3 :: a4 :: l) 4 x = a0 :: a1 :: a2 :: a3 :: x :: l := rfl
@[simp high] theorem getD_at5 (a0 a1 a2 a3 a4 a5 : AV) (l : List AV) (d : AV) : List.getD (a0 :: a1 :: a2 :: a3 :: a4 :: a5 :: l) 5 d = a5 := rfl
@[simp high] theorem set_at5 (a0 a1 a2 a3 a4 a5 : AV) (l : List AV) (x : AV) : List.set (a0 :: a1 :: a2 :: a3 :: a4 :: a5 :: l) 5 x = a0 :: a1 :: a2 :: a3 :: a4 :: x :: l := rfl
@[simp high] theorem getD_at6 (a0 a1 a2 a3 a4 a5 a6 : AV) (l : List AV) (d : AV) : List.getD (a0 :: a1 :: a2 :: a3 :: a4 :: a5 :: a6 :: l) 6 d = a6 := rfl
@[simp high] theorem set_at6 (a0 a1 a2 a3 a4 a5 a6 : AV) (l : List AV) (x : AV) : List.set (a0 :: a1 :: a2 :: a3 :: a4 :: a5 :: a6 :: l) 6 x = a0 :: a1 :: a2 :: a3 :: a4 :: a5 :: x :: l := rfl
@[simp high] theorem getD_at7 (a0 a1 a2 a3 a4 a5 a6 a7 : AV) (l : List AV) (d : AV) : List.getD (a0 :: a1 :: a2 :: a3 :: a4 :: a5 :: a6 :: a7 :: l) 7 d = a7 := rfl
@[simp high] theorem set_at7 (a0 a1 a2 a3 a4 a5 a6 a7 : AV) (l : List AV) (x : AV) : List.set (a0 :: a1 :: a2 :: a3 :: a4 :: a5 :: a6 :: a7 :: l) 7 x = a0 :: a1 :: a2 :: a3 :: a4 :: a5 :: a6 :: x :: l := rfl
@[simp high] theorem getD_at8 (a0 a1 a2 a3 a4 a5 a6 a7 a8 : AV) (l : List AV) (d : AV) : List.getD (a0 :: a1 :: a2 :: a3 :: a4 :: a5 :: a6 :: a7 :: a8 :: l) 8 d = a8 := rfl
@[simp high] theorem set_at8 (a0 a1 a2 a3 a4 a5 a6 a7 a8 : AV) (l : List AV) (x : AV) : List.set (a0 :: a1 :: a2 :: a3 :: a4 :: a5 :: a6 :: a7 :: a8 :: l) 8 x = a0 :: a1 :: a2 :: a3 :: a4 :: a5 :: a6 :: a7 :: x :: l := rfl
@[simp high] theorem getD_at9 (a0 a1 a2 a3 a4 a5 a6 a7 a8 a9 : AV) (l : List AV) (d : AV) : List.getD (a0 :: a1 :: a2 :: a3 :: a4 :: a5 :: a6 :: a7 :: a8 :: a9 :: l) 9 d = a9 := rfl
@[simp high] theorem set_at9 (a0 a1 a2 a3 a4 a5 a6 a7 a8 a9 : AV) (l : List AV) (x : AV) : List.set (a0 :: a1 :: a2 :: a3 :: a4 :: a5 :: a6 :: a7 :: a8 :: a9 :: l) 9 x = a0 :: a1 :: a2 :: a3 :: a4 :: a5 :: a6 :: a7 :: a8 :: x :: l := rfl
@[simp high] theorem getD_at10 (a0 a1 a2 a3 a4 a5 a6 a7 a8 a9 a10 : AV) (l : List AV) (d : AV) : List.getD (a0 :: a1 :: a2 :: a3 :: a4 :: a5 :: a6 :: a7 :: a8 :: a9 :: a10 :: l) 10 d = a10 := rfl
@[simp high] theorem set_at10 (a0 a1 a2 a3 a4 a5 a6 a7 a8 a9 a10 : AV) (l : List AV) (x : AV) : List.set (a0 :: a1 :: a2 :: a3 :: a4 :: a5 :: a6 :: a7 :: a8 :: a9 :: a10 :: l) 10 x = a0 :: a1 :: a2 :: a3 :: a4 :: a5 :: a6 :: a7 :: a8 :: a9 :: x :: l := rfl
@[simp high] theorem getD_at11 (a0 a1 a2 a3 a4 a5 a6 a7 a8 a9 a10 a11 : AV) (l : List AV) (d : AV) : List.getD (a0 :: a1 :: a2 :: a3 :: a4 :: a5 :: a6 :: a7 :: a8 :: a9 :: a10 :: a11 :: l) 11 d = a11 := rfl
@[simp high] theorem set_at11 (a0 a1 a2 a3 a4 a5 a6 a7 a8 a9 a10 a11 : AV) (l : List AV) (x : AV) : List.set (a0 :: a1 :: a2 :: a3 :: a4 :: a5 :: a6 :: a7 :: a8 :: a9 :: a10 :: a11 :: l) 11 x = a0 :: a1 :: a2 :: a3 :: a4 :: a5 :: a6 :: a7 :: a8 :: a9 :: a10 :: x :: l := rfl
@[simp high] theorem getD_at12 (a0 a1 a2 a3 a4 a5 a6 a7 a8 a9 a10 a11 a12 : AV) (l : List AV) (d : AV) : List.getD (a0 :: a1 :: a2 :: a3 :: a4 :: a5 :: a6 :: a7 :: a8 :: a9 :: a10 :: a11 :: a12 :: l) 12 d = a12 := rfl
@[simp high] theorem set_at12 (a0 a1 a2 a3 a4 a5 a6 a7 a8 a9 a10 a11 a12 : AV) (l : List AV) (x : AV) : List.set (a0 :: a1 :: a2 :: a3 :: a4 :: a5 :: a6 :: a7 :: a8 :: a9 :: a10 :: a11 :: a12 :: l) 12 x = a0 :: a1 :: a2 :: a3 :: a4 :: a5 :: a6 :: a7 :: a8 :: a9 :: a10 :: a11 :: x :: l := rfl
@[simp high] theorem getD_at13 (a0 a1 a2 a3 a4 a5 a6 a7 a8 a9 a10 a11 a12 a13 : AV) (l : List AV) (d : AV) : List.getD (a0 :: a1 :: a2 :: a3 :: a4 :: a5 :: a6 :: a7 :: a8 :: a9 :: a10 :: a11 :: a12 :: a13 :: l) 13 d = a13 := rfl
@[simp high] theorem set_at13 (a0 a1 a2 a3 a4 a5 a6 a7 a8 a9 a10 a11 a12 a13 : AV) (l : List AV) (x : AV) : List.set (a0 :: a1 :: a2 :: a3 :: a4 :: a5 :: a6 :: a7 :: a8 :: a9 :: a10 :: a11 :: a12 :: a13 :: l) 13 x = a0 :: a1 :: a2 :: a3 :: a4 :: a5 :: a6 :: a7 :: a8 :: a9 :: a10 :: a11 :: a12 :: x :: l := rfl
@[simp high] theorem getD_at14 (a0 a1 a2 a3 a4 a5 a6 a7 a8 a9 a10 a11 a12 a13 a14 : AV) (l : List AV) (d : AV) : List.getD (a0 :: a1 :: a2 :: a3 :: a4 :: a5 :: a6 :: a7 :: a8 :: a9 :: a10 :: a11 :: a12 :: a13 :: a14 :: l) 14 d = a14 := rfl
@[simp high] theorem set_at14 (a0 a1 a2 a3 a4 a5 a6 a7 a8 a9 a10 a11 a12 a13 a14 : AV) (l : List AV) (x : AV) : List.set (a0 :: a1 :: a2 :: a3 :: a4 :: a5 :: a6 :: a7 :: a8 :: a9 :: a10 :: a11 :: a12 :: a13 :: a14 :: l) 14 x = a0 :: a1 :: a2 :: a3 :: a4 :: a5 :: a6 :: a7 :: a8 :: a9 :: a10 :: a11 :: a12 :: a13 :: x :: l := rfl
@[simp high] theorem getD_at15 (a0 a1 a2 a3 a4 a5 a6 a7 a8 a9 a10 a11 a12 a13 a14 a15 : AV) (l : List AV) (d : AV) : List.getD (a0 :: a1 :: a2 :: a3 :: a4 :: a5 :: a6 :: a7 :: a8 :: a9 :: a10 :: a11 :: a12 :: a13 :: a14 :: a15 :: l) 15 d = a15 := rfl
@[simp high] theorem set_at15 (a0 a1 a2 a3 a4 a5 a6 a7 a8 a9 a10 a11 a12 a13 a14 a15 : AV) (l : List AV) (x : AV) : List.set (a0 :: a1 :: a2 :: a3 :: a4 :: a5 :: a6 :: a7 :: a8 :: a9 :: a10 :: a11 :: a12 :: a13 :: a14 :: a15 :: l) 15 x = a0 :: a1 :: a2 :: a3 :: a4 :: a5 :: a6 :: a7 :: a8 :: a9 :: a10 :: a11 :: a12 :: a13 :: a14 :: x :: l := rfl
def View (x : AV) (h : Heap) (y : AV) (g : Heap) : Prop := ∀ (w0 : Base) (F : Fin) (w : World) (v : Value), Inv w0 F w h → Rep F v x → ∃ F', Mono F F' ∧ Inv w0 F' w g ∧ Rep F' v y
def Weak (x y : AV) : Prop := ∀ (F : Fin) (v : Value), Rep F v x → Rep F v y
theorem View.of {x y : AV} {h g : Heap} (hw : Weak x y) (hs : Sub g h) : View x h y g := fun _ F _ v hi hr => ⟨F, .refl F, hi.sub hs, hw F v hr⟩
theorem View.trans {x y z : AV} {h g k : Heap} (h1 : View x h y g) (h2 : View y g z k) : View x h z k := fun w0 F w v hi hr => by
 obtain ⟨F', m1, i1, r1⟩ := h1 w0 F w v hi hr
 obtain ⟨F2, m2, i2, r2⟩ := h2 w0 F' w v i1 r1
 exact ⟨F2, m1.trans m2, i2, r2⟩
theorem Weak.refl (x : AV) : Weak x x := fun _ _ h => h
theorem Weak.any (x : AV) : Weak x .any := fun _ v _ => .any v
theorem Weak.tok (sz : Nat) (rows : List (List AV)) (t : Tok) : Weak (.list sz rows t) (.list sz rows .no) := fun F v h => by
 rcases h.list_inv with ⟨a, rfl, rfl, _⟩ | ⟨b, o, cap, news, rfl, hc, hl, hr, hF, _⟩
 ·cases a with
  | none => exact .listNo _
  | some a => exact .listE _ _
 ·exact Rep.mk_list (fun q => news.getD q undef) hr hc hF trivial
def WeakL (xs ys : List AV) : Prop := xs.length = ys.length ∧ ∀ i, i < xs.length → Weak (xs.getD i .any) (ys.getD i .any)
theorem WeakL.nil : WeakL [] [] := ⟨rfl, fun i hi => by simp at hi⟩
theorem WeakL.cons {x y : AV} {xs ys : List AV} (h : Weak x y) (k : WeakL xs ys) : WeakL (x :: xs) (y :: ys) := ⟨by simp [k.1], fun i hi => by
 cases i with
 | zero => exact h
 | succ i => exact k.2 i (by simpa using hi)⟩
theorem WeakL.refl (xs : List AV) : WeakL xs xs := ⟨rfl, fun _ _ => Weak.refl _⟩
theorem WeakL.append {a b x y : List AV} (h : WeakL a x) (k : WeakL b y) : WeakL (a ++ b) (x ++ y) := ⟨by simp [h.1, k.1], fun i hi => by
 have h1 := h.1
 by_cases hlt : i < a.length
 ·have h2 := h.2 i hlt
  simp only [List.getD] at h2 ⊢
  rw [List.getElem?_append_left hlt, List.getElem?_append_left (by omega)]
  exact h2
 ·have h2 := k.2 (i - a.length) (by simp at hi; omega)
  simp only [List.getD] at h2 ⊢
  rw [List.getElem?_append_right (by omega), List.getElem?_append_right (by omega), ← h1]
  exact h2⟩
theorem Weak.agg {xs ys : List AV} (h : WeakL xs ys) : Weak (.agg xs) (.agg ys) := fun F v hr => by
 obtain ⟨cs, rfl, hc⟩ := hr.agg_inv
 exact .agg cs ys (by rw [hc.1, h.1]) (fun i hi => h.2 i (by rw [h.1]; exact hi) F _ (hc.2 i (by rw [h.1]; exact hi)))
theorem Weak.tup {xs ys : List AV} (h : WeakL xs ys) : Weak (.tup xs) (.tup ys) := fun F v hr => by
 cases hr with
 | tup cs xs hl hc => exact .tup cs ys (by rw [hl, h.1]) (fun i hi => h.2 i (by rw [h.1]; exact hi) F _ (hc i (by rw [h.1]; exact hi)))
theorem Weak.rows {sz : Nat} {rows rows' : List (List AV)} {t : Tok} (hl : rows.length = rows'.length) (h : ∀ i, i < rows.length → WeakL (rows.getD i []) (rows'.getD i [])) : Weak (.list sz rows t) (.list sz rows' t) := fun F v hr => by
 have hnil : rows = [] → rows' = [] := fun e => List.eq_nil_of_length_eq_zero (by rw [← hl, e]; rfl)
 cases hr with
 | listNil => rw [hnil rfl]; exact .listNil _
 | listNo => rw [hnil rfl]; exact .listNo _
 | listFull => rw [hnil rfl]; exact .listFull _
 | listE => rw [hnil rfl]; exact .listE _ _
 | listEF => rw [hnil rfl]; exact .listEF _ _
 | list b o cap sz n rows t cv hn hc hr hF hR ht =>
  refine .list b o cap sz n rows' t cv (by omega) hc (fun r hm => ?_) (fun i j hi hj => hF i j (by omega) hj) (fun i j hi hj => ?_) ht
  ·obtain ⟨i, hi, rfl⟩ := List.getElem_of_mem hm
   have h1 := (h i (by omega)).1
   have h2 : i < rows.length := by omega
   simp only [List.getD, List.getElem?_eq_getElem hi, List.getElem?_eq_getElem h2, Option.getD_some] at h1
   rw [← h1]
   exact hr _ (List.getElem_mem h2)
  ·have hi' : i < rows.length := by omega
   have h1 := (h i hi').2 j (by
    simp only [List.getD, List.getElem?_eq_getElem hi', Option.getD_some]
    rw [hr _ (List.getElem_mem hi')]; exact hj)
   exact h1 F _ (hR i j hi' hj)
theorem View.freeze {h : Heap} {b len cap off sz : Nat} {cs : List AV} (hb : h b = some (.cells cs)) (hl : off + len * sz ≤ cs.length) (hc : len ≤ cap) {t : Tok} (ht : t = .no ∨ (t = .full ∧ cap = len)) :
  View (.arr b off len cap) h (.list sz (chunk len sz ((cs.drop off).take (len * sz))) t) (h.del b) := by
 intro w0 F w v hi hr
 cases hr
 obtain ⟨hN, hF, arr, et, hg, hs, hrep, hone⟩ := hi.blk b _ hb
 obtain ⟨k1, k2⟩ := hi.extend (g := h.del b) (w' := w) (b := b) (lo := 0) (k := arr.size) (e := arr.size) hN hg rfl (fun o _ => hF o) (Nat.zero_le _) (Nat.le_refl _) (fun o _ ho => hone o (by omega))
  (fun o v e => by rw [hF o] at e; cases e) hi.below (fun _ _ _ => rfl) (fun c x hc e => by rw [Heap.del_other _ _ _ hc] at e; exact e)
 refine ⟨_, k1, k2.sub ((Sub.refl _).loc (by simp) _), ?_⟩
 obtain ⟨c1, c2, c3⟩ := chunk_spec sz len ((cs.drop off).take (len * sz)) (by simp; omega)
 have := Rep.mk_list (F := F.ext b 0 arr.size arr) (b := b) (o := off) (cap := cap) (sz := sz) (rows := chunk len sz ((cs.drop off).take (len * sz))) (tok := t) (fun q => arr.getD (off + q) undef) c2 (by omega)
  (fun q hq => by
   rw [c3] at hq
   have hlt : off + q < arr.size := by omega
   refine ⟨by simp [Fin.ext, hlt, Array.getD], ?_⟩
   rw [c1]
   have h1 := (hrep (off + q) (by omega)).mono k1
   have h2 : ((cs.drop off).take (len * sz)).getD q .any = cs.getD (off + q) .any := by
    simp only [List.getD]
    rw [List.getElem?_take_of_lt hq, List.getElem?_drop]
   rw [h2]; exact h1) (by
   rcases ht with rfl | ⟨rfl, rfl⟩
   ·trivial
   ·simp only [Tok.ok]; omega)
 rw [c3] at this
 exact this
theorem ACalls.conv {P : Program} {f : FuncId} {args : List AV} {h : Heap} {R R' : AV → Heap → Prop} (hc : ACalls P f args h R') (hr : ∀ x h', R' x h' → ∃ y g, View x h' y g ∧ R y g) : ACalls P f args h R :=
 fun w0 F w cargs hi ha => (hc w0 F w cargs hi ha).mono fun _ _ ⟨v, F', x, h', e, h1, h2, h3, h4⟩ => by
  obtain ⟨y, g, hv, hR⟩ := hr x h' h4
  obtain ⟨F2, m2, i2, r2⟩ := hv w0 F' _ v h2 h3
  exact ⟨v, F2, y, g, e, h1.trans m2, i2, r2, hR⟩
theorem gk {J : AAct → Heap → Prop} {X : (AAct → Heap → Prop) → Prop} (e : ∀ K, Keep K J → X K) : ∀ K, Keep K J → X K := e
theorem ga {A B : Prop} (a : A) (w : A → B := by first
 | exact Keep.go (by assumption)
 | exact awp_seq_k
 | exact awp_block
 | exact And.intro (by omega)
 | exact And.intro (by assumption)
 | exact and_lf (by omega)
 | exact fun a => and_rf a (by omega)
 | exact arounds_k
 | exact fun a => Or.inl ⟨by omega, a⟩
 | exact fun a => Or.inr ⟨by omega, a⟩) : B := w a
theorem gb {A B : Prop} (a : A) (w : A → B := by first
 | exact awp_region
 | exact awp_ret
 | exact awp_skip
 | exact awp_exit
 | exact KeepQ.go (by assumption)
 | exact awp_cond') : B := w a
theorem gc {A B C : Prop} (a : A) (b : B) (w : A → B → C := by first
 | exact or_split
 | exact and_ri
 | exact and_li) : C := w a b
theorem gz {h : Heap} {a b : Nat} {x : Blk} : h.set a x b = if b = a then some x else h b := rfl
theorem gi {p X : Prop} (h : p → X) : p → X := h
theorem gn {A B : Prop} (a : A) (b : B) : A ∧ B := ⟨a, b⟩
theorem gr (h : Heap) : Sub h h := Sub.refl h
end Go.AL

