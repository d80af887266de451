import Derived.WalkKit
import Derived.Below
import Derived.OrdersHeld
import Derived.Deep.LoopGhost
import Derived.Laws.MakeOwn
import Derived.Laws.OwnMore
import Derived.Laws.Small
import Derived.Laws.Strings
import Derived.Laws.CopyRow
import Derived.Laws.Rows
set_option linter.unusedSimpArgs false
set_option linter.unusedVariables false
namespace Go.AL
open Go Go.RowKit
inductive Tok where
 | no
 | nil
 | full
 | own (b k e : Nat)
inductive AV where
 | any
 | bool (b : Bool)
 | int (k : IntKind) (n : Int)
 | str (s : List UInt8)
 | nilp
 | ptr (b off : Nat)
 | vptr (row : List AV)
 | list (sz : Nat) (rows : List (List AV)) (t : Tok)
 | arr (b off len cap : Nat)
 | agg (cs : List AV)
 | tup (vs : List AV)
 | fn (f : FuncId) (caps : List AV)
 | nilf
 | whn (c : Bool) (x : AV)
instance : Inhabited AV := ⟨.any⟩
def AV.isCell : AV → Bool
 | .any | .agg _ | .tup _ | .whn _ _ => false
 | _ => true
def AV.cells : AV → List AV
 | .agg cs => cs
 | v => [v]
abbrev Fin := Nat → Nat → Option Value
def Tok.ok (t : Tok) (b o len cap sz : Nat) : Prop :=
 match t with
 | .no => True
 | .nil => False
 | .full => cap = len
 | .own b' k e => b' = b ∧ o = 0 ∧ k = len * sz ∧ e = cap * sz
inductive Rep (F : Fin) : Value → AV → Prop where
 | any (v : Value) : Rep F v .any
 | bool (b : Bool) : Rep F (.bool b) (.bool b)
 | int (k : IntKind) (n : Int) : Rep F (.int k n) (.int k n)
 | str (s : ByteArray) (l : List UInt8) (h : s.data.toList = l) : Rep F (.string s) (.str l)
 | nilp : Rep F (.pointer none) .nilp
 | ptr (b off : Nat) : Rep F (.pointer (some ⟨b, off, none⟩)) (.ptr b off)
 | vptr (b off : Nat) (row : List AV) (cv : Nat → Value) (h : ∀ j, j < row.length → F b (off + j) = some (cv j))
   (hr : ∀ j, j < row.length → Rep F (cv j) (row.getD j .any)) : Rep F (.pointer (some ⟨b, off, none⟩)) (.vptr row)
 | listNil (sz : Nat) : Rep F (.slice none 0 0) (.list sz [] .nil)
 | listNo (sz : Nat) : Rep F (.slice none 0 0) (.list sz [] .no)
 | listFull (sz : Nat) : Rep F (.slice none 0 0) (.list sz [] .full)
 | listE (a : Addr) (sz : Nat) : Rep F (.slice (some a) 0 0) (.list sz [] .no)
 | listEF (a : Addr) (sz : Nat) : Rep F (.slice (some a) 0 0) (.list sz [] .full)
 | list (b o cap sz n : Nat) (rows : List (List AV)) (t : Tok) (cv : Nat → Nat → Value) (hn : n = rows.length) (hc : n ≤ cap) (hl : ∀ r ∈ rows, r.length = sz)
   (h : ∀ i j, i < rows.length → j < sz → F b (o + i * sz + j) = some (cv i j))
   (hr : ∀ i j, i < rows.length → j < sz → Rep F (cv i j) ((rows.getD i []).getD j .any))
   (ht : t.ok b o n cap sz) : Rep F (.slice (some ⟨b, o, none⟩) n cap) (.list sz rows t)
 | arr (b off len cap : Nat) : Rep F (.slice (some ⟨b, off, none⟩) len cap) (.arr b off len cap)
 | agg (cs : Array Value) (xs : List AV) (hl : cs.size = xs.length) (h : ∀ i, i < xs.length → Rep F (cs.getD i undef) (xs.getD i .any)) :
   Rep F (.agg cs) (.agg xs)
 | tup (cs : Array Value) (xs : List AV) (hl : cs.size = xs.length) (h : ∀ i, i < xs.length → Rep F (cs.getD i undef) (xs.getD i .any)) :
   Rep F (.tuple cs) (.tup xs)
 | fn (f : FuncId) (cs : Array Value) (xs : List AV) (hl : cs.size = xs.length) (h : ∀ i, i < xs.length → Rep F (cs.getD i undef) (xs.getD i .any)) :
   Rep F (.func (.func f) #[] cs) (.fn f xs)
 | nilf : Rep F .nilFunc .nilf
 | whn (c : Bool) (v : Value) (x : AV) (h : c = true → Rep F v x) (hf : c = false → v = undef) : Rep F v (.whn c x)
def Mono (F F' : Fin) : Prop := ∀ b o v, F b o = some v → F' b o = some v
theorem Mono.refl (F : Fin) : Mono F F := fun _ _ _ h => h
theorem Mono.trans {F G H : Fin} (h : Mono F G) (k : Mono G H) : Mono F H := fun b o v e => k b o v (h b o v e)
theorem Rep.mono {F F' : Fin} (hF : Mono F F') {v : Value} {x : AV} (h : Rep F v x) : Rep F' v x := by
 induction h with
 | any v => exact .any v
 | bool b => exact .bool b
 | int k n => exact .int k n
 | str s l h => exact .str s l h
 | nilp => exact .nilp
 | ptr b off => exact .ptr b off
 | vptr b off row cv h hr ih => exact .vptr b off row cv (fun j hj => hF _ _ _ (h j hj)) (fun j hj => ih j hj)
 | listNil sz => exact .listNil sz
 | listNo sz => exact .listNo sz
 | listFull sz => exact .listFull sz
 | listE a sz => exact .listE a sz
 | listEF a sz => exact .listEF a sz
 | list b o cap sz n rows t cv hn hc hl h hr ht ih => exact .list b o cap sz n rows t cv hn hc hl (fun i j hi hj => hF _ _ _ (h i j hi hj)) (fun i j hi hj => ih i j hi hj) ht
 | arr b off len cap => exact .arr b off len cap
 | agg cs xs hl h ih => exact .agg cs xs hl (fun i hi => ih i hi)
 | tup cs xs hl h ih => exact .tup cs xs hl (fun i hi => ih i hi)
 | fn f cs xs hl h ih => exact .fn f cs xs hl (fun i hi => ih i hi)
 | nilf => exact .nilf
 | whn c v x h hf ih => exact .whn c v x (fun hc => ih hc) hf
theorem Rep.oneCell {F : Fin} {v : Value} {x : AV} (h : Rep F v x) (hx : x.isCell = true) : v.oneCell' = true := by
 cases h <;> first | rfl | (simp [AV.isCell] at hx; done)
inductive Blk where
 | cells (cs : List AV)
 | spare (k e : Nat)
 /-- A variable of the library's that holds some int; nobody writes it. -/
 | gint
 /-- A table of the library's; nobody writes it. -/
 | tab (arr : Array Value)
abbrev Heap := Nat → Option Blk
def Heap.set (h : Heap) (b : Nat) (x : Blk) : Heap := fun c => if c = b then some x else h c
def Heap.del (h : Heap) (b : Nat) : Heap := fun c => if c = b then none else h c
def Sub (g h : Heap) : Prop := ∀ b x, g b = some x → h b = some x
@[simp] theorem Heap.set_same (h : Heap) (b : Nat) (x : Blk) : h.set b x b = some x := by simp [Heap.set]
theorem Heap.set_other (h : Heap) (b c : Nat) (x : Blk) (hc : c ≠ b) : h.set b x c = h c := by simp [Heap.set, hc]
@[simp] theorem Heap.set_set (h : Heap) (b : Nat) (x y : Blk) : (h.set b x).set b y = h.set b y := by funext c; simp only [Heap.set]; split <;> rfl
@[simp] theorem Heap.del_same (h : Heap) (b : Nat) : h.del b b = none := by simp [Heap.del]
theorem Heap.del_other (h : Heap) (b c : Nat) (hc : c ≠ b) : h.del b c = h c := by simp [Heap.del, hc]
theorem Sub.refl (h : Heap) : Sub h h := fun _ _ e => e
theorem Sub.trans {a b c : Heap} (h : Sub a b) (k : Sub b c) : Sub a c := fun x y e => k x y (h x y e)
theorem Sub.loc {g h : Heap} (hs : Sub g h) {n : Nat} (hn : g n = none) (y : Blk) : Sub g (h.set n y) := fun b x e => by
 have : b ≠ n := fun e' => by rw [e', hn] at e; cases e
 rw [Heap.set_other _ _ _ _ this]; exact hs b x e
theorem Sub.upd {g h : Heap} (hs : Sub g h) (r : Nat) (x : Blk) : Sub (g.set r x) (h.set r x) := fun b y e => by
 unfold Heap.set at *; split <;> simp_all [Sub]
theorem Sub.del {g h : Heap} (hs : Sub g h) {n : Nat} (hn : g n = none) : Sub g (h.del n) := fun b x e => by
 have : b ≠ n := fun e' => by rw [e', hn] at e; cases e
 rw [Heap.del_other _ _ _ this]; exact hs b x e
def BlkOk (F : Fin) (w : World) (b : Nat) : Blk → Prop
 | .cells cs => (∀ o, F b o = none) ∧ ∃ arr t, w.heap[b]? = some (.cells arr t (0, 0)) ∧ arr.size = cs.length ∧
   (∀ i, i < cs.length → Rep F (arr.getD i undef) (cs.getD i .any)) ∧ ∀ i, i < cs.length → (arr.getD i undef).oneCell' = true
 | .spare k e => (∀ o, k ≤ o → F b o = none) ∧ ∃ arr t, w.heap[b]? = some (.cells arr t (0, 0)) ∧ arr.size = e ∧ k ≤ e
 | .gint => b < w.heap.size ∧ ∃ m, F b 0 = some (.int .i64 m)
 | .tab arr => (∃ v, F b 0 = some v) ∧ ∃ t z, w.heap[b]? = some (.cells arr t z)
def BlkFr (fr : Nat → Prop) (b : Nat) : Blk → Prop
 | .gint => True
 | .tab _ => True
 | _ => ¬ fr b
structure Base where
 w : World
 fr : Nat → Prop
 F0 : Fin
structure Frm (w0 : Base) (w : World) : Prop where
 os : w.os = w0.w.os
 tape : w.tape = w0.w.tape
 output : w.output = w0.w.output
 size : w0.w.heap.size ≤ w.heap.size
 lt : ∀ k, w0.fr k → k < w0.w.heap.size
 block : ∀ k, w0.fr k → w.heap[k]? = w0.w.heap[k]?
theorem Frm.drew {w0 : Base} {w : World} (h : Frm w0 w) : Frm w0 w.drew := ⟨h.os, h.tape, h.output, h.size, h.lt, h.block⟩
theorem Frm.alloc {w0 : Base} {w : World} (h : Frm w0 w) (o : Obj) : Frm w0 (w.alloc o) :=
 ⟨h.os, h.tape, h.output, by have := h.size; simp; omega, h.lt, fun k hk => (Below.heap_alloc w o k (by have := h.lt k hk; have := h.size; omega)).trans (h.block k hk)⟩
theorem Frm.setCell {w0 : Base} {w : World} (h : Frm w0 w) {p : Addr} (hp : ¬ w0.fr p.block) (u : Value) : Frm w0 (w.setCell p u) :=
 ⟨h.os, h.tape, h.output, by simp [World.setCell]; exact h.size, h.lt, fun k hk => (Below.heap_setCell w p u k (fun e => hp (e ▸ hk))).trans (h.block k hk)⟩
structure Inv (w0 : Base) (F : Fin) (w : World) (h : Heap) : Prop where
 below : Frm w0 w
 fin : ∀ b o v, F b o = some v → w.cell? ⟨b, o, none⟩ = some v ∧ v.oneCell' = true
 fin0 : ∀ b o, w0.fr b → F b o = w0.F0 b o
 blk : ∀ b x, h b = some x → BlkFr w0.fr b x ∧ BlkOk F w b x
theorem Inv.sub {w0 : Base} {w : World} {F : Fin} {g h : Heap} (hi : Inv w0 F w h) (hs : Sub g h) : Inv w0 F w g :=
 ⟨hi.below, hi.fin, hi.fin0, fun b x e => hi.blk b x (hs b x e)⟩
theorem BlkOk.lt {F : Fin} {w : World} {b : Nat} {x : Blk} (h : BlkOk F w b x) : b < w.heap.size := by
 cases x with
 | cells cs => obtain ⟨_, arr, t, he, _⟩ := h; exact (Array.getElem?_eq_some_iff.1 he).1
 | spare k e => obtain ⟨_, arr, t, he, _⟩ := h; exact (Array.getElem?_eq_some_iff.1 he).1
 | gint => exact h.1
 | tab arr => obtain ⟨_, t, z, he⟩ := h; exact (Array.getElem?_eq_some_iff.1 he).1
theorem Inv.fresh {w0 : Base} {w : World} {F : Fin} {h : Heap} (hi : Inv w0 F w h) : h w.heap.size = none ∧ ∀ o, F w.heap.size o = none := by
 refine ⟨?_, fun o => ?_⟩
 ·cases e : h w.heap.size with
  | none => rfl
  | some x => exact absurd (hi.blk _ _ e).2.lt (Nat.lt_irrefl _)
 ·cases e : F w.heap.size o with
  | none => rfl
  | some v =>
   have := World.block_lt_of_cell? w _ (hi.fin _ _ _ e).1
   exact absurd this (Nat.lt_irrefl _)
theorem Inv.drew {w0 : Base} {w : World} {F : Fin} {h : Heap} (hi : Inv w0 F w h) : Inv w0 F w.drew h :=
 ⟨hi.below.drew, hi.fin, hi.fin0, hi.blk⟩
theorem BlkOk.of_block {F : Fin} {w w' : World} {b : Nat} {x : Blk} (h : BlkOk F w b x) (he : w'.heap[b]? = w.heap[b]?) : BlkOk F w' b x := by
 cases x with
 | cells cs => obtain ⟨h1, arr, t, h2, h3⟩ := h; exact ⟨h1, arr, t, he.trans h2, h3⟩
 | spare k e => obtain ⟨h1, arr, t, h2, h3⟩ := h; exact ⟨h1, arr, t, he.trans h2, h3⟩
 | gint =>
  refine ⟨?_, h.2⟩
  have h1 : w.heap[b]? ≠ none := by simp [h.1]
  rw [← he] at h1
  simpa using h1
 | tab arr => obtain ⟨h1, t, z, h2⟩ := h; exact ⟨h1, t, z, he.trans h2⟩
theorem Inv.alloc {w0 : Base} {w : World} {F : Fin} {h : Heap} (hi : Inv w0 F w h) (arr : Array Value) (t : TypeId) (cs : List AV) (hs : arr.size = cs.length)
  (hr : ∀ i, i < cs.length → Rep F (arr.getD i undef) (cs.getD i .any)) (h1 : ∀ i, i < cs.length → (arr.getD i undef).oneCell' = true) :
  Inv w0 F (w.alloc (.cells arr t)) (h.set w.heap.size (.cells cs)) := by
 have hf := hi.fresh
 refine ⟨hi.below.alloc _, fun b o v e => ?_, hi.fin0, fun b x e => ?_⟩
 ·have h2 := hi.fin b o v e
  exact ⟨by rw [World.cell?_alloc_lt w _ _ (World.block_lt_of_cell? w _ h2.1)]; exact h2.1, h2.2⟩
 ·by_cases hb : b = w.heap.size
  ·subst hb
   simp at e
   subst e
   exact ⟨fun e => absurd (hi.below.lt _ e) (by have := hi.below.size; omega), hf.2, arr, t, heap_alloc_new w _, hs, hr, h1⟩
  ·rw [Heap.set_other _ _ _ _ hb] at e
   have h2 := hi.blk b x e
   exact ⟨h2.1, h2.2.of_block (Below.heap_alloc w _ b h2.2.lt)⟩
theorem Inv.store {w0 : Base} {w : World} {F : Fin} {h : Heap} (hi : Inv w0 F w h) {b off : Nat} {cs : List AV} (hb : h b = some (.cells cs)) (ho : off < cs.length)
  {v : Value} {x : AV} (hr : Rep F v x) (h1 : v.oneCell' = true) :
  Inv w0 F (w.setCell ⟨b, off, none⟩ v) (h.set b (.cells (cs.set off x))) := by
 obtain ⟨hN, hF, arr, t, he, hs, hrep, hone⟩ := hi.blk b _ hb
 have hN : ¬ w0.fr b := hN
 refine ⟨hi.below.setCell hN v, fun b' o' v' e => ?_, hi.fin0, fun b' x' e => ?_⟩
 ·have h2 := hi.fin b' o' v' e
  have : (⟨b, off, none⟩ : Addr) ≠ ⟨b', o', none⟩ := fun e' => by
   injection e' with e1 e2
   rw [← e1, hF] at e; cases e
  exact ⟨by rw [World.cell?_setCell_other w _ _ _ this]; exact h2.1, h2.2⟩
 ·by_cases hbb : b' = b
  ·subst hbb
   simp at e
   subst e
   refine ⟨hN, hF, arr.setIfInBounds off v, t, heap_setCell_same w _ off arr t v he, by simp [hs], ?_, ?_⟩
   ·intro i hi'
    simp at hi'
    by_cases hio : i = off
    ·subst hio
     have : i < arr.size := by omega
     simp [Array.getD, hi', this]
     exact hr
    ·have h3 := hrep i hi'
     have hio' : off ≠ i := fun e => hio e.symm
     have h4 : i < arr.size := by omega
     simp [Array.getD, hi', h4, Array.getElem_setIfInBounds, hio'] at h3 ⊢
     exact h3
   ·intro i hi'
    simp at hi'
    by_cases hio : i = off
    ·subst hio
     have : i < arr.size := by omega
     simp [Array.getD, this]
     exact h1
    ·have h3 := hone i hi'
     have hio' : off ≠ i := fun e => hio e.symm
     have h4 : i < arr.size := by omega
     simp [Array.getD, h4, Array.getElem_setIfInBounds, hio'] at h3 ⊢
     exact h3
  ·rw [Heap.set_other _ _ _ _ hbb] at e
   have h2 := hi.blk b' x' e
   exact ⟨h2.1, h2.2.of_block (Below.heap_setCell w _ v b' (by simpa using hbb))⟩
end Go.AL

namespace Go.AL
open Go Go.RowKit
structure AAct where
 s : List AV
 ds : List (FuncId × List AV)
def RepL (F : Fin) (cs : Array Value) (xs : List AV) : Prop := cs.size = xs.length ∧ ∀ i, i < xs.length → Rep F (cs.getD i undef) (xs.getD i .any)
theorem RepL.mono {F F' : Fin} (hF : Mono F F') {cs : Array Value} {xs : List AV} (h : RepL F cs xs) : RepL F' cs xs := ⟨h.1, fun i hi => (h.2 i hi).mono hF⟩
inductive RepDs (F : Fin) : List Deferred → List (FuncId × List AV) → Prop where
 | nil : RepDs F [] []
 | cons (f : FuncId) (args : Array Value) (xs : List AV) (ds : List Deferred) (as : List (FuncId × List AV)) (h : RepL F args xs) (ht : RepDs F ds as) :
   RepDs F ({ target := .fn (.func f) #[], args := args } :: ds) ((f, xs) :: as)
theorem RepDs.mono {F F' : Fin} (hF : Mono F F') {ds : List Deferred} {as : List (FuncId × List AV)} (h : RepDs F ds as) : RepDs F' ds as := by
 induction h with
 | nil => exact .nil
 | cons f args xs ds as h _ ih => exact .cons f args xs ds as (h.mono hF) ih
structure RepA (F : Fin) (a : Act) (α : AAct) : Prop where
 s : RepL F a.tmps α.s
 ds : RepDs F a.defers α.ds
theorem RepA.mono {F F' : Fin} (hF : Mono F F') {a : Act} {α : AAct} (h : RepA F a α) : RepA F' a α := ⟨h.s.mono hF, h.ds.mono hF⟩
def AAct.put (α : AAct) (d : Option Tmp) (x : AV) : AAct :=
 match d with
 | some d => { α with s := α.s.set d x }
 | none => α
theorem RepL.set {F : Fin} {cs : Array Value} {xs : List AV} (h : RepL F cs xs) (d : Nat) {v : Value} {x : AV} (hv : Rep F v x) : RepL F (cs.setIfInBounds d v) (xs.set d x) := by
 refine ⟨by simp [h.1], fun i hi => ?_⟩
 simp at hi
 have h1 := h.1
 have h2 := h.2 i hi
 have h3 : i < cs.size := by omega
 by_cases hd : d = i
 ·subst hd
  simp [Array.getD, h3, hi]
  exact hv
 ·simp [Array.getD, h3, hi, hd] at h2 ⊢
  exact h2
theorem RepA.put {F : Fin} {a : Act} {α : AAct} (h : RepA F a α) (d : Option Tmp) {v : Value} {x : AV} (hv : Rep F v x) : RepA F (a.put d v) (α.put d x) := by
 cases d with
 | none => exact h
 | some d => exact ⟨h.s.set d hv, h.ds⟩
def elSz (P : Program) (t : TypeId) : Option Nat :=
 match P.underlying t with
 | some (.slice e) => (P.info? e).map (·.size)
 | _ => none
def absC (P : Program) (t : TypeId) : Value → AV
 | .bool b => .bool b
 | .int k n => .int k n
 | .string s => .str s.data.toList
 | .pointer none => .nilp
 | .nilFunc => .nilf
 | .slice none 0 0 => match elSz P t with
  | some n => .list n [] .nil
  | none => .any
 | _ => .any
theorem absC_rep (P : Program) (t : TypeId) (F : Fin) (v : Value) : Rep F v (absC P t v) := by
 unfold absC
 split <;> first
  | exact .bool _
  | exact .int _ _
  | exact .str _ _ rfl
  | exact .nilp
  | exact .nilf
  | (split <;> first | exact .listNil _ | exact .any _)
  | exact .any _
def AAct.ev (P : Program) (t : TypeId) (α : AAct) : Operand → AV
 | .tmp i => α.s.getD i .any
 | .const v => absC P t v
 | .global _ => .any
 | .func f => .fn f []
theorem RepL.get {F : Fin} {cs : Array Value} {xs : List AV} (h : RepL F cs xs) (i : Nat) : Rep F (cs.getD i undef) (xs.getD i .any) := by
 by_cases hi : i < xs.length
 ·exact h.2 i hi
 ·have : xs.getD i .any = .any := by simp [List.getD, List.getElem?_eq_none (Nat.le_of_not_lt hi)]
  rw [this]; exact .any _
theorem RepA.ev {F : Fin} {a : Act} {α : AAct} (h : RepA F a α) (P : Program) (t : TypeId) (x : Operand) : Rep F (a.eval x) (α.ev P t x) := by
 cases x with
 | tmp i => exact h.s.get i
 | const v => exact absC_rep P t F v
 | global g => exact .any _
 | func f => exact .fn f #[] [] rfl (fun i hi => by simp at hi)
abbrev APostT := Exit → AAct → Heap → Prop
def APost (w0 : Base) (F : Fin) (Q : APostT) : Exit → Act → World → Prop :=
 fun e a w => ∃ F' α h, Mono F F' ∧ Inv w0 F' w h ∧ RepA F' a α ∧ Q e α h
def awp (P : Program) (c : Code) (Q : APostT) (α : AAct) (h : Heap) : Prop :=
 ∀ (w0 : Base) (F : Fin) (a : Act) (w : World), Inv w0 F w h → RepA F a α → c.wp P (APost w0 F Q) a w
theorem APost.mono {w0 : Base} {F F' : Fin} {Q : APostT} (hF : Mono F F') : ∀ e a w, APost w0 F' Q e a w → APost w0 F Q e a w :=
 fun _ _ _ ⟨F2, α, h, h1, h2, h3, h4⟩ => ⟨F2, α, h, hF.trans h1, h2, h3, h4⟩
def AThen (K : AAct → Heap → Prop) (Q : APostT) : APostT
 | .normal, α, h => K α h
 | e, α, h => Q e α h
section
variable {P : Program} {Q : APostT} {α : AAct} {h : Heap}
theorem awp_mono {c : Code} {Q' : APostT} (hq : ∀ e α h, Q e α h → Q' e α h) (hc : awp P c Q α h) : awp P c Q' α h :=
 fun w0 F a w hi hr => wp_mono (hc w0 F a w hi hr) fun _ _ _ ⟨F', α', h', h1, h2, h3, h4⟩ => ⟨F', α', h', h1, h2, h3, hq _ _ _ h4⟩
theorem awp_sub {c : Code} {g : Heap} (hs : Sub g h) (hc : awp P c Q α g) : awp P c Q α h :=
 fun w0 F a w hi hr => hc w0 F a w (hi.sub hs) hr
theorem awp_skip (hq : Q .normal α h) : awp P .skip Q α h :=
 fun _ F _ _ hi hr => wp_skip ⟨F, α, h, .refl F, hi, hr, hq⟩
theorem awp_exit {id : Nat} (hq : Q (.exit id) α h) : awp P (.exit id) Q α h :=
 fun _ F _ _ hi hr => wp_exit ⟨F, α, h, .refl F, hi, hr, hq⟩
theorem awp_ret (hq : Q .ret α h) : awp P .ret Q α h :=
 fun _ F _ _ hi hr => wp_ret ⟨F, α, h, .refl F, hi, hr, hq⟩
theorem awp_seq {x y : Code} (hx : awp P x (AThen (awp P y Q) Q) α h) : awp P (.seq x y) Q α h := by
 intro w0 F a w hi hr
 refine wp_seq (wp_mono (hx w0 F a w hi hr) ?_)
 intro e a' w' ⟨F', α', h', h1, h2, h3, h4⟩
 cases e with
 | normal => exact wp_mono (h4 w0 F' a' w' h2 h3) (APost.mono h1)
 | exit id => exact ⟨F', α', h', h1, h2, h3, h4⟩
 | goto l => exact ⟨F', α', h', h1, h2, h3, h4⟩
 | ret => exact ⟨F', α', h', h1, h2, h3, h4⟩
 | panic ch => exact ⟨F', α', h', h1, h2, h3, h4⟩
 | outgrown => exact ⟨F', α', h', h1, h2, h3, h4⟩
theorem Rep.bool_inv {F : Fin} {v : Value} {b : Bool} (h : Rep F v (.bool b)) : v = .bool b := by cases h; rfl
theorem Rep.int_inv {F : Fin} {v : Value} {k : IntKind} {n : Int} (h : Rep F v (.int k n)) : v = .int k n := by cases h; rfl
theorem Rep.ptr_inv {F : Fin} {v : Value} {b o : Nat} (h : Rep F v (.ptr b o)) : v = .pointer (some ⟨b, o, none⟩) := by cases h; rfl
theorem Rep.str_inv {F : Fin} {v : Value} {l : List UInt8} (h : Rep F v (.str l)) : ∃ s : ByteArray, v = .string s ∧ s.data.toList = l := by cases h; exact ⟨_, rfl, ‹_›⟩
theorem Rep.agg_inv {F : Fin} {v : Value} {xs : List AV} (h : Rep F v (.agg xs)) : ∃ cs, v = .agg cs ∧ RepL F cs xs := by cases h; exact ⟨_, rfl, ‹_›, ‹_›⟩
theorem Rep.tup_inv {F : Fin} {v : Value} {xs : List AV} (h : Rep F v (.tup xs)) : ∃ cs, v = .tuple cs ∧ RepL F cs xs := by cases h; exact ⟨_, rfl, ‹_›, ‹_›⟩
theorem Rep.fn_inv {F : Fin} {v : Value} {f : FuncId} {xs : List AV} (h : Rep F v (.fn f xs)) : ∃ cs, v = .func (.func f) #[] cs ∧ RepL F cs xs := by cases h; exact ⟨_, rfl, ‹_›, ‹_›⟩
theorem awp_cond {c : Operand} {x y : Code} (t : Bool) (hc : α.ev P 0 c = .bool t) (hx : t = true → awp P x Q α h) (hy : t = false → awp P y Q α h) :
  awp P (.cond c x y) Q α h := by
 intro w0 F a w hi hr
 have hv := hr.ev P 0 c
 rw [hc] at hv
 exact wp_cond_split hv.bool_inv (fun e => hx e w0 F a w hi hr) (fun e => hy e w0 F a w hi hr)
def ABlock (id : Nat) (Q : APostT) : APostT
 | .exit id', α, h => if id' = id then Q .normal α h else Q (.exit id') α h
 | e, α, h => Q e α h
theorem awp_block {id : Nat} {c : Code} (hc : awp P c (ABlock id Q) α h) : awp P (.block id c) Q α h := by
 intro w0 F a w hi hr
 refine wp_block (wp_mono (hc w0 F a w hi hr) ?_)
 intro e a' w' ⟨F', α', h', h1, h2, h3, h4⟩
 cases e with
 | exit id' =>
  simp only [ABlock] at h4
  simp only [Exit.inBlock]
  split
  ·rename_i e; rw [if_pos e] at h4; exact ⟨F', α', h', h1, h2, h3, h4⟩
  ·rename_i e; rw [if_neg e] at h4; exact ⟨F', α', h', h1, h2, h3, h4⟩
 | normal => exact ⟨F', α', h', h1, h2, h3, h4⟩
 | goto l => exact ⟨F', α', h', h1, h2, h3, h4⟩
 | ret => exact ⟨F', α', h', h1, h2, h3, h4⟩
 | panic ch => exact ⟨F', α', h', h1, h2, h3, h4⟩
 | outgrown => exact ⟨F', α', h', h1, h2, h3, h4⟩
theorem awp_loop {c : Code} (J : Nat → AAct → Heap → Prop) (n₀ : Nat) (h₀ : J n₀ α h)
  (round : ∀ n α h, J n α h → awp P c (AThen (fun α' h' => ∃ n', n' < n ∧ J n' α' h') Q) α h) : awp P (.loop c) Q α h := by
 intro w0 F a w hi hr
 refine wp_loop_ghost (fun n a w => ∃ F' α h, Mono F F' ∧ Inv w0 F' w h ∧ RepA F' a α ∧ J n α h) n₀ ⟨F, α, h, .refl F, hi, hr, h₀⟩ ?_
 intro n a w ⟨F1, α1, h1, m1, i1, r1, j1⟩
 refine wp_mono (round n α1 h1 j1 w0 F1 a w i1 r1) ?_
 intro e a' w' ⟨F', α', h', k1, k2, k3, k4⟩
 cases e with
 | normal => obtain ⟨n', hlt, hJ⟩ := k4; exact ⟨n', hlt, F', α', h', m1.trans k1, k2, k3, hJ⟩
 | exit id => exact ⟨F', α', h', m1.trans k1, k2, k3, k4⟩
 | goto l => exact ⟨F', α', h', m1.trans k1, k2, k3, k4⟩
 | ret => exact ⟨F', α', h', m1.trans k1, k2, k3, k4⟩
 | panic ch => exact ⟨F', α', h', m1.trans k1, k2, k3, k4⟩
 | outgrown => exact ⟨F', α', h', m1.trans k1, k2, k3, k4⟩
end
def ACalls (P : Program) (f : FuncId) (args : List AV) (h : Heap) (R : AV → Heap → Prop) : Prop :=
 ∀ (w0 : Base) (F : Fin) (w : World) (cargs : Array Value), Inv w0 F w h → RepL F cargs args →
  Calls P f cargs w fun e w' => ∃ v F' x h', e = .returned v ∧ Mono F F' ∧ Inv w0 F' w' h' ∧ Rep F' v x ∧ R x h'
theorem ACalls.mono {P : Program} {f : FuncId} {args : List AV} {h : Heap} {R R' : AV → Heap → Prop} (hc : ACalls P f args h R) (hr : ∀ x h, R x h → R' x h) : ACalls P f args h R' :=
 fun w0 F w cargs hi ha => (hc w0 F w cargs hi ha).mono fun _ _ ⟨v, F', x, h', e, h1, h2, h3, h4⟩ => ⟨v, F', x, h', e, h1, h2, h3, hr _ _ h4⟩
theorem ACalls.sub {P : Program} {f : FuncId} {args : List AV} {g h : Heap} {R : AV → Heap → Prop} (hs : Sub g h) (hc : ACalls P f args g R) : ACalls P f args h R :=
 fun w0 F w cargs hi ha => hc w0 F w cargs (hi.sub hs) ha
end Go.AL

