/-
  The abstract logic, 2: acts, the judgement on code, its rules; calls.
-/
import Derived.Test.YtgcpgoggngkbjaaDoorAL1
set_option linter.unusedSimpArgs false
set_option linter.unusedVariables false
namespace Go.AL
open Go Go.RowKit

structure AAct where
  s : List AV
  ds : List (FuncId × List AV)

def RepL (F : Fin) (cs : Array Value) (xs : List AV) : Prop := cs.size = xs.length ∧ ∀ i, i < xs.length → Rep F (cs.getD i undef) (xs.getD i .any)

theorem RepL.mono {F F' : Fin} (hF : Mono F F') {cs : Array Value} {xs : List AV} (h : RepL F cs xs) : RepL F' cs xs := ⟨h.1, fun i hi => (h.2 i hi).mono hF⟩

inductive RepDs (F : Fin) : List Deferred → List (FuncId × List AV) → Prop where
  | nil : RepDs F [] []
  | cons (f : FuncId) (args : Array Value) (xs : List AV) (ds : List Deferred) (as : List (FuncId × List AV)) (h : RepL F args xs) (ht : RepDs F ds as) :
      RepDs F ({ target := .fn (.func f) #[], args := args } :: ds) ((f, xs) :: as)

theorem RepDs.mono {F F' : Fin} (hF : Mono F F') {ds : List Deferred} {as : List (FuncId × List AV)} (h : RepDs F ds as) : RepDs F' ds as := by
  induction h with
  | nil => exact .nil
  | cons f args xs ds as h _ ih => exact .cons f args xs ds as (h.mono hF) ih

structure RepA (F : Fin) (a : Act) (α : AAct) : Prop where
  s : RepL F a.tmps α.s
  ds : RepDs F a.defers α.ds

theorem RepA.mono {F F' : Fin} (hF : Mono F F') {a : Act} {α : AAct} (h : RepA F a α) : RepA F' a α := ⟨h.s.mono hF, h.ds.mono hF⟩

def AAct.put (α : AAct) (d : Option Tmp) (x : AV) : AAct :=
  match d with
  | some d => { α with s := α.s.set d x }
  | none => α

theorem RepL.set {F : Fin} {cs : Array Value} {xs : List AV} (h : RepL F cs xs) (d : Nat) {v : Value} {x : AV} (hv : Rep F v x) : RepL F (cs.setIfInBounds d v) (xs.set d x) := by
  refine ⟨by simp [h.1], fun i hi => ?_⟩
  simp at hi
  have h1 := h.1
  have h2 := h.2 i hi
  have h3 : i < cs.size := by omega
  by_cases hd : d = i
  · subst hd
    simp [Array.getD, h3, hi]
    exact hv
  · simp [Array.getD, h3, hi, hd] at h2 ⊢
    exact h2

theorem RepA.put {F : Fin} {a : Act} {α : AAct} (h : RepA F a α) (d : Option Tmp) {v : Value} {x : AV} (hv : Rep F v x) : RepA F (a.put d v) (α.put d x) := by
  cases d with
  | none => exact h
  | some d => exact ⟨h.s.set d hv, h.ds⟩

/-! ### Types -/

def elSz (P : Program) (t : TypeId) : Option Nat :=
  match P.underlying t with
  | some (.slice e) => (P.info? e).map (·.size)
  | _ => none

/-- A constant, of a type. -/
def absC (P : Program) (t : TypeId) : Value → AV
  | .bool b => .bool b
  | .int k n => .int k n
  | .string s => .str s.data.toList
  | .pointer none => .nilp
  | .nilFunc => .nilf
  | .slice none 0 0 => match elSz P t with
    | some n => .list n [] .nil
    | none => .any
  | _ => .any

theorem absC_rep (P : Program) (t : TypeId) (F : Fin) (v : Value) : Rep F v (absC P t v) := by
  unfold absC
  split <;> first
    | exact .bool _
    | exact .int _ _
    | exact .str _ _ rfl
    | exact .nilp
    | exact .nilf
    | (split <;> first | exact .listNil _ | exact .any _)
    | exact .any _

def AAct.ev (P : Program) (t : TypeId) (α : AAct) : Operand → AV
  | .tmp i => α.s.getD i .any
  | .const v => absC P t v
  | .global _ => .any
  | .func f => .fn f []

theorem RepL.get {F : Fin} {cs : Array Value} {xs : List AV} (h : RepL F cs xs) (i : Nat) : Rep F (cs.getD i undef) (xs.getD i .any) := by
  by_cases hi : i < xs.length
  · exact h.2 i hi
  · have : xs.getD i .any = .any := by simp [List.getD, List.getElem?_eq_none (Nat.le_of_not_lt hi)]
    rw [this]; exact .any _

theorem RepA.ev {F : Fin} {a : Act} {α : AAct} (h : RepA F a α) (P : Program) (t : TypeId) (x : Operand) : Rep F (a.eval x) (α.ev P t x) := by
  cases x with
  | tmp i => exact h.s.get i
  | const v => exact absC_rep P t F v
  | global g => exact .any _
  | func f => exact .fn f #[] [] rfl (fun i hi => by simp at hi)

/-! ### The judgement -/

abbrev APostT := Exit → AAct → Heap → Prop

def APost (w0 : Base) (F : Fin) (Q : APostT) : Exit → Act → World → Prop :=
  fun e a w => ∃ F' α h, Mono F F' ∧ Inv w0 F' w h ∧ RepA F' a α ∧ Q e α h

def awp (P : Program) (c : Code) (Q : APostT) (α : AAct) (h : Heap) : Prop :=
  ∀ (w0 : Base) (F : Fin) (a : Act) (w : World), Inv w0 F w h → RepA F a α → c.wp P (APost w0 F Q) a w

theorem APost.mono {w0 : Base} {F F' : Fin} {Q : APostT} (hF : Mono F F') : ∀ e a w, APost w0 F' Q e a w → APost w0 F Q e a w :=
  fun _ _ _ ⟨F2, α, h, h1, h2, h3, h4⟩ => ⟨F2, α, h, hF.trans h1, h2, h3, h4⟩

def AThen (K : AAct → Heap → Prop) (Q : APostT) : APostT
  | .normal, α, h => K α h
  | e, α, h => Q e α h

section
variable {P : Program} {Q : APostT} {α : AAct} {h : Heap}

theorem awp_mono {c : Code} {Q' : APostT} (hq : ∀ e α h, Q e α h → Q' e α h) (hc : awp P c Q α h) : awp P c Q' α h :=
  fun w0 F a w hi hr => wp_mono (hc w0 F a w hi hr) fun _ _ _ ⟨F', α', h', h1, h2, h3, h4⟩ => ⟨F', α', h', h1, h2, h3, hq _ _ _ h4⟩

theorem awp_sub {c : Code} {g : Heap} (hs : Sub g h) (hc : awp P c Q α g) : awp P c Q α h :=
  fun w0 F a w hi hr => hc w0 F a w (hi.sub hs) hr

theorem awp_skip (hq : Q .normal α h) : awp P .skip Q α h :=
  fun _ F _ _ hi hr => wp_skip ⟨F, α, h, .refl F, hi, hr, hq⟩

theorem awp_exit {id : Nat} (hq : Q (.exit id) α h) : awp P (.exit id) Q α h :=
  fun _ F _ _ hi hr => wp_exit ⟨F, α, h, .refl F, hi, hr, hq⟩

theorem awp_ret (hq : Q .ret α h) : awp P .ret Q α h :=
  fun _ F _ _ hi hr => wp_ret ⟨F, α, h, .refl F, hi, hr, hq⟩

theorem awp_seq {x y : Code} (hx : awp P x (AThen (awp P y Q) Q) α h) : awp P (.seq x y) Q α h := by
  intro w0 F a w hi hr
  refine wp_seq (wp_mono (hx w0 F a w hi hr) ?_)
  intro e a' w' ⟨F', α', h', h1, h2, h3, h4⟩
  cases e with
  | normal => exact wp_mono (h4 w0 F' a' w' h2 h3) (APost.mono h1)
  | exit id => exact ⟨F', α', h', h1, h2, h3, h4⟩
  | goto l => exact ⟨F', α', h', h1, h2, h3, h4⟩
  | ret => exact ⟨F', α', h', h1, h2, h3, h4⟩
  | panic ch => exact ⟨F', α', h', h1, h2, h3, h4⟩
  | outgrown => exact ⟨F', α', h', h1, h2, h3, h4⟩

theorem Rep.bool_inv {F : Fin} {v : Value} {b : Bool} (h : Rep F v (.bool b)) : v = .bool b := by cases h; rfl
theorem Rep.int_inv {F : Fin} {v : Value} {k : IntKind} {n : Int} (h : Rep F v (.int k n)) : v = .int k n := by cases h; rfl
theorem Rep.nilp_inv {F : Fin} {v : Value} (h : Rep F v .nilp) : v = .pointer none := by cases h; rfl
theorem Rep.ptr_inv {F : Fin} {v : Value} {b o : Nat} (h : Rep F v (.ptr b o)) : v = .pointer (some ⟨b, o, none⟩) := by cases h; rfl
theorem Rep.str_inv {F : Fin} {v : Value} {l : List UInt8} (h : Rep F v (.str l)) : ∃ s : ByteArray, v = .string s ∧ s.data.toList = l := by cases h; exact ⟨_, rfl, ‹_›⟩
theorem Rep.arr_inv {F : Fin} {v : Value} {b o l c : Nat} (h : Rep F v (.arr b o l c)) : v = .slice (some ⟨b, o, none⟩) l c := by cases h; rfl
theorem Rep.agg_inv {F : Fin} {v : Value} {xs : List AV} (h : Rep F v (.agg xs)) : ∃ cs, v = .agg cs ∧ RepL F cs xs := by cases h; exact ⟨_, rfl, ‹_›, ‹_›⟩
theorem Rep.tup_inv {F : Fin} {v : Value} {xs : List AV} (h : Rep F v (.tup xs)) : ∃ cs, v = .tuple cs ∧ RepL F cs xs := by cases h; exact ⟨_, rfl, ‹_›, ‹_›⟩
theorem Rep.fn_inv {F : Fin} {v : Value} {f : FuncId} {xs : List AV} (h : Rep F v (.fn f xs)) : ∃ cs, v = .func (.func f) #[] cs ∧ RepL F cs xs := by cases h; exact ⟨_, rfl, ‹_›, ‹_›⟩

theorem awp_cond {c : Operand} {x y : Code} (t : Bool) (hc : α.ev P 0 c = .bool t) (hx : t = true → awp P x Q α h) (hy : t = false → awp P y Q α h) :
    awp P (.cond c x y) Q α h := by
  intro w0 F a w hi hr
  have hv := hr.ev P 0 c
  rw [hc] at hv
  exact wp_cond_split hv.bool_inv (fun e => hx e w0 F a w hi hr) (fun e => hy e w0 F a w hi hr)

def ABlock (id : Nat) (Q : APostT) : APostT
  | .exit id', α, h => if id' = id then Q .normal α h else Q (.exit id') α h
  | e, α, h => Q e α h

theorem awp_block {id : Nat} {c : Code} (hc : awp P c (ABlock id Q) α h) : awp P (.block id c) Q α h := by
  intro w0 F a w hi hr
  refine wp_block (wp_mono (hc w0 F a w hi hr) ?_)
  intro e a' w' ⟨F', α', h', h1, h2, h3, h4⟩
  cases e with
  | exit id' =>
    simp only [ABlock] at h4
    simp only [Exit.inBlock]
    split
    · rename_i e; rw [if_pos e] at h4; exact ⟨F', α', h', h1, h2, h3, h4⟩
    · rename_i e; rw [if_neg e] at h4; exact ⟨F', α', h', h1, h2, h3, h4⟩
  | normal => exact ⟨F', α', h', h1, h2, h3, h4⟩
  | goto l => exact ⟨F', α', h', h1, h2, h3, h4⟩
  | ret => exact ⟨F', α', h', h1, h2, h3, h4⟩
  | panic ch => exact ⟨F', α', h', h1, h2, h3, h4⟩
  | outgrown => exact ⟨F', α', h', h1, h2, h3, h4⟩

theorem awp_loop {c : Code} (J : Nat → AAct → Heap → Prop) (n₀ : Nat) (h₀ : J n₀ α h)
    (round : ∀ n α h, J n α h → awp P c (AThen (fun α' h' => ∃ n', n' < n ∧ J n' α' h') Q) α h) : awp P (.loop c) Q α h := by
  intro w0 F a w hi hr
  refine wp_loop_ghost (fun n a w => ∃ F' α h, Mono F F' ∧ Inv w0 F' w h ∧ RepA F' a α ∧ J n α h) n₀ ⟨F, α, h, .refl F, hi, hr, h₀⟩ ?_
  intro n a w ⟨F1, α1, h1, m1, i1, r1, j1⟩
  refine wp_mono (round n α1 h1 j1 w0 F1 a w i1 r1) ?_
  intro e a' w' ⟨F', α', h', k1, k2, k3, k4⟩
  cases e with
  | normal => obtain ⟨n', hlt, hJ⟩ := k4; exact ⟨n', hlt, F', α', h', m1.trans k1, k2, k3, hJ⟩
  | exit id => exact ⟨F', α', h', m1.trans k1, k2, k3, k4⟩
  | goto l => exact ⟨F', α', h', m1.trans k1, k2, k3, k4⟩
  | ret => exact ⟨F', α', h', m1.trans k1, k2, k3, k4⟩
  | panic ch => exact ⟨F', α', h', m1.trans k1, k2, k3, k4⟩
  | outgrown => exact ⟨F', α', h', m1.trans k1, k2, k3, k4⟩
end

/-! ### Calls -/

def ACalls (P : Program) (f : FuncId) (args : List AV) (h : Heap) (R : AV → Heap → Prop) : Prop :=
  ∀ (w0 : Base) (F : Fin) (w : World) (cargs : Array Value), Inv w0 F w h → RepL F cargs args →
    Calls P f cargs w fun e w' => ∃ v F' x h', e = .returned v ∧ Mono F F' ∧ Inv w0 F' w' h' ∧ Rep F' v x ∧ R x h'

theorem ACalls.mono {P : Program} {f : FuncId} {args : List AV} {h : Heap} {R R' : AV → Heap → Prop} (hc : ACalls P f args h R) (hr : ∀ x h, R x h → R' x h) : ACalls P f args h R' :=
  fun w0 F w cargs hi ha => (hc w0 F w cargs hi ha).mono fun _ _ ⟨v, F', x, h', e, h1, h2, h3, h4⟩ => ⟨v, F', x, h', e, h1, h2, h3, hr _ _ h4⟩

theorem ACalls.sub {P : Program} {f : FuncId} {args : List AV} {g h : Heap} {R : AV → Heap → Prop} (hs : Sub g h) (hc : ACalls P f args g R) : ACalls P f args h R :=
  fun w0 F w cargs hi ha => hc w0 F w cargs (hi.sub hs) ha

end Go.AL
