/-
  The abstract logic, 5: 'pev', what an operation that leaves the world alone yields.
-/
import Derived.Test.YtgcpgoggngkbjaaDoorAL4
set_option linter.unusedSimpArgs false
set_option linter.unusedVariables false
namespace Go.AL
open Go Go.RowKit

def pickV (t : Bool) (x y : AV) : AV :=
  match x, y with
  | .bool a, .bool b => .bool (if t then a else b)
  | .int k a, .int k' b => if k = k' then .int k (if t then a else b) else (if t then .int k a else .int k' b)
  | .str a, .str b => .str (if t then a else b)
  | x, y => if t then x else y

def pickAV (c x y : AV) : Prop × AV :=
  match c with
  | .bool t => ((t = true → x.ok) ∧ (t = false → y.ok), pickV t x.val y.val)
  | _ => (False, .any)

def nilAV : AV → Prop × AV
  | .ptr b o => (True, .ptr b o)
  | .vptr r => (True, .vptr r)
  | .fn f cs => (True, .fn f cs)
  | _ => (False, .any)

def unAV (op : UnOp) (x : AV) : Prop × AV :=
  match op, x with
  | .neg, .int k n => (True, .int k (k.wrap (0 - n)))
  | .not, .bool b => (True, .bool (!b))
  | _, _ => (False, .any)

inductive CK where | int (k : IntKind) | same | b2s
def convK (P : Program) (src dst : TypeId) : Option CK :=
  match P.underlying src, P.underlying dst with
  | some _, some (.int k) => some (.int k)
  | some .string, some .string => some .same
  | some (.slice e), some .string => match P.underlying e with
    | some (.int .u8) => some .b2s
    | _ => none
  | _, _ => none

def byteOfRow : List AV → Option UInt8
  | [.int .u8 n] => some (UInt8.ofNat n.toNat)
  | _ => none

def convAV (P : Program) (src dst : TypeId) (x : AV) : Prop × AV :=
  match convK P src dst, x with
  | some (.int k), .int _ n => (True, .int k (k.wrap n))
  | some .same, .str s => (True, .str s)
  | _, _ => (False, .any)

def faddrAV (P : Program) (t : TypeId) (i : Nat) (x : AV) : Prop × AV :=
  match fldT P t i with
  | some (off, _, sz) => match x with
    | .ptr b o => (sz ≠ 0, .ptr b (o + off))
    | .vptr row => (sz ≠ 0 ∧ off ≤ row.length, .vptr (row.drop off))
    | _ => (False, .any)
  | none => (False, .any)

def fieldAV (P : Program) (t : TypeId) (i : Nat) (x : AV) : Prop × AV :=
  match fldT P t i with
  | some (off, ft, _) => match x with
    | .agg xs => (match tinfo P ft with
      | some (n, true) => (off + n ≤ xs.length, .agg ((xs.drop off).take n))
      | some (_, false) => (off < xs.length, xs.getD off .any)
      | none => (False, .any))
    | _ => (False, .any)
  | none => (False, .any)

def idxAddrAV (P : Program) (t : TypeId) (x i : AV) : Prop × AV :=
  match i with
  | .int _ n => match elemT P t, x with
    | some (.slice, _, sz), .list s rows _ => (0 ≤ n ∧ n.toNat < rows.length ∧ s = sz, .vptr (rows.getD n.toNat []))
    | some (.slice, _, sz), .arr b off len _ => (0 ≤ n ∧ n.toNat < len, .ptr b (off + n.toNat * sz))
    | some (.array len, _, sz), .ptr b off => (0 ≤ n ∧ n.toNat < len, .ptr b (off + n.toNat * sz))
    | some (.array len, _, sz), .vptr row => (0 ≤ n ∧ n.toNat < len ∧ n.toNat * sz ≤ row.length, .vptr (row.drop (n.toNat * sz)))
    | _, _ => (False, .any)
  | _ => (False, .any)

def idxAV (P : Program) (t : TypeId) (x i : AV) : Prop × AV :=
  match i with
  | .int _ n => match elemT P t, x with
    | some (.string, _, _), .str l => (0 ≤ n ∧ n.toNat < l.length, .int .u8 ((l.getD n.toNat 0).toNat : Int))
    | some (.array len, e, sz), .agg xs => (match tinfo P e with
      | some (_, true) => (0 ≤ n ∧ n.toNat < len ∧ n.toNat * sz + sz ≤ xs.length, .agg ((xs.drop (n.toNat * sz)).take sz))
      | some (_, false) => (0 ≤ n ∧ n.toNat < len ∧ n.toNat * sz < xs.length, xs.getD (n.toNat * sz) .any)
      | none => (False, .any))
    | _, _ => (False, .any)
  | _ => (False, .any)

def extAV (i : Nat) (x : AV) : Prop × AV :=
  match x with
  | .tup vs => (i < vs.length, vs.getD i .any)
  | _ => (False, .any)

def lenAV (P : Program) (t : TypeId) (x : AV) : Prop × AV :=
  match elemT P t, x with
  | some (.string, _, _), .str l => (True, .int .i64 l.length)
  | some (.slice, _, _), .list _ rows _ => (True, .int .i64 rows.length)
  | some (.slice, _, _), .arr _ _ len _ => (True, .int .i64 len)
  | some (.array n, _, _), _ => (True, .int .i64 n)
  | _, _ => (False, .any)

def maxAV (x y : AV) : Prop × AV :=
  match x, y with
  | .int k a, .int _ b => (True, .int k (max a b))
  | _, _ => (False, .any)
def minAV (x y : AV) : Prop × AV :=
  match x, y with
  | .int k a, .int _ b => (True, .int k (min a b))
  | _, _ => (False, .any)

/-- Bounds of a slicing: low, high. -/
def loOf : Option AV → Option Int
  | none => some 0
  | some (.int _ n) => some n
  | _ => none
def hiOf (len : Nat) : Option AV → Option Int
  | none => some len
  | some (.int _ n) => some n
  | _ => none

def sliceAV (P : Program) (t : TypeId) (x : AV) (lo hi mx : Option AV) : Prop × AV :=
  match elemT P t, x with
  | some (.string, _, _), .str l => (match loOf lo, hiOf l.length hi, mx with
    | some a, some b, none => (0 ≤ a ∧ a ≤ b ∧ b ≤ l.length, .str ((l.take b.toNat).drop a.toNat))
    | _, _, _ => (False, .any))
  | some (.slice, _, sz), .list s rows _ => (match loOf lo, hiOf rows.length hi, hi, mx with
    | some a, some b, _, none => (0 ≤ a ∧ a ≤ b ∧ b ≤ rows.length ∧ s = sz, .list sz ((rows.take b.toNat).drop a.toNat) .no)
    | some a, some b, some _, some (.int _ m) => (0 ≤ a ∧ a ≤ b ∧ b = m ∧ b ≤ rows.length ∧ s = sz, .list sz ((rows.take b.toNat).drop a.toNat) .full)
    | _, _, _, _ => (False, .any))
  | some (.slice, _, sz), .arr b off len cap => (match loOf lo, hiOf len hi, hi, mx with
    | some a, some c, _, none => (0 ≤ a ∧ a ≤ c ∧ c ≤ len ∧ len ≤ cap, .arr b (if cap = a.toNat then off else off + a.toNat * sz) (c.toNat - a.toNat) (cap - a.toNat))
    | some a, some c, some _, some (.int _ m) => (0 ≤ a ∧ a ≤ c ∧ c = m ∧ c ≤ len ∧ len ≤ cap, .arr b (if c.toNat = a.toNat then off else off + a.toNat * sz) (c.toNat - a.toNat) (c.toNat - a.toNat))
    | _, _, _, _ => (False, .any))
  | _, _ => (False, .any)

/-- Struct and array literals. -/
def placeT (P : Program) (t : TypeId) (i : Nat) : Option (Nat × Nat) :=
  match P.underlying t with
  | some (.struct _) => (fldT P t i).map fun x => (x.1, x.2.2)
  | some (.array _ e) | some (.slice e) => (P.info? e).map fun j => (i * j.size, j.size)
  | _ => none

def splice (cs : List AV) (off : Nat) (vs : List AV) : List AV := cs.take off ++ vs ++ cs.drop (off + vs.length)

def fillA (P : Program) (t : TypeId) : List (Nat × AV) → List AV → Prop × List AV
  | [], cs => (True, cs)
  | (i, x) :: rest, cs => match placeT P t i with
    | some (off, sz) => let r := fillA P t rest (splice cs off x.cells)
      (x.cells.length = sz ∧ off + sz ≤ cs.length ∧ (∀ c ∈ x.cells, c.isCell = true) ∧ r.1, r.2)
    | none => (False, [])

/-- All fields' types are known. -/
def fieldsOk (P : Program) (t : TypeId) : Bool :=
  match P.underlying t with
  | some (.struct fs) => fs.toList.all fun f => (P.info? f.type).isSome
  | some (.array _ e) => (P.info? e).isSome
  | _ => false

def buildAV (P : Program) (t : TypeId) (parts : List (Nat × AV)) : Prop × AV :=
  match zeroA P t with
  | some z => (fieldsOk P t = true ∧ (fillA P t parts z).1, .agg (fillA P t parts z).2)
  | none => (False, .any)

def two (f : AV → AV → Prop × AV) (x y : AV) : Prop × AV := (x.ok ∧ y.ok ∧ (f x.val y.val).1, (f x.val y.val).2)
def one (f : AV → Prop × AV) (x : AV) : Prop × AV := (x.ok ∧ (f x.val).1, (f x.val).2)
def okO : Option AV → Prop | none => True | some x => x.ok

/-- What an operation that leaves the world alone yields, and under which condition. -/
def pev (P : Program) (α : AAct) (h : Heap) (o : Oper) : Option (Prop × AV) :=
  match o.op with
  | .move x | .assign x => some (True, α.ev P o.type x)
  | .pick c a b => some (one (fun c => pickAV c (α.ev P o.type a) (α.ev P o.type b)) (α.ev P 0 c))
  | .build t parts => some (buildAV P t (parts.toList.map fun p => (p.1, (α.ev P (((fldT P t p.1).map (·.2.1)).getD 0) p.2))))
  | .load t a => some (one (loadAV P h t) (α.ev P 0 a))
  | .nilCheck x => some (one nilAV (α.ev P 0 x))
  | .binOp op t x y _ => if nilQ P op t (α.ev P t x) (α.ev P t y) then none else some (two (binAV P op t) (α.ev P t x) (α.ev P t y))
  | .unOp op t x => some (one (unAV op) (α.ev P t x))
  | .convert src dst x => match convK P src dst with
    | some (.int _) | some .same => some (one (convAV P src dst) (α.ev P src x))
    | _ => none
  | .makeFunc (.func f) first caps => if first.size = 0 then some (True, .fn f (caps.toList.map (α.ev P 0))) else none
  | .slice t x lo hi mx => some (let l := lo.map (α.ev P 0); let r := hi.map (α.ev P 0); let m := mx.map (α.ev P 0);
      ((α.ev P t x).ok ∧ okO l ∧ okO r ∧ okO m ∧ (sliceAV P t (α.ev P t x).val (l.map AV.val) (r.map AV.val) (m.map AV.val)).1,
        (sliceAV P t (α.ev P t x).val (l.map AV.val) (r.map AV.val) (m.map AV.val)).2))
  | .fieldAddr t x i => some (one (faddrAV P t i) (α.ev P 0 x))
  | .field t x i => some (one (fieldAV P t i) (α.ev P t x))
  | .indexAddr t x i => some (two (idxAddrAV P t) (α.ev P t x) (α.ev P 0 i))
  | .index t x i => some (two (idxAV P t) (α.ev P t x) (α.ev P 0 i))
  | .extract x i => some (one (extAV i) (α.ev P 0 x))
  | .call { callee := .builtin .len, args, argTypes } => match args.toList, argTypes.toList with
    | [x], [t] => some (one (lenAV P t) (α.ev P t x))
    | _, _ => none
  | .call { callee := .builtin .max, args, .. } => match args.toList with
    | [x, y] => some (two maxAV (α.ev P 0 x) (α.ev P 0 y))
    | _ => none
  | .call { callee := .builtin .min, args, .. } => match args.toList with
    | [x, y] => some (two minAV (α.ev P 0 x) (α.ev P 0 y))
    | _ => none
  | _ => none

/-- The operation yields this, and does nothing else. -/
def Pure (P : Program) (o : Oper) (α : AAct) (h : Heap) (x : AV) : Prop :=
  ∀ (w0 : Base) (F : Fin) (a : Act) (w1 : World), Inv w0 F w1 h → RepA F a α → ∃ v, Rep F v x ∧ ∀ w, Like F h w1 w → (execOp a.eval o).run P w = .ok (.value v) w

section
variable {P : Program} {w0 : Base} {w : World} {F : Fin} {h : Heap}

theorem one_split {f : AV → Prop × AV} {x : AV} {S : Prop} {y : AV} (e : one f x = (S, y)) (hs : S) : x.ok ∧ ∃ T, f x.val = (T, y) ∧ T := by
  unfold one at e
  injection e with e1 e2
  subst e1 e2
  exact ⟨hs.1, _, rfl, hs.2⟩
theorem two_split {f : AV → AV → Prop × AV} {x y : AV} {S : Prop} {z : AV} (e : two f x y = (S, z)) (hs : S) : x.ok ∧ y.ok ∧ ∃ T, f x.val y.val = (T, z) ∧ T := by
  unfold two at e
  injection e with e1 e2
  subst e1 e2
  exact ⟨hs.1, hs.2.1, _, rfl, hs.2.2⟩

theorem pickV_rep {t : Bool} {x y : AV} {u v : Value} (hu : t = true → Rep F u x) (hv : t = false → Rep F v y) : Rep F (if t then u else v) (pickV t x y) := by
  cases t
  · have h1 := hv rfl
    show Rep F v (pickV false x y)
    unfold pickV
    split
    · exact h1
    · split
      · rename_i hk; rw [hk]; exact h1
      · exact h1
    · exact h1
    · exact h1
  · have h1 := hu rfl
    show Rep F u (pickV true x y)
    unfold pickV
    split
    · exact h1
    · split
      · exact h1
      · exact h1
    · exact h1
    · exact h1

theorem elemT_slice {t e : TypeId} {sz : Nat} (ht : elemT P t = some (.slice, e, sz)) : ∃ i, P.underlying t = some (.slice e) ∧ P.info? e = some i ∧ i.size = sz := by
  unfold elemT at ht
  split at ht
  · rename_i e' hu
    cases hi : P.info? e' with
    | none => simp [hi] at ht
    | some i => simp [hi] at ht; obtain ⟨rfl, h2⟩ := ht; exact ⟨i, hu, hi, h2⟩
  · rename_i n e' hu
    cases hi : P.info? e' with
    | none => simp [hi] at ht
    | some i => simp [hi] at ht
  · simp at ht
  · cases ht
theorem elemT_array {t e : TypeId} {n sz : Nat} (ht : elemT P t = some (.array n, e, sz)) : ∃ i, P.underlying t = some (.array n e) ∧ P.info? e = some i ∧ i.size = sz := by
  unfold elemT at ht
  split at ht
  · rename_i e' hu
    cases hi : P.info? e' with
    | none => simp [hi] at ht
    | some i => simp [hi] at ht
  · rename_i n e' hu
    cases hi : P.info? e' with
    | none => simp [hi] at ht
    | some i => simp [hi] at ht; obtain ⟨rfl, rfl, h2⟩ := ht; exact ⟨i, hu, hi, h2⟩
  · simp at ht
  · cases ht
theorem elemT_string {t e : TypeId} {sz : Nat} (ht : elemT P t = some (.string, e, sz)) : P.underlying t = some .string := by
  unfold elemT at ht
  split at ht
  · rename_i e' hu
    cases hi : P.info? e' with
    | none => simp [hi] at ht
    | some i => simp [hi] at ht
  · rename_i n e' hu
    cases hi : P.info? e' with
    | none => simp [hi] at ht
    | some i => simp [hi] at ht
  · assumption
  · cases ht
theorem fldT_spec {t ft : TypeId} {i off sz : Nat} (hf : fldT P t i = some (off, ft, sz)) :
    ∃ fs f j, P.underlying t = some (.struct fs) ∧ fs[i]? = some f ∧ P.info? f.type = some j ∧ f.offset = off ∧ f.type = ft ∧ j.size = sz := by
  unfold fldT at hf
  split at hf
  · rename_i fs hu
    split at hf
    · rename_i f hff
      split at hf
      · rename_i j hj
        injection hf with hf
        injection hf with h1 h2
        injection h2 with h2 h3
        exact ⟨fs, f, j, hu, hff, hj, h1, h2, h3⟩
      · cases hf
    · cases hf
  · cases hf

theorem run_sizeOf_info {t : TypeId} {i : TypeInfo} (hi : P.info? t = some i) (w : World) : (sizeOf t).run P w = .ok i.size w := by
  simp [sizeOf, typeInfo, hi]

theorem run_part {t : TypeId} {n : Nat} {b : Bool} (ht : tinfo P t = some (n, b)) (cs : Array Value) (off : Nat) (w : World) :
    (part t cs off).run P w = if b then .ok (.agg (cs.extract off (off + n))) w else (match cs[off]? with | some v => .ok v w | none => .halt (.stuck "part: no such cell") w) := by
  unfold part
  simp only [Sem.run_bind, run_isAgg ht, Result.andThen_ok]
  cases b
  · simp only [Bool.false_eq_true, if_false]
    cases cs[off]? <;> rfl
  · simp only [if_true, Sem.run_bind, run_sizeOf' ht, Result.andThen_ok, Sem.run_pure]

theorem repL_extract {cs : Array Value} {xs : List AV} (hc : RepL F cs xs) {off n : Nat} (hn : off + n ≤ xs.length) : RepL F (cs.extract off (off + n)) ((xs.drop off).take n) := by
  refine ⟨by simp [hc.1]; omega, fun i hi => ?_⟩
  simp at hi
  have h1 := hc.2 (off + i) (by omega)
  rw [getD_take (by omega), getD_drop]
  have h2 : off + i < cs.size := by rw [hc.1]; omega
  have h3 : i < (cs.extract off (off + n)).size := by simp; omega
  simp only [Array.getD, h2, h3, dif_pos, Array.getElem_extract] at h1 ⊢
  simpa using h1

theorem faddr_sound {t : TypeId} {i : Nat} {x : AV} {v : Value} {S : Prop} {y : AV} (e : faddrAV P t i x = (S, y)) (hs : S) (hv : Rep F v x) :
    ∃ u, (∀ w, (Instr.fieldAt t v i).run P w = .ok u w) ∧ Rep F u y := by
  unfold faddrAV at e
  split at e
  · rename_i off ft sz hf
    obtain ⟨fs, f, j, h1, h2, h3, h4, h5, h6⟩ := fldT_spec hf
    have run : ∀ b o, sz ≠ 0 → ∀ w, (Instr.fieldAt t (.pointer (some ⟨b, o, none⟩)) i).run P w = .ok (.pointer (some ⟨b, o + off, none⟩)) w := by
      intro b o hsz w
      unfold Instr.fieldAt fieldPlace
      have : j.size ≠ 0 := by omega
      simp [run_underlying h1, h2, Instr.sureAddr, run_sizeOf_info h3, this, addr_add, h4]
    split at e
    · rename_i b o
      injection e with e1 e2
      subst e1 e2
      cases hv
      exact ⟨_, run b o hs, .ptr _ _⟩
    · rename_i row
      injection e with e1 e2
      subst e1 e2
      cases hv with
      | vptr b o row cv hc hr =>
        refine ⟨_, run b o hs.1, .vptr _ _ _ (fun k => cv (off + k)) (fun k hk => ?_) (fun k hk => ?_)⟩
        · simp at hk
          rw [Nat.add_assoc]
          exact hc (off + k) (by omega)
        · simp at hk
          rw [getD_drop]
          exact hr (off + k) (by omega)
    · injection e with e1 e2; subst e1; exact hs.elim
  · injection e with e1 e2; subst e1; exact hs.elim

theorem field_sound {t : TypeId} {i : Nat} {x : AV} {v : Value} {S : Prop} {y : AV} (e : fieldAV P t i x = (S, y)) (hs : S) (hv : Rep F v x) :
    ∃ u, (∀ w, (Instr.field t v i).run P w = .ok u w) ∧ Rep F u y := by
  unfold fieldAV at e
  split at e
  · rename_i off ft sz hf
    obtain ⟨fs, f, j, h1, h2, h3, h4, h5, h6⟩ := fldT_spec hf
    split at e
    · rename_i xs
      obtain ⟨cs, rfl, hc⟩ := hv.agg_inv
      have run : ∀ w, (Instr.field t (.agg cs) i).run P w = (part ft cs off).run P w := by
        intro w
        unfold Instr.field
        simp [run_underlying h1, h2, asAgg, h4, h5]
      split at e
      · rename_i n ht
        injection e with e1 e2
        subst e1 e2
        have := repL_extract hc hs
        exact ⟨_, fun w => by rw [run, run_part ht]; rfl, .agg _ _ this.1 this.2⟩
      · rename_i n ht
        injection e with e1 e2
        subst e1 e2
        have h7 := hc.2 off hs
        have h8 : off < cs.size := by rw [hc.1]; exact hs
        refine ⟨cs[off], fun w => by rw [run, run_part ht]; simp [h8], ?_⟩
        simpa [Array.getD, h8] using h7
      · injection e with e1 e2; subst e1; exact hs.elim
    · injection e with e1 e2; subst e1; exact hs.elim
  · injection e with e1 e2; subst e1; exact hs.elim


theorem getD_drop' {cv : Nat → Value} {b o off : Nat} {row : List AV} (hc : ∀ j, j < row.length → F b (o + j) = some (cv j)) (hr : ∀ j, j < row.length → Rep F (cv j) (row.getD j .any)) :
    Rep F (.pointer (some ⟨b, o + off, none⟩)) (.vptr (row.drop off)) := by
  refine .vptr _ _ _ (fun k => cv (off + k)) (fun k hk => ?_) (fun k hk => ?_)
  · simp at hk
    rw [Nat.add_assoc]
    exact hc (off + k) (by omega)
  · simp at hk
    rw [getD_drop]
    exact hr (off + k) (by omega)

theorem idxAddr_sound {t : TypeId} {x i : AV} {u v : Value} {S : Prop} {y : AV} (e : idxAddrAV P t x i = (S, y)) (hs : S) (hu : Rep F u x) (hv : Rep F v i) :
    ∃ q, (∀ w, (Instr.indexAt t u v).run P w = .ok q w) ∧ Rep F q y := by
  unfold idxAddrAV at e
  split at e
  · rename_i k n
    cases hv
    split at e
    · rename_i el sz s rows tk ht
      obtain ⟨ti, h1, h2, h3⟩ := elemT_slice ht
      injection e with e1 e2
      subst e1 e2
      obtain ⟨hn0, hn1, hsz⟩ := hs
      cases hu with
      | listNil => simp at hn1
      | listNo => simp at hn1
      | listFull => simp at hn1
      | listE => simp at hn1
      | listEF => simp at hn1
      | list b o cap sz' len rows tk cv hn hc hl h hr hk =>
        refine ⟨.pointer (some ⟨b, o + n.toNat * sz, none⟩), fun w => ?_, ?_⟩
        · unfold Instr.indexAt
          have hlt : 0 ≤ n ∧ n < (len : Int) := by omega
          simp [asIntOf, run_underlying h1, hlt, run_sizeOf_info h2, addr_add, h3]
        · subst hsz
          have hlen : (rows.getD n.toNat []).length = s := by
            have : rows.getD n.toNat [] = rows[n.toNat] := by simp [List.getD, hn1]
            rw [this]; exact hl _ (List.getElem_mem hn1)
          refine .vptr _ _ _ (cv n.toNat) (fun j hj => h n.toNat j hn1 (by omega)) (fun j hj => hr n.toNat j hn1 (by omega))
    · rename_i el sz b off len cap ht
      obtain ⟨ti, h1, h2, h3⟩ := elemT_slice ht
      injection e with e1 e2
      subst e1 e2
      obtain ⟨hn0, hn1⟩ := hs
      cases hu
      refine ⟨.pointer (some ⟨b, off + n.toNat * sz, none⟩), fun w => ?_, .ptr _ _⟩
      unfold Instr.indexAt
      have hlt : 0 ≤ n ∧ n < (len : Int) := by omega
      simp [asIntOf, run_underlying h1, hlt, run_sizeOf_info h2, addr_add, h3]
    · rename_i len el sz b off ht
      obtain ⟨ti, h1, h2, h3⟩ := elemT_array ht
      injection e with e1 e2
      subst e1 e2
      obtain ⟨hn0, hn1⟩ := hs
      cases hu
      refine ⟨.pointer (some ⟨b, off + n.toNat * sz, none⟩), fun w => ?_, .ptr _ _⟩
      unfold Instr.indexAt
      have hlt : 0 ≤ n ∧ n < (len : Int) := by omega
      simp [asIntOf, run_underlying h1, hlt, run_sizeOf_info h2, addr_add, h3, Instr.sureAddr]
    · rename_i len el sz row ht
      obtain ⟨ti, h1, h2, h3⟩ := elemT_array ht
      injection e with e1 e2
      subst e1 e2
      obtain ⟨hn0, hn1, hn2⟩ := hs
      cases hu with
      | vptr b o row cv hc hr =>
        refine ⟨.pointer (some ⟨b, o + n.toNat * sz, none⟩), fun w => ?_, getD_drop' hc hr⟩
        unfold Instr.indexAt
        have hlt : 0 ≤ n ∧ n < (len : Int) := by omega
        simp [asIntOf, run_underlying h1, hlt, run_sizeOf_info h2, addr_add, h3, Instr.sureAddr]
    · injection e with e1 e2; subst e1; exact hs.elim
  · injection e with e1 e2; subst e1; exact hs.elim

theorem idx_sound {t : TypeId} {x i : AV} {u v : Value} {S : Prop} {y : AV} (e : idxAV P t x i = (S, y)) (hs : S) (hu : Rep F u x) (hv : Rep F v i) :
    ∃ q, (∀ w, (Instr.index t u v).run P w = .ok q w) ∧ Rep F q y := by
  unfold idxAV at e
  split at e
  · rename_i k n
    cases hv
    split at e
    · rename_i el sz l ht
      have h1 := elemT_string ht
      injection e with e1 e2
      subst e1 e2
      obtain ⟨hn0, hn1⟩ := hs
      obtain ⟨s, rfl, rfl⟩ := hu.str_inv
      have hsz : n.toNat < s.size := by rw [ByteArray.size, ← Array.length_toList]; exact hn1
      have hx : (s.data.toList.getD n.toNat 0) = s[n.toNat] := by
        simp [List.getD, ByteArray.getElem_eq_getElem_data]
        rw [Array.getElem?_eq_getElem (by simpa using hn1)]; rfl
      refine ⟨.int .u8 (s[n.toNat].toNat), fun w => ?_, by rw [hx]; exact .int _ _⟩
      unfold Instr.index
      simp [asIntOf, run_underlying h1, hn0, ByteArray.getElem?_lt' s n.toNat hsz]
    · rename_i len el sz xs ht
      obtain ⟨ti, h1, h2, h3⟩ := elemT_array ht
      obtain ⟨cs, rfl, hc⟩ := hu.agg_inv
      have run : 0 ≤ n → n.toNat < len → ∀ w, (Instr.index t (.agg cs) (.int k n)).run P w = (part el cs (n.toNat * sz)).run P w := by
        intro a b w
        unfold Instr.index
        have hlt : 0 ≤ n ∧ n < (len : Int) := by omega
        simp [asIntOf, run_underlying h1, hlt, run_sizeOf_info h2, h3]
      split at e
      · rename_i m hm
        injection e with e1 e2
        subst e1 e2
        obtain ⟨a, b, c⟩ := hs
        have hms : m = sz := by obtain ⟨i', d, q1, q2, q3, q4⟩ := tinfo_spec hm; rw [h2] at q1; injection q1 with q1; subst q1; omega
        subst hms
        have := repL_extract hc c
        exact ⟨_, fun w => by rw [run a b, run_part hm]; rfl, .agg _ _ this.1 this.2⟩
      · rename_i m hm
        injection e with e1 e2
        subst e1 e2
        obtain ⟨a, b, c⟩ := hs
        have h7 := hc.2 (n.toNat * sz) c
        have h8 : n.toNat * sz < cs.size := by rw [hc.1]; exact c
        refine ⟨cs[n.toNat * sz], fun w => by rw [run a b, run_part hm]; simp [h8], ?_⟩
        simpa [Array.getD, h8] using h7
      · injection e with e1 e2; subst e1; exact hs.elim
    · injection e with e1 e2; subst e1; exact hs.elim
  · injection e with e1 e2; subst e1; exact hs.elim

theorem len_sound {t ty : TypeId} {x : AV} {u : Value} {S : Prop} {y : AV} (e : lenAV P t x = (S, y)) (hs : S) (hu : Rep F u x) :
    ∃ q, (∀ w, (Builtin.len_ #[t] ty #[u]).run P w = .ok q w) ∧ Rep F q y := by
  unfold lenAV at e
  split at e
  · rename_i el sz l ht
    have h1 := elemT_string ht
    injection e with e1 e2
    subst e1 e2
    obtain ⟨s, rfl, rfl⟩ := hu.str_inv
    have hsz : (s.data.toList.length : Int) = s.size := by rw [ByteArray.size, ← Array.length_toList]
    refine ⟨.int .i64 s.size, fun w => ?_, by rw [hsz]; exact .int _ _⟩
    unfold Builtin.len_
    simp [run_underlying h1, goInt]
  · rename_i el sz s rows tk ht
    obtain ⟨ti, h1, h2, h3⟩ := elemT_slice ht
    injection e with e1 e2
    subst e1 e2
    cases hu with
    | listNil => exact ⟨.int .i64 0, fun w => by unfold Builtin.len_; simp [run_underlying h1, goInt], .int _ _⟩
    | listNo => exact ⟨.int .i64 0, fun w => by unfold Builtin.len_; simp [run_underlying h1, goInt], .int _ _⟩
    | listFull => exact ⟨.int .i64 0, fun w => by unfold Builtin.len_; simp [run_underlying h1, goInt], .int _ _⟩
    | listE => exact ⟨.int .i64 0, fun w => by unfold Builtin.len_; simp [run_underlying h1, goInt], .int _ _⟩
    | listEF => exact ⟨.int .i64 0, fun w => by unfold Builtin.len_; simp [run_underlying h1, goInt], .int _ _⟩
    | list b o cap sz' len rows tk cv hn hc hl h hr hk => exact ⟨.int .i64 len, fun w => by unfold Builtin.len_; simp [run_underlying h1, goInt], by rw [hn]; exact .int _ _⟩
  · rename_i el sz b off len cap ht
    obtain ⟨ti, h1, h2, h3⟩ := elemT_slice ht
    injection e with e1 e2
    subst e1 e2
    cases hu
    exact ⟨.int .i64 len, fun w => by unfold Builtin.len_; simp [run_underlying h1, goInt], .int _ _⟩
  · rename_i n el sz ht
    obtain ⟨ti, h1, h2, h3⟩ := elemT_array ht
    injection e with e1 e2
    subst e1 e2
    exact ⟨.int .i64 n, fun w => by unfold Builtin.len_; simp [run_underlying h1, goInt], .int _ _⟩
  · injection e with e1 e2; subst e1; exact hs.elim

end
end Go.AL
