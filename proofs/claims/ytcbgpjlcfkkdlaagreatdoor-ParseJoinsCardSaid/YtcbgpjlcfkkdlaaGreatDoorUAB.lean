import Derived.Test.YtcbgpjlcfkkdlaaGreatDoorUAA
import Derived.Laws.Bits
import Derived.Laws.Pointers
import Derived.Laws.Unary
import Derived.Laws.StructEq
import Derived.WalkSpells
set_option linter.unusedSimpArgs false
set_option linter.unusedVariables false
namespace Go.AL
open Go Go.RowKit
def AV.val : AV → AV
 | .whn _ x => x.val
 | x => x
def AV.ok : AV → Prop
 | .whn c x => c = true ∧ x.ok
 | _ => True
theorem Rep.val {F : Fin} {v : Value} {x : AV} (h : Rep F v x) (ho : x.ok) : Rep F v x.val := by
 induction h with
 | whn c v x h hf ih => exact ih ho.1 ho.2
 | any v => exact .any v
 | bool b => exact .bool b
 | int k n => exact .int k n
 | str s l h => exact .str s l h
 | nilp => exact .nilp
 | ptr b off => exact .ptr b off
 | vptr b off row cv h hr ih => exact .vptr b off row cv h hr
 | listNil sz => exact .listNil sz
 | listNo sz => exact .listNo sz
 | listFull sz => exact .listFull sz
 | listE a sz => exact .listE a sz
 | listEF a sz => exact .listEF a sz
 | list b o cap sz n rows t cv hn hc hl h hr ht ih => exact .list b o cap sz n rows t cv hn hc hl h hr ht
 | arr b off len cap => exact .arr b off len cap
 | agg cs xs hl h ih => exact .agg cs xs hl h
 | tup cs xs hl h ih => exact .tup cs xs hl h
 | fn f cs xs hl h ih => exact .fn f cs xs hl h
 | nilf => exact .nilf
def tinfo (P : Program) (t : TypeId) : Option (Nat × Bool) :=
 match P.info? t, P.underlying t with
 | some i, some d => some (i.size, match d with | .struct _ | .array _ _ => true | _ => false)
 | _, _ => none
def fldT (P : Program) (t : TypeId) (i : Nat) : Option (Nat × TypeId × Nat) :=
 match P.underlying t with
 | some (.struct fs) => match fs[i]? with
  | some f => match P.info? f.type with
   | some j => some (f.offset, f.type, j.size)
   | none => none
  | none => none
 | _ => none
inductive EK where | slice | array (n : Nat) | string
def elemT (P : Program) (t : TypeId) : Option (EK × TypeId × Nat) :=
 match P.underlying t with
 | some (.slice e) => (P.info? e).map fun i => (.slice, e, i.size)
 | some (.array n e) => (P.info? e).map fun i => (.array n, e, i.size)
 | some .string => some (.string, 0, 1)
 | _ => none
def loadAV (P : Program) (h : Heap) (t : TypeId) (a : AV) : Prop × AV :=
 match tinfo P t with
 | some (n, true) => match a with
  | .vptr row => (n ≤ row.length, .agg (row.take n))
  | .ptr b off => match h b with
   | some (.cells cs) => (off + n ≤ cs.length, .agg ((cs.drop off).take n))
   | _ => (False, .any)
  | _ => (False, .any)
 | some (_, false) => match a with
  | .vptr row => (0 < row.length, row.getD 0 .any)
  | .ptr b off => match h b with
   | some (.cells cs) => (off < cs.length, cs.getD off .any)
   | _ => (False, .any)
  | _ => (False, .any)
 | none => (False, .any)
section
variable {P : Program} {w0 : Base} {w : World} {F : Fin} {h : Heap}
theorem tinfo_spec {t : TypeId} {n : Nat} {b : Bool} (ht : tinfo P t = some (n, b)) :
  ∃ i d, P.info? t = some i ∧ P.underlying t = some d ∧ i.size = n ∧ (match d with | .struct _ | .array _ _ => true | _ => false) = b := by
 unfold tinfo at ht
 split at ht
 ·rename_i i d e1 e2
  injection ht with ht
  injection ht with h1 h2
  exact ⟨i, d, e1, e2, h1, h2⟩
 ·cases ht
theorem run_isAgg {t : TypeId} {n : Nat} {b : Bool} (ht : tinfo P t = some (n, b)) (w : World) : (isAgg t).run P w = .ok b w := by
 obtain ⟨i, d, h1, h2, h3, h4⟩ := tinfo_spec ht
 unfold isAgg
 simp only [Sem.run_bind, run_underlying h2, Result.andThen_ok]
 cases d <;> simp_all
theorem run_sizeOf' {t : TypeId} {n : Nat} {b : Bool} (ht : tinfo P t = some (n, b)) (w : World) : (sizeOf t).run P w = .ok n w := by
 obtain ⟨i, d, h1, h2, h3, h4⟩ := tinfo_spec ht
 simp [sizeOf, typeInfo, h1, h3]
theorem addr_add (b o j : Nat) : (⟨b, o, none⟩ : Addr).add j = ⟨b, o + j, none⟩ := by
 unfold Addr.add; split <;> simp_all
theorem repL_range {cv : Nat → Value} {xs : List AV} {n : Nat} (hn : n = xs.length) (hr : ∀ j, j < n → Rep F (cv j) (xs.getD j .any)) :
  RepL F ((List.range n).map cv).toArray xs := by
 subst hn
 refine ⟨by simp, fun i hi => ?_⟩
 have := hr i hi
 simp [Array.getD, hi] at this ⊢
 exact this
theorem getD_take {row : List AV} {n j : Nat} (hj : j < n) : (row.take n).getD j .any = row.getD j .any := by
 simp [List.getD, hj]
theorem getD_drop {row : List AV} {n j : Nat} : (row.drop n).getD j .any = row.getD (n + j) .any := by
 simp [List.getD, List.getElem?_drop]
theorem run_loadVar_agg {t : TypeId} {n : Nat} (ht : tinfo P t = some (n, true)) (b o : Nat) (cv : Nat → Value) (hc : ∀ j, j < n → w.cell? ⟨b, o + j, none⟩ = some (cv j)) :
  (loadVar t ⟨b, o, none⟩).run P w = .ok (.agg ((List.range n).map cv).toArray) w := by
 unfold loadVar
 simp only [Sem.run_bind, run_isAgg ht, Result.andThen_ok, if_true, run_sizeOf' ht]
 rw [run_loadCells (P := P) (w := w) ⟨b, o, none⟩ n cv (fun j hj => by rw [addr_add]; exact hc j hj)]
 rfl
theorem run_loadVar_one {t : TypeId} {n : Nat} (ht : tinfo P t = some (n, false)) (b o : Nat) (v : Value) (hc : w.cell? ⟨b, o, none⟩ = some v) :
  (loadVar t ⟨b, o, none⟩).run P w = .ok v w := by
 unfold loadVar
 simp only [Sem.run_bind, run_isAgg ht, Result.andThen_ok]
 simp [hc]
def Like (F : Fin) (h : Heap) (w1 w : World) : Prop :=
 (∀ b y, h b = some y → w.heap[b]? = w1.heap[b]?) ∧ ∀ b o u, F b o = some u → w.cell? ⟨b, o, none⟩ = some u
theorem Inv.like {F : Fin} (hi : Inv w0 F w h) : Like F h w w := ⟨fun _ _ _ => rfl, fun b o u e => (hi.fin b o u e).1⟩
theorem Inv.cell {F : Fin} (hi : Inv w0 F w h) {b : Nat} {cs : List AV} (hb : h b = some (.cells cs)) :
  ∃ arr : Array Value, (∀ w', Like F h w w' → ∀ j, j < cs.length → w'.cell? ⟨b, j, none⟩ = some (arr.getD j undef)) ∧ ∀ j, j < cs.length → Rep F (arr.getD j undef) (cs.getD j .any) := by
 obtain ⟨_, _, arr, t, he, hs, hr, _⟩ := hi.blk b _ hb
 refine ⟨arr, fun w' hl j hj => ?_, hr⟩
 rw [cell_of_row w' b j arr t _ ((hl.1 b _ hb).trans he)]
 have : j < arr.size := by omega
 simp [Array.getD, this]
theorem loadAV_sound {t : TypeId} {a : AV} {v : Value} (hi : Inv w0 F w h) (hv : Rep F v a) {x : AV} {S : Prop} (e : loadAV P h t a = (S, x)) (hs : S) :
  ∃ u, (∀ w', Like F h w w' → (Instr.loadAt t v).run P w' = .ok u w') ∧ Rep F u x := by
 unfold loadAV at e
 split at e
 ·rename_i n ht
  split at e
  ·rename_i row
   injection e with e1 e2
   subst e1 e2
   cases hv with
   | vptr b off row cv hc hr =>
    refine ⟨.agg ((List.range n).map cv).toArray, fun w' hl => ?_, ?_⟩
    ·simp only [Instr.loadAt, Instr.sureAddr, Sem.run_bind, Sem.run_pure, Result.andThen_ok]
     exact run_loadVar_agg ht b off cv (fun j hj => hl.2 _ _ _ (hc j (by omega)))
    ·have := repL_range (F := F) (cv := cv) (xs := row.take n) (n := n) (by simp; omega) (fun j hj => by rw [getD_take hj]; exact hr j (by omega))
     exact .agg _ _ this.1 this.2
  ·rename_i b off
   cases hv
   split at e
   ·rename_i cs hb
    injection e with e1 e2
    subst e1 e2
    obtain ⟨arr, h1, h2⟩ := hi.cell hb
    refine ⟨.agg ((List.range n).map fun j => arr.getD (off + j) undef).toArray, fun w' hl => ?_, ?_⟩
    ·simp only [Instr.loadAt, Instr.sureAddr, Sem.run_bind, Sem.run_pure, Result.andThen_ok]
     exact run_loadVar_agg ht b off _ (fun j hj => h1 w' hl (off + j) (by omega))
    ·have := repL_range (F := F) (cv := fun j => arr.getD (off + j) undef) (xs := (cs.drop off).take n) (n := n) (by simp; omega)
      (fun j hj => by rw [getD_take hj, getD_drop]; exact h2 (off + j) (by omega))
     exact .agg _ _ this.1 this.2
   ·injection e with e1 e2; subst e1; exact hs.elim
  ·injection e with e1 e2; subst e1; exact hs.elim
 ·rename_i n ht
  split at e
  ·rename_i row
   injection e with e1 e2
   subst e1 e2
   cases hv with
   | vptr b off row cv hc hr =>
    refine ⟨cv 0, fun w' hl => ?_, hr 0 hs⟩
    simp only [Instr.loadAt, Instr.sureAddr, Sem.run_bind, Sem.run_pure, Result.andThen_ok]
    exact run_loadVar_one ht b off _ (hl.2 _ _ _ (hc 0 hs))
  ·rename_i b off
   cases hv
   split at e
   ·rename_i cs hb
    injection e with e1 e2
    subst e1 e2
    obtain ⟨arr, h1, h2⟩ := hi.cell hb
    refine ⟨arr.getD off undef, fun w' hl => ?_, h2 off hs⟩
    simp only [Instr.loadAt, Instr.sureAddr, Sem.run_bind, Sem.run_pure, Result.andThen_ok]
    exact run_loadVar_one ht b off _ (h1 w' hl off hs)
   ·injection e with e1 e2; subst e1; exact hs.elim
  ·injection e with e1 e2; subst e1; exact hs.elim
 ·injection e with e1 e2; subst e1; exact hs.elim
end
def wr (k : IntKind) (n : Int) : Int := k.wrap n
def bitAnd (k : IntKind) (a b : Int) : Int := k.wrap (BitVec.ofInt k.bits a &&& BitVec.ofInt k.bits b).toNat
def bitOr (k : IntKind) (a b : Int) : Int := k.wrap (BitVec.ofInt k.bits a ||| BitVec.ofInt k.bits b).toNat
def bitXor (k : IntKind) (a b : Int) : Int := k.wrap (BitVec.ofInt k.bits a ^^^ BitVec.ofInt k.bits b).toNat
def bitClear (k : IntKind) (a b : Int) : Int := k.wrap (BitVec.ofInt k.bits a &&& ~~~ BitVec.ofInt k.bits b).toNat
def binInt (op : BinOp) (k : IntKind) (a b : Int) : Prop × AV :=
 match op with
 | .add => (True, .int k (k.wrap (a + b)))
 | .sub => (True, .int k (k.wrap (a - b)))
 | .mul => (True, .int k (k.wrap (a * b)))
 | .quo => (b ≠ 0, .int k (k.wrap (a.tdiv b)))
 | .rem => (b ≠ 0, .int k (a.tmod b))
 | .and => (True, .int k (bitAnd k a b))
 | .or => (True, .int k (bitOr k a b))
 | .xor => (True, .int k (bitXor k a b))
 | .andNot => (True, .int k (bitClear k a b))
 | .eql => (True, .bool (decide (a = b)))
 | .neq => (True, .bool (!decide (a = b)))
 | .lss => (True, .bool (decide (a < b)))
 | .leq => (True, .bool (decide (a ≤ b)))
 | .gtr => (True, .bool (decide (b < a)))
 | .geq => (True, .bool (decide (b ≤ a)))
 | _ => (False, .any)
def binStr (op : BinOp) (a b : List UInt8) : Prop × AV :=
 match op with
 | .add => (a.length + b.length ≤ 9223372036854775807, .str (a ++ b))
 | .eql => (True, .bool (decide (a = b)))
 | .neq => (True, .bool (!decide (a = b)))
 | .lss => (True, .bool (Op.bytesLess a b))
 | .leq => (True, .bool (Op.bytesLess a b || decide (a = b)))
 | .gtr => (True, .bool (!(Op.bytesLess a b || decide (a = b))))
 | .geq => (True, .bool (!Op.bytesLess a b))
 | _ => (False, .any)
section
variable {P : Program} {w : World}
theorem beq_dec (a b : Int) : (a == b) = decide (a = b) := by by_cases e : a = b <;> simp [e]
theorem i64max : IntKind.i64.max = 9223372036854775807 := by decide
theorem binInt_sound {op : BinOp} {k : IntKind} {a b : Int} {S : Prop} {x : AV} (t : TypeId) (e : binInt op k a b = (S, x)) (hs : S) (F : Fin) :
  ∃ u, (∀ w, (binOp op t (.int k a) (.int k b)).run P w = .ok u w) ∧ Rep F u x := by
 cases op <;> simp only [binInt] at e <;> injection e with e1 e2 <;> subst e1 e2 <;> first
  | exact hs.elim
  | (refine ⟨_, fun w => ?_, .int _ _⟩; simp [binOp, Op.intArith, Op.intDiv, Op.intBits, bitAnd, bitOr, bitXor, bitClear, hs]; done)
  | (refine ⟨_, fun w => ?_, .bool _⟩; simp [binOp, Op.intCmp]; done)
  | (refine ⟨_, fun w => ?_, .bool _⟩; simp only [binOp, Op.intCmp, beq_dec, bne, ne_eq, not_true, if_false, Sem.run_pure]; done)
theorem binStr_sound {op : BinOp} {a b : List UInt8} {va vb : Value} {S : Prop} {x : AV} (t : TypeId) (e : binStr op a b = (S, x)) (hs : S) {F : Fin} (ha : Rep F va (.str a)) (hb : Rep F vb (.str b)) :
  ∃ u, (∀ w, (binOp op t va vb).run P w = .ok u w) ∧ Rep F u x := by
 obtain ⟨sa, rfl, rfl⟩ := ha.str_inv
 obtain ⟨sb, rfl, rfl⟩ := hb.str_inv
 have hbq : ∀ (x y : List UInt8), (x == y) = decide (x = y) := fun x y => by by_cases e : x = y <;> simp [e]
 cases op with
 | add =>
  simp only [binStr] at e
  injection e with e1 e2
  rw [← e2]
  rw [← e1] at hs
  have hsz : ∀ s : ByteArray, s.size = s.data.toList.length := fun s => by rw [ByteArray.size, Array.length_toList]
  have h1 := hsz sa
  have h2 := hsz sb
  refine ⟨.string (sa ++ sb), fun w => ?_, .str _ _ (by rw [ByteArray.data_append, Array.toList_append])⟩
  simp only [binOp, Op.stringOp]
  rw [if_neg (by rw [i64max]; omega)]
  rfl
 | _ =>
  simp only [binStr] at e
  injection e with e1 e2
  first
   | exact (e1 ▸ hs : False).elim
   | (subst e2; refine ⟨_, fun w => ?_, .bool _⟩; simp only [binOp, Op.stringOp, ByteArray.toList_eq, hbq]; rfl)
end
end Go.AL

