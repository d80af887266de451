import Derived.Test.YtcbgpjlcfkkdlaaGreatDoorUAB
import Derived.Laws.Slices
import Derived.Laws.Cover3
import Derived.Lib.SliceRun
set_option linter.unusedSimpArgs false
set_option linter.unusedVariables false
namespace Go.AL
open Go Go.RowKit
def leafs (P : Program) : Nat → TypeId → List TypeId
 | 0, t => [t]
 | n + 1, t => match P.underlying t with
  | some (.struct fs) => (fs.toList.map fun f => leafs P n f.type).flatten
  | some (.array m e) => (List.replicate m (leafs P n e)).flatten
  | _ => [t]
def zeroA (P : Program) (t : TypeId) : Option (List AV) :=
 match P.info? t with
 | some i => match i.zero with
  | some z => let l := leafs P 12 t
   if l.length = z.cells.size ∧ i.size = z.cells.size ∧ z.cells.all Value.oneCell' then some (List.zipWith (absC P) l z.cells.toList) else none
  | none => none
 | none => none
section
variable {P : Program} {w0 : Base} {w : World} {F : Fin} {h : Heap}
theorem zeroA_spec {t : TypeId} {xs : List AV} (e : zeroA P t = some xs) (F : Fin) :
  ∃ i z, P.info? t = some i ∧ i.zero = some z ∧ i.size = xs.length ∧ RepL F z.cells xs ∧ ∀ j, j < xs.length → (z.cells.getD j undef).oneCell' = true := by
 unfold zeroA at e
 split at e
 ·rename_i i hi
  split at e
  ·rename_i z hz
   simp only at e
   split at e
   ·rename_i hl
    injection e with e
    subst e
    refine ⟨i, z, hi, hz, by simp; omega, ⟨by simp; omega, fun j hj => ?_⟩, fun j hj => ?_⟩
    ·simp at hj
     have h1 : j < (leafs P 12 t).length := by omega
     have h2 : j < z.cells.size := by omega
     have h3 : (List.zipWith (absC P) (leafs P 12 t) z.cells.toList)[j]? = some (absC P (leafs P 12 t)[j] z.cells[j]) := by
      simp [List.getElem?_zipWith, h1, h2]
     simp only [Array.getD, h2, List.getD, h3]
     exact absC_rep P _ F _
    ·simp at hj
     have h2 : j < z.cells.size := by omega
     have h3 := Array.all_eq_true.1 hl.2.2 j h2
     simp [Array.getD, h2, h3]
   ·cases e
  ·cases e
 ·cases e
theorem run_zeroValue {t : TypeId} {i : TypeInfo} {z : Value} (hi : P.info? t = some i) (hz : i.zero = some z) (w : World) : (zeroValue t).run P w = .ok z w := by
 simp [zeroValue, typeInfo, hi, hz]
inductive FK where | int | bool | str
def fkT (P : Program) (t : TypeId) : Option FK :=
 match P.underlying t with
 | some (.int _) => some .int
 | some .bool => some .bool
 | some .string => some .str
 | _ => none
def flatGo (P : Program) : Nat → List Field → Option (List FK)
 | _, [] => some []
 | n, f :: fs => if f.name ≠ "_" ∧ f.offset = n then (match fkT P f.type, flatGo P (n + 1) fs with
   | some k, some ks => some (k :: ks)
   | _, _ => none) else none
def flatK (P : Program) (t : TypeId) : Option (List FK) :=
 match P.underlying t with
 | some (.struct fs) => if P.stoodInHeld t = false ∧ P.eqGuardType P.depth t = false then flatGo P 0 fs.toList else none
 | _ => none
def eqAV : FK → AV → AV → Option Bool
 | .int, .int k a, .int k' b => if k = k' then some (decide (a = b)) else none
 | .bool, .bool a, .bool b => some (a == b)
 | .str, .str a, .str b => some (decide (a = b))
 | _, _, _ => none
def eqAVs : List FK → List AV → List AV → Option Bool
 | [], [], [] => some true
 | k :: ks, x :: xs, y :: ys => match eqAV k x y, eqAVs ks xs ys with
  | some a, some b => some (a && b)
  | _, _ => none
 | _, _, _ => none
def eqOp (op : BinOp) (b : Bool) : Prop × AV :=
 match op with
 | .eql => (True, .bool b)
 | .neq => (True, .bool (!b))
 | _ => (False, .any)
def isPtrT (P : Program) (t : TypeId) : Bool := match P.underlying t with | some (.pointer _) => true | _ => false
def isBoolT (P : Program) (t : TypeId) : Bool := match P.underlying t with | some .bool => true | _ => false
def isSliceT (P : Program) (t : TypeId) : Bool := match P.underlying t with | some (.slice _) => true | _ => false
def isShift : BinOp → Bool | .shl | .shr => true | _ => false
def binAV (P : Program) (op : BinOp) (t : TypeId) (x y : AV) : Prop × AV :=
  match x, y with
  | .int k a, .int k' b =>
    if isShift op then
      (match op with
       | .shl => (0 ≤ b, .int k (k.wrap (a * 2 ^ (min b.toNat k.bits))))
       | _ => (0 ≤ b, .int k (a.fdiv (2 ^ (min b.toNat k.bits)))))
    else if k = k' then binInt op k a b else (False, .any)
  | .str a, .str b => binStr op a b
  | .bool a, .bool b => if isBoolT P t then eqOp op (a == b) else (False, .any)
  | .nilp, .nilp => if isPtrT P t then eqOp op true else (False, .any)
  | .ptr _ _, .nilp => if isPtrT P t then eqOp op false else (False, .any)
  | .vptr _, .nilp => if isPtrT P t then eqOp op false else (False, .any)
  | .list _ _ k, .list _ _ .nil => if isSliceT P t then (match k with
      | .nil => eqOp op true
      | .own _ _ _ => eqOp op false
      | _ => (False, .any)) else (False, .any)
  | .arr _ _ _ _, .list _ _ .nil => if isSliceT P t then eqOp op false else (False, .any)
  | .agg xs, .agg ys => (match flatK P t with | some ks => (match eqAVs ks xs ys with | some b => eqOp op b | none => (False, .any)) | none => (False, .any))
  | _, _ => (False, .any)
theorem eqGuard_plain {op : BinOp} {t : TypeId} {x y : Operand} {a b : Value} (ha : ∀ cs, a ≠ .agg cs) (hn : a ≠ .nilIface) (w : World) : (eqGuard op t x y a b).run P w = .ok () w := by
 cases a <;> first | exact absurd rfl (ha _) | exact absurd rfl hn | (cases op <;> cases b <;> rfl)
theorem pointee_of (t : TypeId) (h : isPtrT P t = true) : P.underlying t = some (.pointer (P.pointee t)) := by
 unfold isPtrT at h
 split at h
 ·rename_i e he; simp [Program.pointee, he]
 ·cases h
theorem eqOp_sound {op : BinOp} {b : Bool} {t : TypeId} {S : Prop} {x : AV} (e : eqOp op b = (S, x)) (hs : S) (F : Fin) {u v : Value}
  (h1 : ∀ w, (binOp .eql t u v).run P w = .ok (.bool b) w) (h2 : ∀ w, (binOp .neq t u v).run P w = .ok (.bool (!b)) w) :
  ∃ r, (∀ w, (binOp op t u v).run P w = .ok r w) ∧ Rep F r x := by
 cases op <;> simp only [eqOp] at e <;> injection e with e1 e2 <;> subst e2 <;> first
  | exact (e1 ▸ hs : False).elim
  | exact ⟨_, h1, .bool _⟩
  | exact ⟨_, h2, .bool _⟩
theorem fkT_spec {t : TypeId} {k : FK} (e : fkT P t = some k) (w : World) (cs : Array Value) (off : Nat) (v : Value) (hv : cs[off]? = some v) : (part t cs off).run P w = .ok v w := by
 unfold fkT at e
 unfold part isAgg
 split at e <;> first
  | (rename_i hu; simp [run_underlying hu, hv]; done)
  | (cases e; done)
theorem beq_decB (a b : List UInt8) : (a == b) = decide (a = b) := by by_cases e : a = b <;> simp [e]
theorem eqAV_sound {k : FK} {x y : AV} {b : Bool} (e : eqAV k x y = some b) {u v : Value} (hu : Rep F u x) (hv : Rep F v y) (d : Nat) {t : TypeId} (ht : fkT P t = some k) (w : World) :
    (Op.equalIn (d + 1) t u v).run P w = .ok b w := by
  unfold eqAV at e
  unfold fkT at ht
  split at e
  · rename_i k1 a k2 c
    split at e
    · rename_i hk
      subst hk
      injection e with e
      subst e
      cases hu; cases hv
      split at ht <;> first | (rename_i hd; rw [run_equalIn_int w d t _ _ a c hd, beq_dec]; done) | (cases ht; done)
    · cases e
  · injection e with e
    subst e
    cases hu; cases hv
    split at ht <;> first | (rename_i hd; exact run_equalIn_bool' w d t _ _ hd) | (cases ht; done)
  · injection e with e
    subst e
    obtain ⟨sa, rfl, rfl⟩ := hu.str_inv
    obtain ⟨sb, rfl, rfl⟩ := hv.str_inv
    split at ht <;> first
      | (rename_i hd
         rw [run_equalIn_string w d t _ _ hd]
         simp only [ByteArray.toList_eq]
         congr 1
         first | (by_cases e : sa.data.toList = sb.data.toList <;> simp [e]; done) | exact beq_decB _ _)
      | (cases ht; done)
  · cases e
theorem eqFields_sound (d : Nat) : ∀ (fs : List Field) (n : Nat) (ks : List FK) (xs ys : List AV) (b : Bool) (cs ds : Array Value),
  flatGo P n fs = some ks → eqAVs ks xs ys = some b → (∀ j, j < xs.length → ∃ v, cs[n + j]? = some v ∧ Rep F v (xs.getD j .any)) →
  (∀ j, j < ys.length → ∃ v, ds[n + j]? = some v ∧ Rep F v (ys.getD j .any)) → ∀ w, (Op.eqFields (d + 1) cs ds fs).run P w = .ok b w
 | [], n, ks, xs, ys, b, cs, ds, e1, e2, h1, h2, w => by
  simp only [flatGo] at e1
  injection e1 with e1
  subst e1
  cases xs <;> cases ys <;> simp [eqAVs] at e2
  subst e2
  simp [Op.eqFields]
 | f :: fs, n, ks, xs, ys, b, cs, ds, e1, e2, h1, h2, w => by
  simp only [flatGo] at e1
  split at e1
  ·rename_i hf
   split at e1
   ·rename_i k ks' hk hks
    injection e1 with e1
    subst e1
    cases xs with
    | nil => simp [eqAVs] at e2
    | cons x xs =>
     cases ys with
     | nil => simp [eqAVs] at e2
     | cons y ys =>
      simp only [eqAVs] at e2
      split at e2
      ·rename_i a c ha hc
       injection e2 with e2
       subst e2
       obtain ⟨u, hu1, hu2⟩ := h1 0 (by simp)
       obtain ⟨v, hv1, hv2⟩ := h2 0 (by simp)
       simp only [Nat.add_zero] at hu1 hv1
       simp only [List.getD_cons_zero] at hu2 hv2
       have ih := eqFields_sound d fs (n + 1) ks' xs ys c cs ds hks hc
        (fun j hj => by have := h1 (j + 1) (by simp; omega); rw [show n + (j + 1) = n + 1 + j by omega] at this; simpa using this)
        (fun j hj => by have := h2 (j + 1) (by simp; omega); rw [show n + (j + 1) = n + 1 + j by omega] at this; simpa using this) w
       simp only [Op.eqFields]
       rw [if_pos hf.1]
       simp only [Sem.run_bind, hf.2, fkT_spec hk w cs n u hu1, fkT_spec hk w ds n v hv1, Result.andThen_ok, eqAV_sound ha hu2 hv2 d hk w]
       cases a
       ·simp
       ·simp [ih]
      ·cases e2
   ·cases e1
  ·cases e1
theorem binAV_sound {op : BinOp} {t : TypeId} {ox oy : Operand} {x y : AV} {u v : Value} {S : Prop} {r : AV} (e : binAV P op t x y = (S, r)) (hs : S)
  (hu : Rep F u x) (hv : Rep F v y) :
  ∃ q, (∀ w, (do eqGuard op t ox oy u v; binOp op t u v : Sem Value).run P w = .ok q w) ∧ Rep F q r := by
 have key : (∀ w, (eqGuard op t ox oy u v).run P w = .ok () w) → (∃ q, (∀ w, (binOp op t u v).run P w = .ok q w) ∧ Rep F q r) →
   ∃ q, (∀ w, (do eqGuard op t ox oy u v; binOp op t u v : Sem Value).run P w = .ok q w) ∧ Rep F q r := by
  intro h1 ⟨q, h2, h3⟩
  exact ⟨q, fun w => by simp only [Sem.run_bind, h1, Result.andThen_ok, h2], h3⟩
 have bad : ∀ {T : Prop}, ((False, AV.any) : Prop × AV) = (S, r) → T := fun e => by
  injection e with e1 _; exact (e1 ▸ hs : False).elim
 unfold binAV at e
 split at e
 ·rename_i k a k' b
  cases hu; cases hv
  refine key (eqGuard_plain (by simp) (by simp)) ?_
  split at e
  ·rename_i hsh
   cases op <;> simp [isShift] at hsh <;> simp only at e <;> injection e with e1 e2 <;> subst e1 e2
   ·exact ⟨_, fun w => by simp [binOp, Op.shift]; omega, .int _ _⟩
   ·exact ⟨_, fun w => by simp [binOp, Op.shift]; omega, .int _ _⟩
  ·rename_i hsh
   split at e
   ·rename_i hk; subst hk; exact binInt_sound t e hs F
   ·exact bad e
 ·obtain ⟨sa, rfl, _⟩ := hu.str_inv
  exact key (eqGuard_plain (by simp) (by simp)) (binStr_sound t e hs hu hv)
 ·rename_i a b
  cases hu; cases hv
  refine key (eqGuard_plain (by simp) (by simp)) ?_
  split at e
  ·rename_i hb
   have hd : P.underlying t = some .bool := by
    unfold isBoolT at hb
    split at hb
    ·assumption
    ·cases hb
   exact eqOp_sound e hs F (fun w => run_eql_bool w t a b hd) (fun w => run_neq_bool w t a b hd)
  ·exact bad e
 ·cases hu; cases hv
  refine key (eqGuard_plain (by simp) (by simp)) ?_
  split at e
  ·rename_i hb
   exact eqOp_sound e hs F (fun w => by rw [run_eql_pointer_nil (h := pointee_of t hb)]; rfl) (fun w => by rw [run_neq_pointer_nil (h := pointee_of t hb)]; rfl)
  ·exact bad e
 ·cases hu; cases hv
  refine key (eqGuard_plain (by simp) (by simp)) ?_
  split at e
  ·rename_i hb
   exact eqOp_sound e hs F (fun w => by rw [run_eql_pointer_nil (h := pointee_of t hb)]; rfl) (fun w => by rw [run_neq_pointer_nil (h := pointee_of t hb)]; rfl)
  ·exact bad e
 ·cases hu; cases hv
  refine key (eqGuard_plain (by simp) (by simp)) ?_
  split at e
  ·rename_i hb
   exact eqOp_sound e hs F (fun w => by rw [run_eql_pointer_nil (h := pointee_of t hb)]; rfl) (fun w => by rw [run_neq_pointer_nil (h := pointee_of t hb)]; rfl)
  ·exact bad e
 ·rename_i s1 r1 k s2 r2
  have hvn : v = .slice none 0 0 := by
   cases hv with
   | listNil => rfl
   | list b o cap sz n rows t cv hn hc hl h hr ht => exact ht.elim
  subst hvn
  split at e
  ·rename_i hb
   obtain ⟨el, hel⟩ : ∃ el, P.underlying t = some (.slice el) := by
    unfold isSliceT at hb
    split at hb
    ·exact ⟨_, ‹_›⟩
    ·cases hb
   cases hu with
   | listNil =>
    refine key (eqGuard_plain (by simp) (by simp)) ?_
    exact eqOp_sound e hs F (fun w => Lib.run_eql_slice_nil w t _ none 0 0 0 0 hel) (fun w => run_neq_slice_nil w t _ none 0 0 hel)
   | listNo => exact bad e
   | listFull => exact bad e
   | listE => exact bad e
   | listEF => exact bad e
   | list b o cap sz n rows t cv hn hc hl h hr ht =>
    refine key (eqGuard_plain (by simp) (by simp)) ?_
    cases k with
    | no => exact bad e
    | nil => exact ht.elim
    | full => exact bad e
    | own b k e' => exact eqOp_sound e hs F (fun w => Lib.run_eql_slice_nil w _ _ (some _) _ _ 0 0 hel) (fun w => run_neq_slice_nil w _ _ (some _) _ _ hel)
  ·exact bad e
 ·have hvn : v = .slice none 0 0 := by
   cases hv with
   | listNil => rfl
   | list b o cap sz n rows t cv hn hc hl h hr ht => exact ht.elim
  subst hvn
  cases hu
  split at e
  ·rename_i hb
   obtain ⟨el, hel⟩ : ∃ el, P.underlying t = some (.slice el) := by
    unfold isSliceT at hb
    split at hb
    ·exact ⟨_, ‹_›⟩
    ·cases hb
   refine key (eqGuard_plain (by simp) (by simp)) ?_
   exact eqOp_sound e hs F (fun w => Lib.run_eql_slice_nil w t _ (some _) _ _ 0 0 hel) (fun w => run_neq_slice_nil w t _ (some _) _ _ hel)
  ·exact bad e
 ·rename_i xs ys
  split at e
  ·rename_i ks hks
   split at e
   ·rename_i b hb
    obtain ⟨cs, rfl, hcs⟩ := hu.agg_inv
    obtain ⟨ds, rfl, hds⟩ := hv.agg_inv
    unfold flatK at hks
    split at hks
    ·rename_i fs hfs
     split at hks
     ·rename_i hp
      have hft : P.underlying t = some (.struct (P.fieldsOf t)) := by simp [Program.fieldsOf, hfs]
      have hfl : P.fieldsOf t = fs := by simp [Program.fieldsOf, hfs]
      refine key (fun w => run_eqGuard_agg w op t ox oy cs ds hp.2) ?_
      have hget : ∀ {cs : Array Value} {xs : List AV}, RepL F cs xs → ∀ j, j < xs.length → ∃ v, cs[0 + j]? = some v ∧ Rep F v (xs.getD j .any) := by
       intro cs xs hc j hj
       have h1 := hc.2 j hj
       have h2 : j < cs.size := by rw [hc.1]; exact hj
       refine ⟨cs[j], by simp [h2], ?_⟩
       simpa [Array.getD, h2] using h1
      have hrun : ∀ w, (Op.equalIn 10000 t (.agg cs) (.agg ds)).run P w = .ok b w := fun w => by
       rw [run_equalIn_agg w 9999 t cs ds hft hp.1, hfl]
       exact eqFields_sound 9998 fs.toList 0 ks xs ys b cs ds hks hb (hget hcs) (hget hds) w
      exact eqOp_sound e hs F (fun w => by rw [run_eql_struct, hrun]; rfl) (fun w => by rw [run_neq_struct, hrun]; rfl)
     ·cases hks
    ·cases hks
   ·exact bad e
  ·exact bad e
 ·exact bad e
def nilQ (P : Program) (op : BinOp) (t : TypeId) (x y : AV) : Bool :=
 match op with
 | .eql | .neq => isSliceT P t && (match x, y with
  | .list _ _ .no, .list _ _ .nil | .list _ _ .full, .list _ _ .nil => true
  | _, _ => false)
 | _ => false
def rowsOf : AV → List (List AV)
 | .list _ rows _ => rows
 | _ => []
def notB (op : BinOp) (b : Bool) : Bool := match op with | .neq => !b | _ => b
theorem nilQ_sound {op : BinOp} {t : TypeId} {ox oy : Operand} {x y : AV} {u v : Value} (e : nilQ P op t x y = true) (hu : Rep F u x) (hv : Rep F v y) :
  ∃ b : Bool, (b = true → rowsOf x = []) ∧ ∀ w, (do eqGuard op t ox oy u v; binOp op t u v : Sem Value).run P w = .ok (.bool (notB op b)) w := by
 have main : ∀ k, (k = Tok.no ∨ k = Tok.full) → ∀ sz rows sz2 rows2, x = .list sz rows k → y = .list sz2 rows2 .nil → (op = .eql ∨ op = .neq) → isSliceT P t = true →
   ∃ b : Bool, (b = true → rowsOf x = []) ∧ ∀ w, (do eqGuard op t ox oy u v; binOp op t u v : Sem Value).run P w = .ok (.bool (notB op b)) w := by
  intro k hk sz rows sz2 rows2 hx hy hop hsl
  subst hx hy
  obtain ⟨el, hel⟩ : ∃ el, P.underlying t = some (.slice el) := by
   unfold isSliceT at hsl
   split at hsl
   ·exact ⟨_, ‹_›⟩
   ·cases hsl
  have hvn : v = .slice none 0 0 := by
   cases hv with
   | listNil => rfl
   | list b o cap sz n rows t cv hn hc hl h hr ht => exact ht.elim
  subst hvn
  have huv : ∃ a n c, u = .slice a n c ∧ (a.isNone = true → rows = []) := by
   cases hu with
   | listNil => exact ⟨_, _, _, rfl, fun _ => rfl⟩
   | listNo => exact ⟨_, _, _, rfl, fun _ => rfl⟩
   | listFull => exact ⟨_, _, _, rfl, fun _ => rfl⟩
   | listE => exact ⟨_, _, _, rfl, fun _ => rfl⟩
   | listEF => exact ⟨_, _, _, rfl, fun _ => rfl⟩
   | list b o cap sz n rows t cv hn hc hl h hr ht => exact ⟨_, _, _, rfl, fun h => by cases h⟩
  obtain ⟨a, n, c, rfl, ha⟩ := huv
  refine ⟨a.isNone, ha, fun w => ?_⟩
  simp only [Sem.run_bind, eqGuard_plain (a := Value.slice a n c) (by simp) (by simp), Result.andThen_ok]
  rcases hop with rfl | rfl
  ·exact Lib.run_eql_slice_nil w t _ a n c 0 0 hel
  ·exact run_neq_slice_nil w t _ a n c hel
 unfold nilQ at e
 split at e
 ·simp at e
  obtain ⟨e1, e2⟩ := e
  split at e2
  ·exact main .no (.inl rfl) _ _ _ _ rfl rfl (.inl rfl) e1
  ·exact main .full (.inr rfl) _ _ _ _ rfl rfl (.inl rfl) e1
  ·cases e2
 ·simp at e
  obtain ⟨e1, e2⟩ := e
  split at e2
  ·exact main .no (.inl rfl) _ _ _ _ rfl rfl (.inr rfl) e1
  ·exact main .full (.inr rfl) _ _ _ _ rfl rfl (.inr rfl) e1
  ·cases e2
 ·cases e
end
end Go.AL

namespace Go.AL
open Go Go.RowKit
def pickV (t : Bool) (x y : AV) : AV :=
 match x, y with
 | .bool a, .bool b => .bool (if t then a else b)
 | .int k a, .int k' b => if k = k' then .int k (if t then a else b) else (if t then .int k a else .int k' b)
 | .str a, .str b => .str (if t then a else b)
 | x, y => if t then x else y
def pickAV (c x y : AV) : Prop × AV :=
 match c with
 | .bool t => ((t = true → x.ok) ∧ (t = false → y.ok), pickV t x.val y.val)
 | _ => (False, .any)
def nilAV : AV → Prop × AV
 | .ptr b o => (True, .ptr b o)
 | .vptr r => (True, .vptr r)
 | .fn f cs => (True, .fn f cs)
 | _ => (False, .any)
def unAV (op : UnOp) (x : AV) : Prop × AV :=
 match op, x with
 | .neg, .int k n => (True, .int k (k.wrap (0 - n)))
 | .not, .bool b => (True, .bool (!b))
 | _, _ => (False, .any)
inductive CK where | int (k : IntKind) | same | b2s
def convK (P : Program) (src dst : TypeId) : Option CK :=
 match P.underlying src, P.underlying dst with
 | some _, some (.int k) => some (.int k)
 | some .string, some .string => some .same
 | some (.slice e), some .string => match P.underlying e with
  | some (.int .u8) => some .b2s
  | _ => none
 | _, _ => none
def byteOfRow : List AV → Option UInt8
 | [.int .u8 n] => some (UInt8.ofNat n.toNat)
 | _ => none
def convAV (P : Program) (src dst : TypeId) (x : AV) : Prop × AV :=
 match convK P src dst, x with
 | some (.int k), .int _ n => (True, .int k (k.wrap n))
 | some .same, .str s => (True, .str s)
 | _, _ => (False, .any)
def faddrAV (P : Program) (t : TypeId) (i : Nat) (x : AV) : Prop × AV :=
 match fldT P t i with
 | some (off, _, sz) => match x with
  | .ptr b o => (sz ≠ 0, .ptr b (o + off))
  | .vptr row => (sz ≠ 0 ∧ off ≤ row.length, .vptr (row.drop off))
  | _ => (False, .any)
 | none => (False, .any)
def fieldAV (P : Program) (t : TypeId) (i : Nat) (x : AV) : Prop × AV :=
 match fldT P t i with
 | some (off, ft, _) => match x with
  | .agg xs => (match tinfo P ft with
   | some (n, true) => (off + n ≤ xs.length, .agg ((xs.drop off).take n))
   | some (_, false) => (off < xs.length, xs.getD off .any)
   | none => (False, .any))
  | _ => (False, .any)
 | none => (False, .any)
def idxAddrAV (P : Program) (t : TypeId) (x i : AV) : Prop × AV :=
 match i with
 | .int _ n => match elemT P t, x with
  | some (.slice, _, sz), .list s rows _ => (0 ≤ n ∧ n.toNat < rows.length ∧ s = sz, .vptr (rows.getD n.toNat []))
  | some (.slice, _, sz), .arr b off len _ => (0 ≤ n ∧ n.toNat < len, .ptr b (off + n.toNat * sz))
  | some (.array len, _, sz), .ptr b off => (0 ≤ n ∧ n.toNat < len, .ptr b (off + n.toNat * sz))
  | some (.array len, _, sz), .vptr row => (0 ≤ n ∧ n.toNat < len ∧ n.toNat * sz ≤ row.length, .vptr (row.drop (n.toNat * sz)))
  | _, _ => (False, .any)
 | _ => (False, .any)
def idxAV (P : Program) (t : TypeId) (x i : AV) : Prop × AV :=
 match i with
 | .int _ n => match elemT P t, x with
  | some (.string, _, _), .str l => (0 ≤ n ∧ n.toNat < l.length, .int .u8 ((l.getD n.toNat 0).toNat : Int))
  | some (.array len, e, sz), .agg xs => (match tinfo P e with
   | some (_, true) => (0 ≤ n ∧ n.toNat < len ∧ n.toNat * sz + sz ≤ xs.length, .agg ((xs.drop (n.toNat * sz)).take sz))
   | some (_, false) => (0 ≤ n ∧ n.toNat < len ∧ n.toNat * sz < xs.length, xs.getD (n.toNat * sz) .any)
   | none => (False, .any))
  | _, _ => (False, .any)
 | _ => (False, .any)
def extAV (i : Nat) (x : AV) : Prop × AV :=
 match x with
 | .tup vs => (i < vs.length, vs.getD i .any)
 | _ => (False, .any)
def lenAV (P : Program) (t : TypeId) (x : AV) : Prop × AV :=
 match elemT P t, x with
 | some (.string, _, _), .str l => (True, .int .i64 l.length)
 | some (.slice, _, _), .list _ rows _ => (True, .int .i64 rows.length)
 | some (.slice, _, _), .arr _ _ len _ => (True, .int .i64 len)
 | some (.array n, _, _), _ => (True, .int .i64 n)
 | _, _ => (False, .any)
def maxAV (x y : AV) : Prop × AV :=
 match x, y with
 | .int k a, .int _ b => (True, .int k (max a b))
 | _, _ => (False, .any)
def minAV (x y : AV) : Prop × AV :=
 match x, y with
 | .int k a, .int _ b => (True, .int k (min a b))
 | _, _ => (False, .any)
def loOf : Option AV → Option Int
 | none => some 0
 | some (.int _ n) => some n
 | _ => none
def hiOf (len : Nat) : Option AV → Option Int
 | none => some len
 | some (.int _ n) => some n
 | _ => none
def sliceAV (P : Program) (t : TypeId) (x : AV) (lo hi mx : Option AV) : Prop × AV :=
 match elemT P t, x with
 | some (.string, _, _), .str l => (match loOf lo, hiOf l.length hi, mx with
  | some a, some b, none => (0 ≤ a ∧ a ≤ b ∧ b ≤ l.length, .str ((l.take b.toNat).drop a.toNat))
  | _, _, _ => (False, .any))
 | some (.slice, _, sz), .list s rows _ => (match loOf lo, hiOf rows.length hi, hi, mx with
  | some a, some b, _, none => (0 ≤ a ∧ a ≤ b ∧ b ≤ rows.length ∧ s = sz, .list sz ((rows.take b.toNat).drop a.toNat) .no)
  | some a, some b, some _, some (.int _ m) => (0 ≤ a ∧ a ≤ b ∧ b = m ∧ b ≤ rows.length ∧ s = sz, .list sz ((rows.take b.toNat).drop a.toNat) .full)
  | _, _, _, _ => (False, .any))
 | some (.slice, _, sz), .arr b off len cap => (match loOf lo, hiOf len hi, hi, mx with
  | some a, some c, _, none => (0 ≤ a ∧ a ≤ c ∧ c ≤ len ∧ len ≤ cap, .arr b (if cap = a.toNat then off else off + a.toNat * sz) (c.toNat - a.toNat) (cap - a.toNat))
  | some a, some c, some _, some (.int _ m) => (0 ≤ a ∧ a ≤ c ∧ c = m ∧ c ≤ len ∧ len ≤ cap, .arr b (if c.toNat = a.toNat then off else off + a.toNat * sz) (c.toNat - a.toNat) (c.toNat - a.toNat))
  | _, _, _, _ => (False, .any))
 | _, _ => (False, .any)
def placeT (P : Program) (t : TypeId) (i : Nat) : Option (Nat × Nat) :=
 match P.underlying t with
 | some (.struct _) => (fldT P t i).map fun x => (x.1, x.2.2)
 | some (.array _ e) | some (.slice e) => (P.info? e).map fun j => (i * j.size, j.size)
 | _ => none
def splice (cs : List AV) (off : Nat) (vs : List AV) : List AV := cs.take off ++ vs ++ cs.drop (off + vs.length)
def fillA (P : Program) (t : TypeId) : List (Nat × AV) → List AV → Prop × List AV
 | [], cs => (True, cs)
 | (i, x) :: rest, cs => match placeT P t i with
  | some (off, sz) => let r := fillA P t rest (splice cs off x.cells)
   (x.cells.length = sz ∧ off + sz ≤ cs.length ∧ (∀ c ∈ x.cells, c.isCell = true) ∧ r.1, r.2)
  | none => (False, [])
def fieldsOk (P : Program) (t : TypeId) : Bool :=
 match P.underlying t with
 | some (.struct fs) => fs.toList.all fun f => (P.info? f.type).isSome
 | some (.array _ e) => (P.info? e).isSome
 | _ => false
def buildAV (P : Program) (t : TypeId) (parts : List (Nat × AV)) : Prop × AV :=
 match zeroA P t with
 | some z => (fieldsOk P t = true ∧ (fillA P t parts z).1, .agg (fillA P t parts z).2)
 | none => (False, .any)
def two (f : AV → AV → Prop × AV) (x y : AV) : Prop × AV := (x.ok ∧ y.ok ∧ (f x.val y.val).1, (f x.val y.val).2)
def one (f : AV → Prop × AV) (x : AV) : Prop × AV := (x.ok ∧ (f x.val).1, (f x.val).2)
def okO : Option AV → Prop | none => True | some x => x.ok
def pev (P : Program) (α : AAct) (h : Heap) (o : Oper) : Option (Prop × AV) :=
 match o.op with
 | .move x | .assign x => some (True, α.ev P o.type x)
 | .pick c a b => some (one (fun c => pickAV c (α.ev P o.type a) (α.ev P o.type b)) (α.ev P 0 c))
 | .build t parts => some (buildAV P t (parts.toList.map fun p => (p.1, (α.ev P (((fldT P t p.1).map (·.2.1)).getD 0) p.2))))
 | .load t a => some (one (loadAV P h t) (α.ev P 0 a))
 | .nilCheck x => some (one nilAV (α.ev P 0 x))
 | .binOp op t x y _ => if nilQ P op t (α.ev P t x) (α.ev P t y) then none else some (two (binAV P op t) (α.ev P t x) (α.ev P t y))
 | .unOp op t x => some (one (unAV op) (α.ev P t x))
 | .convert src dst x => match convK P src dst with
  | some (.int _) | some .same => some (one (convAV P src dst) (α.ev P src x))
  | _ => none
 | .makeFunc (.func f) first caps => if first.size = 0 then some (True, .fn f (caps.toList.map (α.ev P 0))) else none
 | .slice t x lo hi mx => some (let l := lo.map (α.ev P 0); let r := hi.map (α.ev P 0); let m := mx.map (α.ev P 0);
   ((α.ev P t x).ok ∧ okO l ∧ okO r ∧ okO m ∧ (sliceAV P t (α.ev P t x).val (l.map AV.val) (r.map AV.val) (m.map AV.val)).1,
    (sliceAV P t (α.ev P t x).val (l.map AV.val) (r.map AV.val) (m.map AV.val)).2))
 | .fieldAddr t x i => some (one (faddrAV P t i) (α.ev P 0 x))
 | .field t x i => some (one (fieldAV P t i) (α.ev P t x))
 | .indexAddr t x i => some (two (idxAddrAV P t) (α.ev P t x) (α.ev P 0 i))
 | .index t x i => some (two (idxAV P t) (α.ev P t x) (α.ev P 0 i))
 | .extract x i => some (one (extAV i) (α.ev P 0 x))
 | .call { callee := .builtin .len, args, argTypes } => match args.toList, argTypes.toList with
  | [x], [t] => some (one (lenAV P t) (α.ev P t x))
  | _, _ => none
 | .call { callee := .builtin .max, args, .. } => match args.toList with
  | [x, y] => some (two maxAV (α.ev P 0 x) (α.ev P 0 y))
  | _ => none
 | .call { callee := .builtin .min, args, .. } => match args.toList with
  | [x, y] => some (two minAV (α.ev P 0 x) (α.ev P 0 y))
  | _ => none
 | _ => none
def Pure (P : Program) (o : Oper) (α : AAct) (h : Heap) (x : AV) : Prop :=
 ∀ (w0 : Base) (F : Fin) (a : Act) (w1 : World), Inv w0 F w1 h → RepA F a α → ∃ v, Rep F v x ∧ ∀ w, Like F h w1 w → (execOp a.eval o).run P w = .ok (.value v) w
section
variable {P : Program} {w0 : Base} {w : World} {F : Fin} {h : Heap}
theorem one_split {f : AV → Prop × AV} {x : AV} {S : Prop} {y : AV} (e : one f x = (S, y)) (hs : S) : x.ok ∧ ∃ T, f x.val = (T, y) ∧ T := by
 unfold one at e
 injection e with e1 e2
 subst e1 e2
 exact ⟨hs.1, _, rfl, hs.2⟩
theorem two_split {f : AV → AV → Prop × AV} {x y : AV} {S : Prop} {z : AV} (e : two f x y = (S, z)) (hs : S) : x.ok ∧ y.ok ∧ ∃ T, f x.val y.val = (T, z) ∧ T := by
 unfold two at e
 injection e with e1 e2
 subst e1 e2
 exact ⟨hs.1, hs.2.1, _, rfl, hs.2.2⟩
theorem pickV_rep {t : Bool} {x y : AV} {u v : Value} (hu : t = true → Rep F u x) (hv : t = false → Rep F v y) : Rep F (if t then u else v) (pickV t x y) := by
 cases t
 ·have h1 := hv rfl
  show Rep F v (pickV false x y)
  unfold pickV
  split
  ·exact h1
  ·split
   ·rename_i hk; rw [hk]; exact h1
   ·exact h1
  ·exact h1
  ·exact h1
 ·have h1 := hu rfl
  show Rep F u (pickV true x y)
  unfold pickV
  split
  ·exact h1
  ·split
   ·exact h1
   ·exact h1
  ·exact h1
  ·exact h1
theorem elemT_slice {t e : TypeId} {sz : Nat} (ht : elemT P t = some (.slice, e, sz)) : ∃ i, P.underlying t = some (.slice e) ∧ P.info? e = some i ∧ i.size = sz := by
 unfold elemT at ht
 split at ht
 ·rename_i e' hu
  cases hi : P.info? e' with
  | none => simp [hi] at ht
  | some i => simp [hi] at ht; obtain ⟨rfl, h2⟩ := ht; exact ⟨i, hu, hi, h2⟩
 ·rename_i n e' hu
  cases hi : P.info? e' with
  | none => simp [hi] at ht
  | some i => simp [hi] at ht
 ·simp at ht
 ·cases ht
theorem elemT_array {t e : TypeId} {n sz : Nat} (ht : elemT P t = some (.array n, e, sz)) : ∃ i, P.underlying t = some (.array n e) ∧ P.info? e = some i ∧ i.size = sz := by
 unfold elemT at ht
 split at ht
 ·rename_i e' hu
  cases hi : P.info? e' with
  | none => simp [hi] at ht
  | some i => simp [hi] at ht
 ·rename_i n e' hu
  cases hi : P.info? e' with
  | none => simp [hi] at ht
  | some i => simp [hi] at ht; obtain ⟨rfl, rfl, h2⟩ := ht; exact ⟨i, hu, hi, h2⟩
 ·simp at ht
 ·cases ht
theorem elemT_string {t e : TypeId} {sz : Nat} (ht : elemT P t = some (.string, e, sz)) : P.underlying t = some .string := by
 unfold elemT at ht
 split at ht
 ·rename_i e' hu
  cases hi : P.info? e' with
  | none => simp [hi] at ht
  | some i => simp [hi] at ht
 ·rename_i n e' hu
  cases hi : P.info? e' with
  | none => simp [hi] at ht
  | some i => simp [hi] at ht
 ·assumption
 ·cases ht
theorem fldT_spec {t ft : TypeId} {i off sz : Nat} (hf : fldT P t i = some (off, ft, sz)) :
  ∃ fs f j, P.underlying t = some (.struct fs) ∧ fs[i]? = some f ∧ P.info? f.type = some j ∧ f.offset = off ∧ f.type = ft ∧ j.size = sz := by
 unfold fldT at hf
 split at hf
 ·rename_i fs hu
  split at hf
  ·rename_i f hff
   split at hf
   ·rename_i j hj
    injection hf with hf
    injection hf with h1 h2
    injection h2 with h2 h3
    exact ⟨fs, f, j, hu, hff, hj, h1, h2, h3⟩
   ·cases hf
  ·cases hf
 ·cases hf
theorem run_sizeOf_info {t : TypeId} {i : TypeInfo} (hi : P.info? t = some i) (w : World) : (sizeOf t).run P w = .ok i.size w := by
 simp [sizeOf, typeInfo, hi]
theorem run_part {t : TypeId} {n : Nat} {b : Bool} (ht : tinfo P t = some (n, b)) (cs : Array Value) (off : Nat) (w : World) :
  (part t cs off).run P w = if b then .ok (.agg (cs.extract off (off + n))) w else (match cs[off]? with | some v => .ok v w | none => .halt (.stuck "part: no such cell") w) := by
 unfold part
 simp only [Sem.run_bind, run_isAgg ht, Result.andThen_ok]
 cases b
 ·simp only [Bool.false_eq_true, if_false]
  cases cs[off]? <;> rfl
 ·simp only [if_true, Sem.run_bind, run_sizeOf' ht, Result.andThen_ok, Sem.run_pure]
theorem repL_extract {cs : Array Value} {xs : List AV} (hc : RepL F cs xs) {off n : Nat} (hn : off + n ≤ xs.length) : RepL F (cs.extract off (off + n)) ((xs.drop off).take n) := by
 refine ⟨by simp [hc.1]; omega, fun i hi => ?_⟩
 simp at hi
 have h1 := hc.2 (off + i) (by omega)
 rw [getD_take (by omega), getD_drop]
 have h2 : off + i < cs.size := by rw [hc.1]; omega
 have h3 : i < (cs.extract off (off + n)).size := by simp; omega
 simp only [Array.getD, h2, h3, dif_pos, Array.getElem_extract] at h1 ⊢
 simpa using h1
theorem faddr_sound {t : TypeId} {i : Nat} {x : AV} {v : Value} {S : Prop} {y : AV} (e : faddrAV P t i x = (S, y)) (hs : S) (hv : Rep F v x) :
  ∃ u, (∀ w, (Instr.fieldAt t v i).run P w = .ok u w) ∧ Rep F u y := by
 unfold faddrAV at e
 split at e
 ·rename_i off ft sz hf
  obtain ⟨fs, f, j, h1, h2, h3, h4, h5, h6⟩ := fldT_spec hf
  have run : ∀ b o, sz ≠ 0 → ∀ w, (Instr.fieldAt t (.pointer (some ⟨b, o, none⟩)) i).run P w = .ok (.pointer (some ⟨b, o + off, none⟩)) w := by
   intro b o hsz w
   unfold Instr.fieldAt fieldPlace
   have : j.size ≠ 0 := by omega
   simp [run_underlying h1, h2, Instr.sureAddr, run_sizeOf_info h3, this, addr_add, h4]
  split at e
  ·rename_i b o
   injection e with e1 e2
   subst e1 e2
   cases hv
   exact ⟨_, run b o hs, .ptr _ _⟩
  ·rename_i row
   injection e with e1 e2
   subst e1 e2
   cases hv with
   | vptr b o row cv hc hr =>
    refine ⟨_, run b o hs.1, .vptr _ _ _ (fun k => cv (off + k)) (fun k hk => ?_) (fun k hk => ?_)⟩
    ·simp at hk
     rw [Nat.add_assoc]
     exact hc (off + k) (by omega)
    ·simp at hk
     rw [getD_drop]
     exact hr (off + k) (by omega)
  ·injection e with e1 e2; subst e1; exact hs.elim
 ·injection e with e1 e2; subst e1; exact hs.elim
theorem field_sound {t : TypeId} {i : Nat} {x : AV} {v : Value} {S : Prop} {y : AV} (e : fieldAV P t i x = (S, y)) (hs : S) (hv : Rep F v x) :
  ∃ u, (∀ w, (Instr.field t v i).run P w = .ok u w) ∧ Rep F u y := by
 unfold fieldAV at e
 split at e
 ·rename_i off ft sz hf
  obtain ⟨fs, f, j, h1, h2, h3, h4, h5, h6⟩ := fldT_spec hf
  split at e
  ·rename_i xs
   obtain ⟨cs, rfl, hc⟩ := hv.agg_inv
   have run : ∀ w, (Instr.field t (.agg cs) i).run P w = (part ft cs off).run P w := by
    intro w
    unfold Instr.field
    simp [run_underlying h1, h2, asAgg, h4, h5]
   split at e
   ·rename_i n ht
    injection e with e1 e2
    subst e1 e2
    have := repL_extract hc hs
    exact ⟨_, fun w => by rw [run, run_part ht]; rfl, .agg _ _ this.1 this.2⟩
   ·rename_i n ht
    injection e with e1 e2
    subst e1 e2
    have h7 := hc.2 off hs
    have h8 : off < cs.size := by rw [hc.1]; exact hs
    refine ⟨cs[off], fun w => by rw [run, run_part ht]; simp [h8], ?_⟩
    simpa [Array.getD, h8] using h7
   ·injection e with e1 e2; subst e1; exact hs.elim
  ·injection e with e1 e2; subst e1; exact hs.elim
 ·injection e with e1 e2; subst e1; exact hs.elim
theorem getD_drop' {cv : Nat → Value} {b o off : Nat} {row : List AV} (hc : ∀ j, j < row.length → F b (o + j) = some (cv j)) (hr : ∀ j, j < row.length → Rep F (cv j) (row.getD j .any)) :
  Rep F (.pointer (some ⟨b, o + off, none⟩)) (.vptr (row.drop off)) := by
 refine .vptr _ _ _ (fun k => cv (off + k)) (fun k hk => ?_) (fun k hk => ?_)
 ·simp at hk
  rw [Nat.add_assoc]
  exact hc (off + k) (by omega)
 ·simp at hk
  rw [getD_drop]
  exact hr (off + k) (by omega)
theorem idxAddr_sound {t : TypeId} {x i : AV} {u v : Value} {S : Prop} {y : AV} (e : idxAddrAV P t x i = (S, y)) (hs : S) (hu : Rep F u x) (hv : Rep F v i) :
  ∃ q, (∀ w, (Instr.indexAt t u v).run P w = .ok q w) ∧ Rep F q y := by
 unfold idxAddrAV at e
 split at e
 ·rename_i k n
  cases hv
  split at e
  ·rename_i el sz s rows tk ht
   obtain ⟨ti, h1, h2, h3⟩ := elemT_slice ht
   injection e with e1 e2
   subst e1 e2
   obtain ⟨hn0, hn1, hsz⟩ := hs
   cases hu with
   | listNil => simp at hn1
   | listNo => simp at hn1
   | listFull => simp at hn1
   | listE => simp at hn1
   | listEF => simp at hn1
   | list b o cap sz' len rows tk cv hn hc hl h hr hk =>
    refine ⟨.pointer (some ⟨b, o + n.toNat * sz, none⟩), fun w => ?_, ?_⟩
    ·unfold Instr.indexAt
     have hlt : 0 ≤ n ∧ n < (len : Int) := by omega
     simp [asIntOf, run_underlying h1, hlt, run_sizeOf_info h2, addr_add, h3]
    ·subst hsz
     have hlen : (rows.getD n.toNat []).length = s := by
      have : rows.getD n.toNat [] = rows[n.toNat] := by simp [List.getD, hn1]
      rw [this]; exact hl _ (List.getElem_mem hn1)
     refine .vptr _ _ _ (cv n.toNat) (fun j hj => h n.toNat j hn1 (by omega)) (fun j hj => hr n.toNat j hn1 (by omega))
  ·rename_i el sz b off len cap ht
   obtain ⟨ti, h1, h2, h3⟩ := elemT_slice ht
   injection e with e1 e2
   subst e1 e2
   obtain ⟨hn0, hn1⟩ := hs
   cases hu
   refine ⟨.pointer (some ⟨b, off + n.toNat * sz, none⟩), fun w => ?_, .ptr _ _⟩
   unfold Instr.indexAt
   have hlt : 0 ≤ n ∧ n < (len : Int) := by omega
   simp [asIntOf, run_underlying h1, hlt, run_sizeOf_info h2, addr_add, h3]
  ·rename_i len el sz b off ht
   obtain ⟨ti, h1, h2, h3⟩ := elemT_array ht
   injection e with e1 e2
   subst e1 e2
   obtain ⟨hn0, hn1⟩ := hs
   cases hu
   refine ⟨.pointer (some ⟨b, off + n.toNat * sz, none⟩), fun w => ?_, .ptr _ _⟩
   unfold Instr.indexAt
   have hlt : 0 ≤ n ∧ n < (len : Int) := by omega
   simp [asIntOf, run_underlying h1, hlt, run_sizeOf_info h2, addr_add, h3, Instr.sureAddr]
  ·rename_i len el sz row ht
   obtain ⟨ti, h1, h2, h3⟩ := elemT_array ht
   injection e with e1 e2
   subst e1 e2
   obtain ⟨hn0, hn1, hn2⟩ := hs
   cases hu with
   | vptr b o row cv hc hr =>
    refine ⟨.pointer (some ⟨b, o + n.toNat * sz, none⟩), fun w => ?_, getD_drop' hc hr⟩
    unfold Instr.indexAt
    have hlt : 0 ≤ n ∧ n < (len : Int) := by omega
    simp [asIntOf, run_underlying h1, hlt, run_sizeOf_info h2, addr_add, h3, Instr.sureAddr]
  ·injection e with e1 e2; subst e1; exact hs.elim
 ·injection e with e1 e2; subst e1; exact hs.elim
theorem idx_sound {t : TypeId} {x i : AV} {u v : Value} {S : Prop} {y : AV} (e : idxAV P t x i = (S, y)) (hs : S) (hu : Rep F u x) (hv : Rep F v i) :
  ∃ q, (∀ w, (Instr.index t u v).run P w = .ok q w) ∧ Rep F q y := by
 unfold idxAV at e
 split at e
 ·rename_i k n
  cases hv
  split at e
  ·rename_i el sz l ht
   have h1 := elemT_string ht
   injection e with e1 e2
   subst e1 e2
   obtain ⟨hn0, hn1⟩ := hs
   obtain ⟨s, rfl, rfl⟩ := hu.str_inv
   have hsz : n.toNat < s.size := by rw [ByteArray.size, ← Array.length_toList]; exact hn1
   have hx : (s.data.toList.getD n.toNat 0) = s[n.toNat] := by
    simp [List.getD, ByteArray.getElem_eq_getElem_data]
    rw [Array.getElem?_eq_getElem (by simpa using hn1)]; rfl
   refine ⟨.int .u8 (s[n.toNat].toNat), fun w => ?_, by rw [hx]; exact .int _ _⟩
   unfold Instr.index
   simp [asIntOf, run_underlying h1, hn0, ByteArray.getElem?_lt' s n.toNat hsz]
  ·rename_i len el sz xs ht
   obtain ⟨ti, h1, h2, h3⟩ := elemT_array ht
   obtain ⟨cs, rfl, hc⟩ := hu.agg_inv
   have run : 0 ≤ n → n.toNat < len → ∀ w, (Instr.index t (.agg cs) (.int k n)).run P w = (part el cs (n.toNat * sz)).run P w := by
    intro a b w
    unfold Instr.index
    have hlt : 0 ≤ n ∧ n < (len : Int) := by omega
    simp [asIntOf, run_underlying h1, hlt, run_sizeOf_info h2, h3]
   split at e
   ·rename_i m hm
    injection e with e1 e2
    subst e1 e2
    obtain ⟨a, b, c⟩ := hs
    have hms : m = sz := by obtain ⟨i', d, q1, q2, q3, q4⟩ := tinfo_spec hm; rw [h2] at q1; injection q1 with q1; subst q1; omega
    subst hms
    have := repL_extract hc c
    exact ⟨_, fun w => by rw [run a b, run_part hm]; rfl, .agg _ _ this.1 this.2⟩
   ·rename_i m hm
    injection e with e1 e2
    subst e1 e2
    obtain ⟨a, b, c⟩ := hs
    have h7 := hc.2 (n.toNat * sz) c
    have h8 : n.toNat * sz < cs.size := by rw [hc.1]; exact c
    refine ⟨cs[n.toNat * sz], fun w => by rw [run a b, run_part hm]; simp [h8], ?_⟩
    simpa [Array.getD, h8] using h7
   ·injection e with e1 e2; subst e1; exact hs.elim
  ·injection e with e1 e2; subst e1; exact hs.elim
 ·injection e with e1 e2; subst e1; exact hs.elim
theorem len_sound {t ty : TypeId} {x : AV} {u : Value} {S : Prop} {y : AV} (e : lenAV P t x = (S, y)) (hs : S) (hu : Rep F u x) :
  ∃ q, (∀ w, (Builtin.len_ #[t] ty #[u]).run P w = .ok q w) ∧ Rep F q y := by
 unfold lenAV at e
 split at e
 ·rename_i el sz l ht
  have h1 := elemT_string ht
  injection e with e1 e2
  subst e1 e2
  obtain ⟨s, rfl, rfl⟩ := hu.str_inv
  have hsz : (s.data.toList.length : Int) = s.size := by rw [ByteArray.size, ← Array.length_toList]
  refine ⟨.int .i64 s.size, fun w => ?_, by rw [hsz]; exact .int _ _⟩
  unfold Builtin.len_
  simp [run_underlying h1, goInt]
 ·rename_i el sz s rows tk ht
  obtain ⟨ti, h1, h2, h3⟩ := elemT_slice ht
  injection e with e1 e2
  subst e1 e2
  cases hu with
  | listNil => exact ⟨.int .i64 0, fun w => by unfold Builtin.len_; simp [run_underlying h1, goInt], .int _ _⟩
  | listNo => exact ⟨.int .i64 0, fun w => by unfold Builtin.len_; simp [run_underlying h1, goInt], .int _ _⟩
  | listFull => exact ⟨.int .i64 0, fun w => by unfold Builtin.len_; simp [run_underlying h1, goInt], .int _ _⟩
  | listE => exact ⟨.int .i64 0, fun w => by unfold Builtin.len_; simp [run_underlying h1, goInt], .int _ _⟩
  | listEF => exact ⟨.int .i64 0, fun w => by unfold Builtin.len_; simp [run_underlying h1, goInt], .int _ _⟩
  | list b o cap sz' len rows tk cv hn hc hl h hr hk => exact ⟨.int .i64 len, fun w => by unfold Builtin.len_; simp [run_underlying h1, goInt], by rw [hn]; exact .int _ _⟩
 ·rename_i el sz b off len cap ht
  obtain ⟨ti, h1, h2, h3⟩ := elemT_slice ht
  injection e with e1 e2
  subst e1 e2
  cases hu
  exact ⟨.int .i64 len, fun w => by unfold Builtin.len_; simp [run_underlying h1, goInt], .int _ _⟩
 ·rename_i n el sz ht
  obtain ⟨ti, h1, h2, h3⟩ := elemT_array ht
  injection e with e1 e2
  subst e1 e2
  exact ⟨.int .i64 n, fun w => by unfold Builtin.len_; simp [run_underlying h1, goInt], .int _ _⟩
 ·injection e with e1 e2; subst e1; exact hs.elim
end
end Go.AL

namespace Go.AL
open Go Go.RowKit
section
variable {P : Program} {w0 : Base} {w : World} {F : Fin} {h : Heap}
theorem run_sliceBound' (k : IntKind) (i : Int) (y : Nat) (code : BoundsCode) (h0 : 0 ≤ i) (h1 : i ≤ y) (w : World) :
  (Instr.sliceBound (.int k i) y code).run P w = .ok i.toNat w := by
 unfold Instr.sliceBound
 simp [asIntOf, h0, h1]
def RepO (F : Fin) : Option Value → Option AV → Prop
 | none, none => True
 | some v, some x => Rep F v x
 | _, _ => False
theorem lo_cases {lo : Option Value} {l : Option AV} {a : Int} (hl : loOf l = some a) (rl : RepO F lo l) : (lo = none ∧ a = 0) ∨ ∃ k, lo = some (.int k a) := by
 cases lo with
 | none =>
  cases l with
  | none => simp only [loOf] at hl; injection hl with hl; exact .inl ⟨rfl, hl.symm⟩
  | some x => exact rl.elim
 | some v =>
  cases l with
  | none => exact rl.elim
  | some x =>
   have rl' : Rep F v x := rl
   cases x <;> simp only [loOf] at hl <;> first | cases hl | skip
   have := rl'.int_inv
   exact .inr ⟨_, by rw [this]⟩
theorem hi_cases {hi : Option Value} {r : Option AV} {b : Int} {len : Nat} (hh : hiOf len r = some b) (rh : RepO F hi r) : (hi = none ∧ b = len ∧ r = none) ∨ ∃ k, hi = some (.int k b) := by
 cases hi with
 | none =>
  cases r with
  | none => simp only [hiOf] at hh; injection hh with hh; exact .inl ⟨rfl, hh.symm, rfl⟩
  | some x => exact rh.elim
 | some v =>
  cases r with
  | none => exact rh.elim
  | some x =>
   have rh' : Rep F v x := rh
   cases x <;> simp only [hiOf] at hh <;> first | cases hh | skip
   have := rh'.int_inv
   exact .inr ⟨_, by rw [this]⟩
theorem bounds_sound {isSlice : Bool} {len cap : Nat} {lo hi : Option Value} {l r : Option AV} {a b : Int} (hl : loOf l = some a) (hh : hiOf len r = some b)
  (rl : RepO F lo l) (rh : RepO F hi r) (h0 : 0 ≤ a) (h1 : a ≤ b) (h2 : b ≤ len) (hc : len ≤ cap) (w : World) :
  (Instr.sliceBounds isSlice len cap lo hi none).run P w = .ok (a.toNat, b.toNat, cap) w := by
 have q1 : ∀ k code, (Instr.sliceBound (.int k a) b.toNat code).run P w = .ok a.toNat w := fun k code => run_sliceBound' k a b.toNat code h0 (by omega) w
 have q2 : ∀ k code, (Instr.sliceBound (.int k b) cap code).run P w = .ok b.toNat w := fun k code => run_sliceBound' k b cap code (by omega) (by omega) w
 rcases lo_cases hl rl with ⟨rfl, rfl⟩ | ⟨k, rfl⟩ <;> rcases hi_cases hh rh with ⟨rfl, hb, _⟩ | ⟨k', rfl⟩ <;> unfold Instr.sliceBounds
 ·simp; omega
 ·simp [q2]
 ·have hb' : len = b.toNat := by omega
  simp only [Sem.run_bind, Sem.run_pure, Result.andThen_ok]
  rw [hb']
  simp [q1]
 ·simp [q1, q2]
theorem bounds3_sound {len cap : Nat} {lo hi : Option Value} {l : Option AV} {x : AV} {a b m : Int} {vm : Value} {k : IntKind} (hl : loOf l = some a) (hh : hiOf len (some x) = some b)
  (rl : RepO F lo l) (rh : RepO F hi (some x)) (rm : Rep F vm (.int k m)) (h0 : 0 ≤ a) (h1 : a ≤ b) (hbm : b = m) (h2 : b ≤ len) (hc : len ≤ cap) (w : World) :
  (Instr.sliceBounds true len cap lo hi (some vm)).run P w = .ok (a.toNat, b.toNat, m.toNat) w := by
 have hm := rm.int_inv
 subst hm hbm
 have q1 : ∀ k code, (Instr.sliceBound (.int k a) b.toNat code).run P w = .ok a.toNat w := fun k code => run_sliceBound' k a b.toNat code h0 (by omega) w
 have q2 : ∀ k code, (Instr.sliceBound (.int k b) cap code).run P w = .ok b.toNat w := fun k code => run_sliceBound' k b cap code (by omega) (by omega) w
 have q3 : ∀ k code, (Instr.sliceBound (.int k b) b.toNat code).run P w = .ok b.toNat w := fun k code => run_sliceBound' k b _ code (by omega) (by omega) w
 rcases lo_cases hl rl with ⟨rfl, rfl⟩ | ⟨k, rfl⟩ <;> rcases hi_cases hh rh with ⟨rfl, hb, hx⟩ | ⟨k', rfl⟩ <;> unfold Instr.sliceBounds
 ·cases hx
 ·simp [q2, q3]
 ·cases hx
 ·simp [q1, q2, q3]
theorem getD_rows {rows : List (List AV)} {a b i : Nat} (hi : a + i < b) : ((rows.take b).drop a).getD i [] = rows.getD (a + i) [] := by
 simp [List.getD, List.getElem?_drop, List.getElem?_take, hi]
theorem slice_sound {t : TypeId} {x : AV} {v : Value} {lo hi mx : Option Value} {l r m : Option AV} {S : Prop} {y : AV} (e : sliceAV P t x l r m = (S, y)) (hs : S)
  (hv : Rep F v x) (rl : RepO F lo l) (rh : RepO F hi r) (rm : RepO F mx m) : ∃ q, (∀ w, (Instr.sliceAt t v lo hi mx).run P w = .ok q w) ∧ Rep F q y := by
 unfold sliceAV at e
 split at e
 ·rename_i el sz s ht
  have h1 := elemT_string ht
  split at e
  ·rename_i a b hl hh
   injection e with e1 e2
   subst e1 e2
   obtain ⟨s0, s1, s2⟩ := hs
   obtain ⟨bs, rfl, rfl⟩ := hv.str_inv
   have hsz : bs.data.toList.length = bs.size := by rw [ByteArray.size, ← Array.length_toList]
   cases mx with
   | some _ => exact rm.elim
   | none =>
    rw [hsz] at hh s2
    have hb := fun w => bounds_sound (P := P) (isSlice := false) (cap := bs.size) hl hh rl rh s0 s1 s2 (Nat.le_refl _) w
    refine ⟨.string (bs.extract a.toNat b.toNat), fun w => ?_, .str _ _ ?_⟩
    ·unfold Instr.sliceAt
     simp only [Sem.run_bind, run_underlying h1, Result.andThen_ok]
     unfold Instr.slice
     simp only [Sem.run_bind, run_underlying h1, Result.andThen_ok, Option.isSome_none, Bool.false_eq_true, if_false, hb, Sem.run_pure]
    ·rw [ByteArray.data_extract, Array.toList_extract, List.extract_eq_take_drop, List.drop_take]
  ·injection e with e1 e2; subst e1; exact hs.elim
 ·rename_i el sz s rows tk ht
  obtain ⟨ti, h1, h2, h3⟩ := elemT_slice ht
  have pre : ∀ w, (Instr.sliceAt t v lo hi mx).run P w = (Instr.slice t v lo hi mx).run P w := by
   intro w
   unfold Instr.sliceAt
   simp only [Sem.run_bind, run_underlying h1, Result.andThen_ok]
  simp only [pre]
  split at e
  ·rename_i a b hl hh
   injection e with e1 e2
   subst e1 e2
   obtain ⟨s0, s1, s2, s3⟩ := hs
   subst s3
   cases mx with
   | some _ => exact rm.elim
   | none =>
    cases hv with
    | listNil =>
     have hb := fun w => bounds_sound (P := P) (isSlice := true) (len := 0) (cap := 0) hl hh rl rh s0 s1 s2 (Nat.le_refl _) w
     have ha : a = 0 := by simp at s2; omega
     have hb0 : b = 0 := by simp at s2; omega
     subst ha hb0
     refine ⟨.slice none 0 0, fun w => ?_, by simpa using .listNo _⟩
     unfold Instr.slice
     simp only [Sem.run_bind, run_underlying h1, Result.andThen_ok, hb, run_sizeOf_info h2, Sem.run_pure]
     rfl
    | listFull =>
     have hb := fun w => bounds_sound (P := P) (isSlice := true) (len := 0) (cap := 0) hl hh rl rh s0 s1 s2 (Nat.le_refl _) w
     have ha : a = 0 := by simp at s2; omega
     have hb0 : b = 0 := by simp at s2; omega
     subst ha hb0
     refine ⟨.slice none 0 0, fun w => ?_, by simpa using .listNo _⟩
     unfold Instr.slice
     simp only [Sem.run_bind, run_underlying h1, Result.andThen_ok, hb, run_sizeOf_info h2, Sem.run_pure]
     rfl
    | listE ad =>
     have hb := fun w => bounds_sound (P := P) (isSlice := true) (len := 0) (cap := 0) hl hh rl rh s0 s1 s2 (Nat.le_refl _) w
     have ha : a = 0 := by simp at s2; omega
     have hb0 : b = 0 := by simp at s2; omega
     subst ha hb0
     refine ⟨.slice (some ad) 0 0, fun w => ?_, by simpa using .listE _ _⟩
     unfold Instr.slice
     simp only [Sem.run_bind, run_underlying h1, Result.andThen_ok, hb, run_sizeOf_info h2, Sem.run_pure]
     rfl
    | listEF ad =>
     have hb := fun w => bounds_sound (P := P) (isSlice := true) (len := 0) (cap := 0) hl hh rl rh s0 s1 s2 (Nat.le_refl _) w
     have ha : a = 0 := by simp at s2; omega
     have hb0 : b = 0 := by simp at s2; omega
     subst ha hb0
     refine ⟨.slice (some ad) 0 0, fun w => ?_, by simpa using .listE _ _⟩
     unfold Instr.slice
     simp only [Sem.run_bind, run_underlying h1, Result.andThen_ok, hb, run_sizeOf_info h2, Sem.run_pure]
     rfl
    | listNo =>
     have hb := fun w => bounds_sound (P := P) (isSlice := true) (len := 0) (cap := 0) hl hh rl rh s0 s1 s2 (Nat.le_refl _) w
     have ha : a = 0 := by simp at s2; omega
     have hb0 : b = 0 := by simp at s2; omega
     subst ha hb0
     refine ⟨.slice none 0 0, fun w => ?_, by simpa using .listNo _⟩
     unfold Instr.slice
     simp only [Sem.run_bind, run_underlying h1, Result.andThen_ok, hb, run_sizeOf_info h2, Sem.run_pure]
     rfl
    | list bb o cap sz' len rows' tk' cv hn hc hl' hh' hr ht' =>
     have hb := fun w => bounds_sound (P := P) (isSlice := true) (cap := cap) hl (hn ▸ hh) rl rh s0 s1 (hn ▸ s2) hc w
     refine ⟨.slice (if cap = a.toNat then some ⟨bb, o, none⟩ else some ⟨bb, o + a.toNat * s, none⟩) (b.toNat - a.toNat) (cap - a.toNat), fun w => ?_, ?_⟩
     ·unfold Instr.slice
      simp only [Sem.run_bind, run_underlying h1, Result.andThen_ok, hb, run_sizeOf_info h2, Sem.run_pure, Option.map_some, addr_add, h3]
     ·have hlen : ((rows.take b.toNat).drop a.toNat).length = b.toNat - a.toNat := by simp; omega
      have hmem : ∀ r ∈ (rows.take b.toNat).drop a.toNat, r.length = s := fun r hr => hl' r (List.mem_of_mem_take (List.mem_of_mem_drop hr))
      split
      ·rename_i hca
       have hz : b.toNat - a.toNat = 0 := by omega
       exact .list bb o (cap - a.toNat) s (b.toNat - a.toNat) _ .no (fun _ _ => undef) hlen.symm (by omega) hmem (fun i j hi _ => by rw [hlen] at hi; omega) (fun i j hi _ => by rw [hlen] at hi; omega) trivial
      ·refine .list bb (o + a.toNat * s) (cap - a.toNat) s (b.toNat - a.toNat) _ .no (fun i j => cv (a.toNat + i) j) hlen.symm (by omega) hmem (fun i j hi hj => ?_) (fun i j hi hj => ?_) trivial
       ·rw [hlen] at hi
        rw [show o + a.toNat * s + i * s + j = o + (a.toNat + i) * s + j by rw [Nat.add_mul]; omega]
        exact hh' (a.toNat + i) j (by omega) hj
       ·rw [hlen] at hi
        rw [getD_rows (by omega)]
        exact hr (a.toNat + i) j (by omega) hj
  ·rename_i a b x k m' hl hh
   injection e with e1 e2
   subst e1 e2
   obtain ⟨s0, s1, s2, s3, s4⟩ := hs
   subst s4
   cases mx with
   | none => exact rm.elim
   | some vm =>
    have nilcase : rows = [] → v = .slice none 0 0 → ∃ q, (∀ w, (Instr.slice t v lo hi (some vm)).run P w = .ok q w) ∧ Rep F q (.list s ((rows.take b.toNat).drop a.toNat) .full) := by
     intro hr0 hv0
     subst hr0 hv0
     have hb := fun w => bounds3_sound (P := P) (len := 0) (cap := 0) hl hh rl rh rm s0 s1 s2 s3 (Nat.le_refl _) w
     have ha : a = 0 := by simp at s3; omega
     have hb0 : b = 0 := by simp at s3; omega
     subst ha hb0
     subst s2
     refine ⟨.slice none 0 0, fun w => ?_, by simpa using .listFull _⟩
     unfold Instr.slice
     simp only [Sem.run_bind, run_underlying h1, Result.andThen_ok, hb, run_sizeOf_info h2, Sem.run_pure]
     rfl
    cases hv with
    | listNil => exact nilcase rfl rfl
    | listNo => exact nilcase rfl rfl
    | listFull => exact nilcase rfl rfl
    | listE ad =>
     have hb := fun w => bounds3_sound (P := P) (len := 0) (cap := 0) hl hh rl rh rm s0 s1 s2 s3 (Nat.le_refl _) w
     have ha : a = 0 := by simp at s3; omega
     have hb0 : b = 0 := by simp at s3; omega
     subst ha hb0
     subst s2
     refine ⟨.slice (some ad) 0 0, fun w => ?_, by simpa using .listEF _ _⟩
     unfold Instr.slice
     simp only [Sem.run_bind, run_underlying h1, Result.andThen_ok, hb, run_sizeOf_info h2, Sem.run_pure]
     rfl
    | listEF ad =>
     have hb := fun w => bounds3_sound (P := P) (len := 0) (cap := 0) hl hh rl rh rm s0 s1 s2 s3 (Nat.le_refl _) w
     have ha : a = 0 := by simp at s3; omega
     have hb0 : b = 0 := by simp at s3; omega
     subst ha hb0
     subst s2
     refine ⟨.slice (some ad) 0 0, fun w => ?_, by simpa using .listEF _ _⟩
     unfold Instr.slice
     simp only [Sem.run_bind, run_underlying h1, Result.andThen_ok, hb, run_sizeOf_info h2, Sem.run_pure]
     rfl
    | list bb o cap sz' len rows' tk' cv hn hc hl' hh' hr ht' =>
     have hb := fun w => bounds3_sound (P := P) (cap := cap) hl (hn ▸ hh) rl rh rm s0 s1 s2 (hn ▸ s3) hc w
     refine ⟨.slice (if m'.toNat = a.toNat then some ⟨bb, o, none⟩ else some ⟨bb, o + a.toNat * s, none⟩) (b.toNat - a.toNat) (m'.toNat - a.toNat), fun w => ?_, ?_⟩
     ·unfold Instr.slice
      simp only [Sem.run_bind, run_underlying h1, Result.andThen_ok, hb, run_sizeOf_info h2, Sem.run_pure, Option.map_some, addr_add, h3]
     ·have hlen : ((rows.take b.toNat).drop a.toNat).length = b.toNat - a.toNat := by simp; omega
      have hmem : ∀ r ∈ (rows.take b.toNat).drop a.toNat, r.length = s := fun r hr => hl' r (List.mem_of_mem_take (List.mem_of_mem_drop hr))
      have hbm : b.toNat = m'.toNat := by omega
      split
      ·rename_i hca
       have hz : b.toNat - a.toNat = 0 := by omega
       exact .list bb o (m'.toNat - a.toNat) s (b.toNat - a.toNat) _ .full (fun _ _ => undef) hlen.symm (by omega) hmem (fun i j hi _ => by rw [hlen] at hi; omega) (fun i j hi _ => by rw [hlen] at hi; omega) (by show m'.toNat - a.toNat = b.toNat - a.toNat; omega)
      ·refine .list bb (o + a.toNat * s) (m'.toNat - a.toNat) s (b.toNat - a.toNat) _ .full (fun i j => cv (a.toNat + i) j) hlen.symm (by omega) hmem (fun i j hi hj => ?_) (fun i j hi hj => ?_) (by show m'.toNat - a.toNat = b.toNat - a.toNat; omega)
       ·rw [hlen] at hi
        rw [show o + a.toNat * s + i * s + j = o + (a.toNat + i) * s + j by rw [Nat.add_mul]; omega]
        exact hh' (a.toNat + i) j (by omega) hj
       ·rw [hlen] at hi
        rw [getD_rows (by omega)]
        exact hr (a.toNat + i) j (by omega) hj
  ·injection e with e1 e2; subst e1; exact hs.elim
 ·rename_i el sz b off len cap ht
  obtain ⟨ti, h1, h2, h3⟩ := elemT_slice ht
  have pre : ∀ w, (Instr.sliceAt t v lo hi mx).run P w = (Instr.slice t v lo hi mx).run P w := by
   intro w
   unfold Instr.sliceAt
   simp only [Sem.run_bind, run_underlying h1, Result.andThen_ok]
  simp only [pre]
  split at e
  ·rename_i a c hl hh
   injection e with e1 e2
   subst e1 e2
   obtain ⟨s0, s1, s2, s3⟩ := hs
   cases mx with
   | some _ => exact rm.elim
   | none =>
    cases hv
    have hb := fun w => bounds_sound (P := P) (isSlice := true) (cap := cap) hl hh rl rh s0 s1 s2 s3 w
    refine ⟨.slice (some ⟨b, if cap = a.toNat then off else off + a.toNat * sz, none⟩) (c.toNat - a.toNat) (cap - a.toNat), fun w => ?_, .arr _ _ _ _⟩
    unfold Instr.slice
    simp only [Sem.run_bind, run_underlying h1, Result.andThen_ok, hb, run_sizeOf_info h2, Sem.run_pure, Option.map_some, addr_add, h3]
    split <;> rfl
  ·rename_i a c x k m' hl hh
   injection e with e1 e2
   subst e1 e2
   obtain ⟨s0, s1, s2, s3, s4⟩ := hs
   cases mx with
   | none => exact rm.elim
   | some vm =>
    cases hv
    have hb := fun w => bounds3_sound (P := P) (cap := cap) hl hh rl rh rm s0 s1 s2 s3 s4 w
    subst s2
    refine ⟨.slice (some ⟨b, if c.toNat = a.toNat then off else off + a.toNat * sz, none⟩) (c.toNat - a.toNat) (c.toNat - a.toNat), fun w => ?_, .arr _ _ _ _⟩
    unfold Instr.slice
    simp only [Sem.run_bind, run_underlying h1, Result.andThen_ok, hb, run_sizeOf_info h2, Sem.run_pure, Option.map_some, addr_add, h3]
    split <;> rfl
  ·injection e with e1 e2; subst e1; exact hs.elim
 ·injection e with e1 e2; subst e1; exact hs.elim
end
end Go.AL

namespace Go.AL
open Go Go.RowKit
section
variable {P : Program} {w0 : Base} {w : World} {F : Fin} {h : Heap}
theorem foldl_put (off : Nat) : ∀ (l : List Value) (k : Nat) (cells : Array Value),
  ((l.zipIdx k).foldl (fun cs p => cs.setIfInBounds (off + p.2) p.1) cells).size = cells.size ∧
  ∀ i, i < cells.size → ((l.zipIdx k).foldl (fun cs p => cs.setIfInBounds (off + p.2) p.1) cells).getD i undef =
   if off + k ≤ i ∧ i < off + k + l.length then l.getD (i - off - k) undef else cells.getD i undef
 | [], k, cells => ⟨rfl, fun i _ => by
   rw [if_neg (by simp)]; rfl⟩
 | v :: l, k, cells => by
  have ih := foldl_put off l (k + 1) (cells.setIfInBounds (off + k) v)
  simp only [List.zipIdx_cons, List.foldl_cons]
  refine ⟨by rw [ih.1]; simp, fun i hi => ?_⟩
  rw [ih.2 i (by simpa using hi)]
  by_cases h1 : off + (k + 1) ≤ i ∧ i < off + (k + 1) + l.length
  ·rw [if_pos h1, if_pos (by simp; omega), show i - off - k = (i - off - (k + 1)) + 1 by omega]
   simp
  ·rw [if_neg h1]
   by_cases h2 : i = off + k
   ·subst h2
    rw [if_pos (by simp), show off + k - off - k = 0 by omega]
    simp [Array.getD, hi]
   ·rw [if_neg (by simp; omega)]
    have h3 : off + k ≠ i := fun e => h2 e.symm
    simp [Array.getD, hi, h3]
theorem repL_cells {v : Value} {x : AV} (hr : Rep F v x) (hc : ∀ c ∈ x.cells, c.isCell = true) : RepL F v.cells x.cells ∧ ∀ j, j < x.cells.length → (v.cells.getD j undef).oneCell' = true := by
 by_cases hx : ∃ cs, x = .agg cs
 ·obtain ⟨cs, rfl⟩ := hx
  obtain ⟨vs, rfl, hv⟩ := hr.agg_inv
  refine ⟨hv, fun j hj => ?_⟩
  have h1 := hv.2 j hj
  have h2 : (cs.getD j .any).isCell = true := by
   have hj' : j < cs.length := hj
   have : cs.getD j .any = cs[j] := by simp [List.getD, hj']
   rw [this]; exact hc _ (List.getElem_mem hj')
  exact h1.oneCell h2
 ·have hcells : x.cells = [x] := by cases x <;> first | rfl | exact absurd ⟨_, rfl⟩ hx
  rw [hcells] at hc ⊢
  have h1 := hr.oneCell (hc x (by simp))
  have h2 : v.cells = #[v] := by cases v <;> first | rfl | (simp [Value.oneCell'] at h1; done)
  rw [h2]
  refine ⟨⟨rfl, fun i hi => ?_⟩, fun i hi => ?_⟩
  ·have : i = 0 := by simpa using hi
   subst this; exact hr
  ·have : i = 0 := by simpa using hi
   subst this; exact h1
theorem splice_getD (cs : List AV) (off : Nat) (vs : List AV) (hn : off + vs.length ≤ cs.length) (i : Nat) (hi : i < cs.length) :
  (splice cs off vs).getD i .any = if off ≤ i ∧ i < off + vs.length then vs.getD (i - off) .any else cs.getD i .any := by
 unfold splice
 simp only [List.getD]
 by_cases h1 : i < off
 ·rw [if_neg (by omega), List.append_assoc, List.getElem?_append_left (by simp; omega)]
  simp [List.getElem?_take, h1]
 ·by_cases h2 : i < off + vs.length
  ·rw [if_pos (by omega), List.getElem?_append_left (by simp; omega), List.getElem?_append_right (by simp; omega)]
   simp
   congr 2
   omega
  ·rw [if_neg (by omega), List.getElem?_append_right (by simp; omega)]
   simp [List.getElem?_drop]
   congr 2
   omega
theorem splice_length (cs : List AV) (off : Nat) (vs : List AV) (hn : off + vs.length ≤ cs.length) : (splice cs off vs).length = cs.length := by
 unfold splice; simp; omega
theorem repL_splice {arr : Array Value} {cs : List AV} (hr : RepL F arr cs) {vs : Array Value} {xs : List AV} (hv : RepL F vs xs) (off : Nat) (hn : off + xs.length ≤ cs.length) :
  RepL F (vs.zipIdx.foldl (fun cs (p : Value × Nat) => cs.setIfInBounds (off + p.2) p.1) arr) (splice cs off xs) := by
 rw [← Array.foldl_toList, Array.toList_zipIdx]
 have hp := foldl_put off vs.toList 0 arr
 have hvl : vs.toList.length = xs.length := by simpa using hv.1
 refine ⟨by rw [hp.1, splice_length _ _ _ hn, hr.1], fun i hi => ?_⟩
 rw [splice_length _ _ _ hn] at hi
 rw [hp.2 i (by rw [hr.1]; exact hi), splice_getD _ _ _ hn _ hi, hvl]
 simp only [Nat.add_zero, Nat.sub_zero]
 split
 ·have h2 := hv.2 (i - off) (by omega)
  have h3 : i - off < vs.size := by rw [hv.1]; omega
  simp only [Array.getD, h3, dif_pos] at h2
  simpa [List.getD, h3] using h2
 ·exact hr.2 i hi
theorem fill_sound {t : TypeId} {place : Nat → Option (Nat × Nat)} (hp : ∀ i x, placeT P t i = some x → place i = some x) :
  ∀ (ps : List (Nat × AV)) (vs : List (Nat × Value)) (cs : List AV) (arr : Array Value), vs.length = ps.length →
  (∀ k, k < ps.length → (vs.getD k (0, undef)).1 = (ps.getD k (0, .any)).1 ∧ Rep F (vs.getD k (0, undef)).2 (ps.getD k (0, .any)).2) →
  RepL F arr cs → (fillA P t ps cs).1 → ∃ arr', Instr.fill place arr vs = some arr' ∧ RepL F arr' (fillA P t ps cs).2
 | [], vs, cs, arr, hl, hv, hr, hs => by
  cases vs with
  | nil => exact ⟨arr, rfl, hr⟩
  | cons v vs => simp at hl
 | (i, x) :: ps, vs, cs, arr, hl, hv, hr, hs => by
  cases vs with
  | nil => simp at hl
  | cons v vs =>
   obtain ⟨j, u⟩ := v
   have h0 := hv 0 (by simp)
   simp at h0
   obtain ⟨rfl, hrep⟩ := h0
   unfold fillA at hs ⊢
   cases hpl : placeT P t j with
   | none => rw [hpl] at hs; exact hs.elim
   | some q =>
    obtain ⟨off, sz⟩ := q
    rw [hpl] at hs
    simp only at hs ⊢
    obtain ⟨a1, a2, a3, a4⟩ := hs
    have hc := repL_cells hrep a3
    have hsz : u.cells.size = sz := by rw [hc.1.1, a1]
    unfold Instr.fill
    rw [hp j _ hpl]
    simp only
    rw [if_neg (by simp [hsz, hr.1]; omega)]
    exact fill_sound hp ps vs _ _ (by simpa using hl) (fun k hk => by have := hv (k + 1) (by simp; omega); simpa using this) (repL_splice hr hc.1 off (by omega)) a4
theorem run_mapM_fields (ft : List Field) (w : World) (h : ∀ f ∈ ft, ∃ j, P.info? f.type = some j) :
  (ft.mapM fun (f : Field) => do pure (f.offset, ← sizeOf f.type) : Sem (List (Nat × Nat))).run P w = .ok (ft.map fun f => (f.offset, ((P.info? f.type).map (·.size)).getD 0)) w := by
 induction ft with
 | nil => rfl
 | cons f ft ih =>
  obtain ⟨j, hj⟩ := h f (by simp)
  have ih' := ih (fun g hg => h g (by simp [hg]))
  simp only [List.mapM_cons, Sem.run_bind, run_sizeOf_info hj, Result.andThen_ok, Sem.run_pure, ih', List.map_cons, hj]
  rfl
theorem build_sound {t : TypeId} {ps : List (Nat × AV)} {vs : Array (Nat × Value)} {S : Prop} {y : AV} (e : buildAV P t ps = (S, y)) (hs : S)
  (hl : vs.size = ps.length) (hv : ∀ k, k < ps.length → (vs.toList.getD k (0, undef)).1 = (ps.getD k (0, .any)).1 ∧ Rep F (vs.toList.getD k (0, undef)).2 (ps.getD k (0, .any)).2) :
  ∃ q, (∀ w, (Instr.build t vs).run P w = .ok q w) ∧ Rep F q y := by
 unfold buildAV at e
 split at e
 ·rename_i z hz
  injection e with e1 e2
  subst e1 e2
  obtain ⟨hok, hs⟩ := hs
  obtain ⟨ti, zv, h1, h2, h3, h4, _⟩ := zeroA_spec hz F
  unfold fieldsOk at hok
  split at hok
  ·rename_i fs hu
   have hfs : ∀ f ∈ fs.toList, ∃ j, P.info? f.type = some j := fun f hf => by
    have := List.all_eq_true.1 hok f hf
    exact Option.isSome_iff_exists.1 this
   have hm := fun w => run_mapM_fields (P := P) fs.toList w hfs
   have hma : ∀ w, (fs.mapM fun (f : Field) => do pure (f.offset, ← sizeOf f.type) : Sem (Array (Nat × Nat))).run P w = .ok (fs.map fun f => (f.offset, ((P.info? f.type).map (·.size)).getD 0)) w := by
    intro w
    rw [Array.mapM_eq_mapM_toList]
    simp only [Sem.run_map, hm, Result.andThen_ok]
    congr 1
    apply Array.ext'
    simp
   have hplace : ∀ i x, placeT P t i = some x → (fun i => (fs.map fun f => (f.offset, ((P.info? f.type).map (·.size)).getD 0))[i]?) i = some x := by
    intro i x hx
    unfold placeT at hx
    simp only [hu] at hx
    cases hf : fldT P t i with
    | none => simp [hf] at hx
    | some q =>
     obtain ⟨off, ft, sz⟩ := q
     obtain ⟨fs', f, j, q1, q2, q3, q4, q5, q6⟩ := fldT_spec hf
     rw [hu] at q1
     injection q1 with q1
     injection q1 with q1
     subst q1
     simp [hf] at hx
     subst hx
     simp [q2, q3, q4, q6]
   obtain ⟨arr', r1, r2⟩ := fill_sound hplace ps vs.toList z zv.cells (by simpa using hl) hv h4 hs
   refine ⟨.agg arr', fun w => ?_, .agg _ _ r2.1 r2.2⟩
   unfold Instr.build
   simp only [Sem.run_bind, run_zeroValue h1 h2, Result.andThen_ok, run_underlying hu, hma]
   rw [r1]
   rfl
  ·rename_i n el hu
   obtain ⟨j, hj⟩ := Option.isSome_iff_exists.1 hok
   have hplace : ∀ i x, placeT P t i = some x → (fun i => some (i * j.size, j.size)) i = some x := by
    intro i x hx
    unfold placeT at hx
    simp only [hu, hj] at hx
    simpa using hx
   obtain ⟨arr', r1, r2⟩ := fill_sound hplace ps vs.toList z zv.cells (by simpa using hl) hv h4 hs
   refine ⟨.agg arr', fun w => ?_, .agg _ _ r2.1 r2.2⟩
   unfold Instr.build
   simp only [Sem.run_bind, run_zeroValue h1 h2, Result.andThen_ok, run_underlying hu, run_sizeOf_info hj]
   rw [r1]
   rfl
  ·cases hok
 ·injection e with e1 e2; subst e1; exact hs.elim
theorem nil_sound {x : AV} {S : Prop} {y : AV} (e : nilAV x = (S, y)) (hs : S) {v : Value} (hv : Rep F v x) : Rep F v y ∧ (v ≠ .pointer none ∧ v ≠ .nilIface ∧ v ≠ .nilFunc ∧ ∀ n f c, v ≠ .func (.method n) f c) := by
 unfold nilAV at e
 split at e <;> injection e with e1 e2 <;> subst e1 e2
 ·exact ⟨hv, by cases hv; simp⟩
 ·exact ⟨hv, by cases hv; simp⟩
 ·exact ⟨hv, by cases hv; simp⟩
 ·exact hs.elim
theorem un_sound {op : UnOp} {x : AV} {S : Prop} {y : AV} (e : unAV op x = (S, y)) (hs : S) {v : Value} (hv : Rep F v x) : ∃ q, (∀ w, (Op.unary op v).run P w = .ok q w) ∧ Rep F q y := by
 unfold unAV at e
 split at e <;> injection e with e1 e2 <;> subst e1 e2
 ·cases hv; exact ⟨_, fun w => rfl, .int _ _⟩
 ·cases hv; exact ⟨_, fun w => rfl, .bool _⟩
 ·exact hs.elim
theorem conv_sound {src dst : TypeId} {x : AV} {S : Prop} {y : AV} (e : convAV P src dst x = (S, y)) (hs : S) {v : Value} (hv : Rep F v x) : ∃ q, (∀ w, (convert src dst v).run P w = .ok q w) ∧ Rep F q y := by
 unfold convAV at e
 split at e
 ·rename_i k k' n hk
  injection e with e1 e2
  subst e1 e2
  cases hv
  unfold convK at hk
  split at hk
  ·rename_i d k2 hsrc hdst
   injection hk with hk
   injection hk with hk
   subst hk
   refine ⟨_, fun w => ?_, .int _ _⟩
   unfold convert
   simp only [Sem.run_bind, run_underlying hsrc, run_underlying hdst, Result.andThen_ok]
   cases d <;> rfl
  ·simp at hk
  ·split at hk <;> simp at hk
  ·cases hk
 ·rename_i s hk
  injection e with e1 e2
  subst e1 e2
  unfold convK at hk
  split at hk
  ·simp at hk
  ·rename_i hsrc hdst
   obtain ⟨bs, rfl, rfl⟩ := hv.str_inv
   refine ⟨.string bs, fun w => ?_, .str _ _ rfl⟩
   unfold convert
   simp only [Sem.run_bind, run_underlying hsrc, run_underlying hdst, Result.andThen_ok]
   rfl
  ·split at hk <;> simp at hk
  ·cases hk
 ·injection e with e1 e2; subst e1; exact hs.elim
theorem max_sound {x y z : AV} {S : Prop} (e : maxAV x y = (S, z)) (hs : S) {u v : Value} (hu : Rep F u x) (hv : Rep F v y) (ts : Array TypeId) (t : TypeId) :
  ∃ q, (∀ w, (Builtin.max_ ts t #[u, v]).run P w = .ok q w) ∧ Rep F q z := by
 unfold maxAV at e
 split at e <;> injection e with e1 e2 <;> subst e1 e2
 ·cases hu; cases hv
  refine ⟨_, fun w => run_max_int2 w ts t _ _ _ _, ?_⟩
  rename_i k a k' b
  have : max a b = if b > a then b else a := by split <;> omega
  rw [this]; exact .int _ _
 ·exact hs.elim
theorem min_sound {x y z : AV} {S : Prop} (e : minAV x y = (S, z)) (hs : S) {u v : Value} (hu : Rep F u x) (hv : Rep F v y) (ts : Array TypeId) (t : TypeId) :
  ∃ q, (∀ w, (Builtin.min_ ts t #[u, v]).run P w = .ok q w) ∧ Rep F q z := by
 unfold minAV at e
 split at e <;> injection e with e1 e2 <;> subst e1 e2
 ·cases hu; cases hv
  refine ⟨_, fun w => run_min_int2 w ts t _ _ _ _, ?_⟩
  rename_i k a k' b
  have : min a b = if b < a then b else a := by split <;> omega
  rw [this]; exact .int _ _
 ·exact hs.elim
theorem okO_rep {α : AAct} {a : Act} (hr : RepA F a α) (o : Option Operand) (ho : okO (o.map (α.ev P 0))) : RepO F (o.map a.eval) ((o.map (α.ev P 0)).map AV.val) := by
 cases o with
 | none => trivial
 | some x => exact (hr.ev P 0 x).val ho
theorem pev_sound {α : AAct} {o : Oper} {S : Prop} {x : AV} (e : pev P α h o = some (S, x)) (hs : S) : Pure P o α h x := by
 intro w0 F a w1 hi hr
 have hev := fun t x => hr.ev P t x
 obtain ⟨dst, op, type, pos, after, guard⟩ := o
 unfold pev at e
 simp only at e
 split at e
 ·-- move
  rename_i x0 _
  injection e with e; injection e with e1 e2; subst e1 e2
  exact ⟨_, hev _ _, fun w _ => rfl⟩
 ·injection e with e; injection e with e1 e2; subst e1 e2
  exact ⟨_, hev _ _, fun w _ => rfl⟩
 ·-- pick
  rename_i c p q
  injection e with e
  obtain ⟨h1, T, h2, h3⟩ := one_split e hs
  unfold pickAV at h2
  split at h2
  ·rename_i t ht
   injection h2 with e1 e2
   subst e1 e2
   have hc := (hev 0 c).val h1
   rw [ht] at hc
   have hcv := hc.bool_inv
   refine ⟨if t then a.eval p else a.eval q, pickV_rep (fun e => (hev _ _).val (h3.1 e)) (fun e => (hev _ _).val (h3.2 e)), fun w _ => ?_⟩
   simp only [execOp, hcv, asBool]
   cases t <;> rfl
  ·injection h2 with e1 e2; subst e1; exact h3.elim
 ·-- build
  rename_i t parts
  injection e with e
  have := build_sound (P := P) (F := F) (t := t) (vs := parts.map fun p => (p.1, a.eval p.2)) e hs (by simp) (fun k hk => by
   simp at hk
   simp [List.getD, hk]
   exact hev _ _)
  obtain ⟨q, h1, h2⟩ := this
  exact ⟨q, h2, fun w _ => by simp only [execOp, Sem.run_bind]; rw [h1]; rfl⟩
 ·-- load
  rename_i t ad
  injection e with e
  obtain ⟨h1, T, h2, h3⟩ := one_split e hs
  obtain ⟨q, r1, r2⟩ := loadAV_sound hi ((hev 0 ad).val h1) h2 h3
  exact ⟨q, r2, fun w hl => by simp only [execOp, Sem.run_bind]; rw [r1 w hl]; rfl⟩
 ·-- nilCheck
  rename_i y
  injection e with e
  obtain ⟨h1, T, h2, h3⟩ := one_split e hs
  obtain ⟨r1, r2, r3, r4, r5⟩ := nil_sound h2 h3 ((hev 0 y).val h1)
  refine ⟨a.eval y, r1, fun w _ => ?_⟩
  simp only [execOp]
  rfl
 ·-- binOp
  rename_i bop t p q yt
  split at e
  ·cases e
  injection e with e
  obtain ⟨h1, h2, T, h3, h4⟩ := two_split e hs
  obtain ⟨r, r1, r2⟩ := binAV_sound (ox := p) (oy := q) h3 h4 ((hev t p).val h1) ((hev t q).val h2)
  exact ⟨r, r2, fun w _ => by simp only [execOp]; rw [Sem.run_bind, r1]; rfl⟩
 ·-- unOp
  rename_i uop t p
  injection e with e
  obtain ⟨h1, T, h2, h3⟩ := one_split e hs
  obtain ⟨q, r1, r2⟩ := un_sound (P := P) h2 h3 ((hev t p).val h1)
  exact ⟨q, r2, fun w _ => by simp only [execOp, Sem.run_bind]; rw [r1]; rfl⟩
 ·-- convert
  rename_i src dst' p
  split at e
  ·injection e with e
   obtain ⟨h1, T, h2, h3⟩ := one_split e hs
   obtain ⟨q, r1, r2⟩ := conv_sound h2 h3 ((hev src p).val h1)
   exact ⟨q, r2, fun w _ => by simp only [execOp, Sem.run_bind]; rw [r1]; rfl⟩
  ·injection e with e
   obtain ⟨h1, T, h2, h3⟩ := one_split e hs
   obtain ⟨q, r1, r2⟩ := conv_sound h2 h3 ((hev src p).val h1)
   exact ⟨q, r2, fun w _ => by simp only [execOp, Sem.run_bind]; rw [r1]; rfl⟩
  ·cases e
 ·-- makeFunc
  rename_i f first caps
  split at e
  ·rename_i h0
   injection e with e; injection e with e1 e2; subst e1 e2
   have hf : first = #[] := Array.size_eq_zero_iff.1 h0
   subst hf
   refine ⟨.func (.func f) #[] (caps.map a.eval), .fn _ _ _ (by simp) (fun i hi => ?_), fun w _ => ?_⟩
   rotate_left
   ·simp only [execOp, Instr.makeFunc, Sem.run_bind, Sem.run_pure, Result.andThen_ok]; simp
   ·simp at hi
    simp [Array.getD, List.getD, hi]
    exact hev _ _
  ·cases e
 ·-- slice
  rename_i t p lo hh mx
  injection e with e
  injection e with e1 e2
  subst e1
  obtain ⟨k1, k2, k3, k4, k5⟩ := hs
  obtain ⟨q, r1, r2⟩ := slice_sound (S := _) (y := x) (by rw [← e2]) k5 ((hev t p).val k1) (okO_rep hr lo k2) (okO_rep hr hh k3) (okO_rep hr mx k4)
  exact ⟨q, r2, fun w _ => by simp only [execOp, Sem.run_bind]; rw [r1]; rfl⟩
 ·-- fieldAddr
  rename_i t p i
  injection e with e
  obtain ⟨h1, T, h2, h3⟩ := one_split e hs
  obtain ⟨q, r1, r2⟩ := faddr_sound h2 h3 ((hev 0 p).val h1)
  exact ⟨q, r2, fun w _ => by simp only [execOp, Sem.run_bind]; rw [r1]; rfl⟩
 ·rename_i t p i
  injection e with e
  obtain ⟨h1, T, h2, h3⟩ := one_split e hs
  obtain ⟨q, r1, r2⟩ := field_sound h2 h3 ((hev t p).val h1)
  exact ⟨q, r2, fun w _ => by simp only [execOp, Sem.run_bind]; rw [r1]; rfl⟩
 ·rename_i t p i
  injection e with e
  obtain ⟨h1, h2, T, h3, h4⟩ := two_split e hs
  obtain ⟨q, r1, r2⟩ := idxAddr_sound h3 h4 ((hev t p).val h1) ((hev 0 i).val h2)
  exact ⟨q, r2, fun w _ => by simp only [execOp, Sem.run_bind]; rw [r1]; rfl⟩
 ·rename_i t p i
  injection e with e
  obtain ⟨h1, h2, T, h3, h4⟩ := two_split e hs
  obtain ⟨q, r1, r2⟩ := idx_sound h3 h4 ((hev t p).val h1) ((hev 0 i).val h2)
  exact ⟨q, r2, fun w _ => by simp only [execOp, Sem.run_bind]; rw [r1]; rfl⟩
 ·-- extract
  rename_i p i
  injection e with e
  obtain ⟨h1, T, h2, h3⟩ := one_split e hs
  unfold extAV at h2
  split at h2
  ·rename_i vs hvs
   injection h2 with e1 e2
   subst e1 e2
   have hv := (hev 0 p).val h1
   rw [hvs] at hv
   obtain ⟨cs, he, hc⟩ := hv.tup_inv
   have h5 := hc.2 i h3
   have h6 : i < cs.size := by rw [hc.1]; exact h3
   refine ⟨cs[i], by simpa [Array.getD, h6] using h5, fun w _ => ?_⟩
   simp [execOp, he, Instr.extract, h6]
  ·injection h2 with e1 e2; subst e1; exact h3.elim
 ·-- len
  rename_i args argTypes
  split at e
  ·rename_i p t ha ht
   injection e with e
   obtain ⟨h1, T, h2, h3⟩ := one_split e hs
   obtain ⟨q, r1, r2⟩ := len_sound (ty := type) h2 h3 ((hev t p).val h1)
   have ha' : args = #[p] := Array.toList_inj.1 ha
   have ht' : argTypes = #[t] := Array.toList_inj.1 ht
   subst ha' ht'
   refine ⟨q, r2, fun w _ => ?_⟩
   simp only [execOp, resolve, invoke, builtin]
   simp [r1]
  ·cases e
 ·rename_i args argTypes
  split at e
  ·rename_i p q ha
   injection e with e
   obtain ⟨h1, h2, T, h3, h4⟩ := two_split e hs
   obtain ⟨r, r1, r2⟩ := max_sound (P := P) h3 h4 ((hev 0 p).val h1) ((hev 0 q).val h2) argTypes type
   have ha' : args = #[p, q] := Array.toList_inj.1 ha
   subst ha'
   refine ⟨r, r2, fun w _ => ?_⟩
   simp only [execOp, resolve, invoke, builtin]
   simp [r1]
  ·cases e
 ·rename_i args argTypes
  split at e
  ·rename_i p q ha
   injection e with e
   obtain ⟨h1, h2, T, h3, h4⟩ := two_split e hs
   obtain ⟨r, r1, r2⟩ := min_sound (P := P) h3 h4 ((hev 0 p).val h1) ((hev 0 q).val h2) argTypes type
   have ha' : args = #[p, q] := Array.toList_inj.1 ha
   subst ha'
   refine ⟨r, r2, fun w _ => ?_⟩
   simp only [execOp, resolve, invoke, builtin]
   simp [r1]
  ·cases e
 ·cases e
end
end Go.AL

namespace Go.AL
open Go Go.RowKit
def Fin.ext (F : Fin) (b lo k : Nat) (arr : Array Value) : Fin := fun c o => if c = b ∧ lo ≤ o ∧ o < k then arr[o]? else F c o
section
variable {P : Program} {w0 : Base} {w w' : World} {F : Fin} {h g : Heap}
theorem Inv.extend (hi : Inv w0 F w h) {b lo k e : Nat} {arr : Array Value} {t : TypeId} (hN : ¬ w0.fr b) (hb : w'.heap[b]? = some (.cells arr t (0, 0))) (hsz : arr.size = e)
  (hlo : ∀ o, lo ≤ o → F b o = none) (hlk : lo ≤ k) (hke : k ≤ e) (hone : ∀ o, lo ≤ o → o < k → (arr.getD o undef).oneCell' = true) (hold : ∀ o v, F b o = some v → arr[o]? = some v)
  (hfr : Frm w0 w') (hoth : ∀ c, c ≠ b → c < w.heap.size → w'.heap[c]? = w.heap[c]?) (hg : ∀ c x, c ≠ b → g c = some x → h c = some x) :
  Mono F (F.ext b lo k arr) ∧ Inv w0 (F.ext b lo k arr) w' (g.set b (.spare k e)) := by
 have hm : Mono F (F.ext b lo k arr) := by
  intro c o v hv
  unfold Fin.ext
  split
  ·rename_i hc
   obtain ⟨rfl, h1, h2⟩ := hc
   rw [hlo o h1] at hv; cases hv
  ·exact hv
 refine ⟨hm, hfr, ?_, ?_, ?_⟩
 ·intro c o v hv
  unfold Fin.ext at hv
  split at hv
  ·rename_i hc
   obtain ⟨rfl, h1, h2⟩ := hc
   refine ⟨by simp [World.cell?, hb, hv], ?_⟩
   have := hone o h1 h2
   simpa [Array.getD_eq_getD_getElem?, hv] using this
  ·have h1 := hi.fin c o v hv
   refine ⟨?_, h1.2⟩
   by_cases hc : c = b
   ·subst hc
    simp [World.cell?, hb, hold o v hv]
   ·have hlt := World.block_lt_of_cell? w _ h1.1
    rw [World.cell?_of_block (w := w) (hoth c hc hlt)]
    exact h1.1
 ·intro c o hc
  have : c ≠ b := fun e => hN (e ▸ hc)
  simp [Fin.ext, this, hi.fin0 c o hc]
 ·intro c x hx
  by_cases hc : c = b
  ·subst hc
   simp at hx
   subst hx
   refine ⟨hN, ?_, arr, t, hb, hsz, hke⟩
   intro o ho
   simp [Fin.ext, show ¬ o < k by omega, hlo o (by omega)]
  ·rw [Heap.set_other _ _ _ _ hc] at hx
   have h1 := hi.blk c x (hg c x hc hx)
   refine ⟨h1.1, ?_⟩
   have hw := hoth c hc h1.2.lt
   cases x with
   | cells cs =>
    obtain ⟨k1, a, t', k2, k3, k4, k5⟩ := h1.2
    exact ⟨fun o => by simp [Fin.ext, hc, k1 o], a, t', hw.trans k2, k3, fun i hi => (k4 i hi).mono hm, k5⟩
   | spare k e =>
    obtain ⟨k1, a, t', k2, k3⟩ := h1.2
    exact ⟨fun o ho => by simp [Fin.ext, hc, k1 o ho], a, t', hw.trans k2, k3⟩
   | gint =>
    obtain ⟨k1, m, k2⟩ := h1.2
    exact ⟨(BlkOk.of_block (F := F) (x := .gint) ⟨k1, m, k2⟩ hw).1, m, hm _ _ _ k2⟩
   | tab arr =>
    obtain ⟨⟨v, k1⟩, t', z, k2⟩ := h1.2
    exact ⟨⟨v, hm _ _ _ k1⟩, t', z, hw.trans k2⟩
theorem getD_flatten {sz : Nat} : ∀ (rows : List (List AV)), (∀ r ∈ rows, r.length = sz) → ∀ i j, i < rows.length → j < sz → rows.flatten.getD (i * sz + j) .any = (rows.getD i []).getD j .any
 | [], _, i, j, hi, _ => by simp at hi
 | r :: rows, hl, i, j, hi, hj => by
  have hr := hl r (by simp)
  cases i with
  | zero =>
   simp only [List.flatten_cons, Nat.zero_mul, Nat.zero_add, List.getD, List.getElem?_cons_zero, Option.getD_some]
   rw [List.getElem?_append_left (by omega)]
  | succ i =>
   have ih := getD_flatten rows (fun r hr => hl r (by simp [hr])) i j (by simpa using hi) hj
   simp only [List.flatten_cons, List.getD, List.getElem?_cons_succ] at ih ⊢
   rw [List.getElem?_append_right (by rw [hr, Nat.add_mul]; omega), ← ih, hr]
   congr 2
   rw [Nat.add_mul]; omega
theorem length_flatten {sz : Nat} : ∀ (rows : List (List AV)), (∀ r ∈ rows, r.length = sz) → rows.flatten.length = rows.length * sz
 | [], _ => by simp
 | r :: rows, hl => by simp [hl r (by simp), length_flatten rows (fun r hr => hl r (by simp [hr])), Nat.add_mul]; omega
theorem Rep.list_inv {v : Value} {sz : Nat} {rows : List (List AV)} {tok : Tok} (hr : Rep F v (.list sz rows tok)) :
  (∃ a, v = .slice a 0 0 ∧ rows = [] ∧ (tok = .nil ∨ tok = .no ∨ tok = .full)) ∨
  ∃ b o cap, ∃ news : List Value, v = .slice (some ⟨b, o, none⟩) rows.length cap ∧ rows.length ≤ cap ∧ news.length = rows.length * sz ∧ (∀ r ∈ rows, r.length = sz) ∧
   (∀ q, q < rows.length * sz → F b (o + q) = some (news.getD q undef) ∧ Rep F (news.getD q undef) (rows.flatten.getD q .any)) ∧ tok.ok b o rows.length cap sz := by
 cases hr with
 | listNil => exact .inl ⟨none, rfl, rfl, .inl rfl⟩
 | listNo => exact .inl ⟨none, rfl, rfl, .inr (.inl rfl)⟩
 | listFull => exact .inl ⟨none, rfl, rfl, .inr (.inr rfl)⟩
 | listE a => exact .inl ⟨some a, rfl, rfl, .inr (.inl rfl)⟩
 | listEF a => exact .inl ⟨some a, rfl, rfl, .inr (.inr rfl)⟩
 | list b o cap sz n rows t cv hn hc hl h hr ht =>
  subst hn
  refine .inr ⟨b, o, cap, (List.range (rows.length * sz)).map fun q => cv (q / sz) (q % sz), rfl, hc, by simp, hl, fun q hq => ?_, ht⟩
  have hsz : 0 < sz := Nat.pos_of_ne_zero fun e => by simp [e] at hq
  have h1 : q / sz < rows.length := Nat.div_lt_of_lt_mul (by rw [Nat.mul_comm]; exact hq)
  have h2 : q % sz < sz := Nat.mod_lt _ hsz
  have h3 : q / sz * sz + q % sz = q := by rw [Nat.mul_comm]; exact Nat.div_add_mod q sz
  have h4 : ((List.range (rows.length * sz)).map fun q => cv (q / sz) (q % sz)).getD q undef = cv (q / sz) (q % sz) := by simp [List.getD, hq]
  rw [h4]
  refine ⟨?_, ?_⟩
  ·rw [← h _ _ h1 h2]; congr 1; omega
  ·have := getD_flatten rows hl (q / sz) (q % sz) h1 h2
   rw [h3] at this
   rw [this]
   exact hr _ _ h1 h2
theorem Rep.mk_list {b o cap sz : Nat} {rows : List (List AV)} {tok : Tok} (val : Nat → Value) (hl : ∀ r ∈ rows, r.length = sz) (hc : rows.length ≤ cap)
  (hF : ∀ q, q < rows.length * sz → F b (o + q) = some (val q) ∧ Rep F (val q) (rows.flatten.getD q .any)) (ht : tok.ok b o rows.length cap sz) :
  Rep F (.slice (some ⟨b, o, none⟩) rows.length cap) (.list sz rows tok) := by
 have key : ∀ i j, i < rows.length → j < sz → i * sz + j < rows.length * sz := fun i j hi hj => by
  have : (i + 1) * sz ≤ rows.length * sz := Nat.mul_le_mul_right _ (by omega)
  rw [Nat.add_mul] at this; omega
 refine .list b o cap sz rows.length rows tok (fun i j => val (i * sz + j)) rfl hc hl (fun i j hi hj => ?_) (fun i j hi hj => ?_) ht
 ·rw [show o + i * sz + j = o + (i * sz + j) by omega]
  exact (hF _ (key i j hi hj)).1
 ·rw [← getD_flatten rows hl i j hi hj]
  exact (hF _ (key i j hi hj)).2
theorem run_append_none (t ty el : TypeId) {i : TypeInfo} (ht : P.underlying t = some (.slice el)) (hi : P.info? el = some i) (b a : Option Addr) (n cap c2 : Nat) (hn : n ≤ cap) (w : World) :
  (Builtin.append_ #[t, t] ty #[.slice b n cap, .slice a 0 c2]).run P w = .ok (.slice b n cap) w := by
 have hf : (Builtin.firstCells i.size 0 (.slice a 0 c2)).run P w = .ok #[] w := by
  cases a with
  | none => simp [Builtin.firstCells]
  | some a => simp [Builtin.firstCells, loadCells, loadCellsFrom]
 cases b with
 | none => simp [Builtin.append_, run_underlying ht, sizeOf, typeInfo, hi, Builtin.lenOf, hf, hn]
 | some b => simp [Builtin.append_, run_underlying ht, sizeOf, typeInfo, hi, Builtin.lenOf, hf, hn, storeCells]
theorem run_append_room' (t ty e et : TypeId) (i : TypeInfo) (ht : P.underlying t = some (.slice e)) (hi : P.info? e = some i)
  (g sLen sCap : Nat) (cur : Array Value) (hg : w.heap[g]? = some (.cells cur et (0, 0)))
  (a : Addr) (m c : Nat) (news : List Value) (hl : news.length = m * i.size) (hnews : ∀ j u, news[j]? = some u → w.cell? (a.add j) = some u) (h1 : ∀ u ∈ news, u.oneCell' = true)
  (hroom : sLen + m ≤ sCap) (hfit : sLen * i.size + news.length ≤ cur.size) :
  (Builtin.append_ #[t, t] ty #[.slice (some ⟨g, 0, none⟩) sLen sCap, .slice (some a) m c]).run P w =
   .ok (.slice (some ⟨g, 0, none⟩) (sLen + m) sCap) (w.setRow g (cur.toList.take (sLen * i.size) ++ news ++ cur.toList.drop (sLen * i.size + news.length)).toArray) := by
 have hf := run_firstCells_some (P := P) w i.size m a m c news hl hnews
 have hst := run_storeCells_at P g (sLen * i.size) et news 0 cur w hg (by simpa using hfit) h1
 simp only [Nat.add_zero] at hst
 simp [Builtin.append_, run_underlying ht, sizeOf, typeInfo, hi, Builtin.lenOf, hroom, hf, Addr.add_lit, hst]
theorem run_append_zero (t ty e : TypeId) (i : TypeInfo) (z : Value) (ht : P.underlying t = some (.slice e)) (hi : P.info? e = some i) (hz : i.zero = some z)
  (b : Option Addr) (a : Addr) (n c : Nat) (news : List Value) (hl : news.length = n * i.size) (hnews : ∀ j v, news[j]? = some v → w.cell? (a.add j) = some v)
  (h0 : 0 < n) (h63 : (n : Int) ≤ 9223372036854775807) (h48 : n * i.bytes ≤ 140737488355328) :
  (Builtin.append_ #[t, t] ty #[.slice b 0 0, .slice (some a) n c]).run P w =
   .ok (.slice (some ⟨w.heap.size, 0, none⟩) n (grownCap w n 0 e)) (w.drew.alloc (.cells (news.toArray ++ Builtin.zeroCells z.cells (grownCap w n 0 e - n)) e)) := by
 cases b with
 | none => exact run_append_nil w t ty e i z ht hi hz a n c news hl hnews h0 h63 (by omega)
 | some b =>
  have := run_append_grow (P := P) w t ty e i z ht hi hz b 0 0 [] (by simp) (by simp) a n c news hl hnews (by omega) (by simpa using h63) (by rw [Nat.zero_add, nextslicecap_zero h0]; omega)
  simpa using this
def TokIn (h : Heap) : Tok → Prop
 | .nil | .full => True
 | .own b k e => h b = some (.spare k e)
 | .no => False
def Tok.rid (t : Tok) (h : Heap) : Heap := match t with | .own b _ _ => h.del b | _ => h
def SpareNew (h : Heap) (t : Tok) (b : Nat) : Prop := h b = none ∨ ∃ k e, t = .own b k e
theorem Tok.rid_get {t : Tok} {h : Heap} {c : Nat} {x : Blk} (e : t.rid h c = some x) : h c = some x := by
 unfold Tok.rid at e
 split at e
 ·unfold Heap.del at e
  split at e
  ·cases e
  ·exact e
 ·exact e
def Grown1 (w0 : Base) (F : Fin) (h : Heap) (tok : Tok) (sz : Nat) (rows : List (List AV)) (v' : Value) (w' : World) : Prop :=
 ∃ F' b k e, Mono F F' ∧ SpareNew h tok b ∧ Inv w0 F' w' ((tok.rid h).set b (.spare k e)) ∧ Rep F' v' (.list sz rows (.own b k e))
theorem append_new (hi : Inv w0 F w h) {sz n m c : Nat} {el : TypeId} {rows rows2 : List (List AV)} {olds news : List Value} {z : Array Value} {tok : Tok} (hz : z.size = sz)
  (hn : n = rows.length) (hm : m = rows2.length) (hl1 : ∀ r ∈ rows, r.length = sz) (hl2 : ∀ r ∈ rows2, r.length = sz) (ho : olds.length = n * sz) (hw : news.length = m * sz)
  (ro : ∀ q, q < n * sz → (olds.getD q undef).oneCell' = true ∧ Rep F (olds.getD q undef) (rows.flatten.getD q .any))
  (rn : ∀ q, q < m * sz → (news.getD q undef).oneCell' = true ∧ Rep F (news.getD q undef) (rows2.flatten.getD q .any)) (hc : n + m ≤ c) :
  Grown1 w0 F h tok sz (rows ++ rows2) (.slice (some ⟨w.heap.size, 0, none⟩) (n + m) c) (w.drew.alloc (.cells (olds.toArray ++ news.toArray ++ Builtin.zeroCells z (c - (n + m))) el)) := by
 have hf := hi.fresh
 have hsz : (olds.toArray ++ news.toArray ++ Builtin.zeroCells z (c - (n + m))).size = c * sz := by
  simp only [Array.size_append, List.size_toArray, size_zeroCells, hz, ho, hw, ← Nat.add_mul]
  congr 1; omega
 have hget : ∀ q, q < (n + m) * sz → (olds.toArray ++ news.toArray ++ Builtin.zeroCells z (c - (n + m)))[q]? = some ((olds ++ news).getD q undef) := by
  intro q hq
  rw [Array.getElem?_append_left (by simp [ho, hw, ← Nat.add_mul]; exact hq)]
  have h1 : q < (olds ++ news).length := by simp [ho, hw, ← Nat.add_mul]; exact hq
  have h2 : (olds.toArray ++ news.toArray)[q]? = (olds ++ news)[q]? := by simp
  rw [h2, List.getD, List.getElem?_eq_getElem h1]; rfl
 have hboth : ∀ q, q < (n + m) * sz → ((olds ++ news).getD q undef).oneCell' = true ∧ Rep F ((olds ++ news).getD q undef) ((rows ++ rows2).flatten.getD q .any) := by
  intro q hq
  have hfl : rows.flatten.length = n * sz := by rw [length_flatten rows hl1, hn]
  rw [List.flatten_append]
  by_cases h1 : q < n * sz
  ·have := ro q h1
   simp only [List.getD] at this ⊢
   rw [List.getElem?_append_left (by omega), List.getElem?_append_left (by omega)]
   exact this
  ·have := rn (q - n * sz) (by rw [Nat.add_mul] at hq; omega)
   simp only [List.getD] at this ⊢
   rw [List.getElem?_append_right (by omega), List.getElem?_append_right (by omega), ho, hfl]
   exact this
 have hmul : (n + m) * sz ≤ c * sz := Nat.mul_le_mul_right _ hc
 obtain ⟨k1, k2⟩ := hi.extend (g := tok.rid h) (w' := w.drew.alloc (.cells (olds.toArray ++ news.toArray ++ Builtin.zeroCells z (c - (n + m))) el)) (b := w.heap.size) (lo := 0) (k := (n + m) * sz) (e := c * sz)
  (fun e => absurd (hi.below.lt _ e) (by have := hi.below.size; omega)) (heap_alloc_new w.drew _) hsz (fun o _ => hf.2 o) (Nat.zero_le _) hmul
  (fun o _ ho' => by rw [Array.getD_eq_getD_getElem?, hget o ho']; exact (hboth o ho').1) (fun o v e => by rw [hf.2 o] at e; cases e) (hi.below.drew.alloc _)
  (fun c' _ hlt => Below.heap_alloc w.drew _ c' hlt) (fun c' x _ e => Tok.rid_get e)
 refine ⟨_, _, _, _, k1, .inl hf.1, k2, ?_⟩
 have hlen : (rows ++ rows2).length = n + m := by simp [hn, hm]
 have := Rep.mk_list (F := F.ext w.heap.size 0 ((n + m) * sz) (olds.toArray ++ news.toArray ++ Builtin.zeroCells z (c - (n + m)))) (b := w.heap.size) (o := 0) (cap := c) (sz := sz) (rows := rows ++ rows2) (tok := .own w.heap.size ((n + m) * sz) (c * sz))
  (fun q => (olds ++ news).getD q undef) (fun r hr => by rcases List.mem_append.1 hr with h | h; exact hl1 r h; exact hl2 r h) (by omega)
  (fun q hq => by
   rw [hlen] at hq
   refine ⟨?_, (hboth q hq).2.mono k1⟩
   simp only [Fin.ext, Nat.zero_add, Nat.zero_le, true_and, hq, and_self, if_true]
   exact hget q hq) ⟨rfl, rfl, by rw [hlen], rfl⟩
 rw [hlen] at this
 exact this
theorem append_sound (hi : Inv w0 F w h) {t ty el : TypeId} {i : TypeInfo} {z : Value} {v1 v2 : Value} {sz : Nat} {rows rows2 : List (List AV)} {tok tok2 : Tok} (ht : P.underlying t = some (.slice el)) (hie : P.info? el = some i)
  (hz : i.zero = some z) (hzs : z.cells.size = sz) (hsz : i.size = sz) (hpos : 0 < sz) (r1 : Rep F v1 (.list sz rows tok)) (r2 : Rep F v2 (.list sz rows2 tok2)) (hb : (rows.length + rows2.length) * i.bytes ≤ 140737488355328)
  (hmax : rows.length + rows2.length ≤ 9223372036854775807) (htok : rows2 ≠ [] → TokIn h tok) :
  (rows2 = [] ∧ (Builtin.append_ #[t, t] ty #[v1, v2]).run P w = .ok v1 w) ∨
  (rows2 ≠ [] ∧ ∃ v' w', (Builtin.append_ #[t, t] ty #[v1, v2]).run P w = .ok v' w' ∧ Grown1 w0 F h tok sz (rows ++ rows2) v' w') := by
 subst hsz
 by_cases hne : rows2 = []
 ·subst hne
  refine .inl ⟨rfl, ?_⟩
  have e2 : ∃ a c, v2 = .slice a 0 c := by
   rcases r2.list_inv with ⟨a, e, _⟩ | ⟨b, o, cap, news, e, _⟩
   ·exact ⟨a, 0, e⟩
   ·exact ⟨_, _, e⟩
  have e1 : ∃ b n c, v1 = .slice b n c ∧ n ≤ c := by
   rcases r1.list_inv with ⟨a, e, _⟩ | ⟨b, o, cap, news, e, hc, _⟩
   ·exact ⟨a, 0, 0, e, Nat.le_refl _⟩
   ·exact ⟨_, _, _, e, hc⟩
  obtain ⟨a, c, rfl⟩ := e2
  obtain ⟨b, n, c', rfl, hn⟩ := e1
  exact run_append_none t ty el ht hie b a n c' c hn w
 ·refine .inr ⟨hne, ?_⟩
  rcases r2.list_inv with ⟨a, e, e', _⟩ | ⟨b2, o2, cap2, news, rfl, hc2, hl2, hr2, hF2, _⟩
  ·exact absurd e' hne
  have hm0 : 0 < rows2.length := List.length_pos_iff.2 hne
  have hn2 : ∀ q, q < rows2.length * i.size → w.cell? ⟨b2, o2 + q, none⟩ = some (news.getD q undef) ∧ (news.getD q undef).oneCell' = true := fun q hq => hi.fin _ _ _ (hF2 q hq).1
  have hnews : ∀ j u, news[j]? = some u → w.cell? ((⟨b2, o2, none⟩ : Addr).add j) = some u := by
   intro j u hj
   have hlt : j < news.length := (List.getElem?_eq_some_iff.1 hj).1
   have := (hn2 j (by omega)).1
   simp only [List.getD, hj, Option.getD_some] at this
   rw [addr_add]; exact this
  have hone : ∀ u ∈ news, u.oneCell' = true := by
   intro u hu
   obtain ⟨j, hj, rfl⟩ := List.getElem_of_mem hu
   have := (hn2 j (by omega)).2
   simpa [List.getD, hj] using this
  have rn : ∀ q, q < rows2.length * i.size → (news.getD q undef).oneCell' = true ∧ Rep F (news.getD q undef) (rows2.flatten.getD q .any) := fun q hq => ⟨(hn2 q hq).2, (hF2 q hq).2⟩
  have fresh0 : ∀ a : Option Addr, rows = [] → ∃ v' w', (Builtin.append_ #[t, t] ty #[.slice a 0 0, .slice (some ⟨b2, o2, none⟩) rows2.length cap2]).run P w = .ok v' w' ∧ Grown1 w0 F h tok i.size (rows ++ rows2) v' w' := by
   intro a hr
   subst hr
   have hrun := run_append_zero (P := P) (w := w) t ty el i z ht hie hz a ⟨b2, o2, none⟩ rows2.length cap2 news hl2 hnews hm0 (by simp at hmax; omega) (by simpa using hb)
   have := append_new (tok := tok) (el := el) (n := 0) (m := rows2.length) (c := grownCap w rows2.length 0 el) (rows := []) (rows2 := rows2) (olds := []) (news := news) (z := z.cells) hi hzs rfl rfl (by simp) hr2 (by simp) hl2 (fun q hq => by simp at hq) rn (by simpa using grownCap_ge w rows2.length 0 el)
   simp only [Nat.zero_add, List.nil_append, Array.empty_append] at this
   exact ⟨_, _, hrun, this⟩
  rcases r1.list_inv with ⟨a, rfl, hr, _⟩ | ⟨b, o, cap, olds, rfl, hc, hl1, hr1, hF1, hk⟩
  ·exact fresh0 a hr
  have ho1 : ∀ q, q < rows.length * i.size → w.cell? ⟨b, o + q, none⟩ = some (olds.getD q undef) ∧ (olds.getD q undef).oneCell' = true := fun q hq => hi.fin _ _ _ (hF1 q hq).1
  have holds : ∀ j u, olds[j]? = some u → w.cell? ((⟨b, o, none⟩ : Addr).add j) = some u := by
   intro j u hj
   have hlt : j < olds.length := (List.getElem?_eq_some_iff.1 hj).1
   have := (ho1 j (by omega)).1
   simp only [List.getD, hj, Option.getD_some] at this
   rw [addr_add]; exact this
  have ro : ∀ q, q < rows.length * i.size → (olds.getD q undef).oneCell' = true ∧ Rep F (olds.getD q undef) (rows.flatten.getD q .any) := fun q hq => ⟨(ho1 q hq).2, (hF1 q hq).2⟩
  have grow : cap < rows.length + rows2.length → ∃ v' w', (Builtin.append_ #[t, t] ty #[.slice (some ⟨b, o, none⟩) rows.length cap, .slice (some ⟨b2, o2, none⟩) rows2.length cap2]).run P w = .ok v' w' ∧ Grown1 w0 F h tok i.size (rows ++ rows2) v' w' := by
   intro hlt
   have hrun := run_append_grow (P := P) w t ty el i z ht hie hz ⟨b, o, none⟩ rows.length cap olds hl1 holds ⟨b2, o2, none⟩ rows2.length cap2 news hl2 hnews hlt (by omega) (growslice_fits hlt hb)
   exact ⟨_, _, hrun, append_new (tok := tok) hi hzs rfl rfl hr1 hr2 hl1 hl2 ro rn (grownCap_ge w _ _ el)⟩
  have hT := htok hne
  cases tok with
  | no => exact hT.elim
  | nil => exact hk.elim
  | full => exact grow (by simp only [Tok.ok] at hk; omega)
  | own b' k e =>
   obtain ⟨rfl, rfl, rfl, rfl⟩ := hk
   by_cases hroom : rows.length + rows2.length ≤ cap
   ·obtain ⟨hN, hFk, arr, et, hgb, hsa, hke⟩ := hi.blk _ _ hT
    have hfit : rows.length * i.size + news.length ≤ arr.size := by rw [hl2, hsa, ← Nat.add_mul]; exact Nat.mul_le_mul_right _ hroom
    have hrun := run_append_room' (P := P) t ty el et i ht hie b' rows.length cap arr hgb ⟨b2, o2, none⟩ rows2.length cap2 news hl2 hnews hone hroom hfit
    refine ⟨_, _, hrun, ?_⟩
    have hmul : (rows.length + rows2.length) * i.size ≤ cap * i.size := Nat.mul_le_mul_right _ hroom
    have hmul1 : rows.length * i.size ≤ cap * i.size := Nat.mul_le_mul_right _ hc
    have harr : ∀ q v, F b' q = some v → arr[q]? = some v := fun q v hv => by
     have := (hi.fin _ _ _ hv).1
     simpa [World.cell?, hgb] using this
    have hsz' : (arr.toList.take (rows.length * i.size) ++ news ++ arr.toList.drop (rows.length * i.size + news.length)).toArray.size = cap * i.size := by
     simp only [List.size_toArray, List.length_append, List.length_take, List.length_drop, Array.length_toList]
     omega
    have hlow : ∀ q, q < rows.length * i.size → (arr.toList.take (rows.length * i.size) ++ news ++ arr.toList.drop (rows.length * i.size + news.length)).toArray[q]? = arr[q]? := fun q hq => by
     rw [List.getElem?_toArray, List.append_assoc, List.getElem?_append_left (by simp; omega), List.getElem?_take_of_lt hq]
     simp
    have hget : ∀ q, q < (rows.length + rows2.length) * i.size → (arr.toList.take (rows.length * i.size) ++ news ++ arr.toList.drop (rows.length * i.size + news.length)).toArray[q]? = some ((olds ++ news).getD q undef) := by
     intro q hq
     by_cases h1 : q < rows.length * i.size
     ·rw [hlow q h1]
      have := harr q _ (by have := (hF1 q h1).1; rwa [Nat.zero_add] at this)
      rw [this]
      simp only [List.getD]
      rw [List.getElem?_append_left (by omega)]
     ·rw [Nat.add_mul] at hq
      have h3 : (arr.toList.take (rows.length * i.size)).length = rows.length * i.size := by simp; omega
      rw [List.getElem?_toArray, List.getElem?_append_left (by simp; omega), List.getElem?_append_right (by omega), h3]
      simp only [List.getD]
      rw [List.getElem?_append_right (by omega), hl1, List.getElem?_eq_getElem (by omega)]
      rfl
    have hboth : ∀ q, q < (rows.length + rows2.length) * i.size → ((olds ++ news).getD q undef).oneCell' = true ∧ Rep F ((olds ++ news).getD q undef) ((rows ++ rows2).flatten.getD q .any) := by
     intro q hq
     have hfl : rows.flatten.length = rows.length * i.size := length_flatten rows hr1
     rw [List.flatten_append]
     by_cases h1 : q < rows.length * i.size
     ·have := ro q h1
      simp only [List.getD] at this ⊢
      rw [List.getElem?_append_left (by omega), List.getElem?_append_left (by omega)]
      exact this
     ·have := rn (q - rows.length * i.size) (by rw [Nat.add_mul] at hq; omega)
      simp only [List.getD] at this ⊢
      rw [List.getElem?_append_right (by omega), List.getElem?_append_right (by omega), hl1, hfl]
      exact this
    have hfrm : Frm w0 (w.setRow b' (arr.toList.take (rows.length * i.size) ++ news ++ arr.toList.drop (rows.length * i.size + news.length)).toArray) :=
     ⟨hi.below.os, hi.below.tape, hi.below.output, by simpa using hi.below.size, hi.below.lt, fun k hk => (setRow_other _ _ _ _ (fun e => hN (by rw [← e]; exact hk))).trans (hi.below.block k hk)⟩
    obtain ⟨k1, k2⟩ := hi.extend (g := (Tok.own b' (rows.length * i.size) (cap * i.size)).rid h) (b := b') (lo := rows.length * i.size) (k := (rows.length + rows2.length) * i.size) (e := cap * i.size)
     hN (setRow_heap w b' arr _ et _ hgb) hsz' hFk (by rw [Nat.add_mul]; omega) hmul (fun o _ ho' => by rw [Array.getD_eq_getD_getElem?, hget o ho']; exact (hboth o ho').1)
     (fun o v hv => by
      have hlt : o < rows.length * i.size := by
       by_cases h1 : o < rows.length * i.size
       ·exact h1
       ·rw [hFk o (by omega)] at hv; cases hv
      rw [hlow o hlt]; exact harr o v hv) hfrm (fun c' hc' _ => setRow_other _ _ _ _ hc') (fun c' x _ e => Tok.rid_get e)
    refine ⟨_, _, _, _, k1, .inr ⟨_, _, rfl⟩, k2, ?_⟩
    have hlen : (rows ++ rows2).length = rows.length + rows2.length := by simp
    have := Rep.mk_list (b := b') (o := 0) (cap := cap) (sz := i.size) (rows := rows ++ rows2) (tok := .own b' ((rows.length + rows2.length) * i.size) (cap * i.size)) (fun q => (olds ++ news).getD q undef)
     (fun r hr => by rcases List.mem_append.1 hr with h | h; exact hr1 r h; exact hr2 r h) (by omega)
     (fun q hq => by
      rw [hlen] at hq
      refine ⟨?_, (hboth q hq).2.mono k1⟩
      by_cases h1 : q < rows.length * i.size
      ·refine k1 _ _ _ ?_
       have := (hF1 q h1).1
       simp only [List.getD] at this ⊢
       rw [List.getElem?_append_left (by omega)]
       exact this
      ·have h2 : rows.length * i.size ≤ q := by omega
       simp only [Fin.ext, Nat.zero_add, hq, h2, and_self, if_true]
       exact hget q hq) ⟨rfl, rfl, by rw [hlen], rfl⟩
    rw [hlen] at this
    exact this
   ·exact grow (by omega)
theorem append_new_arr (hi : Inv w0 F w h) {sz n m c : Nat} {el : TypeId} {rows rows2 : List (List AV)} {olds news : List Value} {z : Array Value} (hz : z.size = sz) (hz1 : ∀ j, j < z.size → (z.getD j undef).oneCell' = true)
  (hn : n = rows.length) (hm : m = rows2.length) (hl1 : ∀ r ∈ rows, r.length = sz) (hl2 : ∀ r ∈ rows2, r.length = sz) (ho : olds.length = n * sz) (hw : news.length = m * sz)
  (ro : ∀ q, q < n * sz → (olds.getD q undef).oneCell' = true ∧ Rep F (olds.getD q undef) (rows.flatten.getD q .any))
  (rn : ∀ q, q < m * sz → (news.getD q undef).oneCell' = true ∧ Rep F (news.getD q undef) (rows2.flatten.getD q .any)) (hc : n + m ≤ c) :
  Inv w0 F (w.drew.alloc (.cells (olds.toArray ++ news.toArray ++ Builtin.zeroCells z (c - (n + m))) el)) (h.set w.heap.size (.cells ((rows ++ rows2).flatten ++ List.replicate ((c - (n + m)) * sz) .any))) := by
 have hfl : rows.flatten.length = n * sz := by rw [length_flatten rows hl1, hn]
 have hfl2 : rows2.flatten.length = m * sz := by rw [length_flatten rows2 hl2, hm]
 have hsz : (olds.toArray ++ news.toArray ++ Builtin.zeroCells z (c - (n + m))).size = (n + m) * sz + (c - (n + m)) * sz := by
  simp only [Array.size_append, List.size_toArray, size_zeroCells, hz, ho, hw, Nat.add_mul]
 have hcl : ((rows ++ rows2).flatten ++ List.replicate ((c - (n + m)) * sz) AV.any).length = (n + m) * sz + (c - (n + m)) * sz := by
  simp only [List.flatten_append, List.length_append, hfl, hfl2, List.length_replicate, Nat.add_mul]
 have hget : ∀ q, q < (n + m) * sz → (olds.toArray ++ news.toArray ++ Builtin.zeroCells z (c - (n + m)))[q]? = some ((olds ++ news).getD q undef) := by
  intro q hq
  rw [Array.getElem?_append_left (by simp [ho, hw, ← Nat.add_mul]; exact hq)]
  have h1 : q < (olds ++ news).length := by simp [ho, hw, ← Nat.add_mul]; exact hq
  have h2 : (olds.toArray ++ news.toArray)[q]? = (olds ++ news)[q]? := by simp
  rw [h2, List.getD, List.getElem?_eq_getElem h1]; rfl
 have hboth : ∀ q, q < (n + m) * sz → ((olds ++ news).getD q undef).oneCell' = true ∧ Rep F ((olds ++ news).getD q undef) ((rows ++ rows2).flatten.getD q .any) := by
  intro q hq
  rw [List.flatten_append]
  by_cases h1 : q < n * sz
  ·have := ro q h1
   simp only [List.getD] at this ⊢
   rw [List.getElem?_append_left (by omega), List.getElem?_append_left (by omega)]
   exact this
  ·have := rn (q - n * sz) (by rw [Nat.add_mul] at hq; omega)
   simp only [List.getD] at this ⊢
   rw [List.getElem?_append_right (by omega), List.getElem?_append_right (by omega), ho, hfl]
   exact this
 refine hi.drew.alloc _ el _ (by rw [hsz, hcl]) (fun q hq => ?_) (fun q hq => ?_)
 ·rw [hcl] at hq
  by_cases h1 : q < (n + m) * sz
  ·rw [Array.getD_eq_getD_getElem?, hget q h1]
   have h2 := (hboth q h1).2
   have h3 : ((rows ++ rows2).flatten ++ List.replicate ((c - (n + m)) * sz) AV.any).getD q .any = (rows ++ rows2).flatten.getD q .any := by
    simp only [List.getD]
    rw [List.getElem?_append_left (by simp only [List.flatten_append, List.length_append, hfl, hfl2, ← Nat.add_mul]; exact h1)]
   rw [h3]; exact h2
  ·have h3 : ((rows ++ rows2).flatten ++ List.replicate ((c - (n + m)) * sz) AV.any).getD q .any = .any := by
    simp only [List.getD]
    rw [List.getElem?_append_right (by simp only [List.flatten_append, List.length_append, hfl, hfl2, ← Nat.add_mul]; omega), List.getElem?_replicate]
    split <;> rfl
   rw [h3]; exact .any _
 ·rw [hcl] at hq
  by_cases h1 : q < (n + m) * sz
  ·rw [Array.getD_eq_getD_getElem?, hget q h1]
   exact (hboth q h1).1
  ·have h4 : (olds.toArray ++ news.toArray).size = (n + m) * sz := by simp [ho, hw, Nat.add_mul]
   have hpos : 0 < sz := Nat.pos_of_ne_zero fun e => by simp [e] at hq
   have h5 : q - (n + m) * sz < (c - (n + m)) * sz := by omega
   rw [Array.getD_eq_getD_getElem?, Array.getElem?_append_right (by omega), h4]
   have h6 : (Builtin.zeroCells z (c - (n + m)))[q - (n + m) * sz]? = some (z.getD ((q - (n + m) * sz) % sz) undef) := by
    have h7 : q - (n + m) * sz < (Builtin.zeroCells z (c - (n + m))).size := by rw [size_zeroCells, hz]; exact h5
    rw [Array.getElem?_eq_getElem h7]
    have h8 : (q - (n + m) * sz) % sz < z.size := by rw [hz]; exact Nat.mod_lt _ hpos
    simp only [Builtin.zeroCells, Array.getElem_map, Array.getElem_range, Array.getD, h8, dif_pos]
    subst hz
    exact congrArg some (getElem!_pos z _ h8)
   rw [h6]
   exact hz1 _ (by rw [hz]; exact Nat.mod_lt _ hpos)
def Grown2 (w0 : Base) (F : Fin) (h : Heap) (sz : Nat) (rows : List (List AV)) (v' : Value) (w' : World) : Prop :=
 ∃ b c, h b = none ∧ rows.length ≤ c ∧ Inv w0 F w' (h.set b (.cells (rows.flatten ++ List.replicate ((c - rows.length) * sz) .any))) ∧ v' = .slice (some ⟨b, 0, none⟩) rows.length c
theorem append_sound_arr (hi : Inv w0 F w h) {t ty el : TypeId} {i : TypeInfo} {z : Value} {v1 v2 : Value} {sz : Nat} {rows rows2 : List (List AV)} {tok tok2 : Tok} (ht : P.underlying t = some (.slice el)) (hie : P.info? el = some i)
  (hz : i.zero = some z) (hzs : z.cells.size = sz) (hz1 : ∀ j, j < z.cells.size → (z.cells.getD j undef).oneCell' = true) (hsz : i.size = sz) (r1 : Rep F v1 (.list sz rows tok)) (r2 : Rep F v2 (.list sz rows2 tok2)) (hb : (rows.length + rows2.length) * i.bytes ≤ 140737488355328)
  (hmax : rows.length + rows2.length ≤ 9223372036854775807) (htok : tok = .nil ∨ tok = .full) (hne : rows2 ≠ []) :
  ∃ v' w', (Builtin.append_ #[t, t] ty #[v1, v2]).run P w = .ok v' w' ∧ Grown2 w0 F h sz (rows ++ rows2) v' w' := by
 subst hsz
 rcases r2.list_inv with ⟨a, e, e', _⟩ | ⟨b2, o2, cap2, news, rfl, hc2, hl2, hr2, hF2, _⟩
 ·exact absurd e' hne
 have hm0 : 0 < rows2.length := List.length_pos_iff.2 hne
 have hn2 : ∀ q, q < rows2.length * i.size → w.cell? ⟨b2, o2 + q, none⟩ = some (news.getD q undef) ∧ (news.getD q undef).oneCell' = true := fun q hq => hi.fin _ _ _ (hF2 q hq).1
 have hnews : ∀ j u, news[j]? = some u → w.cell? ((⟨b2, o2, none⟩ : Addr).add j) = some u := by
  intro j u hj
  have hlt : j < news.length := (List.getElem?_eq_some_iff.1 hj).1
  have := (hn2 j (by omega)).1
  simp only [List.getD, hj, Option.getD_some] at this
  rw [addr_add]; exact this
 have rn : ∀ q, q < rows2.length * i.size → (news.getD q undef).oneCell' = true ∧ Rep F (news.getD q undef) (rows2.flatten.getD q .any) := fun q hq => ⟨(hn2 q hq).2, (hF2 q hq).2⟩
 have hf := hi.fresh
 have fresh0 : ∀ a : Option Addr, rows = [] → ∃ v' w', (Builtin.append_ #[t, t] ty #[.slice a 0 0, .slice (some ⟨b2, o2, none⟩) rows2.length cap2]).run P w = .ok v' w' ∧ Grown2 w0 F h i.size (rows ++ rows2) v' w' := by
  intro a hr
  subst hr
  have hrun := run_append_zero (P := P) (w := w) t ty el i z ht hie hz a ⟨b2, o2, none⟩ rows2.length cap2 news hl2 hnews hm0 (by simp at hmax; omega) (by simpa using hb)
  have := append_new_arr (el := el) (n := 0) (m := rows2.length) (c := grownCap w rows2.length 0 el) (rows := []) (rows2 := rows2) (olds := []) (news := news) (z := z.cells) hi hzs hz1 rfl rfl (by simp) hr2 (by simp) hl2 (fun q hq => by simp at hq) rn (by simpa using grownCap_ge w rows2.length 0 el)
  simp only [Nat.zero_add, List.nil_append, Array.empty_append] at this
  exact ⟨_, _, hrun, _, _, hf.1, by simpa using grownCap_ge w rows2.length 0 el, by simpa using this, by simp⟩
 rcases r1.list_inv with ⟨a, rfl, hr, _⟩ | ⟨b, o, cap, olds, rfl, hc, hl1, hr1, hF1, hk⟩
 ·exact fresh0 a hr
 have ho1 : ∀ q, q < rows.length * i.size → w.cell? ⟨b, o + q, none⟩ = some (olds.getD q undef) ∧ (olds.getD q undef).oneCell' = true := fun q hq => hi.fin _ _ _ (hF1 q hq).1
 have holds : ∀ j u, olds[j]? = some u → w.cell? ((⟨b, o, none⟩ : Addr).add j) = some u := by
  intro j u hj
  have hlt : j < olds.length := (List.getElem?_eq_some_iff.1 hj).1
  have := (ho1 j (by omega)).1
  simp only [List.getD, hj, Option.getD_some] at this
  rw [addr_add]; exact this
 have ro : ∀ q, q < rows.length * i.size → (olds.getD q undef).oneCell' = true ∧ Rep F (olds.getD q undef) (rows.flatten.getD q .any) := fun q hq => ⟨(ho1 q hq).2, (hF1 q hq).2⟩
 have grow : cap < rows.length + rows2.length → ∃ v' w', (Builtin.append_ #[t, t] ty #[.slice (some ⟨b, o, none⟩) rows.length cap, .slice (some ⟨b2, o2, none⟩) rows2.length cap2]).run P w = .ok v' w' ∧ Grown2 w0 F h i.size (rows ++ rows2) v' w' := by
  intro hlt
  have hrun := run_append_grow (P := P) w t ty el i z ht hie hz ⟨b, o, none⟩ rows.length cap olds hl1 holds ⟨b2, o2, none⟩ rows2.length cap2 news hl2 hnews hlt (by omega) (growslice_fits hlt hb)
  have hA := append_new_arr (c := grownCap w (rows.length + rows2.length) cap el) (el := el) hi hzs hz1 rfl rfl hr1 hr2 hl1 hl2 ro rn (grownCap_ge w _ _ el)
  exact ⟨_, _, hrun, _, _, hf.1, by simpa using grownCap_ge w (rows.length + rows2.length) cap el, by simpa using hA, by simp⟩
 rcases htok with rfl | rfl
 ·exact hk.elim
 ·exact grow (by simp only [Tok.ok] at hk; omega)
def chunk : Nat → Nat → List AV → List (List AV)
 | 0, _, _ => []
 | n + 1, sz, cs => cs.take sz :: chunk n sz (cs.drop sz)
theorem chunk_spec (sz : Nat) : ∀ (n : Nat) (cs : List AV), cs.length = n * sz → (chunk n sz cs).flatten = cs ∧ (∀ r ∈ chunk n sz cs, r.length = sz) ∧ (chunk n sz cs).length = n
 | 0, cs, h => by
  have : cs = [] := List.eq_nil_of_length_eq_zero (by simpa using h)
  simp [chunk, this]
 | n + 1, cs, h => by
  rw [Nat.add_mul, Nat.one_mul] at h
  obtain ⟨h1, h2, h3⟩ := chunk_spec sz n (cs.drop sz) (by simp; omega)
  refine ⟨by simp [chunk, h1], ?_, by simp [chunk, h3]⟩
  intro r hr
  simp only [chunk, List.mem_cons] at hr
  rcases hr with rfl | hr
  ·simp; omega
  ·exact h2 r hr
def elBytes (P : Program) (t : TypeId) : Option Nat :=
 match P.underlying t with
 | some (.slice e) => (P.info? e).map (·.bytes)
 | _ => none
theorem Inv.lay (hi : Inv w0 F w h) {n sz : Nat} {arr : Array Value} {cs : List AV} {el : TypeId} (hr : RepL F arr cs) (hl : cs.length = n * sz) (hone : ∀ j, j < cs.length → (arr.getD j undef).oneCell' = true) :
  ∃ F', Mono F F' ∧ Inv w0 F' (w.alloc (.cells arr el)) h ∧ Rep F' (.slice (some ⟨w.heap.size, 0, none⟩) n n) (.list sz (chunk n sz cs) .full) := by
 have hf := hi.fresh
 have hsz : arr.size = n * sz := by rw [hr.1, hl]
 obtain ⟨c1, c2, c3⟩ := chunk_spec sz n cs hl
 have hget : ∀ q, q < n * sz → arr[q]? = some (arr.getD q undef) := fun q hq => by
  have : q < arr.size := by omega
  simp [Array.getD, this]
 obtain ⟨k1, k2⟩ := hi.extend (g := h) (w' := w.alloc (.cells arr el)) (b := w.heap.size) (lo := 0) (k := n * sz) (e := n * sz)
  (fun e => absurd (hi.below.lt _ e) (by have := hi.below.size; omega)) (heap_alloc_new w _) hsz (fun o _ => hf.2 o) (Nat.zero_le _) (Nat.le_refl _)
  (fun o _ ho' => hone o (by omega)) (fun o v e => by rw [hf.2 o] at e; cases e) (hi.below.alloc _) (fun c' _ hlt => Below.heap_alloc w _ c' hlt) (fun c' x _ e => e)
 refine ⟨_, k1, k2.sub ((Sub.refl h).loc hf.1 _), ?_⟩
 have := Rep.mk_list (F := F.ext w.heap.size 0 (n * sz) arr) (b := w.heap.size) (o := 0) (cap := n) (sz := sz) (rows := chunk n sz cs) (tok := .full) (fun q => arr.getD q undef) c2 (by omega)
  (fun q hq => by
   rw [c3] at hq
   refine ⟨?_, ?_⟩
   ·simp only [Fin.ext, Nat.zero_add, Nat.zero_le, true_and, hq, and_self, if_true]
    exact hget q hq
   ·rw [c1]; exact (hr.2 q (by omega)).mono k1) (by simp only [Tok.ok]; omega)
 rw [c3] at this
 exact this
theorem buildSlice_sound (hi : Inv w0 F w h) {t el : TypeId} {n sz : Nat} {ps : List (Nat × AV)} {vs : Array (Nat × Value)} (ht : elemT P t = some (.slice, el, sz)) (hz : (zeroA P el).isSome = true) (hn : n * sz ≤ 16777216)
  (hl : vs.size = ps.length) (hv : ∀ k, k < ps.length → (vs.toList.getD k (0, undef)).1 = (ps.getD k (0, .any)).1 ∧ Rep F (vs.toList.getD k (0, undef)).2 (ps.getD k (0, .any)).2)
  (hs : (fillA P t ps (List.replicate (n * sz) .any)).1) (hc : ∀ c ∈ (fillA P t ps (List.replicate (n * sz) .any)).2, c.isCell = true) (hlen : (fillA P t ps (List.replicate (n * sz) .any)).2.length = n * sz) :
  ∃ v' w' F', (Instr.buildSlice t n vs).run P w = .ok v' w' ∧ Mono F F' ∧ Inv w0 F' w' h ∧ Rep F' v' (.list sz (chunk n sz (fillA P t ps (List.replicate (n * sz) .any)).2) .full) := by
 obtain ⟨i, h1, h2, h3⟩ := elemT_slice ht
 obtain ⟨z, hz⟩ := Option.isSome_iff_exists.1 hz
 obtain ⟨i', zv, q1, q2, q3, q4, q5⟩ := zeroA_spec hz F
 have : i' = i := Option.some.inj (q1.symm.trans h2)
 subst this
 subst h3
 have hplace : ∀ j x, placeT P t j = some x → (fun j => some (j * i'.size, i'.size)) j = some x := by
  intro j x hx
  unfold placeT at hx
  simp only [h1, h2] at hx
  simpa using hx
 have fin : ∀ (zz : Array Value), ((Array.range (n * i'.size)).map fun q => zz[q % zz.size]!).size = n * i'.size → ∃ arr', Instr.fill (fun j => some (j * i'.size, i'.size)) ((Array.range (n * i'.size)).map fun q => zz[q % zz.size]!) vs.toList = some arr' ∧
   RepL F arr' (fillA P t ps (List.replicate (n * i'.size) .any)).2 := by
  intro zz hzz
  refine fill_sound hplace ps vs.toList (List.replicate (n * i'.size) .any) _ (by simpa using hl) hv ⟨by simp, fun q hq => ?_⟩ hs
  simp at hq
  simp [List.getD, hq]
  exact .any _
 have done : ∀ (zz : Array Value), (∀ arr', Instr.fill (fun j => some (j * i'.size, i'.size)) ((Array.range (n * i'.size)).map fun q => zz[q % zz.size]!) vs.toList = some arr' →
    (Instr.buildSlice t n vs).run P w = .ok (.slice (some ⟨w.heap.size, 0, none⟩) n n) (w.alloc (.cells arr' el))) →
   ∃ v' w' F', (Instr.buildSlice t n vs).run P w = .ok v' w' ∧ Mono F F' ∧ Inv w0 F' w' h ∧ Rep F' v' (.list i'.size (chunk n i'.size (fillA P t ps (List.replicate (n * i'.size) .any)).2) .full) := by
  intro zz hrun
  obtain ⟨arr', r1, r2⟩ := fin zz (by simp)
  have hone : ∀ j, j < (fillA P t ps (List.replicate (n * i'.size) .any)).2.length → (arr'.getD j undef).oneCell' = true := by
   intro j hj
   refine (r2.2 j hj).oneCell ?_
   rw [List.getD, List.getElem?_eq_getElem hj]
   exact hc _ (List.getElem_mem hj)
  obtain ⟨F', m1, m2, m3⟩ := hi.lay (el := el) r2 hlen hone
  exact ⟨_, _, F', hrun arr' r1, m1, m2, m3⟩
 have hle : ¬ (n * i'.size > 2 ^ 24) := by simpa using hn
 by_cases h0 : n * i'.size = 0
 ·refine done #[] fun arr' r1 => ?_
  unfold Instr.buildSlice
  have r2 : Instr.fill (fun j => some (j * i'.size, i'.size)) #[] vs.toList = some arr' := by simpa [h0, Array.range_zero'] using r1
  simp only [Sem.run_bind, run_underlying h1, Result.andThen_ok, run_sizeOf_info h2, hle, if_false, h0, if_true, Sem.run_pure]
  simp [newRow, Array.range_zero', r2]
 ·refine done zv.cells fun arr' r1 => ?_
  unfold Instr.buildSlice
  simp only [Sem.run_bind, run_underlying h1, Result.andThen_ok, run_sizeOf_info h2, hle, if_false, h0, run_zeroValue q1 q2, Sem.run_pure, r1]
  simp [newRow]
theorem makeSlice_sound (hi : Inv w0 F w h) {t el : TypeId} {sz by' : Nat} {kl kc : IntKind} {l c : Int} {z : List AV} (ht : elemT P t = some (.slice, el, sz)) (hb : elBytes P t = some by') (hz : zeroA P el = some z)
  (h0 : 0 ≤ l) (hlc : l ≤ c) (hbytes : (by' : Int) * c ≤ 281474976710656) (h63 : c ≤ 9223372036854775807) :
  ∃ w', (Instr.makeSlice t (.int kl l) (.int kc c)).run P w = .ok (.slice (some ⟨w.heap.size, 0, none⟩) l.toNat c.toNat) w' ∧
   Inv w0 F w' (h.set w.heap.size (.cells (List.replicate c.toNat z).flatten)) := by
 obtain ⟨i, h1, h2, h3⟩ := elemT_slice ht
 obtain ⟨i', zv, q1, q2, q3, q4, q5⟩ := zeroA_spec hz F
 have : i' = i := Option.some.inj (q1.symm.trans h2)
 subst this
 have hby : i'.bytes = by' := by
  unfold elBytes at hb
  simpa [h1, h2] using hb
 subst hby
 refine ⟨_, run_make w t el i' zv h1 h2 q2 kl kc l c h0 hlc hbytes h63, ?_⟩
 have hzl : zv.cells.size = i'.size := by rw [q4.1, q3]
 have hfl : ∀ q, q < c.toNat * z.length → (List.replicate c.toNat z).flatten.getD q .any = z.getD (q % z.length) .any := by
  intro q hq
  have hpos : 0 < z.length := Nat.pos_of_ne_zero fun e => by simp [e] at hq
  have k1 : q / z.length < c.toNat := Nat.div_lt_of_lt_mul (by rw [Nat.mul_comm]; exact hq)
  have k2 : q % z.length < z.length := Nat.mod_lt _ hpos
  have := getD_flatten (sz := z.length) (List.replicate c.toNat z) (fun r hr => by rw [(List.mem_replicate.1 hr).2]) (q / z.length) (q % z.length) (by simpa using k1) k2
  rw [Nat.mul_comm, Nat.div_add_mod] at this
  rw [this]
  simp [List.getD, k1]
 have hlen : (List.replicate c.toNat z).flatten.length = c.toNat * z.length := by simp
 have hcell : ∀ q, q < c.toNat * i'.size → (madeCells zv.cells (c.toNat * i'.size)).getD q undef = zv.cells.getD (q % z.length) undef := by
  intro q hq
  have hpos : 0 < z.length := Nat.pos_of_ne_zero fun e => by rw [q3, e] at hq; simp at hq
  have k2 : q % z.length < zv.cells.size := by rw [hzl, q3]; exact Nat.mod_lt _ hpos
  have k3 : q < (madeCells zv.cells (c.toNat * i'.size)).size := by rw [size_madeCells]; exact hq
  simp only [Array.getD, k3, dif_pos, k2]
  simp [madeCells, hzl, q3]
  exact getElem!_pos zv.cells (q % z.length) k2
 refine hi.alloc _ el _ (by rw [size_madeCells, hlen, q3]) (fun q hq => ?_) (fun q hq => ?_)
 ·rw [hlen] at hq
  have hpos : 0 < z.length := Nat.pos_of_ne_zero fun e => by simp [e] at hq
  rw [hcell q (by rw [q3]; exact hq), hfl q hq]
  exact q4.2 _ (Nat.mod_lt _ hpos)
 ·rw [hlen] at hq
  have hpos : 0 < z.length := Nat.pos_of_ne_zero fun e => by simp [e] at hq
  rw [hcell q (by rw [q3]; exact hq)]
  exact q5 _ (Nat.mod_lt _ hpos)
end
end Go.AL

namespace Go.AL
open Go Go.RowKit
def guardAV (ops : Array Oper) (α : AAct) : Option (Nat × Bool) → Option Bool
 | none => some true
 | some (j, want) => match (ops[j]?).bind (·.dst) with
  | some d => match α.s.getD d .any with
   | .bool b => some (b == want)
   | .whn c (.bool b) => some (c && b == want)
   | .whn false _ => some false
   | _ => none
  | none => none
def AV.cond : AV → Bool
 | .whn c _ => c
 | _ => true
def AV.body : AV → AV
 | .whn _ y => y
 | x => x
def AV.under (g : Option (Nat × Bool)) (c : Bool) (x : AV) : AV := match g with
 | none => x
 | some _ => .whn (c && x.cond) x.body
def callable (P : Program) (f : FuncId) : Bool :=
 match P.funcs[f]? with
 | some fn => fn.name != "runtime.NumGoroutine" && fn.body.isSome
 | none => false
def okL : List AV → Prop
 | [] => True
 | x :: xs => x.ok ∧ okL xs
def argsA (P : Program) (α : AAct) (ts : Array TypeId) (xs : Array Operand) : List AV := List.zipWith (fun t x => α.ev P t x) ts.toList xs.toList
def Cont (K : AAct → Heap → Prop) (d : Option Tmp) (α : AAct) : AV → Heap → Prop := fun x h => K (α.put d x) h
def Fresh (h : Heap) (b : Nat) : Prop := h b = none
def Alloc (K : AAct → Heap → Prop) (d : Option Tmp) (α : AAct) (h : Heap) (z : List AV) : Prop := ∀ b, Fresh h b → K (α.put d (.ptr b 0)) (h.set b (.cells z))
def GrowK (K : AV → Heap → Prop) (h : Heap) (sz : Nat) (rows : List (List AV)) (tok : Tok) : Prop := ∀ b k e, SpareNew h tok b → K (.list sz rows (.own b k e)) ((tok.rid h).set b (.spare k e))
def GrowA (K : AV → Heap → Prop) (h : Heap) (sz : Nat) (rows : List (List AV)) (tok : Tok) : Prop := (tok = .nil ∨ tok = .full) ∧ ∀ b c, Fresh h b → rows.length ≤ c → K (.arr b 0 rows.length c) (h.set b (.cells (rows.flatten ++ List.replicate ((c - rows.length) * sz) .any)))
def NilK (K : AV → Heap → Prop) (h : Heap) (sz : Nat) (rows rows2 : List (List AV)) (tok : Tok) : Prop := (rows2 = [] → K (.list sz rows tok) h) ∧ (rows2 ≠ [] → (TokIn h tok ∧ GrowK K h sz (rows ++ rows2) tok) ∨ GrowA K h sz (rows ++ rows2) tok)
def appendL (n sz bytes : Nat) (z : Bool) (K : AV → Heap → Prop) (h : Heap) : AV → AV → Prop
 | .list s1 rows tok, .list s2 rows2 _ => n = 0 ∧ s1 = sz ∧ s2 = sz ∧ 0 < sz ∧ z = true ∧ (rows.length + rows2.length) * bytes ≤ 140737488355328 ∧ rows.length + rows2.length ≤ 9223372036854775807 ∧ NilK K h sz rows rows2 tok
 | _, _ => False
def appendK (P : Program) (t : TypeId) (x y : AV) (K : AV → Heap → Prop) (h : Heap) : Prop :=
 match elemT P t, elBytes P t with
 | some (.slice, el, sz), some bytes => x.ok ∧ y.ok ∧ appendL 0 sz bytes (zeroA P el).isSome K h x.val y.val
 | _, _ => False
def MakeK (K : AV → Heap → Prop) (h : Heap) (sz : Nat) (z : List AV) (l c : Int) : Prop :=
 (∀ b, Fresh h b → K (.arr b 0 l.toNat c.toNat) (h.set b (.cells (List.replicate c.toNat z).flatten))) ∨
 (l = 0 ∧ ∀ b, Fresh h b → K (.list sz [] (.own b 0 (c.toNat * sz))) (h.set b (.spare 0 (c.toNat * sz))))
def makeL (sz bytes : Nat) (z : Option (List AV)) (K : AV → Heap → Prop) (h : Heap) : AV → AV → Prop
 | .int _ l, .int _ c => match z with
  | some z => 0 ≤ l ∧ l ≤ c ∧ (bytes : Int) * c ≤ 281474976710656 ∧ c ≤ 9223372036854775807 ∧ MakeK K h sz z l c
  | none => False
 | _, _ => False
def makeK (P : Program) (t : TypeId) (x y : AV) (K : AV → Heap → Prop) (h : Heap) : Prop :=
 match elemT P t, elBytes P t with
 | some (.slice, el, sz), some bytes => x.ok ∧ y.ok ∧ makeL sz bytes (zeroA P el) K h x.val y.val
 | _, _ => False
def litParts (P : Program) (α : AAct) (el : TypeId) (parts : List (Nat × Operand)) : List (Nat × AV) := parts.map fun p => (p.1, α.ev P el p.2)
def litK (P : Program) (t : TypeId) (n : Nat) (parts : TypeId → List (Nat × AV)) (K : AV → Heap → Prop) (h : Heap) : Prop :=
 match elemT P t with
 | some (.slice, el, sz) => (zeroA P el).isSome = true ∧ n * sz ≤ 16777216 ∧ (fillA P t (parts el) (List.replicate (n * sz) .any)).1 ∧ (∀ c ∈ (fillA P t (parts el) (List.replicate (n * sz) .any)).2, c.isCell = true) ∧
   (fillA P t (parts el) (List.replicate (n * sz) .any)).2.length = n * sz ∧ K (.list sz (chunk n sz (fillA P t (parts el) (List.replicate (n * sz) .any)).2) .full) h
 | _ => False
def NilB (K : AV → Heap → Prop) (h : Heap) (op : BinOp) (rows : List (List AV)) : Prop := ∀ b : Bool, (b = true → rows = []) → K (.bool (notB op b)) h
def veff (P : Program) (o : Oper) (α : AAct) (h : Heap) (K : AAct → Heap → Prop) : Prop :=
 match o.op with
 | .alloc T => match zeroA P T with
  | some z => Alloc K o.dst α h z
  | none => False
 | .box T x => (α.ev P T x).ok ∧ (∀ c ∈ (α.ev P T x).val.cells, c.isCell = true) ∧ Alloc K o.dst α h (α.ev P T x).val.cells
 | .store T a x => match tinfo P T, α.ev P 0 a with
  | some (n, _), .ptr b off => match h b with
   | some (.cells cs) => (α.ev P T x).ok ∧ (α.ev P T x).val.cells.length = n ∧ off + n ≤ cs.length ∧ (∀ c ∈ (α.ev P T x).val.cells, c.isCell = true) ∧
     K (α.put o.dst .any) (h.set b (.cells (splice cs off (α.ev P T x).val.cells)))
   | _ => False
  | _, _ => False
 | .call { callee := .value (.func f), args, argTypes } => callable P f = true ∧ argTypes.size = args.size ∧ okL (argsA P α argTypes args) ∧
   ACalls P f ((argsA P α argTypes args).map AV.val) h (Cont K o.dst α)
 | .call { callee := .value (.tmp t), args, argTypes } => match (α.s.getD t .any).val with
  | .fn f caps => (α.s.getD t .any).ok ∧ callable P f = true ∧ argTypes.size = args.size ∧ okL (argsA P α argTypes args) ∧
   ACalls P f ((argsA P α argTypes args).map AV.val ++ caps) h (Cont K o.dst α)
  | _ => False
 | .buildSlice t n parts => litK P t n (fun el => litParts P α el parts.toList) (Cont K o.dst α) h
 | .binOp op t x y _ => nilQ P op t (α.ev P t x) (α.ev P t y) = true ∧ NilB (Cont K o.dst α) h op (rowsOf (α.ev P t x))
 | .makeSlice t l c => makeK P t (α.ev P 0 l) (α.ev P 0 c) (Cont K o.dst α) h
 | .call { callee := .builtin .append, args, argTypes } => match args.toList, argTypes.toList with
  | [x, y], [t, t'] => t' = t ∧ appendK P t (α.ev P t x) (α.ev P t y) (Cont K o.dst α) h
  | _, _ => False
 | .defer { callee := .value (.func f), args, argTypes } => callable P f = true ∧ argTypes.size = args.size ∧ okL (argsA P α argTypes args) ∧
   K (({ α with ds := (f, (argsA P α argTypes args).map AV.val) :: α.ds } : AAct).put o.dst .any) h
 | _ => False
def AOp (P : Program) (o : Oper) (α : AAct) (h : Heap) (K : AAct → Heap → Prop) : Prop :=
 ∀ (w0 : Base) (F : Fin) (a : Act) (w : World) (next : Act → World → Prop) (Q : Exit → Act → World → Prop), Inv w0 F w h → RepA F a α →
  (∀ F' α' h' a' w', Mono F F' → Inv w0 F' w' h' → RepA F' a' α' → K α' h' → next a' w') → o.wp P a w next Q
section
variable {P : Program} {w0 : Base} {w : World} {F : Fin} {h : Heap} {α : AAct} {a : Act}
theorem guard_sound {ops : Array Oper} {o : Oper} {c : Bool} (hr : RepA F a α) (e : guardAV ops α o.guard = some c) : Region.wanted o (yielded ops a.tmps) = c := by
 unfold Region.wanted
 cases hg : o.guard with
 | none => rw [hg] at e; simp [guardAV] at e; simp [e]
 | some g =>
  obtain ⟨j, want⟩ := g
  rw [hg] at e
  simp only [guardAV] at e
  simp only
  unfold yielded
  cases hd : (ops[j]?).bind (·.dst) with
  | none => rw [hd] at e; cases e
  | some d =>
   rw [hd] at e
   simp only at e
   simp only [Option.bind_some]
   have h1 := hr.s.get d
   by_cases hlt : d < α.s.length
   ·have h2 : d < a.tmps.size := by rw [hr.s.1]; exact hlt
    have h3 : a.tmps[d]? = some (a.tmps.getD d undef) := by simp [Array.getD, h2]
    rw [h3]
    generalize a.tmps.getD d undef = v at h1
    generalize α.s.getD d .any = x at e h1
    split at e
    ·injection e with e
     rw [h1.bool_inv]
     simp only
     rw [← e]
     rename_i b
     cases b <;> cases want <;> rfl
    ·injection e with e
     rename_i c' b
     cases h1 with
     | whn c v x hh hf =>
      cases c'
      ·rw [hf rfl, ← e]; cases b <;> cases want <;> rfl
      ·rw [(hh rfl).bool_inv, ← e]; cases b <;> cases want <;> rfl
    ·injection e with e
     cases h1 with
     | whn c v x hh hf => rw [hf rfl, ← e]; cases want <;> rfl
    ·cases e
   ·have : α.s.getD d .any = .any := by simp [List.getD, List.getElem?_eq_none (Nat.le_of_not_lt hlt)]
    rw [this] at e
    cases e
def AAct.known (ops : Array Oper) (α : AAct) (g : Option (Nat × Bool)) (c : Bool) : AAct :=
 match g with
 | none => α
 | some (j, want) => match (ops[j]?).bind (·.dst) with
  | some d => match α.s.getD d .any with
   | .bool _ => α.put (some d) (.bool (want == c))
   | .whn _ (.bool _) => if c then α.put (some d) (.bool want) else α
   | _ => α
  | none => α
theorem Rep.whn_inv {F : Fin} {v : Value} {c : Bool} {x : AV} (h : Rep F v (.whn c x)) (hc : c = true) : Rep F v x := by
 cases h with
 | whn c v x hh hf => exact hh hc
theorem RepL.alter {F : Fin} {cs : Array Value} {xs : List AV} (h : RepL F cs xs) (d : Nat) {x : AV} (hx : Rep F (cs.getD d undef) x) : RepL F cs (xs.set d x) := by
 refine ⟨by simp [h.1], fun i hi => ?_⟩
 simp at hi
 have h2 := h.2 i hi
 by_cases hd : d = i
 ·subst hd
  simpa [List.getD, hi] using hx
 ·simp [List.getD, hi, hd] at h2 ⊢
  exact h2
theorem RepA.known {ops : Array Oper} {g : Option (Nat × Bool)} {c : Bool} (hr : RepA F a α) (e : guardAV ops α g = some c) : RepA F a (α.known ops g c) := by
 unfold AAct.known
 cases g with
 | none => exact hr
 | some g =>
  obtain ⟨j, want⟩ := g
  simp only [guardAV] at e
  simp only
  cases hd : (ops[j]?).bind (·.dst) with
  | none => exact hr
  | some d =>
   rw [hd] at e
   simp only at e
   simp only
   have h1 := hr.s.get d
   obtain ⟨y, hy⟩ : ∃ y, α.s.getD d .any = y := ⟨_, rfl⟩
   rw [hy] at e h1
   rw [hy]
   cases y with
   | bool b =>
    simp only [Option.some.injEq] at e
    refine ⟨hr.s.alter d ?_, hr.ds⟩
    rw [h1.bool_inv, ← e]
    have : (want == (b == want)) = b := by cases b <;> cases want <;> rfl
    rw [this]; exact .bool b
   | whn c' x =>
    cases x with
    | bool b =>
     simp only [Option.some.injEq] at e
     cases c with
     | false => exact hr
     | true =>
      refine ⟨hr.s.alter d ?_, hr.ds⟩
      simp only [Bool.and_eq_true] at e
      obtain ⟨e1, e2⟩ := e
      have e3 : b = want := by simpa using e2
      rw [(h1.whn_inv e1).bool_inv, e3]; exact .bool _
    | _ => exact hr
   | _ => exact hr
theorem rep_under {g : Option (Nat × Bool)} {c : Bool} {v : Value} {x : AV} (hc : c = true) (hr : Rep F v x) : Rep F v (x.under g c) := by
 cases g with
 | none => exact hr
 | some _ =>
  subst hc
  simp only [AV.under]
  cases hr <;> first
   | exact .whn _ _ _ (fun e => ‹_ → Rep _ _ _› (by simpa [AV.cond] using e)) (fun e => ‹_ → _ = undef› (by simpa [AV.cond] using e))
   | (refine .whn _ _ _ (fun _ => ?_) (fun e => by simp [AV.cond] at e); simp only [AV.body]; constructor <;> assumption)
theorem rep_skip {j : Nat × Bool} {x : AV} : Rep F undef (x.under (some j) false) := by
 simp only [AV.under]
 exact .whn _ _ _ (fun e => by simp at e) (fun _ => rfl)
theorem repL_args (hr : RepA F a α) (ts : Array TypeId) (xs : Array Operand) (hs : ts.size = xs.size) (ho : okL (argsA P α ts xs)) : RepL F (xs.map a.eval) ((argsA P α ts xs).map AV.val) := by
 have key : ∀ (ts : List TypeId) (xs : List Operand), ts.length = xs.length → okL (List.zipWith (fun t x => α.ev P t x) ts xs) →
   ∀ i, i < xs.length → Rep F ((xs.map a.eval).getD i undef) (((List.zipWith (fun t x => α.ev P t x) ts xs).map AV.val).getD i .any) := by
  intro ts
  induction ts with
  | nil => intro xs hl _ i hi; simp at hl; omega
  | cons t ts ih =>
   intro xs hl ho i hi
   cases xs with
   | nil => simp at hi
   | cons x xs =>
    simp only [List.zipWith_cons_cons, okL] at ho
    cases i with
    | zero => simpa using (hr.ev P t x).val ho.1
    | succ i => simpa using ih xs (by simpa using hl) ho.2 i (by simpa using hi)
 have hl : ts.toList.length = xs.toList.length := by simpa using hs
 refine ⟨by simp [argsA]; omega, fun i hi => ?_⟩
 have hi' : i < xs.toList.length := by simp [argsA] at hi; simp; omega
 have := key ts.toList xs.toList hl ho i hi'
 have h2 : i < xs.size := by simpa using hi'
 simp only [argsA]
 have h3 : (xs.map a.eval).getD i undef = (xs.toList.map a.eval).getD i undef := by
  simp [Array.getD, List.getD, h2]
 rw [h3]
 exact this
theorem callable_spec {f : FuncId} (hc : callable P f = true) : ∃ fn c, P.funcs[f]? = some fn ∧ (fn.name == "runtime.NumGoroutine") = false ∧ fn.body = some c := by
 unfold callable at hc
 split at hc
 ·rename_i fn hfn
  simp at hc
  cases hb : fn.body with
  | none => simp [hb] at hc
  | some c => exact ⟨fn, c, hfn, by simpa using hc.1, hb⟩
 ·cases hc
theorem run_callFunc {f : FuncId} (hc : callable P f = true) (args : Array Value) (w : World) : (callFunc f args).run P w = .ok (.enter f args) w := by
 obtain ⟨fn, c, h1, h2, h3⟩ := callable_spec hc
 unfold callFunc
 simp only [Sem.run_bind, run_program, Result.andThen_ok, h1, h2, h3, Option.isNone_some, Bool.false_eq_true, if_false, Sem.run_pure]
theorem Inv.setRow (hi : Inv w0 F w h) {b off : Nat} {cs vs : List AV} (hb : h b = some (.cells cs)) {us : Array Value} (hu : RepL F us vs) (h1 : ∀ j, j < vs.length → (us.getD j undef).oneCell' = true) (hn : off + vs.length ≤ cs.length) :
  ∃ w', (storeCells ⟨b, off, none⟩ us.toList).run P w = .ok () w' ∧ Inv w0 F w' (h.set b (.cells (splice cs off vs))) := by
 obtain ⟨hN, hF, arr, t, he, hs, hrep, hone⟩ := hi.blk b _ hb
 have hul : us.toList.length = vs.length := by simpa using hu.1
 have hus := hu.1
 have hone' : ∀ v ∈ us.toList, v.oneCell' = true := by
  intro v hv
  obtain ⟨j, hj, rfl⟩ := List.mem_iff_getElem.1 hv
  have hj' : j < us.size := by simpa using hj
  have := h1 j (by omega)
  simpa [Array.getD, hj'] using this
 have hrun := run_storeCells_at P b off t us.toList 0 arr w he (by simp only [Nat.add_zero]; omega) hone'
 simp only [Nat.add_zero] at hrun
 refine ⟨_, hrun, ?_⟩
 have hl : (arr.toList.take off ++ us.toList ++ arr.toList.drop (off + us.toList.length)).length = cs.length := by simp; omega
 have hgetD : ∀ i, i < cs.length → (arr.toList.take off ++ us.toList ++ arr.toList.drop (off + us.toList.length)).toArray.getD i undef = if off ≤ i ∧ i < off + vs.length then us.getD (i - off) undef else arr.getD i undef := by
  intro i hi'
  have hia : i < arr.size := by omega
  have e0 : (arr.toList.take off ++ us.toList ++ arr.toList.drop (off + us.toList.length)).toArray.getD i undef = ((arr.toList.take off ++ us.toList ++ arr.toList.drop (off + us.toList.length))[i]?).getD undef := by
   simp [Array.getD]
   split
   ·rename_i hh; rw [List.getElem?_eq_getElem (by simpa using hh)]; rfl
   ·rename_i hh; rw [List.getElem?_eq_none (by simp; omega)]; rfl
  rw [e0]
  by_cases c1 : i < off
  ·rw [if_neg (by omega), List.append_assoc, List.getElem?_append_left (by simp; omega)]
   simp [List.getElem?_take, c1, Array.getD, hia]
  ·by_cases c2 : i < off + vs.length
   ·have hiu : i - off < us.size := by rw [hu.1]; omega
    rw [if_pos (by omega), List.getElem?_append_left (by simp; omega), List.getElem?_append_right (by simp; omega)]
    have : i - min off arr.size = i - off := by omega
    simp [this, Array.getD, hiu]
   ·rw [if_neg (by omega), List.getElem?_append_right (by simp; omega)]
    have e2 : off + us.size + (i - (min off arr.size + us.size)) = i := by omega
    simp [List.getElem?_drop, e2, Array.getD, hia]
 refine ⟨⟨hi.below.os, hi.below.tape, hi.below.output, by rw [size_setRow]; exact hi.below.size, hi.below.lt, fun k hk => ?_⟩, fun b' o' v' e => ?_, hi.fin0, fun b' x' e => ?_⟩
 ·rw [setRow_other w b k _ (fun e => hN (e ▸ hk))]; exact hi.below.block k hk
 ·have h2 := hi.fin b' o' v' e
  have hne : b' ≠ b := fun e' => by rw [e', hF] at e; cases e
  exact ⟨by rw [World.cell?_of_block (w := w) (setRow_other w b b' _ hne)]; exact h2.1, h2.2⟩
 ·by_cases hbb : b' = b
  ·subst hbb
   simp at e
   subst e
   refine ⟨hN, hF, _, t, setRow_heap w b' arr _ t _ he, by rw [splice_length _ _ _ hn, ← hl]; simp, ?_, ?_⟩
   ·intro i hi'
    rw [splice_length _ _ _ hn] at hi'
    rw [hgetD i hi', splice_getD _ _ _ hn i hi']
    split
    ·exact hu.2 (i - off) (by omega)
    ·exact hrep i hi'
   ·intro i hi'
    rw [splice_length _ _ _ hn] at hi'
    rw [hgetD i hi']
    split
    ·exact h1 (i - off) (by omega)
    ·exact hone i hi'
  ·rw [Heap.set_other _ _ _ _ hbb] at e
   have h2 := hi.blk b' x' e
   exact ⟨h2.1, h2.2.of_block (setRow_other w b b' _ hbb)⟩
theorem veff_sound {o : Oper} {K : AAct → Heap → Prop} (e : veff P o α h K) : AOp P o α h K := by
 intro w0 F a w next Q hi hr hK
 obtain ⟨dst, op, type, pos, after, guard⟩ := o
 unfold veff at e
 simp only at e
 split at e
 ·-- alloc
  rename_i T
  split at e
  ·rename_i z hz
   obtain ⟨i, zv, h1, h2, h3, h4, h5⟩ := zeroA_spec hz F
   have hrun : (execOp a.eval ⟨dst, .alloc T, type, pos, after, guard⟩).run P w = .ok (.value (.pointer (some ⟨w.heap.size, 0, none⟩))) (w.alloc (.cells zv.cells T)) := by
    simp [execOp, Instr.alloc, run_zeroValue h1 h2, newVar, newRow]
   unfold Oper.wp
   rw [hrun]
   have hf := hi.fresh
   exact hK F _ _ _ _ (.refl F) (hi.alloc zv.cells T z h4.1 h4.2 h5) (hr.put dst (.ptr _ _)) (e w.heap.size hf.1)
  ·exact e.elim
 ·-- box
  rename_i T x
  obtain ⟨e1, e2, e3⟩ := e
  have hv := (hr.ev P T x).val e1
  have hc := repL_cells hv e2
  have hrun : (execOp a.eval ⟨dst, .box T x, type, pos, after, guard⟩).run P w = .ok (.value (.pointer (some ⟨w.heap.size, 0, none⟩))) (w.alloc (.cells (a.eval x).cells T)) := by
   simp [execOp, Instr.box, newVar, newRow]
  unfold Oper.wp
  rw [hrun]
  have hf := hi.fresh
  exact hK F _ _ _ _ (.refl F) (hi.alloc _ T _ hc.1.1 hc.1.2 hc.2) (hr.put dst (.ptr _ _)) (e3 w.heap.size hf.1)
 ·-- store
  rename_i T ad x
  split at e
  ·rename_i n ag b off ht ha
   split at e
   ·rename_i cs hb
    obtain ⟨e1, e2, e3, e4, e5⟩ := e
    have hv := (hr.ev P T x).val e1
    have hc := repL_cells hv e4
    have had := hr.ev P 0 ad
    rw [ha] at had
    obtain ⟨w', r1, r2⟩ := hi.setRow (P := P) (off := off) hb hc.1 hc.2 (by rw [e2]; exact e3)
    have hrun : (execOp a.eval ⟨dst, .store T ad x, type, pos, after, guard⟩).run P w = .ok .skip w' := by
     have hsz : (a.eval x).cells.size = n := by rw [hc.1.1, e2]
     simp only [execOp, Instr.storeAt, Instr.sureAddr, had.ptr_inv, storeVar, Sem.run_bind, Sem.run_pure, Result.andThen_ok, run_sizeOf' ht]
     rw [if_neg (by omega)]
     rw [r1]
     rfl
    unfold Oper.wp
    rw [hrun]
    exact hK F _ _ _ _ (.refl F) r2 (hr.put dst (.any _)) e5
   ·exact e.elim
  ·exact e.elim
 ·-- a call
  rename_i f args argTypes
  obtain ⟨e1, e2, e3, e4⟩ := e
  have hrun : (execOp a.eval ⟨dst, .call { callee := .value (.func f), args, argTypes }, type, pos, after, guard⟩).run P w = .ok (.enter f (args.map a.eval)) w := by
   have := run_callFunc e1 (args.map a.eval) w
   simp [execOp, resolve, invoke, Deferred.ofValue, Act.eval, this]
  unfold Oper.wp
  rw [hrun]
  refine (e4 w0 F w _ hi (repL_args hr argTypes args e2 e3)).mono ?_
  rintro _ w' ⟨v, F', x, h', rfl, m1, m2, m3, m4⟩
  exact hK F' _ h' _ w' m1 m2 ((hr.mono m1).put dst m3) m4
 ·-- a call of a function value
  rename_i t args argTypes
  split at e
  ·rename_i f caps hf
   obtain ⟨e0, e1, e2, e3, e4⟩ := e
   have hv := (hr.s.get t).val e0
   rw [hf] at hv
   obtain ⟨cs, hev, hcs⟩ := hv.fn_inv
   have hrun : (execOp a.eval ⟨dst, .call { callee := .value (.tmp t), args, argTypes }, type, pos, after, guard⟩).run P w = .ok (.enter f (args.map a.eval ++ cs)) w := by
    have := run_callFunc e1 (args.map a.eval ++ cs) w
    have h2 : a.eval (.tmp t) = .func (.func f) #[] cs := hev
    simp [execOp, resolve, invoke, Deferred.ofValue, h2, this]
   unfold Oper.wp
   rw [hrun]
   have hl : RepL F (args.map a.eval ++ cs) ((argsA P α argTypes args).map AV.val ++ caps) := by
    have ha := repL_args hr argTypes args e2 e3
    refine ⟨by simp [ha.1, hcs.1], fun i hi' => ?_⟩
    have hs := ha.1
    by_cases hlt : i < (args.map a.eval).size
    ·have h1 := ha.2 i (by omega)
     have e1' : (args.map a.eval ++ cs).getD i undef = (args.map a.eval).getD i undef := by
      rw [Array.getD_eq_getD_getElem?, Array.getD_eq_getD_getElem?, Array.getElem?_append_left hlt]
     have e2' : ((argsA P α argTypes args).map AV.val ++ caps).getD i .any = ((argsA P α argTypes args).map AV.val).getD i .any := by
      simp only [List.getD]; rw [List.getElem?_append_left (by omega)]
     rw [e1', e2']; exact h1
    ·have hi2 : i - (args.map a.eval).size < caps.length := by simp only [List.length_append] at hi'; omega
     have h1 := hcs.2 (i - (args.map a.eval).size) hi2
     have e1' : (args.map a.eval ++ cs).getD i undef = cs.getD (i - (args.map a.eval).size) undef := by
      rw [Array.getD_eq_getD_getElem?, Array.getD_eq_getD_getElem?, Array.getElem?_append_right (by omega)]
     have e2' : ((argsA P α argTypes args).map AV.val ++ caps).getD i .any = caps.getD (i - (args.map a.eval).size) .any := by
      simp only [List.getD]; rw [List.getElem?_append_right (by omega), hs]
     rw [e1', e2']; exact h1
   refine (e4 w0 F w _ hi hl).mono ?_
   rintro _ w' ⟨v, F', x, h', rfl, m1, m2, m3, m4⟩
   exact hK F' _ h' _ w' m1 m2 ((hr.mono m1).put dst m3) m4
  ·exact e.elim
 ·-- a slice's literal
  rename_i t n parts
  unfold litK at e
  split at e
  ·rename_i el sz hel
   obtain ⟨e1, e2, e3, e4, e5, e6⟩ := e
   have hsound := buildSlice_sound (n := n) (vs := parts.map fun p => (p.1, a.eval p.2)) hi hel e1 e2 (by simp [litParts]) (fun k hk => by
    simp [litParts] at hk
    simp only [litParts, Array.toList_map, List.getD, List.getElem?_map]
    have hk' : k < parts.toList.length := by simpa using hk
    rw [List.getElem?_eq_getElem hk']
    exact ⟨rfl, hr.ev P el _⟩) e3 e4 e5
   obtain ⟨v', w', F', r1, r2, r3, r4⟩ := hsound
   have hrun : (execOp a.eval ⟨dst, .buildSlice t n parts, type, pos, after, guard⟩).run P w = .ok (.value v') w' := by
    simp [execOp, r1]
   unfold Oper.wp
   rw [hrun]
   exact hK F' _ _ _ _ r2 r3 ((hr.mono r2).put dst r4) e6
  ·exact e.elim
 ·-- nil or not
  rename_i op t x y yt
  obtain ⟨e1, e2⟩ := e
  obtain ⟨b, hb, hrun⟩ := nilQ_sound (ox := x) (oy := y) e1 (hr.ev P t x) (hr.ev P t y)
  have hrun' : (execOp a.eval ⟨dst, .binOp op t x y yt, type, pos, after, guard⟩).run P w = .ok (.value (.bool (notB op b))) w := by
   simp only [execOp]; rw [Sem.run_bind, hrun]; rfl
  unfold Oper.wp
  rw [hrun']
  exact hK F _ _ _ _ (.refl F) hi (hr.put dst (.bool _)) (e2 b hb)
 ·-- make
  rename_i t l c
  unfold makeK at e
  split at e
  ·rename_i el sz bytes hel hby
   obtain ⟨e1, e2, e3⟩ := e
   have rl := (hr.ev P 0 l).val e1
   have rc := (hr.ev P 0 c).val e2
   unfold makeL at e3
   split at e3
   ·rename_i kl l' kc c' hl hc
    split at e3
    ·rename_i z hz
     obtain ⟨k1, k2, k3, k4, k5⟩ := e3
     rw [hl] at rl
     rw [hc] at rc
     have rl' : a.eval l = .int kl l' := by generalize a.eval l = v at rl; cases rl; rfl
     have rc' : a.eval c = .int kc c' := by generalize a.eval c = v at rc; cases rc; rfl
     obtain ⟨w', r1, r2⟩ := makeSlice_sound (kl := kl) (kc := kc) hi hel hby hz k1 k2 k3 k4
     have hf := hi.fresh
     have hrun : (execOp a.eval ⟨dst, .makeSlice t l c, type, pos, after, guard⟩).run P w = .ok (.value (.slice (some ⟨w.heap.size, 0, none⟩) l'.toNat c'.toNat)) w' := by
      simp [execOp, rl', rc', r1]
     unfold Oper.wp
     rw [hrun]
     rcases k5 with k5 | ⟨rfl, k5⟩
     ·exact hK F _ _ _ _ (.refl F) r2 (hr.put dst (.arr _ _ _ _)) (k5 w.heap.size hf.1)
     ·have hsz : (List.replicate c'.toNat z).flatten.length = c'.toNat * sz := by
       obtain ⟨i, h1, h2, h3⟩ := elemT_slice hel
       obtain ⟨i', zv, q1, q2, q3, q4, q5⟩ := zeroA_spec hz F
       have : i' = i := Option.some.inj (q1.symm.trans h2)
       subst this
       simp [← q3, h3]
      have hb := r2.blk w.heap.size _ (Heap.set_same _ _ _)
      obtain ⟨hN, hFb, arr, t', hg, hs, -, -⟩ := hb
      have hinv : Inv w0 F w' (h.set w.heap.size (.spare 0 (c'.toNat * sz))) := ⟨r2.below, r2.fin, r2.fin0, fun b x hx => by
       by_cases hbb : b = w.heap.size
       ·subst hbb
        simp at hx
        subst hx
        exact ⟨hN, fun o _ => hFb o, arr, t', hg, by rw [hs, hsz], Nat.zero_le _⟩
       ·rw [Heap.set_other _ _ _ _ hbb] at hx
        exact r2.blk b x (by rw [Heap.set_other _ _ _ _ hbb]; exact hx)⟩
      refine hK F _ _ _ _ (.refl F) hinv (hr.put dst ?_) (k5 w.heap.size hf.1)
      exact Rep.mk_list (rows := []) (fun _ => undef) (by simp) (Nat.zero_le _) (fun q hq => by simp at hq) ⟨rfl, rfl, by simp, rfl⟩
    ·exact e3.elim
   ·exact e3.elim
  ·exact e.elim
 ·-- append
  rename_i args argTypes
  split at e
  ·rename_i x y t t' ha ht
   obtain ⟨rfl, e⟩ := e
   unfold appendK at e
   split at e
   ·rename_i el sz bytes hel hby
    obtain ⟨e1, e2, e3⟩ := e
    have rx := (hr.ev P t' x).val e1
    have ry := (hr.ev P t' y).val e2
    have ha' : args = #[x, y] := Array.toList_inj.1 ha
    have ht' : argTypes = #[t', t'] := Array.toList_inj.1 ht
    subst ha' ht'
    unfold appendL at e3
    split at e3
    ·rename_i s1 rows tok s2 rows2 tok2 hx hy
     obtain ⟨-, rfl, rfl, k3, k4, k5, k6, k7, k8⟩ := e3
     rw [hx] at rx
     rw [hy] at ry
     obtain ⟨i, h1, h2, h3⟩ := elemT_slice hel
     obtain ⟨z, hz⟩ := Option.isSome_iff_exists.1 k4
     obtain ⟨i', zv, q1, q2, q3, q4, q5⟩ := zeroA_spec hz F
     have : i' = i := Option.some.inj (q1.symm.trans h2)
     subst this
     have hby' : i'.bytes = bytes := by
      unfold elBytes at hby
      simpa [h1, h2] using hby
     subst hby'
     have hcall : ∀ v' w', (Builtin.append_ #[t', t'] type #[a.eval x, a.eval y]).run P w = .ok v' w' → (execOp a.eval ⟨dst, .call { callee := .builtin .append, args := #[x, y], argTypes := #[t', t'] }, type, pos, after, guard⟩).run P w = .ok (.value v') w' := by
      intro v' w' hrun
      simp only [execOp, resolve, invoke, builtin]
      simp [hrun]
     have hzsz : zv.cells.size = s2 := by rw [q4.1, ← q3, h3]
     by_cases hne : rows2 = []
     ·rcases append_sound (ty := type) hi h1 h2 q2 hzsz h3 k3 rx ry k5 k6 (fun h => absurd hne h) with ⟨hnil, hrun⟩ | ⟨hne', _⟩
      ·unfold Oper.wp
       rw [hcall _ _ hrun]
       exact hK F _ _ _ _ (.refl F) hi (hr.put dst rx) (k7 hnil)
      ·exact absurd hne hne'
     ·rcases k8 hne with ⟨k9, k10⟩ | ⟨k9, k10⟩
      ·rcases append_sound (ty := type) hi h1 h2 q2 hzsz h3 k3 rx ry k5 k6 (fun _ => k9) with ⟨hnil, hrun⟩ | ⟨_, v', w', hrun, F', b, k, e', m1, m2, m3, m4⟩
       ·exact absurd hnil hne
       ·unfold Oper.wp
        rw [hcall _ _ hrun]
        exact hK F' _ _ _ _ m1 m3 ((hr.mono m1).put dst m4) (k10 b k e' m2)
      ·obtain ⟨v', w', hrun, b, c, m1, m2, m3, m4⟩ := append_sound_arr (ty := type) hi h1 h2 q2 hzsz (fun j hj => q5 j (by rw [← q4.1]; exact hj)) h3 rx ry k5 k6 k9 hne
       unfold Oper.wp
       rw [hcall _ _ hrun]
       subst m4
       exact hK F _ _ _ _ (.refl F) m3 (hr.put dst (.arr _ _ _ _)) (k10 b c m1 m2)
    ·exact e3.elim
   ·exact e.elim
  ·exact e.elim
 ·-- a deferred call
  rename_i f args argTypes
  obtain ⟨e1, e2, e3, e4⟩ := e
  have hrun : (execOp a.eval ⟨dst, .defer { callee := .value (.func f), args, argTypes }, type, pos, after, guard⟩).run P w = .ok (.defer { target := .fn (.func f) #[], args := args.map a.eval }) w := by
   simp [execOp, resolve, Deferred.ofValue, Act.eval]
  unfold Oper.wp
  rw [hrun]
  have hds : RepA F { a with defers := { target := .fn (.func f) #[], args := args.map a.eval } :: a.defers } { α with ds := (f, (argsA P α argTypes args).map AV.val) :: α.ds } :=
   ⟨hr.s, .cons f _ _ _ _ (repL_args hr argTypes args e2 e3) hr.ds⟩
  exact hK F _ h _ w (.refl F) hi (hds.put dst (.any _)) e4
 ·exact e.elim
end
end Go.AL

