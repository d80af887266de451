/-
  The abstract logic, 4: the operations that leave the world alone, all of them.
-/
import Derived.Test.YtgcpgoggngkbjaaDoorAL3
import Derived.Laws.Slices
import Derived.Laws.Cover3
import Derived.Lib.SliceRun
set_option linter.unusedSimpArgs false
set_option linter.unusedVariables false
namespace Go.AL
open Go Go.RowKit

/-! ### Zero values -/

def leafs (P : Program) : Nat → TypeId → List TypeId
  | 0, t => [t]
  | n + 1, t => match P.underlying t with
    | some (.struct fs) => (fs.toList.map fun f => leafs P n f.type).flatten
    | some (.array m e) => (List.replicate m (leafs P n e)).flatten
    | _ => [t]

def zeroA (P : Program) (t : TypeId) : Option (List AV) :=
  match P.info? t with
  | some i => match i.zero with
    | some z => let l := leafs P 12 t
      if l.length = z.cells.size ∧ i.size = z.cells.size ∧ z.cells.all Value.oneCell' then some (List.zipWith (absC P) l z.cells.toList) else none
    | none => none
  | none => none

section
variable {P : Program} {w0 : Base} {w : World} {F : Fin} {h : Heap}

theorem zeroA_spec {t : TypeId} {xs : List AV} (e : zeroA P t = some xs) (F : Fin) :
    ∃ i z, P.info? t = some i ∧ i.zero = some z ∧ i.size = xs.length ∧ RepL F z.cells xs ∧ ∀ j, j < xs.length → (z.cells.getD j undef).oneCell' = true := by
  unfold zeroA at e
  split at e
  · rename_i i hi
    split at e
    · rename_i z hz
      simp only at e
      split at e
      · rename_i hl
        injection e with e
        subst e
        refine ⟨i, z, hi, hz, by simp; omega, ⟨by simp; omega, fun j hj => ?_⟩, fun j hj => ?_⟩
        · simp at hj
          have h1 : j < (leafs P 12 t).length := by omega
          have h2 : j < z.cells.size := by omega
          have h3 : (List.zipWith (absC P) (leafs P 12 t) z.cells.toList)[j]? = some (absC P (leafs P 12 t)[j] z.cells[j]) := by
            simp [List.getElem?_zipWith, h1, h2]
          simp only [Array.getD, h2, List.getD, h3]
          exact absC_rep P _ F _
        · simp at hj
          have h2 : j < z.cells.size := by omega
          have h3 := Array.all_eq_true.1 hl.2.2 j h2
          simp [Array.getD, h2, h3]
      · cases e
    · cases e
  · cases e

theorem run_zeroValue {t : TypeId} {i : TypeInfo} {z : Value} (hi : P.info? t = some i) (hz : i.zero = some z) (w : World) : (zeroValue t).run P w = .ok z w := by
  simp [zeroValue, typeInfo, hi, hz]

/-! ### The operators -/

inductive FK where | int | bool | str
def fkT (P : Program) (t : TypeId) : Option FK :=
  match P.underlying t with
  | some (.int _) => some .int
  | some .bool => some .bool
  | some .string => some .str
  | _ => none
/-- The kinds of a flat struct's fields. -/
def flatGo (P : Program) : Nat → List Field → Option (List FK)
  | _, [] => some []
  | n, f :: fs => if f.name ≠ "_" ∧ f.offset = n then (match fkT P f.type, flatGo P (n + 1) fs with
      | some k, some ks => some (k :: ks)
      | _, _ => none) else none
def flatK (P : Program) (t : TypeId) : Option (List FK) :=
  match P.underlying t with
  | some (.struct fs) => if P.stoodInHeld t = false ∧ P.eqGuardType P.depth t = false then flatGo P 0 fs.toList else none
  | _ => none

def eqAV : FK → AV → AV → Option Bool
  | .int, .int k a, .int k' b => if k = k' then some (decide (a = b)) else none
  | .bool, .bool a, .bool b => some (a == b)
  | .str, .str a, .str b => some (decide (a = b))
  | _, _, _ => none

def eqAVs : List FK → List AV → List AV → Option Bool
  | [], [], [] => some true
  | k :: ks, x :: xs, y :: ys => match eqAV k x y, eqAVs ks xs ys with
    | some a, some b => some (a && b)
    | _, _ => none
  | _, _, _ => none

def eqOp (op : BinOp) (b : Bool) : Prop × AV :=
  match op with
  | .eql => (True, .bool b)
  | .neq => (True, .bool (!b))
  | _ => (False, .any)

def isPtrT (P : Program) (t : TypeId) : Bool := match P.underlying t with | some (.pointer _) => true | _ => false
def isBoolT (P : Program) (t : TypeId) : Bool := match P.underlying t with | some .bool => true | _ => false
def isSliceT (P : Program) (t : TypeId) : Bool := match P.underlying t with | some (.slice _) => true | _ => false

def isShift : BinOp → Bool | .shl | .shr => true | _ => false

def binAV (P : Program) (op : BinOp) (t : TypeId) (x y : AV) : Prop × AV :=
  match x, y with
  | .int k a, .int k' b =>
    if isShift op then
      (match op with
       | .shl => (0 ≤ b, .int k (k.wrap (a * 2 ^ (min b.toNat k.bits))))
       | _ => (0 ≤ b, .int k (a.fdiv (2 ^ (min b.toNat k.bits)))))
    else if k = k' then binInt op k a b else (False, .any)
  | .str a, .str b => binStr op a b
  | .bool a, .bool b => if isBoolT P t then eqOp op (a == b) else (False, .any)
  | .nilp, .nilp => if isPtrT P t then eqOp op true else (False, .any)
  | .ptr _ _, .nilp => if isPtrT P t then eqOp op false else (False, .any)
  | .vptr _, .nilp => if isPtrT P t then eqOp op false else (False, .any)
  | .list _ _ k, .list _ _ .nil => if isSliceT P t then (match k with
      | .nil => eqOp op true
      | .own _ _ _ => eqOp op false
      | _ => (False, .any)) else (False, .any)
  | .arr _ _ _ _, .list _ _ .nil => if isSliceT P t then eqOp op false else (False, .any)
  | .agg xs, .agg ys => (match flatK P t with | some ks => (match eqAVs ks xs ys with | some b => eqOp op b | none => (False, .any)) | none => (False, .any))
  | _, _ => (False, .any)

theorem eqGuard_plain {op : BinOp} {t : TypeId} {x y : Operand} {a b : Value} (ha : ∀ cs, a ≠ .agg cs) (hn : a ≠ .nilIface) (w : World) : (eqGuard op t x y a b).run P w = .ok () w := by
  cases a <;> first | exact absurd rfl (ha _) | exact absurd rfl hn | (cases op <;> cases b <;> rfl)

theorem pointee_of (t : TypeId) (h : isPtrT P t = true) : P.underlying t = some (.pointer (P.pointee t)) := by
  unfold isPtrT at h
  split at h
  · rename_i e he; simp [Program.pointee, he]
  · cases h

theorem eqOp_sound {op : BinOp} {b : Bool} {t : TypeId} {S : Prop} {x : AV} (e : eqOp op b = (S, x)) (hs : S) (F : Fin) {u v : Value}
    (h1 : ∀ w, (binOp .eql t u v).run P w = .ok (.bool b) w) (h2 : ∀ w, (binOp .neq t u v).run P w = .ok (.bool (!b)) w) :
    ∃ r, (∀ w, (binOp op t u v).run P w = .ok r w) ∧ Rep F r x := by
  cases op <;> simp only [eqOp] at e <;> injection e with e1 e2 <;> subst e2 <;> first
    | exact (e1 ▸ hs : False).elim
    | exact ⟨_, h1, .bool _⟩
    | exact ⟨_, h2, .bool _⟩

theorem fkT_spec {t : TypeId} {k : FK} (e : fkT P t = some k) (w : World) (cs : Array Value) (off : Nat) (v : Value) (hv : cs[off]? = some v) : (part t cs off).run P w = .ok v w := by
  unfold fkT at e
  unfold part isAgg
  split at e <;> first
    | (rename_i hu; simp [run_underlying hu, hv]; done)
    | (cases e; done)

theorem beq_decB (a b : List UInt8) : (a == b) = decide (a = b) := by by_cases e : a = b <;> simp [e]

theorem eqAV_sound {k : FK} {x y : AV} {b : Bool} (e : eqAV k x y = some b) {u v : Value} (hu : Rep F u x) (hv : Rep F v y) (d : Nat) {t : TypeId} (ht : fkT P t = some k) (w : World) :
    (Op.equalIn (d + 1) t u v).run P w = .ok b w := by
  unfold eqAV at e
  unfold fkT at ht
  split at e
  · rename_i k1 a k2 c
    split at e
    · rename_i hk
      subst hk
      injection e with e
      subst e
      cases hu; cases hv
      split at ht <;> first | (rename_i hd; rw [run_equalIn_int w d t _ _ a c hd, beq_dec]; done) | (cases ht; done)
    · cases e
  · injection e with e
    subst e
    cases hu; cases hv
    split at ht <;> first | (rename_i hd; exact run_equalIn_bool' w d t _ _ hd) | (cases ht; done)
  · injection e with e
    subst e
    obtain ⟨sa, rfl, rfl⟩ := hu.str_inv
    obtain ⟨sb, rfl, rfl⟩ := hv.str_inv
    split at ht <;> first
      | (rename_i hd
         rw [run_equalIn_string w d t _ _ hd]
         simp only [ByteArray.toList_eq]
         congr 1
         first | (by_cases e : sa.data.toList = sb.data.toList <;> simp [e]; done) | exact beq_decB _ _)
      | (cases ht; done)
  · cases e

theorem eqFields_sound (d : Nat) : ∀ (fs : List Field) (n : Nat) (ks : List FK) (xs ys : List AV) (b : Bool) (cs ds : Array Value),
    flatGo P n fs = some ks → eqAVs ks xs ys = some b → (∀ j, j < xs.length → ∃ v, cs[n + j]? = some v ∧ Rep F v (xs.getD j .any)) →
    (∀ j, j < ys.length → ∃ v, ds[n + j]? = some v ∧ Rep F v (ys.getD j .any)) → ∀ w, (Op.eqFields (d + 1) cs ds fs).run P w = .ok b w
  | [], n, ks, xs, ys, b, cs, ds, e1, e2, h1, h2, w => by
    simp only [flatGo] at e1
    injection e1 with e1
    subst e1
    cases xs <;> cases ys <;> simp [eqAVs] at e2
    subst e2
    simp [Op.eqFields]
  | f :: fs, n, ks, xs, ys, b, cs, ds, e1, e2, h1, h2, w => by
    simp only [flatGo] at e1
    split at e1
    · rename_i hf
      split at e1
      · rename_i k ks' hk hks
        injection e1 with e1
        subst e1
        cases xs with
        | nil => simp [eqAVs] at e2
        | cons x xs =>
          cases ys with
          | nil => simp [eqAVs] at e2
          | cons y ys =>
            simp only [eqAVs] at e2
            split at e2
            · rename_i a c ha hc
              injection e2 with e2
              subst e2
              obtain ⟨u, hu1, hu2⟩ := h1 0 (by simp)
              obtain ⟨v, hv1, hv2⟩ := h2 0 (by simp)
              simp only [Nat.add_zero] at hu1 hv1
              simp only [List.getD_cons_zero] at hu2 hv2
              have ih := eqFields_sound d fs (n + 1) ks' xs ys c cs ds hks hc
                (fun j hj => by have := h1 (j + 1) (by simp; omega); rw [show n + (j + 1) = n + 1 + j by omega] at this; simpa using this)
                (fun j hj => by have := h2 (j + 1) (by simp; omega); rw [show n + (j + 1) = n + 1 + j by omega] at this; simpa using this) w
              simp only [Op.eqFields]
              rw [if_pos hf.1]
              simp only [Sem.run_bind, hf.2, fkT_spec hk w cs n u hu1, fkT_spec hk w ds n v hv1, Result.andThen_ok, eqAV_sound ha hu2 hv2 d hk w]
              cases a
              · simp
              · simp [ih]
            · cases e2
      · cases e1
    · cases e1

theorem binAV_sound {op : BinOp} {t : TypeId} {ox oy : Operand} {x y : AV} {u v : Value} {S : Prop} {r : AV} (e : binAV P op t x y = (S, r)) (hs : S)
    (hu : Rep F u x) (hv : Rep F v y) :
    ∃ q, (∀ w, (do eqGuard op t ox oy u v; binOp op t u v : Sem Value).run P w = .ok q w) ∧ Rep F q r := by
  have key : (∀ w, (eqGuard op t ox oy u v).run P w = .ok () w) → (∃ q, (∀ w, (binOp op t u v).run P w = .ok q w) ∧ Rep F q r) →
      ∃ q, (∀ w, (do eqGuard op t ox oy u v; binOp op t u v : Sem Value).run P w = .ok q w) ∧ Rep F q r := by
    intro h1 ⟨q, h2, h3⟩
    exact ⟨q, fun w => by simp only [Sem.run_bind, h1, Result.andThen_ok, h2], h3⟩
  have bad : ∀ {T : Prop}, ((False, AV.any) : Prop × AV) = (S, r) → T := fun e => by
    injection e with e1 _; exact (e1 ▸ hs : False).elim
  unfold binAV at e
  split at e
  · rename_i k a k' b
    cases hu; cases hv
    refine key (eqGuard_plain (by simp) (by simp)) ?_
    split at e
    · rename_i hsh
      cases op <;> simp [isShift] at hsh <;> simp only at e <;> injection e with e1 e2 <;> subst e1 e2
      · exact ⟨_, fun w => by simp [binOp, Op.shift]; omega, .int _ _⟩
      · exact ⟨_, fun w => by simp [binOp, Op.shift]; omega, .int _ _⟩
    · rename_i hsh
      split at e
      · rename_i hk; subst hk; exact binInt_sound t e hs F
      · exact bad e
  · obtain ⟨sa, rfl, _⟩ := hu.str_inv
    exact key (eqGuard_plain (by simp) (by simp)) (binStr_sound t e hs hu hv)
  · rename_i a b
    cases hu; cases hv
    refine key (eqGuard_plain (by simp) (by simp)) ?_
    split at e
    · rename_i hb
      have hd : P.underlying t = some .bool := by
        unfold isBoolT at hb
        split at hb
        · assumption
        · cases hb
      exact eqOp_sound e hs F (fun w => run_eql_bool w t a b hd) (fun w => run_neq_bool w t a b hd)
    · exact bad e
  · cases hu; cases hv
    refine key (eqGuard_plain (by simp) (by simp)) ?_
    split at e
    · rename_i hb
      exact eqOp_sound e hs F (fun w => by rw [run_eql_pointer_nil (h := pointee_of t hb)]; rfl) (fun w => by rw [run_neq_pointer_nil (h := pointee_of t hb)]; rfl)
    · exact bad e
  · cases hu; cases hv
    refine key (eqGuard_plain (by simp) (by simp)) ?_
    split at e
    · rename_i hb
      exact eqOp_sound e hs F (fun w => by rw [run_eql_pointer_nil (h := pointee_of t hb)]; rfl) (fun w => by rw [run_neq_pointer_nil (h := pointee_of t hb)]; rfl)
    · exact bad e
  · cases hu; cases hv
    refine key (eqGuard_plain (by simp) (by simp)) ?_
    split at e
    · rename_i hb
      exact eqOp_sound e hs F (fun w => by rw [run_eql_pointer_nil (h := pointee_of t hb)]; rfl) (fun w => by rw [run_neq_pointer_nil (h := pointee_of t hb)]; rfl)
    · exact bad e
  · rename_i s1 r1 k s2 r2
    have hvn : v = .slice none 0 0 := by
      cases hv with
      | listNil => rfl
      | list b o cap sz n rows t cv hn hc hl h hr ht => exact ht.elim
    subst hvn
    split at e
    · rename_i hb
      obtain ⟨el, hel⟩ : ∃ el, P.underlying t = some (.slice el) := by
        unfold isSliceT at hb
        split at hb
        · exact ⟨_, ‹_›⟩
        · cases hb
      cases hu with
      | listNil =>
        refine key (eqGuard_plain (by simp) (by simp)) ?_
        exact eqOp_sound e hs F (fun w => Lib.run_eql_slice_nil w t _ none 0 0 0 0 hel) (fun w => run_neq_slice_nil w t _ none 0 0 hel)
      | listNo => exact bad e
      | listFull => exact bad e
      | listE => exact bad e
      | listEF => exact bad e
      | list b o cap sz n rows t cv hn hc hl h hr ht =>
        refine key (eqGuard_plain (by simp) (by simp)) ?_
        cases k with
        | no => exact bad e
        | nil => exact ht.elim
        | full => exact bad e
        | own b k e' => exact eqOp_sound e hs F (fun w => Lib.run_eql_slice_nil w _ _ (some _) _ _ 0 0 hel) (fun w => run_neq_slice_nil w _ _ (some _) _ _ hel)
    · exact bad e
  · have hvn : v = .slice none 0 0 := by
      cases hv with
      | listNil => rfl
      | list b o cap sz n rows t cv hn hc hl h hr ht => exact ht.elim
    subst hvn
    cases hu
    split at e
    · rename_i hb
      obtain ⟨el, hel⟩ : ∃ el, P.underlying t = some (.slice el) := by
        unfold isSliceT at hb
        split at hb
        · exact ⟨_, ‹_›⟩
        · cases hb
      refine key (eqGuard_plain (by simp) (by simp)) ?_
      exact eqOp_sound e hs F (fun w => Lib.run_eql_slice_nil w t _ (some _) _ _ 0 0 hel) (fun w => run_neq_slice_nil w t _ (some _) _ _ hel)
    · exact bad e
  · rename_i xs ys
    split at e
    · rename_i ks hks
      split at e
      · rename_i b hb
        obtain ⟨cs, rfl, hcs⟩ := hu.agg_inv
        obtain ⟨ds, rfl, hds⟩ := hv.agg_inv
        unfold flatK at hks
        split at hks
        · rename_i fs hfs
          split at hks
          · rename_i hp
            have hft : P.underlying t = some (.struct (P.fieldsOf t)) := by simp [Program.fieldsOf, hfs]
            have hfl : P.fieldsOf t = fs := by simp [Program.fieldsOf, hfs]
            refine key (fun w => run_eqGuard_agg w op t ox oy cs ds hp.2) ?_
            have hget : ∀ {cs : Array Value} {xs : List AV}, RepL F cs xs → ∀ j, j < xs.length → ∃ v, cs[0 + j]? = some v ∧ Rep F v (xs.getD j .any) := by
              intro cs xs hc j hj
              have h1 := hc.2 j hj
              have h2 : j < cs.size := by rw [hc.1]; exact hj
              refine ⟨cs[j], by simp [h2], ?_⟩
              simpa [Array.getD, h2] using h1
            have hrun : ∀ w, (Op.equalIn 10000 t (.agg cs) (.agg ds)).run P w = .ok b w := fun w => by
              rw [run_equalIn_agg w 9999 t cs ds hft hp.1, hfl]
              exact eqFields_sound 9998 fs.toList 0 ks xs ys b cs ds hks hb (hget hcs) (hget hds) w
            exact eqOp_sound e hs F (fun w => by rw [run_eql_struct, hrun]; rfl) (fun w => by rw [run_neq_struct, hrun]; rfl)
          · cases hks
        · cases hks
      · exact bad e
    · exact bad e
  · exact bad e

/-- A slice of which it isn't known whether it is nil, held against nil. -/
def nilQ (P : Program) (op : BinOp) (t : TypeId) (x y : AV) : Bool :=
  match op with
  | .eql | .neq => isSliceT P t && (match x, y with
    | .list _ _ .no, .list _ _ .nil | .list _ _ .full, .list _ _ .nil => true
    | _, _ => false)
  | _ => false
def rowsOf : AV → List (List AV)
  | .list _ rows _ => rows
  | _ => []
def notB (op : BinOp) (b : Bool) : Bool := match op with | .neq => !b | _ => b

theorem nilQ_sound {op : BinOp} {t : TypeId} {ox oy : Operand} {x y : AV} {u v : Value} (e : nilQ P op t x y = true) (hu : Rep F u x) (hv : Rep F v y) :
    ∃ b : Bool, (b = true → rowsOf x = []) ∧ ∀ w, (do eqGuard op t ox oy u v; binOp op t u v : Sem Value).run P w = .ok (.bool (notB op b)) w := by
  have main : ∀ k, (k = Tok.no ∨ k = Tok.full) → ∀ sz rows sz2 rows2, x = .list sz rows k → y = .list sz2 rows2 .nil → (op = .eql ∨ op = .neq) → isSliceT P t = true →
      ∃ b : Bool, (b = true → rowsOf x = []) ∧ ∀ w, (do eqGuard op t ox oy u v; binOp op t u v : Sem Value).run P w = .ok (.bool (notB op b)) w := by
    intro k hk sz rows sz2 rows2 hx hy hop hsl
    subst hx hy
    obtain ⟨el, hel⟩ : ∃ el, P.underlying t = some (.slice el) := by
      unfold isSliceT at hsl
      split at hsl
      · exact ⟨_, ‹_›⟩
      · cases hsl
    have hvn : v = .slice none 0 0 := by
      cases hv with
      | listNil => rfl
      | list b o cap sz n rows t cv hn hc hl h hr ht => exact ht.elim
    subst hvn
    have huv : ∃ a n c, u = .slice a n c ∧ (a.isNone = true → rows = []) := by
      cases hu with
      | listNil => exact ⟨_, _, _, rfl, fun _ => rfl⟩
      | listNo => exact ⟨_, _, _, rfl, fun _ => rfl⟩
      | listFull => exact ⟨_, _, _, rfl, fun _ => rfl⟩
      | listE => exact ⟨_, _, _, rfl, fun _ => rfl⟩
      | listEF => exact ⟨_, _, _, rfl, fun _ => rfl⟩
      | list b o cap sz n rows t cv hn hc hl h hr ht => exact ⟨_, _, _, rfl, fun h => by cases h⟩
    obtain ⟨a, n, c, rfl, ha⟩ := huv
    refine ⟨a.isNone, ha, fun w => ?_⟩
    simp only [Sem.run_bind, eqGuard_plain (a := Value.slice a n c) (by simp) (by simp), Result.andThen_ok]
    rcases hop with rfl | rfl
    · exact Lib.run_eql_slice_nil w t _ a n c 0 0 hel
    · exact run_neq_slice_nil w t _ a n c hel
  unfold nilQ at e
  split at e
  · simp at e
    obtain ⟨e1, e2⟩ := e
    split at e2
    · exact main .no (.inl rfl) _ _ _ _ rfl rfl (.inl rfl) e1
    · exact main .full (.inr rfl) _ _ _ _ rfl rfl (.inl rfl) e1
    · cases e2
  · simp at e
    obtain ⟨e1, e2⟩ := e
    split at e2
    · exact main .no (.inl rfl) _ _ _ _ rfl rfl (.inr rfl) e1
    · exact main .full (.inr rfl) _ _ _ _ rfl rfl (.inr rfl) e1
    · cases e2
  · cases e

end
end Go.AL
