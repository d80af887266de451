import Derived.Test.YtcbgpjlcfkkdlaaGreatDoorQAC
set_option linter.unusedSimpArgs false
set_option linter.unusedVariables false
namespace Go.AL
open Go Go.RowKit
def guardAV (ops : Array Oper) (α : AAct) : Option (Nat × Bool) → Option Bool
  | none => some true
  | some (j, want) => match (ops[j]?).bind (·.dst) with
    | some d => match α.s.getD d .any with
      | .bool b => some (b == want)
      | .whn c (.bool b) => some (c && b == want)
      | .whn false _ => some false
      | _ => none
    | none => none
def AV.cond : AV → Bool
  | .whn c _ => c
  | _ => true
def AV.body : AV → AV
  | .whn _ y => y
  | x => x
def AV.under (g : Option (Nat × Bool)) (c : Bool) (x : AV) : AV := match g with
  | none => x
  | some _ => .whn (c && x.cond) x.body
def callable (P : Program) (f : FuncId) : Bool :=
  match P.funcs[f]? with
  | some fn => fn.name != "runtime.NumGoroutine" && fn.body.isSome
  | none => false
def okL : List AV → Prop
  | [] => True
  | x :: xs => x.ok ∧ okL xs
def argsA (P : Program) (α : AAct) (ts : Array TypeId) (xs : Array Operand) : List AV := List.zipWith (fun t x => α.ev P t x) ts.toList xs.toList
def Cont (K : AAct → Heap → Prop) (d : Option Tmp) (α : AAct) : AV → Heap → Prop := fun x h => K (α.put d x) h
def Fresh (h : Heap) (b : Nat) : Prop := h b = none
def Alloc (K : AAct → Heap → Prop) (d : Option Tmp) (α : AAct) (h : Heap) (z : List AV) : Prop := ∀ b, Fresh h b → K (α.put d (.ptr b 0)) (h.set b (.cells z))
def GrowK (K : AV → Heap → Prop) (h : Heap) (sz : Nat) (rows : List (List AV)) (tok : Tok) : Prop := ∀ b k e, SpareNew h tok b → K (.list sz rows (.own b k e)) ((tok.rid h).set b (.spare k e))
def GrowA (K : AV → Heap → Prop) (h : Heap) (sz : Nat) (rows : List (List AV)) (tok : Tok) : Prop := (tok = .nil ∨ tok = .full) ∧ ∀ b c, Fresh h b → rows.length ≤ c → K (.arr b 0 rows.length c) (h.set b (.cells (rows.flatten ++ List.replicate ((c - rows.length) * sz) .any)))
def NilK (K : AV → Heap → Prop) (h : Heap) (sz : Nat) (rows rows2 : List (List AV)) (tok : Tok) : Prop := (rows2 = [] → K (.list sz rows tok) h) ∧ (rows2 ≠ [] → (TokIn h tok ∧ GrowK K h sz (rows ++ rows2) tok) ∨ GrowA K h sz (rows ++ rows2) tok)
def appendL (n sz bytes : Nat) (z : Bool) (K : AV → Heap → Prop) (h : Heap) : AV → AV → Prop
  | .list s1 rows tok, .list s2 rows2 _ => n = 0 ∧ s1 = sz ∧ s2 = sz ∧ 0 < sz ∧ z = true ∧ (rows.length + rows2.length) * bytes ≤ 140737488355328 ∧ rows.length + rows2.length ≤ 9223372036854775807 ∧ NilK K h sz rows rows2 tok
  | _, _ => False
def appendK (P : Program) (t : TypeId) (x y : AV) (K : AV → Heap → Prop) (h : Heap) : Prop :=
  match elemT P t, elBytes P t with
  | some (.slice, el, sz), some bytes => x.ok ∧ y.ok ∧ appendL 0 sz bytes (zeroA P el).isSome K h x.val y.val
  | _, _ => False
def MakeK (K : AV → Heap → Prop) (h : Heap) (sz : Nat) (z : List AV) (l c : Int) : Prop :=
  (∀ b, Fresh h b → K (.arr b 0 l.toNat c.toNat) (h.set b (.cells (List.replicate c.toNat z).flatten))) ∨
  (l = 0 ∧ ∀ b, Fresh h b → K (.list sz [] (.own b 0 (c.toNat * sz))) (h.set b (.spare 0 (c.toNat * sz))))
def makeL (sz bytes : Nat) (z : Option (List AV)) (K : AV → Heap → Prop) (h : Heap) : AV → AV → Prop
  | .int _ l, .int _ c => match z with
    | some z => 0 ≤ l ∧ l ≤ c ∧ (bytes : Int) * c ≤ 281474976710656 ∧ c ≤ 9223372036854775807 ∧ MakeK K h sz z l c
    | none => False
  | _, _ => False
def makeK (P : Program) (t : TypeId) (x y : AV) (K : AV → Heap → Prop) (h : Heap) : Prop :=
  match elemT P t, elBytes P t with
  | some (.slice, el, sz), some bytes => x.ok ∧ y.ok ∧ makeL sz bytes (zeroA P el) K h x.val y.val
  | _, _ => False
def litParts (P : Program) (α : AAct) (el : TypeId) (parts : List (Nat × Operand)) : List (Nat × AV) := parts.map fun p => (p.1, α.ev P el p.2)
def litK (P : Program) (t : TypeId) (n : Nat) (parts : TypeId → List (Nat × AV)) (K : AV → Heap → Prop) (h : Heap) : Prop :=
  match elemT P t with
  | some (.slice, el, sz) => (zeroA P el).isSome = true ∧ n * sz ≤ 16777216 ∧ (fillA P t (parts el) (List.replicate (n * sz) .any)).1 ∧ (∀ c ∈ (fillA P t (parts el) (List.replicate (n * sz) .any)).2, c.isCell = true) ∧
      (fillA P t (parts el) (List.replicate (n * sz) .any)).2.length = n * sz ∧ K (.list sz (chunk n sz (fillA P t (parts el) (List.replicate (n * sz) .any)).2) .full) h
  | _ => False
def NilB (K : AV → Heap → Prop) (h : Heap) (op : BinOp) (rows : List (List AV)) : Prop := ∀ b : Bool, (b = true → rows = []) → K (.bool (notB op b)) h
def veff (P : Program) (o : Oper) (α : AAct) (h : Heap) (K : AAct → Heap → Prop) : Prop :=
  match o.op with
  | .alloc T => match zeroA P T with
    | some z => Alloc K o.dst α h z
    | none => False
  | .box T x => (α.ev P T x).ok ∧ (∀ c ∈ (α.ev P T x).val.cells, c.isCell = true) ∧ Alloc K o.dst α h (α.ev P T x).val.cells
  | .store T a x => match tinfo P T, α.ev P 0 a with
    | some (n, _), .ptr b off => match h b with
      | some (.cells cs) => (α.ev P T x).ok ∧ (α.ev P T x).val.cells.length = n ∧ off + n ≤ cs.length ∧ (∀ c ∈ (α.ev P T x).val.cells, c.isCell = true) ∧
          K (α.put o.dst .any) (h.set b (.cells (splice cs off (α.ev P T x).val.cells)))
      | _ => False
    | _, _ => False
  | .call { callee := .value (.func f), args, argTypes } => callable P f = true ∧ argTypes.size = args.size ∧ okL (argsA P α argTypes args) ∧
      ACalls P f ((argsA P α argTypes args).map AV.val) h (Cont K o.dst α)
  | .call { callee := .value (.tmp t), args, argTypes } => match (α.s.getD t .any).val with
    | .fn f caps => (α.s.getD t .any).ok ∧ callable P f = true ∧ argTypes.size = args.size ∧ okL (argsA P α argTypes args) ∧
      ACalls P f ((argsA P α argTypes args).map AV.val ++ caps) h (Cont K o.dst α)
    | _ => False
  | .buildSlice t n parts => litK P t n (fun el => litParts P α el parts.toList) (Cont K o.dst α) h
  | .binOp op t x y _ => nilQ P op t (α.ev P t x) (α.ev P t y) = true ∧ NilB (Cont K o.dst α) h op (rowsOf (α.ev P t x))
  | .makeSlice t l c => makeK P t (α.ev P 0 l) (α.ev P 0 c) (Cont K o.dst α) h
  | .call { callee := .builtin .append, args, argTypes } => match args.toList, argTypes.toList with
    | [x, y], [t, t'] => t' = t ∧ appendK P t (α.ev P t x) (α.ev P t y) (Cont K o.dst α) h
    | _, _ => False
  | .defer { callee := .value (.func f), args, argTypes } => callable P f = true ∧ argTypes.size = args.size ∧ okL (argsA P α argTypes args) ∧
      K (({ α with ds := (f, (argsA P α argTypes args).map AV.val) :: α.ds } : AAct).put o.dst .any) h
  | _ => False
def AOp (P : Program) (o : Oper) (α : AAct) (h : Heap) (K : AAct → Heap → Prop) : Prop :=
  ∀ (w0 : Base) (F : Fin) (a : Act) (w : World) (next : Act → World → Prop) (Q : Exit → Act → World → Prop), Inv w0 F w h → RepA F a α →
    (∀ F' α' h' a' w', Mono F F' → Inv w0 F' w' h' → RepA F' a' α' → K α' h' → next a' w') → o.wp P a w next Q
section
variable {P : Program} {w0 : Base} {w : World} {F : Fin} {h : Heap} {α : AAct} {a : Act}
theorem guard_sound {ops : Array Oper} {o : Oper} {c : Bool} (hr : RepA F a α) (e : guardAV ops α o.guard = some c) : Region.wanted o (yielded ops a.tmps) = c := by
  unfold Region.wanted
  cases hg : o.guard with
  | none => rw [hg] at e; simp [guardAV] at e; simp [e]
  | some g =>
    obtain ⟨j, want⟩ := g
    rw [hg] at e
    simp only [guardAV] at e
    simp only
    unfold yielded
    cases hd : (ops[j]?).bind (·.dst) with
    | none => rw [hd] at e; cases e
    | some d =>
      rw [hd] at e
      simp only at e
      simp only [Option.bind_some]
      have h1 := hr.s.get d
      by_cases hlt : d < α.s.length
      · have h2 : d < a.tmps.size := by rw [hr.s.1]; exact hlt
        have h3 : a.tmps[d]? = some (a.tmps.getD d undef) := by simp [Array.getD, h2]
        rw [h3]
        generalize a.tmps.getD d undef = v at h1
        generalize α.s.getD d .any = x at e h1
        split at e
        · injection e with e
          rw [h1.bool_inv]
          simp only
          rw [← e]
          rename_i b
          cases b <;> cases want <;> rfl
        · injection e with e
          rename_i c' b
          cases h1 with
          | whn c v x hh hf =>
            cases c'
            · rw [hf rfl, ← e]; cases b <;> cases want <;> rfl
            · rw [(hh rfl).bool_inv, ← e]; cases b <;> cases want <;> rfl
        · injection e with e
          cases h1 with
          | whn c v x hh hf => rw [hf rfl, ← e]; cases want <;> rfl
        · cases e
      · have : α.s.getD d .any = .any := by simp [List.getD, List.getElem?_eq_none (Nat.le_of_not_lt hlt)]
        rw [this] at e
        cases e
def AAct.known (ops : Array Oper) (α : AAct) (g : Option (Nat × Bool)) (c : Bool) : AAct :=
  match g with
  | none => α
  | some (j, want) => match (ops[j]?).bind (·.dst) with
    | some d => match α.s.getD d .any with
      | .bool _ => α.put (some d) (.bool (want == c))
      | .whn _ (.bool _) => if c then α.put (some d) (.bool want) else α
      | _ => α
    | none => α
theorem Rep.whn_inv {F : Fin} {v : Value} {c : Bool} {x : AV} (h : Rep F v (.whn c x)) (hc : c = true) : Rep F v x := by
  cases h with
  | whn c v x hh hf => exact hh hc
theorem RepL.alter {F : Fin} {cs : Array Value} {xs : List AV} (h : RepL F cs xs) (d : Nat) {x : AV} (hx : Rep F (cs.getD d undef) x) : RepL F cs (xs.set d x) := by
  refine ⟨by simp [h.1], fun i hi => ?_⟩
  simp at hi
  have h2 := h.2 i hi
  by_cases hd : d = i
  · subst hd
    simpa [List.getD, hi] using hx
  · simp [List.getD, hi, hd] at h2 ⊢
    exact h2
theorem RepA.known {ops : Array Oper} {g : Option (Nat × Bool)} {c : Bool} (hr : RepA F a α) (e : guardAV ops α g = some c) : RepA F a (α.known ops g c) := by
  unfold AAct.known
  cases g with
  | none => exact hr
  | some g =>
    obtain ⟨j, want⟩ := g
    simp only [guardAV] at e
    simp only
    cases hd : (ops[j]?).bind (·.dst) with
    | none => exact hr
    | some d =>
      rw [hd] at e
      simp only at e
      simp only
      have h1 := hr.s.get d
      obtain ⟨y, hy⟩ : ∃ y, α.s.getD d .any = y := ⟨_, rfl⟩
      rw [hy] at e h1
      rw [hy]
      cases y with
      | bool b =>
        simp only [Option.some.injEq] at e
        refine ⟨hr.s.alter d ?_, hr.ds⟩
        rw [h1.bool_inv, ← e]
        have : (want == (b == want)) = b := by cases b <;> cases want <;> rfl
        rw [this]; exact .bool b
      | whn c' x =>
        cases x with
        | bool b =>
          simp only [Option.some.injEq] at e
          cases c with
          | false => exact hr
          | true =>
            refine ⟨hr.s.alter d ?_, hr.ds⟩
            simp only [Bool.and_eq_true] at e
            obtain ⟨e1, e2⟩ := e
            have e3 : b = want := by simpa using e2
            rw [(h1.whn_inv e1).bool_inv, e3]; exact .bool _
        | _ => exact hr
      | _ => exact hr
theorem rep_under {g : Option (Nat × Bool)} {c : Bool} {v : Value} {x : AV} (hc : c = true) (hr : Rep F v x) : Rep F v (x.under g c) := by
  cases g with
  | none => exact hr
  | some _ =>
    subst hc
    simp only [AV.under]
    cases hr <;> first
      | exact .whn _ _ _ (fun e => ‹_ → Rep _ _ _› (by simpa [AV.cond] using e)) (fun e => ‹_ → _ = undef› (by simpa [AV.cond] using e))
      | (refine .whn _ _ _ (fun _ => ?_) (fun e => by simp [AV.cond] at e); simp only [AV.body]; constructor <;> assumption)
theorem rep_skip {j : Nat × Bool} {x : AV} : Rep F undef (x.under (some j) false) := by
  simp only [AV.under]
  exact .whn _ _ _ (fun e => by simp at e) (fun _ => rfl)
theorem repL_args (hr : RepA F a α) (ts : Array TypeId) (xs : Array Operand) (hs : ts.size = xs.size) (ho : okL (argsA P α ts xs)) : RepL F (xs.map a.eval) ((argsA P α ts xs).map AV.val) := by
  have key : ∀ (ts : List TypeId) (xs : List Operand), ts.length = xs.length → okL (List.zipWith (fun t x => α.ev P t x) ts xs) →
      ∀ i, i < xs.length → Rep F ((xs.map a.eval).getD i undef) (((List.zipWith (fun t x => α.ev P t x) ts xs).map AV.val).getD i .any) := by
    intro ts
    induction ts with
    | nil => intro xs hl _ i hi; simp at hl; omega
    | cons t ts ih =>
      intro xs hl ho i hi
      cases xs with
      | nil => simp at hi
      | cons x xs =>
        simp only [List.zipWith_cons_cons, okL] at ho
        cases i with
        | zero => simpa using (hr.ev P t x).val ho.1
        | succ i => simpa using ih xs (by simpa using hl) ho.2 i (by simpa using hi)
  have hl : ts.toList.length = xs.toList.length := by simpa using hs
  refine ⟨by simp [argsA]; omega, fun i hi => ?_⟩
  have hi' : i < xs.toList.length := by simp [argsA] at hi; simp; omega
  have := key ts.toList xs.toList hl ho i hi'
  have h2 : i < xs.size := by simpa using hi'
  simp only [argsA]
  have h3 : (xs.map a.eval).getD i undef = (xs.toList.map a.eval).getD i undef := by
    simp [Array.getD, List.getD, h2]
  rw [h3]
  exact this
theorem callable_spec {f : FuncId} (hc : callable P f = true) : ∃ fn c, P.funcs[f]? = some fn ∧ (fn.name == "runtime.NumGoroutine") = false ∧ fn.body = some c := by
  unfold callable at hc
  split at hc
  · rename_i fn hfn
    simp at hc
    cases hb : fn.body with
    | none => simp [hb] at hc
    | some c => exact ⟨fn, c, hfn, by simpa using hc.1, hb⟩
  · cases hc
theorem run_callFunc {f : FuncId} (hc : callable P f = true) (args : Array Value) (w : World) : (callFunc f args).run P w = .ok (.enter f args) w := by
  obtain ⟨fn, c, h1, h2, h3⟩ := callable_spec hc
  unfold callFunc
  simp only [Sem.run_bind, run_program, Result.andThen_ok, h1, h2, h3, Option.isNone_some, Bool.false_eq_true, if_false, Sem.run_pure]
theorem Inv.setRow (hi : Inv w0 F w h) {b off : Nat} {cs vs : List AV} (hb : h b = some (.cells cs)) {us : Array Value} (hu : RepL F us vs) (h1 : ∀ j, j < vs.length → (us.getD j undef).oneCell' = true) (hn : off + vs.length ≤ cs.length) :
    ∃ w', (storeCells ⟨b, off, none⟩ us.toList).run P w = .ok () w' ∧ Inv w0 F w' (h.set b (.cells (splice cs off vs))) := by
  obtain ⟨hN, hF, arr, t, he, hs, hrep, hone⟩ := hi.blk b _ hb
  have hul : us.toList.length = vs.length := by simpa using hu.1
  have hus := hu.1
  have hone' : ∀ v ∈ us.toList, v.oneCell' = true := by
    intro v hv
    obtain ⟨j, hj, rfl⟩ := List.mem_iff_getElem.1 hv
    have hj' : j < us.size := by simpa using hj
    have := h1 j (by omega)
    simpa [Array.getD, hj'] using this
  have hrun := run_storeCells_at P b off t us.toList 0 arr w he (by simp only [Nat.add_zero]; omega) hone'
  simp only [Nat.add_zero] at hrun
  refine ⟨_, hrun, ?_⟩
  have hl : (arr.toList.take off ++ us.toList ++ arr.toList.drop (off + us.toList.length)).length = cs.length := by simp; omega
  have hgetD : ∀ i, i < cs.length → (arr.toList.take off ++ us.toList ++ arr.toList.drop (off + us.toList.length)).toArray.getD i undef = if off ≤ i ∧ i < off + vs.length then us.getD (i - off) undef else arr.getD i undef := by
    intro i hi'
    have hia : i < arr.size := by omega
    have e0 : (arr.toList.take off ++ us.toList ++ arr.toList.drop (off + us.toList.length)).toArray.getD i undef = ((arr.toList.take off ++ us.toList ++ arr.toList.drop (off + us.toList.length))[i]?).getD undef := by
      simp [Array.getD]
      split
      · rename_i hh; rw [List.getElem?_eq_getElem (by simpa using hh)]; rfl
      · rename_i hh; rw [List.getElem?_eq_none (by simp; omega)]; rfl
    rw [e0]
    by_cases c1 : i < off
    · rw [if_neg (by omega), List.append_assoc, List.getElem?_append_left (by simp; omega)]
      simp [List.getElem?_take, c1, Array.getD, hia]
    · by_cases c2 : i < off + vs.length
      · have hiu : i - off < us.size := by rw [hu.1]; omega
        rw [if_pos (by omega), List.getElem?_append_left (by simp; omega), List.getElem?_append_right (by simp; omega)]
        have : i - min off arr.size = i - off := by omega
        simp [this, Array.getD, hiu]
      · rw [if_neg (by omega), List.getElem?_append_right (by simp; omega)]
        have e2 : off + us.size + (i - (min off arr.size + us.size)) = i := by omega
        simp [List.getElem?_drop, e2, Array.getD, hia]
  refine ⟨⟨hi.below.os, hi.below.tape, hi.below.output, by rw [size_setRow]; exact hi.below.size, hi.below.lt, fun k hk => ?_⟩, fun b' o' v' e => ?_, hi.fin0, fun b' x' e => ?_⟩
  · rw [setRow_other w b k _ (fun e => hN (e ▸ hk))]; exact hi.below.block k hk
  · have h2 := hi.fin b' o' v' e
    have hne : b' ≠ b := fun e' => by rw [e', hF] at e; cases e
    exact ⟨by rw [World.cell?_of_block (w := w) (setRow_other w b b' _ hne)]; exact h2.1, h2.2⟩
  · by_cases hbb : b' = b
    · subst hbb
      simp at e
      subst e
      refine ⟨hN, hF, _, t, setRow_heap w b' arr _ t _ he, by rw [splice_length _ _ _ hn, ← hl]; simp, ?_, ?_⟩
      · intro i hi'
        rw [splice_length _ _ _ hn] at hi'
        rw [hgetD i hi', splice_getD _ _ _ hn i hi']
        split
        · exact hu.2 (i - off) (by omega)
        · exact hrep i hi'
      · intro i hi'
        rw [splice_length _ _ _ hn] at hi'
        rw [hgetD i hi']
        split
        · exact h1 (i - off) (by omega)
        · exact hone i hi'
    · rw [Heap.set_other _ _ _ _ hbb] at e
      have h2 := hi.blk b' x' e
      exact ⟨h2.1, h2.2.of_block (setRow_other w b b' _ hbb)⟩
theorem veff_sound {o : Oper} {K : AAct → Heap → Prop} (e : veff P o α h K) : AOp P o α h K := by
  intro w0 F a w next Q hi hr hK
  obtain ⟨dst, op, type, pos, after, guard⟩ := o
  unfold veff at e
  simp only at e
  split at e
  · -- alloc
    rename_i T
    split at e
    · rename_i z hz
      obtain ⟨i, zv, h1, h2, h3, h4, h5⟩ := zeroA_spec hz F
      have hrun : (execOp a.eval ⟨dst, .alloc T, type, pos, after, guard⟩).run P w = .ok (.value (.pointer (some ⟨w.heap.size, 0, none⟩))) (w.alloc (.cells zv.cells T)) := by
        simp [execOp, Instr.alloc, run_zeroValue h1 h2, newVar, newRow]
      unfold Oper.wp
      rw [hrun]
      have hf := hi.fresh
      exact hK F _ _ _ _ (.refl F) (hi.alloc zv.cells T z h4.1 h4.2 h5) (hr.put dst (.ptr _ _)) (e w.heap.size hf.1)
    · exact e.elim
  · -- box
    rename_i T x
    obtain ⟨e1, e2, e3⟩ := e
    have hv := (hr.ev P T x).val e1
    have hc := repL_cells hv e2
    have hrun : (execOp a.eval ⟨dst, .box T x, type, pos, after, guard⟩).run P w = .ok (.value (.pointer (some ⟨w.heap.size, 0, none⟩))) (w.alloc (.cells (a.eval x).cells T)) := by
      simp [execOp, Instr.box, newVar, newRow]
    unfold Oper.wp
    rw [hrun]
    have hf := hi.fresh
    exact hK F _ _ _ _ (.refl F) (hi.alloc _ T _ hc.1.1 hc.1.2 hc.2) (hr.put dst (.ptr _ _)) (e3 w.heap.size hf.1)
  · -- store
    rename_i T ad x
    split at e
    · rename_i n ag b off ht ha
      split at e
      · rename_i cs hb
        obtain ⟨e1, e2, e3, e4, e5⟩ := e
        have hv := (hr.ev P T x).val e1
        have hc := repL_cells hv e4
        have had := hr.ev P 0 ad
        rw [ha] at had
        obtain ⟨w', r1, r2⟩ := hi.setRow (P := P) (off := off) hb hc.1 hc.2 (by rw [e2]; exact e3)
        have hrun : (execOp a.eval ⟨dst, .store T ad x, type, pos, after, guard⟩).run P w = .ok .skip w' := by
          have hsz : (a.eval x).cells.size = n := by rw [hc.1.1, e2]
          simp only [execOp, Instr.storeAt, Instr.sureAddr, had.ptr_inv, storeVar, Sem.run_bind, Sem.run_pure, Result.andThen_ok, run_sizeOf' ht]
          rw [if_neg (by omega)]
          rw [r1]
          rfl
        unfold Oper.wp
        rw [hrun]
        exact hK F _ _ _ _ (.refl F) r2 (hr.put dst (.any _)) e5
      · exact e.elim
    · exact e.elim
  · -- a call
    rename_i f args argTypes
    obtain ⟨e1, e2, e3, e4⟩ := e
    have hrun : (execOp a.eval ⟨dst, .call { callee := .value (.func f), args, argTypes }, type, pos, after, guard⟩).run P w = .ok (.enter f (args.map a.eval)) w := by
      have := run_callFunc e1 (args.map a.eval) w
      simp [execOp, resolve, invoke, Deferred.ofValue, Act.eval, this]
    unfold Oper.wp
    rw [hrun]
    refine (e4 w0 F w _ hi (repL_args hr argTypes args e2 e3)).mono ?_
    rintro _ w' ⟨v, F', x, h', rfl, m1, m2, m3, m4⟩
    exact hK F' _ h' _ w' m1 m2 ((hr.mono m1).put dst m3) m4
  · -- a call of a function value
    rename_i t args argTypes
    split at e
    · rename_i f caps hf
      obtain ⟨e0, e1, e2, e3, e4⟩ := e
      have hv := (hr.s.get t).val e0
      rw [hf] at hv
      obtain ⟨cs, hev, hcs⟩ := hv.fn_inv
      have hrun : (execOp a.eval ⟨dst, .call { callee := .value (.tmp t), args, argTypes }, type, pos, after, guard⟩).run P w = .ok (.enter f (args.map a.eval ++ cs)) w := by
        have := run_callFunc e1 (args.map a.eval ++ cs) w
        have h2 : a.eval (.tmp t) = .func (.func f) #[] cs := hev
        simp [execOp, resolve, invoke, Deferred.ofValue, h2, this]
      unfold Oper.wp
      rw [hrun]
      have hl : RepL F (args.map a.eval ++ cs) ((argsA P α argTypes args).map AV.val ++ caps) := by
        have ha := repL_args hr argTypes args e2 e3
        refine ⟨by simp [ha.1, hcs.1], fun i hi' => ?_⟩
        have hs := ha.1
        by_cases hlt : i < (args.map a.eval).size
        · have h1 := ha.2 i (by omega)
          have e1' : (args.map a.eval ++ cs).getD i undef = (args.map a.eval).getD i undef := by
            rw [Array.getD_eq_getD_getElem?, Array.getD_eq_getD_getElem?, Array.getElem?_append_left hlt]
          have e2' : ((argsA P α argTypes args).map AV.val ++ caps).getD i .any = ((argsA P α argTypes args).map AV.val).getD i .any := by
            simp only [List.getD]; rw [List.getElem?_append_left (by omega)]
          rw [e1', e2']; exact h1
        · have hi2 : i - (args.map a.eval).size < caps.length := by simp only [List.length_append] at hi'; omega
          have h1 := hcs.2 (i - (args.map a.eval).size) hi2
          have e1' : (args.map a.eval ++ cs).getD i undef = cs.getD (i - (args.map a.eval).size) undef := by
            rw [Array.getD_eq_getD_getElem?, Array.getD_eq_getD_getElem?, Array.getElem?_append_right (by omega)]
          have e2' : ((argsA P α argTypes args).map AV.val ++ caps).getD i .any = caps.getD (i - (args.map a.eval).size) .any := by
            simp only [List.getD]; rw [List.getElem?_append_right (by omega), hs]
          rw [e1', e2']; exact h1
      refine (e4 w0 F w _ hi hl).mono ?_
      rintro _ w' ⟨v, F', x, h', rfl, m1, m2, m3, m4⟩
      exact hK F' _ h' _ w' m1 m2 ((hr.mono m1).put dst m3) m4
    · exact e.elim
  · -- a slice's literal
    rename_i t n parts
    unfold litK at e
    split at e
    · rename_i el sz hel
      obtain ⟨e1, e2, e3, e4, e5, e6⟩ := e
      have hsound := buildSlice_sound (n := n) (vs := parts.map fun p => (p.1, a.eval p.2)) hi hel e1 e2 (by simp [litParts]) (fun k hk => by
        simp [litParts] at hk
        simp only [litParts, Array.toList_map, List.getD, List.getElem?_map]
        have hk' : k < parts.toList.length := by simpa using hk
        rw [List.getElem?_eq_getElem hk']
        exact ⟨rfl, hr.ev P el _⟩) e3 e4 e5
      obtain ⟨v', w', F', r1, r2, r3, r4⟩ := hsound
      have hrun : (execOp a.eval ⟨dst, .buildSlice t n parts, type, pos, after, guard⟩).run P w = .ok (.value v') w' := by
        simp [execOp, r1]
      unfold Oper.wp
      rw [hrun]
      exact hK F' _ _ _ _ r2 r3 ((hr.mono r2).put dst r4) e6
    · exact e.elim
  · -- nil or not
    rename_i op t x y yt
    obtain ⟨e1, e2⟩ := e
    obtain ⟨b, hb, hrun⟩ := nilQ_sound (ox := x) (oy := y) e1 (hr.ev P t x) (hr.ev P t y)
    have hrun' : (execOp a.eval ⟨dst, .binOp op t x y yt, type, pos, after, guard⟩).run P w = .ok (.value (.bool (notB op b))) w := by
      simp only [execOp]; rw [Sem.run_bind, hrun]; rfl
    unfold Oper.wp
    rw [hrun']
    exact hK F _ _ _ _ (.refl F) hi (hr.put dst (.bool _)) (e2 b hb)
  · -- make
    rename_i t l c
    unfold makeK at e
    split at e
    · rename_i el sz bytes hel hby
      obtain ⟨e1, e2, e3⟩ := e
      have rl := (hr.ev P 0 l).val e1
      have rc := (hr.ev P 0 c).val e2
      unfold makeL at e3
      split at e3
      · rename_i kl l' kc c' hl hc
        split at e3
        · rename_i z hz
          obtain ⟨k1, k2, k3, k4, k5⟩ := e3
          rw [hl] at rl
          rw [hc] at rc
          have rl' : a.eval l = .int kl l' := by generalize a.eval l = v at rl; cases rl; rfl
          have rc' : a.eval c = .int kc c' := by generalize a.eval c = v at rc; cases rc; rfl
          obtain ⟨w', r1, r2⟩ := makeSlice_sound (kl := kl) (kc := kc) hi hel hby hz k1 k2 k3 k4
          have hf := hi.fresh
          have hrun : (execOp a.eval ⟨dst, .makeSlice t l c, type, pos, after, guard⟩).run P w = .ok (.value (.slice (some ⟨w.heap.size, 0, none⟩) l'.toNat c'.toNat)) w' := by
            simp [execOp, rl', rc', r1]
          unfold Oper.wp
          rw [hrun]
          rcases k5 with k5 | ⟨rfl, k5⟩
          · exact hK F _ _ _ _ (.refl F) r2 (hr.put dst (.arr _ _ _ _)) (k5 w.heap.size hf.1)
          · have hsz : (List.replicate c'.toNat z).flatten.length = c'.toNat * sz := by
              obtain ⟨i, h1, h2, h3⟩ := elemT_slice hel
              obtain ⟨i', zv, q1, q2, q3, q4, q5⟩ := zeroA_spec hz F
              have : i' = i := Option.some.inj (q1.symm.trans h2)
              subst this
              simp [← q3, h3]
            have hb := r2.blk w.heap.size _ (Heap.set_same _ _ _)
            obtain ⟨hN, hFb, arr, t', hg, hs, -, -⟩ := hb
            have hinv : Inv w0 F w' (h.set w.heap.size (.spare 0 (c'.toNat * sz))) := ⟨r2.below, r2.fin, r2.fin0, fun b x hx => by
              by_cases hbb : b = w.heap.size
              · subst hbb
                simp at hx
                subst hx
                exact ⟨hN, fun o _ => hFb o, arr, t', hg, by rw [hs, hsz], Nat.zero_le _⟩
              · rw [Heap.set_other _ _ _ _ hbb] at hx
                exact r2.blk b x (by rw [Heap.set_other _ _ _ _ hbb]; exact hx)⟩
            refine hK F _ _ _ _ (.refl F) hinv (hr.put dst ?_) (k5 w.heap.size hf.1)
            exact Rep.mk_list (rows := []) (fun _ => undef) (by simp) (Nat.zero_le _) (fun q hq => by simp at hq) ⟨rfl, rfl, by simp, rfl⟩
        · exact e3.elim
      · exact e3.elim
    · exact e.elim
  · -- append
    rename_i args argTypes
    split at e
    · rename_i x y t t' ha ht
      obtain ⟨rfl, e⟩ := e
      unfold appendK at e
      split at e
      · rename_i el sz bytes hel hby
        obtain ⟨e1, e2, e3⟩ := e
        have rx := (hr.ev P t' x).val e1
        have ry := (hr.ev P t' y).val e2
        have ha' : args = #[x, y] := Array.toList_inj.1 ha
        have ht' : argTypes = #[t', t'] := Array.toList_inj.1 ht
        subst ha' ht'
        unfold appendL at e3
        split at e3
        · rename_i s1 rows tok s2 rows2 tok2 hx hy
          obtain ⟨-, rfl, rfl, k3, k4, k5, k6, k7, k8⟩ := e3
          rw [hx] at rx
          rw [hy] at ry
          obtain ⟨i, h1, h2, h3⟩ := elemT_slice hel
          obtain ⟨z, hz⟩ := Option.isSome_iff_exists.1 k4
          obtain ⟨i', zv, q1, q2, q3, q4, q5⟩ := zeroA_spec hz F
          have : i' = i := Option.some.inj (q1.symm.trans h2)
          subst this
          have hby' : i'.bytes = bytes := by
            unfold elBytes at hby
            simpa [h1, h2] using hby
          subst hby'
          have hcall : ∀ v' w', (Builtin.append_ #[t', t'] type #[a.eval x, a.eval y]).run P w = .ok v' w' → (execOp a.eval ⟨dst, .call { callee := .builtin .append, args := #[x, y], argTypes := #[t', t'] }, type, pos, after, guard⟩).run P w = .ok (.value v') w' := by
            intro v' w' hrun
            simp only [execOp, resolve, invoke, builtin]
            simp [hrun]
          have hzsz : zv.cells.size = s2 := by rw [q4.1, ← q3, h3]
          by_cases hne : rows2 = []
          · rcases append_sound (ty := type) hi h1 h2 q2 hzsz h3 k3 rx ry k5 k6 (fun h => absurd hne h) with ⟨hnil, hrun⟩ | ⟨hne', _⟩
            · unfold Oper.wp
              rw [hcall _ _ hrun]
              exact hK F _ _ _ _ (.refl F) hi (hr.put dst rx) (k7 hnil)
            · exact absurd hne hne'
          · rcases k8 hne with ⟨k9, k10⟩ | ⟨k9, k10⟩
            · rcases append_sound (ty := type) hi h1 h2 q2 hzsz h3 k3 rx ry k5 k6 (fun _ => k9) with ⟨hnil, hrun⟩ | ⟨_, v', w', hrun, F', b, k, e', m1, m2, m3, m4⟩
              · exact absurd hnil hne
              · unfold Oper.wp
                rw [hcall _ _ hrun]
                exact hK F' _ _ _ _ m1 m3 ((hr.mono m1).put dst m4) (k10 b k e' m2)
            · obtain ⟨v', w', hrun, b, c, m1, m2, m3, m4⟩ := append_sound_arr (ty := type) hi h1 h2 q2 hzsz (fun j hj => q5 j (by rw [← q4.1]; exact hj)) h3 rx ry k5 k6 k9 hne
              unfold Oper.wp
              rw [hcall _ _ hrun]
              subst m4
              exact hK F _ _ _ _ (.refl F) m3 (hr.put dst (.arr _ _ _ _)) (k10 b c m1 m2)
        · exact e3.elim
      · exact e.elim
    · exact e.elim
  · -- a deferred call
    rename_i f args argTypes
    obtain ⟨e1, e2, e3, e4⟩ := e
    have hrun : (execOp a.eval ⟨dst, .defer { callee := .value (.func f), args, argTypes }, type, pos, after, guard⟩).run P w = .ok (.defer { target := .fn (.func f) #[], args := args.map a.eval }) w := by
      simp [execOp, resolve, Deferred.ofValue, Act.eval]
    unfold Oper.wp
    rw [hrun]
    have hds : RepA F { a with defers := { target := .fn (.func f) #[], args := args.map a.eval } :: a.defers } { α with ds := (f, (argsA P α argTypes args).map AV.val) :: α.ds } :=
      ⟨hr.s, .cons f _ _ _ _ (repL_args hr argTypes args e2 e3) hr.ds⟩
    exact hK F _ h _ w (.refl F) hi (hds.put dst (.any _)) e4
  · exact e.elim
end
end Go.AL

