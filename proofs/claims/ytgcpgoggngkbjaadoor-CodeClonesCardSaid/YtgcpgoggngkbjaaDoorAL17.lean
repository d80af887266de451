/-
  The abstract logic, 17: a function that only looks may be called over what may still be written.
-/
import Derived.Test.YtgcpgoggngkbjaaDoorAL10
import Derived.Test.YtgcpgoggngkbjaaDoorAL7g
set_option linter.unusedSimpArgs false
set_option linter.unusedVariables false
namespace Go.AL
open Go Go.RowKit

/-- The value stands by itself. -/
inductive Flat : AV → Prop where
  | any : Flat .any
  | bool (b : Bool) : Flat (.bool b)
  | int (k : IntKind) (n : Int) : Flat (.int k n)
  | str (s : List UInt8) : Flat (.str s)
  | nilp : Flat .nilp
  | nilf : Flat .nilf
  | listNil (sz : Nat) : Flat (.list sz [] .nil)
  | agg (xs : List AV) (h : ∀ x ∈ xs, Flat x) : Flat (.agg xs)
  | tup (xs : List AV) (h : ∀ x ∈ xs, Flat x) : Flat (.tup xs)

theorem getD_mem {l : List AV} {i : Nat} (h : i < l.length) : l.getD i .any ∈ l := by
  simp only [List.getD, List.getElem?_eq_getElem h, Option.getD_some]
  exact List.getElem_mem h

theorem Rep.flat {F G : Fin} {v : Value} {x : AV} (hx : Flat x) : Rep F v x → Rep G v x := by
  induction hx generalizing v with
  | any => intro _; exact .any _
  | bool b => intro h; cases h; exact .bool _
  | int k n => intro h; cases h; exact .int _ _
  | str s => intro h; cases h; exact .str _ _ ‹_›
  | nilp => intro h; cases h; exact .nilp
  | nilf => intro h; cases h; exact .nilf
  | listNil sz =>
    intro h
    cases h with
    | listNil => exact .listNil _
    | list b o cap sz n rows t cv hn hc hl h hr ht => exact ht.elim
  | agg xs h ih =>
    intro hr
    cases hr with
    | agg cs xs hl hc => exact .agg cs xs hl fun i hi => ih _ (getD_mem hi) (hc i hi)
  | tup xs h ih =>
    intro hr
    cases hr with
    | tup cs xs hl hc => exact .tup cs xs hl fun i hi => ih _ (getD_mem hi) (hc i hi)

/-- What a value looks like while nobody writes. -/
inductive Deep (h : Heap) : AV → AV → Prop where
  | weak (x y : AV) (hw : Weak x y) : Deep h x y
  | arr (b off len cap sz : Nat) (rows : List (List AV)) (cs : List AV) (hb : h b = some (.cells cs)) (hl : off + len * sz ≤ cs.length) (hc : len ≤ cap) (hr : rows.length = len) (hsz : ∀ r ∈ rows, r.length = sz)
      (hd : ∀ i j, i < len → j < sz → Deep h (cs.getD (off + i * sz + j) .any) ((rows.getD i []).getD j .any)) : Deep h (.arr b off len cap) (.list sz rows .no)
  | agg (xs ys : List AV) (hl : xs.length = ys.length) (hd : ∀ i, i < ys.length → Deep h (xs.getD i .any) (ys.getD i .any)) : Deep h (.agg xs) (.agg ys)
  | ptr (b off : Nat) (row cs : List AV) (hb : h b = some (.cells cs)) (hl : off + row.length ≤ cs.length) (hd : ∀ j, j < row.length → Deep h (cs.getD (off + j) .any) (row.getD j .any)) : Deep h (.ptr b off) (.vptr row)
  | rows (sz : Nat) (rows rows' : List (List AV)) (hl : rows.length = rows'.length) (hsz : ∀ r ∈ rows', r.length = sz) (hd : ∀ i j, i < rows.length → j < sz → Deep h ((rows.getD i []).getD j .any) ((rows'.getD i []).getD j .any)) : Deep h (.list sz rows .no) (.list sz rows' .no)
  | tok (sz : Nat) (rows rows' : List (List AV)) (t : Tok) (hd : Deep h (.list sz rows .no) (.list sz rows' .no)) : Deep h (.list sz rows t) (.list sz rows' .no)

theorem Deep.refl (h : Heap) (x : AV) : Deep h x x := .weak _ _ (Weak.refl _)

/-- All cells as they stand now. -/
def frz (h : Heap) (w : World) (F : Fin) : Fin := fun b o => match h b with
  | some (.cells _) => w.cell? ⟨b, o, none⟩
  | _ => F b o
/-- The library's variables alone. -/
def Heap.gints (h : Heap) : Heap := fun b => match h b with
  | some .gint => some .gint
  | _ => none
theorem Heap.gints_get {h : Heap} {b : Nat} (hb : h b = some .gint) : h.gints b = some .gint := by simp [Heap.gints, hb]

section
variable {w0 : Base} {w : World} {F : Fin} {h : Heap}
theorem frz_cell (hi : Inv w0 F w h) {b : Nat} {cs : List AV} (hb : h b = some (.cells cs)) : ∃ arr : Array Value, arr.size = cs.length ∧ (∀ o, frz h w F b o = arr[o]?) ∧ (∀ i, i < cs.length → Rep F (arr.getD i undef) (cs.getD i .any)) ∧ ∀ i, i < cs.length → (arr.getD i undef).oneCell' = true := by
  obtain ⟨_, _, arr, t, he, hs, hr, ho⟩ := hi.blk b _ hb
  refine ⟨arr, hs, fun o => ?_, hr, ho⟩
  simp [frz, hb, World.cell?, he]
theorem frz_mono (hi : Inv w0 F w h) : Mono F (frz h w F) := fun b o v e => by
  unfold frz
  split
  · rename_i cs hb
    obtain ⟨_, hF, _⟩ := hi.blk b _ hb
    rw [hF o] at e; cases e
  · exact e
theorem frz_fin (hi : Inv w0 F w h) (b o : Nat) (v : Value) (e : frz h w F b o = some v) : w.cell? ⟨b, o, none⟩ = some v ∧ v.oneCell' = true := by
  by_cases hb : ∃ cs, h b = some (.cells cs)
  · obtain ⟨cs, hb⟩ := hb
    obtain ⟨arr, hs, hg, _, ho⟩ := frz_cell hi hb
    have e2 := e
    rw [hg] at e2
    have hlt := (Array.getElem?_eq_some_iff.1 e2).1
    refine ⟨by simpa [frz, hb] using e, ?_⟩
    have := ho o (by omega)
    simpa [Array.getD_eq_getD_getElem?, e2] using this
  · refine hi.fin b o v ?_
    unfold frz at e
    split at e
    · rename_i cs hb'; exact absurd ⟨cs, hb'⟩ hb
    · exact e
theorem Deep.rep (hi : Inv w0 F w h) {x y : AV} (hd : Deep h x y) : ∀ {v : Value}, Rep F v x → Rep (frz h w F) v y := by
  induction hd with
  | weak x y hw => intro v hr; exact hw _ _ (hr.mono (frz_mono hi))
  | arr b off len cap sz rows cs hb hl hc hr hsz hd ih =>
    intro v hv
    cases hv
    obtain ⟨arr, hs, hg, hrep, _⟩ := frz_cell hi hb
    refine .list b off cap sz len rows .no (fun i j => arr.getD (off + i * sz + j) undef) hr.symm hc hsz (fun i j hi' hj => ?_) (fun i j hi' hj => ?_) trivial
    · have h1 : i * sz + sz ≤ len * sz := by
        have := Nat.mul_le_mul_right sz (show i + 1 ≤ len by omega)
        rwa [Nat.add_mul, Nat.one_mul] at this
      have h2 : off + i * sz + j < arr.size := by omega
      rw [hg]
      simp [Array.getD, h2]
    · have h1 : i * sz + sz ≤ len * sz := by
        have := Nat.mul_le_mul_right sz (show i + 1 ≤ len by omega)
        rwa [Nat.add_mul, Nat.one_mul] at this
      exact ih i j (by omega) hj (hrep _ (by omega))
  | agg xs ys hl hd ih =>
    intro v hv
    cases hv with
    | agg cs xs hl' hc => exact .agg cs ys (by omega) fun i hi' => ih i hi' (hc i (by omega))
  | ptr b off row cs hb hl hd ih =>
    intro v hv
    cases hv
    obtain ⟨arr, hs, hg, hrep, _⟩ := frz_cell hi hb
    refine .vptr b off row (fun j => arr.getD (off + j) undef) (fun j hj => ?_) (fun j hj => ih j hj (hrep _ (by omega)))
    have h2 : off + j < arr.size := by omega
    rw [hg]
    simp [Array.getD, h2]
  | rows sz rows rows' hl hsz hd ih =>
    intro v hv
    have hnil : rows = [] → rows' = [] := fun e => List.eq_nil_of_length_eq_zero (by rw [← hl, e]; rfl)
    cases hv with
    | listNo => rw [hnil rfl]; exact .listNo _
    | listE => rw [hnil rfl]; exact .listE _ _
    | list b o cap sz n rows t cv hn hc hr hF hR ht =>
      exact .list b o cap sz n rows' .no cv (by omega) hc hsz (fun i j hi' hj => frz_mono hi _ _ _ (hF i j (by omega) hj)) (fun i j hi' hj => ih i j (by omega) hj (hR i j (by omega) hj)) trivial
  | tok sz rows rows' t hd ih =>
    intro v hv
    exact ih (Weak.tok sz rows t F v hv)
end

inductive DeepL (h : Heap) : List AV → List AV → Prop where
  | nil : DeepL h [] []
  | cons {x y : AV} {xs ys : List AV} (hd : Deep h x y) (ht : DeepL h xs ys) : DeepL h (x :: xs) (y :: ys)
theorem DeepL.length {h : Heap} {xs ys : List AV} (hd : DeepL h xs ys) : xs.length = ys.length := by
  induction hd with
  | nil => rfl
  | cons _ _ ih => simp [ih]
theorem DeepL.get {h : Heap} {xs ys : List AV} (hd : DeepL h xs ys) : ∀ i, Deep h (xs.getD i .any) (ys.getD i .any) := by
  induction hd with
  | nil => intro i; exact .refl _ _
  | cons hd _ ih =>
    intro i
    cases i with
    | zero => exact hd
    | succ i => exact ih i

/-- A function that only looks. -/
theorem ACalls.peek {P : Program} {f : FuncId} {args args' : List AV} {h : Heap} {R : AV → Heap → Prop} (hd : DeepL h args args') (hc : ACalls P f args' h.gints fun x _ => Flat x ∧ R x h) : ACalls P f args h R := by
  intro w0 F w cargs hi ha
  let β : Base := ⟨w, fun b => b < w.heap.size, frz h w F⟩
  have hβ : Inv β (frz h w F) w h.gints := by
    refine ⟨⟨rfl, rfl, rfl, Nat.le_refl _, fun _ hk => hk, fun _ _ => rfl⟩, frz_fin hi, fun _ _ _ => rfl, fun b x hb => ?_⟩
    unfold Heap.gints at hb
    split at hb
    · rename_i hg
      injection hb with hb
      subst hb
      obtain ⟨_, h1, m, h2⟩ := hi.blk b _ hg
      exact ⟨trivial, h1, m, frz_mono hi _ _ _ h2⟩
    · cases hb
  have ha' : RepL (frz h w F) cargs args' := ⟨by rw [ha.1, hd.length], fun i hi' => (hd.get i).rep hi (ha.2 i (by rw [hd.length]; exact hi'))⟩
  refine (hc β (frz h w F) w cargs hβ ha').mono ?_
  rintro e w' ⟨v, F', x, h', he, hm, hi', hr, hfl, hR⟩
  have blk : ∀ b, b < w.heap.size → w'.heap[b]? = w.heap[b]? := fun b hb => hi'.below.block b hb
  refine ⟨v, F, x, h, he, .refl F, ⟨⟨hi'.below.os.trans hi.below.os, hi'.below.tape.trans hi.below.tape, hi'.below.output.trans hi.below.output, Nat.le_trans hi.below.size hi'.below.size, hi.below.lt, fun k hk => ?_⟩, fun b o u hu => ?_, hi.fin0, fun b x hb => ?_⟩, hr.flat hfl, hR⟩
  · have h1 := hi.below.lt k hk
    have h2 := hi.below.size
    exact (blk k (by omega)).trans (hi.below.block k hk)
  · exact hi'.fin b o u (hm _ _ _ (frz_mono hi _ _ _ hu))
  · have h1 := hi.blk b x hb
    exact ⟨h1.1, h1.2.of_block (blk b h1.2.lt)⟩
end Go.AL
