import Derived.Test.YtcbgpjlcfkkdlaaGreatDoorSAF
import Derived.SizedLaws
set_option linter.unusedSimpArgs false
set_option linter.unusedVariables false
namespace Go.AL
open Go Go.RowKit Go.ChangeShapes
def lawArg {H : Type} (P : Program) (m : Nat) (t : TypeId) (d : DataW H) : AV :=
 match P.underlying t with
 | some (.struct _) | some (.array _ _) => .agg (avL P m t d)
 | _ => (avL P m t d).getD 0 .any
def lawArgs {H : Type} (P : Program) (m : Nat) : List TypeId → List (DataW H) → List AV
 | t :: ts, d :: ds => lawArg P m t d :: lawArgs P m ts ds
 | _, _ => []
def Fits {H : Type} (P : Program) (m : Nat) : List TypeId → List (DataW H) → Prop
 | t :: ts, d :: ds => fitD P m t d ∧ Fits P m ts ds
 | [], [] => True
 | _, _ => False
def okTs (P : Program) (m : Nat) (ts : List TypeId) : Bool := ts.all fun t => P.readableRec t && decide (t < P.types.size) && okT P m t
section
variable {H : Type} {enc : TypeId × Value → H} {P : Program} {W W' : World} {m : Nat}
theorem lawArg_rep {r : Reach} {base : Nat} {t : TypeId} {v : Value} {d : DataW H} {ps : List MemPlace} (ho : okT P m t = true) (hv : Value.okWide P W r base t v)
  (h : DataW.Trod enc P W 0 (fun _ => true) true t v d ps) : Rep (finOf W) v (lawArg P m t d) ∧ fitD P m t d := by
 obtain ⟨n, h⟩ := h
 obtain ⟨h1, h2, h3⟩ := trod_rep m n t _ d ps ho h
 refine ⟨?_, h2⟩
 unfold lawArg
 have plain : ∀ (hx : v.cells = #[v]), Rep (finOf W) v ((avL P m t d).getD 0 .any) := by
  intro hx
  rw [hx] at h1
  have hl := h1.1
  simp at hl
  have := (h1.2 0 (by omega)).2
  simpa [List.getD] using this
 have wide : ∀ cs, v = .agg cs → Rep (finOf W) v (.agg (avL P m t d)) := by
  rintro cs rfl
  simp only [Value.cells] at h1
  refine .agg cs _ (by simpa using h1.1) fun i hi => ?_
  have h4 := (h1.2 i hi).2
  have : i < cs.size := by have := h1.1; simp at this; omega
  simpa [List.getD, Array.getD, this] using h4
 unfold Value.okWide at hv
 split
 ·rename_i hu
  rw [hu] at hv
  obtain ⟨cs, e, -⟩ := hv
  exact wide cs e
 ·rename_i hu
  rw [hu] at hv
  obtain ⟨cs, e, -⟩ := hv
  exact wide cs e
 ·refine plain ?_
  cases v <;> first | rfl | (exfalso; unfold okT at ho; split at hv <;> simp_all [Cell.okWide, Cell.ok]; done) | skip
  all_goals
   rename_i cs
   exfalso
   cases m with
   | zero => simp [okT] at ho
   | succ m =>
    unfold okT at ho
    unfold Cell.okWide Cell.ok at hv
    cases hu : P.underlying t with
    | none => simp [hu] at ho
    | some td => cases td <;> simp_all
theorem lawArgs_rep {r : Reach} {base : Nat} : ∀ (ts : List TypeId) (vs : List Value) (ds : List (DataW H)) (ps : List MemPlace), okTs P m ts = true →
  (∀ (j : Nat) t v, ts[j]? = some t → vs[j]? = some v → Value.okWide P W r base t v) → DataW.TrodAll enc P W 0 (fun _ => true) true ts vs ds ps →
  vs.length = (lawArgs P m ts ds).length ∧ (∀ i, i < vs.length → Rep (finOf W) (vs.getD i undef) ((lawArgs P m ts ds).getD i .any)) ∧ Fits P m ts ds
 | [], vs, ds, ps, ho, hv, h => by
  obtain ⟨rfl, rfl, rfl⟩ := trodAll_nil h
  simp [lawArgs, Fits]
 | t :: ts, vs, ds, ps, ho, hv, h => by
  obtain ⟨v, vs', d, ds', p, q, rfl, rfl, rfl, h1, h2⟩ := trodAll_cons h
  simp [okTs] at ho
  obtain ⟨⟨⟨ho1, ho2⟩, ho3⟩, ho4⟩ := ho
  have h3 := lawArg_rep ho3 (hv 0 t v rfl rfl) h1
  have h4 := lawArgs_rep ts vs' ds' q (by simp [okTs]; exact ho4) (fun j t v hj hv' => hv (j + 1) t v (by simpa using hj) (by simpa using hv')) h2
  refine ⟨by simp [lawArgs, h4.1], fun i hi => ?_, h3.2, h4.2.2⟩
  cases i with
  | zero => exact h3.1
  | succ i => simpa [lawArgs] using h4.2.1 i (by simpa using hi)
theorem below_trodAll (hl : laidOutB P = true) (hb : Below W.heap.size W W') : ∀ (ts : List TypeId) (vs : List Value) (ds : List (DataW H)) (ps : List MemPlace), okTs P m ts = true →
  DataW.TrodAll enc P W 0 (fun _ => true) true ts vs ds ps → (∀ x ∈ ps, x.block < W.heap.size) → DataW.TrodAll enc P W' 0 (fun b => decide (b < W.heap.size)) true ts vs ds ps
 | [], vs, ds, ps, ho, h, hp => by
  obtain ⟨rfl, rfl, rfl⟩ := trodAll_nil h
  exact trodAll_mk0
 | t :: ts, vs, ds, ps, ho, h, hp => by
  obtain ⟨v, vs', d, ds', p, q, rfl, rfl, rfl, h1, h2⟩ := trodAll_cons h
  simp [okTs] at ho
  obtain ⟨⟨⟨ho1, ho2⟩, ho3⟩, ho4⟩ := ho
  exact ⟨p, q, Below.trod hl ho1 ho2 h1 hb (fun x hx => hp x (by simp [hx])), below_trodAll hl hb ts vs' ds' q (by simp [okTs]; exact ho4) h2 (fun x hx => hp x (by simp [hx])), rfl⟩
def baseOf (W : World) : Base := ⟨W, (· < W.heap.size), finOf W⟩
theorem inv_start (W : World) : Inv (baseOf W) (finOf W) W fun _ => none := by
 refine ⟨⟨rfl, rfl, rfl, Nat.le_refl _, fun _ h => h, fun _ _ => rfl⟩, fun b o v h => ?_, fun _ _ _ => rfl, fun _ _ h => by cases h⟩
 unfold finOf at h
 split at h
 ·rename_i v' hv
  split at h
  ·rename_i h1
   injection h with h
   subst h
   exact ⟨hv, h1⟩
  ·cases h
 ·cases h
theorem Frm.toBelow (h : Frm (baseOf W) W') : Below W.heap.size W W' := ⟨h.os, h.tape, h.output, h.size, h.block⟩
end
section
variable {H : Type} {P : Program} {m : Nat} {t : TypeId} {d : DataW H}
theorem fit_string (h : P.underlying t = some .string) (hf : fitD P (m + 1) t d) : ∃ l, d = .lit (.string l) ∧ l.length ≤ maxLen := by simpa only [fitD, h] using hf
theorem fit_slice {e : TypeId} (h : P.underlying t = some (.slice e)) (hf : fitD P (m + 1) t d) : d = .nil ∨ ∃ elems spare, d = .slice elems spare ∧ elems.length ≤ maxLen ∧ ∀ x ∈ elems, fitD P m e x := by simpa only [fitD, h] using hf
theorem avL_string {l : List UInt8} (h : P.underlying t = some .string) : avL (H := H) P (m + 1) t (.lit (.string l)) = [.str l] := by simp only [avL, h]
theorem avL_nil {e : TypeId} (h : P.underlying t = some (.slice e)) : avL (H := H) P (m + 1) t .nil = [.list (P.cellsOf e) [] .no] := by simp only [avL, h]
theorem avL_slice {e : TypeId} {elems spare : List (DataW H)} (h : P.underlying t = some (.slice e)) : avL (H := H) P (m + 1) t (.slice elems spare) = [.list (P.cellsOf e) (elems.map (avL P m e)) .no] := by simp only [avL, h]
theorem lawArg_nil {e : TypeId} (h : P.underlying t = some (.slice e)) : lawArg (H := H) P (m + 1) t .nil = .list (P.cellsOf e) [] .no := by simp only [lawArg, h, avL_nil h, List.getD_cons_zero]
theorem lawArg_slice {e : TypeId} {elems spare : List (DataW H)} (h : P.underlying t = some (.slice e)) : lawArg (H := H) P (m + 1) t (.slice elems spare) = .list (P.cellsOf e) (elems.map (avL P m e)) .no := by simp only [lawArg, h, avL_slice h, List.getD_cons_zero]
theorem slice_arg {A : Type} {e : TypeId} {Q : A → Prop} {g : A → List AV} (hu : P.underlying t = some (.slice e)) (he : ∀ x : DataW H, fitD P m e x → ∃ a, Q a ∧ avL P m e x = g a) (hf : fitD P (m + 1) t d) :
  ∃ l : List A, lawArg P (m + 1) t d = .list (P.cellsOf e) (l.map g) .no ∧ avL P (m + 1) t d = [.list (P.cellsOf e) (l.map g) .no] ∧ (∀ a ∈ l, Q a) ∧ l.length ≤ maxLen := by
 rcases fit_slice hu hf with rfl | ⟨elems, spare, rfl, hl, hx⟩
 ·exact ⟨[], lawArg_nil hu, avL_nil hu, by simp, by simp⟩
 ·have : ∃ l : List A, elems.map (avL P m e) = l.map g ∧ (∀ a ∈ l, Q a) ∧ l.length = elems.length := by
   clear hl hf
   induction elems with
   | nil => exact ⟨[], rfl, by simp, rfl⟩
   | cons x xs ih =>
    obtain ⟨l, h1, h2, h3⟩ := ih (fun y hy => hx y (by simp [hy]))
    obtain ⟨a, ha, hb⟩ := he x (hx x (by simp))
    refine ⟨a :: l, by simp [hb, h1], ?_, by simp [h3]⟩
    intro b hb'
    rcases List.mem_cons.1 hb' with rfl | hb'
    ·exact ha
    ·exact h2 b hb'
  obtain ⟨l, h1, h2, h3⟩ := this
  exact ⟨l, by rw [lawArg_slice hu, h1], by rw [avL_slice hu, h1], h2, by omega⟩
end
end Go.AL

