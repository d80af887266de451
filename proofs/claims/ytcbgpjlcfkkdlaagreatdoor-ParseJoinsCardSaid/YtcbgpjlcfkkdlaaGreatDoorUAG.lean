import Derived.Test.YtcbgpjlcfkkdlaaGreatDoorUAF
import Derived.SizedLaws
set_option linter.unusedSimpArgs false
set_option linter.unusedVariables false
namespace Go.AL
open Go Go.RowKit Go.ChangeShapes
def lawArg {H : Type} (P : Program) (m : Nat) (t : TypeId) (d : DataW H) : AV :=
 match P.underlying t with
 | some (.struct _) | some (.array _ _) => .agg (avL P m t d)
 | _ => (avL P m t d).getD 0 .any
def lawArgs {H : Type} (P : Program) (m : Nat) : List TypeId → List (DataW H) → List AV
 | t :: ts, d :: ds => lawArg P m t d :: lawArgs P m ts ds
 | _, _ => []
def Fits {H : Type} (P : Program) (m : Nat) : List TypeId → List (DataW H) → Prop
 | t :: ts, d :: ds => fitD P m t d ∧ Fits P m ts ds
 | [], [] => True
 | _, _ => False
def okTs (P : Program) (m : Nat) (ts : List TypeId) : Bool := ts.all fun t => P.readableRec t && decide (t < P.types.size) && okT P m t
section
variable {H : Type} {enc : TypeId × Value → H} {P : Program} {W W' : World} {m : Nat}
theorem lawArg_rep {r : Reach} {base : Nat} {t : TypeId} {v : Value} {d : DataW H} {ps : List MemPlace} (ho : okT P m t = true) (hv : Value.okWide P W r base t v)
  (h : DataW.Trod enc P W 0 (fun _ => true) true t v d ps) : Rep (finOf W) v (lawArg P m t d) ∧ fitD P m t d := by
 obtain ⟨n, h⟩ := h
 obtain ⟨h1, h2, h3⟩ := trod_rep m n t _ d ps ho h
 refine ⟨?_, h2⟩
 unfold lawArg
 have plain : ∀ (hx : v.cells = #[v]), Rep (finOf W) v ((avL P m t d).getD 0 .any) := by
  intro hx
  rw [hx] at h1
  have hl := h1.1
  simp at hl
  have := (h1.2 0 (by omega)).2
  simpa [List.getD] using this
 have wide : ∀ cs, v = .agg cs → Rep (finOf W) v (.agg (avL P m t d)) := by
  rintro cs rfl
  simp only [Value.cells] at h1
  refine .agg cs _ (by simpa using h1.1) fun i hi => ?_
  have h4 := (h1.2 i hi).2
  have : i < cs.size := by have := h1.1; simp at this; omega
  simpa [List.getD, Array.getD, this] using h4
 unfold Value.okWide at hv
 split
 ·rename_i hu
  rw [hu] at hv
  obtain ⟨cs, e, -⟩ := hv
  exact wide cs e
 ·rename_i hu
  rw [hu] at hv
  obtain ⟨cs, e, -⟩ := hv
  exact wide cs e
 ·refine plain ?_
  cases v <;> first | rfl | (exfalso; unfold okT at ho; split at hv <;> simp_all [Cell.okWide, Cell.ok]; done) | skip
  all_goals
   rename_i cs
   exfalso
   cases m with
   | zero => simp [okT] at ho
   | succ m =>
    unfold okT at ho
    unfold Cell.okWide Cell.ok at hv
    cases hu : P.underlying t with
    | none => simp [hu] at ho
    | some td => cases td <;> simp_all
theorem lawArgs_rep {r : Reach} {base : Nat} : ∀ (ts : List TypeId) (vs : List Value) (ds : List (DataW H)) (ps : List MemPlace), okTs P m ts = true →
  (∀ (j : Nat) t v, ts[j]? = some t → vs[j]? = some v → Value.okWide P W r base t v) → DataW.TrodAll enc P W 0 (fun _ => true) true ts vs ds ps →
  vs.length = (lawArgs P m ts ds).length ∧ (∀ i, i < vs.length → Rep (finOf W) (vs.getD i undef) ((lawArgs P m ts ds).getD i .any)) ∧ Fits P m ts ds
 | [], vs, ds, ps, ho, hv, h => by
  obtain ⟨rfl, rfl, rfl⟩ := trodAll_nil h
  simp [lawArgs, Fits]
 | t :: ts, vs, ds, ps, ho, hv, h => by
  obtain ⟨v, vs', d, ds', p, q, rfl, rfl, rfl, h1, h2⟩ := trodAll_cons h
  simp [okTs] at ho
  obtain ⟨⟨⟨ho1, ho2⟩, ho3⟩, ho4⟩ := ho
  have h3 := lawArg_rep ho3 (hv 0 t v rfl rfl) h1
  have h4 := lawArgs_rep ts vs' ds' q (by simp [okTs]; exact ho4) (fun j t v hj hv' => hv (j + 1) t v (by simpa using hj) (by simpa using hv')) h2
  refine ⟨by simp [lawArgs, h4.1], fun i hi => ?_, h3.2, h4.2.2⟩
  cases i with
  | zero => exact h3.1
  | succ i => simpa [lawArgs] using h4.2.1 i (by simpa using hi)
theorem below_trodAll (hl : laidOutB P = true) (hb : Below W.heap.size W W') : ∀ (ts : List TypeId) (vs : List Value) (ds : List (DataW H)) (ps : List MemPlace), okTs P m ts = true →
  DataW.TrodAll enc P W 0 (fun _ => true) true ts vs ds ps → (∀ x ∈ ps, x.block < W.heap.size) → DataW.TrodAll enc P W' 0 (fun b => decide (b < W.heap.size)) true ts vs ds ps
 | [], vs, ds, ps, ho, h, hp => by
  obtain ⟨rfl, rfl, rfl⟩ := trodAll_nil h
  exact trodAll_mk0
 | t :: ts, vs, ds, ps, ho, h, hp => by
  obtain ⟨v, vs', d, ds', p, q, rfl, rfl, rfl, h1, h2⟩ := trodAll_cons h
  simp [okTs] at ho
  obtain ⟨⟨⟨ho1, ho2⟩, ho3⟩, ho4⟩ := ho
  exact ⟨p, q, Below.trod hl ho1 ho2 h1 hb (fun x hx => hp x (by simp [hx])), below_trodAll hl hb ts vs' ds' q (by simp [okTs]; exact ho4) h2 (fun x hx => hp x (by simp [hx])), rfl⟩
def baseOf (W : World) : Base := ⟨W, (· < W.heap.size), finOf W⟩
theorem inv_start (W : World) : Inv (baseOf W) (finOf W) W fun _ => none := by
 refine ⟨⟨rfl, rfl, rfl, Nat.le_refl _, fun _ h => h, fun _ _ => rfl⟩, fun b o v h => ?_, fun _ _ _ => rfl, fun _ _ h => by cases h⟩
 unfold finOf at h
 split at h
 ·rename_i v' hv
  split at h
  ·rename_i h1
   injection h with h
   subst h
   exact ⟨hv, h1⟩
  ·cases h
 ·cases h
theorem Frm.toBelow (h : Frm (baseOf W) W') : Below W.heap.size W W' := ⟨h.os, h.tape, h.output, h.size, h.block⟩
end
section
variable {H : Type} {P : Program} {m : Nat} {t : TypeId} {d : DataW H}
theorem fit_string (h : P.underlying t = some .string) (hf : fitD P (m + 1) t d) : ∃ l, d = .lit (.string l) ∧ l.length ≤ maxLen := by simpa only [fitD, h] using hf
theorem avL_string {l : List UInt8} (h : P.underlying t = some .string) : avL (H := H) P (m + 1) t (.lit (.string l)) = [.str l] := by simp only [avL, h]
theorem lawArg_string {l : List UInt8} (h : P.underlying t = some .string) : lawArg (H := H) P (m + 1) t (.lit (.string l)) = .str l := by simp only [lawArg, h, avL_string h, List.getD_cons_zero]
end
end Go.AL

