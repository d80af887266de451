import Derived.Test.YtcbgpjlcfkkdlaaGreatDoorUAE
import Derived.Carry
import Derived.ProofKit
import Derived.OpenShut
set_option linter.unusedSimpArgs false
set_option linter.unusedVariables false
namespace Go.AL
open Go Go.RowKit
def finOf (W : World) : Fin := fun b o => match W.cell? ⟨b, o, none⟩ with
 | some v => if v.oneCell' then some v else none
 | none => none
theorem finOf_some {W : World} {b o : Nat} {v : Value} (h1 : W.cell? ⟨b, o, none⟩ = some v) (h2 : v.oneCell' = true) : finOf W b o = some v := by simp [finOf, h1, h2]
def tiled (P : Program) : Nat → List Field → Nat → Bool
 | off, [], n => off == n
 | off, f :: fs, n => f.offset == off && tiled P (off + P.cellsOf f.type) fs n
def okT (P : Program) : Nat → TypeId → Bool
 | 0, _ => false
 | n + 1, t => match P.underlying t with
  | some .bool | some (.int _) | some .string => P.cellsOf t == 1
  | some (.slice e) => P.cellsOf t == 1 && decide (0 < P.cellsOf e) && okT P n e
  | some (.struct fs) => tiled P 0 fs.toList (P.cellsOf t) && fs.toList.all fun f => okT P n f.type
  | some (.array m e) => P.cellsOf t == m * P.cellsOf e && okT P n e
  | _ => false
def avL {H : Type} (P : Program) : Nat → TypeId → DataW H → List AV
 | 0, _, _ => []
 | n + 1, t, d => match P.underlying t, d with
  | some .bool, .lit (.bool b) => [.bool b]
  | some (.int _), .lit (.int k m) => [.int k m]
  | some .string, .lit (.string l) => [.str l]
  | some (.slice e), .nil => [.list (P.cellsOf e) [] .no]
  | some (.slice e), .slice elems _ => [.list (P.cellsOf e) (elems.map (avL P n e)) .no]
  | some (.struct fs), .agg parts => (List.zipWith (fun (f : Field) d => avL P n f.type d) fs.toList parts).flatten
  | some (.array _ e), .agg parts => (parts.map (avL P n e)).flatten
  | _, _ => []
def fitD {H : Type} (P : Program) : Nat → TypeId → DataW H → Prop
 | 0, _, _ => True
 | n + 1, t, d => match P.underlying t with
  | some .bool => ∃ b, d = .lit (.bool b)
  | some (.int k) => ∃ m, d = .lit (.int k m) ∧ (Lit.int k m).wf = true
  | some .string => ∃ l, d = .lit (.string l) ∧ l.length ≤ maxLen
  | some (.slice e) => d = .nil ∨ ∃ elems spare, d = .slice elems spare ∧ elems.length ≤ maxLen ∧ ∀ x ∈ elems, fitD P n e x
  | some (.struct fs) => ∃ parts, d = .agg parts ∧ parts.length = fs.toList.length ∧ ∀ x ∈ List.zip fs.toList parts, fitD P n x.1.type x.2
  | some (.array m e) => ∃ parts, d = .agg parts ∧ parts.length = m ∧ ∀ x ∈ parts, fitD P n e x
  | _ => True
def RepC (F : Fin) (cs : List Value) (xs : List AV) : Prop := cs.length = xs.length ∧ ∀ i, i < xs.length → (cs.getD i undef).oneCell' = true ∧ Rep F (cs.getD i undef) (xs.getD i .any)
theorem RepC.append {F : Fin} {a b : List Value} {x y : List AV} (h : RepC F a x) (k : RepC F b y) : RepC F (a ++ b) (x ++ y) := by
 refine ⟨by simp [h.1, k.1], fun i hi => ?_⟩
 have h1 := h.1
 by_cases hlt : i < x.length
 ·have h2 := h.2 i hlt
  simp only [List.getD] at h2 ⊢
  rw [List.getElem?_append_left hlt, List.getElem?_append_left (by omega)]
  exact h2
 ·have h2 := k.2 (i - x.length) (by simp at hi; omega)
  simp only [List.getD] at h2 ⊢
  rw [List.getElem?_append_right (by omega), List.getElem?_append_right (by omega), h1]
  exact h2
theorem RepC.one {F : Fin} {v : Value} {x : AV} (h1 : v.oneCell' = true) (h : Rep F v x) : RepC F [v] [x] := by
 refine ⟨rfl, fun i hi => ?_⟩
 have : i = 0 := by simpa using hi
 subst this
 exact ⟨h1, h⟩
theorem mapM_getElem {α β : Type} {f : α → Option β} : ∀ {l : List α} {ys : List β}, l.mapM f = some ys → ys.length = l.length ∧ ∀ i (hi : i < l.length), ∃ y, f l[i] = some y ∧ ys[i]? = some y
 | [], ys, h => by simp at h; subst h; simp
 | a :: l, ys, h => by
  simp only [List.mapM_cons] at h
  cases ha : f a with
  | none => simp [ha] at h
  | some y =>
   cases hl : l.mapM f with
   | none => simp [ha, hl] at h
   | some zs =>
    simp [ha, hl] at h
    subst h
    obtain ⟨h1, h2⟩ := mapM_getElem hl
    refine ⟨by simp [h1], fun i hi => ?_⟩
    cases i with
    | zero => exact ⟨y, ha, rfl⟩
    | succ i => simpa using h2 i (by simpa using hi)
section
variable {H : Type} {enc : TypeId × Value → H} {P : Program} {W : World} {sp : Nat → Bool} {held : Bool}
theorem RepC.nil {F : Fin} : RepC F [] [] := ⟨rfl, fun i hi => by simp at hi⟩
theorem cells_some {a : Addr} {n : Nat} {cs : List Value} (h : W.cells? 0 a n = some cs) : cs.length = n ∧ ∀ j, j < n → W.cell? (a.add j) = some (cs.getD j undef) := by
 unfold World.cells? at h
 simp only [Nat.zero_le, if_true] at h
 obtain ⟨h1, h2⟩ := mapM_getElem h
 simp at h1
 refine ⟨h1, fun j hj => ?_⟩
 obtain ⟨y, h3, h4⟩ := h2 j (by simpa using hj)
 simp at h3
 rw [h3]
 simp [List.getD, h4]
theorem tiled_rep {F : Fin} {cs : List Value} {g : Field → DataW H → List AV} : ∀ (fs : List Field) (off : Nat) (ds : List (DataW H)), ds.length = fs.length → tiled P off fs cs.length = true →
  (∀ (i : Nat) (f : Field) (d : DataW H), fs[i]? = some f → ds[i]? = some d → RepC F ((cs.drop f.offset).take (P.cellsOf f.type)) (g f d)) → RepC F (cs.drop off) (List.zipWith g fs ds).flatten
 | [], off, ds, hl, ht, hr => by
  simp [tiled] at ht
  simp [ht, RepC.nil]
 | f :: fs, off, [], hl, ht, hr => by simp at hl
 | f :: fs, off, d :: ds, hl, ht, hr => by
  simp [tiled] at ht
  obtain ⟨h1, h2⟩ := ht
  have h3 := hr 0 f d rfl rfl
  have h4 := tiled_rep fs (off + P.cellsOf f.type) ds (by simpa using hl) h2 (fun i f d hf hd => hr (i + 1) f d (by simpa using hf) (by simpa using hd))
  rw [h1] at h3
  have e : cs.drop off = (cs.drop off).take (P.cellsOf f.type) ++ cs.drop (off + P.cellsOf f.type) := by rw [← List.drop_drop, List.take_append_drop]
  rw [e]
  simpa using RepC.append h3 h4
theorem rows_rep {F : Fin} {cs : List Value} {k : Nat} {g : DataW H → List AV} : ∀ (ds : List (DataW H)) (i : Nat), cs.length = (i + ds.length) * k →
  (∀ (j : Nat) (d : DataW H), ds[j]? = some d → RepC F ((cs.drop ((i + j) * k)).take k) (g d)) → RepC F (cs.drop (i * k)) (ds.map g).flatten
 | [], i, hl, hr => by
  simp at hl
  simp [← hl, RepC.nil]
 | d :: ds, i, hl, hr => by
  have h3 := hr 0 d rfl
  have h4 := rows_rep ds (i + 1) (by rw [hl]; simp; congr 1; omega) (fun j d hd => by have := hr (j + 1) d (by simpa using hd); rwa [show i + (j + 1) = i + 1 + j by omega] at this)
  have e : cs.drop (i * k) = (cs.drop (i * k)).take k ++ cs.drop ((i + 1) * k) := by rw [Nat.add_mul, Nat.one_mul, ← List.drop_drop, List.take_append_drop]
  rw [e]
  simpa using RepC.append h3 h4
theorem trod_rep : ∀ (m n : Nat) (t : TypeId) (cs : List Value) (d : DataW H) (ps : List MemPlace), okT P m t = true → DataW.trod enc P W 0 (fun _ => true) true n t cs = some (d, ps) →
  RepC (finOf W) cs (avL P m t d) ∧ fitD P m t d ∧ cs.length = P.cellsOf t
 | 0, n, t, cs, d, ps, ho, h => by simp [okT] at ho
 | m + 1, n, t, cs, d, ps, ho, h => by
  unfold okT at ho
  split at ho
  ·rename_i ht
   simp at ho
   obtain ⟨b, rfl, e⟩ := DataW.trod_bool ht h
   injection e with e1 e2
   subst e1 e2
   exact ⟨by simp only [avL, ht]; exact .one rfl (.bool b), by simp only [fitD, ht]; exact ⟨b, rfl⟩, ho.symm⟩
  ·rename_i k ht
   simp at ho
   obtain ⟨b, rfl, e, hw⟩ := DataW.trod_int ht h
   injection e with e1 e2
   subst e1 e2
   exact ⟨by simp only [avL, ht]; exact .one rfl (.int _ _), by simp only [fitD, ht]; exact ⟨b, rfl, hw⟩, ho.symm⟩
  ·rename_i ht
   simp at ho
   obtain ⟨b, rfl, e, hw⟩ := DataW.trod_string ht h
   injection e with e1 e2
   subst e1 e2
   exact ⟨by simp only [avL, ht]; exact .one rfl (.str _ _ rfl), by simp only [fitD, ht]; exact ⟨_, rfl, by simpa using hw⟩, ho.symm⟩
  ·rename_i e ht
   simp at ho
   obtain ⟨⟨ho1, ho2⟩, ho3⟩ := ho
   rcases DataW.trod_slice ht h with ⟨rfl, e1⟩ | ⟨a, len, cap, elems, rest, n', rfl, rfl, e1, hb, hlc, hcap, hlen, hel, hsp, -⟩
   ·injection e1 with e1 e2
    subst e1 e2
    exact ⟨by simp only [avL, ht]; exact .one rfl (.listNo _), by simp only [fitD, ht]; exact Or.inl trivial, ho1.symm⟩
   ·injection e1 with e1 e2
    subst e1 e2
    have key : ∀ i (hi : i < elems.length), ∃ cs', W.cells? 0 (a.add (i * P.cellsOf e)) (P.cellsOf e) = some cs' ∧ DataW.trod enc P W 0 (fun _ => true) true n' e cs' = some elems[i] := by
     intro i hi
     have h1 := hel i (by omega)
     rw [List.getElem?_eq_getElem hi] at h1
     exact Option.bind_eq_some_iff.1 h1
    refine ⟨?_, ?_, ho1.symm⟩
    ·simp only [avL, ht]
     refine .one rfl ?_
     by_cases h0 : cap = 0
     ·have : len = 0 := by omega
      subst h0 this
      have : elems = [] := List.length_eq_zero_iff.1 hlen
      subst this
      exact .listE _ _
     ·have hspot : a.spot = none := by
       have hs := hsp rfl
       by_cases hl0 : len = 0
       ·have h1 := hs.2 0 (by omega)
        rw [List.getElem?_eq_getElem (by omega)] at h1
        obtain ⟨cs', h1, _⟩ := Option.bind_eq_some_iff.1 h1
        have h2 := World.cell?_spot ((cells_some h1).2 0 ho2)
        simpa [Addr.add, hl0] using h2
       ·obtain ⟨cs', h1, _⟩ := key 0 (by omega)
        have h2 := World.cell?_spot ((cells_some h1).2 0 ho2)
        simpa [Addr.add] using h2
      obtain ⟨b, o, sp⟩ := a
      simp at hspot
      subst hspot
      have hrow : ∀ i (hi : i < elems.length), RepC (finOf W) ((List.range (P.cellsOf e)).map fun j => (W.cell? ⟨b, o + i * P.cellsOf e + j, none⟩).getD undef) (avL P m e elems[i].1) ∧ fitD P m e elems[i].1 ∧
        ∀ j, j < P.cellsOf e → ∃ v, W.cell? ⟨b, o + i * P.cellsOf e + j, none⟩ = some v := by
       intro i hi
       obtain ⟨cs', h1, h2⟩ := key i hi
       obtain ⟨h3, h4⟩ := cells_some h1
       have h6 : ∀ j, j < P.cellsOf e → W.cell? ⟨b, o + i * P.cellsOf e + j, none⟩ = some (cs'.getD j undef) := fun j hj => by
        have := h4 j hj
        rwa [addr_add, addr_add] at this
       have h5 : cs' = (List.range (P.cellsOf e)).map fun j => (W.cell? ⟨b, o + i * P.cellsOf e + j, none⟩).getD undef := by
        apply List.ext_getElem?
        intro j
        by_cases hj : j < P.cellsOf e
        ·simp [hj, h6 j hj, List.getD, h3]
        ·simp [hj, h3]
       have h7 := trod_rep m n' e cs' elems[i].1 elems[i].2 ho3 h2
       rw [← h5]
       exact ⟨h7.1, h7.2.1, fun j hj => ⟨_, h6 j hj⟩⟩
      refine .list b o cap (P.cellsOf e) len _ .no (fun i j => (W.cell? ⟨b, o + i * P.cellsOf e + j, none⟩).getD undef) (by simp [hlen]) hlc ?_ ?_ ?_ trivial
      ·intro r hr
       obtain ⟨i, hi, hx'⟩ := List.getElem_of_mem hr
       simp at hi
       have := (hrow i hi).1.1
       simp at hx' this
       rw [← hx', ← this]
      ·intro i j hi hj
       simp at hi
       obtain ⟨h1, h2, h3⟩ := hrow i hi
       obtain ⟨v, hv⟩ := h3 j hj
       have hl := h1.1
       simp at hl
       have h4 := (h1.2 j (by omega)).1
       simp [List.getD, hj, hv] at h4
       simp [hv, finOf_some hv h4]
      ·intro i j hi hj
       simp at hi
       obtain ⟨h1, h2, h3⟩ := hrow i hi
       have hl := h1.1
       simp at hl
       have h4 := (h1.2 j (by omega)).2
       simp [List.getD, hj] at h4
       simpa [List.getD, hi] using h4
    ·simp only [fitD, ht]
     refine Or.inr ⟨_, _, rfl, by simp; omega, fun x hx => ?_⟩
     simp at hx
     obtain ⟨y, hx⟩ := hx
     obtain ⟨i, hi, hx'⟩ := List.getElem_of_mem hx
     obtain ⟨cs', h1, h2⟩ := key i hi
     rw [hx'] at h2
     exact (trod_rep m n' e cs' x y ho3 h2).2.1
  ·rename_i fs ht
   simp at ho
   obtain ⟨ho1, ho2⟩ := ho
   obtain ⟨xs, n', rfl, e1, hl, hx, hf⟩ := DataW.trod_struct ht h
   injection e1 with e1 e2
   subst e1 e2
   have key : ∀ (i : Nat) (f : Field) (x : DataW H × List MemPlace), fs.toList[i]? = some f → xs[i]? = some x → RepC (finOf W) ((cs.drop f.offset).take (P.cellsOf f.type)) (avL P m f.type x.1) ∧ fitD P m f.type x.1 := by
    intro i f x h1 h2
    have h1' : fs[i]? = some f := by simpa using h1
    have h3 := hf i f h1'
    rw [h2] at h3
    have h4 := trod_rep m n' f.type _ x.1 x.2 (by obtain ⟨hi, rfl⟩ := Array.getElem?_eq_some_iff.1 h1'; exact ho2 i hi) h3
    exact ⟨h4.1, h4.2.1⟩
   refine ⟨?_, ?_, hl⟩
   ·simp only [avL, ht]
    have := tiled_rep (H := H) (P := P) (F := finOf W) (cs := cs) (g := fun f d => avL P m f.type d) fs.toList 0 (xs.map (·.1)) (by simp [hx]) (by rw [hl]; exact ho1) (fun i f d h1 h2 => by
     simp at h2
     obtain ⟨y, h2⟩ := h2
     exact (key i f _ h1 h2).1)
    simpa using this
   ·simp only [fitD, ht]
    refine ⟨_, rfl, by simp [hx], fun x hx' => ?_⟩
    obtain ⟨i, hi, hx''⟩ := List.getElem_of_mem hx'
    simp at hi
    have h1 : fs.toList[i]? = some x.1 := by rw [← hx'']; simp
    have h2 : xs[i]? = some (xs[i]'(by omega)) := by simp
    have h3 := (key i _ _ h1 h2).2
    have h4 : (xs[i]'(by omega)).1 = x.2 := by rw [← hx'']; simp
    rwa [h4] at h3
  ·rename_i k e ht
   simp at ho
   obtain ⟨ho1, ho2⟩ := ho
   obtain ⟨xs, n', rfl, e1, hl, hx, hf⟩ := DataW.trod_array ht h
   injection e1 with e1 e2
   subst e1 e2
   have key : ∀ (i : Nat) (x : DataW H × List MemPlace), xs[i]? = some x → RepC (finOf W) ((cs.drop (i * P.cellsOf e)).take (P.cellsOf e)) (avL P m e x.1) ∧ fitD P m e x.1 := by
    intro i x h2
    have hi : i < xs.length := (List.getElem?_eq_some_iff.1 h2).1
    have h3 := hf i (by omega)
    rw [h2] at h3
    have h4 := trod_rep m n' e _ x.1 x.2 ho2 h3
    exact ⟨h4.1, h4.2.1⟩
   refine ⟨?_, ?_, hl⟩
   ·simp only [avL, ht]
    have := rows_rep (H := H) (F := finOf W) (cs := cs) (k := P.cellsOf e) (g := avL P m e) (xs.map (·.1)) 0 (by rw [hl, ho1]; simp [hx]) (fun j d h2 => by
     simp at h2
     obtain ⟨y, h2⟩ := h2
     simpa using (key j _ h2).1)
    simpa using this
   ·simp only [fitD, ht]
    refine ⟨_, rfl, by simp [hx], fun x hx' => ?_⟩
    simp at hx'
    obtain ⟨y, hx'⟩ := hx'
    obtain ⟨i, hi, hx''⟩ := List.getElem_of_mem hx'
    exact (key i (x, y) (by rw [← hx'']; simp)).2
  ·cases ho
end
end Go.AL

