import Derived.Test.YtcbgpjlcfkkdlaaGreatDoorSAT
import Derived.Test.YtcbgpjlcfkkdlaaGreatDoorSAP
import Derived.Test.YtcbgpjlcfkkdlaaGreatDoorSAQ
import Derived.Test.YtcbgpjlcfkkdlaaGreatDoorSAH
import Derived.Test.YtcbgpjlcfkkdlaaGreatDoorSAJ
import Derived.Test.YtcbgpjlcfkkdlaaGreatDoorSAK
set_option linter.unusedSimpArgs false
set_option linter.unusedVariables false
set_option maxRecDepth 100000
set_option maxHeartbeats 16000000
namespace Go.Proofs.YtcbgpjlcfkkdlaaGreatDoor
open Go Go.AL Go.Proofs
def nm (i : Nat) : List UInt8 := [UInt8.ofNat (97 + i % 26)]
structure Bt (T : List Tk) (ops : List (List UInt8)) : Prop where
 len : T.length = 2 * ops.length + 2
 nk : ∀ i, i ≤ ops.length → (T.getD (2 * i) default).kind = 1 ∧ (T.getD (2 * i) default).text = nm i
 ok : ∀ i, i < ops.length → ((T.getD (2 * i + 1) default).kind = 5 ∨ (T.getD (2 * i + 1) default).kind = 2) ∧ (T.getD (2 * i + 1) default).text = ops.getD i []
 last : (T.getD (2 * ops.length + 1) default).kind = 6
 pos : ∀ i, 0 ≤ (T.getD i default).pos
 lev : ∀ i, i < ops.length → 0 ≤ levelW (ops.getD i [])
structure Bs (S : St) : Prop where
 fc : S.fc = 0
 dl : S.deep.length = S.nodes.length
 dd : ∀ j, j < S.deep.length → 0 ≤ S.deep.getD j 0 ∧ S.deep.getD j 0 ≤ j
inductive Shows (nodes : List Nd) : Nat → List UInt8 → Prop
 | one {r : Nat} {n : Nd} : nodes[r]? = some n → ¬ n.kind = 10 → Shows nodes r n.text
 | two {r a b : Nat} {n : Nd} {x y : List UInt8} : nodes[r]? = some n → n.kind = 10 → n.kids = [(a : Int), (b : Int)] → Shows nodes a x → Shows nodes b y → Shows nodes r ([40] ++ x ++ [32] ++ n.text ++ [32] ++ y ++ [41])
theorem Shows.mono {nodes more : List Nd} {r : Nat} {s : List UInt8} (h : Shows nodes r s) : Shows (nodes ++ more) r s := by
 have hg : ∀ (r : Nat) (n : Nd), nodes[r]? = some n → (nodes ++ more)[r]? = some n := fun r n e => by
  rw [List.getElem?_append_left (List.getElem?_eq_some_iff.1 e).1]; exact e
 induction h with
 | one h1 h2 => exact .one (hg _ _ h1) h2
 | two h1 h2 h3 _ _ i1 i2 => exact .two (hg _ _ h1) h2 h3 i1 i2
inductive Ws : Nat → List (List UInt8) → List UInt8 → Prop
 | one {i : Nat} : Ws i [] (nm i)
 | two {i : Nat} {l r : List (List UInt8)} {o x y : List UInt8} : (∀ p ∈ l, levelW o ≤ levelW p) → (∀ p ∈ r, levelW o < levelW p) → Ws i l x → Ws (i + l.length + 1) r y → Ws i (l ++ o :: r) ([40] ++ x ++ [32] ++ o ++ [32] ++ y ++ [41])
def seg (ops : List (List UInt8)) (i k : Nat) : List (List UInt8) := (ops.drop i).take k
theorem seg_len {ops : List (List UInt8)} {i k : Nat} (h : i + k ≤ ops.length) : (seg ops i k).length = k := by
 unfold seg; rw [List.length_take, List.length_drop]; omega
theorem seg_get {ops : List (List UInt8)} {i k j : Nat} (hj : j < k) : (seg ops i k)[j]? = ops[i + j]? := by
 unfold seg; rw [List.getElem?_take_of_lt hj, List.getElem?_drop]
theorem seg_mem {ops : List (List UInt8)} {i k : Nat} {p : List UInt8} (h : p ∈ seg ops i k) : ∃ j, j < k ∧ p = ops.getD (i + j) [] := by
 obtain ⟨j, hj⟩ := List.mem_iff_getElem?.1 h
 have hk : j < k := by
  have := (List.getElem?_eq_some_iff.1 hj).1
  unfold seg at this
  rw [List.length_take] at this
  omega
 rw [seg_get hk] at hj
 exact ⟨j, hk, by simp [List.getD, hj]⟩
theorem seg_join {ops : List (List UInt8)} {i k k2 : Nat} (h : i + k < ops.length) : seg ops i (k + 1 + k2) = seg ops i k ++ ops.getD (i + k) [] :: seg ops (i + k + 1) k2 := by
 unfold seg
 have h1 : ops.drop (i + k) = ops.getD (i + k) [] :: ops.drop (i + k + 1) := by
  rw [List.drop_eq_getElem_cons h]; simp [List.getD, h]
 rw [Nat.add_assoc, List.take_add, List.drop_drop, h1, Nat.add_comm 1 k2, List.take_succ_cons]
theorem getD_set {α : Type} (l : List α) (k : Nat) (v w : α) (i : Nat) (hk : k < l.length) : (l.set k v).getD i w = if i = k then v else l.getD i w := by
 rw [List.getD_eq_getElem?_getD, List.getElem?_set]
 by_cases e : k = i
 ·subst e; rw [if_pos rfl, if_pos hk, if_pos rfl]; rfl
 ·rw [if_neg e, if_neg (show ¬ i = k from fun q => e q.symm), List.getD_eq_getElem?_getD]
structure Q (N : List Nd) (j : Nat) (R : Nat → Prop) (o : List Bool) (d : List Int) : Prop where
 ol : o.length = N.length
 dl : d.length = N.length
 ow : ∀ i, i < N.length → (o.getD i false = true ↔ i < j ∧ ¬ R i)
 dd : ∀ i, i < N.length → 0 ≤ d.getD i 0 ∧ d.getD i 0 ≤ i
def Ck (N : List Nd) (a b : Nat) (R R' : Nat → Prop) : Prop := ∀ o d, Q N a R o d → ∃ o' d', Q N b R' o' d' ∧ runL N a o d = runL N b o' d'
theorem Ck.trans {N : List Nd} {a b c : Nat} {R R1 R2 : Nat → Prop} (h1 : Ck N a b R R1) (h2 : Ck N b c R1 R2) : Ck N a c R R2 := fun o d q => by
 obtain ⟨o1, d1, q1, e1⟩ := h1 o d q
 obtain ⟨o2, d2, q2, e2⟩ := h2 o1 d1 q1
 exact ⟨o2, d2, q2, e1.trans e2⟩
theorem Ck.congr {N : List Nd} {a b : Nat} {R R1 R2 : Nat → Prop} (h1 : Ck N a b R R1) (h : ∀ i, R1 i ↔ R2 i) : Ck N a b R R2 := by
 have : R1 = R2 := funext fun i => propext (h i)
 exact this ▸ h1
theorem ck_leaf {N : List Nd} {a : Nat} {R : Nat → Prop} (ha : a < N.length) (hn : N[a].kids = []) (hf : formL N[a] = true) (hk : kidsL N N[a] = true) (hl : N.length ≤ 200) : Ck N a (a + 1) R (fun i => R i ∨ i = a) := fun o d q => by
 refine ⟨o, d, ⟨q.ol, q.dl, fun i hi => ?_, q.dd⟩, ?_⟩
 ·rw [q.ow i hi]
  constructor
  ·exact fun ⟨h1, h2⟩ => ⟨by omega, fun e => e.elim h2 (by omega)⟩
  ·exact fun ⟨h1, h2⟩ => ⟨by have : ¬ i = a := fun e => h2 (.inr e); omega, fun e => h2 (.inl e)⟩
 ·exact run_next ha hf (by rw [hn]; rfl) hk (by have := (q.dd a ha).2; omega)
theorem ck_two {N : List Nd} {a x y : Nat} {R : Nat → Prop} (ha : a < N.length) (hx : x < a) (hy : y < a) (hxy : ¬ x = y) (hRx : R x) (hRy : R y) (hn : N[a].kids = [(x : Int), (y : Int)]) (hf : formL N[a] = true) (hk : kidsL N N[a] = true) (hl : N.length ≤ 200) :
  Ck N a (a + 1) R (fun i => (R i ∧ ¬ i = x ∧ ¬ i = y) ∨ i = a) := fun o d q => by
 have ox : o.getD x false = false := by
  cases e : o.getD x false
  ·rfl
  ·exact absurd hRx ((q.ow x (by omega)).1 e).2
 have oy : (o.set x true).getD y false = false := by
  rw [List.getD_eq_getElem?_getD, List.getElem?_set_ne hxy, ← List.getD_eq_getElem?_getD]
  cases e : o.getD y false
  ·rfl
  ·exact absurd hRy ((q.ow y (by omega)).1 e).2
 obtain ⟨d1, hd1⟩ : ∃ d1, d.set a (max (d.getD a 0) (d.getD x 0 + 1)) = d1 := ⟨_, rfl⟩
 obtain ⟨d2, hd2⟩ : ∃ d2, d1.set a (max (d1.getD a 0) (d1.getD y 0 + 1)) = d2 := ⟨_, rfl⟩
 have set_get : ∀ (d : List Int) (v : Int) (i : Nat), d.length = N.length → i < N.length → (d.set a v).getD i 0 = if i = a then v else d.getD i 0 := fun d v i hl hi => by
  rw [List.getD_eq_getElem?_getD, List.getElem?_set]
  by_cases e : a = i
  ·subst e; rw [if_pos rfl, if_pos (by omega), if_pos rfl]; rfl
  ·rw [if_neg e, if_neg (fun q => e q.symm), List.getD_eq_getElem?_getD]
 have l1 : d1.length = N.length := by rw [← hd1, List.length_set, q.dl]
 have b1 : ∀ i, i < N.length → 0 ≤ d1.getD i 0 ∧ d1.getD i 0 ≤ i := fun i hi => by
  rw [← hd1, set_get d _ i q.dl hi]
  have e1 := q.dd a ha; have e2 := q.dd x (by omega); have e3 := q.dd i hi
  split
  ·subst i; omega
  ·exact e3
 have l2 : d2.length = N.length := by rw [← hd2, List.length_set, l1]
 have b2 : ∀ i, i < N.length → 0 ≤ d2.getD i 0 ∧ d2.getD i 0 ≤ i := fun i hi => by
  rw [← hd2, set_get d1 _ i l1 hi]
  have e1 := b1 a ha; have e2 := b1 y (by omega); have e3 := b1 i hi
  split
  ·subst i; omega
  ·exact e3
 refine ⟨(o.set x true).set y true, d2, ⟨by rw [List.length_set, List.length_set, q.ol], l2, fun i hi => ?_, b2⟩, ?_⟩
 ·have hs : ((o.set x true).set y true).getD i false = if i = y then true else if i = x then true else o.getD i false := by
   have := q.ol
   rw [getD_set _ _ _ _ _ (by rw [List.length_set]; omega), getD_set _ _ _ _ _ (by omega)]
  rw [hs]
  by_cases e1 : i = y
  ·rw [if_pos e1]; exact ⟨fun _ => ⟨by omega, fun e => e.elim (fun e => e.2.2 e1) (by omega)⟩, fun _ => rfl⟩
  ·rw [if_neg e1]
   by_cases e2 : i = x
   ·rw [if_pos e2]; exact ⟨fun _ => ⟨by omega, fun e => e.elim (fun e => e.2.1 e2) (by omega)⟩, fun _ => rfl⟩
   ·rw [if_neg e2, q.ow i hi]
    constructor
    ·exact fun ⟨h1, h2⟩ => ⟨by omega, fun e => e.elim (fun e => h2 e.1) (by omega)⟩
    ·exact fun ⟨h1, h2⟩ => ⟨by have : ¬ i = a := fun e => h2 (.inr e); omega, fun e => h2 (.inl ⟨e, e2, e1⟩)⟩
 ·refine run_next ha hf ?_ hk (by have := (b2 a ha).2; omega)
  rw [hn]
  have k1 : ¬ ((x : Int) < -1 ∨ (a : Int) ≤ x) := by omega
  have k2 : ¬ ((x : Int) < 0) := by omega
  have k3 : ¬ ((y : Int) < -1 ∨ (a : Int) ≤ y) := by omega
  have k4 : ¬ ((y : Int) < 0) := by omega
  simp only [kidLoop, k1, k2, k3, k4, if_false, Int.toNat_natCast, ox, oy, Bool.false_eq_true, hd1, hd2]
end Go.Proofs.YtcbgpjlcfkkdlaaGreatDoor

namespace Go.Proofs.YtcbgpjlcfkkdlaaGreatDoor
open Go Go.AL Go.Proofs
def allOps : List (List UInt8) := levelsW.flatten
theorem op_mem {o : List UInt8} (h : 0 ≤ levelW o) : o ∈ allOps := by
 unfold levelW at h
 cases e : levelsW.findIdx? (fun l => l.contains o) with
 | none => rw [e] at h; exact absurd h (by decide)
 | some i =>
  obtain ⟨hi, h1, -⟩ := List.findIdx?_eq_some_iff_getElem.1 e
  exact List.mem_flatten.2 ⟨_, List.getElem_mem hi, by simpa using h1⟩
theorem op_facts : ∀ o ∈ allOps, levelW o ≤ 9 ∧ isStep o = false ∧ isAssign o = false ∧ ¬ o = [46] ∧ ¬ o = [91] ∧ ¬ o = [40] ∧ ¬ o = [63] := by decide +kernel
theorem nm_name (i : Nat) : nameL (nm i) = true := by
 have h : ∀ j, j < 26 → nameL [UInt8.ofNat (97 + j)] = true := by decide +kernel
 exact h _ (Nat.mod_lt _ (by decide))
theorem leaf_form {p : Int} (hp : 0 ≤ p) (i : Nat) : formL ⟨6, p, nm i, 0, []⟩ = true := by
 simp [formL, textL, hp, nm_name]
theorem two_form {p : Int} {o : List UInt8} (hp : 0 ≤ p) (ho : 0 ≤ levelW o) (ks : List Int) : formL ⟨10, p, o, 0, ks⟩ = true := by
 simp [formL, textL, hp, level_eq, ho]
theorem leaf_kids (N : List Nd) (p : Int) (x : List UInt8) : kidsL N ⟨6, p, x, 0, []⟩ = true := by
 simp [kidsL, shapeL]
theorem two_kids {N : List Nd} (p : Int) (o : List UInt8) {x y : Nat} (hx : ∃ n, N[x]? = some n ∧ (n.kind = 6 ∨ n.kind = 10)) (hy : ∃ n, N[y]? = some n ∧ (n.kind = 6 ∨ n.kind = 10)) : kidsL N ⟨10, p, o, 0, [(x : Int), (y : Int)]⟩ = true := by
 obtain ⟨n, e1, k1⟩ := hx
 obtain ⟨m, e2, k2⟩ := hy
 have f : ∀ k : Int, k = 6 ∨ k = 10 → fitsL k 1 = true := fun k h => by rcases h with rfl | rfl <;> decide +kernel
 have a1 : kindAt N (x : Int) = n.kind := by simp [kindAt, e1]
 have a2 : kindAt N (y : Int) = m.kind := by simp [kindAt, e2]
 have k1 : kidFine N (x : Int) 1 = true := by
  unfold kidFine
  rw [if_neg (by intro e; omega), a1, f _ k1]
  simp
 have k2 : kidFine N (y : Int) 1 = true := by
  unfold kidFine
  rw [if_neg (by intro e; omega), a2, f _ k2]
  simp
 have d1 : isDefault N (x : Int) = false := by
  unfold isDefault
  rw [a1, decide_eq_false (show ¬ n.kind = 24 by omega)]
  simp
 have d2 : isDefault N (y : Int) = false := by
  unfold isDefault
  rw [a2, decide_eq_false (show ¬ m.kind = 24 by omega)]
  simp
 have hall : ∀ i (h : i < [(x : Int), (y : Int)].length), kidFine N [(x : Int), (y : Int)][i] (wantAt ⟨10, p, o, 0, [(x : Int), (y : Int)]⟩ i) = true := fun i h => by
  have h2 : i < 2 := h
  rcases (show i = 0 ∨ i = 1 by omega) with rfl | rfl
  ·exact k1
  ·exact k2
 unfold kidsL
 rw [if_neg (show ¬ (10 : Int) = 20 by decide), decide_eq_true hall]
 simp [shapeL, List.countP_cons, d1, d2]
theorem deepOf_le {D : List Int} {M : Nat} (hM : M ≤ 200) (hD : ∀ j, j < M → 0 ≤ D.getD j 0 ∧ D.getD j 0 ≤ j) : ∀ (ks : List Int) (d : Int), (∀ k ∈ ks, 0 ≤ k ∧ k < M) → 0 ≤ d → d ≤ M → 0 ≤ deepOf D ks d ∧ deepOf D ks d ≤ M
 | [], d, _, h1, h2 => ⟨h1, h2⟩
 | k :: ks, d, hk, h1, h2 => by
  have hk0 := hk k List.mem_cons_self
  obtain ⟨j, rfl⟩ : ∃ j : Nat, k = j := ⟨k.toNat, by omega⟩
  have hj := hD j (by omega)
  simp only [deepOf]
  rw [if_pos (show (0 : Int) ≤ (j : Int) by omega), Int.toNat_natCast, w64 (by omega) (by omega)]
  exact deepOf_le hM hD ks _ (fun k h => hk k (List.mem_cons_of_mem _ h)) (by omega) (by omega)
theorem add_run {T : List Tk} {S : St} (b : Bs S) (hn : S.nodes.length < 200) (kind pos : Int) (x : List UInt8) (n : Int) (ks : List Int) (hk : ∀ k ∈ ks, 0 ≤ k ∧ k < S.nodes.length) :
  ∃ S', addL T kind pos x n ks S = ((S.nodes.length : Int), S') ∧ Bs S' ∧ S'.nodes = S.nodes ++ [⟨kind, pos, x, n, ks⟩] ∧ S'.idx = S.idx ∧ S'.nest = S.nest := by
 obtain ⟨h1, h2⟩ := deepOf_le (M := S.nodes.length) (by omega) (fun j hj => b.dd j (by rw [b.dl]; exact hj)) ks 0 hk (Int.le_refl _) (by omega)
 refine ⟨{ S with nodes := S.nodes ++ [⟨kind, pos, x, n, ks⟩], deep := S.deep ++ [deepOf S.deep ks 0] }, ?_, ⟨b.fc, by simp [b.dl], fun j hj => ?_⟩, rfl, rfl, rfl⟩
 ·unfold addL
  rw [if_pos b.fc, if_neg (by omega)]
  simp only
  rw [if_neg (by omega)]
 ·simp only [List.length_append, List.length_singleton] at hj
  by_cases e : j < S.deep.length
  ·have := b.dd j e
   simpa [List.getD_eq_getElem?_getD, List.getElem?_append_left e] using this
  ·obtain rfl : j = S.deep.length := by omega
   rw [show (S.deep ++ [deepOf S.deep ks 0]).getD S.deep.length 0 = deepOf S.deep ks 0 from by simp [List.getD_eq_getElem?_getD], b.dl]
   exact ⟨h1, h2⟩
theorem peek_fc {T : List Tk} {S : St} (h : S.fc = 0) : peekL T S = T.getD S.idx default := by unfold peekL; rw [if_pos h]
theorem isL_ne {T : List Tk} {S : St} {x : List UInt8} (h : ¬ (peekL T S).text = x) : isL T x S = false := by unfold isL; simp [h]
theorem isL_kind2 {T : List Tk} {S : St} (x : List UInt8) (h1 : ¬ (peekL T S).kind = 5) (h2 : ¬ (peekL T S).kind = 2) : isL T x S = false := by unfold isL; simp [h1, h2]
theorem bs_step {S : St} (b : Bs S) : Bs (stepL S) := ⟨b.fc, b.dl, b.dd⟩
section
variable {T : List Tk} {ops : List (List UInt8)}
theorem prim_run (hb : Bt T ops) {i : Nat} (hi : i ≤ ops.length) {S : St} (b : Bs S) (hx : S.idx = 2 * i) (hn : S.nodes.length < 200) (n : Nat) :
  ∃ S' p, 0 ≤ p ∧ run T (n + 1) .primary S = some ([(S.nodes.length : Int)], S') ∧ Bs S' ∧ S'.nodes = S.nodes ++ [⟨6, p, nm i, 0, []⟩] ∧ S'.idx = 2 * i + 1 ∧ S'.nest = S.nest := by
 obtain ⟨k1, k2⟩ := hb.nk i hi
 have hp : peekL T S = T.getD (2 * i) default := by rw [peek_fc b.fc, hx]
 obtain ⟨S', e, b', h1, h2, h3⟩ := add_run (T := T) (bs_step b) hn 6 (T.getD (2 * i) default).pos (nm i) 0 [] (fun k h => by cases h)
 refine ⟨S', _, hb.pos (2 * i), ?_, b', h1, by rw [h2]; show S.idx + 1 = _; rw [hx], h3⟩
 simp only [run]
 rw [hp, if_pos k1, k2, e]
 rfl
theorem next_is (hb : Bt T ops) {i : Nat} (hi : i ≤ ops.length) {S : St} (b : Bs S) (hx : S.idx = 2 * i + 1) : ((peekL T S).kind = 6 ∧ i = ops.length) ∨ (i < ops.length ∧ ((peekL T S).kind = 5 ∨ (peekL T S).kind = 2) ∧ (peekL T S).text = ops.getD i []) := by
 rw [peek_fc b.fc, hx]
 rcases Nat.lt_or_ge i ops.length with h | h
 ·exact .inr ⟨h, (hb.ok i h).1, (hb.ok i h).2⟩
 ·obtain rfl : i = ops.length := by omega
  exact .inl ⟨hb.last, rfl⟩
theorem next_no (hb : Bt T ops) {i : Nat} (hi : i ≤ ops.length) {S : St} (b : Bs S) (hx : S.idx = 2 * i + 1) : isL T [46] S = false ∧ isL T [91] S = false ∧ isL T [40] S = false ∧ isL T [63] S = false ∧ ¬ ((peekL T S).kind = 5 ∧ isStep (peekL T S).text = true) ∧ ¬ ((peekL T S).kind = 5 ∧ isAssign (peekL T S).text = true) := by
 rcases next_is hb hi b hx with ⟨h1, -⟩ | ⟨h1, h2, h3⟩
 ·have a1 : ¬ (peekL T S).kind = 5 := by omega
  have a2 : ¬ (peekL T S).kind = 2 := by omega
  exact ⟨isL_kind2 _ a1 a2, isL_kind2 _ a1 a2, isL_kind2 _ a1 a2, isL_kind2 _ a1 a2, fun e => a1 e.1, fun e => a1 e.1⟩
 ·obtain ⟨-, f1, f2, f3, f4, f5, f6⟩ := op_facts _ (op_mem (hb.lev i h1))
  refine ⟨isL_ne (h3 ▸ f3), isL_ne (h3 ▸ f4), isL_ne (h3 ▸ f5), isL_ne (h3 ▸ f6), fun e => ?_, fun e => ?_⟩
  ·rw [h3, f1] at e; exact absurd e.2 (by decide)
  ·rw [h3, f2] at e; exact absurd e.2 (by decide)
theorem post_run (hb : Bt T ops) {i : Nat} (hi : i ≤ ops.length) {S : St} (b : Bs S) (hx : S.idx = 2 * i + 1) (n : Nat) (a r : Int) : run T (n + 1) (.postLoop a r) S = some ([r], S) := by
 obtain ⟨h1, h2, h3, -, h4, -⟩ := next_no hb hi b hx
 simp only [run]
 rw [if_pos b.fc, h1, h2, h3]
 simp only [Bool.false_eq_true, if_false, false_and]
 rw [if_neg (fun e => h4 ⟨e.1, e.2.1⟩)]
theorem leaf_run (hb : Bt T ops) {i : Nat} (hi : i ≤ ops.length) {S : St} (b : Bs S) (hx : S.idx = 2 * i) (hn : S.nodes.length < 200) (n : Nat) :
  ∃ S' p, 0 ≤ p ∧ run T (n + 4) (.binary 10) S = some ([(S.nodes.length : Int)], S') ∧ Bs S' ∧ S'.nodes = S.nodes ++ [⟨6, p, nm i, 0, []⟩] ∧ S'.idx = 2 * i + 1 ∧ S'.nest = S.nest := by
 obtain ⟨S', p, hp, h1, h2, h3, h4, h5⟩ := prim_run hb hi b hx hn n
 refine ⟨S', p, hp, ?_, h2, h3, h4, h5⟩
 have hk : (peekL T S).kind = 1 := by rw [peek_fc b.fc, hx]; exact (hb.nk i hi).1
 have u1 : run T (n + 4) (.binary 10) S = run T (n + 3) .unary S := by
  conv => lhs; unfold run
  rfl
 have u2 : run T (n + 3) .unary S = run T (n + 2) .postf S := by
  conv => lhs; unfold run
  simp only
  rw [if_neg (fun e => by rcases e.1 with e | e <;> rw [hk] at e <;> exact absurd e (by decide))]
 have u3 : run T (n + 2) .postf S = (run T (n + 1) .primary S).bind fun r => run T (n + 1) (.postLoop (peekL T S).pos (fst0 r.1)) r.2 := by
  conv => lhs; unfold run
 rw [u1, u2, u3, h1]
 exact post_run hb hi h2 h4 n _ _
end
end Go.Proofs.YtcbgpjlcfkkdlaaGreatDoor

namespace Go.Proofs.YtcbgpjlcfkkdlaaGreatDoor
open Go Go.AL Go.Proofs
structure Bm (T : List Tk) (ops : List (List UInt8)) (L i k : Nat) (S S' : St) (root : Nat) : Prop where
 le : i + k ≤ ops.length
 bs : Bs S'
 idx : S'.idx = 2 * (i + k) + 1
 nest : S'.nest = S.nest
 pre : ∃ more, S'.nodes = S.nodes ++ more
 len : S'.nodes.length = S.nodes.length + 2 * k + 1
 rt : root + 1 = S'.nodes.length
 kind : ∃ nd, S'.nodes[root]? = some nd ∧ (nd.kind = 6 ∨ nd.kind = 10)
 lv : ∀ j, j < k → (L : Int) ≤ levelW (ops.getD (i + j) [])
 sh : ∃ s, Ws i (seg ops i k) s ∧ Shows S'.nodes root s
 ck : ∀ N more, N = S'.nodes ++ more → N.length ≤ 200 → ∀ R : Nat → Prop, (∀ j, R j → j < S.nodes.length) → Ck N S.nodes.length S'.nodes.length R (fun j => R j ∨ j = root)
def Stop (ops : List (List UInt8)) (L i k : Nat) : Prop := i + k = ops.length ∨ levelW (ops.getD (i + k) []) < L
section
variable {T : List Tk} {ops : List (List UInt8)}
theorem bin10 (hb : Bt T ops) {i : Nat} (hi : i ≤ ops.length) {S : St} (b : Bs S) (hx : S.idx = 2 * i) (hn : S.nodes.length < 190) (n : Nat) :
  ∃ k S' root, Bm T ops 10 i k S S' root ∧ Stop ops 10 i k ∧ run T (n + 4) (.binary 10) S = some ([((root : Nat) : Int)], S') := by
 obtain ⟨S', p, hp, h1, h2, h3, h4, h5⟩ := leaf_run hb hi b hx (by omega) n
 have hg : S'.nodes[S.nodes.length]? = some ⟨6, p, nm i, 0, []⟩ := by rw [h3]; simp
 refine ⟨0, S', S.nodes.length, ⟨by omega, h2, by omega, h5, ⟨_, h3⟩, by rw [h3]; simp, by rw [h3]; simp, ⟨_, hg, .inl rfl⟩, fun j hj => by omega, ⟨_, .one, .one hg (show ¬ (6 : Int) = 10 by decide)⟩, fun N more e hl R hR => ?_⟩, ?_, h1⟩
 ·have ha : S.nodes.length < N.length := by rw [e, h3]; simp
  have hg2 : N[S.nodes.length]? = some ⟨6, p, nm i, 0, []⟩ := by rw [e, List.getElem?_append_left (List.getElem?_eq_some_iff.1 hg).1, hg]
  have hg3 := (List.getElem?_eq_some_iff.1 hg2).2
  rw [show S'.nodes.length = S.nodes.length + 1 from by rw [h3]; simp]
  exact ck_leaf ha (by rw [hg3]) (by rw [hg3]; exact leaf_form hp i) (by rw [hg3]; exact leaf_kids N p _) hl
 ·unfold Stop
  rcases Nat.lt_or_ge (i + 0) ops.length with h | h
  ·right
   have := (op_facts _ (op_mem (hb.lev _ h))).1
   show _ < (10 : Int)
   omega
  ·left; omega
theorem bin_loop (hb : Bt T ops) {L : Nat} (hL : L < 10) (a : Int) (ha : 0 ≤ a)
  (ih : ∀ n i S, i ≤ ops.length → Bs S → S.idx = 2 * i → S.nodes.length + 2 * (ops.length - i) + 1 ≤ 150 → 40 * (ops.length - i) + 2 * (9 - L) + 34 ≤ n → ∃ k S' root, Bm T ops (L + 1) i k S S' root ∧ Stop ops (L + 1) i k ∧ run T n (.binary ((L + 1 : Nat) : Int)) S = some ([((root : Nat) : Int)], S')) :
  ∀ (w n i k : Nat) (S S' : St) (root : Nat), ops.length - (i + k) = w → Bm T ops L i k S S' root → Stop ops (L + 1) i k → S.nodes.length + 2 * (ops.length - i) + 1 ≤ 150 → 40 * w + 30 ≤ n →
   ∃ k' S'' root', Bm T ops L i k' S S'' root' ∧ Stop ops L i k' ∧ run T n (.binLoop L a root) S' = some ([((root' : Nat) : Int)], S'') := by
 intro w
 induction w using Nat.strongRecOn with
 | ind w ihw =>
  intro n i k S S' root hw h hs hlen hn
  obtain ⟨n, rfl⟩ : ∃ m, n = m + 1 := ⟨n - 1, by omega⟩
  have hrun : run T (n + 1) (.binLoop L a root) S' = if S'.fc = 0 then
    (if ((peekL T S').kind = 5 ∨ (peekL T S').kind = 2) ∧ levelW (peekL T S').text = L then
     (run T n (.binary (IntKind.i64.wrap (L + 1))) (stepL S')).bind fun r => run T n (.binLoop L a (addL T 10 a (peekL T S').text 0 [(root : Int), fst0 r.1] r.2).1) (addL T 10 a (peekL T S').text 0 [(root : Int), fst0 r.1] r.2).2
    else some ([(root : Int)], S')) else some ([(root : Int)], S') := by
   conv => lhs; unfold run
  rw [hrun, if_pos h.bs.fc]
  by_cases hc : ((peekL T S').kind = 5 ∨ (peekL T S').kind = 2) ∧ levelW (peekL T S').text = L
  ·rw [if_pos hc]
   rcases next_is hb h.le h.bs h.idx with ⟨h1, -⟩ | ⟨h1, -, h3⟩
   ·exfalso; omega
   obtain ⟨o, ho⟩ : ∃ o, ops.getD (i + k) [] = o := ⟨_, rfl⟩
   rw [h3, ho] at hc ⊢
   have hlo : levelW o = L := hc.2
   obtain ⟨k2, S2, root2, m2, s2, e2⟩ := ih n (i + k + 1) (stepL S') (by omega) (bs_step h.bs) (by show S'.idx + 1 = _; rw [h.idx]; omega) (by have := h.len; have : (stepL S').nodes.length = S'.nodes.length := rfl; omega) (by omega)
   rw [show IntKind.i64.wrap ((L : Int) + 1) = ((L + 1 : Nat) : Int) from by rw [w64 (by omega) (by omega)]; omega, e2]
   simp only [Option.bind_some, fst0_one]
   have l1 := h.len
   have l2 : S2.nodes.length = S'.nodes.length + 2 * k2 + 1 := m2.len
   have r1 := h.rt
   have r2 := m2.rt
   have le2 := m2.le
   obtain ⟨S3, e3, b3, g1, g2, g3⟩ := add_run (T := T) m2.bs (by omega) 10 a o 0 [(root : Int), (root2 : Int)] (fun y hy => by
    simp only [List.mem_cons, List.not_mem_nil, or_false] at hy
    rcases hy with rfl | rfl <;> omega)
   rw [e3]
   obtain ⟨more1, pre1⟩ := h.pre
   obtain ⟨more2, pre2⟩ := m2.pre
   have pre2' : S2.nodes = S'.nodes ++ more2 := pre2
   have hg : S3.nodes[S2.nodes.length]? = some ⟨10, a, o, 0, [(root : Int), (root2 : Int)]⟩ := by rw [g1]; simp
   have hseg := seg_join (ops := ops) (i := i) (k := k) (k2 := k2) h1
   obtain ⟨x, wx, sx⟩ := h.sh
   obtain ⟨y, wy, sy⟩ := m2.sh
   refine ihw (ops.length - (i + (k + 1 + k2))) (by omega) n i (k + 1 + k2) S S3 S2.nodes.length rfl ⟨by omega, b3, by rw [g2, m2.idx]; omega, by rw [g3, m2.nest]; exact h.nest, ⟨more1 ++ more2 ++ [⟨10, a, o, 0, [(root : Int), (root2 : Int)]⟩], by rw [g1, pre2', pre1]; simp⟩, by rw [g1]; simp; omega, by rw [g1]; simp, ⟨_, hg, .inr rfl⟩, fun j hj => ?_, ?_, fun N more e hl R hR => ?_⟩ ?_ hlen (by omega)
   ·rcases Nat.lt_trichotomy j k with q | q | q
    ·exact h.lv j q
    ·subst q; rw [ho, hlo]; exact Int.le_refl _
    ·have := m2.lv (j - (k + 1)) (by omega)
     rw [show i + k + 1 + (j - (k + 1)) = i + j from by omega] at this
     omega
   ·refine ⟨[40] ++ x ++ [32] ++ o ++ [32] ++ y ++ [41], ?_, ?_⟩
    ·rw [hseg, ho]
     refine .two (fun p hp => ?_) (fun p hp => ?_) wx (by rw [seg_len h.le]; exact wy)
     ·obtain ⟨j, hj, rfl⟩ := seg_mem hp
      rw [hlo]; exact h.lv j hj
     ·obtain ⟨j, hj, rfl⟩ := seg_mem hp
      have := m2.lv j hj
      rw [hlo]; omega
    ·refine Shows.two (n := ⟨10, a, o, 0, [(root : Int), (root2 : Int)]⟩) hg rfl rfl ?_ ?_
     ·rw [g1, pre2', List.append_assoc]; exact sx.mono
     ·rw [g1]; exact sy.mono
   ·have c1 := h.ck N (more2 ++ [⟨10, a, o, 0, [(root : Int), (root2 : Int)]⟩] ++ more) (by rw [e, g1, pre2']; simp) hl R hR
    have c2 := m2.ck N ([⟨10, a, o, 0, [(root : Int), (root2 : Int)]⟩] ++ more) (by rw [e, g1]; simp) hl (fun j => R j ∨ j = root) (fun j hj => by
     show j < S'.nodes.length
     rcases hj with hj | hj
     ·have := hR j hj; omega
     ·omega)
    have hN : S2.nodes.length < N.length := by rw [e, g1]; simp
    have hg2 : N[S2.nodes.length]? = some ⟨10, a, o, 0, [(root : Int), (root2 : Int)]⟩ := by rw [e, List.getElem?_append_left (List.getElem?_eq_some_iff.1 hg).1, hg]
    have hg3 := (List.getElem?_eq_some_iff.1 hg2).2
    obtain ⟨nd1, q1, q2⟩ := h.kind
    obtain ⟨nd2, q3, q4⟩ := m2.kind
    have i1 : N[root]? = some nd1 := by rw [e, g1, pre2', List.append_assoc, List.append_assoc, List.getElem?_append_left (List.getElem?_eq_some_iff.1 q1).1, q1]
    have i2 : N[root2]? = some nd2 := by rw [e, g1, List.append_assoc, List.getElem?_append_left (List.getElem?_eq_some_iff.1 q3).1, q3]
    have c3 := ck_two (N := N) (a := S2.nodes.length) (x := root) (y := root2) (R := fun j => (R j ∨ j = root) ∨ j = root2) hN (by omega) (by omega) (by omega) (.inl (.inr rfl)) (.inr rfl) (by rw [hg3]) (by rw [hg3]; exact two_form ha (by rw [hlo]; omega) _) (by rw [hg3]; exact two_kids a o ⟨nd1, i1, q2⟩ ⟨nd2, i2, q4⟩) hl
    rw [show S3.nodes.length = S2.nodes.length + 1 from by rw [g1]; simp]
    refine ((c1.trans c2).trans c3).congr fun j => ⟨?_, ?_⟩
    ·rintro (⟨(h1 | h1) | h1, h2, h3⟩ | h1)
     ·exact .inl h1
     ·exact absurd h1 h2
     ·exact absurd h1 h3
     ·exact .inr h1
    ·rintro (h1 | h1)
     ·have := hR j h1
      exact .inl ⟨.inl (.inl h1), by omega, by omega⟩
     ·exact .inr h1
   ·rcases s2 with q | q
    ·exact .inl (by omega)
    ·right; rw [show i + (k + 1 + k2) = i + k + 1 + k2 from by omega]; exact q
  ·rw [if_neg hc]
   refine ⟨k, S', root, h, ?_, rfl⟩
   rcases next_is hb h.le h.bs h.idx with ⟨-, h2⟩ | ⟨h1, h2, h3⟩
   ·exact .inl h2
   ·right
    rcases hs with q | q
    ·omega
    ·have : ¬ levelW (ops.getD (i + k) []) = L := fun e => hc ⟨h2, by rw [h3]; exact e⟩
     omega
theorem bin_run (hb : Bt T ops) : ∀ (c L : Nat), L + c = 10 → ∀ n i S, i ≤ ops.length → Bs S → S.idx = 2 * i → S.nodes.length + 2 * (ops.length - i) + 1 ≤ 150 → 40 * (ops.length - i) + 2 * c + 34 ≤ n →
  ∃ k S' root, Bm T ops L i k S S' root ∧ Stop ops L i k ∧ run T n (.binary (L : Int)) S = some ([((root : Nat) : Int)], S')
 | 0, L, hc, n, i, S, hi, b, hx, hl, hn => by
  obtain rfl : L = 10 := by omega
  obtain ⟨n, rfl⟩ : ∃ m, n = m + 4 := ⟨n - 4, by omega⟩
  exact bin10 hb hi b hx (by omega) n
 | c + 1, L, hc, n, i, S, hi, b, hx, hl, hn => by
  obtain ⟨n, rfl⟩ : ∃ m, n = m + 1 := ⟨n - 1, by omega⟩
  have hrun : run T (n + 1) (.binary (L : Int)) S = (run T n (.binary (IntKind.i64.wrap (L + 1))) S).bind fun r => run T n (.binLoop L (peekL T S).pos (fst0 r.1)) r.2 := by
   conv => lhs; unfold run
   simp only
   rw [if_neg (by omega)]
  obtain ⟨k, S', root, m, s, e⟩ := bin_run hb c (L + 1) (by omega) n i S hi b hx hl (by omega)
  rw [hrun, show IntKind.i64.wrap ((L : Int) + 1) = ((L + 1 : Nat) : Int) from by rw [w64 (by omega) (by omega)]; omega, e]
  simp only [Option.bind_some, fst0_one]
  have hle := m.le
  exact bin_loop hb (by omega) _ (by rw [peek_fc b.fc]; exact hb.pos _) (fun n i S h1 h2 h3 h4 h5 => bin_run hb c (L + 1) (by omega) n i S h1 h2 h3 h4 (by omega)) _ n i k S S' root rfl ⟨m.le, m.bs, m.idx, m.nest, m.pre, m.len, m.rt, m.kind, fun j hj => by have := m.lv j hj; omega, m.sh, m.ck⟩ s hl (by omega)
end
end Go.Proofs.YtcbgpjlcfkkdlaaGreatDoor

namespace Go.Proofs.YtcbgpjlcfkkdlaaGreatDoor
open Go Go.AL Go.Proofs Go.RowKit
theorem int_inv {F : Fin} {v : Value} {k : IntKind} {n : Int} (h : Rep F v (.int k n)) : v = .int k n := by cases h; rfl
theorem repL_str_int {F : Fin} {cargs : Array Value} {s : List UInt8} {k : IntKind} {n : Int} (h : RepL F cargs [.str s, .int k n]) : ∃ a : ByteArray, cargs = #[.string a, .int k n] ∧ a.data.toList = s := by
 obtain ⟨hl, hr⟩ := h
 obtain ⟨l⟩ := cargs
 match l, hl with
 | [x, y], _ =>
  have h0 := hr 0 (by simp)
  have h1 := hr 1 (by simp)
  simp [Array.getD] at h0 h1
  obtain ⟨a, rfl, ha⟩ := h0.str_inv
  obtain rfl := int_inv h1
  exact ⟨a, rfl, ha⟩
theorem repL_int2 {F : Fin} {cargs : Array Value} {k k' : IntKind} {n n' : Int} (h : RepL F cargs [.int k n, .int k' n']) : cargs = #[.int k n, .int k' n'] := by
 obtain ⟨hl, hr⟩ := h
 obtain ⟨l⟩ := cargs
 match l, hl with
 | [x, y], _ =>
  have h0 := hr 0 (by simp)
  have h1 := hr 1 (by simp)
  simp [Array.getD] at h0 h1
  obtain rfl := int_inv h0
  obtain rfl := int_inv h1
  rfl
theorem HasPrefix_c (s p : List UInt8) (h : Heap) (hg : h 0 = some .gint) (R : AV → Heap → Prop) (hR : R (.bool (Lib.hasPrefix s p)) h) : ACalls Tryz.prog 35 [.str s, .str p] h R := by
 refine acalls_str2 hg (fun a b m w ea eb hm => ?_) hR
 subst ea eb
 refine (Tryz.strings_HasPrefix a b w).mono ?_
 rintro e w' ⟨rfl, rfl⟩
 exact ⟨⟨_, rfl, fun F => .bool _⟩, 0, rfl⟩
theorem SIndex_c (s sub : List UInt8) (hs : s.length < 4294967281) (h : Heap) (hg : h 0 = some .gint) (R : AV → Heap → Prop) (hR : R (.int .i64 (Lib.index s sub)) h) : ACalls Tryz.prog 56 [.str s, .str sub] h R := by
 refine acalls_str2 hg (fun a b m w ea eb hm => ?_) hR
 subst ea eb
 refine (Tryz.strings_Index a b m w (by simpa using hs) hm).mono ?_
 rintro e w' ⟨rfl, rfl⟩
 exact ⟨⟨_, rfl, fun F => .int _ _⟩, 0, rfl⟩
theorem CutPrefix_c (s p : List UInt8) (h : Heap) (hg : h 0 = some .gint) (R : AV → Heap → Prop) (hR : R (.tup [.str (Lib.trimPrefix s p), .bool (Lib.hasPrefix s p)]) h) : ACalls Tryz.prog 100 [.str s, .str p] h R := by
 refine acalls_str2 hg (fun a b m w ea eb hm => ?_) hR
 subst ea eb
 refine (Tryz.strings_CutPrefix a b w).mono ?_
 rintro e w' ⟨rfl, rfl⟩
 refine ⟨⟨_, rfl, fun F => .tup _ _ rfl fun i hi => ?_⟩, 0, rfl⟩
 have hi' : i < 2 := hi
 match i, hi' with
 | 0, _ => exact .str _ _ rfl
 | 1, _ => exact .bool _
theorem TrimLeft_c (s : List UInt8) (c : UInt8) (hc : c.toNat < 128) (h : Heap) (hg : h 0 = some .gint) (R : AV → Heap → Prop) (hR : R (.str (Lib.trimLeftB s c)) h) : ACalls Tryz.prog 101 [.str s, .str [c]] h R := by
 refine acalls_str2 hg (fun a b m w ea eb hm => ?_) hR
 subst ea
 have : b = ⟨#[c]⟩ := by
  cases b with
  | mk d => cases d with
   | mk l => simp at eb; rw [eb]
 subst this
 refine (Tryz.strings_TrimLeft_one a c hc w).mono ?_
 rintro e w' ⟨rfl, rfl⟩
 exact ⟨⟨_, rfl, fun F => .str _ _ rfl⟩, 0, rfl⟩
theorem IndexByte_c (s : List UInt8) (c : UInt8) (h : Heap) (R : AV → Heap → Prop) (hR : R (.int .i64 (Lib.indexByte s c)) h) : ACalls Tryz.prog 55 [.str s, .int .u8 c.toNat] h R := by
 intro w0 F w cargs hi ha
 obtain ⟨a, rfl, rfl⟩ := repL_str_int ha
 refine (Tryz.strings_IndexByte a c.toNat w).mono ?_
 rintro e w' ⟨rfl, rfl⟩
 have hc : ((c.toNat : Int).toNat.toUInt8) = c := by simp
 rw [hc]
 exact ⟨_, F, _, h, rfl, .refl F, hi, .int _ _, hR⟩
theorem Mul64_c (x y : Nat) (hx : x < 18446744073709551616) (hy : y < 18446744073709551616) (h : Heap) (R : AV → Heap → Prop) (hR : R (.tup [.int .u64 ((x * y / 18446744073709551616 : Nat) : Int), .int .u64 ((x * y % 18446744073709551616 : Nat) : Int)]) h) :
  ACalls Tryz.prog 74 [.int .u64 x, .int .u64 y] h R := by
 intro w0 F w cargs hi ha
 obtain rfl := repL_int2 ha
 refine (Tryz.bits_Mul64 x y hx hy w).mono ?_
 rintro e w' ⟨rfl, rfl⟩
 refine ⟨_, F, _, h, rfl, .refl F, hi, .tup _ _ rfl fun i hi => ?_, hR⟩
 have hi' : i < 2 := hi
 match i, hi' with
 | 0, _ => exact .int _ _
 | 1, _ => exact .int _ _
theorem Repeat_c (s : List UInt8) (c : Nat) (hc : c ≤ 100000) (hs : s.length ≤ 100000) (h : Heap) (R : AV → Heap → Prop) (hR : R (.str (Lib.repeatL s c)) h) : ACalls Tryz.prog 16 [.str s, .int .i64 c] h R := by
 intro w0 F w cargs hi ha
 obtain ⟨a, rfl, rfl⟩ := repL_str_int ha
 have hsz : a.size = a.data.toList.length := by simp
 refine (Tryz.strings_Repeat a c w (by omega) (by rw [hsz]; exact Nat.le_trans (Nat.mul_le_mul hs hc) (by decide))).mono ?_
 rintro e w' ⟨rfl, hb⟩
 exact ⟨_, F, _, h, rfl, .refl F, hi.of_below hb, .str _ _ rfl, hR⟩
theorem letter_c (c : UInt8) (h : Heap) (R : AV → Heap → Prop) (hR : R (.bool (letterX c)) h) : ACalls Tryz.prog 58 [.int .u8 c.toNat] h R := by
 refine ACalls.pure ?_ hR
 clear hR
 have e1 : letterX c = ((decide (97 ≤ c.toNat) && decide (c.toNat ≤ 122)) || (decide (65 ≤ c.toNat) && decide (c.toNat ≤ 90)) || decide (c.toNat = 95)) := by
  unfold letterX
  simp only [UInt8.le_iff_toNat_le, ← UInt8.toNat_inj]
  rfl
 rw [e1]
 obtain ⟨n, hn⟩ : ∃ n, c.toNat = n := ⟨_, rfl⟩
 rw [hn]
 clear e1 hn
 by_cases h1 : 97 ≤ n
 ·by_cases h2 : n ≤ 122
  ·refine acalls_of Tryz.func58 rfl Tryz.ntmps58 (congrArg Array.toList Tryz.results58) fun Q hQ => ?_
   (focus repeat' first|refine ga ?_|(refine gb ?_;try simp[gz, *])|refine gk fun _ _=>?_|refine gc ?_ ?_|exact gr _|refine gi fun _=>?_|(refine gn ?_ ?_;focus(intros;simp[*];done)))
   all_goals first | exact Sub.refl _ | (simp [*]; done) | exact ⟨by rw [Bool.eq_iff_iff]; simp only [Bool.or_eq_true, Bool.and_eq_true, decide_eq_true_eq]; omega, Sub.refl _⟩
  ·have h3 : ¬ n ≤ 90 := by omega
   have h4 : ¬ n = 95 := by omega
   by_cases h5 : 65 ≤ n
   ·refine acalls_of Tryz.func58 rfl Tryz.ntmps58 (congrArg Array.toList Tryz.results58) fun Q hQ => ?_
    (focus repeat' first|refine ga ?_|(refine gb ?_;try simp[gz, *])|refine gk fun _ _=>?_|refine gc ?_ ?_|exact gr _|refine gi fun _=>?_|(refine gn ?_ ?_;focus(intros;simp[*];done)))
    all_goals first | exact Sub.refl _ | (simp [*]; done) | exact ⟨by rw [Bool.eq_iff_iff]; simp only [Bool.or_eq_true, Bool.and_eq_true, decide_eq_true_eq]; omega, Sub.refl _⟩
   ·omega
 ·by_cases h5 : 65 ≤ n
  ·by_cases h6 : n ≤ 90
   ·refine acalls_of Tryz.func58 rfl Tryz.ntmps58 (congrArg Array.toList Tryz.results58) fun Q hQ => ?_
    (focus repeat' first|refine ga ?_|(refine gb ?_;try simp[gz, *])|refine gk fun _ _=>?_|refine gc ?_ ?_|exact gr _|refine gi fun _=>?_|(refine gn ?_ ?_;focus(intros;simp[*];done)))
    all_goals first | exact Sub.refl _ | (simp [*]; done) | exact ⟨by rw [Bool.eq_iff_iff]; simp only [Bool.or_eq_true, Bool.and_eq_true, decide_eq_true_eq]; omega, Sub.refl _⟩
   ·refine acalls_of Tryz.func58 rfl Tryz.ntmps58 (congrArg Array.toList Tryz.results58) fun Q hQ => ?_
    (focus repeat' first|refine ga ?_|(refine gb ?_;try simp[gz, *])|refine gk fun _ _=>?_|refine gc ?_ ?_|exact gr _|refine gi fun _=>?_|(refine gn ?_ ?_;focus(intros;simp[*];done)))
    all_goals first | exact Sub.refl _ | (simp [*]; done) | exact ⟨by rw [Bool.eq_iff_iff]; simp only [Bool.or_eq_true, Bool.and_eq_true, decide_eq_true_eq]; omega, Sub.refl _⟩
  ·have h7 : ¬ n = 95 := by omega
   refine acalls_of Tryz.func58 rfl Tryz.ntmps58 (congrArg Array.toList Tryz.results58) fun Q hQ => ?_
   (focus repeat' first|refine ga ?_|(refine gb ?_;try simp[gz, *])|refine gk fun _ _=>?_|refine gc ?_ ?_|exact gr _|refine gi fun _=>?_|(refine gn ?_ ?_;focus(intros;simp[*];done)))
   all_goals first | exact Sub.refl _ | (simp [*]; done) | exact ⟨by rw [Bool.eq_iff_iff]; simp only [Bool.or_eq_true, Bool.and_eq_true, decide_eq_true_eq]; omega, Sub.refl _⟩
theorem digit_c (c : UInt8) (h : Heap) (R : AV → Heap → Prop) (hR : R (.bool (digitX c)) h) : ACalls Tryz.prog 60 [.int .u8 c.toNat] h R := by
 refine ACalls.pure ?_ hR
 clear hR
 have e1 : digitX c = (decide (48 ≤ c.toNat) && decide (c.toNat ≤ 57)) := by
  unfold digitX
  simp only [UInt8.le_iff_toNat_le]
  rfl
 rw [e1]
 obtain ⟨n, hn⟩ : ∃ n, c.toNat = n := ⟨_, rfl⟩
 rw [hn]
 clear e1 hn
 by_cases h1 : 48 ≤ n
 ·refine acalls_of Tryz.func60 rfl Tryz.ntmps60 (congrArg Array.toList Tryz.results60) fun Q hQ => ?_
  (focus repeat' first|refine ga ?_|(refine gb ?_;try simp[gz, *])|refine gk fun _ _=>?_|refine gc ?_ ?_|exact gr _|refine gi fun _=>?_|(refine gn ?_ ?_;focus(intros;simp[*];done)))
  all_goals first | exact Sub.refl _ | (simp [*]; done) | exact ⟨by rw [Bool.eq_iff_iff]; simp only [Bool.or_eq_true, Bool.and_eq_true, decide_eq_true_eq]; omega, Sub.refl _⟩
 ·refine acalls_of Tryz.func60 rfl Tryz.ntmps60 (congrArg Array.toList Tryz.results60) fun Q hQ => ?_
  (focus repeat' first|refine ga ?_|(refine gb ?_;try simp[gz, *])|refine gk fun _ _=>?_|refine gc ?_ ?_|exact gr _|refine gi fun _=>?_|(refine gn ?_ ?_;focus(intros;simp[*];done)))
  all_goals first | exact Sub.refl _ | (simp [*]; done) | exact ⟨by rw [Bool.eq_iff_iff]; simp only [Bool.or_eq_true, Bool.and_eq_true, decide_eq_true_eq]; omega, Sub.refl _⟩
theorem word_c (c : UInt8) (h : Heap) (R : AV → Heap → Prop) (hR : R (.bool (wordX c)) h) : ACalls Tryz.prog 98 [.int .u8 c.toNat] h R := by
 refine ACalls.pure ?_ hR
 clear hR
 refine acalls_of Tryz.func98 rfl Tryz.ntmps98 (congrArg Array.toList Tryz.results98) fun Q hQ => ?_
 (focus repeat' first|refine ga ?_|(refine gb ?_;try simp[gz, *])|refine gk fun _ _=>?_|refine gc ?_ ?_|exact gr _|refine gi fun _=>?_|(refine gn ?_ ?_;focus(intros;simp[*];done)))
 refine letter_c c _ _ ?_
 cases hl : letterX c
 ·simp [gz, *]
  (focus repeat' first|refine ga ?_|(refine gb ?_;try simp[gz, *])|refine gk fun _ _=>?_|refine gc ?_ ?_|exact gr _|refine gi fun _=>?_|(refine gn ?_ ?_;focus(intros;simp[*];done)))
  refine digit_c c _ _ ?_
  simp [gz, *]
  (focus repeat' first|refine ga ?_|(refine gb ?_;try simp[gz, *])|refine gk fun _ _=>?_|refine gc ?_ ?_|exact gr _|refine gi fun _=>?_|(refine gn ?_ ?_;focus(intros;simp[*];done)))
  all_goals first | exact ⟨by simp [wordX, *], Sub.refl _⟩ | exact Sub.refl _ | (simp [wordX, *]; done)
 ·simp [gz, *]
  (focus repeat' first|refine ga ?_|(refine gb ?_;try simp[gz, *])|refine gk fun _ _=>?_|refine gc ?_ ?_|exact gr _|refine gi fun _=>?_|(refine gn ?_ ?_;focus(intros;simp[*];done)))
  all_goals first | exact ⟨by simp [wordX, *], Sub.refl _⟩ | exact Sub.refl _ | (simp [wordX, *]; done)
end Go.Proofs.YtcbgpjlcfkkdlaaGreatDoor

namespace Go.Proofs.YtcbgpjlcfkkdlaaGreatDoor
open Go Go.AL Go.Proofs
def signsB : List UInt8 := [62, 62, 62, 32, 60, 61, 62, 32, 60, 45, 32, 60, 60, 32, 62, 62, 32, 60, 61, 32, 62, 61, 32, 61, 61, 32, 33, 61, 32, 38, 38, 32, 124, 124, 32, 43, 43, 32, 45, 45, 32, 43, 61, 32, 45, 61, 32, 42, 61, 32, 47, 61, 32, 37, 61, 32, 58, 58, 32, 43, 32, 45, 32, 42, 32, 47, 32, 37, 32, 61, 32, 60, 32, 62, 32, 33, 32, 126, 32, 38, 32, 124, 32, 94, 32, 63, 32, 58, 32, 59, 32, 44, 32, 46, 32, 40, 32, 41, 32, 123, 32, 125, 32, 91, 32, 93]
theorem signs_split : Lib.split signsB [32] = signsW := by decide +kernel
abbrev signRows : List (List AV) := signsW.map fun p => [.str p]
abbrev lxRow (s : List UInt8) (i : Nat) (b : Bool) : List AV := [.str s, .int .i64 i, .bool b, .list 1 signRows .full]
structure Lx (B h : Heap) (s : List UInt8) (i : Nat) (b : Bool) (l : Nat) : Prop where
 sub : AL.Sub B h
 free : B l = none
 blk : h l = some (.cells (lxRow s i b))
section
variable {B h : Heap} {s : List UInt8} {i : Nat} {b : Bool} {l : Nat}
theorem Lx.put (lx : Lx B h s i b l) (i' : Nat) (b' : Bool) : Lx B (h.set l (.cells (lxRow s i' b'))) s i' b' l := ⟨lx.sub.loc lx.free _, lx.free, Heap.set_same _ _ _⟩
theorem Lx.isNone (lx : Lx B h s i b l) {c : Nat} (hc : h c = none) : B c = none := by
 cases e : B c with
 | none => rfl
 | some x => rw [lx.sub _ _ e] at hc; cases hc
theorem Lx.new (lx : Lx B h s i b l) {c : Nat} (hc : h c = none) (x : Blk) : Lx (B.set c x) (h.set c x) s i b l := by
 have hcl : ¬ l = c := fun e => by rw [← e, lx.blk] at hc; cases hc
 exact ⟨lx.sub.upd c x, by rw [Heap.set_other _ _ _ _ hcl]; exact lx.free, by rw [Heap.set_other _ _ _ _ hcl]; exact lx.blk⟩
theorem Lx.extra (lx : Lx B h s i b l) {c : Nat} (hc : h c = none) (x : Blk) : Lx B (h.set c x) s i b l := by
 have hcl : ¬ l = c := fun e => by rw [← e, lx.blk] at hc; cases hc
 exact ⟨lx.sub.loc (lx.isNone hc) _, lx.free, by rw [Heap.set_other _ _ _ _ hcl]; exact lx.blk⟩
theorem Lx.drop {x : Blk} {c : Nat} (lx : Lx (B.set c x) h s i b l) (hc : B c = none) : Lx B h s i b l := by
 have hl : B l = none := by
  by_cases e : l = c
  ·rw [e]; exact hc
  ·have := lx.free; rwa [Heap.set_other _ _ _ _ e] at this
 exact ⟨fun q y hq => lx.sub q y (by rw [Heap.set_other _ _ _ _ (fun e => by rw [e, hc] at hq; cases hq)]; exact hq), hl, lx.blk⟩
end
def wspan (s : List UInt8) (i : Nat) : Nat := ((s.drop i).takeWhile wordX).length
theorem wspan_end {s : List UInt8} {i : Nat} (h : s.length ≤ i) : wspan s i = 0 := by unfold wspan; rw [List.drop_eq_nil_of_le h]; rfl
theorem wspan_yes {s : List UInt8} {i : Nat} (h : i < s.length) (hw : wordX s[i] = true) : wspan s i = wspan s (i + 1) + 1 := by
 unfold wspan
 rw [List.drop_eq_getElem_cons h, List.takeWhile_cons, hw, if_pos rfl]
 rfl
theorem wspan_no {s : List UInt8} {i : Nat} (h : i < s.length) (hw : wordX s[i] = false) : wspan s i = 0 := by
 unfold wspan
 rw [List.drop_eq_getElem_cons h, List.takeWhile_cons, hw]
 rfl
theorem wspan_le {s : List UInt8} {i : Nat} (h : i ≤ s.length) : i + wspan s i ≤ s.length := by
 have h1 := (List.takeWhile_prefix (p := wordX) (l := s.drop i)).length_le
 rw [List.length_drop] at h1
 unfold wspan
 omega
def spanW (s : List UInt8) (i : Nat) : List UInt8 := (s.drop i).take (wspan s i)
theorem while_c (s : List UInt8) (i : Nat) (b : Bool) (l : Nat) (hi : i ≤ s.length) (hs : s.length ≤ 262144) (B h : Heap) (lx : Lx B h s i b l) (R : AV → Heap → Prop) (hR : ∀ g, Lx B g s (i + wspan s i) b l → R (.str (spanW s i)) g) :
  ACalls Tryz.prog 97 [.ptr l 0, .fn 98 []] h R := by
 have hl := lx.blk
 have hfin := wspan_le hi
 replace hR := Shut.mk hR
 refine acalls_of Tryz.func97 rfl Tryz.ntmps97 (congrArg Array.toList Tryz.results97) fun Q hQ => ?_
 (focus repeat' first|refine ga ?_|(refine gb ?_;try simp[gz, *])|refine gk fun _ _=>?_|refine gc ?_ ?_|exact gr _|refine gi fun _=>?_|(refine gn ?_ ?_;focus(intros;simp[*];done)))
 refine awp_loop_h [10,11,12,13,14,15,16,17,18,19,20,21,22,23,24,25,26,27,28,29,30,31,32,33,34,35,36,37,38,39] (fun n x g => ∃ j : Nat, i ≤ j ∧ j ≤ s.length ∧ n = s.length - j ∧ wspan s j + (j - i) = wspan s i ∧ Lx B g s j b l) (s.length - i) ⟨i, by omega, hi, rfl, by omega, lx⟩ (fun n x g hI K hK => ?_)
 clear hl lx
 obtain ⟨j, h1, h2, rfl, h3, lx⟩ := hI
 have hl := lx.blk
 have w1 : IntKind.i64.wrap ((j : Int) + 1) = ((j + 1 : Nat) : Int) := by rw [w64 (by omega) (by omega)]; omega
 by_cases hj : j < s.length
 ·have hji : (j : Int) < s.length := by omega
  have hget : s[j]? = some s[j] := List.getElem?_eq_getElem hj
  obtain ⟨c, hc⟩ : ∃ c, s[j] = c := ⟨_, rfl⟩
  rw [hc] at hget
  cases hw : wordX c
  ·have e1 : wspan s j = 0 := wspan_no hj (by rw [hc]; exact hw)
   have e2 : j = i + wspan s i := by omega
   have hfi := hR.out g (e2 ▸ lx)
   have e3 : spanW s i = (s.take j).drop i := by unfold spanW; rw [List.drop_take, e2, Nat.add_sub_cancel_left]
   rw [e3] at hfi
   replace hfi := Shut.mk hfi
   clear e1 e2 e3 h3 hfin
   refine awp_eqs (s' := [_,_,_,_,_,_,_,_,_,_,x 10,x 11,x 12,x 13,x 14,x 15,x 16,x 17,x 18,x 19,x 20,x 21,x 22,x 23,x 24,x 25,x 26,x 27,x 28,x 29,x 30,x 31,x 32,x 33,x 34,x 35,x 36,x 37,x 38,x 39,_,_,_,_,_,_,_,_,_,_]) rfl ?_
   (focus repeat' first|refine ga ?_|(refine gb ?_;try simp[gz, *])|refine gk fun _ _=>?_|refine gc ?_ ?_|exact gr _|refine gi fun _=>?_|(refine gn ?_ ?_;focus(intros;simp[*];done)))
   refine awp_region_draw [l] [(0,true),(1,true),(2,true),(3,true),(4,true),(5,true),(6,true),(7,true),(8,true),(9,true),(10,true),(11,true),(12,true),(13,true),(14,true),(15,true),(16,true),(17,true),(18,true),(19,true),(20,true),(21,false),(22,true)] [] follows (by kernel_rfl) rfl (by kernel_rfl) ?_; simp [gz, Heap.plus_set, *]
   (focus repeat' first|refine ga ?_|(refine gb ?_;try simp[gz, *])|refine gk fun _ _=>?_|refine gc ?_ ?_|exact gr _|refine gi fun _=>?_|(refine gn ?_ ?_;focus(intros;simp[*];done)))
   refine word_c c _ _ ?_
   rw [hw]
   simp [gz, *]
   (focus repeat' first|refine ga ?_|(refine gb ?_;try simp[gz, *])|refine gk fun _ _=>?_|refine gc ?_ ?_|exact gr _|refine gi fun _=>?_|(refine gn ?_ ?_;focus(intros;simp[*];done)))
   refine awp_region_quiet follows (by kernel_rfl) ?_; simp [gz, *]
   (focus repeat' first|refine ga ?_|(refine gb ?_;try simp[gz, *])|refine gk fun _ _=>?_|refine gc ?_ ?_|exact gr _|refine gi fun _=>?_|(refine gn ?_ ?_;focus(intros;simp[*];done)))
   all_goals first | exact hfi.out
  ·have e1 : wspan s j = wspan s (j + 1) + 1 := wspan_yes hj (by rw [hc]; exact hw)
   have lx2 := lx.put (j + 1) b
   refine awp_eqs (s' := [_,_,_,_,_,_,_,_,_,_,x 10,x 11,x 12,x 13,x 14,x 15,x 16,x 17,x 18,x 19,x 20,x 21,x 22,x 23,x 24,x 25,x 26,x 27,x 28,x 29,x 30,x 31,x 32,x 33,x 34,x 35,x 36,x 37,x 38,x 39,_,_,_,_,_,_,_,_,_,_]) rfl ?_
   (focus repeat' first|refine ga ?_|(refine gb ?_;try simp[gz, *])|refine gk fun _ _=>?_|refine gc ?_ ?_|exact gr _|refine gi fun _=>?_|(refine gn ?_ ?_;focus(intros;simp[*];done)))
   refine awp_region_draw [l] [(0,true),(1,true),(2,true),(3,true),(4,true),(5,true),(6,true),(7,true),(8,true),(9,true),(10,true),(11,true),(12,true),(13,true),(14,true),(15,true),(16,true),(17,true),(18,true),(19,true),(20,true),(21,false),(22,true)] [] follows (by kernel_rfl) rfl (by kernel_rfl) ?_; simp [gz, Heap.plus_set, *]
   (focus repeat' first|refine ga ?_|(refine gb ?_;try simp[gz, *])|refine gk fun _ _=>?_|refine gc ?_ ?_|exact gr _|refine gi fun _=>?_|(refine gn ?_ ?_;focus(intros;simp[*];done)))
   refine word_c c _ _ ?_
   rw [hw]
   simp [gz, *]
   (focus repeat' first|refine ga ?_|(refine gb ?_;try simp[gz, *])|refine gk fun _ _=>?_|refine gc ?_ ?_|exact gr _|refine gi fun _=>?_|(refine gn ?_ ?_;focus(intros;simp[*];done)))
   exact ⟨by kernel_rfl, rfl, s.length - (j + 1), _, by omega, Sub.refl _, j + 1, by omega, by omega, rfl, by omega, lx2⟩
 ·have hji : ¬ (j : Int) < s.length := by omega
  have e1 : wspan s j = 0 := wspan_end (by omega)
  have e2 : j = i + wspan s i := by omega
  have hfi := hR.out g (e2 ▸ lx)
  have e3 : spanW s i = (s.take j).drop i := by unfold spanW; rw [List.drop_take, e2, Nat.add_sub_cancel_left]
  rw [e3] at hfi
  replace hfi := Shut.mk hfi
  clear e1 e2 e3 h3 hfin
  refine awp_eqs (s' := [_,_,_,_,_,_,_,_,_,_,x 10,x 11,x 12,x 13,x 14,x 15,x 16,x 17,x 18,x 19,x 20,x 21,x 22,x 23,x 24,x 25,x 26,x 27,x 28,x 29,x 30,x 31,x 32,x 33,x 34,x 35,x 36,x 37,x 38,x 39,_,_,_,_,_,_,_,_,_,_]) rfl ?_
  (focus repeat' first|refine ga ?_|(refine gb ?_;try simp[gz, *])|refine gk fun _ _=>?_|refine gc ?_ ?_|exact gr _|refine gi fun _=>?_|(refine gn ?_ ?_;focus(intros;simp[*];done)))
  refine awp_region_draw [l] [(0,true),(1,true),(2,true),(3,true),(4,true),(5,true),(6,true),(7,true),(8,true),(9,true),(10,true),(11,true),(12,true),(13,true),(14,true),(15,true),(16,true),(17,true),(18,true),(19,true),(20,true),(21,false),(22,true)] [] follows (by kernel_rfl) rfl (by kernel_rfl) ?_; simp [gz, Heap.plus_set, *]
  (focus repeat' first|refine ga ?_|(refine gb ?_;try simp[gz, *])|refine gk fun _ _=>?_|refine gc ?_ ?_|exact gr _|refine gi fun _=>?_|(refine gn ?_ ?_;focus(intros;simp[*];done)))
  refine awp_region_quiet follows (by kernel_rfl) ?_; simp [gz, *]
  (focus repeat' first|refine ga ?_|(refine gb ?_;try simp[gz, *])|refine gk fun _ _=>?_|refine gc ?_ ?_|exact gr _|refine gi fun _=>?_|(refine gn ?_ ?_;focus(intros;simp[*];done)))
  all_goals first | exact hfi.out
end Go.Proofs.YtcbgpjlcfkkdlaaGreatDoor

