import Derived.Test.YtmnkalojpefclaaDoorI
import Derived.Test.YtmnkalojpefclaaDoorL
import Derived.Test.YtmnkalojpefclaaDoorT
set_option linter.unusedSimpArgs false
set_option linter.unusedVariables false
namespace Go.Proofs.YtmnkalojpefclaaDoor
open Go Go.AL Go.Proofs
def kidLoop (i : Nat) : List Int → List Bool → List Int → Int ⊕ (List Bool × List Int)
  | [], o, d => .inr (o, d)
  | k :: ks, o, d =>
    if k < -1 ∨ (i : Int) ≤ k then .inl 3
    else if k < 0 then kidLoop i ks o d
    else if o.getD k.toNat false = true then .inl 4
    else kidLoop i ks (o.set k.toNat true) (d.set i (max (d.getD i 0) (d.getD k.toNat 0 + 1)))
def lastL (nodes : List Nd) (o : List Bool) : Int × Int :=
  if ¬ kindAt nodes (nodes.length - 1 : Int) = 26 then (30, nodes.length - 1)
  else if 0 ≤ firstNo (o.take (nodes.length - 1)) then (3, firstNo (o.take (nodes.length - 1)))
  else (0, 0)
def runG (form : Nd → Bool) (good : List Nd → Nd → Bool) (nodes : List Nd) : List Nd → Nat → List Bool → List Int → Int × Int
  | [], _, o, _ => lastL nodes o
  | n :: ns, i, o, d =>
    if form n = false then (5, i)
    else match kidLoop i n.kids o d with
      | .inl c => (c, i)
      | .inr (o', d') => if good nodes n = false then (30, i) else if 200 < d'.getD i 0 then (6, i) else runG form good nodes ns (i + 1) o' d'
def checkG (form : Nd → Bool) (good : List Nd → Nd → Bool) (nodes : List Nd) : Int × Int :=
  if nodes = [] ∨ 131072 < nodes.length then (2, 0) else runG form good nodes nodes 0 (List.replicate nodes.length false) (List.replicate nodes.length 0)
def formL (n : Nd) : Bool := decide (1 ≤ n.kind) && decide (n.kind < 44) && decide (0 ≤ n.pos) && textL n.kind n.text n.num
def checkL (nodes : List Nd) : Int × Int := checkG formL kidsL nodes
abbrev runL (nodes : List Nd) (i : Nat) (o : List Bool) (d : List Int) : Int × Int := runG formL kidsL nodes (nodes.drop i) i o d

/-- What is known of a node, by its type alone. -/
structure NdOk (n : Nd) : Prop where
  text : n.text.length < 4294967200
  kids : n.kids.length ≤ 281474976710656
  num : n.num ≤ 9223372036854775807

theorem run_form {nodes : List Nd} {i : Nat} {o : List Bool} {d : List Int} (hi : i < nodes.length) (h : formL nodes[i] = false) : runL nodes i o d = (5, (i : Int)) := by
  rw [runL, List.drop_eq_getElem_cons hi]; simp only [runG, h, if_true]
theorem run_kid {nodes : List Nd} {i : Nat} {o : List Bool} {d : List Int} {c : Int} (hi : i < nodes.length) (h : formL nodes[i] = true) (hk : kidLoop i nodes[i].kids o d = .inl c) : runL nodes i o d = (c, (i : Int)) := by
  rw [runL, List.drop_eq_getElem_cons hi]; simp only [runG, h, hk]; rfl
theorem run_good {nodes : List Nd} {i : Nat} {o o' : List Bool} {d d' : List Int} (hi : i < nodes.length) (h : formL nodes[i] = true) (hk : kidLoop i nodes[i].kids o d = .inr (o', d')) (hg : kidsL nodes nodes[i] = false) : runL nodes i o d = (30, (i : Int)) := by
  rw [runL, List.drop_eq_getElem_cons hi]; simp only [runG, h, hk, hg]; rfl
theorem run_deep {nodes : List Nd} {i : Nat} {o o' : List Bool} {d d' : List Int} (hi : i < nodes.length) (h : formL nodes[i] = true) (hk : kidLoop i nodes[i].kids o d = .inr (o', d')) (hg : kidsL nodes nodes[i] = true) (hd : 200 < d'.getD i 0) : runL nodes i o d = (6, (i : Int)) := by
  rw [runL, List.drop_eq_getElem_cons hi]; simp only [runG, h, hk, hg, hd]; rfl
theorem run_next {nodes : List Nd} {i : Nat} {o o' : List Bool} {d d' : List Int} (hi : i < nodes.length) (h : formL nodes[i] = true) (hk : kidLoop i nodes[i].kids o d = .inr (o', d')) (hg : kidsL nodes nodes[i] = true) (hd : ¬ 200 < d'.getD i 0) : runL nodes i o d = runL nodes (i + 1) o' d' := by
  rw [runL, List.drop_eq_getElem_cons hi]; simp only [runG, h, hk, hg, hd]; rfl
theorem run_last {nodes : List Nd} {i : Nat} {o : List Bool} {d : List Int} (hi : nodes.length ≤ i) : runL nodes i o d = lastL nodes o := by
  rw [runL, List.drop_eq_nil_of_le hi]; rfl

theorem kid_miss {i : Nat} {ks : List Int} {j : Nat} {o : List Bool} {d : List Int} (hj : j < ks.length) (h : ks[j] < -1 ∨ (i : Int) ≤ ks[j]) : kidLoop i (ks.drop j) o d = .inl 3 := by
  rw [List.drop_eq_getElem_cons hj]; simp only [kidLoop, h, if_true]
theorem kid_none {i : Nat} {ks : List Int} {j : Nat} {o : List Bool} {d : List Int} (hj : j < ks.length) (h : ks[j] = -1) : kidLoop i (ks.drop j) o d = kidLoop i (ks.drop (j + 1)) o d := by
  rw [List.drop_eq_getElem_cons hj]
  have : ¬ ((i : Int) ≤ -1) := by omega
  simp [kidLoop, h, this]
theorem kid_twice {i : Nat} {ks : List Int} {j m : Nat} {o : List Bool} {d : List Int} (hj : j < ks.length) (h : ks[j] = (m : Int)) (hm : m < i) (ho : o.getD m false = true) : kidLoop i (ks.drop j) o d = .inl 4 := by
  rw [List.drop_eq_getElem_cons hj]
  have h1 : ¬ ((m : Int) < -1 ∨ (i : Int) ≤ m) := by omega
  have h2 : ¬ ((m : Int) < 0) := by omega
  simp only [kidLoop, h, h1, h2, if_false, Int.toNat_natCast, ho, if_true]
theorem kid_next {i : Nat} {ks : List Int} {j m : Nat} {o : List Bool} {d : List Int} (hj : j < ks.length) (h : ks[j] = (m : Int)) (hm : m < i) (ho : o.getD m false = false) :
    kidLoop i (ks.drop j) o d = kidLoop i (ks.drop (j + 1)) (o.set m true) (d.set i (max (d.getD i 0) (d.getD m 0 + 1))) := by
  rw [List.drop_eq_getElem_cons hj]
  have h1 : ¬ ((m : Int) < -1 ∨ (i : Int) ≤ m) := by omega
  have h2 : ¬ ((m : Int) < 0) := by omega
  simp only [kidLoop, h, h1, h2, if_false, Int.toNat_natCast, ho, Bool.false_eq_true]
theorem kid_end {i : Nat} {ks : List Int} {j : Nat} {o : List Bool} {d : List Int} (hj : ks.length ≤ j) : kidLoop i (ks.drop j) o d = .inr (o, d) := by
  rw [List.drop_eq_nil_of_le hj]; rfl
theorem shape_case (text : List UInt8) : shapeL 24 text = ([4097], 2) := by simp [shapeL]
theorem case_kids {nodes : List Nd} {n : Nd} (h : kidsL nodes n = true) (hk : n.kind = 24) : n.kids ≠ [] := by
  intro e
  simp [kidsL, hk, e, shape_case] at h

theorem splice_map {A : Type} (f : A → AV) (l : List A) (k : Nat) (x : A) (h : k < l.length) : splice (l.map f) k [f x] = (l.set k x).map f := by
  simp only [splice, List.length_singleton, List.set_eq_take_append_cons_drop, h, if_true, List.map_append, List.map_cons, List.map_take, List.map_drop, List.append_assoc, List.cons_append, List.nil_append]
/-- The memory while it is checked. -/
abbrev hck (h : Heap) (b1 b2 bo bd : Nat) (tree : AV) (r : List AV) (o : List Bool) (d : List Int) : Heap := (((h.set b1 (.cells [tree])).set b2 (.cells r)).set bo (.cells (bools o))).set bd (.cells (nums d))
end Go.Proofs.YtmnkalojpefclaaDoor
