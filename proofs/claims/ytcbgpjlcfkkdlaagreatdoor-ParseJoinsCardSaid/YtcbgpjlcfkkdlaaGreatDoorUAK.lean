import Derived.Test.YtcbgpjlcfkkdlaaGreatDoorUAH
import Derived.Lib.LaidTab
import Derived.Lib.ItoaNum
import Derived.Sort.Grow
import Derived.Lib.Join
import Derived.Test.YtcbgpjlcfkkdlaaGreatDoorUAJ
set_option linter.unusedSimpArgs false
set_option linter.unusedVariables false
namespace Go.AL
open Go Go.RowKit
theorem Inv.of_below {w0 : Base} {F : Fin} {w w' : World} {h : Heap} (hi : Inv w0 F w h) (hb : Below w.heap.size w w') : Inv w0 F w' h := by
 refine ⟨⟨hb.os.trans hi.below.os, hb.tape.trans hi.below.tape, hb.output.trans hi.below.output, Nat.le_trans hi.below.size hb.size, hi.below.lt, fun k hk => (hb.block k ?_).trans (hi.below.block k hk)⟩, fun b o v e => ?_, hi.fin0, fun b x e => ?_⟩
 ·have h1 := hi.below.lt k hk
  have h2 := hi.below.size
  omega
 ·have h1 := hi.fin b o v e
  have h2 : w'.heap[b]? = w.heap[b]? := hb.block b (World.block_lt_of_cell? w _ h1.1)
  refine ⟨?_, h1.2⟩
  rw [← h1.1]
  simp only [World.cell?, h2]
 ·have h1 := hi.blk b x e
  exact ⟨h1.1, h1.2.of_block (hb.block b h1.2.lt)⟩
end Go.AL

namespace Go.AL
open Go Go.RowKit
section
variable {P : Program} {ops : Array Oper} {K : AAct → Heap → Prop}
theorem rvc_part {w0 : Base} {F0 : Fin} {Q : Exit → Act → World → Prop} {tail : List Oper} (hT : ∀ F' α' h' a' w', Mono F0 F' → Inv w0 F' w' h' → RepA F' a' α' → K α' h' → wpList P ops Q tail a' w') :
  ∀ (l : List Oper) (α : AAct) (h : Heap), rvc P ops K l α h → ∀ (F : Fin) (a : Act) (w : World), Mono F0 F → Inv w0 F w h → RepA F a α → wpList P ops Q (l ++ tail) a w
 | [], α, h, e, F, a, w, hm, hi, hr => hT F α h a w hm hi hr e
 | o :: rest, α, h, e, F, a, w, hm, hi, hr => by
  rw [List.cons_append]
  rw [rvc_cons] at e
  unfold ostep at e
  cases hg : guardAV ops α o.guard with
  | none => rw [hg] at e; exact e.elim
  | some c =>
   rw [hg] at e
   simp only at e
   have hw := guard_sound (ops := ops) (o := o) hr hg
   unfold wpList
   cases hp : pev P α h o with
   | some q =>
    obtain ⟨S, x⟩ := q
    rw [hp] at e
    simp only at e
    cases c with
    | true =>
     rw [if_pos hw]
     obtain ⟨v, h1, h2⟩ := pev_sound hp (e.1 rfl) w0 F a w hi hr
     left
     unfold Oper.wp
     rw [h2 w hi.like]
     exact rvc_part hT rest _ h e.2 F _ w hm hi (hr.put o.dst (rep_under rfl h1))
    | false =>
     rw [hw]
     simp only [Bool.false_eq_true, if_false]
     cases hgo : o.guard with
     | none => rw [hgo] at hg; simp [guardAV] at hg
     | some j =>
      rw [hgo] at e
      exact rvc_part hT rest _ h e.2 F _ w hm hi (hr.put o.dst rep_skip)
   | none =>
    rw [hp] at e
    simp only at e
    cases c with
    | true =>
     rw [if_pos hw]
     left
     exact veff_sound (e.1 rfl) w0 F a w _ _ hi (hr.known hg) fun F' α' h' a' w' m1 m2 m3 m4 => rvc_part hT rest α' h' m4 F' a' w' (hm.trans m1) m2 m3
    | false =>
     rw [hw]
     simp only [Bool.false_eq_true, if_false]
     exact rvc_part hT rest _ h (e.2 rfl) F _ w hm hi (AAct.put_any_rep (hr.known hg) _)
end
theorem awp_region_op {P : Program} {ops : Array Oper} {Q : APostT} {α : AAct} {h : Heap} {id : Nat} {pre rest : List Oper} {o : Oper} {T : AAct → Heap → (AAct → Heap → Prop) → Prop}
  (hops : ops.toList = pre ++ o :: rest) (hg : o.guard = none) (hT : ∀ α h K, T α h K → AOp P o α h K)
  (e : rvc P ops (fun α h => T α h (rvc P ops (Q .normal) rest)) pre α h) : awp P (.region id ops false) Q α h := by
 intro w0 F a w hi hr
 refine wp_mono (P := P) (wp_region_list (Q := RPost w0 F (Q .normal)) ?_) ?_
 ·rw [hops]
  refine rvc_part (F0 := F) (fun F' α' h' a' w' m1 m2 m3 m4 => ?_) pre α h e F a w (.refl F) hi hr
  unfold wpList
  have hw : Region.wanted o (yielded ops a'.tmps) = true := by simp [Region.wanted, hg]
  rw [if_pos hw]
  left
  exact hT α' h' _ m4 w0 F' a' w' _ _ m2 m3 fun F2 α2 h2 a2 w2 n1 n2 n3 n4 => rvc_sound rest α2 h2 n4 w0 F2 a2 w2 F (m1.trans n1) n2 n3
 ·rintro e a w ⟨rfl, F', α', h', h1, h2, h3, h4⟩
  exact ⟨F', α', h', h1, h2, h3, h4⟩
theorem aop_ext3 {P : Program} {o : Oper} {f : FuncId} {x y z : Operand} {ts : Array TypeId} (ho : o.op = .call { callee := .value (.func f), args := #[x, y, z], argTypes := ts })
  {R : Nat → Nat → Nat → Value} {A : Nat → Nat → Nat → AV} (hrun : ∀ a b c w, c ≤ 1 → (callFunc f #[.int .u64 (a : Nat), .int .u64 (b : Nat), .int .u64 (c : Nat)]).run P w = .ok (.value (R a b c)) w) (hA : ∀ F a b c, Rep F (R a b c) (A a b c))
  (na nb nc : Nat) (hc : nc ≤ 1) (α : AAct) (h : Heap) (K : AAct → Heap → Prop)
  (e : α.ev P 0 x = .int .u64 na ∧ α.ev P 0 y = .int .u64 nb ∧ α.ev P 0 z = .int .u64 nc ∧ K (α.put o.dst (A na nb nc)) h) : AOp P o α h K := by
 obtain ⟨ex, ey, ez, hk⟩ := e
 intro w0 F a w next Q hi hr hK
 have hx := hr.ev P 0 x
 have hy := hr.ev P 0 y
 have hz := hr.ev P 0 z
 rw [ex] at hx
 rw [ey] at hy
 rw [ez] at hz
 have inv : ∀ (v : Value) (k : IntKind) (n : Int), Rep F v (.int k n) → v = .int k n := fun v k n q => by cases q; rfl
 have hx' := inv _ _ _ hx
 have hy' := inv _ _ _ hy
 have hz' := inv _ _ _ hz
 have hr1 : (execOp a.eval o).run P w = .ok (.value (R na nb nc)) w := by
  have hm : (#[x, y, z] : Array Operand).map a.eval = #[.int .u64 (na : Nat), .int .u64 (nb : Nat), .int .u64 (nc : Nat)] := by simp [hx', hy', hz']
  have := hrun na nb nc w hc
  rw [← hm] at this
  unfold execOp
  rw [ho]
  have hf : a.eval (.func f) = .func (.func f) #[] #[] := rfl
  have hm2 : (#[x, y, z] : Array Operand).map a.eval = #[a.eval x, a.eval y, a.eval z] := by simp
  rw [hm2] at this
  simp [resolve, invoke, Deferred.ofValue, hf, this]
 unfold Oper.wp
 rw [hr1]
 exact hK F _ h _ w (.refl F) hi (hr.put o.dst (hA F na nb nc)) hk
end Go.AL

