import Derived.Test.YtcbgpjlcfkkdlaaGreatDoorSAS
import Derived.Test.YtcbgpjlcfkkdlaaGreatDoorSAJ
set_option linter.unusedSimpArgs false
set_option linter.unusedVariables false
set_option maxRecDepth 100000
set_option maxHeartbeats 16000000
namespace Go.Proofs.YtcbgpjlcfkkdlaaGreatDoor
open Go Go.AL Go.Proofs
def methOf : Op → Option (FuncId × List AV)
 | .stmt => some (22, [])
 | .word t => some (45, [.agg (tkRow t)])
 | .named t => some (82, [.agg (tkRow t)])
 | .locl a => some (80, [.int .i64 a])
 | .literal => some (85, [])
 | .enum a => some (86, [.int .i64 a])
 | .block => some (47, [])
 | .body => some (116, [])
 | .control t => some (79, [.agg (tkRow t)])
 | .paren => some (115, [])
 | .loop a => some (117, [.int .i64 a])
 | .foreach a => some (118, [.int .i64 a])
 | .cases a => some (119, [.int .i64 a])
 | .expr => some (49, [])
 | .cond a => some (87, [.int .i64 a])
 | .binary l => some (124, [.int .i64 l])
 | .unary => some (147, [])
 | .postf => some (153, [])
 | .some x => some (156, [.str x])
 | .primary => some (155, [])
 | .member => some (146, [])
 | .table => some (158, [])
 | .function => some (120, [])
 | .params a x => some (145, [.int .i64 a, .str x])
 | .clas => some (121, [])
 | _ => none
def resOf : Op → List Int → AV
 | .word _, l => .tup [.int .i64 (fst0 l), .bool (decide (l.getD 1 0 = 1))]
 | .member, l => .tup [.int .i64 (fst0 l), .int .i64 (l.getD 1 0)]
 | .some _, l => .list 1 (ints l) .no
 | _, l => .int .i64 (fst0 l)
def resK : Op → List Int → List Int
 | .some _, l => l
 | .member, l => [fst0 l, l.getD 1 0]
 | .word _, l => if l.getD 1 0 = 1 then [fst0 l] else []
 | _, l => [fst0 l]
end Go.Proofs.YtcbgpjlcfkkdlaaGreatDoor

namespace Go.Proofs.YtcbgpjlcfkkdlaaGreatDoor
open Go Go.AL Go.Proofs
def Heap.bk (B : Heap) : Tok → Heap
 | .own b k e => B.set b (.spare k e)
 | _ => B
section
variable {B h : Heap} {T : List Tk} {tt : Tok} {S : St} {r : Nat} {t1 t2 tk : Tok}
theorem bk_other {q : Nat} (hq : ∀ k e, tk ≠ .own q k e) : Heap.bk B tk q = B q := by
 cases tk with
 | own b k e => exact Heap.set_other _ _ _ _ (fun e1 => hq k e (by rw [e1]))
 | no => rfl
 | nil => rfl
 | full => rfl
theorem bk_none {q : Nat} (h : Heap.bk B tk q = none) : B q = none ∧ ∀ k e, tk ≠ .own q k e := by
 have h1 : ∀ k e, tk ≠ .own q k e := fun k e e1 => by
  subst e1
  simp [Heap.bk] at h
 exact ⟨by have e := bk_other (B := B) h1; rw [← e]; exact h, h1⟩
theorem bk_sub (hf : ∀ b k e, tk = .own b k e → B b = none) : AL.Sub B (Heap.bk B tk) := by
 cases tk with
 | own b k e => exact (Sub.refl B).loc (hf _ _ _ rfl) _
 | no => exact Sub.refl B
 | nil => exact Sub.refl B
 | full => exact Sub.refl B
theorem Own.growK (ho : Own (Heap.bk B tk) h T tt S r t1 t2) (hf : ∀ b k e, tk = .own b k e → B b = none) {b k e : Nat} (hb : SpareNew h tk b) :
  Own (Heap.bk B (.own b k e)) ((tk.rid h).set b (.spare k e)) T tt S r t1 t2 ∧ B b = none := by
 have hbb : ∀ q, Heap.bk B tk q = none → (∃ x, h q = some x) → ¬ q = b := fun q h1 ⟨x, h2⟩ e1 => by
  subst e1
  rcases hb with hb | ⟨k', e', hb⟩
  ·rw [hb] at h2; cases h2
  ·exact (bk_none h1).2 _ _ hb
 have hrb := hbb r ho.free ⟨_, ho.blk⟩
 have hat : ∀ q, ¬ q = b → Heap.bk B tk q = none → ((tk.rid h).set b (.spare k e)) q = h q := fun q h1 h2 => grown_plain h1 (bk_none h2).2
 have hBb : B b = none := by
  rcases hb with hb | ⟨k', e', hb⟩
  ·exact (bk_none (ho.isNone hb)).1
  ·exact hf _ _ _ hb
 have htk : ∀ t : Tok, TokIn h t → (∀ q k e, t = .own q k e → Heap.bk B tk q = none) → TokIn ((tk.rid h).set b (.spare k e)) t := fun t ht hq => by
  cases t with
  | own q k' e' =>
   have h1 : h q = some (.spare k' e') := ht
   show _ = _
   rw [hat q (hbb q (hq _ _ _ rfl) ⟨_, h1⟩) (hq _ _ _ rfl)]
   exact h1
  | no => exact ht.elim
  | nil => trivial
  | full => trivial
 have hfr : ∀ t : Tok, TokIn h t → (∀ q k e, t = .own q k e → Heap.bk B tk q = none) → ∀ q k' e', t = .own q k' e' → (B.set b (.spare k e)) q = none := fun t ht hq q k' e' e1 => by
  subst e1
  have h1 : h q = some (.spare k' e') := ht
  rw [Heap.set_other _ _ _ _ (hbb q (hq _ _ _ rfl) ⟨_, h1⟩)]
  exact (bk_none (hq _ _ _ rfl)).1
 refine ⟨⟨fun c x hc => ?_, ?_, by rw [hat r hrb ho.free]; exact ho.blk, htk _ ho.tk1 ho.fr1, htk _ ho.tk2 ho.fr2, hfr _ ho.tk1 ho.fr1, hfr _ ho.tk2 ho.fr2, ho.ap⟩, hBb⟩
 ·by_cases e1 : c = b
  ·subst e1
   have : x = .spare k e := by
    have h1 : (B.set c (.spare k e)) c = some x := hc
    rw [Heap.set_same] at h1
    injection h1 with h1
    exact h1.symm
   subst this
   exact Heap.set_same _ _ _
  ·have h1 : B c = some x := by
    have h2 : (B.set b (.spare k e)) c = some x := hc
    rwa [Heap.set_other _ _ _ _ e1] at h2
   have h3 : ∀ k e, tk ≠ .own c k e := fun k' e' q => by rw [hf _ _ _ q] at h1; cases h1
   rw [grown_plain e1 h3]
   exact ho.sub _ _ (by rw [bk_other h3]; exact h1)
 ·show (B.set b (.spare k e)) r = none
  rw [Heap.set_other _ _ _ _ hrb]
  exact (bk_none ho.free).1
end
theorem tokIn_bk {B g : Heap} {tk : Tok} (hs : AL.Sub (Heap.bk B tk) g) (hn : tk ≠ .no) : TokIn g tk := by
 cases tk with
 | own b k e => exact hs _ _ (Heap.set_same _ _ _)
 | no => exact absurd rfl hn
 | nil => trivial
 | full => trivial
end Go.Proofs.YtcbgpjlcfkkdlaaGreatDoor

namespace Go.Proofs.YtcbgpjlcfkkdlaaGreatDoor
open Go Go.AL Go.Proofs
theorem assign_split : Lib.split assignB [32] = assignW := by decide +kernel
theorem isAssign_eq (x : List UInt8) : amongL x assignB = isAssign x := by
 unfold amongL isAssign
 rw [assign_split, Bool.eq_iff_iff]
 simp
theorem Own.minus {B H : Heap} {T : List Tk} {tt : Tok} {S : St} {r : Nat} {t1 t2 : Tok} {b : Nat} {x : Blk} (ho : Own (B.set b x) H T tt S r t1 t2) (hb : B b = none) : Own B (H.minus [b]) T tt S r t1 t2 := by
 have hn : ∀ q, (B.set b x) q = none → ¬ q = b ∧ B q = none := fun q h1 => by
  have h2 : ¬ q = b := fun e => by rw [e, Heap.set_same] at h1; cases h1
  exact ⟨h2, by rwa [Heap.set_other _ _ _ _ h2] at h1⟩
 have hk : ∀ t : Tok, TokIn H t → (∀ q k e, t = .own q k e → (B.set b x) q = none) → TokIn (H.minus [b]) t := fun t ht hq => by
  cases t with
  | own q k e =>
   have h1 : H q = some (.spare k e) := ht
   have h2 := (hn q (hq _ _ _ rfl)).1
   simp [TokIn, h2, h1]
  | no => exact ht.elim
  | nil => trivial
  | full => trivial
 have hrb := (hn r ho.free).1
 refine ⟨fun c y hc => ?_, (hn r ho.free).2, by simp [hrb, ho.blk], hk _ ho.tk1 ho.fr1, hk _ ho.tk2 ho.fr2, fun q k e q1 => (hn q (ho.fr1 _ _ _ q1)).2, fun q k e q1 => (hn q (ho.fr2 _ _ _ q1)).2, ho.ap⟩
 have h1 : ¬ c = b := fun e => by rw [e, hb] at hc; cases hc
 have h2 := ho.sub c y (by rw [Heap.set_other _ _ _ _ h1]; exact hc)
 simp [h1, h2]
end Go.Proofs.YtcbgpjlcfkkdlaaGreatDoor

namespace Go.Proofs.YtcbgpjlcfkkdlaaGreatDoor
open Go Go.AL Go.Proofs
theorem Rd.w1 {T : List Tk} {S : St} (hv : Rd T S) : IntKind.i64.wrap ((S.idx : Int) + 1) = (S.idx : Int) + 1 := by
 have h1 := hv.top
 have h2 := hv.len
 exact w64 (by omega) (by omega)
theorem InK.one {S : St} {k : Int} (h : 0 ≤ k → k < S.nodes.length) : InK S [k] := InK.cons h InK.nil
theorem InK.neg {S : St} : InK S [-1] := InK.one fun h => absurd h (by decide)
theorem someLoop_len (T : List Tk) (stop : List UInt8) : ∀ n kids S l S', run T n (.someLoop stop kids) S = some (l, S') → l.length ≤ kids.length + n
 | 0, _, _, _, _, h => by simp [run] at h
 | n + 1, kids, S, l, S', h => by
  simp only [run] at h
  by_cases hc : S.fc = 0 ∧ isL T stop S = false
  ·rw [if_pos hc, Option.bind_eq_some_iff] at h
   obtain ⟨⟨l1, S1⟩, -, h2⟩ := h
   dsimp only at h2
   cases h4 : isL T [44] S1
   ·rw [h4, if_neg (by decide)] at h2
    simp only [Option.some.injEq, Prod.mk.injEq] at h2
    rw [← h2.1]
    simp only [List.length_append, List.length_singleton]
    omega
   ·rw [h4, if_pos rfl] at h2
    have := someLoop_len T stop n _ _ _ _ h2
    simp only [List.length_append, List.length_singleton] at this
    omega
  ·rw [if_neg hc] at h
   simp only [Option.some.injEq, Prod.mk.injEq] at h
   rw [← h.1]
   omega
theorem some_len {T : List Tk} {stop : List UInt8} {n : Nat} {S : St} {l : List Int} {S' : St} (h : run T n (.some stop) S = some (l, S')) : l.length ≤ n := by
 cases n with
 | zero => simp [run] at h
 | succ n =>
  simp only [run, Option.map_eq_some_iff] at h
  obtain ⟨⟨l1, S1⟩, h1, h2⟩ := h
  simp only [Prod.mk.injEq] at h2
  have := someLoop_len T stop n _ _ _ _ h1
  rw [← h2.1]
  simp only [List.length_nil] at this
  omega
theorem minus_minus {h : Heap} {a b : Nat} : (h.minus [b]).minus [a] = h.minus [a, b] := by
 funext c
 by_cases h1 : c = a
 ·subst h1; simp
 ·by_cases h2 : c = b
  ·subst h2; simp [h1]
  ·simp [h1, h2]
theorem minus_of_none {k H : Heap} {G : List Nat} (h : ∀ b ∈ G, k b = none) : (k.plus G H).minus G = k := by
 funext c
 by_cases e : c ∈ G
 ·simp [e, h c e]
 ·simp [e]
theorem fst0_one (a : Int) : fst0 [a] = a := rfl
theorem Weak.strs {a b : List UInt8} (h : a = b) : Weak (.str a) (.str b) := h ▸ Weak.refl _
theorem Weak.ints {a b : Int} (h : a = b) : Weak (.int .i64 a) (.int .i64 b) := h ▸ Weak.refl _
def Short (T : List Tk) : Prop := ∀ t ∈ T, t.text.length ≤ 1000000
theorem name_len {T : List Tk} (hs : Short T) (S : St) : (nameR T S).1.length ≤ 1000000 := by
 have hd : ∀ i, (T.getD i default).text.length ≤ 1000000 := fun i => by
  by_cases hi : i < T.length
  ·simp only [List.getD, List.getElem?_eq_getElem hi, Option.getD_some]
   exact hs _ (List.getElem_mem hi)
  ·simp only [List.getD, List.getElem?_eq_none (Nat.not_lt.1 hi), Option.getD_none]
   show ([] : List UInt8).length ≤ _
   simp
 unfold nameR
 split
 ·show (peekL T S).text.length ≤ _
  unfold peekL
  split
  ·exact hd _
  ·exact hd _
 ·simp
def faultL (e a : Int) (S : St) : St := { S with fc := e, fa := a }
theorem goes_fault {T : List Tk} {S : St} (hg : Good T S) (e a : Int) (he : ¬ e = 0) : Goes T S (faultL e a S) := goes_same ⟨fun h => absurd h he, hg.rd.top, hg.rd.len, hg.rd.ne, hg.rd.nl, hg.rd.last⟩ hg rfl rfl
theorem goes_down_step {T : List Tk} {S : St} (hg : Good T S) (hk : ¬ (peekL T S).kind = 6) : Goes T (downL T S) (stepL (downL T S)) := by
 have h1 := hg.rd.step hk
 have hp := h1.2.pos
 have h2 : S.idx + 1 < T.length := h1.2.pos h1.1
 have hd : (downL T S).idx = S.idx := by
  unfold downL
  simp only
  split
  ·unfold wrongL; split <;> rfl
  ·rfl
 have gd := (goes_down hg).good
 exact goes_same ⟨fun _ => by show (downL T S).idx + 1 < T.length; rw [hd]; exact h2, by show (downL T S).idx + 1 ≤ T.length; rw [hd]; omega, gd.rd.len, gd.rd.ne, gd.rd.nl, gd.rd.last⟩ gd rfl rfl
theorem Weak.toks {sz : Nat} {a b : List (List AV)} {t : Tok} (h : a = b) : Weak (.list sz a t) (.list sz b .no) := h ▸ Weak.tok _ _ _
theorem goes_wrong_step {T : List Tk} {S : St} (hg : Good T S) (hf : S.fc = 0) (e : Int) (he : ¬ e = 0) : Goes T (wrongL T e S) (stepL (wrongL T e S)) := by
 have hp := hg.rd.pos hf
 have h1 := (goes_wrong hg he).good
 have hw : wrongL T e S = { S with fc := e, fa := (peekL T S).pos } := by unfold wrongL; rw [if_pos hf]
 have hi : (wrongL T e S).idx = S.idx := by rw [hw]
 have hc : (wrongL T e S).fc = e := by rw [hw]
 exact goes_same ⟨fun h => absurd (hc ▸ h) he, by show (wrongL T e S).idx + 1 ≤ T.length; rw [hi]; omega, h1.rd.len, h1.rd.ne, h1.rd.nl, h1.rd.last⟩ h1 rfl rfl
theorem Own.setB {B h : Heap} {T : List Tk} {tt : Tok} {S : St} {r : Nat} {t1 t2 : Tok} {b : Nat} {x : Blk} (ho : Own (B.set b x) h T tt S r t1 t2) (hb : B b = none) (y : Blk) : Own (B.set b y) (h.set b y) T tt S r t1 t2 := by
 have hn : ∀ q, (B.set b x) q = none → ¬ q = b ∧ B q = none := fun q h1 => by
  have h2 : ¬ q = b := fun e => by rw [e, Heap.set_same] at h1; cases h1
  exact ⟨h2, by rwa [Heap.set_other _ _ _ _ h2] at h1⟩
 have hy : ∀ q, (B.set b x) q = none → (B.set b y) q = none := fun q h1 => by rw [Heap.set_other _ _ _ _ (hn q h1).1]; exact (hn q h1).2
 refine ⟨fun c z hc => ?_, hy _ ho.free, by rw [Heap.set_other _ _ _ _ (hn r ho.free).1]; exact ho.blk, tokIn_set ho.tk1 (fun q k e q1 => (hn q (ho.fr1 _ _ _ q1)).1), tokIn_set ho.tk2 (fun q k e q1 => (hn q (ho.fr2 _ _ _ q1)).1), fun q k e q1 => hy _ (ho.fr1 _ _ _ q1), fun q k e q1 => hy _ (ho.fr2 _ _ _ q1), ho.ap⟩
 by_cases e1 : c = b
 ·subst e1
  rw [Heap.set_same] at hc ⊢
  exact hc
 ·rw [Heap.set_other _ _ _ _ e1] at hc ⊢
  exact ho.sub c z (by rw [Heap.set_other _ _ _ _ e1]; exact hc)
theorem Own.del {B H : Heap} {T : List Tk} {tt : Tok} {S : St} {r : Nat} {t1 t2 : Tok} {b : Nat} {x : Blk} (ho : Own (B.set b x) H T tt S r t1 t2) (hb : B b = none) : Own B (H.del b) T tt S r t1 t2 := by
 have h1 : H.del b = H.minus [b] := by
  funext c
  by_cases e : c = b
  ·subst e; simp [Heap.del]
  ·simp [Heap.del, e]
 rw [h1]
 exact ho.minus hb
end Go.Proofs.YtcbgpjlcfkkdlaaGreatDoor

namespace Go.Proofs.YtcbgpjlcfkkdlaaGreatDoor
open Go Go.AL Go.Proofs
theorem step_split : Lib.split stepB [32] = stepW := by decide +kernel
theorem isStep_eq (x : List UInt8) : amongL x stepB = isStep x := by
 unfold amongL isStep
 rw [step_split, Bool.eq_iff_iff]
 simp
theorem unary_split : Lib.split [45, 32, 33, 32, 126, 32, 116, 121, 112, 101, 111, 102, 32, 99, 108, 111, 110, 101, 32, 114, 101, 115, 117, 109, 101, 32, 100, 101, 108, 101, 116, 101] [32] = unaryW := by decide +kernel
theorem isUnary_eq (x : List UInt8) : amongL x [45, 32, 33, 32, 126, 32, 116, 121, 112, 101, 111, 102, 32, 99, 108, 111, 110, 101, 32, 114, 101, 115, 117, 109, 101, 32, 100, 101, 108, 101, 116, 101] = isUnary x := by
 unfold amongL isUnary
 rw [unary_split, Bool.eq_iff_iff]
 simp
theorem levels_split : linesB.map (fun l => Lib.split l [32]) = levelsW := by decide +kernel
theorem level_eq (x : List UInt8) : levelL x = levelW x := by
 unfold levelL levelW
 rw [← levels_split, List.findIdx?_map]
 have : (fun l => decide (x ∈ Lib.split l [32])) = (fun l : List (List UInt8) => l.contains x) ∘ fun l => Lib.split l [32] := by
  funext l
  simp [Function.comp, Bool.eq_iff_iff]
 rw [this]
 rfl
theorem step_not {x : List UInt8} (h : isStep x = true) : isUnary x = false ∧ decide (x = [100, 101, 108, 101, 116, 101]) = false := by
 unfold isStep stepW at h
 simp only [List.contains_cons, List.contains_nil, Bool.or_false, Bool.or_eq_true, beq_iff_eq] at h
 rcases h with rfl | rfl <;> decide
theorem Neg_c (a : Int) (h : Heap) (R : AV → Heap → Prop) (hR : R (.int .i64 (IntKind.i64.wrap (-a))) h) : ACalls Tryz.prog 122 [.int .i64 a] h R := by
 refine ACalls.pure ?_ hR
 clear hR
 refine acalls_of Tryz.func122 rfl Tryz.ntmps122 (congrArg Array.toList Tryz.results122) fun Q hQ => ?_
 (focus repeat' first|refine ga ?_|(refine gb ?_;try simp[gz, *])|refine gk fun _ _=>?_|refine gc ?_ ?_|exact gr _|refine gi fun _=>?_|(refine gn ?_ ?_;focus(intros;simp[*];done)))
theorem NumAdd_c (a b : Int) (h : Heap) (R : AV → Heap → Prop) (hR : R (.int .i64 (IntKind.i64.wrap (a + b))) h) : ACalls Tryz.prog 123 [.int .i64 a, .int .i64 b] h R := by
 refine ACalls.pure ?_ hR
 clear hR
 refine acalls_of Tryz.func123 rfl Tryz.ntmps123 (congrArg Array.toList Tryz.results123) fun Q hQ => ?_
 (focus repeat' first|refine ga ?_|(refine gb ?_;try simp[gz, *])|refine gk fun _ _=>?_|refine gc ?_ ?_|exact gr _|refine gi fun _=>?_|(refine gn ?_ ?_;focus(intros;simp[*];done)))
end Go.Proofs.YtcbgpjlcfkkdlaaGreatDoor

namespace Go.Proofs.YtcbgpjlcfkkdlaaGreatDoor
open Go Go.AL Go.Proofs
structure Sh (p : Prop) : Prop where
 out : p
structure Cur (B0 B h : Heap) (T : List Tk) (tt : Tok) (S0 S : St) (r : Nat) (t1 t2 : Tok) (vs : List Int) : Prop where
 own : Own B h T tt S r t1 t2
 sb : AL.Sub B0 B
 g0 : B0 0 = some .gint
 good : Good T S
 len : S0.nodes.length ≤ S.nodes.length
 ink : InK S vs
def Meth (T : List Tk) (tt : Tok) (n : Nat) (op : Op) : Prop := ∀ f mk, methOf op = some (f, mk) → ∀ S l S', Sh (run T n op S = some (l, S')) → ∀ r t1 t2 B h, Cur B B h T tt S S r t1 t2 [] → ∀ R : AV → Heap → Prop,
 Sh (∀ g u1 u2, Cur B B g T tt S S' r u1 u2 (resK op l) → R (resOf op l) g) → ACalls Tryz.prog f (.ptr r 0 :: mk) h R
theorem InK.of {S : St} {vs ws : List Int} (h : InK S vs) (hw : ∀ y ∈ ws, y = -1 ∨ y ∈ vs) : InK S ws := fun k hk h0 => by
 rcases hw k hk with e | e
 ·omega
 ·exact h k e h0
section
variable {B0 B h : Heap} {T : List Tk} {tt : Tok} {S0 S : St} {r : Nat} {t1 t2 : Tok} {vs : List Int} {R : AV → Heap → Prop}
theorem Cur.go {S1 : St} {g : Heap} {u1 u2 : Tok} (o : Cur B0 B h T tt S0 S r t1 t2 vs) (q : Goes T S S1) (w : Own B g T tt S1 r u1 u2) : Cur B0 B g T tt S0 S1 r u1 u2 vs := ⟨w, o.sb, o.g0, q.good, Nat.le_trans o.len q.len, o.ink.mono q.len⟩
theorem Cur.must (o : Cur B0 B h T tt S0 S r t1 t2 vs) (x : List UInt8) (k : ∀ g S1, mustL T x S = S1 → Cur B0 B g T tt S0 S1 r t1 t2 vs → g r = some (.cells (rdRow T tt S1 t1 t2)) → R (.tup []) g) : ACalls Tryz.prog 84 [.ptr r 0, .str x] h R :=
 must_c x T tt S t1 t2 r o.good.rd B h o.own R fun g w => k g _ rfl (o.go (goes_must o.good x) w) w.blk
theorem Cur.down (o : Cur B0 B h T tt S0 S r t1 t2 vs) (k : ∀ g S1, downL T S = S1 → Cur B0 B g T tt S0 S1 r t1 t2 vs → g r = some (.cells (rdRow T tt S1 t1 t2)) → R (.tup []) g) : ACalls Tryz.prog 43 [.ptr r 0] h R :=
 down_c T tt S t1 t2 r o.good.rd B h o.own R fun g w => k g _ rfl (o.go (goes_down o.good) w) w.blk
theorem Cur.up (o : Cur B0 B h T tt S0 S r t1 t2 vs) (k : ∀ g S1, upL S = S1 → Cur B0 B g T tt S0 S1 r t1 t2 vs → g r = some (.cells (rdRow T tt S1 t1 t2)) → R (.tup []) g) : ACalls Tryz.prog 44 [.ptr r 0] h R :=
 up_c T tt S t1 t2 r B h o.own R fun g w => k g _ rfl (o.go (goes_up o.good) w) w.blk
theorem Cur.wrong (o : Cur B0 B h T tt S0 S r t1 t2 vs) (e : Int) (k : ∀ g S1, wrongL T e S = S1 → Cur B0 B g T tt S0 S1 r t1 t2 vs → g r = some (.cells (rdRow T tt S1 t1 t2)) → R (.tup []) g) (he : ¬ e = 0 := by decide) : ACalls Tryz.prog 52 [.ptr r 0, .int .i64 e] h R :=
 wrong_c e T tt S t1 t2 r o.good.rd B h o.own R fun g w => k g _ rfl (o.go (goes_wrong o.good he) w) w.blk
theorem Cur.fend (o : Cur B0 B h T tt S0 S r t1 t2 vs) (k : ∀ g S1, endL T S = S1 → Cur B0 B g T tt S0 S1 r t1 t2 vs → g r = some (.cells (rdRow T tt S1 t1 t2)) → R (.tup []) g) : ACalls Tryz.prog 50 [.ptr r 0] h R :=
 end_c T tt S t1 t2 r o.good.rd B h o.own R fun g w => k g _ rfl (o.go (goes_end o.good) w) w.blk
theorem Cur.name (o : Cur B0 B h T tt S0 S r t1 t2 vs) (k : ∀ g x S1, nameR T S = (x, S1) → Cur B0 B g T tt S0 S1 r t1 t2 vs → g r = some (.cells (rdRow T tt S1 t1 t2)) → R (.str x) g) : ACalls Tryz.prog 83 [.ptr r 0] h R :=
 name_c' T tt S t1 t2 r o.good.rd B h o.own R fun g w => k g _ _ rfl (o.go (goes_name o.good) w) w.blk
theorem Cur.ok (o : Cur B0 B h T tt S0 S r t1 t2 vs) (k : R (.bool (decide (S.fc = 0))) h) : ACalls Tryz.prog 20 [.ptr r 0] h R := ok_c T tt S t1 t2 r h o.own.blk R k
theorem Cur.is (o : Cur B0 B h T tt S0 S r t1 t2 vs) (x : List UInt8) (k : R (.bool (isL T x S)) h) : ACalls Tryz.prog 46 [.ptr r 0, .str x] h R := is_c x T tt S t1 t2 r o.good.rd h o.own.blk R k
theorem Cur.ends (o : Cur B0 B h T tt S0 S r t1 t2 vs) (k : R (.bool (endsL T S)) h) : ACalls Tryz.prog 81 [.ptr r 0] h R := ends_c T tt S t1 t2 r o.good.rd h o.own.blk R k
theorem Cur.kind (o : Cur B0 B h T tt S0 S r t1 t2 vs) (i : Int) (k : R (.int .i64 (kindL S i)) h) : ACalls Tryz.prog 89 [.ptr r 0, .int .i64 i] h R := kind_c T tt S t1 t2 r i o.good.rd h o.own.blk R k
theorem Cur.peek {t : Tk} (o : Cur B0 B h T tt S0 S r t1 t2 vs) (e : Sh (peekL T S = t)) (k : R (.agg (tkRow t)) h) : ACalls Tryz.prog 21 [.ptr r 0] h R := peek_c T tt S t1 t2 r o.good.rd h o.own.blk R (e.out ▸ k)
theorem target_k {S : St} {i : Int} {b : Bool} (e : isTarget (kindL S i) = b) (k : R (.bool b) h) : ACalls Tryz.prog 88 [.int .i64 (kindL S i)] h R := Target_c (kindL S i) h R (by rw [show (decide (kindL S i = 6) || decide (kindL S i = 8) || decide (kindL S i = 14) || decide (kindL S i = 15)) = isTarget (kindL S i) from rfl, e]; exact k)
theorem Cur.eat (o : Cur B0 B h T tt S0 S r t1 t2 vs) (x : List UInt8) (f : isL T x S = false → ∀ g, Cur B0 B g T tt S0 S r t1 t2 vs → g r = some (.cells (rdRow T tt S t1 t2)) → R (.bool false) g)
  (t : isL T x S = true → ∀ g S1, stepL S = S1 → Sh (S1.fc = 0) → Cur B0 B g T tt S0 S1 r t1 t2 vs → g r = some (.cells (rdRow T tt S1 t1 t2)) → R (.bool true) g) : ACalls Tryz.prog 48 [.ptr r 0, .str x] h R :=
 eat_c x T tt S t1 t2 r o.good.rd B h o.own R fun g w => by
  cases c : isL T x S
  ·have e : eatL T x S = (false, S) := by unfold eatL; rw [c]; rfl
   rw [e] at w ⊢
   exact f c g (o.go (.refl o.good) w) w.blk
  ·have e : eatL T x S = (true, stepL S) := by unfold eatL; rw [c]; rfl
   rw [e] at w ⊢
   exact t c g _ rfl ⟨(o.good.rd.step (isL_kind c)).1⟩ (o.go (goes_is o.good c) w) w.blk
theorem Cur.stepped (o : Cur B0 B h T tt S0 S r t1 t2 vs) (k6 : ¬ (peekL T S).kind = 6) : Cur B0 B (h.set r (.cells (rdRow T tt (stepL S) t1 t2))) T tt S0 (stepL S) r t1 t2 vs := o.go (goes_step o.good k6) (o.own.put _)
theorem Cur.put {S1 : St} (o : Cur B0 B h T tt S0 S r t1 t2 vs) (q : Goes T S S1) : Cur B0 B (h.set r (.cells (rdRow T tt S1 t1 t2))) T tt S0 S1 r t1 t2 vs := o.go q (o.own.put _)
theorem Cur.settle {P : Program} {f : FuncId} {a : List AV} (o : Cur B0 B h T tt S0 S r t1 t2 vs) (k : ∀ g, Cur B0 B g T tt S0 S r t1 t2 vs → g r = some (.cells (rdRow T tt S t1 t2)) → ACalls P f a g R) : ACalls P f a h R := k h o o.own.blk
theorem Cur.settleA {P : Program} {c : Code} {Q : APostT} {α : AAct} (o : Cur B0 B h T tt S0 S r t1 t2 vs) (k : ∀ g, Cur B0 B g T tt S0 S r t1 t2 vs → g r = some (.cells (rdRow T tt S t1 t2)) → awp P c Q α g) : awp P c Q α h := k h o o.own.blk
theorem Cur.y {b : Nat} (o : Cur B0 B h T tt S0 S r t1 t2 vs) (z : h b = none) : B b = none ∧ AL.Sub B0 B := ⟨o.own.isNone z, o.sb⟩
theorem Cur.new {b : Nat} (o : Cur B0 B h T tt S0 S r t1 t2 vs) (z : h b = none) (x : Blk) : Cur B0 (B.set b x) (h.set b x) T tt S0 S r t1 t2 vs := ⟨o.own.new z x, o.sb.trans ((Sub.refl B).loc (o.own.isNone z) x), o.g0, o.good, o.len, o.ink⟩
theorem Cur.ne {b : Nat} (o : Cur B0 B h T tt S0 S r t1 t2 vs) (z : h b = none) : ¬ r = b ∧ ¬ b = r := ⟨fun e => (by rw [← e, o.own.blk] at z; cases z), fun e => (by rw [e, o.own.blk] at z; cases z)⟩
theorem Cur.b1 {b : Nat} {x : Blk} (o : Cur B0 (B.set b x) h T tt S0 S r t1 t2 vs) : h b = some x := o.own.sub _ _ (Heap.set_same _ _ _)
theorem Cur.b2 {b c : Nat} {x y : Blk} (o : Cur B0 ((B.set b x).set c y) h T tt S0 S r t1 t2 vs) (n : ¬ b = c) : h b = some x := o.own.sub _ _ (by rw [Heap.set_other _ _ _ _ n, Heap.set_same])
theorem Cur.i0 (o : Cur B0 B h T tt S0 S r t1 t2 vs) : h 0 = some .gint := o.own.sub _ _ (o.sb _ _ o.g0)
theorem Cur.add {k' p' n' : Int} {x' : List UInt8} {rows : List (List AV)} {tk : Tok} (o : Cur B0 B h T tt S0 S r t1 t2 vs) (kind pos : Int) (x : List UInt8) (n : Int) (ks : List Int)
  (k : ∀ g u1 u2 v S1, addL T kind pos x n ks S = (v, S1) → Cur B0 B g T tt S0 S1 r u1 u2 (v :: vs) → g r = some (.cells (rdRow T tt S1 u1 u2)) → R (.int .i64 v) g)
  (hk : ∀ y ∈ ks, y = -1 ∨ y ∈ vs := by first | (simp; done) | grind) (hl : ks.length ≤ 281474976710 := by simp) (e1 : k' = kind := by rfl) (e2 : p' = pos := by rfl) (e3 : x' = x := by first | rfl | simp) (e4 : n' = n := by first | rfl | simp) (e5 : rows = ints ks := by first | rfl | simp) :
  ACalls Tryz.prog 23 [.ptr r 0, .int .i64 k', .int .i64 p', .str x', .int .i64 n', .list 1 rows tk] h R := by
 subst e1 e2 e3 e4
 refine ACalls.weak (ys := [.ptr r 0, .int .i64 k', .int .i64 p', .str x', .int .i64 n', .list 1 (ints ks) .no]) (.cons (Weak.refl _) (.cons (Weak.refl _) (.cons (Weak.refl _) (.cons (Weak.refl _) (.cons (Weak.refl _) (.cons (Weak.toks e5) .nil)))))) ?_
 have g := goes_add o.good k' p' x' n' ks
 have hi := o.ink.of hk
 refine add_c k' p' x' n' ks T tt S t1 t2 r o.good.rd o.good.dl (InK.kids o.good hi) hl B h o.own R fun m u1 u2 w => ?_
 refine k m u1 u2 _ _ rfl ⟨w, o.sb, o.g0, g.1.good, Nat.le_trans o.len g.1.len, fun y hy h0 => ?_⟩ w.blk
 rcases List.mem_cons.1 hy with e | e
 ·exact InK.one g.2 y (by rw [e]; exact List.mem_singleton.2 rfl) h0
 ·exact o.ink.mono g.1.len y e h0
theorem Cur.fin {ws : List Int} (o : Cur B0 B h T tt S0 S r t1 t2 vs) (hw : ∀ y ∈ ws, y = -1 ∨ y ∈ vs := by first | (simp [resK, fst0]; done) | (simp [resK]; grind) | grind) : Cur B0 B0 h T tt S0 S r t1 t2 ws := ⟨o.own.weak o.sb, Sub.refl _, o.g0, o.good, o.len, o.ink.of hw⟩
theorem Cur.at_ {op : Op} {m : Nat} {f : FuncId} {mk : List AV} {l : List Int} {S1 : St} (o : Cur B0 B h T tt S0 S r t1 t2 vs) (ih : Meth T tt m op) (h1 : Sh (run T m op S = some (l, S1)))
  (k : ∀ g u1 u2, Cur B0 B g T tt S0 S1 r u1 u2 (resK op l ++ vs) → g r = some (.cells (rdRow T tt S1 u1 u2)) → R (resOf op l) g) (hf : methOf op = some (f, mk) := by rfl) : ACalls Tryz.prog f (.ptr r 0 :: mk) h R :=
 ih f mk hf S l S1 h1 r t1 t2 B h ⟨o.own, Sub.refl _, o.sb _ _ o.g0, o.good, Nat.le_refl _, fun _ h => by cases h⟩ R ⟨fun g u1 u2 w => k g u1 u2 ⟨w.own, o.sb, o.g0, w.good, Nat.le_trans o.len w.len, w.ink.append (o.ink.mono w.len)⟩ w.own.blk⟩
theorem Cur.call {op : Op} {m : Nat} {f : FuncId} {mk : List AV} {l : List Int} {S1 : St} (o : Cur B0 B h T tt S0 S r t1 t2 vs) (ih : Meth T tt m op) (h1 : Sh (run T m op S = some (l, S1)))
  (k : ∀ g u1 u2 v, fst0 l = v → Cur B0 B g T tt S0 S1 r u1 u2 (v :: vs) → g r = some (.cells (rdRow T tt S1 u1 u2)) → R (.int .i64 v) g) (hf : methOf op = some (f, mk) := by rfl) (hk : resK op l = [fst0 l] := by rfl) (hr : resOf op l = .int .i64 (fst0 l) := by rfl) : ACalls Tryz.prog f (.ptr r 0 :: mk) h R :=
 o.at_ ih h1 (fun g u1 u2 w q => hr ▸ k g u1 u2 _ rfl (by rw [hk] at w; exact w) q) hf
theorem Cur.tail {op : Op} {m : Nat} {f : FuncId} {mk : List AV} {l : List Int} {S1 : St} (o : Cur B0 B h T tt S0 S r t1 t2 vs) (ih : Meth T tt m op) (h1 : Sh (run T m op S = some (l, S1)))
  (k : ∀ g u1 u2, Cur B0 B g T tt S0 S1 r u1 u2 [fst0 l] → g r = some (.cells (rdRow T tt S1 u1 u2)) → R (.int .i64 (fst0 l)) g) (hf : methOf op = some (f, mk) := by rfl) (hk : resK op l = [fst0 l] := by rfl) (hr : resOf op l = .int .i64 (fst0 l) := by rfl) : ACalls Tryz.prog f (.ptr r 0 :: mk) h R :=
 o.at_ ih h1 (fun g u1 u2 w q => hr ▸ k g u1 u2 ⟨w.own, w.sb, w.g0, w.good, w.len, fun y hy h0 => w.ink y (List.mem_append_left _ (hk ▸ hy)) h0⟩ q) hf
end
theorem bo {α β : Type} {x : Option α} {f : α → Option β} {y : β} (h : Sh (x.bind f = some y)) : ∃ a, Sh (x = some a) ∧ Sh (f a = some y) := by
 obtain ⟨a, h1, h2⟩ := Option.bind_eq_some_iff.1 h.out
 exact ⟨a, ⟨h1⟩, ⟨h2⟩⟩
theorem bo2 {α β γ : Type} {x : Option (α × γ)} {f : α × γ → Option β} {y : β} (h : Sh (x.bind f = some y)) : ∃ a c, Sh (x = some (a, c)) ∧ Sh (f (a, c) = some y) := by
 obtain ⟨a, h1, h2⟩ := bo h
 exact ⟨a.1, a.2, h1, h2⟩
theorem fi {l m : List Int} {S S' : St} (h : Sh (some (l, S) = some (m, S'))) : l = m ∧ S = S' := by
 have := Option.some.inj h.out
 exact ⟨congrArg Prod.fst this, congrArg Prod.snd this⟩
theorem Z : (∀ (α : Type) (_ : Decidable True) (a b : α), (if True then a else b) = a) ∧ (∀ (α : Type) (_ : Decidable False) (a b : α), (if False then a else b) = b) ∧ ((false = true) = False) ∧ ((true = false) = False) ∧
  (∀ (α β : Type) (x : α) (f : α → Option β), (some x).bind f = f x) ∧ (∀ (α β : Type) (x : Option α) (f : α → β), x.map f = x.bind fun a => some (f a)) ∧
  (∀ (α β γ : Type) (x : Option α) (f : α → Option β) (g : β → Option γ), (x.bind f).bind g = x.bind fun a => (f a).bind g) ∧ (∀ r : Int × St, one r = some ([r.1], r.2)) ∧ (∀ (T : List Tk) (x : List UInt8) (S : St), eatL T x S = if isL T x S then (true, stepL S) else (false, S)) ∧
  (∀ (a : Int) (l : List Int), fst0 (a :: l) = a) ∧ (∀ a b d : Int, [a, b].getD 1 d = b) ∧ (∀ p : Prop, (True ∧ p) = p) ∧ (∀ p : Prop, (p ∧ True) = p) ∧ (∀ p : Prop, (False ∧ p) = False) ∧ (∀ p : Prop, (p ∧ False) = False) ∧ (∀ p : Prop, (True ∨ p) = True) ∧ (∀ p : Prop, (p ∨ True) = True) ∧ (∀ p : Prop, (False ∨ p) = p) ∧ (∀ p : Prop, (p ∨ False) = p) ∧ ((¬ True) = False) ∧ ((¬ False) = True) ∧ ((true = true) = True) ∧ ((false = false) = True) :=
 ⟨fun _ _ _ _ => if_pos trivial, fun _ _ _ _ => if_neg id, by simp, by simp, fun _ _ _ _ => rfl, fun _ _ x f => by cases x <;> rfl, fun _ _ _ x f g => by cases x <;> rfl, fun _ => rfl, fun _ _ _ => rfl, fun _ _ => rfl, fun _ _ _ => rfl, by simp, by simp, by simp, by simp, by simp, by simp, by simp, by simp, by simp, by simp, by simp, by simp⟩
theorem ef {p : Prop} {i : Decidable p} (h : @decide p i = false) : p = False := eq_false (of_decide_eq_false h)
theorem et {p : Prop} {i : Decidable p} (h : @decide p i = true) : p = True := eq_true (of_decide_eq_true h)
theorem kk {T : List Tk} {S : St} {t : Tk} {c : Int} {i : Decidable (t.kind = c)} (h : Sh (peekL T S = t)) (d : @decide (t.kind = c) i = true) (hc : ¬ c = 6 := by decide) : ¬ (peekL T S).kind = 6 := by rw [h.out, of_decide_eq_true d]; exact hc
theorem ne2 {h : Heap} {b c : Nat} {x : Blk} (h1 : h c = some x) (h2 : h b = none) : ¬ c = b ∧ ¬ b = c := ⟨fun e => (by rw [← e, h1] at h2; cases h2), fun e => (by rw [e, h1] at h2; cases h2)⟩
theorem plus_one {k m : Heap} {b : Nat} {x : Blk} (h : m b = some x) : k.plus [b] m = k.set b x := by
 funext c
 by_cases e : c = b
 ·subst e; simp [gz, h]
 ·simp [gz, e]
theorem Meth.of {T : List Tk} {tt : Tok} {n : Nat} {op : Op} {f : FuncId} {mk : List AV} (w : ∀ S l S', Sh (run T n op S = some (l, S')) → ∀ r t1 t2 B h, Cur B B h T tt S S r t1 t2 [] → ∀ R : AV → Heap → Prop, Sh (∀ g u1 u2, Cur B B g T tt S S' r u1 u2 (resK op l) → R (resOf op l) g) → ACalls Tryz.prog f (.ptr r 0 :: mk) h R)
  (hf : methOf op = some (f, mk) := by rfl) : Meth T tt n op := fun f' mk' h' => by
 rw [hf] at h'
 injection h' with h'
 injection h' with e1 e2
 subst e1 e2
 exact w
section
variable {B0 B h : Heap} {T : List Tk} {tt : Tok} {S0 S : St} {r : Nat} {t1 t2 : Tok} {vs : List Int} {R : AV → Heap → Prop}
theorem Cur.upd (o : Cur B0 B h T tt S0 S r t1 t2 vs) (k : ∀ g, Cur B0 B g T tt S0 (upL S) r t1 t2 vs → R (.tup []) g) : ACallsD Tryz.prog 44 [.ptr r 0] h R :=
 up_d T tt S t1 t2 r B h o.own R fun g w => k g (o.go (goes_up o.good) w)
theorem Cur.minus {b : Nat} {x : Blk} (o : Cur B0 (B.set b x) h T tt S0 S r t1 t2 vs) (y : B b = none ∧ AL.Sub B0 B) : Cur B0 B (h.minus [b]) T tt S0 S r t1 t2 vs := ⟨o.own.minus y.1, y.2, o.g0, o.good, o.len, o.ink⟩
end
theorem nextk {T : List Tk} {S : St} (g : Good T S) (k6 : ¬ (peekL T S).kind = 6) : ∃ nt, T[S.idx + 1]? = some nt ∧ (∃ q : S.idx + 1 < T.length, T[S.idx + 1] = nt) ∧ T.getD (S.idx + 1) default = nt ∧ IntKind.i64.wrap ((S.idx : Int) + 1) = ((S.idx + 1 : Nat) : Int) := by
 have a : S.idx + 1 < T.length := (g.rd.step k6).2.pos (g.rd.step k6).1
 have al := g.rd.len
 have h : T[S.idx + 1]? = some T[S.idx + 1] := List.getElem?_eq_getElem a
 exact ⟨T[S.idx + 1], h, ⟨a, rfl⟩, by simp [List.getD, h], by rw [w64 (by omega) (by omega)]; omega⟩
theorem plus_two {k m : Heap} {b c : Nat} {x y : Blk} (n : ¬ b = c) (h1 : m b = some x) (h2 : m c = some y) : k.plus [b, c] m = (k.set b x).set c y := by
 funext d
 by_cases e1 : d = c
 ·subst e1; simp [gz, h2]
 ·by_cases e2 : d = b
  ·subst e2; simp [gz, e1, h1]
  ·simp [gz, e1, e2]
theorem nlen {T : List Tk} (hs : Short T) {S S1 : St} {x : List UInt8} (e : nameR T S = (x, S1)) : x.length ≤ 1000000 := by
 have h := name_len hs S
 rw [e] at h
 exact h
structure Lf (B0 base : Heap) (tk : Tok) : Prop where
 fr : ∀ b k e, tk = .own b k e → base b = none
 no : tk ≠ .no
 sb : AL.Sub B0 base
theorem run_pos {T : List Tk} {m : Nat} {op : Op} {S : St} {z : Res} (h : Sh (run T m op S = some z)) : ∃ p, m = p + 1 := by
 cases m with
 | zero => have h1 := h.out; simp [run] at h1
 | succ p => exact ⟨p, rfl⟩
section
variable {B0 B h base : Heap} {T : List Tk} {tt : Tok} {S0 S : St} {r : Nat} {t1 t2 tk : Tok} {vs : List Int} {R : AV → Heap → Prop}
theorem Cur.wk {ws : List Int} (o : Cur B0 B h T tt S0 S r t1 t2 vs) (hw : ∀ y ∈ ws, y = -1 ∨ y ∈ vs := by first | (simp; done) | grind) : Cur B0 B h T tt S0 S r t1 t2 ws := ⟨o.own, o.sb, o.g0, o.good, o.len, o.ink.of hw⟩
theorem Cur.drop {b : Nat} {x : Blk} (o : Cur B0 (B.set b x) h T tt S0 S r t1 t2 vs) (y : B b = none ∧ AL.Sub B0 B) : Cur B0 B h T tt S0 S r t1 t2 vs := ⟨o.own.drop y.1, y.2, o.g0, o.good, o.len, o.ink⟩
theorem Cur.back (o : Cur B0 (Heap.bk base tk) h T tt S0 S r t1 t2 vs) (f : Lf B0 base tk) : Cur B0 base h T tt S0 S r t1 t2 vs := ⟨o.own.weak (bk_sub f.fr), f.sb, o.g0, o.good, o.len, o.ink⟩
theorem Cur.tin (o : Cur B0 (Heap.bk base tk) h T tt S0 S r t1 t2 vs) (f : Lf B0 base tk) : TokIn h tk := tokIn_bk o.own.sub f.no
theorem Cur.lf (o : Cur B0 B h T tt S0 S r t1 t2 vs) {tk : Tok} (h1 : tk ≠ .no := by simp) (h2 : ∀ b k e, tk ≠ .own b k e := by simp) : Lf B0 B tk := ⟨fun b k e q => absurd q (h2 b k e), h1, o.sb⟩
theorem Cur.grow (o : Cur B0 (Heap.bk base tk) h T tt S0 S r t1 t2 vs) (f : Lf B0 base tk) {b k e : Nat} (hb : SpareNew h tk b) : Cur B0 (Heap.bk base (.own b k e)) ((tk.rid h).set b (.spare k e)) T tt S0 S r t1 t2 vs ∧ Lf B0 base (.own b k e) := by
 obtain ⟨w, hn⟩ := o.own.growK (k := k) (e := e) f.fr hb
 have f2 : ∀ b' k' e', Tok.own b k e = .own b' k' e' → base b' = none := fun b' k' e' q => by injection q with q; subst q; exact hn
 exact ⟨⟨w, f.sb.trans (bk_sub f2), o.g0, o.good, o.len, o.ink⟩, f2, by simp, f.sb⟩
theorem Cur.sm {stop : List UInt8} {m : Nat} {l : List Int} {S1 : St} (o : Cur B0 B h T tt S0 S r t1 t2 vs) (ih : Meth T tt m (.some stop)) (h1 : Sh (run T m (.some stop) S = some (l, S1)))
  (k : ∀ g u1 u2, l.length ≤ m → Cur B0 B g T tt S0 S1 r u1 u2 (l ++ vs) → g r = some (.cells (rdRow T tt S1 u1 u2)) → R (.list 1 (ints l) .no) g) : ACalls Tryz.prog 156 [.ptr r 0, .str stop] h R :=
 o.at_ ih h1 fun g u1 u2 w q => k g u1 u2 (some_len h1.out) w q
theorem Cur.mem {m : Nat} {l : List Int} {S1 : St} (o : Cur B0 B h T tt S0 S r t1 t2 vs) (ih : Meth T tt m .member) (h1 : Sh (run T m .member S = some (l, S1)))
  (k : ∀ g u1 u2 v w, fst0 l = v → l.getD 1 0 = w → Cur B0 B g T tt S0 S1 r u1 u2 (v :: w :: vs) → g r = some (.cells (rdRow T tt S1 u1 u2)) → R (.tup [.int .i64 v, .int .i64 w]) g) : ACalls Tryz.prog 146 [.ptr r 0] h R :=
 o.at_ ih h1 fun g u1 u2 w q => k g u1 u2 _ _ rfl rfl w q
theorem Cur.spare {b k e : Nat} (o : Cur B0 B h T tt S0 S r t1 t2 vs) (z : h b = none) : Cur B0 B (h.set b (.spare k e)) T tt S0 S r t1 t2 vs := (o.new z _).drop (o.y z)
theorem Cur.eatF {x : List UInt8} (o : Cur B0 B h T tt S0 S r t1 t2 vs) (c : isL T x S = false) (f : ∀ g, Cur B0 B g T tt S0 S r t1 t2 vs → g r = some (.cells (rdRow T tt S t1 t2)) → R (.bool false) g) : ACalls Tryz.prog 48 [.ptr r 0, .str x] h R :=
 o.eat x (fun _ => f) fun c2 => by rw [c] at c2; cases c2
theorem Cur.eatT {x : List UInt8} (o : Cur B0 B h T tt S0 S r t1 t2 vs) (c : isL T x S = true) (t : ∀ g S1, stepL S = S1 → Sh (S1.fc = 0) → Cur B0 B g T tt S0 S1 r t1 t2 vs → g r = some (.cells (rdRow T tt S1 t1 t2)) → R (.bool true) g) : ACalls Tryz.prog 48 [.ptr r 0, .str x] h R :=
 o.eat x (fun c2 => by rw [c] at c2; cases c2) fun _ => t
theorem Cur.setB {b : Nat} {x : Blk} (o : Cur B0 (B.set b x) h T tt S0 S r t1 t2 vs) (y : B b = none ∧ AL.Sub B0 B) (z : Blk) : Cur B0 (B.set b z) (h.set b z) T tt S0 S r t1 t2 vs := ⟨o.own.setB y.1 z, y.2.trans ((Sub.refl B).loc y.1 z), o.g0, o.good, o.len, o.ink⟩
theorem Cur.del {b : Nat} {x : Blk} (o : Cur B0 (B.set b x) h T tt S0 S r t1 t2 vs) (y : B b = none ∧ AL.Sub B0 B) : Cur B0 B (h.del b) T tt S0 S r t1 t2 vs := ⟨o.own.del y.1, y.2, o.g0, o.good, o.len, o.ink⟩
end
theorem Meth.some {T : List Tk} {tt : Tok} {n : Nat} {stop : List UInt8} (w : ∀ S l S', Sh (run T n (.some stop) S = some (l, S')) → ∀ r t1 t2 B h, Cur B B h T tt S S r t1 t2 [] → ∀ R : AV → Heap → Prop, Sh (∀ g u1 u2 tk, Cur B B g T tt S S' r u1 u2 l → R (.list 1 (ints l) tk) g) → ACalls Tryz.prog 156 [.ptr r 0, .str stop] h R) : Meth T tt n (.some stop) :=
 Meth.of fun S l S' q r t1 t2 B h o R hR => ACalls.conv (R' := fun x g => ∃ tk u1 u2, x = .list 1 (ints l) tk ∧ Cur B B g T tt S S' r u1 u2 l) (w S l S' q r t1 t2 B h o _ ⟨fun g u1 u2 tk o => ⟨tk, u1, u2, rfl, o⟩⟩) (fun x g ⟨tk, u1, u2, e, o⟩ => ⟨_, g, View.of (e ▸ Weak.tok _ _ tk) (Sub.refl _), hR.out _ _ _ o⟩)
end Go.Proofs.YtcbgpjlcfkkdlaaGreatDoor

namespace Go.Proofs.YtcbgpjlcfkkdlaaGreatDoor
open Go Go.AL Go.Proofs
def loopK : Op → Option (List Int)
 | .enumLoop _ k => some k
 | .blockLoop k => some k
 | .casesLoop _ k => some k
 | .caseLoop k => some k
 | .someLoop _ k => some k
 | .tableLoop k => some k
 | .paramsLoop k => some k
 | .classLoop k => some k
 | .top k => some k
 | .binLoop _ _ i => some [i]
 | .postLoop _ i => some [i]
 | _ => none
structure Toks (T : List Tk) : Prop where
 short : Short T
 nums : ∀ t ∈ T, t.num ≤ 9223372036854775807
def Fine (T : List Tk) (S : St) : Prop := (∀ n ∈ S.nodes, NdOk n ∧ n.kids.length ≤ 281474976710) ∧ (¬ S.fc = 0 → ∃ t ∈ T, t.pos = S.fa)
structure Kp (T : List Tk) (c : Nat) (S S' : St) : Prop where
 fine : Fine T S → Fine T S'
 adv : S'.fc = 0 → S.fc = 0 ∧ S.idx + c ≤ S'.idx
section
variable {T : List Tk} {S S2 S3 : St}
theorem Kp.refl : Kp T 0 S S := ⟨id, fun h => ⟨h, Nat.le_refl _⟩⟩
theorem Kp.trans {a b : Nat} (h1 : Kp T a S S2) (h2 : Kp T b S2 S3) : Kp T (a + b) S S3 := ⟨fun h => h2.fine (h1.fine h), fun h => by
 have q := h2.adv h
 have p := h1.adv q.1
 exact ⟨p.1, by omega⟩⟩
theorem Kp.weak {a b : Nat} (h : Kp T a S S2) (hb : b ≤ a) : Kp T b S S2 := ⟨h.fine, fun q => ⟨(h.adv q).1, by have := (h.adv q).2; omega⟩⟩
theorem peek_mem (hg : Good T S) {t : Tk} (h : peekL T S = t) : t ∈ T := by
 have hn := hg.rd.ne
 have hm : ∀ i, i < T.length → T.getD i default ∈ T := fun i hi => by
  simp only [List.getD, List.getElem?_eq_getElem hi, Option.getD_some]
  exact List.getElem_mem hi
 subst h
 unfold peekL
 split
 ·rename_i hf; exact hm _ (hg.rd.pos hf)
 ·exact hm _ (by omega)
theorem tok_ok (hs : Toks T) {t : Tk} (h : t ∈ T) : t.text.length ≤ 1000000 ∧ t.num ≤ 9223372036854775807 := ⟨hs.short t h, hs.nums t h⟩
theorem getD_short (hs : Short T) (i : Nat) : (T.getD i default).text.length ≤ 1000000 := by
 by_cases hi : i < T.length
 ·simp only [List.getD, List.getElem?_eq_getElem hi, Option.getD_some]
  exact hs _ (List.getElem_mem hi)
 ·simp only [List.getD, List.getElem?_eq_none (Nat.not_lt.1 hi), Option.getD_none]
  show ([] : List UInt8).length ≤ _
  simp
theorem wrap_le (n : Int) : IntKind.i64.wrap n ≤ 9223372036854775807 := by rw [IntKind.wrap_i64]; omega
theorem kp_same {c : Nat} (hn : S2.nodes = S.nodes) (hf : ¬ S2.fc = 0 → S2.fc = S.fc ∧ S2.fa = S.fa) (ha : S2.fc = 0 → S.fc = 0 ∧ S.idx + c ≤ S2.idx) : Kp T c S S2 := ⟨fun h => ⟨by rw [hn]; exact h.1, fun q => by
 obtain ⟨q1, q2⟩ := hf q
 rw [q2]
 exact h.2 (q1 ▸ q)⟩, ha⟩
theorem kp_wrong (hg : Good T S) {e : Int} (he : ¬ e = 0) {c : Nat} : Kp T (if S.fc = 0 then c else 0) S (wrongL T e S) := by
 by_cases h : S.fc = 0
 ·have hw : wrongL T e S = { S with fc := e, fa := (peekL T S).pos } := by unfold wrongL; rw [if_pos h]
  rw [hw, if_pos h]
  exact ⟨fun q => ⟨q.1, fun _ => ⟨_, peek_mem hg rfl, rfl⟩⟩, fun q => absurd q he⟩
 ·have hw : wrongL T e S = S := by unfold wrongL; rw [if_neg h]
  rw [hw, if_neg h]
  exact Kp.refl
theorem kp_wrong0 (hg : Good T S) {e : Int} (he : ¬ e = 0) : Kp T 0 S (wrongL T e S) := by
 have h := kp_wrong hg he (c := 0)
 split at h <;> exact h
theorem kp_wrong1 (hg : Good T S) {e : Int} (he : ¬ e = 0) : Kp T 1 S (wrongL T e S) := ⟨(kp_wrong0 hg he).fine, fun q => by
 by_cases h : S.fc = 0
 ·have hw : wrongL T e S = { S with fc := e, fa := (peekL T S).pos } := by unfold wrongL; rw [if_pos h]
  rw [hw] at q
  exact absurd q he
 ·have hw : wrongL T e S = S := by unfold wrongL; rw [if_neg h]
  rw [hw] at q
  exact absurd q h⟩
theorem kp_step (hg : Good T S) (hk : ¬ (peekL T S).kind = 6) : Kp T 1 S (stepL S) := kp_same rfl (fun _ => ⟨rfl, rfl⟩) fun h => ⟨h, Nat.le_refl _⟩
theorem kp_is (hg : Good T S) {x : List UInt8} (h : isL T x S = true) : Kp T 1 S (stepL S) := kp_step hg (isL_kind h)
theorem kp_must (hg : Good T S) (x : List UInt8) : Kp T 1 S (mustL T x S) := by
 unfold mustL
 split
 ·rename_i h; exact kp_is hg h
 ·exact kp_wrong1 hg (by decide)
theorem kp_name (hg : Good T S) : Kp T 1 S (nameR T S).2 := by
 unfold nameR
 split
 ·rename_i h; exact kp_step hg (by rw [h]; decide)
 ·exact kp_wrong1 hg (by decide)
theorem kp_down (hg : Good T S) : Kp T 0 S (downL T S) := by
 unfold downL
 simp only
 have h1 : Good T { S with nest := IntKind.i64.wrap (S.nest + 1) } := ⟨hg.rd.nest _, hg.dl⟩
 have h2 : Kp T 0 S { S with nest := IntKind.i64.wrap (S.nest + 1) } := kp_same rfl (fun _ => ⟨rfl, rfl⟩) fun h => ⟨h, Nat.le_refl _⟩
 split
 ·exact h2.trans (kp_wrong0 h1 (by decide))
 ·exact h2
theorem kp_up (hg : Good T S) : Kp T 0 S (upL S) := kp_same rfl (fun _ => ⟨rfl, rfl⟩) fun h => ⟨h, Nat.le_refl _⟩
theorem kp_end (hg : Good T S) : Kp T 0 S (endL T S) := by
 unfold endL
 split
 ·rename_i h; exact (kp_is hg h).weak (by omega)
 ·split
  ·exact Kp.refl
  ·exact kp_wrong0 hg (by decide)
theorem kp_fault (hg : Good T S) (e a : Int) (he : ¬ e = 0) (h : ∃ t ∈ T, t.pos = a) : Kp T 1 S (faultL e a S) := ⟨fun q => ⟨q.1, fun _ => h⟩, fun q => absurd q he⟩
theorem kp_down_step (hg : Good T S) (hk : ¬ (peekL T S).kind = 6) : Kp T 1 (downL T S) (stepL (downL T S)) := kp_same rfl (fun _ => ⟨rfl, rfl⟩) fun h => ⟨h, Nat.le_refl _⟩
theorem kp_wrong_step (hg : Good T S) (hf : S.fc = 0) (e : Int) (he : ¬ e = 0) : Kp T 1 (wrongL T e S) (stepL (wrongL T e S)) := kp_same rfl (fun _ => ⟨rfl, rfl⟩) fun h => ⟨h, Nat.le_refl _⟩
theorem kp_add (hg : Good T S) (kind pos : Int) (x : List UInt8) (n : Int) (kids : List Int) (hx : x.length ≤ 3000000) (hn : n ≤ 9223372036854775807) (hk : kids.length ≤ 281474976710) : Kp T 0 S (addL T kind pos x n kids S).2 := by
 unfold addL
 split
 ·rename_i hf
  split
  ·exact kp_wrong0 hg (by decide)
  ·rename_i hl
   obtain ⟨S1, hS1⟩ : ∃ S1 : St, { S with nodes := S.nodes ++ [(⟨kind, pos, x, n, kids⟩ : Nd)] } = S1 := ⟨_, rfl⟩
   obtain ⟨d, hd⟩ : ∃ d, deepOf S.deep kids 0 = d := ⟨_, rfl⟩
   simp only [hS1, hd]
   have hpk : (peekL T S1) = peekL T S := by rw [← hS1]; rfl
   have hnd : Fine T S → ∀ m ∈ S1.nodes, NdOk m ∧ m.kids.length ≤ 281474976710 := fun hF m hm => by
    rw [← hS1] at hm
    rcases List.mem_append.1 hm with hm | hm
    ·exact hF.1 m hm
    ·rw [List.mem_singleton.1 hm]
     exact ⟨⟨by show x.length < _; omega, by show kids.length ≤ _; omega, hn⟩, hk⟩
   have hfc : S1.fc = S.fc := by rw [← hS1]
   have hid : S1.idx = S.idx := by rw [← hS1]
   split
   ·have hw : wrongL T 6 S1 = { S1 with fc := 6, fa := (peekL T S1).pos } := by unfold wrongL; rw [if_pos (by rw [hfc]; exact hf)]
    rw [hw]
    refine ⟨fun hF => ⟨hnd hF, fun _ => ⟨_, peek_mem hg rfl, by show _ = (peekL T S1).pos; rw [hpk]⟩⟩, fun q => ?_⟩
    exact absurd q (by show ¬ (6 : Int) = 0; decide)
   ·refine ⟨fun hF => ⟨hnd hF, fun q => absurd ?_ q⟩, fun _ => ⟨hf, ?_⟩⟩
    ·show S1.fc = 0; rw [hfc]; exact hf
    ·show S.idx + 0 ≤ S1.idx; rw [hid]; exact Nat.le_refl _
 ·exact Kp.refl
end
def rank : Op → Nat
 | .stmt => 24
 | .word _ => 6
 | .named _ => 5
 | .locl _ => 4
 | .literal => 1
 | .enum _ => 1
 | .enumLoop _ _ => 1
 | .block => 2
 | .blockLoop _ => 25
 | .body => 25
 | .control _ => 26
 | .paren => 1
 | .loop _ => 1
 | .foreach _ => 1
 | .cases _ => 2
 | .casesLoop _ _ => 1
 | .caseLoop _ => 25
 | .expr => 23
 | .cond _ => 22
 | .binary l => 20 - l.toNat
 | .binLoop _ _ _ => 1
 | .unary => 9
 | .postf => 8
 | .postLoop _ _ => 1
 | .some _ => 25
 | .someLoop _ _ => 24
 | .primary => 7
 | .member => 5
 | .table => 2
 | .tableLoop _ => 6
 | .function => 3
 | .params _ _ => 1
 | .paramsLoop _ => 1
 | .clas => 3
 | .classLoop _ => 6
 | .top _ => 25
def rankF : Op → Nat
 | .stmt => 3
 | .block => 2
 | .body => 4
 | .control _ => 7
 | .paren => 3
 | .loop _ => 6
 | .foreach _ => 6
 | .cases _ => 4
 | .cond _ => 30
 | .binary l => 29 - l.toNat
 | .unary => 6
 | .postf => 5
 | .primary => 4
 | .enum _ => 2
 | .table => 2
 | .params _ _ => 3
 | .function => 4
 | .clas => 3
 | .some _ => 2
 | .member => 6
 | .named _ => 8
 | .expr => 2
 | _ => 1
def need (T : List Tk) (op : Op) (S : St) : Nat := if S.fc = 0 then 60 * (T.length - S.idx) + rank op else rankF op
def resC : Op → List Int → Nat
 | .stmt, _ => 1
 | .word _, l => if l.getD 1 0 = 1 then 1 else 0
 | .named _, _ => 1
 | .block, _ => 1
 | .expr, _ => 1
 | .cond _, _ => 1
 | .binary _, _ => 1
 | .unary, _ => 1
 | .postf, _ => 1
 | .primary, _ => 1
 | .member, _ => 1
 | .table, _ => 1
 | .function, _ => 1
 | .clas, _ => 1
 | _, _ => 0
def ArgOk (T : List Tk) : Op → St → Prop
 | .params _ x, _ => x.length ≤ 1000000
 | .enumLoop v _, _ => v ≤ 9223372036854775807
 | .binary l, _ => 0 ≤ l ∧ l ≤ 10
 | .binLoop l _ _, _ => 0 ≤ l ∧ l ≤ 9
 | .word _, S => ¬ (peekL T S).kind = 6
 | .named _, S => S.fc = 0 ∧ S.idx + 1 < T.length
 | _, _ => True
def argK (op : Op) : List Int := (loopK op).getD []
def resA : Op → List Int → List Int
 | .binLoop _ _ _, l => [fst0 l]
 | .postLoop _ _, l => [fst0 l]
 | .enumLoop _ _, l => l
 | .blockLoop _, l => l
 | .casesLoop _ _, l => l
 | .caseLoop _, l => l
 | .someLoop _ _, l => l
 | .tableLoop _, l => l
 | .paramsLoop _, l => l
 | .classLoop _, l => l
 | .top _, l => l
 | op, l => resK op l
theorem need_le {T : List Tk} {S S1 : St} {op op1 : Op} {c n : Nat} (hg1 : Good T S1) (k : Kp T c S S1) (h : need T op S ≤ n + 1) (hr : rank op1 < rank op ∨ 0 < c) (hf : rankF op1 < rankF op ∨ S.fc = 0) (h60 : rank op1 < 59 := by simp only [rank]; omega) (hF60 : rankF op1 < 59 := by simp only [rankF]; omega) (hg : Good T S) : need T op1 S1 ≤ n := by
 unfold need at h ⊢
 by_cases e1 : S1.fc = 0
 ·obtain ⟨e2, e3⟩ := k.adv e1
  have e4 := hg1.rd.pos e1
  rw [if_pos e1]
  rw [if_pos e2] at h
  omega
 ·rw [if_neg e1]
  by_cases e2 : S.fc = 0
  ·rw [if_pos e2] at h
   have := hg.rd.pos e2
   omega
  ·rw [if_neg e2] at h
   rcases hf with hf | hf
   ·omega
   ·exact absurd hf e2
structure Zt (T : List Tk) (S0 S : St) (c : Nat) (vs : List Int) : Prop where
 good0 : Good T S0
 good : Good T S
 len : S0.nodes.length ≤ S.nodes.length
 ink : InK S vs
 kp : Kp T c S0 S
def Zr (T : List Tk) (op : Op) (n : Nat) (S : St) (x : Option Res) : Prop := ∃ l S', x = some (l, S') ∧ Zt T S S' (resC op l) (resA op l) ∧ l.length ≤ (argK op).length + 2 * n + 2
def Term (T : List Tk) (n : Nat) : Prop := ∀ op S, Good T S → InK S (argK op) → ArgOk T op S → need T op S ≤ n → Zr T op n S (run T n op S)
section
variable {T : List Tk} {S0 S : St} {c n : Nat} {vs : List Int} {op0 : Op}
theorem Zt.start (hg : Good T S) (hi : InK S vs) : Zt T S S 0 vs := ⟨hg, hg, Nat.le_refl _, hi, .refl⟩
theorem Zt.go {S1 : St} {k : Nat} (z : Zt T S0 S c vs) (g : Goes T S S1) (q : Kp T k S S1) : Zt T S0 S1 (c + k) vs := ⟨z.good0, g.good, Nat.le_trans z.len g.len, z.ink.mono g.len, z.kp.trans q⟩
theorem Zt.must (z : Zt T S0 S c vs) (x : List UInt8) : ∃ S1, mustL T x S = S1 ∧ Zt T S0 S1 (c + 1) vs := ⟨_, rfl, z.go (goes_must z.good x) (kp_must z.good x)⟩
theorem Zt.wrong (z : Zt T S0 S c vs) (e : Int) (he : ¬ e = 0 := by decide) : ∃ S1, wrongL T e S = S1 ∧ Zt T S0 S1 (c + 1) vs := ⟨_, rfl, z.go (goes_wrong z.good he) (kp_wrong1 z.good he)⟩
theorem Zt.down (z : Zt T S0 S c vs) : ∃ S1, downL T S = S1 ∧ Zt T S0 S1 (c + 0) vs := ⟨_, rfl, z.go (goes_down z.good) (kp_down z.good)⟩
theorem Zt.up (z : Zt T S0 S c vs) : ∃ S1, upL S = S1 ∧ Zt T S0 S1 (c + 0) vs := ⟨_, rfl, z.go (goes_up z.good) (kp_up z.good)⟩
theorem Zt.fend (z : Zt T S0 S c vs) : ∃ S1, endL T S = S1 ∧ Zt T S0 S1 (c + 0) vs := ⟨_, rfl, z.go (goes_end z.good) (kp_end z.good)⟩
theorem Zt.name (z : Zt T S0 S c vs) (hs : Toks T) : ∃ x S1, nameR T S = (x, S1) ∧ x.length ≤ 1000000 ∧ Zt T S0 S1 (c + 1) vs := ⟨_, _, rfl, name_len hs.short S, z.go (goes_name z.good) (kp_name z.good)⟩
theorem Zt.step (z : Zt T S0 S c vs) (k : ¬ (peekL T S).kind = 6) : ∃ S1, stepL S = S1 ∧ Sh (S1.fc = 0) ∧ Zt T S0 S1 (c + 1) vs := ⟨_, rfl, ⟨(z.good.rd.step k).1⟩, z.go (goes_step z.good k) (kp_step z.good k)⟩
theorem Zt.h0 (z : Zt T S0 S c vs) (h : S.fc = 0) : S0.fc = 0 := (z.kp.adv h).1
theorem Zt.k0 (z : Zt T S0 S c vs) (k : ¬ (peekL T S).kind = 6) : S0.fc = 0 := z.h0 (z.good.rd.step k).1
theorem Zt.flt (z : Zt T S0 S c vs) (h : ¬ S.fc = 0) : Zt T S0 S 1 vs := ⟨z.good0, z.good, z.len, z.ink, z.kp.fine, fun q => absurd q h⟩
theorem Zt.add (z : Zt T S0 S c vs) (kind pos : Int) (x : List UInt8) (m : Int) (ks : List Int) (hk : ∀ y ∈ ks, y = -1 ∨ y ∈ vs := by first | (simp; done) | grind) (hx : x.length ≤ 3000000 := by first | omega | (simp; done) | (simp; omega)) (hm : m ≤ 9223372036854775807 := by first | omega | exact wrap_le _) (hl : ks.length ≤ 281474976710 := by first | (simp; done) | omega | (simp; omega)) :
  ∃ v S1, addL T kind pos x m ks S = (v, S1) ∧ Zt T S0 S1 (c + 0) (v :: vs) := by
 have g := goes_add z.good kind pos x m ks
 refine ⟨_, _, rfl, z.good0, g.1.good, Nat.le_trans z.len g.1.len, fun y hy h0 => ?_, z.kp.trans (kp_add z.good kind pos x m ks hx hm hl)⟩
 rcases List.mem_cons.1 hy with e | e
 ·exact InK.one g.2 y (by rw [e]; exact List.mem_singleton.2 rfl) h0
 ·exact z.ink.mono g.1.len y e h0
theorem Zt.fin {S1 : St} {l : List Int} (z : Zt T S S1 c vs) (hw : ∀ y ∈ resA op0 l, y = -1 ∨ y ∈ vs := by first | (simp [resA, resK, fst0]; done) | (simp [resA, resK]; done) | (simp [resA, resK]; grind) | grind) (hc : resC op0 l ≤ c := by first | exact Nat.zero_le _ | (show 1 ≤ _; omega) | (simp [resC]; done) | (simp [resC]; omega)) (hl : l.length ≤ (argK op0).length + 2 * n + 2 := by first | (simp [argK, loopK]; done) | (simp [argK, loopK]; omega) | (simp only [argK, loopK, Option.getD_none, List.length_nil] at *; omega)) : Zr T op0 n S (some (l, S1)) :=
 ⟨l, S1, rfl, ⟨z.good0, z.good, z.len, z.ink.of hw, z.kp.weak hc⟩, hl⟩
theorem Zt.call {op : Op} (z : Zt T S0 S c vs) (tm : Term T n) (hnd : need T op0 S0 ≤ n + 1) (hf : rankF op < rankF op0 ∨ S0.fc = 0 := by first | (exact Or.inl (by simp only [rankF]; omega)) | (exact Or.inl (by simp only [rankF]; rw [w64 (by omega) (by omega)]; omega)))
  (hr : rank op < rank op0 ∨ 0 < c := by first | exact Or.inr (by omega) | exact Or.inl (by simp only [rank]; omega) | exact Or.inl (by simp only [rank]; rw [w64 (by omega) (by omega)]; omega))
  (hi : ∀ y ∈ argK op, y = -1 ∨ y ∈ vs := by first | (simp [argK, loopK]; done) | (simp [argK, loopK]; grind)) (ha : ArgOk T op S := by first | exact trivial | (simp only [ArgOk]; omega) | (simp only [ArgOk, List.length_nil]; omega) | (simp only [ArgOk]; rw [w64 (by omega) (by omega)]; omega) | exact wrap_le _)
  (h60 : rank op < 59 := by first | decide | (simp only [rank]; omega)) (hF60 : rankF op < 59 := by first | decide | (simp only [rankF]; omega)) :
  ∃ l S1, run T n op S = some (l, S1) ∧ Sh (l.length ≤ (argK op).length + 2 * n + 2) ∧ Zt T S0 S1 (c + resC op l) (resA op l ++ vs) := by
 obtain ⟨l, S1, e, w, hl⟩ := tm op S z.good (z.ink.of hi) ha (need_le z.good z.kp hnd hr hf h60 hF60 z.good0)
 exact ⟨l, S1, e, ⟨hl⟩, z.good0, w.good, Nat.le_trans z.len w.len, w.ink.append (z.ink.mono w.len), z.kp.trans w.kp⟩
theorem Zt.one {op : Op} (k : Nat) (z : ∃ l S1, run T n op S = some (l, S1) ∧ Sh (l.length ≤ (argK op).length + 2 * n + 2) ∧ Zt T S0 S1 (c + resC op l) (resA op l ++ vs)) (hk : ∀ l, resC op l = k := by intro _; rfl) (ha : ∀ l, resA op l = [fst0 l] := by intro _; rfl) :
  ∃ l S1 v, run T n op S = some (l, S1) ∧ fst0 l = v ∧ Sh (l.length ≤ (argK op).length + 2 * n + 2) ∧ Zt T S0 S1 (c + k) (v :: vs) := by
 obtain ⟨l, S1, e, hl, w⟩ := z
 exact ⟨l, S1, _, e, rfl, hl, by rw [hk, ha] at w; exact w⟩
theorem Zt.lst {op : Op} (z : ∃ l S1, run T n op S = some (l, S1) ∧ Sh (l.length ≤ (argK op).length + 2 * n + 2) ∧ Zt T S0 S1 (c + resC op l) (resA op l ++ vs)) (hk : ∀ l, resC op l = 0 := by intro _; rfl) (ha : ∀ l, resA op l = l := by intro _; rfl) :
  ∃ l S1, run T n op S = some (l, S1) ∧ l.length ≤ (argK op).length + 2 * n + 2 ∧ Zt T S0 S1 (c + 0) (l ++ vs) := by
 obtain ⟨l, S1, e, hl, w⟩ := z
 exact ⟨l, S1, e, hl.out, by rw [hk, ha] at w; exact w⟩
theorem Zt.mem (z : ∃ l S1, run T n .member S = some (l, S1) ∧ Sh (l.length ≤ (argK .member).length + 2 * n + 2) ∧ Zt T S0 S1 (c + resC .member l) (resA .member l ++ vs)) : ∃ l S1 v w, run T n .member S = some (l, S1) ∧ fst0 l = v ∧ l.getD 1 0 = w ∧ Zt T S0 S1 (c + 1) (v :: w :: vs) := by
 obtain ⟨l, S1, e, hl, w⟩ := z
 exact ⟨l, S1, _, _, e, rfl, rfl, w⟩
theorem Zt.tail {op : Op} (z : ∃ l S1, run T n op S = some (l, S1) ∧ Sh (l.length ≤ (argK op).length + 2 * n + 2) ∧ Zt T S0 S1 (c + resC op l) (resA op l ++ vs)) (hc : ∀ l, resC op0 l ≤ c + resC op l := by intro _; first | exact Nat.zero_le _ | (simp only [resC]; omega)) (ha : ∀ l, ∀ y ∈ resA op0 l, y ∈ resA op l := by intro _ _ h; exact h)
  (hl : (argK op).length ≤ (argK op0).length + 2 := by first | decide | (simp [argK, loopK]; done) | (simp [argK, loopK]; omega)) : Zr T op0 (n + 1) S0 (run T n op S) := by
 obtain ⟨l, S1, e, h1, w⟩ := z
 have h2 := h1.out
 exact ⟨l, S1, e, ⟨w.good0, w.good, w.len, w.ink.of fun y hy => .inr (List.mem_append_left _ (ha l y hy)), w.kp.weak (hc l)⟩, by omega⟩
end
end Go.Proofs.YtcbgpjlcfkkdlaaGreatDoor

