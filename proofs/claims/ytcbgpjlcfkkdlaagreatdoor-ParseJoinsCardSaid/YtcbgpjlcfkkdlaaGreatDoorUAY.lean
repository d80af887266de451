import Derived.Test.YtcbgpjlcfkkdlaaGreatDoorUAX
import Derived.Test.YtcbgpjlcfkkdlaaGreatDoorUAW
set_option linter.unusedSimpArgs false
set_option linter.unusedVariables false
set_option maxRecDepth 100000
set_option maxHeartbeats 16000000
namespace Go.Proofs.YtcbgpjlcfkkdlaaGreatDoor
open Go Go.AL Go.Proofs
def loopK : Op → Option (List Int)
 | .enumLoop _ k => some k
 | .blockLoop k => some k
 | .casesLoop _ k => some k
 | .caseLoop k => some k
 | .someLoop _ k => some k
 | .tableLoop k => some k
 | .paramsLoop k => some k
 | .classLoop k => some k
 | .top k => some k
 | .binLoop _ _ i => some [i]
 | .postLoop _ i => some [i]
 | _ => none
structure Toks (T : List Tk) : Prop where
 short : Short T
 nums : ∀ t ∈ T, t.num ≤ 9223372036854775807
def Fine (T : List Tk) (S : St) : Prop := (∀ n ∈ S.nodes, NdOk n ∧ n.kids.length ≤ 281474976710) ∧ (¬ S.fc = 0 → ∃ t ∈ T, t.pos = S.fa)
structure Kp (T : List Tk) (c : Nat) (S S' : St) : Prop where
 fine : Fine T S → Fine T S'
 adv : S'.fc = 0 → S.fc = 0 ∧ S.idx + c ≤ S'.idx
section
variable {T : List Tk} {S S2 S3 : St}
theorem Kp.refl : Kp T 0 S S := ⟨id, fun h => ⟨h, Nat.le_refl _⟩⟩
theorem Kp.trans {a b : Nat} (h1 : Kp T a S S2) (h2 : Kp T b S2 S3) : Kp T (a + b) S S3 := ⟨fun h => h2.fine (h1.fine h), fun h => by
 have q := h2.adv h
 have p := h1.adv q.1
 exact ⟨p.1, by omega⟩⟩
theorem Kp.weak {a b : Nat} (h : Kp T a S S2) (hb : b ≤ a) : Kp T b S S2 := ⟨h.fine, fun q => ⟨(h.adv q).1, by have := (h.adv q).2; omega⟩⟩
theorem peek_mem (hg : Good T S) {t : Tk} (h : peekL T S = t) : t ∈ T := by
 have hn := hg.rd.ne
 have hm : ∀ i, i < T.length → T.getD i default ∈ T := fun i hi => by
  simp only [List.getD, List.getElem?_eq_getElem hi, Option.getD_some]
  exact List.getElem_mem hi
 subst h
 unfold peekL
 split
 ·rename_i hf; exact hm _ (hg.rd.pos hf)
 ·exact hm _ (by omega)
theorem tok_ok (hs : Toks T) {t : Tk} (h : t ∈ T) : t.text.length ≤ 1000000 ∧ t.num ≤ 9223372036854775807 := ⟨hs.short t h, hs.nums t h⟩
theorem getD_short (hs : Short T) (i : Nat) : (T.getD i default).text.length ≤ 1000000 := by
 by_cases hi : i < T.length
 ·simp only [List.getD, List.getElem?_eq_getElem hi, Option.getD_some]
  exact hs _ (List.getElem_mem hi)
 ·simp only [List.getD, List.getElem?_eq_none (Nat.not_lt.1 hi), Option.getD_none]
  show ([] : List UInt8).length ≤ _
  simp
theorem wrap_le (n : Int) : IntKind.i64.wrap n ≤ 9223372036854775807 := by rw [IntKind.wrap_i64]; omega
theorem kp_same {c : Nat} (hn : S2.nodes = S.nodes) (hf : ¬ S2.fc = 0 → S2.fc = S.fc ∧ S2.fa = S.fa) (ha : S2.fc = 0 → S.fc = 0 ∧ S.idx + c ≤ S2.idx) : Kp T c S S2 := ⟨fun h => ⟨by rw [hn]; exact h.1, fun q => by
 obtain ⟨q1, q2⟩ := hf q
 rw [q2]
 exact h.2 (q1 ▸ q)⟩, ha⟩
theorem kp_wrong (hg : Good T S) {e : Int} (he : ¬ e = 0) {c : Nat} : Kp T (if S.fc = 0 then c else 0) S (wrongL T e S) := by
 by_cases h : S.fc = 0
 ·have hw : wrongL T e S = { S with fc := e, fa := (peekL T S).pos } := by unfold wrongL; rw [if_pos h]
  rw [hw, if_pos h]
  exact ⟨fun q => ⟨q.1, fun _ => ⟨_, peek_mem hg rfl, rfl⟩⟩, fun q => absurd q he⟩
 ·have hw : wrongL T e S = S := by unfold wrongL; rw [if_neg h]
  rw [hw, if_neg h]
  exact Kp.refl
theorem kp_wrong0 (hg : Good T S) {e : Int} (he : ¬ e = 0) : Kp T 0 S (wrongL T e S) := by
 have h := kp_wrong hg he (c := 0)
 split at h <;> exact h
theorem kp_wrong1 (hg : Good T S) {e : Int} (he : ¬ e = 0) : Kp T 1 S (wrongL T e S) := ⟨(kp_wrong0 hg he).fine, fun q => by
 by_cases h : S.fc = 0
 ·have hw : wrongL T e S = { S with fc := e, fa := (peekL T S).pos } := by unfold wrongL; rw [if_pos h]
  rw [hw] at q
  exact absurd q he
 ·have hw : wrongL T e S = S := by unfold wrongL; rw [if_neg h]
  rw [hw] at q
  exact absurd q h⟩
theorem kp_step (hg : Good T S) (hk : ¬ (peekL T S).kind = 6) : Kp T 1 S (stepL S) := kp_same rfl (fun _ => ⟨rfl, rfl⟩) fun h => ⟨h, Nat.le_refl _⟩
theorem kp_is (hg : Good T S) {x : List UInt8} (h : isL T x S = true) : Kp T 1 S (stepL S) := kp_step hg (isL_kind h)
theorem kp_must (hg : Good T S) (x : List UInt8) : Kp T 1 S (mustL T x S) := by
 unfold mustL
 split
 ·rename_i h; exact kp_is hg h
 ·exact kp_wrong1 hg (by decide)
theorem kp_name (hg : Good T S) : Kp T 1 S (nameR T S).2 := by
 unfold nameR
 split
 ·rename_i h; exact kp_step hg (by rw [h]; decide)
 ·exact kp_wrong1 hg (by decide)
theorem kp_down (hg : Good T S) : Kp T 0 S (downL T S) := by
 unfold downL
 simp only
 have h1 : Good T { S with nest := IntKind.i64.wrap (S.nest + 1) } := ⟨hg.rd.nest _, hg.dl⟩
 have h2 : Kp T 0 S { S with nest := IntKind.i64.wrap (S.nest + 1) } := kp_same rfl (fun _ => ⟨rfl, rfl⟩) fun h => ⟨h, Nat.le_refl _⟩
 split
 ·exact h2.trans (kp_wrong0 h1 (by decide))
 ·exact h2
theorem kp_up (hg : Good T S) : Kp T 0 S (upL S) := kp_same rfl (fun _ => ⟨rfl, rfl⟩) fun h => ⟨h, Nat.le_refl _⟩
theorem kp_end (hg : Good T S) : Kp T 0 S (endL T S) := by
 unfold endL
 split
 ·rename_i h; exact (kp_is hg h).weak (by omega)
 ·split
  ·exact Kp.refl
  ·exact kp_wrong0 hg (by decide)
theorem kp_fault (hg : Good T S) (e a : Int) (he : ¬ e = 0) (h : ∃ t ∈ T, t.pos = a) : Kp T 1 S (faultL e a S) := ⟨fun q => ⟨q.1, fun _ => h⟩, fun q => absurd q he⟩
theorem kp_down_step (hg : Good T S) (hk : ¬ (peekL T S).kind = 6) : Kp T 1 (downL T S) (stepL (downL T S)) := kp_same rfl (fun _ => ⟨rfl, rfl⟩) fun h => ⟨h, Nat.le_refl _⟩
theorem kp_wrong_step (hg : Good T S) (hf : S.fc = 0) (e : Int) (he : ¬ e = 0) : Kp T 1 (wrongL T e S) (stepL (wrongL T e S)) := kp_same rfl (fun _ => ⟨rfl, rfl⟩) fun h => ⟨h, Nat.le_refl _⟩
theorem kp_add (hg : Good T S) (kind pos : Int) (x : List UInt8) (n : Int) (kids : List Int) (hx : x.length ≤ 3000000) (hn : n ≤ 9223372036854775807) (hk : kids.length ≤ 281474976710) : Kp T 0 S (addL T kind pos x n kids S).2 := by
 unfold addL
 split
 ·rename_i hf
  split
  ·exact kp_wrong0 hg (by decide)
  ·rename_i hl
   obtain ⟨S1, hS1⟩ : ∃ S1 : St, { S with nodes := S.nodes ++ [(⟨kind, pos, x, n, kids⟩ : Nd)] } = S1 := ⟨_, rfl⟩
   obtain ⟨d, hd⟩ : ∃ d, deepOf S.deep kids 0 = d := ⟨_, rfl⟩
   simp only [hS1, hd]
   have hpk : (peekL T S1) = peekL T S := by rw [← hS1]; rfl
   have hnd : Fine T S → ∀ m ∈ S1.nodes, NdOk m ∧ m.kids.length ≤ 281474976710 := fun hF m hm => by
    rw [← hS1] at hm
    rcases List.mem_append.1 hm with hm | hm
    ·exact hF.1 m hm
    ·rw [List.mem_singleton.1 hm]
     exact ⟨⟨by show x.length < _; omega, by show kids.length ≤ _; omega, hn⟩, hk⟩
   have hfc : S1.fc = S.fc := by rw [← hS1]
   have hid : S1.idx = S.idx := by rw [← hS1]
   split
   ·have hw : wrongL T 6 S1 = { S1 with fc := 6, fa := (peekL T S1).pos } := by unfold wrongL; rw [if_pos (by rw [hfc]; exact hf)]
    rw [hw]
    refine ⟨fun hF => ⟨hnd hF, fun _ => ⟨_, peek_mem hg rfl, by show _ = (peekL T S1).pos; rw [hpk]⟩⟩, fun q => ?_⟩
    exact absurd q (by show ¬ (6 : Int) = 0; decide)
   ·refine ⟨fun hF => ⟨hnd hF, fun q => absurd ?_ q⟩, fun _ => ⟨hf, ?_⟩⟩
    ·show S1.fc = 0; rw [hfc]; exact hf
    ·show S.idx + 0 ≤ S1.idx; rw [hid]; exact Nat.le_refl _
 ·exact Kp.refl
end
def rank : Op → Nat
 | .stmt => 24
 | .word _ => 6
 | .named _ => 5
 | .locl _ => 4
 | .literal => 1
 | .enum _ => 1
 | .enumLoop _ _ => 1
 | .block => 2
 | .blockLoop _ => 25
 | .body => 25
 | .control _ => 26
 | .paren => 1
 | .loop _ => 1
 | .foreach _ => 1
 | .cases _ => 2
 | .casesLoop _ _ => 1
 | .caseLoop _ => 25
 | .expr => 23
 | .cond _ => 22
 | .binary l => 20 - l.toNat
 | .binLoop _ _ _ => 1
 | .unary => 9
 | .postf => 8
 | .postLoop _ _ => 1
 | .some _ => 25
 | .someLoop _ _ => 24
 | .primary => 7
 | .member => 5
 | .table => 2
 | .tableLoop _ => 6
 | .function => 3
 | .params _ _ => 1
 | .paramsLoop _ => 1
 | .clas => 3
 | .classLoop _ => 6
 | .top _ => 25
def rankF : Op → Nat
 | .stmt => 3
 | .block => 2
 | .body => 4
 | .control _ => 7
 | .paren => 3
 | .loop _ => 6
 | .foreach _ => 6
 | .cases _ => 4
 | .cond _ => 30
 | .binary l => 29 - l.toNat
 | .unary => 6
 | .postf => 5
 | .primary => 4
 | .enum _ => 2
 | .table => 2
 | .params _ _ => 3
 | .function => 4
 | .clas => 3
 | .some _ => 2
 | .member => 6
 | .named _ => 8
 | .expr => 2
 | _ => 1
def need (T : List Tk) (op : Op) (S : St) : Nat := if S.fc = 0 then 60 * (T.length - S.idx) + rank op else rankF op
def resC : Op → List Int → Nat
 | .stmt, _ => 1
 | .word _, l => if l.getD 1 0 = 1 then 1 else 0
 | .named _, _ => 1
 | .block, _ => 1
 | .expr, _ => 1
 | .cond _, _ => 1
 | .binary _, _ => 1
 | .unary, _ => 1
 | .postf, _ => 1
 | .primary, _ => 1
 | .member, _ => 1
 | .table, _ => 1
 | .function, _ => 1
 | .clas, _ => 1
 | _, _ => 0
def ArgOk (T : List Tk) : Op → St → Prop
 | .params _ x, _ => x.length ≤ 1000000
 | .enumLoop v _, _ => v ≤ 9223372036854775807
 | .binary l, _ => 0 ≤ l ∧ l ≤ 10
 | .binLoop l _ _, _ => 0 ≤ l ∧ l ≤ 9
 | .word _, S => ¬ (peekL T S).kind = 6
 | .named _, S => S.fc = 0 ∧ S.idx + 1 < T.length
 | _, _ => True
def argK (op : Op) : List Int := (loopK op).getD []
def resA : Op → List Int → List Int
 | .binLoop _ _ _, l => [fst0 l]
 | .postLoop _ _, l => [fst0 l]
 | .enumLoop _ _, l => l
 | .blockLoop _, l => l
 | .casesLoop _ _, l => l
 | .caseLoop _, l => l
 | .someLoop _ _, l => l
 | .tableLoop _, l => l
 | .paramsLoop _, l => l
 | .classLoop _, l => l
 | .top _, l => l
 | op, l => resK op l
theorem need_le {T : List Tk} {S S1 : St} {op op1 : Op} {c n : Nat} (hg1 : Good T S1) (k : Kp T c S S1) (h : need T op S ≤ n + 1) (hr : rank op1 < rank op ∨ 0 < c) (hf : rankF op1 < rankF op ∨ S.fc = 0) (h60 : rank op1 < 59 := by simp only [rank]; omega) (hF60 : rankF op1 < 59 := by simp only [rankF]; omega) (hg : Good T S) : need T op1 S1 ≤ n := by
 unfold need at h ⊢
 by_cases e1 : S1.fc = 0
 ·obtain ⟨e2, e3⟩ := k.adv e1
  have e4 := hg1.rd.pos e1
  rw [if_pos e1]
  rw [if_pos e2] at h
  omega
 ·rw [if_neg e1]
  by_cases e2 : S.fc = 0
  ·rw [if_pos e2] at h
   have := hg.rd.pos e2
   omega
  ·rw [if_neg e2] at h
   rcases hf with hf | hf
   ·omega
   ·exact absurd hf e2
structure Zt (T : List Tk) (S0 S : St) (c : Nat) (vs : List Int) : Prop where
 good0 : Good T S0
 good : Good T S
 len : S0.nodes.length ≤ S.nodes.length
 ink : InK S vs
 kp : Kp T c S0 S
def Zr (T : List Tk) (op : Op) (n : Nat) (S : St) (x : Option Res) : Prop := ∃ l S', x = some (l, S') ∧ Zt T S S' (resC op l) (resA op l) ∧ l.length ≤ (argK op).length + 2 * n + 2
def Term (T : List Tk) (n : Nat) : Prop := ∀ op S, Good T S → InK S (argK op) → ArgOk T op S → need T op S ≤ n → Zr T op n S (run T n op S)
section
variable {T : List Tk} {S0 S : St} {c n : Nat} {vs : List Int} {op0 : Op}
theorem Zt.start (hg : Good T S) (hi : InK S vs) : Zt T S S 0 vs := ⟨hg, hg, Nat.le_refl _, hi, .refl⟩
theorem Zt.go {S1 : St} {k : Nat} (z : Zt T S0 S c vs) (g : Goes T S S1) (q : Kp T k S S1) : Zt T S0 S1 (c + k) vs := ⟨z.good0, g.good, Nat.le_trans z.len g.len, z.ink.mono g.len, z.kp.trans q⟩
theorem Zt.must (z : Zt T S0 S c vs) (x : List UInt8) : ∃ S1, mustL T x S = S1 ∧ Zt T S0 S1 (c + 1) vs := ⟨_, rfl, z.go (goes_must z.good x) (kp_must z.good x)⟩
theorem Zt.wrong (z : Zt T S0 S c vs) (e : Int) (he : ¬ e = 0 := by decide) : ∃ S1, wrongL T e S = S1 ∧ Zt T S0 S1 (c + 1) vs := ⟨_, rfl, z.go (goes_wrong z.good he) (kp_wrong1 z.good he)⟩
theorem Zt.down (z : Zt T S0 S c vs) : ∃ S1, downL T S = S1 ∧ Zt T S0 S1 (c + 0) vs := ⟨_, rfl, z.go (goes_down z.good) (kp_down z.good)⟩
theorem Zt.up (z : Zt T S0 S c vs) : ∃ S1, upL S = S1 ∧ Zt T S0 S1 (c + 0) vs := ⟨_, rfl, z.go (goes_up z.good) (kp_up z.good)⟩
theorem Zt.fend (z : Zt T S0 S c vs) : ∃ S1, endL T S = S1 ∧ Zt T S0 S1 (c + 0) vs := ⟨_, rfl, z.go (goes_end z.good) (kp_end z.good)⟩
theorem Zt.name (z : Zt T S0 S c vs) (hs : Toks T) : ∃ x S1, nameR T S = (x, S1) ∧ x.length ≤ 1000000 ∧ Zt T S0 S1 (c + 1) vs := ⟨_, _, rfl, name_len hs.short S, z.go (goes_name z.good) (kp_name z.good)⟩
theorem Zt.step (z : Zt T S0 S c vs) (k : ¬ (peekL T S).kind = 6) : ∃ S1, stepL S = S1 ∧ Sh (S1.fc = 0) ∧ Zt T S0 S1 (c + 1) vs := ⟨_, rfl, ⟨(z.good.rd.step k).1⟩, z.go (goes_step z.good k) (kp_step z.good k)⟩
theorem Zt.h0 (z : Zt T S0 S c vs) (h : S.fc = 0) : S0.fc = 0 := (z.kp.adv h).1
theorem Zt.k0 (z : Zt T S0 S c vs) (k : ¬ (peekL T S).kind = 6) : S0.fc = 0 := z.h0 (z.good.rd.step k).1
theorem Zt.flt (z : Zt T S0 S c vs) (h : ¬ S.fc = 0) : Zt T S0 S 1 vs := ⟨z.good0, z.good, z.len, z.ink, z.kp.fine, fun q => absurd q h⟩
theorem Zt.add (z : Zt T S0 S c vs) (kind pos : Int) (x : List UInt8) (m : Int) (ks : List Int) (hk : ∀ y ∈ ks, y = -1 ∨ y ∈ vs := by first | (simp; done) | grind) (hx : x.length ≤ 3000000 := by first | omega | (simp; done) | (simp; omega)) (hm : m ≤ 9223372036854775807 := by first | omega | exact wrap_le _) (hl : ks.length ≤ 281474976710 := by first | (simp; done) | omega | (simp; omega)) :
  ∃ v S1, addL T kind pos x m ks S = (v, S1) ∧ Zt T S0 S1 (c + 0) (v :: vs) := by
 have g := goes_add z.good kind pos x m ks
 refine ⟨_, _, rfl, z.good0, g.1.good, Nat.le_trans z.len g.1.len, fun y hy h0 => ?_, z.kp.trans (kp_add z.good kind pos x m ks hx hm hl)⟩
 rcases List.mem_cons.1 hy with e | e
 ·exact InK.one g.2 y (by rw [e]; exact List.mem_singleton.2 rfl) h0
 ·exact z.ink.mono g.1.len y e h0
theorem Zt.fin {S1 : St} {l : List Int} (z : Zt T S S1 c vs) (hw : ∀ y ∈ resA op0 l, y = -1 ∨ y ∈ vs := by first | (simp [resA, resK, fst0]; done) | (simp [resA, resK]; done) | (simp [resA, resK]; grind) | grind) (hc : resC op0 l ≤ c := by first | exact Nat.zero_le _ | (show 1 ≤ _; omega) | (simp [resC]; done) | (simp [resC]; omega)) (hl : l.length ≤ (argK op0).length + 2 * n + 2 := by first | (simp [argK, loopK]; done) | (simp [argK, loopK]; omega) | (simp only [argK, loopK, Option.getD_none, List.length_nil] at *; omega)) : Zr T op0 n S (some (l, S1)) :=
 ⟨l, S1, rfl, ⟨z.good0, z.good, z.len, z.ink.of hw, z.kp.weak hc⟩, hl⟩
theorem Zt.call {op : Op} (z : Zt T S0 S c vs) (tm : Term T n) (hnd : need T op0 S0 ≤ n + 1) (hf : rankF op < rankF op0 ∨ S0.fc = 0 := by first | (exact Or.inl (by simp only [rankF]; omega)) | (exact Or.inl (by simp only [rankF]; rw [w64 (by omega) (by omega)]; omega)))
  (hr : rank op < rank op0 ∨ 0 < c := by first | exact Or.inr (by omega) | exact Or.inl (by simp only [rank]; omega) | exact Or.inl (by simp only [rank]; rw [w64 (by omega) (by omega)]; omega))
  (hi : ∀ y ∈ argK op, y = -1 ∨ y ∈ vs := by first | (simp [argK, loopK]; done) | (simp [argK, loopK]; grind)) (ha : ArgOk T op S := by first | exact trivial | (simp only [ArgOk]; omega) | (simp only [ArgOk, List.length_nil]; omega) | (simp only [ArgOk]; rw [w64 (by omega) (by omega)]; omega) | exact wrap_le _)
  (h60 : rank op < 59 := by first | decide | (simp only [rank]; omega)) (hF60 : rankF op < 59 := by first | decide | (simp only [rankF]; omega)) :
  ∃ l S1, run T n op S = some (l, S1) ∧ Sh (l.length ≤ (argK op).length + 2 * n + 2) ∧ Zt T S0 S1 (c + resC op l) (resA op l ++ vs) := by
 obtain ⟨l, S1, e, w, hl⟩ := tm op S z.good (z.ink.of hi) ha (need_le z.good z.kp hnd hr hf h60 hF60 z.good0)
 exact ⟨l, S1, e, ⟨hl⟩, z.good0, w.good, Nat.le_trans z.len w.len, w.ink.append (z.ink.mono w.len), z.kp.trans w.kp⟩
theorem Zt.one {op : Op} (k : Nat) (z : ∃ l S1, run T n op S = some (l, S1) ∧ Sh (l.length ≤ (argK op).length + 2 * n + 2) ∧ Zt T S0 S1 (c + resC op l) (resA op l ++ vs)) (hk : ∀ l, resC op l = k := by intro _; rfl) (ha : ∀ l, resA op l = [fst0 l] := by intro _; rfl) :
  ∃ l S1 v, run T n op S = some (l, S1) ∧ fst0 l = v ∧ Sh (l.length ≤ (argK op).length + 2 * n + 2) ∧ Zt T S0 S1 (c + k) (v :: vs) := by
 obtain ⟨l, S1, e, hl, w⟩ := z
 exact ⟨l, S1, _, e, rfl, hl, by rw [hk, ha] at w; exact w⟩
theorem Zt.lst {op : Op} (z : ∃ l S1, run T n op S = some (l, S1) ∧ Sh (l.length ≤ (argK op).length + 2 * n + 2) ∧ Zt T S0 S1 (c + resC op l) (resA op l ++ vs)) (hk : ∀ l, resC op l = 0 := by intro _; rfl) (ha : ∀ l, resA op l = l := by intro _; rfl) :
  ∃ l S1, run T n op S = some (l, S1) ∧ l.length ≤ (argK op).length + 2 * n + 2 ∧ Zt T S0 S1 (c + 0) (l ++ vs) := by
 obtain ⟨l, S1, e, hl, w⟩ := z
 exact ⟨l, S1, e, hl.out, by rw [hk, ha] at w; exact w⟩
theorem Zt.mem (z : ∃ l S1, run T n .member S = some (l, S1) ∧ Sh (l.length ≤ (argK .member).length + 2 * n + 2) ∧ Zt T S0 S1 (c + resC .member l) (resA .member l ++ vs)) : ∃ l S1 v w, run T n .member S = some (l, S1) ∧ fst0 l = v ∧ l.getD 1 0 = w ∧ Zt T S0 S1 (c + 1) (v :: w :: vs) := by
 obtain ⟨l, S1, e, hl, w⟩ := z
 exact ⟨l, S1, _, _, e, rfl, rfl, w⟩
theorem Zt.tail {op : Op} (z : ∃ l S1, run T n op S = some (l, S1) ∧ Sh (l.length ≤ (argK op).length + 2 * n + 2) ∧ Zt T S0 S1 (c + resC op l) (resA op l ++ vs)) (hc : ∀ l, resC op0 l ≤ c + resC op l := by intro _; first | exact Nat.zero_le _ | (simp only [resC]; omega)) (ha : ∀ l, ∀ y ∈ resA op0 l, y ∈ resA op l := by intro _ _ h; exact h)
  (hl : (argK op).length ≤ (argK op0).length + 2 := by first | decide | (simp [argK, loopK]; done) | (simp [argK, loopK]; omega)) : Zr T op0 (n + 1) S0 (run T n op S) := by
 obtain ⟨l, S1, e, h1, w⟩ := z
 have h2 := h1.out
 exact ⟨l, S1, e, ⟨w.good0, w.good, w.len, w.ink.of fun y hy => .inr (List.mem_append_left _ (ha l y hy)), w.kp.weak (hc l)⟩, by omega⟩
end
end Go.Proofs.YtcbgpjlcfkkdlaaGreatDoor

namespace Go.Proofs.YtcbgpjlcfkkdlaaGreatDoor
open Go Go.AL Go.Proofs
theorem loop_z (T : List Tk) (n : Nat) (at_ : Int) (hs : Toks T) (hn : n ≤ 1000000) (tm : Term T n) : ∀ S, Good T S → InK S (argK (.loop at_)) → ArgOk T (.loop at_) S → need T (.loop at_) S ≤ n + 1 → Zr T (.loop at_) (n + 1) S (run T (n + 1) (.loop at_) S) := by
 intro S hg hin ha hnd
 simp only[run,Z]
 simp only[ArgOk]at ha
 have z:Zt T S S 0 []:=Zt.start hg InK.nil
 obtain ⟨S1,e1,z1⟩:=z.must [40]
 try simp only[e1,Z]
 obtain ⟨t,ht_t⟩:∃ x,Sh (peekL T S1=x):=⟨_,⟨rfl⟩⟩
 try simp only[ht_t.out,Z]
 have hx_t:=tok_ok hs (peek_mem z1.good ht_t.out)
 cases c1:isL T [59] S1
 try simp only[c1,Z]
 cases c2:isL T [108, 111, 99, 97, 108] S1
 try simp only[c2,Z]
 obtain ⟨l1,S2,v1,h1,e2,hl1,z2⟩:=Zt.one 1 (z1.call (op:=.expr) tm hnd)
 try simp only[h1,e2,Z]
 obtain ⟨v2,S3,e3,z3⟩:=z2.add 28 t.pos [] 0 [v1]
 try simp only[e3,Z]
 obtain ⟨S4,e4,z4⟩:=z3.must [59]
 try simp only[e4,Z]
 cases c3:isL T [59] S4
 try simp only[c3,Z]
 obtain ⟨l2,S5,v3,h2,e5,hl2,z5⟩:=Zt.one 1 (z4.call (op:=.expr) tm hnd)
 try simp only[h2,e5,Z]
 obtain ⟨S6,e6,z6⟩:=z5.must [59]
 try simp only[e6,Z]
 cases c4:isL T [41] S6
 try simp only[c4,Z]
 obtain ⟨l3,S7,v4,h3,e7,hl3,z7⟩:=Zt.one 1 (z6.call (op:=.expr) tm hnd)
 try simp only[h3,e7,Z]
 obtain ⟨S8,e8,z8⟩:=z7.must [41]
 try simp only[e8,Z]
 obtain ⟨l4,S9,v5,h4,e9,hl4,z9⟩:=Zt.one 0 (z8.call (op:=.body) tm hnd)
 try simp only[h4,e9,Z]
 obtain ⟨v6,S10,e10,z10⟩:=z9.add 32 at_ [] 0 [v2, v3, v4, v5]
 try simp only[e10,Z]
 exact z10.fin
 try simp only[c4,Z]
 have h0:=z6.k0 (isL_kind c4)
 obtain ⟨S11,e11,z11⟩:=z6.must [41]
 try simp only[e11,Z]
 obtain ⟨l5,S12,v7,h5,e12,hl5,z12⟩:=Zt.one 0 (z11.call (op:=.body) tm hnd (.inr h0))
 try simp only[h5,e12,Z]
 obtain ⟨v8,S13,e13,z13⟩:=z12.add 32 at_ [] 0 [v2, v3, -1, v7]
 try simp only[e13,Z]
 exact z13.fin
 have h0:=z4.k0 (isL_kind c3)
 obtain ⟨S14,e14,hz1,z14⟩:=z4.step (isL_kind c3)
 try simp only[c3,e14,Z]
 cases c5:isL T [41] S14
 try simp only[c5,Z]
 obtain ⟨l6,S15,v9,h6,e15,hl6,z15⟩:=Zt.one 1 (z14.call (op:=.expr) tm hnd (.inr h0))
 try simp only[h6,e15,Z]
 obtain ⟨S16,e16,z16⟩:=z15.must [41]
 try simp only[e16,Z]
 obtain ⟨l7,S17,v10,h7,e17,hl7,z17⟩:=Zt.one 0 (z16.call (op:=.body) tm hnd (.inr h0))
 try simp only[h7,e17,Z]
 obtain ⟨v11,S18,e18,z18⟩:=z17.add 32 at_ [] 0 [v2, -1, v9, v10]
 try simp only[e18,Z]
 exact z18.fin
 try simp only[c5,Z]
 obtain ⟨S19,e19,z19⟩:=z14.must [41]
 try simp only[e19,Z]
 obtain ⟨l8,S20,v12,h8,e20,hl8,z20⟩:=Zt.one 0 (z19.call (op:=.body) tm hnd (.inr h0))
 try simp only[h8,e20,Z]
 obtain ⟨v13,S21,e21,z21⟩:=z20.add 32 at_ [] 0 [v2, -1, -1, v12]
 try simp only[e21,Z]
 exact z21.fin
 have h0:=z1.k0 (isL_kind c2)
 obtain ⟨S22,e22,hz2,z22⟩:=z1.step (isL_kind c2)
 try simp only[c2,e22,Z]
 obtain ⟨x1,S23,e23,l9,z23⟩:=z22.name hs
 try simp only[e23,Z]
 cases c6:isL T [61] S23
 try simp only[c6,Z]
 obtain ⟨v14,S24,e24,z24⟩:=z23.add 27 t.pos x1 0 [-1]
 try simp only[e24,Z]
 obtain ⟨S25,e25,z25⟩:=z24.must [59]
 try simp only[e25,Z]
 cases c7:isL T [59] S25
 try simp only[c7,Z]
 obtain ⟨l10,S26,v15,h9,e26,hl9,z26⟩:=Zt.one 1 (z25.call (op:=.expr) tm hnd (.inr h0))
 try simp only[h9,e26,Z]
 obtain ⟨S27,e27,z27⟩:=z26.must [59]
 try simp only[e27,Z]
 cases c8:isL T [41] S27
 try simp only[c8,Z]
 obtain ⟨l11,S28,v16,h10,e28,hl10,z28⟩:=Zt.one 1 (z27.call (op:=.expr) tm hnd (.inr h0))
 try simp only[h10,e28,Z]
 obtain ⟨S29,e29,z29⟩:=z28.must [41]
 try simp only[e29,Z]
 obtain ⟨l12,S30,v17,h11,e30,hl11,z30⟩:=Zt.one 0 (z29.call (op:=.body) tm hnd (.inr h0))
 try simp only[h11,e30,Z]
 obtain ⟨v18,S31,e31,z31⟩:=z30.add 32 at_ [] 0 [v14, v15, v16, v17]
 try simp only[e31,Z]
 exact z31.fin
 try simp only[c8,Z]
 obtain ⟨S32,e32,z32⟩:=z27.must [41]
 try simp only[e32,Z]
 obtain ⟨l13,S33,v19,h12,e33,hl12,z33⟩:=Zt.one 0 (z32.call (op:=.body) tm hnd (.inr h0))
 try simp only[h12,e33,Z]
 obtain ⟨v20,S34,e34,z34⟩:=z33.add 32 at_ [] 0 [v14, v15, -1, v19]
 try simp only[e34,Z]
 exact z34.fin
 obtain ⟨S35,e35,hz3,z35⟩:=z25.step (isL_kind c7)
 try simp only[c7,e35,Z]
 cases c9:isL T [41] S35
 try simp only[c9,Z]
 obtain ⟨l14,S36,v21,h13,e36,hl13,z36⟩:=Zt.one 1 (z35.call (op:=.expr) tm hnd (.inr h0))
 try simp only[h13,e36,Z]
 obtain ⟨S37,e37,z37⟩:=z36.must [41]
 try simp only[e37,Z]
 obtain ⟨l15,S38,v22,h14,e38,hl14,z38⟩:=Zt.one 0 (z37.call (op:=.body) tm hnd (.inr h0))
 try simp only[h14,e38,Z]
 obtain ⟨v23,S39,e39,z39⟩:=z38.add 32 at_ [] 0 [v14, -1, v21, v22]
 try simp only[e39,Z]
 exact z39.fin
 try simp only[c9,Z]
 obtain ⟨S40,e40,z40⟩:=z35.must [41]
 try simp only[e40,Z]
 obtain ⟨l16,S41,v24,h15,e41,hl15,z41⟩:=Zt.one 0 (z40.call (op:=.body) tm hnd (.inr h0))
 try simp only[h15,e41,Z]
 obtain ⟨v25,S42,e42,z42⟩:=z41.add 32 at_ [] 0 [v14, -1, -1, v24]
 try simp only[e42,Z]
 exact z42.fin
 obtain ⟨S43,e43,hz4,z43⟩:=z23.step (isL_kind c6)
 try simp only[c6,e43,Z]
 obtain ⟨l17,S44,v26,h16,e44,hl16,z44⟩:=Zt.one 1 (z43.call (op:=.expr) tm hnd (.inr h0))
 try simp only[h16,e44,Z]
 obtain ⟨v27,S45,e45,z45⟩:=z44.add 27 t.pos x1 0 [v26]
 try simp only[e45,Z]
 obtain ⟨S46,e46,z46⟩:=z45.must [59]
 try simp only[e46,Z]
 cases c10:isL T [59] S46
 try simp only[c10,Z]
 obtain ⟨l18,S47,v28,h17,e47,hl17,z47⟩:=Zt.one 1 (z46.call (op:=.expr) tm hnd (.inr h0))
 try simp only[h17,e47,Z]
 obtain ⟨S48,e48,z48⟩:=z47.must [59]
 try simp only[e48,Z]
 cases c11:isL T [41] S48
 try simp only[c11,Z]
 obtain ⟨l19,S49,v29,h18,e49,hl18,z49⟩:=Zt.one 1 (z48.call (op:=.expr) tm hnd (.inr h0))
 try simp only[h18,e49,Z]
 obtain ⟨S50,e50,z50⟩:=z49.must [41]
 try simp only[e50,Z]
 obtain ⟨l20,S51,v30,h19,e51,hl19,z51⟩:=Zt.one 0 (z50.call (op:=.body) tm hnd (.inr h0))
 try simp only[h19,e51,Z]
 obtain ⟨v31,S52,e52,z52⟩:=z51.add 32 at_ [] 0 [v27, v28, v29, v30]
 try simp only[e52,Z]
 exact z52.fin
 try simp only[c11,Z]
 obtain ⟨S53,e53,z53⟩:=z48.must [41]
 try simp only[e53,Z]
 obtain ⟨l21,S54,v32,h20,e54,hl20,z54⟩:=Zt.one 0 (z53.call (op:=.body) tm hnd (.inr h0))
 try simp only[h20,e54,Z]
 obtain ⟨v33,S55,e55,z55⟩:=z54.add 32 at_ [] 0 [v27, v28, -1, v32]
 try simp only[e55,Z]
 exact z55.fin
 obtain ⟨S56,e56,hz5,z56⟩:=z46.step (isL_kind c10)
 try simp only[c10,e56,Z]
 cases c12:isL T [41] S56
 try simp only[c12,Z]
 obtain ⟨l22,S57,v34,h21,e57,hl21,z57⟩:=Zt.one 1 (z56.call (op:=.expr) tm hnd (.inr h0))
 try simp only[h21,e57,Z]
 obtain ⟨S58,e58,z58⟩:=z57.must [41]
 try simp only[e58,Z]
 obtain ⟨l23,S59,v35,h22,e59,hl22,z59⟩:=Zt.one 0 (z58.call (op:=.body) tm hnd (.inr h0))
 try simp only[h22,e59,Z]
 obtain ⟨v36,S60,e60,z60⟩:=z59.add 32 at_ [] 0 [v27, -1, v34, v35]
 try simp only[e60,Z]
 exact z60.fin
 try simp only[c12,Z]
 obtain ⟨S61,e61,z61⟩:=z56.must [41]
 try simp only[e61,Z]
 obtain ⟨l24,S62,v37,h23,e62,hl23,z62⟩:=Zt.one 0 (z61.call (op:=.body) tm hnd (.inr h0))
 try simp only[h23,e62,Z]
 obtain ⟨v38,S63,e63,z63⟩:=z62.add 32 at_ [] 0 [v27, -1, -1, v37]
 try simp only[e63,Z]
 exact z63.fin
 have h0:=z1.k0 (isL_kind c1)
 obtain ⟨S64,e64,hz6,z64⟩:=z1.step (isL_kind c1)
 try simp only[c1,e64,Z]
 cases c13:isL T [59] S64
 try simp only[c13,Z]
 obtain ⟨l25,S65,v39,h24,e65,hl24,z65⟩:=Zt.one 1 (z64.call (op:=.expr) tm hnd (.inr h0))
 try simp only[h24,e65,Z]
 obtain ⟨S66,e66,z66⟩:=z65.must [59]
 try simp only[e66,Z]
 cases c14:isL T [41] S66
 try simp only[c14,Z]
 obtain ⟨l26,S67,v40,h25,e67,hl25,z67⟩:=Zt.one 1 (z66.call (op:=.expr) tm hnd (.inr h0))
 try simp only[h25,e67,Z]
 obtain ⟨S68,e68,z68⟩:=z67.must [41]
 try simp only[e68,Z]
 obtain ⟨l27,S69,v41,h26,e69,hl26,z69⟩:=Zt.one 0 (z68.call (op:=.body) tm hnd (.inr h0))
 try simp only[h26,e69,Z]
 obtain ⟨v42,S70,e70,z70⟩:=z69.add 32 at_ [] 0 [-1, v39, v40, v41]
 try simp only[e70,Z]
 exact z70.fin
 try simp only[c14,Z]
 obtain ⟨S71,e71,z71⟩:=z66.must [41]
 try simp only[e71,Z]
 obtain ⟨l28,S72,v43,h27,e72,hl27,z72⟩:=Zt.one 0 (z71.call (op:=.body) tm hnd (.inr h0))
 try simp only[h27,e72,Z]
 obtain ⟨v44,S73,e73,z73⟩:=z72.add 32 at_ [] 0 [-1, v39, -1, v43]
 try simp only[e73,Z]
 exact z73.fin
 obtain ⟨S74,e74,hz7,z74⟩:=z64.step (isL_kind c13)
 try simp only[c13,e74,Z]
 cases c15:isL T [41] S74
 try simp only[c15,Z]
 obtain ⟨l29,S75,v45,h28,e75,hl28,z75⟩:=Zt.one 1 (z74.call (op:=.expr) tm hnd (.inr h0))
 try simp only[h28,e75,Z]
 obtain ⟨S76,e76,z76⟩:=z75.must [41]
 try simp only[e76,Z]
 obtain ⟨l30,S77,v46,h29,e77,hl29,z77⟩:=Zt.one 0 (z76.call (op:=.body) tm hnd (.inr h0))
 try simp only[h29,e77,Z]
 obtain ⟨v47,S78,e78,z78⟩:=z77.add 32 at_ [] 0 [-1, -1, v45, v46]
 try simp only[e78,Z]
 exact z78.fin
 try simp only[c15,Z]
 obtain ⟨S79,e79,z79⟩:=z74.must [41]
 try simp only[e79,Z]
 obtain ⟨l31,S80,v48,h30,e80,hl30,z80⟩:=Zt.one 0 (z79.call (op:=.body) tm hnd (.inr h0))
 try simp only[h30,e80,Z]
 obtain ⟨v49,S81,e81,z81⟩:=z80.add 32 at_ [] 0 [-1, -1, -1, v48]
 try simp only[e81,Z]
 exact z81.fin
theorem postfix_zl (T : List Tk) (n : Nat) (a : Tk) (i : Int) (hs : Toks T) (hn : n ≤ 1000000) (tm : Term T n) : ∀ Sq, Good T Sq → InK Sq (argK (.postLoop a.pos i)) → ArgOk T (.postLoop a.pos i) Sq → need T (.postLoop a.pos i) Sq ≤ n + 1 → Zr T (.postLoop a.pos i) (n + 1) Sq (run T (n + 1) (.postLoop a.pos i) Sq) := by
 intro Sq hg hin ha hnd
 simp only[run,Z]
 simp only[ArgOk]at ha
 have z:Zt T Sq Sq 0 [i]:=Zt.start hg hin
 by_cases hgo:Sq.fc=0
 try simp only[if_pos hgo,Z]
 have h0:=z.h0 hgo
 obtain ⟨t,ht_t⟩:∃ x,Sh (peekL T Sq=x):=⟨_,⟨rfl⟩⟩
 try simp only[ht_t.out,Z]
 have hx_t:=tok_ok hs (peek_mem z.good ht_t.out)
 cases hln:t.line
 try simp only[hln,Z]
 cases c1:isL T [46] Sq
 try simp only[c1,Z]
 cases c2:isL T [91] Sq
 try simp only[c2,Z]
 cases c3:isL T [40] Sq
 try simp only[c3,Z]
 cases d1:decide (t.kind = 5)
 try simp only[ef d1,d1,Z]
 exact z.fin
 try simp only[et d1,d1,Z]
 cases hst:isStep t.text
 try simp only[hst,Z]
 exact z.fin
 try simp only[hst,Z]
 cases d2:isTarget (kindL Sq i)
 try simp only[d2,Z]
 obtain ⟨S2,e2,z2⟩:=z.wrong 30
 try simp only[e2,Z]
 exact z2.fin
 try simp only[d2,Z]
 obtain ⟨S3,e3,hz1,z3⟩:=z.step (kk ht_t d1)
 try simp only[e3,Z]
 obtain ⟨v2,S4,e4,z4⟩:=z3.add 13 a.pos t.text 1 [i]
 try simp only[e4,Z]
 exact z4.fin
 try simp only[c3,Z]
 obtain ⟨S5,e5,hz2,z5⟩:=z.step (isL_kind c3)
 try simp only[e5,Z]
 obtain ⟨l2,S6,h2,hl2,z6⟩:=Zt.lst (z5.call (op:=(.some [41])) tm hnd (.inr h0))
 simp only[argK,loopK,Option.getD_none,List.length_nil]at hl2
 try simp only[h2,Z]
 obtain ⟨v3,S7,e6,z7⟩:=z6.add 17 a.pos [] 0 (i :: l2)
 try simp only[e6,Z]
 exact Zt.tail (z7.call (op:=(.postLoop a.pos v3)) tm hnd (.inr h0))
 try simp only[c2,Z]
 obtain ⟨S8,e7,hz3,z8⟩:=z.step (isL_kind c2)
 try simp only[e7,Z]
 obtain ⟨l3,S9,v4,h3,e8,hl3,z9⟩:=Zt.one 1 (z8.call (op:=.expr) tm hnd (.inr h0))
 try simp only[h3,e8,Z]
 obtain ⟨S10,e9,z10⟩:=z9.must [93]
 try simp only[e9,Z]
 obtain ⟨v5,S11,e10,z11⟩:=z10.add 14 a.pos [] 0 [i, v4]
 try simp only[e10,Z]
 exact Zt.tail (z11.call (op:=(.postLoop a.pos v5)) tm hnd (.inr h0))
 try simp only[c1,Z]
 obtain ⟨S12,e11,hz4,z12⟩:=z.step (isL_kind c1)
 try simp only[e11,Z]
 obtain ⟨x1,S13,e12,l4,z13⟩:=z12.name hs
 try simp only[e12,Z]
 obtain ⟨v6,S14,e13,z14⟩:=z13.add 15 a.pos x1 0 [i]
 try simp only[e13,Z]
 exact Zt.tail (z14.call (op:=(.postLoop a.pos v6)) tm hnd (.inr h0))
 try simp only[hln,Z]
 cases c4:isL T [46] Sq
 try simp only[c4,Z]
 cases c5:isL T [91] Sq
 try simp only[c5,Z]
 cases c6:isL T [40] Sq
 try simp only[c6,Z]
 cases d3:decide (t.kind = 5)
 try simp only[ef d3,d3,Z]
 exact z.fin
 try simp only[et d3,d3,Z]
 cases hst:isStep t.text
 try simp only[hst,Z]
 exact z.fin
 try simp only[hst,Z]
 exact z.fin
 try simp only[c6,Z]
 cases d4:decide (t.kind = 5)
 try simp only[ef d4,d4,Z]
 exact z.fin
 try simp only[et d4,d4,Z]
 cases hst:isStep t.text
 try simp only[hst,Z]
 exact z.fin
 try simp only[hst,Z]
 exact z.fin
 try simp only[c5,Z]
 cases c7:isL T [40] Sq
 try simp only[c7,Z]
 cases d5:decide (t.kind = 5)
 try simp only[ef d5,d5,Z]
 exact z.fin
 try simp only[et d5,d5,Z]
 cases hst:isStep t.text
 try simp only[hst,Z]
 exact z.fin
 try simp only[hst,Z]
 exact z.fin
 try simp only[c7,Z]
 cases d6:decide (t.kind = 5)
 try simp only[ef d6,d6,Z]
 exact z.fin
 try simp only[et d6,d6,Z]
 cases hst:isStep t.text
 try simp only[hst,Z]
 exact z.fin
 try simp only[hst,Z]
 exact z.fin
 try simp only[c4,Z]
 obtain ⟨S15,e14,hz5,z15⟩:=z.step (isL_kind c4)
 try simp only[e14,Z]
 obtain ⟨x2,S16,e15,l5,z16⟩:=z15.name hs
 try simp only[e15,Z]
 obtain ⟨v7,S17,e16,z17⟩:=z16.add 15 a.pos x2 0 [i]
 try simp only[e16,Z]
 exact Zt.tail (z17.call (op:=(.postLoop a.pos v7)) tm hnd (.inr h0))
 try simp only[if_neg hgo,Z]
 exact z.fin
theorem cases_zl (T : List Tk) (n : Nat) (at_ : Int) (ot : Bool) (kids : List Int) (hs : Toks T) (hn : n ≤ 1000000) (tm : Term T n) : ∀ Sq, Good T Sq → InK Sq (argK (.casesLoop ot kids)) → ArgOk T (.casesLoop ot kids) Sq → need T (.casesLoop ot kids) Sq ≤ n + 1 → Zr T (.casesLoop ot kids) (n + 1) Sq (run T (n + 1) (.casesLoop ot kids) Sq) := by
 intro Sq hg hin ha hnd
 simp only[run,Z]
 simp only[ArgOk]at ha
 have z:Zt T Sq Sq 0 kids:=Zt.start hg hin
 by_cases hgo:Sq.fc = 0 ∧ isL T [125] Sq = false
 try simp only[if_pos hgo,Z]
 have h0:=z.h0 hgo.1
 obtain ⟨t,ht_t⟩:∃ x,Sh (peekL T Sq=x):=⟨_,⟨rfl⟩⟩
 try simp only[ht_t.out,Z]
 have hx_t:=tok_ok hs (peek_mem z.good ht_t.out)
 cases c1:isL T [99, 97, 115, 101] Sq
 try simp only[c1,Z]
 cases ot
 try simp only[Z]
 cases c2:isL T [100, 101, 102, 97, 117, 108, 116] Sq
 try simp only[c2,Z]
 obtain ⟨S3,e3,z3⟩:=z.wrong 5
 try simp only[e3,Z]
 obtain ⟨S4,e4,z4⟩:=z3.must [58]
 try simp only[e4,Z]
 obtain ⟨kids1,S5,h2,hl2,z5⟩:=Zt.lst (z4.call (op:=(.caseLoop [-1])) tm hnd (.inr h0))
 simp only[argK,loopK,Option.getD_some,List.length_cons,List.length_nil]at hl2
 try simp only[h2,Z]
 obtain ⟨v2,S6,e5,z6⟩:=z5.add 24 t.pos [] 0 kids1
 try simp only[e5,Z]
 exact Zt.tail (z6.call (op:=(.casesLoop false (kids ++ [v2]))) tm hnd (.inr h0))
 obtain ⟨S7,e6,hz1,z7⟩:=z.step (isL_kind c2)
 try simp only[c2,e6,Z]
 obtain ⟨S8,e7,z8⟩:=z7.must [58]
 try simp only[e7,Z]
 obtain ⟨kids1,S9,h3,hl3,z9⟩:=Zt.lst (z8.call (op:=(.caseLoop [-1])) tm hnd (.inr h0))
 simp only[argK,loopK,Option.getD_some,List.length_cons,List.length_nil]at hl3
 try simp only[h3,Z]
 obtain ⟨v3,S10,e8,z10⟩:=z9.add 24 t.pos [] 0 kids1
 try simp only[e8,Z]
 exact Zt.tail (z10.call (op:=(.casesLoop true (kids ++ [v3]))) tm hnd (.inr h0))
 try simp only[Z]
 obtain ⟨S11,e9,z11⟩:=z.wrong 5
 try simp only[e9,Z]
 obtain ⟨S12,e10,z12⟩:=z11.must [58]
 try simp only[e10,Z]
 obtain ⟨kids1,S13,h4,hl4,z13⟩:=Zt.lst (z12.call (op:=(.caseLoop [-1])) tm hnd (.inr h0))
 simp only[argK,loopK,Option.getD_some,List.length_cons,List.length_nil]at hl4
 try simp only[h4,Z]
 obtain ⟨v4,S14,e11,z14⟩:=z13.add 24 t.pos [] 0 kids1
 try simp only[e11,Z]
 exact Zt.tail (z14.call (op:=(.casesLoop true (kids ++ [v4]))) tm hnd (.inr h0))
 obtain ⟨S15,e12,hz2,z15⟩:=z.step (isL_kind c1)
 try simp only[c1,e12,Z]
 obtain ⟨l5,S16,v5,h5,e13,hl5,z16⟩:=Zt.one 1 (z15.call (op:=.expr) tm hnd (.inr h0))
 try simp only[h5,e13,Z]
 obtain ⟨S17,e14,z17⟩:=z16.must [58]
 try simp only[e14,Z]
 obtain ⟨kids1,S18,h6,hl6,z18⟩:=Zt.lst (z17.call (op:=(.caseLoop [v5])) tm hnd (.inr h0))
 simp only[argK,loopK,Option.getD_some,List.length_cons,List.length_nil]at hl6
 try simp only[h6,Z]
 obtain ⟨v6,S19,e15,z19⟩:=z18.add 24 t.pos [] 0 kids1
 try simp only[e15,Z]
 exact Zt.tail (z19.call (op:=(.casesLoop ot (kids ++ [v6]))) tm hnd (.inr h0))
 try simp only[if_neg hgo,Z]
 exact z.fin
theorem literal_z (T : List Tk) (n : Nat) (hs : Toks T) (hn : n ≤ 1000000) (tm : Term T n) : ∀ S, Good T S → InK S (argK .literal) → ArgOk T .literal S → need T .literal S ≤ n + 1 → Zr T .literal (n + 1) S (run T (n + 1) .literal S) := by
 intro S hg hin ha hnd
 simp only[run,Z]
 simp only[ArgOk]at ha
 have z:Zt T S S 0 []:=Zt.start hg InK.nil
 obtain ⟨t,ht_t⟩:∃ x,Sh (peekL T S=x):=⟨_,⟨rfl⟩⟩
 try simp only[ht_t.out,Z]
 have hx_t:=tok_ok hs (peek_mem z.good ht_t.out)
 cases c1:isL T [45] S
 try simp only[c1,Z]
 cases d1:decide (t.kind = 3)
 try simp only[ef d1,d1,Z]
 cases d2:decide (t.kind = 4)
 try simp only[ef d2,d2,Z]
 cases c2:isL T [110, 117, 108, 108] S
 try simp only[c2,Z]
 cases c3:isL T [116, 114, 117, 101] S
 try simp only[c3,Z]
 cases c4:isL T [102, 97, 108, 115, 101] S
 try simp only[c4,Z]
 obtain ⟨S1,e1,z1⟩:=z.wrong 5
 try simp only[e1,Z]
 exact z1.fin
 have h0:=z.k0 (isL_kind c4)
 obtain ⟨S2,e2,hz1,z2⟩:=z.step (isL_kind c4)
 try simp only[c4,e2,Z]
 obtain ⟨v1,S3,e3,z3⟩:=z2.add 3 t.pos [] 0 []
 try simp only[e3,Z]
 exact z3.fin
 have h0:=z.k0 (isL_kind c3)
 obtain ⟨S4,e4,hz2,z4⟩:=z.step (isL_kind c3)
 try simp only[c3,e4,Z]
 obtain ⟨v2,S5,e5,z5⟩:=z4.add 2 t.pos [] 0 []
 try simp only[e5,Z]
 exact z5.fin
 have h0:=z.k0 (isL_kind c2)
 obtain ⟨S6,e6,hz3,z6⟩:=z.step (isL_kind c2)
 try simp only[c2,e6,Z]
 obtain ⟨v3,S7,e7,z7⟩:=z6.add 1 t.pos [] 0 []
 try simp only[e7,Z]
 exact z7.fin
 try simp only[et d2,d2,Z]
 have h0:=z.k0 (kk ht_t d2)
 obtain ⟨S8,e8,hz4,z8⟩:=z.step (kk ht_t d2)
 try simp only[e8,Z]
 obtain ⟨v4,S9,e9,z9⟩:=z8.add 5 t.pos t.text 0 []
 try simp only[e9,Z]
 exact z9.fin
 try simp only[et d1,d1,Z]
 have h0:=z.k0 (kk ht_t d1)
 obtain ⟨S10,e10,hz5,z10⟩:=z.step (kk ht_t d1)
 try simp only[e10,Z]
 obtain ⟨v5,S11,e11,z11⟩:=z10.add 4 t.pos [] t.num []
 try simp only[e11,Z]
 exact z11.fin
 have h0:=z.k0 (isL_kind c1)
 obtain ⟨S12,e12,hz6,z12⟩:=z.step (isL_kind c1)
 try simp only[c1,e12,Z]
 obtain ⟨u,ht_u⟩:∃ x,Sh (peekL T S12=x):=⟨_,⟨rfl⟩⟩
 try simp only[ht_u.out,Z]
 have hx_u:=tok_ok hs (peek_mem z12.good ht_u.out)
 cases d3:decide (u.kind = 3)
 try simp only[ef d3,d3,Z]
 obtain ⟨S13,e13,z13⟩:=z12.wrong 5
 try simp only[e13,Z]
 exact z13.fin
 try simp only[et d3,d3,Z]
 obtain ⟨S14,e14,hz7,z14⟩:=z12.step (kk ht_u d3)
 try simp only[e14,Z]
 obtain ⟨v6,S15,e15,z15⟩:=z14.add 4 t.pos [] (IntKind.i64.wrap (-u.num)) []
 try simp only[e15,Z]
 exact z15.fin
theorem local_z (T : List Tk) (n : Nat) (at_ : Int) (hs : Toks T) (hn : n ≤ 1000000) (tm : Term T n) : ∀ S, Good T S → InK S (argK (.locl at_)) → ArgOk T (.locl at_) S → need T (.locl at_) S ≤ n + 1 → Zr T (.locl at_) (n + 1) S (run T (n + 1) (.locl at_) S) := by
 intro S hg hin ha hnd
 simp only[run,Z]
 simp only[ArgOk]at ha
 have z:Zt T S S 0 []:=Zt.start hg InK.nil
 cases c1:isL T [102, 117, 110, 99, 116, 105, 111, 110] S
 try simp only[c1,Z]
 obtain ⟨x1,S1,e1,l1,z1⟩:=z.name hs
 try simp only[e1,Z]
 cases c2:isL T [61] S1
 try simp only[c2,Z]
 obtain ⟨v1,S2,e2,z2⟩:=z1.add 27 at_ x1 0 [-1]
 try simp only[e2,Z]
 obtain ⟨S3,e3,z3⟩:=z2.fend
 try simp only[e3,Z]
 exact z3.fin
 have h0:=z1.k0 (isL_kind c2)
 obtain ⟨S4,e4,hz1,z4⟩:=z1.step (isL_kind c2)
 try simp only[c2,e4,Z]
 obtain ⟨l2,S5,v2,h1,e5,hl1,z5⟩:=Zt.one 1 (z4.call (op:=.expr) tm hnd (.inr h0))
 try simp only[h1,e5,Z]
 obtain ⟨v3,S6,e6,z6⟩:=z5.add 27 at_ x1 0 [v2]
 try simp only[e6,Z]
 obtain ⟨S7,e7,z7⟩:=z6.fend
 try simp only[e7,Z]
 exact z7.fin
 try simp only[c1,Z]
 have h0:=z.k0 (isL_kind c1)
 obtain ⟨nt,hnt,⟨lt,-⟩,hnt3,-⟩:=nextk z.good (isL_kind c1)
 have hx_nt:=tok_ok hs (List.mem_of_getElem? hnt)
 try simp only[hnt3,Z]
 cases d1:decide (nt.kind = 1)
 try simp only[ef d1,d1,Z]
 obtain ⟨S8,e8,hz2,z8⟩:=z.step (isL_kind c1)
 try simp only[e8,Z]
 obtain ⟨S9,e9,z9⟩:=z8.wrong 5
 try simp only[e9,Z]
 obtain ⟨mt,hmt⟩:∃ x,T.getD (min (S9.idx+1) (T.length-1)) default=x:=⟨_,rfl⟩
 have hx_mt:=hmt ▸ getD_short hs.short (min (S9.idx+1) (T.length-1))
 try simp only[hmt,Z]
 obtain ⟨l3,S10,v4,h2,e10,hl2,z10⟩:=Zt.one 1 (z9.call (op:=.function) tm hnd (.inr h0))
 try simp only[h2,e10,Z]
 obtain ⟨v5,S11,e11,z11⟩:=z10.add 27 at_ mt.text 0 [v4]
 try simp only[e11,Z]
 exact z11.fin
 try simp only[et d1,d1,Z]
 obtain ⟨mt,hmt⟩:∃ x,T.getD (min (S.idx+1) (T.length-1)) default=x:=⟨_,rfl⟩
 have hx_mt:=hmt ▸ getD_short hs.short (min (S.idx+1) (T.length-1))
 try simp only[hmt,Z]
 obtain ⟨l4,S12,v6,h3,e12,hl3,z12⟩:=Zt.one 1 (z.call (op:=.function) tm hnd (.inr h0))
 try simp only[h3,e12,Z]
 obtain ⟨v7,S13,e13,z13⟩:=z12.add 27 at_ mt.text 0 [v6]
 try simp only[e13,Z]
 exact z13.fin
theorem params_zl (T : List Tk) (n : Nat) (at_ : Int) (name : List UInt8) (kids : List Int) (hs : Toks T) (hn : n ≤ 1000000) (tm : Term T n) : ∀ Sq, Good T Sq → InK Sq (argK (.paramsLoop kids)) → ArgOk T (.paramsLoop kids) Sq → need T (.paramsLoop kids) Sq ≤ n + 1 → Zr T (.paramsLoop kids) (n + 1) Sq (run T (n + 1) (.paramsLoop kids) Sq) := by
 intro Sq hg hin ha hnd
 simp only[run,Z]
 simp only[ArgOk]at ha
 have z:Zt T Sq Sq 0 kids:=Zt.start hg hin
 by_cases hgo:Sq.fc = 0 ∧ isL T [41] Sq = false
 try simp only[if_pos hgo,Z]
 have h0:=z.h0 hgo.1
 obtain ⟨t,ht_t⟩:∃ x,Sh (peekL T Sq=x):=⟨_,⟨rfl⟩⟩
 try simp only[ht_t.out,Z]
 have hx_t:=tok_ok hs (peek_mem z.good ht_t.out)
 obtain ⟨x1,S3,e3,l1,z3⟩:=z.name hs
 try simp only[e3,Z]
 cases c1:isL T [61] S3
 try simp only[c1,Z]
 obtain ⟨v1,S4,e4,z4⟩:=z3.add 22 t.pos x1 0 [-1]
 try simp only[e4,Z]
 cases c2:isL T [44] S4
 try simp only[c2,Z]
 exact z4.fin
 obtain ⟨S8,e8,hz1,z8⟩:=z4.step (isL_kind c2)
 try simp only[c2,e8,Z]
 exact Zt.tail (z8.call (op:=(.paramsLoop (kids ++ [v1]))) tm hnd (.inr h0))
 obtain ⟨S9,e9,hz2,z9⟩:=z3.step (isL_kind c1)
 try simp only[c1,e9,Z]
 obtain ⟨l3,S10,v4,h2,e10,hl2,z10⟩:=Zt.one 1 (z9.call (op:=.expr) tm hnd (.inr h0))
 try simp only[h2,e10,Z]
 obtain ⟨v5,S11,e11,z11⟩:=z10.add 22 t.pos x1 0 [v4]
 try simp only[e11,Z]
 cases c3:isL T [44] S11
 try simp only[c3,Z]
 exact z11.fin
 obtain ⟨S15,e15,hz3,z15⟩:=z11.step (isL_kind c3)
 try simp only[c3,e15,Z]
 exact Zt.tail (z15.call (op:=(.paramsLoop (kids ++ [v5]))) tm hnd (.inr h0))
 try simp only[if_neg hgo,Z]
 exact z.fin
theorem named_z (T : List Tk) (n : Nat) (t : Tk) (hs : Toks T) (hn : n ≤ 1000000) (tm : Term T n) : ∀ S, Good T S → InK S (argK (.named t)) → ArgOk T (.named t) S → need T (.named t) S ≤ n + 1 → Zr T (.named t) (n + 1) S (run T (n + 1) (.named t) S) := by
 intro S hg hin ha hnd
 simp only[run,Z]
 simp only[ArgOk]at ha
 have z:Zt T S S 0 []:=Zt.start hg InK.nil
 try simp only[if_pos ha,Z]
 have h0:=z.h0 ha.1
 obtain ⟨nt,hnt⟩:∃ x,T[S.idx+1]?=some x:=⟨_,List.getElem?_eq_getElem ha.2⟩
 have hnt3:T.getD (S.idx+1) default=nt:=by simp [List.getD,hnt]
 have hx_nt:=tok_ok hs (List.mem_of_getElem? hnt)
 try simp only[hnt3,Z]
 obtain ⟨v1,S1,e1,z1⟩:=z.add 7 t.pos [] 0 []
 try simp only[e1,Z]
 obtain ⟨v2,S2,e2,z2⟩:=z1.add 15 t.pos nt.text 0 [v1]
 try simp only[e2,Z]
 cases d1:decide (t.text = [102, 117, 110, 99, 116, 105, 111, 110])
 try simp only[ef d1,d1,Z]
 obtain ⟨l1,S3,v3,h1,e3,hl1,z3⟩:=Zt.one 1 (z2.call (op:=.clas) tm hnd (.inr h0))
 try simp only[h1,e3,Z]
 obtain ⟨v4,S4,e4,z4⟩:=z3.add 12 t.pos [60, 45] 0 [v2, v3]
 try simp only[e4,Z]
 obtain ⟨v5,S5,e5,z5⟩:=z4.add 28 t.pos [] 0 [v4]
 try simp only[e5,Z]
 exact z5.fin
 try simp only[et d1,d1,Z]
 obtain ⟨l2,S6,v6,h2,e6,hl2,z6⟩:=Zt.one 1 (z2.call (op:=.function) tm hnd (.inr h0))
 try simp only[h2,e6,Z]
 obtain ⟨v7,S7,e7,z7⟩:=z6.add 12 t.pos [60, 45] 0 [v2, v6]
 try simp only[e7,Z]
 obtain ⟨v8,S8,e8,z8⟩:=z7.add 28 t.pos [] 0 [v7]
 try simp only[e8,Z]
 exact z8.fin
theorem table_zl (T : List Tk) (n : Nat) (kids : List Int) (hs : Toks T) (hn : n ≤ 1000000) (tm : Term T n) : ∀ Sq, Good T Sq → InK Sq (argK (.tableLoop kids)) → ArgOk T (.tableLoop kids) Sq → need T (.tableLoop kids) Sq ≤ n + 1 → Zr T (.tableLoop kids) (n + 1) Sq (run T (n + 1) (.tableLoop kids) Sq) := by
 intro Sq hg hin ha hnd
 simp only[run,Z]
 simp only[ArgOk]at ha
 have z:Zt T Sq Sq 0 kids:=Zt.start hg hin
 by_cases hgo:Sq.fc = 0 ∧ isL T [125] Sq = false
 try simp only[if_pos hgo,Z]
 have h0:=z.h0 hgo.1
 obtain ⟨l1,S2,v1,v2,h1,e2,e3,z2⟩:=Zt.mem (z.call (op:=.member) tm hnd (.inr h0))
 try simp only[h1,e2,e3,Z]
 cases c1:isL T [44] S2
 try simp only[c1,Z]
 exact z2.fin
 obtain ⟨S5,e6,hz1,z5⟩:=z2.step (isL_kind c1)
 try simp only[c1,e6,Z]
 exact Zt.tail (z5.call (op:=(.tableLoop (kids ++ [v1, v2]))) tm hnd (.inr h0))
 try simp only[if_neg hgo,Z]
 exact z.fin
theorem cases_zl1 (T : List Tk) (n : Nat) (at_ : Int) (kids1 : List Int) (hs : Toks T) (hn : n ≤ 1000000) (tm : Term T n) : ∀ Sq, Good T Sq → InK Sq (argK (.caseLoop kids1)) → ArgOk T (.caseLoop kids1) Sq → need T (.caseLoop kids1) Sq ≤ n + 1 → Zr T (.caseLoop kids1) (n + 1) Sq (run T (n + 1) (.caseLoop kids1) Sq) := by
 intro Sq hg hin ha hnd
 simp only[run,Z]
 simp only[ArgOk]at ha
 have z:Zt T Sq Sq 0 kids1:=Zt.start hg hin
 by_cases hgo:Sq.fc = 0 ∧ isL T [125] Sq = false ∧ isL T [99, 97, 115, 101] Sq = false ∧ isL T [100, 101, 102, 97, 117, 108, 116] Sq = false
 try simp only[if_pos hgo,Z]
 have h0:=z.h0 hgo.1
 obtain ⟨l2,S5,v2,h2,e5,hl2,z5⟩:=Zt.one 1 (z.call (op:=.stmt) tm hnd (.inr h0))
 try simp only[h2,e5,Z]
 exact Zt.tail (z5.call (op:=(.caseLoop (kids1 ++ [v2]))) tm hnd (.inr h0))
 try simp only[if_neg hgo,Z]
 exact z.fin
theorem enum_z (T : List Tk) (n : Nat) (at_ : Int) (hs : Toks T) (hn : n ≤ 1000000) (tm : Term T n) : ∀ S, Good T S → InK S (argK (.enum at_)) → ArgOk T (.enum at_) S → need T (.enum at_) S ≤ n + 1 → Zr T (.enum at_) (n + 1) S (run T (n + 1) (.enum at_) S) := by
 intro S hg hin ha hnd
 simp only[run,Z]
 simp only[ArgOk]at ha
 have z:Zt T S S 0 []:=Zt.start hg InK.nil
 obtain ⟨x1,S1,e1,l1,z1⟩:=z.name hs
 try simp only[e1,Z]
 obtain ⟨S2,e2,z2⟩:=z1.must [123]
 try simp only[e2,Z]
 obtain ⟨kids,S3,h1,hl1,z3⟩:=Zt.lst (z2.call (op:=(.enumLoop 0 [])) tm hnd)
 simp only[argK,loopK,Option.getD_some,List.length_cons,List.length_nil]at hl1
 try simp only[h1,Z]
 obtain ⟨S4,e3,z4⟩:=z3.must [125]
 try simp only[e3,Z]
 obtain ⟨v1,S5,e4,z5⟩:=z4.add 42 at_ x1 0 kids
 try simp only[e4,Z]
 exact z5.fin
theorem body_z (T : List Tk) (n : Nat) (hs : Toks T) (hn : n ≤ 1000000) (tm : Term T n) : ∀ S, Good T S → InK S (argK .body) → ArgOk T .body S → need T .body S ≤ n + 1 → Zr T .body (n + 1) S (run T (n + 1) .body S) := by
 intro S hg hin ha hnd
 simp only[run,Z]
 simp only[ArgOk]at ha
 have z:Zt T S S 0 []:=Zt.start hg InK.nil
 cases c1:isL T [123] S
 try simp only[c1,Z]
 obtain ⟨a,ht_a⟩:∃ x,Sh (peekL T S=x):=⟨_,⟨rfl⟩⟩
 try simp only[ht_a.out,Z]
 have hx_a:=tok_ok hs (peek_mem z.good ht_a.out)
 obtain ⟨l1,S1,v1,h1,e1,hl1,z1⟩:=Zt.one 1 (z.call (op:=.stmt) tm hnd)
 try simp only[h1,e1,Z]
 obtain ⟨v2,S2,e2,z2⟩:=z1.add 26 a.pos [] 0 [v1]
 try simp only[e2,Z]
 exact z2.fin
 try simp only[c1,Z]
 have h0:=z.k0 (isL_kind c1)
 exact Zt.tail (z.call (op:=.block) tm hnd (.inr h0))
theorem paren_z (T : List Tk) (n : Nat) (hs : Toks T) (hn : n ≤ 1000000) (tm : Term T n) : ∀ S, Good T S → InK S (argK .paren) → ArgOk T .paren S → need T .paren S ≤ n + 1 → Zr T .paren (n + 1) S (run T (n + 1) .paren S) := by
 intro S hg hin ha hnd
 simp only[run,Z]
 simp only[ArgOk]at ha
 have z:Zt T S S 0 []:=Zt.start hg InK.nil
 obtain ⟨S1,e1,z1⟩:=z.must [40]
 try simp only[e1,Z]
 obtain ⟨l1,S2,v1,h1,e2,hl1,z2⟩:=Zt.one 1 (z1.call (op:=.expr) tm hnd)
 try simp only[h1,e2,Z]
 obtain ⟨S3,e3,z3⟩:=z2.must [41]
 try simp only[e3,Z]
 subst e2
 have hl:=hl1.out
 exact z3.fin
end Go.Proofs.YtcbgpjlcfkkdlaaGreatDoor

