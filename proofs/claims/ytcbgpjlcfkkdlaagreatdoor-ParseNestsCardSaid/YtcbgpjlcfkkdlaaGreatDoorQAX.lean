import Derived.Test.YtcbgpjlcfkkdlaaGreatDoorQAV
import Derived.Test.YtcbgpjlcfkkdlaaGreatDoorQAW
import Derived.Test.YtcbgpjlcfkkdlaaGreatDoorQAU
import Derived.Test.YtcbgpjlcfkkdlaaGreatDoorQAK
set_option linter.unusedSimpArgs false
set_option linter.unusedVariables false
set_option maxRecDepth 100000
set_option maxHeartbeats 16000000
namespace Go.Proofs.YtcbgpjlcfkkdlaaGreatDoor
open Go Go.AL Go.Proofs
theorem btree_c (T : List Tk) (tt : Tok) (S : St) (tok t2 : Tok) (r : Nat) (nodes : List Nd) (hN : S.nodes = nodes) (hok : ∀ n ∈ nodes, NdOk n) (hk : ∀ n ∈ nodes, n.kids.length ≤ 281474976710) (hl : nodes.length ≤ 131072) (hne : nodes ≠ []) (h : Heap) (hg : h 0 = some .gint) (hr : h r = some (.cells (rdRow T tt S tok t2))) (R : AV → Heap → Prop)
    (hR : R (if (checkL nodes).1 = 0 then .tup [treeAV nodes .no, .agg [.int .i64 0, .int .i64 0]] else .tup [.agg [.list 5 [] .nil], .agg [.int .i64 (checkL nodes).1, .int .i64 (checkL nodes).2]]) h) :
    ACalls Tryz.prog 24 [.ptr r 3] h R := by
  refine ACalls.pure ?_ hR
  clear hR
  have hr0 : h r = some (.cells [.list 5 (T.map tkRow) tt, .int .i64 S.idx, .int .i64 S.nest, .list 5 (nodes.map row) tok, .list 1 (ints S.deep) t2, .int .i64 S.fc, .int .i64 S.fa]) := by rw [← hN]; exact hr
  replace hr := hr0
  clear hr0 hN
  by_cases h1 : (checkL nodes).1 = 0
  · refine acalls_of Tryz.func24 rfl Tryz.ntmps24 (congrArg Array.toList Tryz.results24) fun Q hQ => ?_
    (focus repeat' first|refine ga ?_|(refine gb ?_;try simp[gz, *])|refine gk fun _ _=>?_|refine gc ?_ ?_|exact gr _|refine gi fun _=>?_|(refine gn ?_ ?_;focus(intros;simp[*];done)))
    intro b1 hb1; simp only [Fresh, Heap.set_none] at hb1; have n_b1_r := ne_of_fresh hr (b := b1) (by simp [*]); try simp [gz, *]
    intro b2 hb2; simp only [Fresh, Heap.set_none] at hb2; have n_b2_r := ne_of_fresh hr (b := b2) (by simp [*]); try simp [gz, *]
    (focus repeat' first|refine ga ?_|(refine gb ?_;try simp[gz, *])|refine gk fun _ _=>?_|refine gc ?_ ?_|exact gr _|refine gi fun _=>?_|(refine gn ?_ ?_;focus(intros;simp[*];done)))
    refine Check_c nodes tok hok (by omega) _ ((show AL.Sub h _ by (repeat (first | exact Sub.refl _ | refine Sub.loc ?_ (by simp [*]) _))) 0 _ hg) _ ?_
    simp [gz, *]
    (focus repeat' first|refine ga ?_|(refine gb ?_;try simp[gz, *])|refine gk fun _ _=>?_|refine gc ?_ ?_|exact gr _|refine gi fun _=>?_|(refine gn ?_ ?_;focus(intros;simp[*];done)))
    intro b4 hb4; simp only [Fresh, Heap.set_none] at hb4; have n_b4_r := ne_of_fresh hr (b := b4) (by simp [*]); try simp [gz, *]
    (focus repeat' first|refine ga ?_|(refine gb ?_;try simp[gz, *])|refine gk fun _ _=>?_|refine gc ?_ ?_|exact gr _|refine gi fun _=>?_|(refine gn ?_ ?_;focus(intros;simp[*];done)))
    refine ACalls.weak (ys := [treeAV nodes .no]) (.cons (Weak.agg (.cons (Weak.tok _ _ _) .nil)) .nil) ?_
    refine Clone_c nodes hl hk _ _ hne ?_
    simp [gz, *]
    (focus repeat' first|refine ga ?_|(refine gb ?_;try simp[gz, *])|refine gk fun _ _=>?_|refine gc ?_ ?_|exact gr _|refine gi fun _=>?_|(refine gn ?_ ?_;focus(intros;simp[*];done)))
    all_goals first
      | (refine ⟨_, ⟨?_, _, rfl, ?_, _, rfl, rfl⟩, ?_, ?_⟩ <;> first | (simp [aresult, Heap.set_get, *]; done) | ((repeat (first | exact Sub.refl _ | refine Sub.loc ?_ (by simp [*]) _)); done))
      | exact (by (repeat (first | exact Sub.refl _ | refine Sub.loc ?_ (by simp [*]) _)))
  · refine acalls_of Tryz.func24 rfl Tryz.ntmps24 (congrArg Array.toList Tryz.results24) fun Q hQ => ?_
    (focus repeat' first|refine ga ?_|(refine gb ?_;try simp[gz, *])|refine gk fun _ _=>?_|refine gc ?_ ?_|exact gr _|refine gi fun _=>?_|(refine gn ?_ ?_;focus(intros;simp[*];done)))
    intro b1 hb1; simp only [Fresh, Heap.set_none] at hb1; have n_b1_r := ne_of_fresh hr (b := b1) (by simp [*]); try simp [gz, *]
    intro b2 hb2; simp only [Fresh, Heap.set_none] at hb2; have n_b2_r := ne_of_fresh hr (b := b2) (by simp [*]); try simp [gz, *]
    (focus repeat' first|refine ga ?_|(refine gb ?_;try simp[gz, *])|refine gk fun _ _=>?_|refine gc ?_ ?_|exact gr _|refine gi fun _=>?_|(refine gn ?_ ?_;focus(intros;simp[*];done)))
    refine Check_c nodes tok hok (by omega) _ ((show AL.Sub h _ by (repeat (first | exact Sub.refl _ | refine Sub.loc ?_ (by simp [*]) _))) 0 _ hg) _ ?_
    simp [gz, *]
    (focus repeat' first|refine ga ?_|(refine gb ?_;try simp[gz, *])|refine gk fun _ _=>?_|refine gc ?_ ?_|exact gr _|refine gi fun _=>?_|(refine gn ?_ ?_;focus(intros;simp[*];done)))
    intro b4 hb4; simp only [Fresh, Heap.set_none] at hb4; have n_b4_r := ne_of_fresh hr (b := b4) (by simp [*]); try simp [gz, *]
    (focus repeat' first|refine ga ?_|(refine gb ?_;try simp[gz, *])|refine gk fun _ _=>?_|refine gc ?_ ?_|exact gr _|refine gi fun _=>?_|(refine gn ?_ ?_;focus(intros;simp[*];done)))
    refine awp_region_draw [b4] [(0, true), (1, true), (2, false)] [3] follows (by kernel_rfl) rfl (by kernel_rfl) ?_; simp [gz, Heap.plus_set, *]
    (focus repeat' first|refine ga ?_|(refine gb ?_;try simp[gz, *])|refine gk fun _ _=>?_|refine gc ?_ ?_|exact gr _|refine gi fun _=>?_|(refine gn ?_ ?_;focus(intros;simp[*];done)))
    all_goals first
      | (refine ⟨_, ⟨?_, _, rfl, ?_, _, rfl, rfl⟩, ?_, ?_⟩ <;> first | (simp [aresult, Heap.set_get, *]; done) | ((repeat (first | exact Sub.refl _ | refine Sub.loc ?_ (by simp [*]) _)); done))
      | exact (by (repeat (first | exact Sub.refl _ | refine Sub.loc ?_ (by simp [*]) _)))
end Go.Proofs.YtcbgpjlcfkkdlaaGreatDoor

namespace Go.Proofs.YtcbgpjlcfkkdlaaGreatDoor
open Go Go.AL Go.Proofs
def methOf : Op → Option (FuncId × List AV)
  | .stmt => some (22, [])
  | .word t => some (45, [.agg (tkRow t)])
  | .named t => some (82, [.agg (tkRow t)])
  | .locl a => some (80, [.int .i64 a])
  | .literal => some (85, [])
  | .enum a => some (86, [.int .i64 a])
  | .block => some (47, [])
  | .body => some (116, [])
  | .control t => some (79, [.agg (tkRow t)])
  | .paren => some (115, [])
  | .loop a => some (117, [.int .i64 a])
  | .foreach a => some (118, [.int .i64 a])
  | .cases a => some (119, [.int .i64 a])
  | .expr => some (49, [])
  | .cond a => some (87, [.int .i64 a])
  | .binary l => some (124, [.int .i64 l])
  | .unary => some (147, [])
  | .postf => some (153, [])
  | .some x => some (156, [.str x])
  | .primary => some (155, [])
  | .member => some (146, [])
  | .table => some (158, [])
  | .function => some (120, [])
  | .params a x => some (145, [.int .i64 a, .str x])
  | .clas => some (121, [])
  | _ => none
def resOf : Op → List Int → AV
  | .word _, l => .tup [.int .i64 (fst0 l), .bool (decide (l.getD 1 0 = 1))]
  | .member, l => .tup [.int .i64 (fst0 l), .int .i64 (l.getD 1 0)]
  | .some _, l => .list 1 (ints l) .no
  | _, l => .int .i64 (fst0 l)
def resK : Op → List Int → List Int
  | .some _, l => l
  | .member, l => [fst0 l, l.getD 1 0]
  | .word _, l => if l.getD 1 0 = 1 then [fst0 l] else []
  | _, l => [fst0 l]
end Go.Proofs.YtcbgpjlcfkkdlaaGreatDoor

namespace Go.Proofs.YtcbgpjlcfkkdlaaGreatDoor
open Go Go.AL Go.Proofs
def Heap.bk (B : Heap) : Tok → Heap
  | .own b k e => B.set b (.spare k e)
  | _ => B
section
variable {B h : Heap} {T : List Tk} {tt : Tok} {S : St} {r : Nat} {t1 t2 tk : Tok}
theorem bk_other {q : Nat} (hq : ∀ k e, tk ≠ .own q k e) : Heap.bk B tk q = B q := by
  cases tk with
  | own b k e => exact Heap.set_other _ _ _ _ (fun e1 => hq k e (by rw [e1]))
  | no => rfl
  | nil => rfl
  | full => rfl
theorem bk_none {q : Nat} (h : Heap.bk B tk q = none) : B q = none ∧ ∀ k e, tk ≠ .own q k e := by
  have h1 : ∀ k e, tk ≠ .own q k e := fun k e e1 => by
    subst e1
    simp [Heap.bk] at h
  exact ⟨by have e := bk_other (B := B) h1; rw [← e]; exact h, h1⟩
theorem bk_sub (hf : ∀ b k e, tk = .own b k e → B b = none) : AL.Sub B (Heap.bk B tk) := by
  cases tk with
  | own b k e => exact (Sub.refl B).loc (hf _ _ _ rfl) _
  | no => exact Sub.refl B
  | nil => exact Sub.refl B
  | full => exact Sub.refl B
theorem Own.growK (ho : Own (Heap.bk B tk) h T tt S r t1 t2) (hf : ∀ b k e, tk = .own b k e → B b = none) {b k e : Nat} (hb : SpareNew h tk b) :
    Own (Heap.bk B (.own b k e)) ((tk.rid h).set b (.spare k e)) T tt S r t1 t2 ∧ B b = none := by
  have hbb : ∀ q, Heap.bk B tk q = none → (∃ x, h q = some x) → ¬ q = b := fun q h1 ⟨x, h2⟩ e1 => by
    subst e1
    rcases hb with hb | ⟨k', e', hb⟩
    · rw [hb] at h2; cases h2
    · exact (bk_none h1).2 _ _ hb
  have hrb := hbb r ho.free ⟨_, ho.blk⟩
  have hat : ∀ q, ¬ q = b → Heap.bk B tk q = none → ((tk.rid h).set b (.spare k e)) q = h q := fun q h1 h2 => grown_plain h1 (bk_none h2).2
  have hBb : B b = none := by
    rcases hb with hb | ⟨k', e', hb⟩
    · exact (bk_none (ho.isNone hb)).1
    · exact hf _ _ _ hb
  have htk : ∀ t : Tok, TokIn h t → (∀ q k e, t = .own q k e → Heap.bk B tk q = none) → TokIn ((tk.rid h).set b (.spare k e)) t := fun t ht hq => by
    cases t with
    | own q k' e' =>
      have h1 : h q = some (.spare k' e') := ht
      show _ = _
      rw [hat q (hbb q (hq _ _ _ rfl) ⟨_, h1⟩) (hq _ _ _ rfl)]
      exact h1
    | no => exact ht.elim
    | nil => trivial
    | full => trivial
  have hfr : ∀ t : Tok, TokIn h t → (∀ q k e, t = .own q k e → Heap.bk B tk q = none) → ∀ q k' e', t = .own q k' e' → (B.set b (.spare k e)) q = none := fun t ht hq q k' e' e1 => by
    subst e1
    have h1 : h q = some (.spare k' e') := ht
    rw [Heap.set_other _ _ _ _ (hbb q (hq _ _ _ rfl) ⟨_, h1⟩)]
    exact (bk_none (hq _ _ _ rfl)).1
  refine ⟨⟨fun c x hc => ?_, ?_, by rw [hat r hrb ho.free]; exact ho.blk, htk _ ho.tk1 ho.fr1, htk _ ho.tk2 ho.fr2, hfr _ ho.tk1 ho.fr1, hfr _ ho.tk2 ho.fr2, ho.ap⟩, hBb⟩
  · by_cases e1 : c = b
    · subst e1
      have : x = .spare k e := by
        have h1 : (B.set c (.spare k e)) c = some x := hc
        rw [Heap.set_same] at h1
        injection h1 with h1
        exact h1.symm
      subst this
      exact Heap.set_same _ _ _
    · have h1 : B c = some x := by
        have h2 : (B.set b (.spare k e)) c = some x := hc
        rwa [Heap.set_other _ _ _ _ e1] at h2
      have h3 : ∀ k e, tk ≠ .own c k e := fun k' e' q => by rw [hf _ _ _ q] at h1; cases h1
      rw [grown_plain e1 h3]
      exact ho.sub _ _ (by rw [bk_other h3]; exact h1)
  · show (B.set b (.spare k e)) r = none
    rw [Heap.set_other _ _ _ _ hrb]
    exact (bk_none ho.free).1
end
theorem tokIn_bk {B g : Heap} {tk : Tok} (hs : AL.Sub (Heap.bk B tk) g) (hn : tk ≠ .no) : TokIn g tk := by
  cases tk with
  | own b k e => exact hs _ _ (Heap.set_same _ _ _)
  | no => exact absurd rfl hn
  | nil => trivial
  | full => trivial
end Go.Proofs.YtcbgpjlcfkkdlaaGreatDoor

namespace Go.Proofs.YtcbgpjlcfkkdlaaGreatDoor
open Go Go.AL Go.Proofs
def avTok : AV → Int × List UInt8 × Int × Int × Int
  | .tup [.agg [.int _ k, _, .str x, .int _ n, _], .agg [.int _ e, .int _ a]] => (k, x, n, e, a)
  | _ => (0, [], 0, 0, 0)
def scanR (s : List UInt8) : Nat → Nat → Bool → List Tk → List Tk ⊕ (Int × Int)
  | 0, _, _, _ => .inr (0, 0)
  | n + 1, i, b, out =>
    let g := gapR s (s.length - i) i b
    match g.1 with
    | some p => .inr (5, p)
    | none => if g.2.1 = s.length then .inl (out ++ [⟨6, g.2.1, [], 0, g.2.2⟩]) else if out.length = 65536 then .inr (2, g.2.1)
      else
        let t := avTok (nextR s g.2.1).1
        if t.2.2.2.1 = 0 then scanR s n (nextR s g.2.1).2 false (out ++ [⟨t.1, g.2.1, t.2.1, t.2.2.1, g.2.2⟩]) else .inr (t.2.2.2.1, t.2.2.2.2)
def scanT (s : List UInt8) : List Tk ⊕ (Int × Int) := scanR s (s.length + 1) 0 false []
theorem gapR_le (s : List UInt8) : ∀ (n i : Nat) (b : Bool), i ≤ s.length → i ≤ (gapR s n i b).2.1 ∧ (gapR s n i b).2.1 ≤ s.length
  | 0, i, b, h => ⟨Nat.le_refl _, h⟩
  | n + 1, i, b, h => by
    simp only [gapR]
    by_cases hi : i < s.length
    · rw [if_pos hi]
      have hl : (s.drop i).length = s.length - i := List.length_drop
      split
      · have := gapR_le s n (i + 1) true (by omega); omega
      · split
        · have := gapR_le s n (i + 1) b (by omega); omega
        · split
          · split
            · have := gapR_le s n (i + (s.drop i).length) b (by omega); omega
            · rename_i hk
              have hk2 : (Lib.indexByte (s.drop i) 10).toNat < (s.drop i).length := by
                obtain ⟨q1, -⟩ := Lib.indexByte_some (l := s.drop i) (c := 10) (o := (Lib.indexByte (s.drop i) 10).toNat) (by omega)
                exact (List.getElem?_eq_some_iff.1 q1).1
              have := gapR_le s n (i + (Lib.indexByte (s.drop i) 10).toNat) b (by omega); omega
          · split
            · split
              · exact ⟨Nat.le_refl _, h⟩
              · rename_i hk
                have hk2 := Lib.index_room ((s.drop i).drop 2) [42, 47] (by omega)
                rw [List.length_drop] at hk2
                simp only [List.length_cons, List.length_nil] at hk2
                have := gapR_le s n (i + ((Lib.index ((s.drop i).drop 2) [42, 47]).toNat + 4)) (b || Lib.contains ((s.drop i).take ((Lib.index ((s.drop i).drop 2) [42, 47]).toNat + 4)) [10]) (by omega)
                omega
            · exact ⟨Nat.le_refl _, h⟩
    · rw [if_neg hi]; exact ⟨Nat.le_refl _, h⟩
theorem nextR_shape (s : List UInt8) (i : Nat) : ∃ x1 x2 x3 x4 x5, (nextR s i).1 = .tup [.agg [.int .i64 x1, .int .i64 0, .str x2, .int .i64 x3, .bool false], .agg [.int .i64 x4, .int .i64 x5]] := by
  unfold nextR
  split
  · exact ⟨_, _, _, _, _, rfl⟩
  · split
    · split <;> exact ⟨_, _, _, _, _, rfl⟩
    · split
      · exact strR_shape s i
      · split
        · exact charR_shape s i
        · split <;> exact ⟨_, _, _, _, _, rfl⟩
theorem signs_pos : ∀ x ∈ signsW, 0 < x.length := by decide
theorem wspan_pos {s : List UInt8} {i : Nat} (h : i < s.length) (hw : wordX s[i] = true) : 0 < wspan s i := by rw [wspan_yes h hw]; omega
theorem nextR_le (s : List UInt8) (i : Nat) (h : i < s.length) : (nextR s i).2 ≤ s.length ∧ ((avTok (nextR s i).1).2.2.2.1 = 0 → i < (nextR s i).2) := by
  have hgd : s.getD i 0 = s[i] := by simp [List.getD, List.getElem?_eq_getElem h]
  have hw := wspan_le (s := s) (i := i) (by omega)
  unfold nextR
  rw [hgd]
  split
  · rename_i h1
    have := wspan_pos h (by unfold wordX; rw [h1]; rfl)
    exact ⟨hw, fun _ => by show i < i + wspan s i; omega⟩
  · split
    · rename_i h1
      have := wspan_pos h (by unfold wordX; rw [h1]; simp)
      exact ⟨hw, fun _ => by show i < i + wspan s i; omega⟩
    · split
      · unfold strR
        split
        · exact ⟨by show i ≤ _; omega, fun q => by simp [avTok] at q⟩
        · rename_i t ht
          have := rawR_len ht
          split
          · exact ⟨by show i ≤ _; omega, fun q => by simp [avTok] at q⟩
          · exact ⟨by show i + (t.length + 2) ≤ _; omega, fun _ => by show i < i + (t.length + 2); omega⟩
      · split
        · unfold charR
          split
          · exact ⟨by show i ≤ _; omega, fun q => by simp [avTok] at q⟩
          · rename_i t ht
            have := rawR_len ht
            split
            · exact ⟨by show i ≤ _; omega, fun q => by simp [avTok] at q⟩
            · split
              · exact ⟨by show i + (t.length + 2) ≤ _; omega, fun _ => by show i < i + (t.length + 2); omega⟩
              · exact ⟨by show i ≤ _; omega, fun q => by simp [avTok] at q⟩
        · split
          · rename_i x hx
            have h1 := List.find?_some hx
            have h2 := hasPrefix_len (by simpa using h1)
            rw [List.length_drop] at h2
            have h3 := signs_pos x (List.mem_of_find?_eq_some hx)
            exact ⟨by show i + x.length ≤ _; omega, fun _ => by show i < i + x.length; omega⟩
          · exact ⟨by show i ≤ _; omega, fun q => by simp [avTok] at q⟩
theorem Lx.growK {B h : Heap} {s : List UInt8} {i : Nat} {bb : Bool} {l : Nat} {tk : Tok} (lx : Lx (Heap.bk B tk) h s i bb l) (hf : ∀ b k e, tk = .own b k e → B b = none) {b k e : Nat} (hb : SpareNew h tk b) :
    Lx (Heap.bk B (.own b k e)) ((tk.rid h).set b (.spare k e)) s i bb l ∧ B b = none := by
  have hlb : ¬ l = b := fun e1 => by
    subst e1
    rcases hb with hb | ⟨k', e', hb⟩
    · rw [lx.blk] at hb; cases hb
    · exact (bk_none lx.free).2 _ _ hb
  have hBb : B b = none := by
    rcases hb with hb | ⟨k', e', hb⟩
    · exact (bk_none (lx.isNone hb)).1
    · exact hf _ _ _ hb
  refine ⟨⟨fun c x hc => ?_, ?_, by rw [grown_plain hlb (bk_none lx.free).2]; exact lx.blk⟩, hBb⟩
  · by_cases e1 : c = b
    · subst e1
      have h1 : (B.set c (.spare k e)) c = some x := hc
      rw [Heap.set_same] at h1 ⊢
      exact h1
    · have h1 : B c = some x := by
        have h2 : (B.set b (.spare k e)) c = some x := hc
        rwa [Heap.set_other _ _ _ _ e1] at h2
      have h3 : ∀ k e, tk ≠ .own c k e := fun k' e' q => by rw [hf _ _ _ q] at h1; cases h1
      rw [grown_plain e1 h3]
      exact lx.sub _ _ (by rw [bk_other h3]; exact h1)
  · show (B.set b (.spare k e)) l = none
    rw [Heap.set_other _ _ _ _ hlb]
    exact (bk_none lx.free).1
end Go.Proofs.YtcbgpjlcfkkdlaaGreatDoor

namespace Go.Proofs.YtcbgpjlcfkkdlaaGreatDoor
open Go Go.AL Go.Proofs
def scanAV (r : List Tk ⊕ (Int × Int)) : AV := match r with
  | .inl T => .tup [.list 5 (T.map tkRow) .no, .agg [.int .i64 0, .int .i64 0]]
  | .inr f => .tup [.list 5 [] .nil, .agg [.int .i64 f.1, .int .i64 f.2]]
theorem Scan_c (s : List UInt8) (hs : s.length ≤ 10000) (h : Heap) (h0 : h 0 = some .gint) (R : AV → Heap → Prop) (hR : R (scanAV (scanT s)) h) : ACalls Tryz.prog 10 [.str s] h R := by
  obtain ⟨r, hr⟩ : ∃ r, scanR s (s.length + 1) 0 false [] = r := ⟨_, rfl⟩
  unfold scanT at hR
  rw [hr] at hR
  refine ACalls.conv (R' := fun x g => (∃ tk T, r = .inl T ∧ x = .tup [.list 5 (T.map tkRow) tk, .agg [.int .i64 0, .int .i64 0]] ∧ AL.Sub h g) ∨ (∃ f, r = .inr f ∧ x = .tup [.list 5 [] .nil, .agg [.int .i64 f.1, .int .i64 f.2]] ∧ AL.Sub h g)) ?_ (fun x g hx => by
    rcases hx with ⟨tk, T, e1, e2, e3⟩ | ⟨f, e1, e2, e3⟩
    · subst e1 e2
      exact ⟨_, h, View.of (Weak.tup (.cons (Weak.tok _ _ _) (.cons (Weak.refl _) .nil))) e3, hR⟩
    · subst e1 e2
      exact ⟨_, h, View.of (Weak.refl _) e3, hR⟩)
  clear hR
  have hsi : ¬ (262144 : Int) < s.length := by omega
  refine acalls_of Tryz.func10 rfl Tryz.ntmps10 (congrArg Array.toList Tryz.results10) fun Q hQ => ?_
  (focus repeat' first|refine ga ?_|(refine gb ?_;try simp[gz, *])|refine gk fun _ _=>?_|refine gc ?_ ?_|exact gr _|refine gi fun _=>?_|(refine gn ?_ ?_;focus(intros;simp[*];done)))
  intro b3 hb3; simp only [Fresh, Heap.set_none] at hb3; try simp [gz, *]
  (focus repeat' first|refine ga ?_|(refine gb ?_;try simp[gz, *])|refine gk fun _ _=>?_|refine gc ?_ ?_|exact gr _|refine gi fun _=>?_|(refine gn ?_ ?_;focus(intros;simp[*];done)))
  refine Split_c signsB [32] (by decide) (by decide) _ (gint_set hb3 h0) _ ?_
  rw [signs_split]
  simp [gz, *]
  (focus repeat' first|refine ga ?_|(refine gb ?_;try simp[gz, *])|refine gk fun _ _=>?_|refine gc ?_ ?_|exact gr _|refine gi fun _=>?_|(refine gn ?_ ?_;focus(intros;simp[*];done)))
  intro b4 hb4
  simp only [Fresh, Heap.set_none] at hb4
  obtain ⟨n4', n4, hb4⟩ := hb4
  have lx : Lx (h.set b3 (.cells Z28)) ((h.set b3 (.cells Z28)).set b4 (.cells (lxRow s 0 false))) s 0 false b4 := ⟨(Sub.refl _).loc (by rw [Heap.set_other _ _ _ _ n4]; exact hb4) _, by rw [Heap.set_other _ _ _ _ n4]; exact hb4, Heap.set_same _ _ _⟩
  have h0b : (h.set b3 (.cells Z28)) 0 = some .gint := gint_set hb3 h0
  have hsub0 : AL.Sub h (h.set b3 (.cells Z28)) := (Sub.refl h).loc hb3 _
  try simp [Heap.set_get, *]
  (focus repeat' first|refine ga ?_|(refine gb ?_;try simp[gz, *])|refine gk fun _ _=>?_|refine gc ?_ ?_|exact gr _|refine gi fun _=>?_|(refine gn ?_ ?_;focus(intros;simp[*];done)))
  have hb30 : h b3 = none := hb3
  have hb30 : h b3 = none := hb3
  have hb30 : h b3 = none := hb3
  have hb30 : h b3 = none := hb3
  obtain ⟨Bb, hBb⟩ : ∃ x, h.set b3 (.cells Z28) = x := ⟨_, rfl⟩
  have hBb3 : Bb b3 = some (.cells Z28) := by rw [← hBb, Heap.set_same]
  rw [hBb] at lx h0b hsub0
  have n34 : ¬ b3 = b4 := fun e => n4 e.symm
  refine awp_loop_h [2, 5, 6, 7, 8, 9, 10, 19, 20, 21, 22, 23, 24, 25, 26, 27, 28, 29, 30, 31, 32, 33, 34, 35, 36, 37, 38, 39, 40, 41, 42, 43, 44, 45, 46, 47, 48, 49, 50, 51, 52, 53, 54, 55, 56, 57, 58, 59, 60, 61, 62, 63, 64, 65, 66, 67, 68, 69, 70, 71, 72, 73, 74, 75, 76, 77, 78, 79, 80, 81, 82] (fun m x g => ∃ (i : Nat) (b : Bool) (out : List Tk) (tk : Tok), i ≤ s.length ∧ s.length + 1 - i ≤ m ∧ scanR s m i b out = r ∧ out.length ≤ i ∧ x 5 = .list 5 (out.map tkRow) tk ∧ TokIn g tk ∧ (∀ b k e, tk = .own b k e → Bb b = none) ∧ Lx (Heap.bk Bb tk) g s i b b4) (s.length + 1)
    ⟨0, false, [], .nil, by omega, by omega, hr, by simp, by simp, trivial, (fun _ _ _ e => by cases e), by first | exact lx | (simp [hBb]; exact lx)⟩ (fun m x g hI K hK => ?_)
  clear hr lx hb3
  have hb40 : h b4 = none := hb4
  clear hb4
  obtain ⟨i, b, out, tk, h1, h2, h4, h5, hx, htk, htf, lx⟩ := hI
  obtain ⟨p, rfl⟩ : ∃ p, m = p + 1 := ⟨m - 1, by omega⟩
  simp only [scanR] at h4
  have hgl := gapR_le s (s.length - i) i b h1
  obtain ⟨gp, hgp⟩ : ∃ gp, gapR s (s.length - i) i b = gp := ⟨_, rfl⟩
  rw [hgp] at h4 hgl
  obtain ⟨e, j, bb⟩ := gp
  simp only at h4 hgl
  have hno : tk ≠ .no := fun e => by subst e; exact htk.elim
  have h0q : (Heap.bk Bb tk) 0 = some .gint := bk_sub htf _ _ h0b
  have hBs : AL.Sub Bb (Heap.bk Bb tk) := bk_sub htf
  have hq3 : (Heap.bk Bb tk) b3 = some (.cells Z28) := hBs _ _ hBb3
  replace htf := Shut.mk htf
  replace hBs := Shut.mk hBs
  replace h4 := Shut.mk h4
  refine awp_eqs (s' := [_, _, x 2, _, _, x 5, x 6, x 7, x 8, x 9, x 10, _, _, _, _, _, _, _, _, x 19, x 20, x 21, x 22, x 23, x 24, x 25, x 26, x 27, x 28, x 29, x 30, x 31, x 32, x 33, x 34, x 35, x 36, x 37, x 38, x 39, x 40, x 41, x 42, x 43, x 44, x 45, x 46, x 47, x 48, x 49, x 50, x 51, x 52, x 53, x 54, x 55, x 56, x 57, x 58, x 59, x 60, x 61, x 62, x 63, x 64, x 65, x 66, x 67, x 68, x 69, x 70, x 71, x 72, x 73, x 74, x 75, x 76, x 77, x 78, x 79, x 80, x 81, x 82]) rfl ?_
  (focus repeat' first|refine ga ?_|(refine gb ?_;try simp[gz, *])|refine gk fun _ _=>?_|refine gc ?_ ?_|exact gr _|refine gi fun _=>?_|(refine gn ?_ ?_;focus(intros;simp[*];done)))
  refine gap_c s i b b4 h1 (by omega) _ _ h0q lx _ (fun k lk => ?_)
  rw [hgp] at lk ⊢
  clear lx htk hgp
  simp only at lk ⊢
  have hl := lk.blk
  have hk3 := lk.sub _ _ hq3
  have htk := tokIn_bk lk.sub hno
  have hsk : AL.Sub h k := (hsub0.trans hBs.out).trans lk.sub
  replace hsk := Shut.mk hsk
  cases e with
  | some q =>
    replace h4 := h4.out
    simp only at h4
    subst h4
    clear lk
    simp [gz, *]
    (focus repeat' first|refine ga ?_|(refine gb ?_;try simp[gz, *])|refine gk fun _ _=>?_|refine gc ?_ ?_|exact gr _|refine gi fun _=>?_|(refine gn ?_ ?_;focus(intros;simp[*];done)))
    refine ⟨_, ⟨_, rfl, ?_, _, rfl, rfl⟩, ?_, hsk.out.loc hb30 _⟩
    · simp [Heap.set_get]
    · simp [aresult, Heap.set_get]
  | none =>
    simp only
    by_cases hj : j = s.length
    · subst hj
      replace h4 := h4.out
      simp only [if_true] at h4
      subst h4
      have n4b : ∀ q k e, tk = .own q k e → ¬ q = b4 := fun q k e q1 q2 => by
        subst q1 q2
        have this := hl.symm.trans htk
        cases this
      simp [gz, *]
      (focus repeat' first|refine ga ?_|(refine gb ?_;try simp[gz, *])|refine gk fun _ _=>?_|refine gc ?_ ?_|exact gr _|refine gi fun _=>?_|(refine gn ?_ ?_;focus(intros;simp[*];done)))
      refine awp_region_draw [b4] [(0, true), (1, true), (2, true), (3, true), (4, true), (5, true), (6, true), (7, true), (8, true), (9, true), (12, true), (10, false), (11, false), (13, true)] [14] follows (by kernel_rfl) rfl (by kernel_rfl) ?_; simp [gz, Heap.plus_set, *]
      (focus repeat' first|refine ga ?_|(refine gb ?_;try simp[gz, *])|refine gk fun _ _=>?_|refine gc ?_ ?_|exact gr _|refine gi fun _=>?_|(refine gn ?_ ?_;focus(intros;simp[*];done)))
      refine .inl ⟨by cases tk with
        | own b k e => exact ⟨n4b _ _ _ rfl, htk⟩
        | no => exact htk
        | nil => trivial
        | full => trivial, fun b' k' e' hb' => ?_⟩
      obtain ⟨HG, hHG⟩ : ∃ HG, (tk.rid (k.minus [b4])).set b' (.spare k' e') = HG := ⟨_, rfl⟩
      have hq3' : ¬ b3 = b' := fun e => by
        subst e
        rcases hb' with hb' | ⟨_, _, hb'⟩
        · simp [Heap.minus_get, n34, hk3] at hb'
        · subst hb'
          have := hk3.symm.trans htk
          cases this
      have ht3 : ∀ k1 e1, tk ≠ .own b3 k1 e1 := fun k1 e1 q => by rw [htf.out _ _ _ q] at hBb3; cases hBb3
      have hG3 : HG b3 = some (.cells Z28) := by rw [← hHG, grown_p hq3' ht3]; simp [Heap.minus_get, n34, hk3]
      have hGs : ∀ q y, h q = some y → ¬ q = b4 → HG q = some y := fun q y hq hq4 => by
        have hBq : Bb q = some y := hsub0 _ _ hq
        have hkq : k q = some y := hsk.out _ _ hq
        rw [← hHG, grown_p (fun e => by
          subst e
          rcases hb' with hb' | ⟨_, _, hb'⟩
          · simp [Heap.minus_get, hq4, hkq] at hb'
          · rw [htf.out _ _ _ hb'] at hBq; cases hBq) (fun k1 e1 q1 => by rw [htf.out _ _ _ q1] at hBq; cases hBq)]
        simp [Heap.minus_get, hq4, hkq]
      have hF : AL.Sub h ((HG.plus [b4] k).set b3 (.cells [.int .i64 0, .int .i64 0])) := fun q y hq => by
        have q3 : ¬ q = b3 := fun e => by rw [e, hb30] at hq; cases hq
        have q4 : ¬ q = b4 := fun e => by rw [e, hb40] at hq; cases hq
        simp [Heap.set_get, q3, q4, hGs q y hq q4]
      rw [hHG]
      clear hHG hb' htk hl
      replace hGs := Shut.mk hGs
      replace hF := Shut.mk hF
      simp [gz, *]
      intro hn
      try simp [Heap.set_get, *]
      (focus repeat' first|refine ga ?_|(refine gb ?_;try simp[gz, *])|refine gk fun _ _=>?_|refine gc ?_ ?_|exact gr _|refine gi fun _=>?_|(refine gn ?_ ?_;focus(intros;simp[*];done)))
      refine ⟨_, ⟨_, rfl, ?_, _, rfl, rfl⟩, ⟨.own b' k' e', ?_⟩, hF.out⟩
      · simp [Heap.set_get]
      · simp [aresult, Heap.set_get]
    · have hjl : j < s.length := by omega
      replace h4 := h4.out
      simp only [if_neg hj] at h4
      rw [if_neg (by omega)] at h4
      have hji : ¬ (j : Int) = s.length := by omega
      have hol : ¬ (out.length : Int) = 65536 := by omega
      obtain ⟨x1, x2, x3, x4, x5, hnx⟩ := nextR_shape s j
      have hnl := nextR_le s j hjl
      rw [hnx] at h4 hnl
      simp only [avTok] at h4 hnl
      obtain ⟨z, hz⟩ : ∃ z, nextR s j = z := ⟨_, rfl⟩
      rw [hz] at h4 hnl hnx
      replace h4 := Shut.mk h4
      replace hnl := Shut.mk hnl
      clear hsk htk hk3
      have NEXT := @next_c
      simp [gz, *]
      (focus repeat' first|refine ga ?_|(refine gb ?_;try simp[gz, *])|refine gk fun _ _=>?_|refine gc ?_ ?_|exact gr _|refine gi fun _=>?_|(refine gn ?_ ?_;focus(intros;simp[*];done)))
      refine next_c s j bb b4 hjl (by omega) _ _ h0q lk _ (fun k2 lk2 => ?_)
      rw [hz] at lk2 ⊢
      rw [hnx]
      clear lk hl hz hnx NEXT
      have hl := lk2.blk
      have hk3 := lk2.sub _ _ hq3
      have htk := tokIn_bk lk2.sub hno
      have hsk : AL.Sub h k2 := (hsub0.trans hBs.out).trans lk2.sub
      replace hsk := Shut.mk hsk
      have hb4 := hl
      have hb3 := hk3
      by_cases hx4 : x4 = 0
      · replace h4 := h4.out
        simp only [hx4, if_true] at h4
        have hnl2 := hnl.out.2 hx4
        have hnl1 := hnl.out.1
        subst hx4
        replace h4 := Shut.mk h4
        simp [gz, *]
        (focus repeat' first|refine ga ?_|(refine gb ?_;try simp[gz, *])|refine gk fun _ _=>?_|refine gc ?_ ?_|exact gr _|refine gi fun _=>?_|(refine gn ?_ ?_;focus(intros;simp[*];done)))
        intro b9 hb9; simp only [Fresh, Heap.set_none] at hb9; have n_b9_b4 := ne_of_fresh hb4 (b := b9) (by simp [*]); have n_b9_b3 := ne_of_fresh hb3 (b := b9) (by simp [*]); try simp [gz, *]
        have m94 : ¬ b9 = b4 := fun e => n_b9_b4 e.symm
        have m93 : ¬ b9 = b3 := fun e => n_b9_b3 e.symm
        (focus repeat' first|refine ga ?_|(refine gb ?_;try simp[gz, *])|refine gk fun _ _=>?_|refine gc ?_ ?_|exact gr _|refine gi fun _=>?_|(refine gn ?_ ?_;focus(intros;simp[*];done)))
        intro b10 hb10
        simp only [Fresh, Heap.set_none] at hb10
        obtain ⟨n109', n109, hb10⟩ := hb10
        have n104 := ne_of_fresh hl hb10
        have n103 := ne_of_fresh hk3 hb10
        have m104 : ¬ b10 = b4 := fun e => n104 e.symm
        have m103 : ¬ b10 = b3 := fun e => n103 e.symm
        try simp [Heap.set_get, *]
        (focus repeat' first|refine ga ?_|(refine gb ?_;try simp[gz, *])|refine gk fun _ _=>?_|refine gc ?_ ?_|exact gr _|refine gi fun _=>?_|(refine gn ?_ ?_;focus(intros;simp[*];done)))
        obtain ⟨H, hH⟩ : ∃ H, ((k2.set b9 (.cells [.int .i64 x1, .int .i64 0, .str x2, .int .i64 x3, .bool false])).set b10 (.cells [.int .i64 0, .int .i64 x5])) = H := ⟨_, rfl⟩
        have hH0 : ((((k2.set b9 (.cells [.int .i64 0, .int .i64 0, .str [], .int .i64 0, .bool false])).set b10 (.cells [.int .i64 0, .int .i64 0])).set b9 (.cells [.int .i64 x1, .int .i64 0, .str x2, .int .i64 x3, .bool false])).set b10 (.cells [.int .i64 0, .int .i64 x5])) = H := by
          rw [← hH]
          funext c
          by_cases e1 : c = b10
          · subst e1; simp [Heap.set_get]
          · by_cases e2 : c = b9
            · subst e2; simp [Heap.set_get, e1]
            · simp [Heap.set_get, e1, e2]
        refine awp_heap (fun x => x = H) hH0 (fun H' hx => ?_)
        subst hx
        have hH9 : H' b9 = some (.cells [.int .i64 x1, .int .i64 0, .str x2, .int .i64 x3, .bool false]) := by rw [← hH, Heap.set_other _ _ _ _ n109', Heap.set_same]
        have hH10 : H' b10 = some (.cells [.int .i64 0, .int .i64 x5]) := by rw [← hH, Heap.set_same]
        have hH3 : H' b3 = some (.cells Z28) := by rw [← hH, Heap.set_other _ _ _ _ n103, Heap.set_other _ _ _ _ n_b9_b3]; exact hk3
        have lk3 : Lx (Heap.bk Bb tk) H' s z.2 bb b4 := by rw [← hH]; exact (lk2.extra hb9 _).extra (by rw [Heap.set_other _ _ _ _ n109]; exact hb10) _
        have zb9 := lk2.isNone hb9
        clear hH0 hH lk2 hb9 hb10 hl hk3 hb3 hb4 htk hsk
        have hb4 := lk3.blk
        have htk := tokIn_bk lk3.sub hno
        have hsk : AL.Sub h H' := (hsub0.trans hBs.out).trans lk3.sub
        replace hsk := Shut.mk hsk
        have hl9 : ¬ b4 = b9 := n_b9_b4
        have lk4 := lk3.wr zb9 hl9 (.cells [.int .i64 x1, .int .i64 j, .str x2, .int .i64 x3, .bool bb])
        obtain ⟨H2, hH2⟩ : ∃ x, H'.set b9 (.cells [.int .i64 x1, .int .i64 j, .str x2, .int .i64 x3, .bool bb]) = x := ⟨_, rfl⟩
        rw [hH2] at lk4
        have hH29 : H2 b9 = some (.cells [.int .i64 x1, .int .i64 j, .str x2, .int .i64 x3, .bool bb]) := by rw [← hH2, Heap.set_same]
        refine awp_region_stores [b4] [0, 1, 2, 3, 5] [(4, true), (6, false)] [7, 8] follows (by kernel_rfl) rfl (by kernel_rfl) ?_; simp [Heap.set_get, Heap.plus_set, evc_nil, evc_cons, estep, *]
        clear lk3 hb4 htk hH9 hH10 hH3 hH2
        have hb4 := lk4.blk
        have htk := tokIn_bk lk4.sub hno
        replace lk4 := Shut.mk lk4
        (focus repeat' first|refine ga ?_|(refine gb ?_;try simp[gz, *])|refine gk fun _ _=>?_|refine gc ?_ ?_|exact gr _|refine gi fun _=>?_|(refine gn ?_ ?_;focus(intros;simp[*];done)))
        refine .inl ⟨htk, fun b' k' e' hb' => ?_⟩
        obtain ⟨lk5, hBb'⟩ := lk4.out.growK htf.out (k := k') (e := e') hb'
        obtain ⟨HG, hHG⟩ : ∃ HG, (tk.rid H2).set b' (.spare k' e') = HG := ⟨_, rfl⟩
        rw [hHG] at lk5 ⊢
        have hGb : HG b' = some (.spare k' e') := by rw [← hHG, Heap.set_same]
        clear hHG hb' htk hb4 hH29
        have hb4 := lk5.blk
        have lk6 := lk5.put z.2 false
        have hGb2 : ¬ b' = b4 := fun e => by rw [e, hb4] at hGb; cases hGb
        replace lk5 := Shut.mk lk5
        replace lk6 := Shut.mk lk6
        simp [gz, *]
        (focus repeat' first|refine ga ?_|(refine gb ?_;try simp[gz, *])|refine gk fun _ _=>?_|refine gc ?_ ?_|exact gr _|refine gi fun _=>?_|(refine gn ?_ ?_;focus(intros;simp[*];done)))
        exact ⟨by kernel_rfl, rfl, p, _, by omega, Sub.refl _, z.2, false, out ++ [⟨x1, j, x2, x3, bb⟩], .own b' k' e', hnl1, by omega, h4.out, by simp only [List.length_append, List.length_singleton]; omega, by simp, by simp [TokIn, Heap.set_get, hGb, hGb2], fun b2 k2 e2 q1 => by injection q1 with q1; subst q1; exact hBb', lk6.out⟩
      · replace h4 := h4.out
        simp only [hx4, if_false] at h4
        subst h4
        simp [gz, *]
        (focus repeat' first|refine ga ?_|(refine gb ?_;try simp[gz, *])|refine gk fun _ _=>?_|refine gc ?_ ?_|exact gr _|refine gi fun _=>?_|(refine gn ?_ ?_;focus(intros;simp[*];done)))
        intro b9 hb9; simp only [Fresh, Heap.set_none] at hb9; have n_b9_b4 := ne_of_fresh hb4 (b := b9) (by simp [*]); have n_b9_b3 := ne_of_fresh hb3 (b := b9) (by simp [*]); try simp [gz, *]
        have m94 : ¬ b9 = b4 := fun e => n_b9_b4 e.symm
        have m93 : ¬ b9 = b3 := fun e => n_b9_b3 e.symm
        (focus repeat' first|refine ga ?_|(refine gb ?_;try simp[gz, *])|refine gk fun _ _=>?_|refine gc ?_ ?_|exact gr _|refine gi fun _=>?_|(refine gn ?_ ?_;focus(intros;simp[*];done)))
        intro b10 hb10
        simp only [Fresh, Heap.set_none] at hb10
        obtain ⟨n109', n109, hb10⟩ := hb10
        have n104 := ne_of_fresh hl hb10
        have n103 := ne_of_fresh hk3 hb10
        have m104 : ¬ b10 = b4 := fun e => n104 e.symm
        have m103 : ¬ b10 = b3 := fun e => n103 e.symm
        try simp [Heap.set_get, *]
        (focus repeat' first|refine ga ?_|(refine gb ?_;try simp[gz, *])|refine gk fun _ _=>?_|refine gc ?_ ?_|exact gr _|refine gi fun _=>?_|(refine gn ?_ ?_;focus(intros;simp[*];done)))
        obtain ⟨H, hH⟩ : ∃ H, ((k2.set b9 (.cells [.int .i64 x1, .int .i64 0, .str x2, .int .i64 x3, .bool false])).set b10 (.cells [.int .i64 x4, .int .i64 x5])) = H := ⟨_, rfl⟩
        have hH0 : ((((k2.set b9 (.cells [.int .i64 0, .int .i64 0, .str [], .int .i64 0, .bool false])).set b10 (.cells [.int .i64 0, .int .i64 0])).set b9 (.cells [.int .i64 x1, .int .i64 0, .str x2, .int .i64 x3, .bool false])).set b10 (.cells [.int .i64 x4, .int .i64 x5])) = H := by
          rw [← hH]
          funext c
          by_cases e1 : c = b10
          · subst e1; simp [Heap.set_get]
          · by_cases e2 : c = b9
            · subst e2; simp [Heap.set_get, e1]
            · simp [Heap.set_get, e1, e2]
        refine awp_heap (fun x => x = H) hH0 (fun H' hx => ?_)
        subst hx
        have hH9 : H' b9 = some (.cells [.int .i64 x1, .int .i64 0, .str x2, .int .i64 x3, .bool false]) := by rw [← hH, Heap.set_other _ _ _ _ n109', Heap.set_same]
        have hH10 : H' b10 = some (.cells [.int .i64 x4, .int .i64 x5]) := by rw [← hH, Heap.set_same]
        have hH3 : H' b3 = some (.cells Z28) := by rw [← hH, Heap.set_other _ _ _ _ n103, Heap.set_other _ _ _ _ n_b9_b3]; exact hk3
        have lk3 : Lx (Heap.bk Bb tk) H' s z.2 bb b4 := by rw [← hH]; exact (lk2.extra hb9 _).extra (by rw [Heap.set_other _ _ _ _ n109]; exact hb10) _
        have zb9 := lk2.isNone hb9
        clear hH0 hH lk2 hb9 hb10 hl hk3 hb3 hb4 htk hsk
        have hb4 := lk3.blk
        have htk := tokIn_bk lk3.sub hno
        have hsk : AL.Sub h H' := (hsub0.trans hBs.out).trans lk3.sub
        replace hsk := Shut.mk hsk
        refine awp_region_stores [b10] [1] [] [0, 2] follows (by kernel_rfl) rfl (by kernel_rfl) ?_; simp [Heap.set_get, Heap.plus_set, evc_nil, evc_cons, estep, *]
        (focus repeat' first|refine ga ?_|(refine gb ?_;try simp[gz, *])|refine gk fun _ _=>?_|refine gc ?_ ?_|exact gr _|refine gi fun _=>?_|(refine gn ?_ ?_;focus(intros;simp[*];done)))
        refine ⟨_, ⟨_, rfl, ?_, _, rfl, rfl⟩, ?_, hsk.out.loc hb30 _⟩
        · simp [Heap.set_get]
        · simp [aresult, Heap.set_get]
end Go.Proofs.YtcbgpjlcfkkdlaaGreatDoor

namespace Go.Proofs.YtcbgpjlcfkkdlaaGreatDoor
open Go Go.AL Go.Proofs
theorem assign_split : Lib.split assignB [32] = assignW := by decide +kernel
theorem isAssign_eq (x : List UInt8) : amongL x assignB = isAssign x := by
  unfold amongL isAssign
  rw [assign_split, Bool.eq_iff_iff]
  simp
theorem Own.minus {B H : Heap} {T : List Tk} {tt : Tok} {S : St} {r : Nat} {t1 t2 : Tok} {b : Nat} {x : Blk} (ho : Own (B.set b x) H T tt S r t1 t2) (hb : B b = none) : Own B (H.minus [b]) T tt S r t1 t2 := by
  have hn : ∀ q, (B.set b x) q = none → ¬ q = b ∧ B q = none := fun q h1 => by
    have h2 : ¬ q = b := fun e => by rw [e, Heap.set_same] at h1; cases h1
    exact ⟨h2, by rwa [Heap.set_other _ _ _ _ h2] at h1⟩
  have hk : ∀ t : Tok, TokIn H t → (∀ q k e, t = .own q k e → (B.set b x) q = none) → TokIn (H.minus [b]) t := fun t ht hq => by
    cases t with
    | own q k e =>
      have h1 : H q = some (.spare k e) := ht
      have h2 := (hn q (hq _ _ _ rfl)).1
      simp [TokIn, h2, h1]
    | no => exact ht.elim
    | nil => trivial
    | full => trivial
  have hrb := (hn r ho.free).1
  refine ⟨fun c y hc => ?_, (hn r ho.free).2, by simp [hrb, ho.blk], hk _ ho.tk1 ho.fr1, hk _ ho.tk2 ho.fr2, fun q k e q1 => (hn q (ho.fr1 _ _ _ q1)).2, fun q k e q1 => (hn q (ho.fr2 _ _ _ q1)).2, ho.ap⟩
  have h1 : ¬ c = b := fun e => by rw [e, hb] at hc; cases hc
  have h2 := ho.sub c y (by rw [Heap.set_other _ _ _ _ h1]; exact hc)
  simp [h1, h2]
end Go.Proofs.YtcbgpjlcfkkdlaaGreatDoor

namespace Go.Proofs.YtcbgpjlcfkkdlaaGreatDoor
open Go Go.AL Go.Proofs
theorem Rd.w1 {T : List Tk} {S : St} (hv : Rd T S) : IntKind.i64.wrap ((S.idx : Int) + 1) = (S.idx : Int) + 1 := by
  have h1 := hv.top
  have h2 := hv.len
  exact w64 (by omega) (by omega)
theorem InK.one {S : St} {k : Int} (h : 0 ≤ k → k < S.nodes.length) : InK S [k] := InK.cons h InK.nil
theorem InK.neg {S : St} : InK S [-1] := InK.one fun h => absurd h (by decide)
theorem someLoop_len (T : List Tk) (stop : List UInt8) : ∀ n kids S l S', run T n (.someLoop stop kids) S = some (l, S') → l.length ≤ kids.length + n
  | 0, _, _, _, _, h => by simp [run] at h
  | n + 1, kids, S, l, S', h => by
    simp only [run] at h
    by_cases hc : S.fc = 0 ∧ isL T stop S = false
    · rw [if_pos hc, Option.bind_eq_some_iff] at h
      obtain ⟨⟨l1, S1⟩, -, h2⟩ := h
      dsimp only at h2
      cases h4 : isL T [44] S1
      · rw [h4, if_neg (by decide)] at h2
        simp only [Option.some.injEq, Prod.mk.injEq] at h2
        rw [← h2.1]
        simp only [List.length_append, List.length_singleton]
        omega
      · rw [h4, if_pos rfl] at h2
        have := someLoop_len T stop n _ _ _ _ h2
        simp only [List.length_append, List.length_singleton] at this
        omega
    · rw [if_neg hc] at h
      simp only [Option.some.injEq, Prod.mk.injEq] at h
      rw [← h.1]
      omega
theorem some_len {T : List Tk} {stop : List UInt8} {n : Nat} {S : St} {l : List Int} {S' : St} (h : run T n (.some stop) S = some (l, S')) : l.length ≤ n := by
  cases n with
  | zero => simp [run] at h
  | succ n =>
    simp only [run, Option.map_eq_some_iff] at h
    obtain ⟨⟨l1, S1⟩, h1, h2⟩ := h
    simp only [Prod.mk.injEq] at h2
    have := someLoop_len T stop n _ _ _ _ h1
    rw [← h2.1]
    simp only [List.length_nil] at this
    omega
theorem minus_minus {h : Heap} {a b : Nat} : (h.minus [b]).minus [a] = h.minus [a, b] := by
  funext c
  by_cases h1 : c = a
  · subst h1; simp
  · by_cases h2 : c = b
    · subst h2; simp [h1]
    · simp [h1, h2]
theorem minus_of_none {k H : Heap} {G : List Nat} (h : ∀ b ∈ G, k b = none) : (k.plus G H).minus G = k := by
  funext c
  by_cases e : c ∈ G
  · simp [e, h c e]
  · simp [e]
theorem Weak.strs {a b : List UInt8} (h : a = b) : Weak (.str a) (.str b) := h ▸ Weak.refl _
theorem Weak.ints {a b : Int} (h : a = b) : Weak (.int .i64 a) (.int .i64 b) := h ▸ Weak.refl _
def Short (T : List Tk) : Prop := ∀ t ∈ T, t.text.length ≤ 1000000
theorem name_len {T : List Tk} (hs : Short T) (S : St) : (nameR T S).1.length ≤ 1000000 := by
  have hd : ∀ i, (T.getD i default).text.length ≤ 1000000 := fun i => by
    by_cases hi : i < T.length
    · simp only [List.getD, List.getElem?_eq_getElem hi, Option.getD_some]
      exact hs _ (List.getElem_mem hi)
    · simp only [List.getD, List.getElem?_eq_none (Nat.not_lt.1 hi), Option.getD_none]
      show ([] : List UInt8).length ≤ _
      simp
  unfold nameR
  split
  · show (peekL T S).text.length ≤ _
    unfold peekL
    split
    · exact hd _
    · exact hd _
  · simp
def faultL (e a : Int) (S : St) : St := { S with fc := e, fa := a }
theorem goes_fault {T : List Tk} {S : St} (hg : Good T S) (e a : Int) (he : ¬ e = 0) : Goes T S (faultL e a S) := goes_same ⟨fun h => absurd h he, hg.rd.top, hg.rd.len, hg.rd.ne, hg.rd.nl, hg.rd.last⟩ hg rfl rfl
theorem goes_down_step {T : List Tk} {S : St} (hg : Good T S) (hk : ¬ (peekL T S).kind = 6) : Goes T (downL T S) (stepL (downL T S)) := by
  have h1 := hg.rd.step hk
  have hp := h1.2.pos
  have h2 : S.idx + 1 < T.length := h1.2.pos h1.1
  have hd : (downL T S).idx = S.idx := by
    unfold downL
    simp only
    split
    · unfold wrongL; split <;> rfl
    · rfl
  have gd := (goes_down hg).good
  exact goes_same ⟨fun _ => by show (downL T S).idx + 1 < T.length; rw [hd]; exact h2, by show (downL T S).idx + 1 ≤ T.length; rw [hd]; omega, gd.rd.len, gd.rd.ne, gd.rd.nl, gd.rd.last⟩ gd rfl rfl
theorem Weak.toks {sz : Nat} {a b : List (List AV)} {t : Tok} (h : a = b) : Weak (.list sz a t) (.list sz b .no) := h ▸ Weak.tok _ _ _
theorem goes_wrong_step {T : List Tk} {S : St} (hg : Good T S) (hf : S.fc = 0) (e : Int) (he : ¬ e = 0) : Goes T (wrongL T e S) (stepL (wrongL T e S)) := by
  have hp := hg.rd.pos hf
  have h1 := (goes_wrong hg he).good
  have hw : wrongL T e S = { S with fc := e, fa := (peekL T S).pos } := by unfold wrongL; rw [if_pos hf]
  have hi : (wrongL T e S).idx = S.idx := by rw [hw]
  have hc : (wrongL T e S).fc = e := by rw [hw]
  exact goes_same ⟨fun h => absurd (hc ▸ h) he, by show (wrongL T e S).idx + 1 ≤ T.length; rw [hi]; omega, h1.rd.len, h1.rd.ne, h1.rd.nl, h1.rd.last⟩ h1 rfl rfl
theorem Own.setB {B h : Heap} {T : List Tk} {tt : Tok} {S : St} {r : Nat} {t1 t2 : Tok} {b : Nat} {x : Blk} (ho : Own (B.set b x) h T tt S r t1 t2) (hb : B b = none) (y : Blk) : Own (B.set b y) (h.set b y) T tt S r t1 t2 := by
  have hn : ∀ q, (B.set b x) q = none → ¬ q = b ∧ B q = none := fun q h1 => by
    have h2 : ¬ q = b := fun e => by rw [e, Heap.set_same] at h1; cases h1
    exact ⟨h2, by rwa [Heap.set_other _ _ _ _ h2] at h1⟩
  have hy : ∀ q, (B.set b x) q = none → (B.set b y) q = none := fun q h1 => by rw [Heap.set_other _ _ _ _ (hn q h1).1]; exact (hn q h1).2
  refine ⟨fun c z hc => ?_, hy _ ho.free, by rw [Heap.set_other _ _ _ _ (hn r ho.free).1]; exact ho.blk, tokIn_set ho.tk1 (fun q k e q1 => (hn q (ho.fr1 _ _ _ q1)).1), tokIn_set ho.tk2 (fun q k e q1 => (hn q (ho.fr2 _ _ _ q1)).1), fun q k e q1 => hy _ (ho.fr1 _ _ _ q1), fun q k e q1 => hy _ (ho.fr2 _ _ _ q1), ho.ap⟩
  by_cases e1 : c = b
  · subst e1
    rw [Heap.set_same] at hc ⊢
    exact hc
  · rw [Heap.set_other _ _ _ _ e1] at hc ⊢
    exact ho.sub c z (by rw [Heap.set_other _ _ _ _ e1]; exact hc)
theorem Own.del {B H : Heap} {T : List Tk} {tt : Tok} {S : St} {r : Nat} {t1 t2 : Tok} {b : Nat} {x : Blk} (ho : Own (B.set b x) H T tt S r t1 t2) (hb : B b = none) : Own B (H.del b) T tt S r t1 t2 := by
  have h1 : H.del b = H.minus [b] := by
    funext c
    by_cases e : c = b
    · subst e; simp [Heap.del]
    · simp [Heap.del, e]
  rw [h1]
  exact ho.minus hb
end Go.Proofs.YtcbgpjlcfkkdlaaGreatDoor

namespace Go.Proofs.YtcbgpjlcfkkdlaaGreatDoor
open Go Go.AL Go.Proofs
theorem step_split : Lib.split stepB [32] = stepW := by decide +kernel
theorem isStep_eq (x : List UInt8) : amongL x stepB = isStep x := by
  unfold amongL isStep
  rw [step_split, Bool.eq_iff_iff]
  simp
theorem unary_split : Lib.split [45, 32, 33, 32, 126, 32, 116, 121, 112, 101, 111, 102, 32, 99, 108, 111, 110, 101, 32, 114, 101, 115, 117, 109, 101, 32, 100, 101, 108, 101, 116, 101] [32] = unaryW := by decide +kernel
theorem isUnary_eq (x : List UInt8) : amongL x [45, 32, 33, 32, 126, 32, 116, 121, 112, 101, 111, 102, 32, 99, 108, 111, 110, 101, 32, 114, 101, 115, 117, 109, 101, 32, 100, 101, 108, 101, 116, 101] = isUnary x := by
  unfold amongL isUnary
  rw [unary_split, Bool.eq_iff_iff]
  simp
theorem levels_split : linesB.map (fun l => Lib.split l [32]) = levelsW := by decide +kernel
theorem level_eq (x : List UInt8) : levelL x = levelW x := by
  unfold levelL levelW
  rw [← levels_split, List.findIdx?_map]
  have : (fun l => decide (x ∈ Lib.split l [32])) = (fun l : List (List UInt8) => l.contains x) ∘ fun l => Lib.split l [32] := by
    funext l
    simp [Function.comp, Bool.eq_iff_iff]
  rw [this]
  rfl
theorem step_not {x : List UInt8} (h : isStep x = true) : isUnary x = false ∧ decide (x = [100, 101, 108, 101, 116, 101]) = false := by
  unfold isStep stepW at h
  simp only [List.contains_cons, List.contains_nil, Bool.or_false, Bool.or_eq_true, beq_iff_eq] at h
  rcases h with rfl | rfl <;> decide
theorem Neg_c (a : Int) (h : Heap) (R : AV → Heap → Prop) (hR : R (.int .i64 (IntKind.i64.wrap (-a))) h) : ACalls Tryz.prog 122 [.int .i64 a] h R := by
  refine ACalls.pure ?_ hR
  clear hR
  refine acalls_of Tryz.func122 rfl Tryz.ntmps122 (congrArg Array.toList Tryz.results122) fun Q hQ => ?_
  (focus repeat' first|refine ga ?_|(refine gb ?_;try simp[gz, *])|refine gk fun _ _=>?_|refine gc ?_ ?_|exact gr _|refine gi fun _=>?_|(refine gn ?_ ?_;focus(intros;simp[*];done)))
theorem NumAdd_c (a b : Int) (h : Heap) (R : AV → Heap → Prop) (hR : R (.int .i64 (IntKind.i64.wrap (a + b))) h) : ACalls Tryz.prog 123 [.int .i64 a, .int .i64 b] h R := by
  refine ACalls.pure ?_ hR
  clear hR
  refine acalls_of Tryz.func123 rfl Tryz.ntmps123 (congrArg Array.toList Tryz.results123) fun Q hQ => ?_
  (focus repeat' first|refine ga ?_|(refine gb ?_;try simp[gz, *])|refine gk fun _ _=>?_|refine gc ?_ ?_|exact gr _|refine gi fun _=>?_|(refine gn ?_ ?_;focus(intros;simp[*];done)))
end Go.Proofs.YtcbgpjlcfkkdlaaGreatDoor

