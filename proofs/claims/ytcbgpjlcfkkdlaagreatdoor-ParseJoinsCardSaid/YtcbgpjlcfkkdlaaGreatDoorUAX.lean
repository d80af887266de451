import Derived.Test.YtcbgpjlcfkkdlaaGreatDoorUAW
import Derived.Test.YtcbgpjlcfkkdlaaGreatDoorUAU
import Derived.Test.YtcbgpjlcfkkdlaaGreatDoorUAJ
set_option linter.unusedSimpArgs false
set_option linter.unusedVariables false
set_option maxRecDepth 100000
set_option maxHeartbeats 16000000
namespace Go.Proofs.YtcbgpjlcfkkdlaaGreatDoor
open Go Go.AL Go.Proofs
def Heap.bk (B : Heap) : Tok → Heap
 | .own b k e => B.set b (.spare k e)
 | _ => B
section
variable {B h : Heap} {T : List Tk} {tt : Tok} {S : St} {r : Nat} {t1 t2 tk : Tok}
theorem bk_other {q : Nat} (hq : ∀ k e, tk ≠ .own q k e) : Heap.bk B tk q = B q := by
 cases tk with
 | own b k e => exact Heap.set_other _ _ _ _ (fun e1 => hq k e (by rw [e1]))
 | no => rfl
 | nil => rfl
 | full => rfl
theorem bk_none {q : Nat} (h : Heap.bk B tk q = none) : B q = none ∧ ∀ k e, tk ≠ .own q k e := by
 have h1 : ∀ k e, tk ≠ .own q k e := fun k e e1 => by
  subst e1
  simp [Heap.bk] at h
 exact ⟨by have e := bk_other (B := B) h1; rw [← e]; exact h, h1⟩
theorem bk_sub (hf : ∀ b k e, tk = .own b k e → B b = none) : AL.Sub B (Heap.bk B tk) := by
 cases tk with
 | own b k e => exact (Sub.refl B).loc (hf _ _ _ rfl) _
 | no => exact Sub.refl B
 | nil => exact Sub.refl B
 | full => exact Sub.refl B
theorem Own.growK (ho : Own (Heap.bk B tk) h T tt S r t1 t2) (hf : ∀ b k e, tk = .own b k e → B b = none) {b k e : Nat} (hb : SpareNew h tk b) :
  Own (Heap.bk B (.own b k e)) ((tk.rid h).set b (.spare k e)) T tt S r t1 t2 ∧ B b = none := by
 have hbb : ∀ q, Heap.bk B tk q = none → (∃ x, h q = some x) → ¬ q = b := fun q h1 ⟨x, h2⟩ e1 => by
  subst e1
  rcases hb with hb | ⟨k', e', hb⟩
  ·rw [hb] at h2; cases h2
  ·exact (bk_none h1).2 _ _ hb
 have hrb := hbb r ho.free ⟨_, ho.blk⟩
 have hat : ∀ q, ¬ q = b → Heap.bk B tk q = none → ((tk.rid h).set b (.spare k e)) q = h q := fun q h1 h2 => grown_plain h1 (bk_none h2).2
 have hBb : B b = none := by
  rcases hb with hb | ⟨k', e', hb⟩
  ·exact (bk_none (ho.isNone hb)).1
  ·exact hf _ _ _ hb
 have htk : ∀ t : Tok, TokIn h t → (∀ q k e, t = .own q k e → Heap.bk B tk q = none) → TokIn ((tk.rid h).set b (.spare k e)) t := fun t ht hq => by
  cases t with
  | own q k' e' =>
   have h1 : h q = some (.spare k' e') := ht
   show _ = _
   rw [hat q (hbb q (hq _ _ _ rfl) ⟨_, h1⟩) (hq _ _ _ rfl)]
   exact h1
  | no => exact ht.elim
  | nil => trivial
  | full => trivial
 have hfr : ∀ t : Tok, TokIn h t → (∀ q k e, t = .own q k e → Heap.bk B tk q = none) → ∀ q k' e', t = .own q k' e' → (B.set b (.spare k e)) q = none := fun t ht hq q k' e' e1 => by
  subst e1
  have h1 : h q = some (.spare k' e') := ht
  rw [Heap.set_other _ _ _ _ (hbb q (hq _ _ _ rfl) ⟨_, h1⟩)]
  exact (bk_none (hq _ _ _ rfl)).1
 refine ⟨⟨fun c x hc => ?_, ?_, by rw [hat r hrb ho.free]; exact ho.blk, htk _ ho.tk1 ho.fr1, htk _ ho.tk2 ho.fr2, hfr _ ho.tk1 ho.fr1, hfr _ ho.tk2 ho.fr2, ho.ap⟩, hBb⟩
 ·by_cases e1 : c = b
  ·subst e1
   have : x = .spare k e := by
    have h1 : (B.set c (.spare k e)) c = some x := hc
    rw [Heap.set_same] at h1
    injection h1 with h1
    exact h1.symm
   subst this
   exact Heap.set_same _ _ _
  ·have h1 : B c = some x := by
    have h2 : (B.set b (.spare k e)) c = some x := hc
    rwa [Heap.set_other _ _ _ _ e1] at h2
   have h3 : ∀ k e, tk ≠ .own c k e := fun k' e' q => by rw [hf _ _ _ q] at h1; cases h1
   rw [grown_plain e1 h3]
   exact ho.sub _ _ (by rw [bk_other h3]; exact h1)
 ·show (B.set b (.spare k e)) r = none
  rw [Heap.set_other _ _ _ _ hrb]
  exact (bk_none ho.free).1
end
theorem tokIn_bk {B g : Heap} {tk : Tok} (hs : AL.Sub (Heap.bk B tk) g) (hn : tk ≠ .no) : TokIn g tk := by
 cases tk with
 | own b k e => exact hs _ _ (Heap.set_same _ _ _)
 | no => exact absurd rfl hn
 | nil => trivial
 | full => trivial
end Go.Proofs.YtcbgpjlcfkkdlaaGreatDoor

namespace Go.Proofs.YtcbgpjlcfkkdlaaGreatDoor
open Go Go.AL Go.Proofs
def avTok : AV → Int × List UInt8 × Int × Int × Int
 | .tup [.agg [.int _ k, _, .str x, .int _ n, _], .agg [.int _ e, .int _ a]] => (k, x, n, e, a)
 | _ => (0, [], 0, 0, 0)
def scanR (s : List UInt8) : Nat → Nat → Bool → List Tk → List Tk ⊕ (Int × Int)
 | 0, _, _, _ => .inr (0, 0)
 | n + 1, i, b, out =>
  let g := gapR s (s.length - i) i b
  match g.1 with
  | some p => .inr (5, p)
  | none => if g.2.1 = s.length then .inl (out ++ [⟨6, g.2.1, [], 0, g.2.2⟩]) else if out.length = 65536 then .inr (2, g.2.1)
   else
    let t := avTok (nextR s g.2.1).1
    if t.2.2.2.1 = 0 then scanR s n (nextR s g.2.1).2 false (out ++ [⟨t.1, g.2.1, t.2.1, t.2.2.1, g.2.2⟩]) else .inr (t.2.2.2.1, t.2.2.2.2)
def scanT (s : List UInt8) : List Tk ⊕ (Int × Int) := scanR s (s.length + 1) 0 false []
theorem gapR_le (s : List UInt8) : ∀ (n i : Nat) (b : Bool), i ≤ s.length → i ≤ (gapR s n i b).2.1 ∧ (gapR s n i b).2.1 ≤ s.length
 | 0, i, b, h => ⟨Nat.le_refl _, h⟩
 | n + 1, i, b, h => by
  simp only [gapR]
  by_cases hi : i < s.length
  ·rw [if_pos hi]
   have hl : (s.drop i).length = s.length - i := List.length_drop
   split
   ·have := gapR_le s n (i + 1) true (by omega); omega
   ·split
    ·have := gapR_le s n (i + 1) b (by omega); omega
    ·split
     ·split
      ·have := gapR_le s n (i + (s.drop i).length) b (by omega); omega
      ·rename_i hk
       have hk2 : (Lib.indexByte (s.drop i) 10).toNat < (s.drop i).length := by
        obtain ⟨q1, -⟩ := Lib.indexByte_some (l := s.drop i) (c := 10) (o := (Lib.indexByte (s.drop i) 10).toNat) (by omega)
        exact (List.getElem?_eq_some_iff.1 q1).1
       have := gapR_le s n (i + (Lib.indexByte (s.drop i) 10).toNat) b (by omega); omega
     ·split
      ·split
       ·exact ⟨Nat.le_refl _, h⟩
       ·rename_i hk
        have hk2 := Lib.index_room ((s.drop i).drop 2) [42, 47] (by omega)
        rw [List.length_drop] at hk2
        simp only [List.length_cons, List.length_nil] at hk2
        have := gapR_le s n (i + ((Lib.index ((s.drop i).drop 2) [42, 47]).toNat + 4)) (b || Lib.contains ((s.drop i).take ((Lib.index ((s.drop i).drop 2) [42, 47]).toNat + 4)) [10]) (by omega)
        omega
      ·exact ⟨Nat.le_refl _, h⟩
  ·rw [if_neg hi]; exact ⟨Nat.le_refl _, h⟩
theorem nextR_shape (s : List UInt8) (i : Nat) : ∃ x1 x2 x3 x4 x5, (nextR s i).1 = .tup [.agg [.int .i64 x1, .int .i64 0, .str x2, .int .i64 x3, .bool false], .agg [.int .i64 x4, .int .i64 x5]] := by
 unfold nextR
 split
 ·exact ⟨_, _, _, _, _, rfl⟩
 ·split
  ·split <;> exact ⟨_, _, _, _, _, rfl⟩
  ·split
   ·exact strR_shape s i
   ·split
    ·exact charR_shape s i
    ·split <;> exact ⟨_, _, _, _, _, rfl⟩
theorem signs_pos : ∀ x ∈ signsW, 0 < x.length := by decide
theorem wspan_pos {s : List UInt8} {i : Nat} (h : i < s.length) (hw : wordX s[i] = true) : 0 < wspan s i := by rw [wspan_yes h hw]; omega
theorem nextR_le (s : List UInt8) (i : Nat) (h : i < s.length) : (nextR s i).2 ≤ s.length ∧ ((avTok (nextR s i).1).2.2.2.1 = 0 → i < (nextR s i).2) := by
 have hgd : s.getD i 0 = s[i] := by simp [List.getD, List.getElem?_eq_getElem h]
 have hw := wspan_le (s := s) (i := i) (by omega)
 unfold nextR
 rw [hgd]
 split
 ·rename_i h1
  have := wspan_pos h (by unfold wordX; rw [h1]; rfl)
  exact ⟨hw, fun _ => by show i < i + wspan s i; omega⟩
 ·split
  ·rename_i h1
   have := wspan_pos h (by unfold wordX; rw [h1]; simp)
   exact ⟨hw, fun _ => by show i < i + wspan s i; omega⟩
  ·split
   ·unfold strR
    split
    ·exact ⟨by show i ≤ _; omega, fun q => by simp [avTok] at q⟩
    ·rename_i t ht
     have := rawR_len ht
     split
     ·exact ⟨by show i ≤ _; omega, fun q => by simp [avTok] at q⟩
     ·exact ⟨by show i + (t.length + 2) ≤ _; omega, fun _ => by show i < i + (t.length + 2); omega⟩
   ·split
    ·unfold charR
     split
     ·exact ⟨by show i ≤ _; omega, fun q => by simp [avTok] at q⟩
     ·rename_i t ht
      have := rawR_len ht
      split
      ·exact ⟨by show i ≤ _; omega, fun q => by simp [avTok] at q⟩
      ·split
       ·exact ⟨by show i + (t.length + 2) ≤ _; omega, fun _ => by show i < i + (t.length + 2); omega⟩
       ·exact ⟨by show i ≤ _; omega, fun q => by simp [avTok] at q⟩
    ·split
     ·rename_i x hx
      have h1 := List.find?_some hx
      have h2 := hasPrefix_len (by simpa using h1)
      rw [List.length_drop] at h2
      have h3 := signs_pos x (List.mem_of_find?_eq_some hx)
      exact ⟨by show i + x.length ≤ _; omega, fun _ => by show i < i + x.length; omega⟩
     ·exact ⟨by show i ≤ _; omega, fun q => by simp [avTok] at q⟩
theorem Lx.growK {B h : Heap} {s : List UInt8} {i : Nat} {bb : Bool} {l : Nat} {tk : Tok} (lx : Lx (Heap.bk B tk) h s i bb l) (hf : ∀ b k e, tk = .own b k e → B b = none) {b k e : Nat} (hb : SpareNew h tk b) :
  Lx (Heap.bk B (.own b k e)) ((tk.rid h).set b (.spare k e)) s i bb l ∧ B b = none := by
 have hlb : ¬ l = b := fun e1 => by
  subst e1
  rcases hb with hb | ⟨k', e', hb⟩
  ·rw [lx.blk] at hb; cases hb
  ·exact (bk_none lx.free).2 _ _ hb
 have hBb : B b = none := by
  rcases hb with hb | ⟨k', e', hb⟩
  ·exact (bk_none (lx.isNone hb)).1
  ·exact hf _ _ _ hb
 refine ⟨⟨fun c x hc => ?_, ?_, by rw [grown_plain hlb (bk_none lx.free).2]; exact lx.blk⟩, hBb⟩
 ·by_cases e1 : c = b
  ·subst e1
   have h1 : (B.set c (.spare k e)) c = some x := hc
   rw [Heap.set_same] at h1 ⊢
   exact h1
  ·have h1 : B c = some x := by
    have h2 : (B.set b (.spare k e)) c = some x := hc
    rwa [Heap.set_other _ _ _ _ e1] at h2
   have h3 : ∀ k e, tk ≠ .own c k e := fun k' e' q => by rw [hf _ _ _ q] at h1; cases h1
   rw [grown_plain e1 h3]
   exact lx.sub _ _ (by rw [bk_other h3]; exact h1)
 ·show (B.set b (.spare k e)) l = none
  rw [Heap.set_other _ _ _ _ hlb]
  exact (bk_none lx.free).1
end Go.Proofs.YtcbgpjlcfkkdlaaGreatDoor

namespace Go.Proofs.YtcbgpjlcfkkdlaaGreatDoor
open Go Go.AL Go.Proofs
def scanAV (r : List Tk ⊕ (Int × Int)) : AV := match r with
 | .inl T => .tup [.list 5 (T.map tkRow) .no, .agg [.int .i64 0, .int .i64 0]]
 | .inr f => .tup [.list 5 [] .nil, .agg [.int .i64 f.1, .int .i64 f.2]]
theorem Scan_c (s : List UInt8) (hs : s.length ≤ 10000) (h : Heap) (h0 : h 0 = some .gint) (R : AV → Heap → Prop) (hR : R (scanAV (scanT s)) h) : ACalls Tryz.prog 10 [.str s] h R := by
 obtain ⟨r, hr⟩ : ∃ r, scanR s (s.length + 1) 0 false [] = r := ⟨_, rfl⟩
 unfold scanT at hR
 rw [hr] at hR
 refine ACalls.conv (R' := fun x g => (∃ tk T, r = .inl T ∧ x = .tup [.list 5 (T.map tkRow) tk, .agg [.int .i64 0, .int .i64 0]] ∧ AL.Sub h g) ∨ (∃ f, r = .inr f ∧ x = .tup [.list 5 [] .nil, .agg [.int .i64 f.1, .int .i64 f.2]] ∧ AL.Sub h g)) ?_ (fun x g hx => by
  rcases hx with ⟨tk, T, e1, e2, e3⟩ | ⟨f, e1, e2, e3⟩
  ·subst e1 e2
   exact ⟨_, h, View.of (Weak.tup (.cons (Weak.tok _ _ _) (.cons (Weak.refl _) .nil))) e3, hR⟩
  ·subst e1 e2
   exact ⟨_, h, View.of (Weak.refl _) e3, hR⟩)
 clear hR
 have hsi : ¬ (262144 : Int) < s.length := by omega
 refine acalls_of Tryz.func10 rfl Tryz.ntmps10 (congrArg Array.toList Tryz.results10) fun Q hQ => ?_
 (focus repeat' first|refine ga ?_|(refine gb ?_;try simp[gz, *])|refine gk fun _ _=>?_)
 intro b3 hb3; simp only [Fresh, Heap.set_none] at hb3; try simp [gz, *]
 (focus repeat' first|refine ga ?_|(refine gb ?_;try simp[gz, *])|refine gk fun _ _=>?_)
 refine Split_c signsB [32] (by decide) (by decide) _ (gint_set hb3 h0) _ ?_
 rw [signs_split]
 simp [gz, *]
 (focus repeat' first|refine ga ?_|(refine gb ?_;try simp[gz, *])|refine gk fun _ _=>?_)
 intro b4 hb4
 simp only [Fresh, Heap.set_none] at hb4
 obtain ⟨n4', n4, hb4⟩ := hb4
 have lx : Lx (h.set b3 (.cells Z28)) ((h.set b3 (.cells Z28)).set b4 (.cells (lxRow s 0 false))) s 0 false b4 := ⟨(Sub.refl _).loc (by rw [Heap.set_other _ _ _ _ n4]; exact hb4) _, by rw [Heap.set_other _ _ _ _ n4]; exact hb4, Heap.set_same _ _ _⟩
 have h0b : (h.set b3 (.cells Z28)) 0 = some .gint := gint_set hb3 h0
 have hsub0 : AL.Sub h (h.set b3 (.cells Z28)) := (Sub.refl h).loc hb3 _
 try simp [Heap.set_get, *]
 (focus repeat' first|refine ga ?_|(refine gb ?_;try simp[gz, *])|refine gk fun _ _=>?_)
 have hb30 : h b3 = none := hb3
 have hb30 : h b3 = none := hb3
 have hb30 : h b3 = none := hb3
 have hb30 : h b3 = none := hb3
 obtain ⟨Bb, hBb⟩ : ∃ x, h.set b3 (.cells Z28) = x := ⟨_, rfl⟩
 have hBb3 : Bb b3 = some (.cells Z28) := by rw [← hBb, Heap.set_same]
 rw [hBb] at lx h0b hsub0
 have n34 : ¬ b3 = b4 := fun e => n4 e.symm
 refine awp_loop_h [2,5,6,7,8,9,10,19,20,21,22,23,24,25,26,27,28,29,30,31,32,33,34,35,36,37,38,39,40,41,42,43,44,45,46,47,48,49,50,51,52,53,54,55,56,57,58,59,60,61,62,63,64,65,66,67,68,69,70,71,72,73,74,75,76,77,78,79,80,81,82] (fun m x g => ∃ (i : Nat) (b : Bool) (out : List Tk) (tk : Tok), i ≤ s.length ∧ s.length + 1 - i ≤ m ∧ scanR s m i b out = r ∧ out.length ≤ i ∧ x 5 = .list 5 (out.map tkRow) tk ∧ TokIn g tk ∧ (∀ b k e, tk = .own b k e → Bb b = none) ∧ Lx (Heap.bk Bb tk) g s i b b4) (s.length + 1)
  ⟨0, false, [], .nil, by omega, by omega, hr, by simp, by simp, trivial, (fun _ _ _ e => by cases e), by first | exact lx | (simp [hBb]; exact lx)⟩ (fun m x g hI K hK => ?_)
 clear hr lx hb3
 have hb40 : h b4 = none := hb4
 clear hb4
 obtain ⟨i, b, out, tk, h1, h2, h4, h5, hx, htk, htf, lx⟩ := hI
 obtain ⟨p, rfl⟩ : ∃ p, m = p + 1 := ⟨m - 1, by omega⟩
 simp only [scanR] at h4
 have hgl := gapR_le s (s.length - i) i b h1
 obtain ⟨gp, hgp⟩ : ∃ gp, gapR s (s.length - i) i b = gp := ⟨_, rfl⟩
 rw [hgp] at h4 hgl
 obtain ⟨e, j, bb⟩ := gp
 simp only at h4 hgl
 have hno : tk ≠ .no := fun e => by subst e; exact htk.elim
 have h0q : (Heap.bk Bb tk) 0 = some .gint := bk_sub htf _ _ h0b
 have hBs : AL.Sub Bb (Heap.bk Bb tk) := bk_sub htf
 have hq3 : (Heap.bk Bb tk) b3 = some (.cells Z28) := hBs _ _ hBb3
 replace htf := Shut.mk htf
 replace hBs := Shut.mk hBs
 replace h4 := Shut.mk h4
 refine awp_eqs (s' := [_,_,x 2,_,_,x 5,x 6,x 7,x 8,x 9,x 10,_,_,_,_,_,_,_,_,x 19,x 20,x 21,x 22,x 23,x 24,x 25,x 26,x 27,x 28,x 29,x 30,x 31,x 32,x 33,x 34,x 35,x 36,x 37,x 38,x 39,x 40,x 41,x 42,x 43,x 44,x 45,x 46,x 47,x 48,x 49,x 50,x 51,x 52,x 53,x 54,x 55,x 56,x 57,x 58,x 59,x 60,x 61,x 62,x 63,x 64,x 65,x 66,x 67,x 68,x 69,x 70,x 71,x 72,x 73,x 74,x 75,x 76,x 77,x 78,x 79,x 80,x 81,x 82]) rfl ?_
 (focus repeat' first|refine ga ?_|(refine gb ?_;try simp[gz, *])|refine gk fun _ _=>?_)
 refine gap_c s i b b4 h1 (by omega) _ _ h0q lx _ (fun k lk => ?_)
 rw [hgp] at lk ⊢
 clear lx htk hgp
 simp only at lk ⊢
 have hl := lk.blk
 have hk3 := lk.sub _ _ hq3
 have htk := tokIn_bk lk.sub hno
 have hsk : AL.Sub h k := (hsub0.trans hBs.out).trans lk.sub
 replace hsk := Shut.mk hsk
 cases e with
 | some q =>
  replace h4 := h4.out
  simp only at h4
  subst h4
  clear lk
  simp [gz, *]
  (focus repeat' first|refine ga ?_|(refine gb ?_;try simp[gz, *])|refine gk fun _ _=>?_|refine gc ?_ ?_|exact gr _|refine gi fun _=>?_|(refine gn ?_ ?_;focus(intros;simp[*];done)))
  refine ⟨_, ⟨_, rfl, ?_, _, rfl, rfl⟩, ?_, hsk.out.loc hb30 _⟩
  ·simp [Heap.set_get]
  ·simp [aresult, Heap.set_get]
 | none =>
  simp only
  by_cases hj : j = s.length
  ·subst hj
   replace h4 := h4.out
   simp only [if_true] at h4
   subst h4
   have n4b : ∀ q k e, tk = .own q k e → ¬ q = b4 := fun q k e q1 q2 => by
    subst q1 q2
    have this := hl.symm.trans htk
    cases this
   simp [gz, *]
   (focus repeat' first|refine ga ?_|(refine gb ?_;try simp[gz, *])|refine gk fun _ _=>?_)
   refine awp_region_draw [b4] [(0,true),(1,true),(2,true),(3,true),(4,true),(5,true),(6,true),(7,true),(8,true),(9,true),(12,true),(10,false),(11,false),(13,true)] [14] follows (by kernel_rfl) rfl (by kernel_rfl) ?_; simp [gz, Heap.plus_set, *]
   (focus repeat' first|refine ga ?_|(refine gb ?_;try simp[gz, *])|refine gk fun _ _=>?_)
   refine .inl ⟨by cases tk with
    | own b k e => exact ⟨n4b _ _ _ rfl, htk⟩
    | no => exact htk
    | nil => trivial
    | full => trivial, fun b' k' e' hb' => ?_⟩
   obtain ⟨HG, hHG⟩ : ∃ HG, (tk.rid (k.minus [b4])).set b' (.spare k' e') = HG := ⟨_, rfl⟩
   have hq3' : ¬ b3 = b' := fun e => by
    subst e
    rcases hb' with hb' | ⟨_, _, hb'⟩
    ·simp [Heap.minus_get, n34, hk3] at hb'
    ·subst hb'
     have := hk3.symm.trans htk
     cases this
   have ht3 : ∀ k1 e1, tk ≠ .own b3 k1 e1 := fun k1 e1 q => by rw [htf.out _ _ _ q] at hBb3; cases hBb3
   have hG3 : HG b3 = some (.cells Z28) := by rw [← hHG, grown_p hq3' ht3]; simp [Heap.minus_get, n34, hk3]
   have hGs : ∀ q y, h q = some y → ¬ q = b4 → HG q = some y := fun q y hq hq4 => by
    have hBq : Bb q = some y := hsub0 _ _ hq
    have hkq : k q = some y := hsk.out _ _ hq
    rw [← hHG, grown_p (fun e => by
     subst e
     rcases hb' with hb' | ⟨_, _, hb'⟩
     ·simp [Heap.minus_get, hq4, hkq] at hb'
     ·rw [htf.out _ _ _ hb'] at hBq; cases hBq) (fun k1 e1 q1 => by rw [htf.out _ _ _ q1] at hBq; cases hBq)]
    simp [Heap.minus_get, hq4, hkq]
   have hF : AL.Sub h ((HG.plus [b4] k).set b3 (.cells [.int .i64 0, .int .i64 0])) := fun q y hq => by
    have q3 : ¬ q = b3 := fun e => by rw [e, hb30] at hq; cases hq
    have q4 : ¬ q = b4 := fun e => by rw [e, hb40] at hq; cases hq
    simp [Heap.set_get, q3, q4, hGs q y hq q4]
   rw [hHG]
   clear hHG hb' htk hl
   replace hGs := Shut.mk hGs
   replace hF := Shut.mk hF
   simp [gz, *]
   intro hn
   try simp [Heap.set_get, *]
   (focus repeat' first|refine ga ?_|(refine gb ?_;try simp[gz, *])|refine gk fun _ _=>?_|refine gc ?_ ?_|exact gr _|refine gi fun _=>?_|(refine gn ?_ ?_;focus(intros;simp[*];done)))
   refine ⟨_, ⟨_, rfl, ?_, _, rfl, rfl⟩, ⟨.own b' k' e', ?_⟩, hF.out⟩
   ·simp [Heap.set_get]
   ·simp [aresult, Heap.set_get]
  ·have hjl : j < s.length := by omega
   replace h4 := h4.out
   simp only [if_neg hj] at h4
   rw [if_neg (by omega)] at h4
   have hji : ¬ (j : Int) = s.length := by omega
   have hol : ¬ (out.length : Int) = 65536 := by omega
   obtain ⟨x1, x2, x3, x4, x5, hnx⟩ := nextR_shape s j
   have hnl := nextR_le s j hjl
   rw [hnx] at h4 hnl
   simp only [avTok] at h4 hnl
   obtain ⟨z, hz⟩ : ∃ z, nextR s j = z := ⟨_, rfl⟩
   rw [hz] at h4 hnl hnx
   replace h4 := Shut.mk h4
   replace hnl := Shut.mk hnl
   clear hsk htk hk3
   have NEXT := @next_c
   simp [gz, *]
   (focus repeat' first|refine ga ?_|(refine gb ?_;try simp[gz, *])|refine gk fun _ _=>?_)
   refine next_c s j bb b4 hjl (by omega) _ _ h0q lk _ (fun k2 lk2 => ?_)
   rw [hz] at lk2 ⊢
   rw [hnx]
   clear lk hl hz hnx NEXT
   have hl := lk2.blk
   have hk3 := lk2.sub _ _ hq3
   have htk := tokIn_bk lk2.sub hno
   have hsk : AL.Sub h k2 := (hsub0.trans hBs.out).trans lk2.sub
   replace hsk := Shut.mk hsk
   have hb4 := hl
   have hb3 := hk3
   by_cases hx4 : x4 = 0
   ·replace h4 := h4.out
    simp only [hx4, if_true] at h4
    have hnl2 := hnl.out.2 hx4
    have hnl1 := hnl.out.1
    subst hx4
    replace h4 := Shut.mk h4
    simp [gz, *]
    (focus repeat' first|refine ga ?_|(refine gb ?_;try simp[gz, *])|refine gk fun _ _=>?_)
    intro b9 hb9; simp only [Fresh, Heap.set_none] at hb9; have n_b9_b4 := ne_of_fresh hb4 (b := b9) (by simp [*]); have n_b9_b3 := ne_of_fresh hb3 (b := b9) (by simp [*]); try simp [gz, *]
    have m94 : ¬ b9 = b4 := fun e => n_b9_b4 e.symm
    have m93 : ¬ b9 = b3 := fun e => n_b9_b3 e.symm
    (focus repeat' first|refine ga ?_|(refine gb ?_;try simp[gz, *])|refine gk fun _ _=>?_)
    intro b10 hb10
    simp only [Fresh, Heap.set_none] at hb10
    obtain ⟨n109', n109, hb10⟩ := hb10
    have n104 := ne_of_fresh hl hb10
    have n103 := ne_of_fresh hk3 hb10
    have m104 : ¬ b10 = b4 := fun e => n104 e.symm
    have m103 : ¬ b10 = b3 := fun e => n103 e.symm
    try simp [Heap.set_get, *]
    (focus repeat' first|refine ga ?_|(refine gb ?_;try simp[gz, *])|refine gk fun _ _=>?_)
    obtain ⟨H, hH⟩ : ∃ H, ((k2.set b9 (.cells [.int .i64 x1, .int .i64 0, .str x2, .int .i64 x3, .bool false])).set b10 (.cells [.int .i64 0, .int .i64 x5])) = H := ⟨_, rfl⟩
    have hH0 : ((((k2.set b9 (.cells [.int .i64 0, .int .i64 0, .str [], .int .i64 0, .bool false])).set b10 (.cells [.int .i64 0, .int .i64 0])).set b9 (.cells [.int .i64 x1, .int .i64 0, .str x2, .int .i64 x3, .bool false])).set b10 (.cells [.int .i64 0, .int .i64 x5])) = H := by
     rw [← hH]
     funext c
     by_cases e1 : c = b10
     ·subst e1; simp [Heap.set_get]
     ·by_cases e2 : c = b9
      ·subst e2; simp [Heap.set_get, e1]
      ·simp [Heap.set_get, e1, e2]
    refine awp_heap (fun x => x = H) hH0 (fun H' hx => ?_)
    subst hx
    have hH9 : H' b9 = some (.cells [.int .i64 x1, .int .i64 0, .str x2, .int .i64 x3, .bool false]) := by rw [← hH, Heap.set_other _ _ _ _ n109', Heap.set_same]
    have hH10 : H' b10 = some (.cells [.int .i64 0, .int .i64 x5]) := by rw [← hH, Heap.set_same]
    have hH3 : H' b3 = some (.cells Z28) := by rw [← hH, Heap.set_other _ _ _ _ n103, Heap.set_other _ _ _ _ n_b9_b3]; exact hk3
    have lk3 : Lx (Heap.bk Bb tk) H' s z.2 bb b4 := by rw [← hH]; exact (lk2.extra hb9 _).extra (by rw [Heap.set_other _ _ _ _ n109]; exact hb10) _
    have zb9 := lk2.isNone hb9
    clear hH0 hH lk2 hb9 hb10 hl hk3 hb3 hb4 htk hsk
    have hb4 := lk3.blk
    have htk := tokIn_bk lk3.sub hno
    have hsk : AL.Sub h H' := (hsub0.trans hBs.out).trans lk3.sub
    replace hsk := Shut.mk hsk
    have hl9 : ¬ b4 = b9 := n_b9_b4
    have lk4 := lk3.wr zb9 hl9 (.cells [.int .i64 x1, .int .i64 j, .str x2, .int .i64 x3, .bool bb])
    obtain ⟨H2, hH2⟩ : ∃ x, H'.set b9 (.cells [.int .i64 x1, .int .i64 j, .str x2, .int .i64 x3, .bool bb]) = x := ⟨_, rfl⟩
    rw [hH2] at lk4
    have hH29 : H2 b9 = some (.cells [.int .i64 x1, .int .i64 j, .str x2, .int .i64 x3, .bool bb]) := by rw [← hH2, Heap.set_same]
    refine awp_region_stores [b4] [0,1,2,3,5] [(4,true),(6,false)] [7,8] follows (by kernel_rfl) rfl (by kernel_rfl) ?_; simp [Heap.set_get, Heap.plus_set, evc_nil, evc_cons, estep, *]
    clear lk3 hb4 htk hH9 hH10 hH3 hH2
    have hb4 := lk4.blk
    have htk := tokIn_bk lk4.sub hno
    replace lk4 := Shut.mk lk4
    (focus repeat' first|refine ga ?_|(refine gb ?_;try simp[gz, *])|refine gk fun _ _=>?_)
    refine .inl ⟨htk, fun b' k' e' hb' => ?_⟩
    obtain ⟨lk5, hBb'⟩ := lk4.out.growK htf.out (k := k') (e := e') hb'
    obtain ⟨HG, hHG⟩ : ∃ HG, (tk.rid H2).set b' (.spare k' e') = HG := ⟨_, rfl⟩
    rw [hHG] at lk5 ⊢
    have hGb : HG b' = some (.spare k' e') := by rw [← hHG, Heap.set_same]
    clear hHG hb' htk hb4 hH29
    have hb4 := lk5.blk
    have lk6 := lk5.put z.2 false
    have hGb2 : ¬ b' = b4 := fun e => by rw [e, hb4] at hGb; cases hGb
    replace lk5 := Shut.mk lk5
    replace lk6 := Shut.mk lk6
    simp [gz, *]
    (focus repeat' first|refine ga ?_|(refine gb ?_;try simp[gz, *])|refine gk fun _ _=>?_)
    exact ⟨by kernel_rfl, rfl, p, _, by omega, Sub.refl _, z.2, false, out ++ [⟨x1, j, x2, x3, bb⟩], .own b' k' e', hnl1, by omega, h4.out, by simp only [List.length_append, List.length_singleton]; omega, by simp, by simp [TokIn, Heap.set_get, hGb, hGb2], fun b2 k2 e2 q1 => by injection q1 with q1; subst q1; exact hBb', lk6.out⟩
   ·replace h4 := h4.out
    simp only [hx4, if_false] at h4
    subst h4
    simp [gz, *]
    (focus repeat' first|refine ga ?_|(refine gb ?_;try simp[gz, *])|refine gk fun _ _=>?_)
    intro b9 hb9; simp only [Fresh, Heap.set_none] at hb9; have n_b9_b4 := ne_of_fresh hb4 (b := b9) (by simp [*]); have n_b9_b3 := ne_of_fresh hb3 (b := b9) (by simp [*]); try simp [gz, *]
    have m94 : ¬ b9 = b4 := fun e => n_b9_b4 e.symm
    have m93 : ¬ b9 = b3 := fun e => n_b9_b3 e.symm
    (focus repeat' first|refine ga ?_|(refine gb ?_;try simp[gz, *])|refine gk fun _ _=>?_)
    intro b10 hb10
    simp only [Fresh, Heap.set_none] at hb10
    obtain ⟨n109', n109, hb10⟩ := hb10
    have n104 := ne_of_fresh hl hb10
    have n103 := ne_of_fresh hk3 hb10
    have m104 : ¬ b10 = b4 := fun e => n104 e.symm
    have m103 : ¬ b10 = b3 := fun e => n103 e.symm
    try simp [Heap.set_get, *]
    (focus repeat' first|refine ga ?_|(refine gb ?_;try simp[gz, *])|refine gk fun _ _=>?_)
    obtain ⟨H, hH⟩ : ∃ H, ((k2.set b9 (.cells [.int .i64 x1, .int .i64 0, .str x2, .int .i64 x3, .bool false])).set b10 (.cells [.int .i64 x4, .int .i64 x5])) = H := ⟨_, rfl⟩
    have hH0 : ((((k2.set b9 (.cells [.int .i64 0, .int .i64 0, .str [], .int .i64 0, .bool false])).set b10 (.cells [.int .i64 0, .int .i64 0])).set b9 (.cells [.int .i64 x1, .int .i64 0, .str x2, .int .i64 x3, .bool false])).set b10 (.cells [.int .i64 x4, .int .i64 x5])) = H := by
     rw [← hH]
     funext c
     by_cases e1 : c = b10
     ·subst e1; simp [Heap.set_get]
     ·by_cases e2 : c = b9
      ·subst e2; simp [Heap.set_get, e1]
      ·simp [Heap.set_get, e1, e2]
    refine awp_heap (fun x => x = H) hH0 (fun H' hx => ?_)
    subst hx
    have hH9 : H' b9 = some (.cells [.int .i64 x1, .int .i64 0, .str x2, .int .i64 x3, .bool false]) := by rw [← hH, Heap.set_other _ _ _ _ n109', Heap.set_same]
    have hH10 : H' b10 = some (.cells [.int .i64 x4, .int .i64 x5]) := by rw [← hH, Heap.set_same]
    have hH3 : H' b3 = some (.cells Z28) := by rw [← hH, Heap.set_other _ _ _ _ n103, Heap.set_other _ _ _ _ n_b9_b3]; exact hk3
    have lk3 : Lx (Heap.bk Bb tk) H' s z.2 bb b4 := by rw [← hH]; exact (lk2.extra hb9 _).extra (by rw [Heap.set_other _ _ _ _ n109]; exact hb10) _
    have zb9 := lk2.isNone hb9
    clear hH0 hH lk2 hb9 hb10 hl hk3 hb3 hb4 htk hsk
    have hb4 := lk3.blk
    have htk := tokIn_bk lk3.sub hno
    have hsk : AL.Sub h H' := (hsub0.trans hBs.out).trans lk3.sub
    replace hsk := Shut.mk hsk
    refine awp_region_stores [b10] [1] [] [0,2] follows (by kernel_rfl) rfl (by kernel_rfl) ?_; simp [Heap.set_get, Heap.plus_set, evc_nil, evc_cons, estep, *]
    (focus repeat' first|refine ga ?_|(refine gb ?_;try simp[gz, *])|refine gk fun _ _=>?_|refine gc ?_ ?_|exact gr _|refine gi fun _=>?_|(refine gn ?_ ?_;focus(intros;simp[*];done)))
    refine ⟨_, ⟨_, rfl, ?_, _, rfl, rfl⟩, ?_, hsk.out.loc hb30 _⟩
    ·simp [Heap.set_get]
    ·simp [aresult, Heap.set_get]
end Go.Proofs.YtcbgpjlcfkkdlaaGreatDoor

namespace Go.Proofs.YtcbgpjlcfkkdlaaGreatDoor
open Go Go.AL Go.Proofs
theorem assign_split : Lib.split assignB [32] = assignW := by decide +kernel
theorem isAssign_eq (x : List UInt8) : amongL x assignB = isAssign x := by
 unfold amongL isAssign
 rw [assign_split, Bool.eq_iff_iff]
 simp
theorem Own.minus {B H : Heap} {T : List Tk} {tt : Tok} {S : St} {r : Nat} {t1 t2 : Tok} {b : Nat} {x : Blk} (ho : Own (B.set b x) H T tt S r t1 t2) (hb : B b = none) : Own B (H.minus [b]) T tt S r t1 t2 := by
 have hn : ∀ q, (B.set b x) q = none → ¬ q = b ∧ B q = none := fun q h1 => by
  have h2 : ¬ q = b := fun e => by rw [e, Heap.set_same] at h1; cases h1
  exact ⟨h2, by rwa [Heap.set_other _ _ _ _ h2] at h1⟩
 have hk : ∀ t : Tok, TokIn H t → (∀ q k e, t = .own q k e → (B.set b x) q = none) → TokIn (H.minus [b]) t := fun t ht hq => by
  cases t with
  | own q k e =>
   have h1 : H q = some (.spare k e) := ht
   have h2 := (hn q (hq _ _ _ rfl)).1
   simp [TokIn, h2, h1]
  | no => exact ht.elim
  | nil => trivial
  | full => trivial
 have hrb := (hn r ho.free).1
 refine ⟨fun c y hc => ?_, (hn r ho.free).2, by simp [hrb, ho.blk], hk _ ho.tk1 ho.fr1, hk _ ho.tk2 ho.fr2, fun q k e q1 => (hn q (ho.fr1 _ _ _ q1)).2, fun q k e q1 => (hn q (ho.fr2 _ _ _ q1)).2, ho.ap⟩
 have h1 : ¬ c = b := fun e => by rw [e, hb] at hc; cases hc
 have h2 := ho.sub c y (by rw [Heap.set_other _ _ _ _ h1]; exact hc)
 simp [h1, h2]
end Go.Proofs.YtcbgpjlcfkkdlaaGreatDoor

namespace Go.Proofs.YtcbgpjlcfkkdlaaGreatDoor
open Go Go.AL Go.Proofs
theorem Rd.w1 {T : List Tk} {S : St} (hv : Rd T S) : IntKind.i64.wrap ((S.idx : Int) + 1) = (S.idx : Int) + 1 := by
 have h1 := hv.top
 have h2 := hv.len
 exact w64 (by omega) (by omega)
theorem InK.one {S : St} {k : Int} (h : 0 ≤ k → k < S.nodes.length) : InK S [k] := InK.cons h InK.nil
theorem InK.neg {S : St} : InK S [-1] := InK.one fun h => absurd h (by decide)
theorem someLoop_len (T : List Tk) (stop : List UInt8) : ∀ n kids S l S', run T n (.someLoop stop kids) S = some (l, S') → l.length ≤ kids.length + n
 | 0, _, _, _, _, h => by simp [run] at h
 | n + 1, kids, S, l, S', h => by
  simp only [run] at h
  by_cases hc : S.fc = 0 ∧ isL T stop S = false
  ·rw [if_pos hc, Option.bind_eq_some_iff] at h
   obtain ⟨⟨l1, S1⟩, -, h2⟩ := h
   dsimp only at h2
   cases h4 : isL T [44] S1
   ·rw [h4, if_neg (by decide)] at h2
    simp only [Option.some.injEq, Prod.mk.injEq] at h2
    rw [← h2.1]
    simp only [List.length_append, List.length_singleton]
    omega
   ·rw [h4, if_pos rfl] at h2
    have := someLoop_len T stop n _ _ _ _ h2
    simp only [List.length_append, List.length_singleton] at this
    omega
  ·rw [if_neg hc] at h
   simp only [Option.some.injEq, Prod.mk.injEq] at h
   rw [← h.1]
   omega
theorem some_len {T : List Tk} {stop : List UInt8} {n : Nat} {S : St} {l : List Int} {S' : St} (h : run T n (.some stop) S = some (l, S')) : l.length ≤ n := by
 cases n with
 | zero => simp [run] at h
 | succ n =>
  simp only [run, Option.map_eq_some_iff] at h
  obtain ⟨⟨l1, S1⟩, h1, h2⟩ := h
  simp only [Prod.mk.injEq] at h2
  have := someLoop_len T stop n _ _ _ _ h1
  rw [← h2.1]
  simp only [List.length_nil] at this
  omega
theorem minus_minus {h : Heap} {a b : Nat} : (h.minus [b]).minus [a] = h.minus [a, b] := by
 funext c
 by_cases h1 : c = a
 ·subst h1; simp
 ·by_cases h2 : c = b
  ·subst h2; simp [h1]
  ·simp [h1, h2]
theorem minus_of_none {k H : Heap} {G : List Nat} (h : ∀ b ∈ G, k b = none) : (k.plus G H).minus G = k := by
 funext c
 by_cases e : c ∈ G
 ·simp [e, h c e]
 ·simp [e]
theorem Weak.strs {a b : List UInt8} (h : a = b) : Weak (.str a) (.str b) := h ▸ Weak.refl _
theorem Weak.ints {a b : Int} (h : a = b) : Weak (.int .i64 a) (.int .i64 b) := h ▸ Weak.refl _
def Short (T : List Tk) : Prop := ∀ t ∈ T, t.text.length ≤ 1000000
theorem name_len {T : List Tk} (hs : Short T) (S : St) : (nameR T S).1.length ≤ 1000000 := by
 have hd : ∀ i, (T.getD i default).text.length ≤ 1000000 := fun i => by
  by_cases hi : i < T.length
  ·simp only [List.getD, List.getElem?_eq_getElem hi, Option.getD_some]
   exact hs _ (List.getElem_mem hi)
  ·simp only [List.getD, List.getElem?_eq_none (Nat.not_lt.1 hi), Option.getD_none]
   show ([] : List UInt8).length ≤ _
   simp
 unfold nameR
 split
 ·show (peekL T S).text.length ≤ _
  unfold peekL
  split
  ·exact hd _
  ·exact hd _
 ·simp
def faultL (e a : Int) (S : St) : St := { S with fc := e, fa := a }
theorem goes_fault {T : List Tk} {S : St} (hg : Good T S) (e a : Int) (he : ¬ e = 0) : Goes T S (faultL e a S) := goes_same ⟨fun h => absurd h he, hg.rd.top, hg.rd.len, hg.rd.ne, hg.rd.nl, hg.rd.last⟩ hg rfl rfl
theorem goes_down_step {T : List Tk} {S : St} (hg : Good T S) (hk : ¬ (peekL T S).kind = 6) : Goes T (downL T S) (stepL (downL T S)) := by
 have h1 := hg.rd.step hk
 have hp := h1.2.pos
 have h2 : S.idx + 1 < T.length := h1.2.pos h1.1
 have hd : (downL T S).idx = S.idx := by
  unfold downL
  simp only
  split
  ·unfold wrongL; split <;> rfl
  ·rfl
 have gd := (goes_down hg).good
 exact goes_same ⟨fun _ => by show (downL T S).idx + 1 < T.length; rw [hd]; exact h2, by show (downL T S).idx + 1 ≤ T.length; rw [hd]; omega, gd.rd.len, gd.rd.ne, gd.rd.nl, gd.rd.last⟩ gd rfl rfl
theorem Weak.toks {sz : Nat} {a b : List (List AV)} {t : Tok} (h : a = b) : Weak (.list sz a t) (.list sz b .no) := h ▸ Weak.tok _ _ _
theorem goes_wrong_step {T : List Tk} {S : St} (hg : Good T S) (hf : S.fc = 0) (e : Int) (he : ¬ e = 0) : Goes T (wrongL T e S) (stepL (wrongL T e S)) := by
 have hp := hg.rd.pos hf
 have h1 := (goes_wrong hg he).good
 have hw : wrongL T e S = { S with fc := e, fa := (peekL T S).pos } := by unfold wrongL; rw [if_pos hf]
 have hi : (wrongL T e S).idx = S.idx := by rw [hw]
 have hc : (wrongL T e S).fc = e := by rw [hw]
 exact goes_same ⟨fun h => absurd (hc ▸ h) he, by show (wrongL T e S).idx + 1 ≤ T.length; rw [hi]; omega, h1.rd.len, h1.rd.ne, h1.rd.nl, h1.rd.last⟩ h1 rfl rfl
theorem Own.setB {B h : Heap} {T : List Tk} {tt : Tok} {S : St} {r : Nat} {t1 t2 : Tok} {b : Nat} {x : Blk} (ho : Own (B.set b x) h T tt S r t1 t2) (hb : B b = none) (y : Blk) : Own (B.set b y) (h.set b y) T tt S r t1 t2 := by
 have hn : ∀ q, (B.set b x) q = none → ¬ q = b ∧ B q = none := fun q h1 => by
  have h2 : ¬ q = b := fun e => by rw [e, Heap.set_same] at h1; cases h1
  exact ⟨h2, by rwa [Heap.set_other _ _ _ _ h2] at h1⟩
 have hy : ∀ q, (B.set b x) q = none → (B.set b y) q = none := fun q h1 => by rw [Heap.set_other _ _ _ _ (hn q h1).1]; exact (hn q h1).2
 refine ⟨fun c z hc => ?_, hy _ ho.free, by rw [Heap.set_other _ _ _ _ (hn r ho.free).1]; exact ho.blk, tokIn_set ho.tk1 (fun q k e q1 => (hn q (ho.fr1 _ _ _ q1)).1), tokIn_set ho.tk2 (fun q k e q1 => (hn q (ho.fr2 _ _ _ q1)).1), fun q k e q1 => hy _ (ho.fr1 _ _ _ q1), fun q k e q1 => hy _ (ho.fr2 _ _ _ q1), ho.ap⟩
 by_cases e1 : c = b
 ·subst e1
  rw [Heap.set_same] at hc ⊢
  exact hc
 ·rw [Heap.set_other _ _ _ _ e1] at hc ⊢
  exact ho.sub c z (by rw [Heap.set_other _ _ _ _ e1]; exact hc)
theorem Own.del {B H : Heap} {T : List Tk} {tt : Tok} {S : St} {r : Nat} {t1 t2 : Tok} {b : Nat} {x : Blk} (ho : Own (B.set b x) H T tt S r t1 t2) (hb : B b = none) : Own B (H.del b) T tt S r t1 t2 := by
 have h1 : H.del b = H.minus [b] := by
  funext c
  by_cases e : c = b
  ·subst e; simp [Heap.del]
  ·simp [Heap.del, e]
 rw [h1]
 exact ho.minus hb
end Go.Proofs.YtcbgpjlcfkkdlaaGreatDoor

namespace Go.Proofs.YtcbgpjlcfkkdlaaGreatDoor
open Go Go.AL Go.Proofs
theorem step_split : Lib.split stepB [32] = stepW := by decide +kernel
theorem isStep_eq (x : List UInt8) : amongL x stepB = isStep x := by
 unfold amongL isStep
 rw [step_split, Bool.eq_iff_iff]
 simp
theorem unary_split : Lib.split [45, 32, 33, 32, 126, 32, 116, 121, 112, 101, 111, 102, 32, 99, 108, 111, 110, 101, 32, 114, 101, 115, 117, 109, 101, 32, 100, 101, 108, 101, 116, 101] [32] = unaryW := by decide +kernel
theorem isUnary_eq (x : List UInt8) : amongL x [45, 32, 33, 32, 126, 32, 116, 121, 112, 101, 111, 102, 32, 99, 108, 111, 110, 101, 32, 114, 101, 115, 117, 109, 101, 32, 100, 101, 108, 101, 116, 101] = isUnary x := by
 unfold amongL isUnary
 rw [unary_split, Bool.eq_iff_iff]
 simp
theorem levels_split : linesB.map (fun l => Lib.split l [32]) = levelsW := by decide +kernel
theorem level_eq (x : List UInt8) : levelL x = levelW x := by
 unfold levelL levelW
 rw [← levels_split, List.findIdx?_map]
 have : (fun l => decide (x ∈ Lib.split l [32])) = (fun l : List (List UInt8) => l.contains x) ∘ fun l => Lib.split l [32] := by
  funext l
  simp [Function.comp, Bool.eq_iff_iff]
 rw [this]
 rfl
theorem step_not {x : List UInt8} (h : isStep x = true) : isUnary x = false ∧ decide (x = [100, 101, 108, 101, 116, 101]) = false := by
 unfold isStep stepW at h
 simp only [List.contains_cons, List.contains_nil, Bool.or_false, Bool.or_eq_true, beq_iff_eq] at h
 rcases h with rfl | rfl <;> decide
theorem Neg_c (a : Int) (h : Heap) (R : AV → Heap → Prop) (hR : R (.int .i64 (IntKind.i64.wrap (-a))) h) : ACalls Tryz.prog 122 [.int .i64 a] h R := by
 refine ACalls.pure ?_ hR
 clear hR
 refine acalls_of Tryz.func122 rfl Tryz.ntmps122 (congrArg Array.toList Tryz.results122) fun Q hQ => ?_
 (focus repeat' first|refine ga ?_|(refine gb ?_;try simp[gz, *])|refine gk fun _ _=>?_|refine gc ?_ ?_|exact gr _|refine gi fun _=>?_|(refine gn ?_ ?_;focus(intros;simp[*];done)))
theorem NumAdd_c (a b : Int) (h : Heap) (R : AV → Heap → Prop) (hR : R (.int .i64 (IntKind.i64.wrap (a + b))) h) : ACalls Tryz.prog 123 [.int .i64 a, .int .i64 b] h R := by
 refine ACalls.pure ?_ hR
 clear hR
 refine acalls_of Tryz.func123 rfl Tryz.ntmps123 (congrArg Array.toList Tryz.results123) fun Q hQ => ?_
 (focus repeat' first|refine ga ?_|(refine gb ?_;try simp[gz, *])|refine gk fun _ _=>?_|refine gc ?_ ?_|exact gr _|refine gi fun _=>?_|(refine gn ?_ ?_;focus(intros;simp[*];done)))
end Go.Proofs.YtcbgpjlcfkkdlaaGreatDoor

namespace Go.Proofs.YtcbgpjlcfkkdlaaGreatDoor
open Go Go.AL Go.Proofs
structure Sh (p : Prop) : Prop where
 out : p
structure Cur (B0 B h : Heap) (T : List Tk) (tt : Tok) (S0 S : St) (r : Nat) (t1 t2 : Tok) (vs : List Int) : Prop where
 own : Own B h T tt S r t1 t2
 sb : AL.Sub B0 B
 g0 : B0 0 = some .gint
 good : Good T S
 len : S0.nodes.length ≤ S.nodes.length
 ink : InK S vs
def Meth (T : List Tk) (tt : Tok) (n : Nat) (op : Op) : Prop := ∀ f mk, methOf op = some (f, mk) → ∀ S l S', Sh (run T n op S = some (l, S')) → ∀ r t1 t2 B h, Cur B B h T tt S S r t1 t2 [] → ∀ R : AV → Heap → Prop,
 Sh (∀ g u1 u2, Cur B B g T tt S S' r u1 u2 (resK op l) → R (resOf op l) g) → ACalls Tryz.prog f (.ptr r 0 :: mk) h R
theorem InK.of {S : St} {vs ws : List Int} (h : InK S vs) (hw : ∀ y ∈ ws, y = -1 ∨ y ∈ vs) : InK S ws := fun k hk h0 => by
 rcases hw k hk with e | e
 ·omega
 ·exact h k e h0
section
variable {B0 B h : Heap} {T : List Tk} {tt : Tok} {S0 S : St} {r : Nat} {t1 t2 : Tok} {vs : List Int} {R : AV → Heap → Prop}
theorem Cur.go {S1 : St} {g : Heap} {u1 u2 : Tok} (o : Cur B0 B h T tt S0 S r t1 t2 vs) (q : Goes T S S1) (w : Own B g T tt S1 r u1 u2) : Cur B0 B g T tt S0 S1 r u1 u2 vs := ⟨w, o.sb, o.g0, q.good, Nat.le_trans o.len q.len, o.ink.mono q.len⟩
theorem Cur.must (o : Cur B0 B h T tt S0 S r t1 t2 vs) (x : List UInt8) (k : ∀ g S1, mustL T x S = S1 → Cur B0 B g T tt S0 S1 r t1 t2 vs → g r = some (.cells (rdRow T tt S1 t1 t2)) → R (.tup []) g) : ACalls Tryz.prog 84 [.ptr r 0, .str x] h R :=
 must_c x T tt S t1 t2 r o.good.rd B h o.own R fun g w => k g _ rfl (o.go (goes_must o.good x) w) w.blk
theorem Cur.down (o : Cur B0 B h T tt S0 S r t1 t2 vs) (k : ∀ g S1, downL T S = S1 → Cur B0 B g T tt S0 S1 r t1 t2 vs → g r = some (.cells (rdRow T tt S1 t1 t2)) → R (.tup []) g) : ACalls Tryz.prog 43 [.ptr r 0] h R :=
 down_c T tt S t1 t2 r o.good.rd B h o.own R fun g w => k g _ rfl (o.go (goes_down o.good) w) w.blk
theorem Cur.up (o : Cur B0 B h T tt S0 S r t1 t2 vs) (k : ∀ g S1, upL S = S1 → Cur B0 B g T tt S0 S1 r t1 t2 vs → g r = some (.cells (rdRow T tt S1 t1 t2)) → R (.tup []) g) : ACalls Tryz.prog 44 [.ptr r 0] h R :=
 up_c T tt S t1 t2 r B h o.own R fun g w => k g _ rfl (o.go (goes_up o.good) w) w.blk
theorem Cur.wrong (o : Cur B0 B h T tt S0 S r t1 t2 vs) (e : Int) (k : ∀ g S1, wrongL T e S = S1 → Cur B0 B g T tt S0 S1 r t1 t2 vs → g r = some (.cells (rdRow T tt S1 t1 t2)) → R (.tup []) g) (he : ¬ e = 0 := by decide) : ACalls Tryz.prog 52 [.ptr r 0, .int .i64 e] h R :=
 wrong_c e T tt S t1 t2 r o.good.rd B h o.own R fun g w => k g _ rfl (o.go (goes_wrong o.good he) w) w.blk
theorem Cur.fend (o : Cur B0 B h T tt S0 S r t1 t2 vs) (k : ∀ g S1, endL T S = S1 → Cur B0 B g T tt S0 S1 r t1 t2 vs → g r = some (.cells (rdRow T tt S1 t1 t2)) → R (.tup []) g) : ACalls Tryz.prog 50 [.ptr r 0] h R :=
 end_c T tt S t1 t2 r o.good.rd B h o.own R fun g w => k g _ rfl (o.go (goes_end o.good) w) w.blk
theorem Cur.name (o : Cur B0 B h T tt S0 S r t1 t2 vs) (k : ∀ g x S1, nameR T S = (x, S1) → Cur B0 B g T tt S0 S1 r t1 t2 vs → g r = some (.cells (rdRow T tt S1 t1 t2)) → R (.str x) g) : ACalls Tryz.prog 83 [.ptr r 0] h R :=
 name_c' T tt S t1 t2 r o.good.rd B h o.own R fun g w => k g _ _ rfl (o.go (goes_name o.good) w) w.blk
theorem Cur.ok (o : Cur B0 B h T tt S0 S r t1 t2 vs) (k : R (.bool (decide (S.fc = 0))) h) : ACalls Tryz.prog 20 [.ptr r 0] h R := ok_c T tt S t1 t2 r h o.own.blk R k
theorem Cur.is (o : Cur B0 B h T tt S0 S r t1 t2 vs) (x : List UInt8) (k : R (.bool (isL T x S)) h) : ACalls Tryz.prog 46 [.ptr r 0, .str x] h R := is_c x T tt S t1 t2 r o.good.rd h o.own.blk R k
theorem Cur.ends (o : Cur B0 B h T tt S0 S r t1 t2 vs) (k : R (.bool (endsL T S)) h) : ACalls Tryz.prog 81 [.ptr r 0] h R := ends_c T tt S t1 t2 r o.good.rd h o.own.blk R k
theorem Cur.kind (o : Cur B0 B h T tt S0 S r t1 t2 vs) (i : Int) (k : R (.int .i64 (kindL S i)) h) : ACalls Tryz.prog 89 [.ptr r 0, .int .i64 i] h R := kind_c T tt S t1 t2 r i o.good.rd h o.own.blk R k
theorem Cur.peek {t : Tk} (o : Cur B0 B h T tt S0 S r t1 t2 vs) (e : Sh (peekL T S = t)) (k : R (.agg (tkRow t)) h) : ACalls Tryz.prog 21 [.ptr r 0] h R := peek_c T tt S t1 t2 r o.good.rd h o.own.blk R (e.out ▸ k)
theorem target_k {S : St} {i : Int} {b : Bool} (e : isTarget (kindL S i) = b) (k : R (.bool b) h) : ACalls Tryz.prog 88 [.int .i64 (kindL S i)] h R := Target_c (kindL S i) h R (by rw [show (decide (kindL S i = 6) || decide (kindL S i = 8) || decide (kindL S i = 14) || decide (kindL S i = 15)) = isTarget (kindL S i) from rfl, e]; exact k)
theorem Cur.eat (o : Cur B0 B h T tt S0 S r t1 t2 vs) (x : List UInt8) (f : isL T x S = false → ∀ g, Cur B0 B g T tt S0 S r t1 t2 vs → g r = some (.cells (rdRow T tt S t1 t2)) → R (.bool false) g)
  (t : isL T x S = true → ∀ g S1, stepL S = S1 → Sh (S1.fc = 0) → Cur B0 B g T tt S0 S1 r t1 t2 vs → g r = some (.cells (rdRow T tt S1 t1 t2)) → R (.bool true) g) : ACalls Tryz.prog 48 [.ptr r 0, .str x] h R :=
 eat_c x T tt S t1 t2 r o.good.rd B h o.own R fun g w => by
  cases c : isL T x S
  ·have e : eatL T x S = (false, S) := by unfold eatL; rw [c]; rfl
   rw [e] at w ⊢
   exact f c g (o.go (.refl o.good) w) w.blk
  ·have e : eatL T x S = (true, stepL S) := by unfold eatL; rw [c]; rfl
   rw [e] at w ⊢
   exact t c g _ rfl ⟨(o.good.rd.step (isL_kind c)).1⟩ (o.go (goes_is o.good c) w) w.blk
theorem Cur.stepped (o : Cur B0 B h T tt S0 S r t1 t2 vs) (k6 : ¬ (peekL T S).kind = 6) : Cur B0 B (h.set r (.cells (rdRow T tt (stepL S) t1 t2))) T tt S0 (stepL S) r t1 t2 vs := o.go (goes_step o.good k6) (o.own.put _)
theorem Cur.put {S1 : St} (o : Cur B0 B h T tt S0 S r t1 t2 vs) (q : Goes T S S1) : Cur B0 B (h.set r (.cells (rdRow T tt S1 t1 t2))) T tt S0 S1 r t1 t2 vs := o.go q (o.own.put _)
theorem Cur.settle {P : Program} {f : FuncId} {a : List AV} (o : Cur B0 B h T tt S0 S r t1 t2 vs) (k : ∀ g, Cur B0 B g T tt S0 S r t1 t2 vs → g r = some (.cells (rdRow T tt S t1 t2)) → ACalls P f a g R) : ACalls P f a h R := k h o o.own.blk
theorem Cur.settleA {P : Program} {c : Code} {Q : APostT} {α : AAct} (o : Cur B0 B h T tt S0 S r t1 t2 vs) (k : ∀ g, Cur B0 B g T tt S0 S r t1 t2 vs → g r = some (.cells (rdRow T tt S t1 t2)) → awp P c Q α g) : awp P c Q α h := k h o o.own.blk
theorem Cur.y {b : Nat} (o : Cur B0 B h T tt S0 S r t1 t2 vs) (z : h b = none) : B b = none ∧ AL.Sub B0 B := ⟨o.own.isNone z, o.sb⟩
theorem Cur.new {b : Nat} (o : Cur B0 B h T tt S0 S r t1 t2 vs) (z : h b = none) (x : Blk) : Cur B0 (B.set b x) (h.set b x) T tt S0 S r t1 t2 vs := ⟨o.own.new z x, o.sb.trans ((Sub.refl B).loc (o.own.isNone z) x), o.g0, o.good, o.len, o.ink⟩
theorem Cur.ne {b : Nat} (o : Cur B0 B h T tt S0 S r t1 t2 vs) (z : h b = none) : ¬ r = b ∧ ¬ b = r := ⟨fun e => (by rw [← e, o.own.blk] at z; cases z), fun e => (by rw [e, o.own.blk] at z; cases z)⟩
theorem Cur.b1 {b : Nat} {x : Blk} (o : Cur B0 (B.set b x) h T tt S0 S r t1 t2 vs) : h b = some x := o.own.sub _ _ (Heap.set_same _ _ _)
theorem Cur.b2 {b c : Nat} {x y : Blk} (o : Cur B0 ((B.set b x).set c y) h T tt S0 S r t1 t2 vs) (n : ¬ b = c) : h b = some x := o.own.sub _ _ (by rw [Heap.set_other _ _ _ _ n, Heap.set_same])
theorem Cur.i0 (o : Cur B0 B h T tt S0 S r t1 t2 vs) : h 0 = some .gint := o.own.sub _ _ (o.sb _ _ o.g0)
theorem Cur.add {k' p' n' : Int} {x' : List UInt8} {rows : List (List AV)} {tk : Tok} (o : Cur B0 B h T tt S0 S r t1 t2 vs) (kind pos : Int) (x : List UInt8) (n : Int) (ks : List Int)
  (k : ∀ g u1 u2 v S1, addL T kind pos x n ks S = (v, S1) → Cur B0 B g T tt S0 S1 r u1 u2 (v :: vs) → g r = some (.cells (rdRow T tt S1 u1 u2)) → R (.int .i64 v) g)
  (hk : ∀ y ∈ ks, y = -1 ∨ y ∈ vs := by first | (simp; done) | grind) (hl : ks.length ≤ 281474976710 := by simp) (e1 : k' = kind := by rfl) (e2 : p' = pos := by rfl) (e3 : x' = x := by first | rfl | simp) (e4 : n' = n := by first | rfl | simp) (e5 : rows = ints ks := by first | rfl | simp) :
  ACalls Tryz.prog 23 [.ptr r 0, .int .i64 k', .int .i64 p', .str x', .int .i64 n', .list 1 rows tk] h R := by
 subst e1 e2 e3 e4
 refine ACalls.weak (ys := [.ptr r 0, .int .i64 k', .int .i64 p', .str x', .int .i64 n', .list 1 (ints ks) .no]) (.cons (Weak.refl _) (.cons (Weak.refl _) (.cons (Weak.refl _) (.cons (Weak.refl _) (.cons (Weak.refl _) (.cons (Weak.toks e5) .nil)))))) ?_
 have g := goes_add o.good k' p' x' n' ks
 have hi := o.ink.of hk
 refine add_c k' p' x' n' ks T tt S t1 t2 r o.good.rd o.good.dl (InK.kids o.good hi) hl B h o.own R fun m u1 u2 w => ?_
 refine k m u1 u2 _ _ rfl ⟨w, o.sb, o.g0, g.1.good, Nat.le_trans o.len g.1.len, fun y hy h0 => ?_⟩ w.blk
 rcases List.mem_cons.1 hy with e | e
 ·exact InK.one g.2 y (by rw [e]; exact List.mem_singleton.2 rfl) h0
 ·exact o.ink.mono g.1.len y e h0
theorem Cur.fin {ws : List Int} (o : Cur B0 B h T tt S0 S r t1 t2 vs) (hw : ∀ y ∈ ws, y = -1 ∨ y ∈ vs := by first | (simp [resK, fst0]; done) | (simp [resK]; grind) | grind) : Cur B0 B0 h T tt S0 S r t1 t2 ws := ⟨o.own.weak o.sb, Sub.refl _, o.g0, o.good, o.len, o.ink.of hw⟩
theorem Cur.at_ {op : Op} {m : Nat} {f : FuncId} {mk : List AV} {l : List Int} {S1 : St} (o : Cur B0 B h T tt S0 S r t1 t2 vs) (ih : Meth T tt m op) (h1 : Sh (run T m op S = some (l, S1)))
  (k : ∀ g u1 u2, Cur B0 B g T tt S0 S1 r u1 u2 (resK op l ++ vs) → g r = some (.cells (rdRow T tt S1 u1 u2)) → R (resOf op l) g) (hf : methOf op = some (f, mk) := by rfl) : ACalls Tryz.prog f (.ptr r 0 :: mk) h R :=
 ih f mk hf S l S1 h1 r t1 t2 B h ⟨o.own, Sub.refl _, o.sb _ _ o.g0, o.good, Nat.le_refl _, fun _ h => by cases h⟩ R ⟨fun g u1 u2 w => k g u1 u2 ⟨w.own, o.sb, o.g0, w.good, Nat.le_trans o.len w.len, w.ink.append (o.ink.mono w.len)⟩ w.own.blk⟩
theorem Cur.call {op : Op} {m : Nat} {f : FuncId} {mk : List AV} {l : List Int} {S1 : St} (o : Cur B0 B h T tt S0 S r t1 t2 vs) (ih : Meth T tt m op) (h1 : Sh (run T m op S = some (l, S1)))
  (k : ∀ g u1 u2 v, fst0 l = v → Cur B0 B g T tt S0 S1 r u1 u2 (v :: vs) → g r = some (.cells (rdRow T tt S1 u1 u2)) → R (.int .i64 v) g) (hf : methOf op = some (f, mk) := by rfl) (hk : resK op l = [fst0 l] := by rfl) (hr : resOf op l = .int .i64 (fst0 l) := by rfl) : ACalls Tryz.prog f (.ptr r 0 :: mk) h R :=
 o.at_ ih h1 (fun g u1 u2 w q => hr ▸ k g u1 u2 _ rfl (by rw [hk] at w; exact w) q) hf
theorem Cur.tail {op : Op} {m : Nat} {f : FuncId} {mk : List AV} {l : List Int} {S1 : St} (o : Cur B0 B h T tt S0 S r t1 t2 vs) (ih : Meth T tt m op) (h1 : Sh (run T m op S = some (l, S1)))
  (k : ∀ g u1 u2, Cur B0 B g T tt S0 S1 r u1 u2 [fst0 l] → g r = some (.cells (rdRow T tt S1 u1 u2)) → R (.int .i64 (fst0 l)) g) (hf : methOf op = some (f, mk) := by rfl) (hk : resK op l = [fst0 l] := by rfl) (hr : resOf op l = .int .i64 (fst0 l) := by rfl) : ACalls Tryz.prog f (.ptr r 0 :: mk) h R :=
 o.at_ ih h1 (fun g u1 u2 w q => hr ▸ k g u1 u2 ⟨w.own, w.sb, w.g0, w.good, w.len, fun y hy h0 => w.ink y (List.mem_append_left _ (hk ▸ hy)) h0⟩ q) hf
end
theorem bo {α β : Type} {x : Option α} {f : α → Option β} {y : β} (h : Sh (x.bind f = some y)) : ∃ a, Sh (x = some a) ∧ Sh (f a = some y) := by
 obtain ⟨a, h1, h2⟩ := Option.bind_eq_some_iff.1 h.out
 exact ⟨a, ⟨h1⟩, ⟨h2⟩⟩
theorem bo2 {α β γ : Type} {x : Option (α × γ)} {f : α × γ → Option β} {y : β} (h : Sh (x.bind f = some y)) : ∃ a c, Sh (x = some (a, c)) ∧ Sh (f (a, c) = some y) := by
 obtain ⟨a, h1, h2⟩ := bo h
 exact ⟨a.1, a.2, h1, h2⟩
theorem fi {l m : List Int} {S S' : St} (h : Sh (some (l, S) = some (m, S'))) : l = m ∧ S = S' := by
 have := Option.some.inj h.out
 exact ⟨congrArg Prod.fst this, congrArg Prod.snd this⟩
theorem Z : (∀ (α : Type) (_ : Decidable True) (a b : α), (if True then a else b) = a) ∧ (∀ (α : Type) (_ : Decidable False) (a b : α), (if False then a else b) = b) ∧ ((false = true) = False) ∧ ((true = false) = False) ∧
  (∀ (α β : Type) (x : α) (f : α → Option β), (some x).bind f = f x) ∧ (∀ (α β : Type) (x : Option α) (f : α → β), x.map f = x.bind fun a => some (f a)) ∧
  (∀ (α β γ : Type) (x : Option α) (f : α → Option β) (g : β → Option γ), (x.bind f).bind g = x.bind fun a => (f a).bind g) ∧ (∀ r : Int × St, one r = some ([r.1], r.2)) ∧ (∀ (T : List Tk) (x : List UInt8) (S : St), eatL T x S = if isL T x S then (true, stepL S) else (false, S)) ∧
  (∀ (a : Int) (l : List Int), fst0 (a :: l) = a) ∧ (∀ a b d : Int, [a, b].getD 1 d = b) ∧ (∀ p : Prop, (True ∧ p) = p) ∧ (∀ p : Prop, (p ∧ True) = p) ∧ (∀ p : Prop, (False ∧ p) = False) ∧ (∀ p : Prop, (p ∧ False) = False) ∧ (∀ p : Prop, (True ∨ p) = True) ∧ (∀ p : Prop, (p ∨ True) = True) ∧ (∀ p : Prop, (False ∨ p) = p) ∧ (∀ p : Prop, (p ∨ False) = p) ∧ ((¬ True) = False) ∧ ((¬ False) = True) ∧ ((true = true) = True) ∧ ((false = false) = True) :=
 ⟨fun _ _ _ _ => if_pos trivial, fun _ _ _ _ => if_neg id, by simp, by simp, fun _ _ _ _ => rfl, fun _ _ x f => by cases x <;> rfl, fun _ _ _ x f g => by cases x <;> rfl, fun _ => rfl, fun _ _ _ => rfl, fun _ _ => rfl, fun _ _ _ => rfl, by simp, by simp, by simp, by simp, by simp, by simp, by simp, by simp, by simp, by simp, by simp, by simp⟩
theorem ef {p : Prop} {i : Decidable p} (h : @decide p i = false) : p = False := eq_false (of_decide_eq_false h)
theorem et {p : Prop} {i : Decidable p} (h : @decide p i = true) : p = True := eq_true (of_decide_eq_true h)
theorem kk {T : List Tk} {S : St} {t : Tk} {c : Int} {i : Decidable (t.kind = c)} (h : Sh (peekL T S = t)) (d : @decide (t.kind = c) i = true) (hc : ¬ c = 6 := by decide) : ¬ (peekL T S).kind = 6 := by rw [h.out, of_decide_eq_true d]; exact hc
theorem ne2 {h : Heap} {b c : Nat} {x : Blk} (h1 : h c = some x) (h2 : h b = none) : ¬ c = b ∧ ¬ b = c := ⟨fun e => (by rw [← e, h1] at h2; cases h2), fun e => (by rw [e, h1] at h2; cases h2)⟩
theorem plus_one {k m : Heap} {b : Nat} {x : Blk} (h : m b = some x) : k.plus [b] m = k.set b x := by
 funext c
 by_cases e : c = b
 ·subst e; simp [gz, h]
 ·simp [gz, e]
theorem Meth.of {T : List Tk} {tt : Tok} {n : Nat} {op : Op} {f : FuncId} {mk : List AV} (w : ∀ S l S', Sh (run T n op S = some (l, S')) → ∀ r t1 t2 B h, Cur B B h T tt S S r t1 t2 [] → ∀ R : AV → Heap → Prop, Sh (∀ g u1 u2, Cur B B g T tt S S' r u1 u2 (resK op l) → R (resOf op l) g) → ACalls Tryz.prog f (.ptr r 0 :: mk) h R)
  (hf : methOf op = some (f, mk) := by rfl) : Meth T tt n op := fun f' mk' h' => by
 rw [hf] at h'
 injection h' with h'
 injection h' with e1 e2
 subst e1 e2
 exact w
section
variable {B0 B h : Heap} {T : List Tk} {tt : Tok} {S0 S : St} {r : Nat} {t1 t2 : Tok} {vs : List Int} {R : AV → Heap → Prop}
theorem Cur.upd (o : Cur B0 B h T tt S0 S r t1 t2 vs) (k : ∀ g, Cur B0 B g T tt S0 (upL S) r t1 t2 vs → R (.tup []) g) : ACallsD Tryz.prog 44 [.ptr r 0] h R :=
 up_d T tt S t1 t2 r B h o.own R fun g w => k g (o.go (goes_up o.good) w)
theorem Cur.minus {b : Nat} {x : Blk} (o : Cur B0 (B.set b x) h T tt S0 S r t1 t2 vs) (y : B b = none ∧ AL.Sub B0 B) : Cur B0 B (h.minus [b]) T tt S0 S r t1 t2 vs := ⟨o.own.minus y.1, y.2, o.g0, o.good, o.len, o.ink⟩
end
theorem nextk {T : List Tk} {S : St} (g : Good T S) (k6 : ¬ (peekL T S).kind = 6) : ∃ nt, T[S.idx + 1]? = some nt ∧ (∃ q : S.idx + 1 < T.length, T[S.idx + 1] = nt) ∧ T.getD (S.idx + 1) default = nt ∧ IntKind.i64.wrap ((S.idx : Int) + 1) = ((S.idx + 1 : Nat) : Int) := by
 have a : S.idx + 1 < T.length := (g.rd.step k6).2.pos (g.rd.step k6).1
 have al := g.rd.len
 have h : T[S.idx + 1]? = some T[S.idx + 1] := List.getElem?_eq_getElem a
 exact ⟨T[S.idx + 1], h, ⟨a, rfl⟩, by simp [List.getD, h], by rw [w64 (by omega) (by omega)]; omega⟩
theorem plus_two {k m : Heap} {b c : Nat} {x y : Blk} (n : ¬ b = c) (h1 : m b = some x) (h2 : m c = some y) : k.plus [b, c] m = (k.set b x).set c y := by
 funext d
 by_cases e1 : d = c
 ·subst e1; simp [gz, h2]
 ·by_cases e2 : d = b
  ·subst e2; simp [gz, e1, h1]
  ·simp [gz, e1, e2]
theorem nlen {T : List Tk} (hs : Short T) {S S1 : St} {x : List UInt8} (e : nameR T S = (x, S1)) : x.length ≤ 1000000 := by
 have h := name_len hs S
 rw [e] at h
 exact h
structure Lf (B0 base : Heap) (tk : Tok) : Prop where
 fr : ∀ b k e, tk = .own b k e → base b = none
 no : tk ≠ .no
 sb : AL.Sub B0 base
theorem run_pos {T : List Tk} {m : Nat} {op : Op} {S : St} {z : Res} (h : Sh (run T m op S = some z)) : ∃ p, m = p + 1 := by
 cases m with
 | zero => have h1 := h.out; simp [run] at h1
 | succ p => exact ⟨p, rfl⟩
section
variable {B0 B h base : Heap} {T : List Tk} {tt : Tok} {S0 S : St} {r : Nat} {t1 t2 tk : Tok} {vs : List Int} {R : AV → Heap → Prop}
theorem Cur.wk {ws : List Int} (o : Cur B0 B h T tt S0 S r t1 t2 vs) (hw : ∀ y ∈ ws, y = -1 ∨ y ∈ vs := by first | (simp; done) | grind) : Cur B0 B h T tt S0 S r t1 t2 ws := ⟨o.own, o.sb, o.g0, o.good, o.len, o.ink.of hw⟩
theorem Cur.drop {b : Nat} {x : Blk} (o : Cur B0 (B.set b x) h T tt S0 S r t1 t2 vs) (y : B b = none ∧ AL.Sub B0 B) : Cur B0 B h T tt S0 S r t1 t2 vs := ⟨o.own.drop y.1, y.2, o.g0, o.good, o.len, o.ink⟩
theorem Cur.back (o : Cur B0 (Heap.bk base tk) h T tt S0 S r t1 t2 vs) (f : Lf B0 base tk) : Cur B0 base h T tt S0 S r t1 t2 vs := ⟨o.own.weak (bk_sub f.fr), f.sb, o.g0, o.good, o.len, o.ink⟩
theorem Cur.tin (o : Cur B0 (Heap.bk base tk) h T tt S0 S r t1 t2 vs) (f : Lf B0 base tk) : TokIn h tk := tokIn_bk o.own.sub f.no
theorem Cur.lf (o : Cur B0 B h T tt S0 S r t1 t2 vs) {tk : Tok} (h1 : tk ≠ .no := by simp) (h2 : ∀ b k e, tk ≠ .own b k e := by simp) : Lf B0 B tk := ⟨fun b k e q => absurd q (h2 b k e), h1, o.sb⟩
theorem Cur.grow (o : Cur B0 (Heap.bk base tk) h T tt S0 S r t1 t2 vs) (f : Lf B0 base tk) {b k e : Nat} (hb : SpareNew h tk b) : Cur B0 (Heap.bk base (.own b k e)) ((tk.rid h).set b (.spare k e)) T tt S0 S r t1 t2 vs ∧ Lf B0 base (.own b k e) := by
 obtain ⟨w, hn⟩ := o.own.growK (k := k) (e := e) f.fr hb
 have f2 : ∀ b' k' e', Tok.own b k e = .own b' k' e' → base b' = none := fun b' k' e' q => by injection q with q; subst q; exact hn
 exact ⟨⟨w, f.sb.trans (bk_sub f2), o.g0, o.good, o.len, o.ink⟩, f2, by simp, f.sb⟩
theorem Cur.sm {stop : List UInt8} {m : Nat} {l : List Int} {S1 : St} (o : Cur B0 B h T tt S0 S r t1 t2 vs) (ih : Meth T tt m (.some stop)) (h1 : Sh (run T m (.some stop) S = some (l, S1)))
  (k : ∀ g u1 u2, l.length ≤ m → Cur B0 B g T tt S0 S1 r u1 u2 (l ++ vs) → g r = some (.cells (rdRow T tt S1 u1 u2)) → R (.list 1 (ints l) .no) g) : ACalls Tryz.prog 156 [.ptr r 0, .str stop] h R :=
 o.at_ ih h1 fun g u1 u2 w q => k g u1 u2 (some_len h1.out) w q
theorem Cur.mem {m : Nat} {l : List Int} {S1 : St} (o : Cur B0 B h T tt S0 S r t1 t2 vs) (ih : Meth T tt m .member) (h1 : Sh (run T m .member S = some (l, S1)))
  (k : ∀ g u1 u2 v w, fst0 l = v → l.getD 1 0 = w → Cur B0 B g T tt S0 S1 r u1 u2 (v :: w :: vs) → g r = some (.cells (rdRow T tt S1 u1 u2)) → R (.tup [.int .i64 v, .int .i64 w]) g) : ACalls Tryz.prog 146 [.ptr r 0] h R :=
 o.at_ ih h1 fun g u1 u2 w q => k g u1 u2 _ _ rfl rfl w q
theorem Cur.spare {b k e : Nat} (o : Cur B0 B h T tt S0 S r t1 t2 vs) (z : h b = none) : Cur B0 B (h.set b (.spare k e)) T tt S0 S r t1 t2 vs := (o.new z _).drop (o.y z)
theorem Cur.eatF {x : List UInt8} (o : Cur B0 B h T tt S0 S r t1 t2 vs) (c : isL T x S = false) (f : ∀ g, Cur B0 B g T tt S0 S r t1 t2 vs → g r = some (.cells (rdRow T tt S t1 t2)) → R (.bool false) g) : ACalls Tryz.prog 48 [.ptr r 0, .str x] h R :=
 o.eat x (fun _ => f) fun c2 => by rw [c] at c2; cases c2
theorem Cur.eatT {x : List UInt8} (o : Cur B0 B h T tt S0 S r t1 t2 vs) (c : isL T x S = true) (t : ∀ g S1, stepL S = S1 → Sh (S1.fc = 0) → Cur B0 B g T tt S0 S1 r t1 t2 vs → g r = some (.cells (rdRow T tt S1 t1 t2)) → R (.bool true) g) : ACalls Tryz.prog 48 [.ptr r 0, .str x] h R :=
 o.eat x (fun c2 => by rw [c] at c2; cases c2) fun _ => t
theorem Cur.setB {b : Nat} {x : Blk} (o : Cur B0 (B.set b x) h T tt S0 S r t1 t2 vs) (y : B b = none ∧ AL.Sub B0 B) (z : Blk) : Cur B0 (B.set b z) (h.set b z) T tt S0 S r t1 t2 vs := ⟨o.own.setB y.1 z, y.2.trans ((Sub.refl B).loc y.1 z), o.g0, o.good, o.len, o.ink⟩
theorem Cur.del {b : Nat} {x : Blk} (o : Cur B0 (B.set b x) h T tt S0 S r t1 t2 vs) (y : B b = none ∧ AL.Sub B0 B) : Cur B0 B (h.del b) T tt S0 S r t1 t2 vs := ⟨o.own.del y.1, y.2, o.g0, o.good, o.len, o.ink⟩
end
theorem Meth.some {T : List Tk} {tt : Tok} {n : Nat} {stop : List UInt8} (w : ∀ S l S', Sh (run T n (.some stop) S = some (l, S')) → ∀ r t1 t2 B h, Cur B B h T tt S S r t1 t2 [] → ∀ R : AV → Heap → Prop, Sh (∀ g u1 u2 tk, Cur B B g T tt S S' r u1 u2 l → R (.list 1 (ints l) tk) g) → ACalls Tryz.prog 156 [.ptr r 0, .str stop] h R) : Meth T tt n (.some stop) :=
 Meth.of fun S l S' q r t1 t2 B h o R hR => ACalls.conv (R' := fun x g => ∃ tk u1 u2, x = .list 1 (ints l) tk ∧ Cur B B g T tt S S' r u1 u2 l) (w S l S' q r t1 t2 B h o _ ⟨fun g u1 u2 tk o => ⟨tk, u1, u2, rfl, o⟩⟩) (fun x g ⟨tk, u1, u2, e, o⟩ => ⟨_, g, View.of (e ▸ Weak.tok _ _ tk) (Sub.refl _), hR.out _ _ _ o⟩)
end Go.Proofs.YtcbgpjlcfkkdlaaGreatDoor

