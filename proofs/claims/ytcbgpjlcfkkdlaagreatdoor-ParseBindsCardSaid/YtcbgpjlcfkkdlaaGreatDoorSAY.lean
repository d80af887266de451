import Derived.Test.YtcbgpjlcfkkdlaaGreatDoorSAX
import Derived.Test.YtcbgpjlcfkkdlaaGreatDoorSAT
set_option linter.unusedSimpArgs false
set_option linter.unusedVariables false
set_option maxRecDepth 100000
set_option maxHeartbeats 16000000
namespace Go.Proofs.YtcbgpjlcfkkdlaaGreatDoor
open Go Go.AL Go.Proofs
def avTok : AV → Int × List UInt8 × Int × Int × Int
 | .tup [.agg [.int _ k, _, .str x, .int _ n, _], .agg [.int _ e, .int _ a]] => (k, x, n, e, a)
 | _ => (0, [], 0, 0, 0)
def scanR (s : List UInt8) : Nat → Nat → Bool → List Tk → List Tk ⊕ (Int × Int)
 | 0, _, _, _ => .inr (0, 0)
 | n + 1, i, b, out =>
  let g := gapR s (s.length - i) i b
  match g.1 with
  | some p => .inr (5, p)
  | none => if g.2.1 = s.length then .inl (out ++ [⟨6, g.2.1, [], 0, g.2.2⟩]) else if out.length = 65536 then .inr (2, g.2.1)
   else
    let t := avTok (nextR s g.2.1).1
    if t.2.2.2.1 = 0 then scanR s n (nextR s g.2.1).2 false (out ++ [⟨t.1, g.2.1, t.2.1, t.2.2.1, g.2.2⟩]) else .inr (t.2.2.2.1, t.2.2.2.2)
def scanT (s : List UInt8) : List Tk ⊕ (Int × Int) := scanR s (s.length + 1) 0 false []
theorem gapR_le (s : List UInt8) : ∀ (n i : Nat) (b : Bool), i ≤ s.length → i ≤ (gapR s n i b).2.1 ∧ (gapR s n i b).2.1 ≤ s.length
 | 0, i, b, h => ⟨Nat.le_refl _, h⟩
 | n + 1, i, b, h => by
  simp only [gapR]
  by_cases hi : i < s.length
  ·rw [if_pos hi]
   have hl : (s.drop i).length = s.length - i := List.length_drop
   split
   ·have := gapR_le s n (i + 1) true (by omega); omega
   ·split
    ·have := gapR_le s n (i + 1) b (by omega); omega
    ·split
     ·split
      ·have := gapR_le s n (i + (s.drop i).length) b (by omega); omega
      ·rename_i hk
       have hk2 : (Lib.indexByte (s.drop i) 10).toNat < (s.drop i).length := by
        obtain ⟨q1, -⟩ := Lib.indexByte_some (l := s.drop i) (c := 10) (o := (Lib.indexByte (s.drop i) 10).toNat) (by omega)
        exact (List.getElem?_eq_some_iff.1 q1).1
       have := gapR_le s n (i + (Lib.indexByte (s.drop i) 10).toNat) b (by omega); omega
     ·split
      ·split
       ·exact ⟨Nat.le_refl _, h⟩
       ·rename_i hk
        have hk2 := Lib.index_room ((s.drop i).drop 2) [42, 47] (by omega)
        rw [List.length_drop] at hk2
        simp only [List.length_cons, List.length_nil] at hk2
        have := gapR_le s n (i + ((Lib.index ((s.drop i).drop 2) [42, 47]).toNat + 4)) (b || Lib.contains ((s.drop i).take ((Lib.index ((s.drop i).drop 2) [42, 47]).toNat + 4)) [10]) (by omega)
        omega
      ·exact ⟨Nat.le_refl _, h⟩
  ·rw [if_neg hi]; exact ⟨Nat.le_refl _, h⟩
theorem nextR_shape (s : List UInt8) (i : Nat) : ∃ x1 x2 x3 x4 x5, (nextR s i).1 = .tup [.agg [.int .i64 x1, .int .i64 0, .str x2, .int .i64 x3, .bool false], .agg [.int .i64 x4, .int .i64 x5]] := by
 unfold nextR
 split
 ·exact ⟨_, _, _, _, _, rfl⟩
 ·split
  ·split <;> exact ⟨_, _, _, _, _, rfl⟩
  ·split
   ·exact strR_shape s i
   ·split
    ·exact charR_shape s i
    ·split <;> exact ⟨_, _, _, _, _, rfl⟩
theorem signs_pos : ∀ x ∈ signsW, 0 < x.length := by decide
theorem wspan_pos {s : List UInt8} {i : Nat} (h : i < s.length) (hw : wordX s[i] = true) : 0 < wspan s i := by rw [wspan_yes h hw]; omega
theorem nextR_le (s : List UInt8) (i : Nat) (h : i < s.length) : (nextR s i).2 ≤ s.length ∧ ((avTok (nextR s i).1).2.2.2.1 = 0 → i < (nextR s i).2) := by
 have hgd : s.getD i 0 = s[i] := by simp [List.getD, List.getElem?_eq_getElem h]
 have hw := wspan_le (s := s) (i := i) (by omega)
 unfold nextR
 rw [hgd]
 split
 ·rename_i h1
  have := wspan_pos h (by unfold wordX; rw [h1]; rfl)
  exact ⟨hw, fun _ => by show i < i + wspan s i; omega⟩
 ·split
  ·rename_i h1
   have := wspan_pos h (by unfold wordX; rw [h1]; simp)
   exact ⟨hw, fun _ => by show i < i + wspan s i; omega⟩
  ·split
   ·unfold strR
    split
    ·exact ⟨by show i ≤ _; omega, fun q => by simp [avTok] at q⟩
    ·rename_i t ht
     have := rawR_len ht
     split
     ·exact ⟨by show i ≤ _; omega, fun q => by simp [avTok] at q⟩
     ·exact ⟨by show i + (t.length + 2) ≤ _; omega, fun _ => by show i < i + (t.length + 2); omega⟩
   ·split
    ·unfold charR
     split
     ·exact ⟨by show i ≤ _; omega, fun q => by simp [avTok] at q⟩
     ·rename_i t ht
      have := rawR_len ht
      split
      ·exact ⟨by show i ≤ _; omega, fun q => by simp [avTok] at q⟩
      ·split
       ·exact ⟨by show i + (t.length + 2) ≤ _; omega, fun _ => by show i < i + (t.length + 2); omega⟩
       ·exact ⟨by show i ≤ _; omega, fun q => by simp [avTok] at q⟩
    ·split
     ·rename_i x hx
      have h1 := List.find?_some hx
      have h2 := hasPrefix_len (by simpa using h1)
      rw [List.length_drop] at h2
      have h3 := signs_pos x (List.mem_of_find?_eq_some hx)
      exact ⟨by show i + x.length ≤ _; omega, fun _ => by show i < i + x.length; omega⟩
     ·exact ⟨by show i ≤ _; omega, fun q => by simp [avTok] at q⟩
theorem Lx.growK {B h : Heap} {s : List UInt8} {i : Nat} {bb : Bool} {l : Nat} {tk : Tok} (lx : Lx (Heap.bk B tk) h s i bb l) (hf : ∀ b k e, tk = .own b k e → B b = none) {b k e : Nat} (hb : SpareNew h tk b) :
  Lx (Heap.bk B (.own b k e)) ((tk.rid h).set b (.spare k e)) s i bb l ∧ B b = none := by
 have hlb : ¬ l = b := fun e1 => by
  subst e1
  rcases hb with hb | ⟨k', e', hb⟩
  ·rw [lx.blk] at hb; cases hb
  ·exact (bk_none lx.free).2 _ _ hb
 have hBb : B b = none := by
  rcases hb with hb | ⟨k', e', hb⟩
  ·exact (bk_none (lx.isNone hb)).1
  ·exact hf _ _ _ hb
 refine ⟨⟨fun c x hc => ?_, ?_, by rw [grown_plain hlb (bk_none lx.free).2]; exact lx.blk⟩, hBb⟩
 ·by_cases e1 : c = b
  ·subst e1
   have h1 : (B.set c (.spare k e)) c = some x := hc
   rw [Heap.set_same] at h1 ⊢
   exact h1
  ·have h1 : B c = some x := by
    have h2 : (B.set b (.spare k e)) c = some x := hc
    rwa [Heap.set_other _ _ _ _ e1] at h2
   have h3 : ∀ k e, tk ≠ .own c k e := fun k' e' q => by rw [hf _ _ _ q] at h1; cases h1
   rw [grown_plain e1 h3]
   exact lx.sub _ _ (by rw [bk_other h3]; exact h1)
 ·show (B.set b (.spare k e)) l = none
  rw [Heap.set_other _ _ _ _ hlb]
  exact (bk_none lx.free).1
end Go.Proofs.YtcbgpjlcfkkdlaaGreatDoor

namespace Go.Proofs.YtcbgpjlcfkkdlaaGreatDoor
open Go Go.AL Go.Proofs
def scanAV (r : List Tk ⊕ (Int × Int)) : AV := match r with
 | .inl T => .tup [.list 5 (T.map tkRow) .no, .agg [.int .i64 0, .int .i64 0]]
 | .inr f => .tup [.list 5 [] .nil, .agg [.int .i64 f.1, .int .i64 f.2]]
theorem Scan_c (s : List UInt8) (hs : s.length ≤ 10000) (h : Heap) (h0 : h 0 = some .gint) (R : AV → Heap → Prop) (hR : R (scanAV (scanT s)) h) : ACalls Tryz.prog 10 [.str s] h R := by
 obtain ⟨r, hr⟩ : ∃ r, scanR s (s.length + 1) 0 false [] = r := ⟨_, rfl⟩
 unfold scanT at hR
 rw [hr] at hR
 refine ACalls.conv (R' := fun x g => (∃ tk T, r = .inl T ∧ x = .tup [.list 5 (T.map tkRow) tk, .agg [.int .i64 0, .int .i64 0]] ∧ AL.Sub h g) ∨ (∃ f, r = .inr f ∧ x = .tup [.list 5 [] .nil, .agg [.int .i64 f.1, .int .i64 f.2]] ∧ AL.Sub h g)) ?_ (fun x g hx => by
  rcases hx with ⟨tk, T, e1, e2, e3⟩ | ⟨f, e1, e2, e3⟩
  ·subst e1 e2
   exact ⟨_, h, View.of (Weak.tup (.cons (Weak.tok _ _ _) (.cons (Weak.refl _) .nil))) e3, hR⟩
  ·subst e1 e2
   exact ⟨_, h, View.of (Weak.refl _) e3, hR⟩)
 clear hR
 have hsi : ¬ (262144 : Int) < s.length := by omega
 refine acalls_of Tryz.func10 rfl Tryz.ntmps10 (congrArg Array.toList Tryz.results10) fun Q hQ => ?_
 (focus repeat' first|refine ga ?_|(refine gb ?_;try simp[gz, *])|refine gk fun _ _=>?_|refine gc ?_ ?_|exact gr _|refine gi fun _=>?_|(refine gn ?_ ?_;focus(intros;simp[*];done)))
 intro b3 hb3; simp only [Fresh, Heap.set_none] at hb3; try simp [gz, *]
 (focus repeat' first|refine ga ?_|(refine gb ?_;try simp[gz, *])|refine gk fun _ _=>?_|refine gc ?_ ?_|exact gr _|refine gi fun _=>?_|(refine gn ?_ ?_;focus(intros;simp[*];done)))
 refine Split_c signsB [32] (by decide) (by decide) _ (gint_set hb3 h0) _ ?_
 rw [signs_split]
 simp [gz, *]
 (focus repeat' first|refine ga ?_|(refine gb ?_;try simp[gz, *])|refine gk fun _ _=>?_|refine gc ?_ ?_|exact gr _|refine gi fun _=>?_|(refine gn ?_ ?_;focus(intros;simp[*];done)))
 intro b4 hb4
 simp only [Fresh, Heap.set_none] at hb4
 obtain ⟨n4', n4, hb4⟩ := hb4
 have lx : Lx (h.set b3 (.cells Z28)) ((h.set b3 (.cells Z28)).set b4 (.cells (lxRow s 0 false))) s 0 false b4 := ⟨(Sub.refl _).loc (by rw [Heap.set_other _ _ _ _ n4]; exact hb4) _, by rw [Heap.set_other _ _ _ _ n4]; exact hb4, Heap.set_same _ _ _⟩
 have h0b : (h.set b3 (.cells Z28)) 0 = some .gint := gint_set hb3 h0
 have hsub0 : AL.Sub h (h.set b3 (.cells Z28)) := (Sub.refl h).loc hb3 _
 try simp [Heap.set_get, *]
 (focus repeat' first|refine ga ?_|(refine gb ?_;try simp[gz, *])|refine gk fun _ _=>?_|refine gc ?_ ?_|exact gr _|refine gi fun _=>?_|(refine gn ?_ ?_;focus(intros;simp[*];done)))
 have hb30 : h b3 = none := hb3
 have hb30 : h b3 = none := hb3
 have hb30 : h b3 = none := hb3
 have hb30 : h b3 = none := hb3
 obtain ⟨Bb, hBb⟩ : ∃ x, h.set b3 (.cells Z28) = x := ⟨_, rfl⟩
 have hBb3 : Bb b3 = some (.cells Z28) := by rw [← hBb, Heap.set_same]
 rw [hBb] at lx h0b hsub0
 have n34 : ¬ b3 = b4 := fun e => n4 e.symm
 refine awp_loop_h [2,5,6,7,8,9,10,19,20,21,22,23,24,25,26,27,28,29,30,31,32,33,34,35,36,37,38,39,40,41,42,43,44,45,46,47,48,49,50,51,52,53,54,55,56,57,58,59,60,61,62,63,64,65,66,67,68,69,70,71,72,73,74,75,76,77,78,79,80,81,82] (fun m x g => ∃ (i : Nat) (b : Bool) (out : List Tk) (tk : Tok), i ≤ s.length ∧ s.length + 1 - i ≤ m ∧ scanR s m i b out = r ∧ out.length ≤ i ∧ x 5 = .list 5 (out.map tkRow) tk ∧ TokIn g tk ∧ (∀ b k e, tk = .own b k e → Bb b = none) ∧ Lx (Heap.bk Bb tk) g s i b b4) (s.length + 1)
  ⟨0, false, [], .nil, by omega, by omega, hr, by simp, by simp, trivial, (fun _ _ _ e => by cases e), by first | exact lx | (simp [hBb]; exact lx)⟩ (fun m x g hI K hK => ?_)
 clear hr lx hb3
 have hb40 : h b4 = none := hb4
 clear hb4
 obtain ⟨i, b, out, tk, h1, h2, h4, h5, hx, htk, htf, lx⟩ := hI
 obtain ⟨p, rfl⟩ : ∃ p, m = p + 1 := ⟨m - 1, by omega⟩
 simp only [scanR] at h4
 have hgl := gapR_le s (s.length - i) i b h1
 obtain ⟨gp, hgp⟩ : ∃ gp, gapR s (s.length - i) i b = gp := ⟨_, rfl⟩
 rw [hgp] at h4 hgl
 obtain ⟨e, j, bb⟩ := gp
 simp only at h4 hgl
 have hno : tk ≠ .no := fun e => by subst e; exact htk.elim
 have h0q : (Heap.bk Bb tk) 0 = some .gint := bk_sub htf _ _ h0b
 have hBs : AL.Sub Bb (Heap.bk Bb tk) := bk_sub htf
 have hq3 : (Heap.bk Bb tk) b3 = some (.cells Z28) := hBs _ _ hBb3
 replace htf := Shut.mk htf
 replace hBs := Shut.mk hBs
 replace h4 := Shut.mk h4
 refine awp_eqs (s' := [_,_,x 2,_,_,x 5,x 6,x 7,x 8,x 9,x 10,_,_,_,_,_,_,_,_,x 19,x 20,x 21,x 22,x 23,x 24,x 25,x 26,x 27,x 28,x 29,x 30,x 31,x 32,x 33,x 34,x 35,x 36,x 37,x 38,x 39,x 40,x 41,x 42,x 43,x 44,x 45,x 46,x 47,x 48,x 49,x 50,x 51,x 52,x 53,x 54,x 55,x 56,x 57,x 58,x 59,x 60,x 61,x 62,x 63,x 64,x 65,x 66,x 67,x 68,x 69,x 70,x 71,x 72,x 73,x 74,x 75,x 76,x 77,x 78,x 79,x 80,x 81,x 82]) rfl ?_
 (focus repeat' first|refine ga ?_|(refine gb ?_;try simp[gz, *])|refine gk fun _ _=>?_|refine gc ?_ ?_|exact gr _|refine gi fun _=>?_|(refine gn ?_ ?_;focus(intros;simp[*];done)))
 refine gap_c s i b b4 h1 (by omega) _ _ h0q lx _ (fun k lk => ?_)
 rw [hgp] at lk ⊢
 clear lx htk hgp
 simp only at lk ⊢
 have hl := lk.blk
 have hk3 := lk.sub _ _ hq3
 have htk := tokIn_bk lk.sub hno
 have hsk : AL.Sub h k := (hsub0.trans hBs.out).trans lk.sub
 replace hsk := Shut.mk hsk
 cases e with
 | some q =>
  replace h4 := h4.out
  simp only at h4
  subst h4
  clear lk
  simp [gz, *]
  (focus repeat' first|refine ga ?_|(refine gb ?_;try simp[gz, *])|refine gk fun _ _=>?_|refine gc ?_ ?_|exact gr _|refine gi fun _=>?_|(refine gn ?_ ?_;focus(intros;simp[*];done)))
  refine ⟨_, ⟨_, rfl, ?_, _, rfl, rfl⟩, ?_, hsk.out.loc hb30 _⟩
  ·simp [Heap.set_get]
  ·simp [aresult, Heap.set_get]
 | none =>
  simp only
  by_cases hj : j = s.length
  ·subst hj
   replace h4 := h4.out
   simp only [if_true] at h4
   subst h4
   have n4b : ∀ q k e, tk = .own q k e → ¬ q = b4 := fun q k e q1 q2 => by
    subst q1 q2
    have this := hl.symm.trans htk
    cases this
   simp [gz, *]
   (focus repeat' first|refine ga ?_|(refine gb ?_;try simp[gz, *])|refine gk fun _ _=>?_|refine gc ?_ ?_|exact gr _|refine gi fun _=>?_|(refine gn ?_ ?_;focus(intros;simp[*];done)))
   refine awp_region_draw [b4] [(0,true),(1,true),(2,true),(3,true),(4,true),(5,true),(6,true),(7,true),(8,true),(9,true),(12,true),(10,false),(11,false),(13,true)] [14] follows (by kernel_rfl) rfl (by kernel_rfl) ?_; simp [gz, Heap.plus_set, *]
   (focus repeat' first|refine ga ?_|(refine gb ?_;try simp[gz, *])|refine gk fun _ _=>?_|refine gc ?_ ?_|exact gr _|refine gi fun _=>?_|(refine gn ?_ ?_;focus(intros;simp[*];done)))
   refine .inl ⟨by cases tk with
    | own b k e => exact ⟨n4b _ _ _ rfl, htk⟩
    | no => exact htk
    | nil => trivial
    | full => trivial, fun b' k' e' hb' => ?_⟩
   obtain ⟨HG, hHG⟩ : ∃ HG, (tk.rid (k.minus [b4])).set b' (.spare k' e') = HG := ⟨_, rfl⟩
   have hq3' : ¬ b3 = b' := fun e => by
    subst e
    rcases hb' with hb' | ⟨_, _, hb'⟩
    ·simp [Heap.minus_get, n34, hk3] at hb'
    ·subst hb'
     have := hk3.symm.trans htk
     cases this
   have ht3 : ∀ k1 e1, tk ≠ .own b3 k1 e1 := fun k1 e1 q => by rw [htf.out _ _ _ q] at hBb3; cases hBb3
   have hG3 : HG b3 = some (.cells Z28) := by rw [← hHG, grown_p hq3' ht3]; simp [Heap.minus_get, n34, hk3]
   have hGs : ∀ q y, h q = some y → ¬ q = b4 → HG q = some y := fun q y hq hq4 => by
    have hBq : Bb q = some y := hsub0 _ _ hq
    have hkq : k q = some y := hsk.out _ _ hq
    rw [← hHG, grown_p (fun e => by
     subst e
     rcases hb' with hb' | ⟨_, _, hb'⟩
     ·simp [Heap.minus_get, hq4, hkq] at hb'
     ·rw [htf.out _ _ _ hb'] at hBq; cases hBq) (fun k1 e1 q1 => by rw [htf.out _ _ _ q1] at hBq; cases hBq)]
    simp [Heap.minus_get, hq4, hkq]
   have hF : AL.Sub h ((HG.plus [b4] k).set b3 (.cells [.int .i64 0, .int .i64 0])) := fun q y hq => by
    have q3 : ¬ q = b3 := fun e => by rw [e, hb30] at hq; cases hq
    have q4 : ¬ q = b4 := fun e => by rw [e, hb40] at hq; cases hq
    simp [Heap.set_get, q3, q4, hGs q y hq q4]
   rw [hHG]
   clear hHG hb' htk hl
   replace hGs := Shut.mk hGs
   replace hF := Shut.mk hF
   simp [gz, *]
   intro hn
   try simp [Heap.set_get, *]
   (focus repeat' first|refine ga ?_|(refine gb ?_;try simp[gz, *])|refine gk fun _ _=>?_|refine gc ?_ ?_|exact gr _|refine gi fun _=>?_|(refine gn ?_ ?_;focus(intros;simp[*];done)))
   refine ⟨_, ⟨_, rfl, ?_, _, rfl, rfl⟩, ⟨.own b' k' e', ?_⟩, hF.out⟩
   ·simp [Heap.set_get]
   ·simp [aresult, Heap.set_get]
  ·have hjl : j < s.length := by omega
   replace h4 := h4.out
   simp only [if_neg hj] at h4
   rw [if_neg (by omega)] at h4
   have hji : ¬ (j : Int) = s.length := by omega
   have hol : ¬ (out.length : Int) = 65536 := by omega
   obtain ⟨x1, x2, x3, x4, x5, hnx⟩ := nextR_shape s j
   have hnl := nextR_le s j hjl
   rw [hnx] at h4 hnl
   simp only [avTok] at h4 hnl
   obtain ⟨z, hz⟩ : ∃ z, nextR s j = z := ⟨_, rfl⟩
   rw [hz] at h4 hnl hnx
   replace h4 := Shut.mk h4
   replace hnl := Shut.mk hnl
   clear hsk htk hk3
   have NEXT := @next_c
   simp [gz, *]
   (focus repeat' first|refine ga ?_|(refine gb ?_;try simp[gz, *])|refine gk fun _ _=>?_|refine gc ?_ ?_|exact gr _|refine gi fun _=>?_|(refine gn ?_ ?_;focus(intros;simp[*];done)))
   refine next_c s j bb b4 hjl (by omega) _ _ h0q lk _ (fun k2 lk2 => ?_)
   rw [hz] at lk2 ⊢
   rw [hnx]
   clear lk hl hz hnx NEXT
   have hl := lk2.blk
   have hk3 := lk2.sub _ _ hq3
   have htk := tokIn_bk lk2.sub hno
   have hsk : AL.Sub h k2 := (hsub0.trans hBs.out).trans lk2.sub
   replace hsk := Shut.mk hsk
   have hb4 := hl
   have hb3 := hk3
   by_cases hx4 : x4 = 0
   ·replace h4 := h4.out
    simp only [hx4, if_true] at h4
    have hnl2 := hnl.out.2 hx4
    have hnl1 := hnl.out.1
    subst hx4
    replace h4 := Shut.mk h4
    simp [gz, *]
    (focus repeat' first|refine ga ?_|(refine gb ?_;try simp[gz, *])|refine gk fun _ _=>?_|refine gc ?_ ?_|exact gr _|refine gi fun _=>?_|(refine gn ?_ ?_;focus(intros;simp[*];done)))
    intro b9 hb9; simp only [Fresh, Heap.set_none] at hb9; have n_b9_b4 := ne_of_fresh hb4 (b := b9) (by simp [*]); have n_b9_b3 := ne_of_fresh hb3 (b := b9) (by simp [*]); try simp [gz, *]
    have m94 : ¬ b9 = b4 := fun e => n_b9_b4 e.symm
    have m93 : ¬ b9 = b3 := fun e => n_b9_b3 e.symm
    (focus repeat' first|refine ga ?_|(refine gb ?_;try simp[gz, *])|refine gk fun _ _=>?_|refine gc ?_ ?_|exact gr _|refine gi fun _=>?_|(refine gn ?_ ?_;focus(intros;simp[*];done)))
    intro b10 hb10
    simp only [Fresh, Heap.set_none] at hb10
    obtain ⟨n109', n109, hb10⟩ := hb10
    have n104 := ne_of_fresh hl hb10
    have n103 := ne_of_fresh hk3 hb10
    have m104 : ¬ b10 = b4 := fun e => n104 e.symm
    have m103 : ¬ b10 = b3 := fun e => n103 e.symm
    try simp [Heap.set_get, *]
    (focus repeat' first|refine ga ?_|(refine gb ?_;try simp[gz, *])|refine gk fun _ _=>?_|refine gc ?_ ?_|exact gr _|refine gi fun _=>?_|(refine gn ?_ ?_;focus(intros;simp[*];done)))
    obtain ⟨H, hH⟩ : ∃ H, ((k2.set b9 (.cells [.int .i64 x1, .int .i64 0, .str x2, .int .i64 x3, .bool false])).set b10 (.cells [.int .i64 0, .int .i64 x5])) = H := ⟨_, rfl⟩
    have hH0 : ((((k2.set b9 (.cells [.int .i64 0, .int .i64 0, .str [], .int .i64 0, .bool false])).set b10 (.cells [.int .i64 0, .int .i64 0])).set b9 (.cells [.int .i64 x1, .int .i64 0, .str x2, .int .i64 x3, .bool false])).set b10 (.cells [.int .i64 0, .int .i64 x5])) = H := by
     rw [← hH]
     funext c
     by_cases e1 : c = b10
     ·subst e1; simp [Heap.set_get]
     ·by_cases e2 : c = b9
      ·subst e2; simp [Heap.set_get, e1]
      ·simp [Heap.set_get, e1, e2]
    refine awp_heap (fun x => x = H) hH0 (fun H' hx => ?_)
    subst hx
    have hH9 : H' b9 = some (.cells [.int .i64 x1, .int .i64 0, .str x2, .int .i64 x3, .bool false]) := by rw [← hH, Heap.set_other _ _ _ _ n109', Heap.set_same]
    have hH10 : H' b10 = some (.cells [.int .i64 0, .int .i64 x5]) := by rw [← hH, Heap.set_same]
    have hH3 : H' b3 = some (.cells Z28) := by rw [← hH, Heap.set_other _ _ _ _ n103, Heap.set_other _ _ _ _ n_b9_b3]; exact hk3
    have lk3 : Lx (Heap.bk Bb tk) H' s z.2 bb b4 := by rw [← hH]; exact (lk2.extra hb9 _).extra (by rw [Heap.set_other _ _ _ _ n109]; exact hb10) _
    have zb9 := lk2.isNone hb9
    clear hH0 hH lk2 hb9 hb10 hl hk3 hb3 hb4 htk hsk
    have hb4 := lk3.blk
    have htk := tokIn_bk lk3.sub hno
    have hsk : AL.Sub h H' := (hsub0.trans hBs.out).trans lk3.sub
    replace hsk := Shut.mk hsk
    have hl9 : ¬ b4 = b9 := n_b9_b4
    have lk4 := lk3.wr zb9 hl9 (.cells [.int .i64 x1, .int .i64 j, .str x2, .int .i64 x3, .bool bb])
    obtain ⟨H2, hH2⟩ : ∃ x, H'.set b9 (.cells [.int .i64 x1, .int .i64 j, .str x2, .int .i64 x3, .bool bb]) = x := ⟨_, rfl⟩
    rw [hH2] at lk4
    have hH29 : H2 b9 = some (.cells [.int .i64 x1, .int .i64 j, .str x2, .int .i64 x3, .bool bb]) := by rw [← hH2, Heap.set_same]
    refine awp_region_stores [b4] [0,1,2,3,5] [(4,true),(6,false)] [7,8] follows (by kernel_rfl) rfl (by kernel_rfl) ?_; simp [Heap.set_get, Heap.plus_set, evc_nil, evc_cons, estep, *]
    clear lk3 hb4 htk hH9 hH10 hH3 hH2
    have hb4 := lk4.blk
    have htk := tokIn_bk lk4.sub hno
    replace lk4 := Shut.mk lk4
    (focus repeat' first|refine ga ?_|(refine gb ?_;try simp[gz, *])|refine gk fun _ _=>?_|refine gc ?_ ?_|exact gr _|refine gi fun _=>?_|(refine gn ?_ ?_;focus(intros;simp[*];done)))
    refine .inl ⟨htk, fun b' k' e' hb' => ?_⟩
    obtain ⟨lk5, hBb'⟩ := lk4.out.growK htf.out (k := k') (e := e') hb'
    obtain ⟨HG, hHG⟩ : ∃ HG, (tk.rid H2).set b' (.spare k' e') = HG := ⟨_, rfl⟩
    rw [hHG] at lk5 ⊢
    have hGb : HG b' = some (.spare k' e') := by rw [← hHG, Heap.set_same]
    clear hHG hb' htk hb4 hH29
    have hb4 := lk5.blk
    have lk6 := lk5.put z.2 false
    have hGb2 : ¬ b' = b4 := fun e => by rw [e, hb4] at hGb; cases hGb
    replace lk5 := Shut.mk lk5
    replace lk6 := Shut.mk lk6
    simp [gz, *]
    (focus repeat' first|refine ga ?_|(refine gb ?_;try simp[gz, *])|refine gk fun _ _=>?_|refine gc ?_ ?_|exact gr _|refine gi fun _=>?_|(refine gn ?_ ?_;focus(intros;simp[*];done)))
    exact ⟨by kernel_rfl, rfl, p, _, by omega, Sub.refl _, z.2, false, out ++ [⟨x1, j, x2, x3, bb⟩], .own b' k' e', hnl1, by omega, h4.out, by simp only [List.length_append, List.length_singleton]; omega, by simp, by simp [TokIn, Heap.set_get, hGb, hGb2], fun b2 k2 e2 q1 => by injection q1 with q1; subst q1; exact hBb', lk6.out⟩
   ·replace h4 := h4.out
    simp only [hx4, if_false] at h4
    subst h4
    simp [gz, *]
    (focus repeat' first|refine ga ?_|(refine gb ?_;try simp[gz, *])|refine gk fun _ _=>?_|refine gc ?_ ?_|exact gr _|refine gi fun _=>?_|(refine gn ?_ ?_;focus(intros;simp[*];done)))
    intro b9 hb9; simp only [Fresh, Heap.set_none] at hb9; have n_b9_b4 := ne_of_fresh hb4 (b := b9) (by simp [*]); have n_b9_b3 := ne_of_fresh hb3 (b := b9) (by simp [*]); try simp [gz, *]
    have m94 : ¬ b9 = b4 := fun e => n_b9_b4 e.symm
    have m93 : ¬ b9 = b3 := fun e => n_b9_b3 e.symm
    (focus repeat' first|refine ga ?_|(refine gb ?_;try simp[gz, *])|refine gk fun _ _=>?_|refine gc ?_ ?_|exact gr _|refine gi fun _=>?_|(refine gn ?_ ?_;focus(intros;simp[*];done)))
    intro b10 hb10
    simp only [Fresh, Heap.set_none] at hb10
    obtain ⟨n109', n109, hb10⟩ := hb10
    have n104 := ne_of_fresh hl hb10
    have n103 := ne_of_fresh hk3 hb10
    have m104 : ¬ b10 = b4 := fun e => n104 e.symm
    have m103 : ¬ b10 = b3 := fun e => n103 e.symm
    try simp [Heap.set_get, *]
    (focus repeat' first|refine ga ?_|(refine gb ?_;try simp[gz, *])|refine gk fun _ _=>?_|refine gc ?_ ?_|exact gr _|refine gi fun _=>?_|(refine gn ?_ ?_;focus(intros;simp[*];done)))
    obtain ⟨H, hH⟩ : ∃ H, ((k2.set b9 (.cells [.int .i64 x1, .int .i64 0, .str x2, .int .i64 x3, .bool false])).set b10 (.cells [.int .i64 x4, .int .i64 x5])) = H := ⟨_, rfl⟩
    have hH0 : ((((k2.set b9 (.cells [.int .i64 0, .int .i64 0, .str [], .int .i64 0, .bool false])).set b10 (.cells [.int .i64 0, .int .i64 0])).set b9 (.cells [.int .i64 x1, .int .i64 0, .str x2, .int .i64 x3, .bool false])).set b10 (.cells [.int .i64 x4, .int .i64 x5])) = H := by
     rw [← hH]
     funext c
     by_cases e1 : c = b10
     ·subst e1; simp [Heap.set_get]
     ·by_cases e2 : c = b9
      ·subst e2; simp [Heap.set_get, e1]
      ·simp [Heap.set_get, e1, e2]
    refine awp_heap (fun x => x = H) hH0 (fun H' hx => ?_)
    subst hx
    have hH9 : H' b9 = some (.cells [.int .i64 x1, .int .i64 0, .str x2, .int .i64 x3, .bool false]) := by rw [← hH, Heap.set_other _ _ _ _ n109', Heap.set_same]
    have hH10 : H' b10 = some (.cells [.int .i64 x4, .int .i64 x5]) := by rw [← hH, Heap.set_same]
    have hH3 : H' b3 = some (.cells Z28) := by rw [← hH, Heap.set_other _ _ _ _ n103, Heap.set_other _ _ _ _ n_b9_b3]; exact hk3
    have lk3 : Lx (Heap.bk Bb tk) H' s z.2 bb b4 := by rw [← hH]; exact (lk2.extra hb9 _).extra (by rw [Heap.set_other _ _ _ _ n109]; exact hb10) _
    have zb9 := lk2.isNone hb9
    clear hH0 hH lk2 hb9 hb10 hl hk3 hb3 hb4 htk hsk
    have hb4 := lk3.blk
    have htk := tokIn_bk lk3.sub hno
    have hsk : AL.Sub h H' := (hsub0.trans hBs.out).trans lk3.sub
    replace hsk := Shut.mk hsk
    refine awp_region_stores [b10] [1] [] [0,2] follows (by kernel_rfl) rfl (by kernel_rfl) ?_; simp [Heap.set_get, Heap.plus_set, evc_nil, evc_cons, estep, *]
    (focus repeat' first|refine ga ?_|(refine gb ?_;try simp[gz, *])|refine gk fun _ _=>?_|refine gc ?_ ?_|exact gr _|refine gi fun _=>?_|(refine gn ?_ ?_;focus(intros;simp[*];done)))
    refine ⟨_, ⟨_, rfl, ?_, _, rfl, rfl⟩, ?_, hsk.out.loc hb30 _⟩
    ·simp [Heap.set_get]
    ·simp [aresult, Heap.set_get]
end Go.Proofs.YtcbgpjlcfkkdlaaGreatDoor

namespace Go.Proofs.YtcbgpjlcfkkdlaaGreatDoor
open Go Go.AL Go.Proofs
theorem loop_z (T : List Tk) (n : Nat) (at_ : Int) (hs : Toks T) (hn : n ≤ 1000000) (tm : Term T n) : ∀ S, Good T S → InK S (argK (.loop at_)) → ArgOk T (.loop at_) S → need T (.loop at_) S ≤ n + 1 → Zr T (.loop at_) (n + 1) S (run T (n + 1) (.loop at_) S) := by
 intro S hg hin ha hnd
 simp only[run,Z]
 simp only[ArgOk]at ha
 have z:Zt T S S 0 []:=Zt.start hg InK.nil
 obtain ⟨S1,e1,z1⟩:=z.must [40]
 try simp only[e1,Z]
 obtain ⟨t,ht_t⟩:∃ x,Sh (peekL T S1=x):=⟨_,⟨rfl⟩⟩
 try simp only[ht_t.out,Z]
 have hx_t:=tok_ok hs (peek_mem z1.good ht_t.out)
 cases c1:isL T [59] S1
 try simp only[c1,Z]
 cases c2:isL T [108, 111, 99, 97, 108] S1
 try simp only[c2,Z]
 obtain ⟨l1,S2,v1,h1,e2,hl1,z2⟩:=Zt.one 1 (z1.call (op:=.expr) tm hnd)
 try simp only[h1,e2,Z]
 obtain ⟨v2,S3,e3,z3⟩:=z2.add 28 t.pos [] 0 [v1]
 try simp only[e3,Z]
 obtain ⟨S4,e4,z4⟩:=z3.must [59]
 try simp only[e4,Z]
 cases c3:isL T [59] S4
 try simp only[c3,Z]
 obtain ⟨l2,S5,v3,h2,e5,hl2,z5⟩:=Zt.one 1 (z4.call (op:=.expr) tm hnd)
 try simp only[h2,e5,Z]
 obtain ⟨S6,e6,z6⟩:=z5.must [59]
 try simp only[e6,Z]
 cases c4:isL T [41] S6
 try simp only[c4,Z]
 obtain ⟨l3,S7,v4,h3,e7,hl3,z7⟩:=Zt.one 1 (z6.call (op:=.expr) tm hnd)
 try simp only[h3,e7,Z]
 obtain ⟨S8,e8,z8⟩:=z7.must [41]
 try simp only[e8,Z]
 obtain ⟨l4,S9,v5,h4,e9,hl4,z9⟩:=Zt.one 0 (z8.call (op:=.body) tm hnd)
 try simp only[h4,e9,Z]
 obtain ⟨v6,S10,e10,z10⟩:=z9.add 32 at_ [] 0 [v2, v3, v4, v5]
 try simp only[e10,Z]
 exact z10.fin
 try simp only[c4,Z]
 have h0:=z6.k0 (isL_kind c4)
 obtain ⟨S11,e11,z11⟩:=z6.must [41]
 try simp only[e11,Z]
 obtain ⟨l5,S12,v7,h5,e12,hl5,z12⟩:=Zt.one 0 (z11.call (op:=.body) tm hnd (.inr h0))
 try simp only[h5,e12,Z]
 obtain ⟨v8,S13,e13,z13⟩:=z12.add 32 at_ [] 0 [v2, v3, -1, v7]
 try simp only[e13,Z]
 exact z13.fin
 have h0:=z4.k0 (isL_kind c3)
 obtain ⟨S14,e14,hz1,z14⟩:=z4.step (isL_kind c3)
 try simp only[c3,e14,Z]
 cases c5:isL T [41] S14
 try simp only[c5,Z]
 obtain ⟨l6,S15,v9,h6,e15,hl6,z15⟩:=Zt.one 1 (z14.call (op:=.expr) tm hnd (.inr h0))
 try simp only[h6,e15,Z]
 obtain ⟨S16,e16,z16⟩:=z15.must [41]
 try simp only[e16,Z]
 obtain ⟨l7,S17,v10,h7,e17,hl7,z17⟩:=Zt.one 0 (z16.call (op:=.body) tm hnd (.inr h0))
 try simp only[h7,e17,Z]
 obtain ⟨v11,S18,e18,z18⟩:=z17.add 32 at_ [] 0 [v2, -1, v9, v10]
 try simp only[e18,Z]
 exact z18.fin
 try simp only[c5,Z]
 obtain ⟨S19,e19,z19⟩:=z14.must [41]
 try simp only[e19,Z]
 obtain ⟨l8,S20,v12,h8,e20,hl8,z20⟩:=Zt.one 0 (z19.call (op:=.body) tm hnd (.inr h0))
 try simp only[h8,e20,Z]
 obtain ⟨v13,S21,e21,z21⟩:=z20.add 32 at_ [] 0 [v2, -1, -1, v12]
 try simp only[e21,Z]
 exact z21.fin
 have h0:=z1.k0 (isL_kind c2)
 obtain ⟨S22,e22,hz2,z22⟩:=z1.step (isL_kind c2)
 try simp only[c2,e22,Z]
 obtain ⟨x1,S23,e23,l9,z23⟩:=z22.name hs
 try simp only[e23,Z]
 cases c6:isL T [61] S23
 try simp only[c6,Z]
 obtain ⟨v14,S24,e24,z24⟩:=z23.add 27 t.pos x1 0 [-1]
 try simp only[e24,Z]
 obtain ⟨S25,e25,z25⟩:=z24.must [59]
 try simp only[e25,Z]
 cases c7:isL T [59] S25
 try simp only[c7,Z]
 obtain ⟨l10,S26,v15,h9,e26,hl9,z26⟩:=Zt.one 1 (z25.call (op:=.expr) tm hnd (.inr h0))
 try simp only[h9,e26,Z]
 obtain ⟨S27,e27,z27⟩:=z26.must [59]
 try simp only[e27,Z]
 cases c8:isL T [41] S27
 try simp only[c8,Z]
 obtain ⟨l11,S28,v16,h10,e28,hl10,z28⟩:=Zt.one 1 (z27.call (op:=.expr) tm hnd (.inr h0))
 try simp only[h10,e28,Z]
 obtain ⟨S29,e29,z29⟩:=z28.must [41]
 try simp only[e29,Z]
 obtain ⟨l12,S30,v17,h11,e30,hl11,z30⟩:=Zt.one 0 (z29.call (op:=.body) tm hnd (.inr h0))
 try simp only[h11,e30,Z]
 obtain ⟨v18,S31,e31,z31⟩:=z30.add 32 at_ [] 0 [v14, v15, v16, v17]
 try simp only[e31,Z]
 exact z31.fin
 try simp only[c8,Z]
 obtain ⟨S32,e32,z32⟩:=z27.must [41]
 try simp only[e32,Z]
 obtain ⟨l13,S33,v19,h12,e33,hl12,z33⟩:=Zt.one 0 (z32.call (op:=.body) tm hnd (.inr h0))
 try simp only[h12,e33,Z]
 obtain ⟨v20,S34,e34,z34⟩:=z33.add 32 at_ [] 0 [v14, v15, -1, v19]
 try simp only[e34,Z]
 exact z34.fin
 obtain ⟨S35,e35,hz3,z35⟩:=z25.step (isL_kind c7)
 try simp only[c7,e35,Z]
 cases c9:isL T [41] S35
 try simp only[c9,Z]
 obtain ⟨l14,S36,v21,h13,e36,hl13,z36⟩:=Zt.one 1 (z35.call (op:=.expr) tm hnd (.inr h0))
 try simp only[h13,e36,Z]
 obtain ⟨S37,e37,z37⟩:=z36.must [41]
 try simp only[e37,Z]
 obtain ⟨l15,S38,v22,h14,e38,hl14,z38⟩:=Zt.one 0 (z37.call (op:=.body) tm hnd (.inr h0))
 try simp only[h14,e38,Z]
 obtain ⟨v23,S39,e39,z39⟩:=z38.add 32 at_ [] 0 [v14, -1, v21, v22]
 try simp only[e39,Z]
 exact z39.fin
 try simp only[c9,Z]
 obtain ⟨S40,e40,z40⟩:=z35.must [41]
 try simp only[e40,Z]
 obtain ⟨l16,S41,v24,h15,e41,hl15,z41⟩:=Zt.one 0 (z40.call (op:=.body) tm hnd (.inr h0))
 try simp only[h15,e41,Z]
 obtain ⟨v25,S42,e42,z42⟩:=z41.add 32 at_ [] 0 [v14, -1, -1, v24]
 try simp only[e42,Z]
 exact z42.fin
 obtain ⟨S43,e43,hz4,z43⟩:=z23.step (isL_kind c6)
 try simp only[c6,e43,Z]
 obtain ⟨l17,S44,v26,h16,e44,hl16,z44⟩:=Zt.one 1 (z43.call (op:=.expr) tm hnd (.inr h0))
 try simp only[h16,e44,Z]
 obtain ⟨v27,S45,e45,z45⟩:=z44.add 27 t.pos x1 0 [v26]
 try simp only[e45,Z]
 obtain ⟨S46,e46,z46⟩:=z45.must [59]
 try simp only[e46,Z]
 cases c10:isL T [59] S46
 try simp only[c10,Z]
 obtain ⟨l18,S47,v28,h17,e47,hl17,z47⟩:=Zt.one 1 (z46.call (op:=.expr) tm hnd (.inr h0))
 try simp only[h17,e47,Z]
 obtain ⟨S48,e48,z48⟩:=z47.must [59]
 try simp only[e48,Z]
 cases c11:isL T [41] S48
 try simp only[c11,Z]
 obtain ⟨l19,S49,v29,h18,e49,hl18,z49⟩:=Zt.one 1 (z48.call (op:=.expr) tm hnd (.inr h0))
 try simp only[h18,e49,Z]
 obtain ⟨S50,e50,z50⟩:=z49.must [41]
 try simp only[e50,Z]
 obtain ⟨l20,S51,v30,h19,e51,hl19,z51⟩:=Zt.one 0 (z50.call (op:=.body) tm hnd (.inr h0))
 try simp only[h19,e51,Z]
 obtain ⟨v31,S52,e52,z52⟩:=z51.add 32 at_ [] 0 [v27, v28, v29, v30]
 try simp only[e52,Z]
 exact z52.fin
 try simp only[c11,Z]
 obtain ⟨S53,e53,z53⟩:=z48.must [41]
 try simp only[e53,Z]
 obtain ⟨l21,S54,v32,h20,e54,hl20,z54⟩:=Zt.one 0 (z53.call (op:=.body) tm hnd (.inr h0))
 try simp only[h20,e54,Z]
 obtain ⟨v33,S55,e55,z55⟩:=z54.add 32 at_ [] 0 [v27, v28, -1, v32]
 try simp only[e55,Z]
 exact z55.fin
 obtain ⟨S56,e56,hz5,z56⟩:=z46.step (isL_kind c10)
 try simp only[c10,e56,Z]
 cases c12:isL T [41] S56
 try simp only[c12,Z]
 obtain ⟨l22,S57,v34,h21,e57,hl21,z57⟩:=Zt.one 1 (z56.call (op:=.expr) tm hnd (.inr h0))
 try simp only[h21,e57,Z]
 obtain ⟨S58,e58,z58⟩:=z57.must [41]
 try simp only[e58,Z]
 obtain ⟨l23,S59,v35,h22,e59,hl22,z59⟩:=Zt.one 0 (z58.call (op:=.body) tm hnd (.inr h0))
 try simp only[h22,e59,Z]
 obtain ⟨v36,S60,e60,z60⟩:=z59.add 32 at_ [] 0 [v27, -1, v34, v35]
 try simp only[e60,Z]
 exact z60.fin
 try simp only[c12,Z]
 obtain ⟨S61,e61,z61⟩:=z56.must [41]
 try simp only[e61,Z]
 obtain ⟨l24,S62,v37,h23,e62,hl23,z62⟩:=Zt.one 0 (z61.call (op:=.body) tm hnd (.inr h0))
 try simp only[h23,e62,Z]
 obtain ⟨v38,S63,e63,z63⟩:=z62.add 32 at_ [] 0 [v27, -1, -1, v37]
 try simp only[e63,Z]
 exact z63.fin
 have h0:=z1.k0 (isL_kind c1)
 obtain ⟨S64,e64,hz6,z64⟩:=z1.step (isL_kind c1)
 try simp only[c1,e64,Z]
 cases c13:isL T [59] S64
 try simp only[c13,Z]
 obtain ⟨l25,S65,v39,h24,e65,hl24,z65⟩:=Zt.one 1 (z64.call (op:=.expr) tm hnd (.inr h0))
 try simp only[h24,e65,Z]
 obtain ⟨S66,e66,z66⟩:=z65.must [59]
 try simp only[e66,Z]
 cases c14:isL T [41] S66
 try simp only[c14,Z]
 obtain ⟨l26,S67,v40,h25,e67,hl25,z67⟩:=Zt.one 1 (z66.call (op:=.expr) tm hnd (.inr h0))
 try simp only[h25,e67,Z]
 obtain ⟨S68,e68,z68⟩:=z67.must [41]
 try simp only[e68,Z]
 obtain ⟨l27,S69,v41,h26,e69,hl26,z69⟩:=Zt.one 0 (z68.call (op:=.body) tm hnd (.inr h0))
 try simp only[h26,e69,Z]
 obtain ⟨v42,S70,e70,z70⟩:=z69.add 32 at_ [] 0 [-1, v39, v40, v41]
 try simp only[e70,Z]
 exact z70.fin
 try simp only[c14,Z]
 obtain ⟨S71,e71,z71⟩:=z66.must [41]
 try simp only[e71,Z]
 obtain ⟨l28,S72,v43,h27,e72,hl27,z72⟩:=Zt.one 0 (z71.call (op:=.body) tm hnd (.inr h0))
 try simp only[h27,e72,Z]
 obtain ⟨v44,S73,e73,z73⟩:=z72.add 32 at_ [] 0 [-1, v39, -1, v43]
 try simp only[e73,Z]
 exact z73.fin
 obtain ⟨S74,e74,hz7,z74⟩:=z64.step (isL_kind c13)
 try simp only[c13,e74,Z]
 cases c15:isL T [41] S74
 try simp only[c15,Z]
 obtain ⟨l29,S75,v45,h28,e75,hl28,z75⟩:=Zt.one 1 (z74.call (op:=.expr) tm hnd (.inr h0))
 try simp only[h28,e75,Z]
 obtain ⟨S76,e76,z76⟩:=z75.must [41]
 try simp only[e76,Z]
 obtain ⟨l30,S77,v46,h29,e77,hl29,z77⟩:=Zt.one 0 (z76.call (op:=.body) tm hnd (.inr h0))
 try simp only[h29,e77,Z]
 obtain ⟨v47,S78,e78,z78⟩:=z77.add 32 at_ [] 0 [-1, -1, v45, v46]
 try simp only[e78,Z]
 exact z78.fin
 try simp only[c15,Z]
 obtain ⟨S79,e79,z79⟩:=z74.must [41]
 try simp only[e79,Z]
 obtain ⟨l31,S80,v48,h30,e80,hl30,z80⟩:=Zt.one 0 (z79.call (op:=.body) tm hnd (.inr h0))
 try simp only[h30,e80,Z]
 obtain ⟨v49,S81,e81,z81⟩:=z80.add 32 at_ [] 0 [-1, -1, -1, v48]
 try simp only[e81,Z]
 exact z81.fin
theorem postfix_zl (T : List Tk) (n : Nat) (a : Tk) (i : Int) (hs : Toks T) (hn : n ≤ 1000000) (tm : Term T n) : ∀ Sq, Good T Sq → InK Sq (argK (.postLoop a.pos i)) → ArgOk T (.postLoop a.pos i) Sq → need T (.postLoop a.pos i) Sq ≤ n + 1 → Zr T (.postLoop a.pos i) (n + 1) Sq (run T (n + 1) (.postLoop a.pos i) Sq) := by
 intro Sq hg hin ha hnd
 simp only[run,Z]
 simp only[ArgOk]at ha
 have z:Zt T Sq Sq 0 [i]:=Zt.start hg hin
 by_cases hgo:Sq.fc=0
 try simp only[if_pos hgo,Z]
 have h0:=z.h0 hgo
 obtain ⟨t,ht_t⟩:∃ x,Sh (peekL T Sq=x):=⟨_,⟨rfl⟩⟩
 try simp only[ht_t.out,Z]
 have hx_t:=tok_ok hs (peek_mem z.good ht_t.out)
 cases hln:t.line
 try simp only[hln,Z]
 cases c1:isL T [46] Sq
 try simp only[c1,Z]
 cases c2:isL T [91] Sq
 try simp only[c2,Z]
 cases c3:isL T [40] Sq
 try simp only[c3,Z]
 cases d1:decide (t.kind = 5)
 try simp only[ef d1,d1,Z]
 exact z.fin
 try simp only[et d1,d1,Z]
 cases hst:isStep t.text
 try simp only[hst,Z]
 exact z.fin
 try simp only[hst,Z]
 cases d2:isTarget (kindL Sq i)
 try simp only[d2,Z]
 obtain ⟨S2,e2,z2⟩:=z.wrong 30
 try simp only[e2,Z]
 exact z2.fin
 try simp only[d2,Z]
 obtain ⟨S3,e3,hz1,z3⟩:=z.step (kk ht_t d1)
 try simp only[e3,Z]
 obtain ⟨v2,S4,e4,z4⟩:=z3.add 13 a.pos t.text 1 [i]
 try simp only[e4,Z]
 exact z4.fin
 try simp only[c3,Z]
 obtain ⟨S5,e5,hz2,z5⟩:=z.step (isL_kind c3)
 try simp only[e5,Z]
 obtain ⟨l2,S6,h2,hl2,z6⟩:=Zt.lst (z5.call (op:=(.some [41])) tm hnd (.inr h0))
 simp only[argK,loopK,Option.getD_none,List.length_nil]at hl2
 try simp only[h2,Z]
 obtain ⟨v3,S7,e6,z7⟩:=z6.add 17 a.pos [] 0 (i :: l2)
 try simp only[e6,Z]
 exact Zt.tail (z7.call (op:=(.postLoop a.pos v3)) tm hnd (.inr h0))
 try simp only[c2,Z]
 obtain ⟨S8,e7,hz3,z8⟩:=z.step (isL_kind c2)
 try simp only[e7,Z]
 obtain ⟨l3,S9,v4,h3,e8,hl3,z9⟩:=Zt.one 1 (z8.call (op:=.expr) tm hnd (.inr h0))
 try simp only[h3,e8,Z]
 obtain ⟨S10,e9,z10⟩:=z9.must [93]
 try simp only[e9,Z]
 obtain ⟨v5,S11,e10,z11⟩:=z10.add 14 a.pos [] 0 [i, v4]
 try simp only[e10,Z]
 exact Zt.tail (z11.call (op:=(.postLoop a.pos v5)) tm hnd (.inr h0))
 try simp only[c1,Z]
 obtain ⟨S12,e11,hz4,z12⟩:=z.step (isL_kind c1)
 try simp only[e11,Z]
 obtain ⟨x1,S13,e12,l4,z13⟩:=z12.name hs
 try simp only[e12,Z]
 obtain ⟨v6,S14,e13,z14⟩:=z13.add 15 a.pos x1 0 [i]
 try simp only[e13,Z]
 exact Zt.tail (z14.call (op:=(.postLoop a.pos v6)) tm hnd (.inr h0))
 try simp only[hln,Z]
 cases c4:isL T [46] Sq
 try simp only[c4,Z]
 cases c5:isL T [91] Sq
 try simp only[c5,Z]
 cases c6:isL T [40] Sq
 try simp only[c6,Z]
 cases d3:decide (t.kind = 5)
 try simp only[ef d3,d3,Z]
 exact z.fin
 try simp only[et d3,d3,Z]
 cases hst:isStep t.text
 try simp only[hst,Z]
 exact z.fin
 try simp only[hst,Z]
 exact z.fin
 try simp only[c6,Z]
 cases d4:decide (t.kind = 5)
 try simp only[ef d4,d4,Z]
 exact z.fin
 try simp only[et d4,d4,Z]
 cases hst:isStep t.text
 try simp only[hst,Z]
 exact z.fin
 try simp only[hst,Z]
 exact z.fin
 try simp only[c5,Z]
 cases c7:isL T [40] Sq
 try simp only[c7,Z]
 cases d5:decide (t.kind = 5)
 try simp only[ef d5,d5,Z]
 exact z.fin
 try simp only[et d5,d5,Z]
 cases hst:isStep t.text
 try simp only[hst,Z]
 exact z.fin
 try simp only[hst,Z]
 exact z.fin
 try simp only[c7,Z]
 cases d6:decide (t.kind = 5)
 try simp only[ef d6,d6,Z]
 exact z.fin
 try simp only[et d6,d6,Z]
 cases hst:isStep t.text
 try simp only[hst,Z]
 exact z.fin
 try simp only[hst,Z]
 exact z.fin
 try simp only[c4,Z]
 obtain ⟨S15,e14,hz5,z15⟩:=z.step (isL_kind c4)
 try simp only[e14,Z]
 obtain ⟨x2,S16,e15,l5,z16⟩:=z15.name hs
 try simp only[e15,Z]
 obtain ⟨v7,S17,e16,z17⟩:=z16.add 15 a.pos x2 0 [i]
 try simp only[e16,Z]
 exact Zt.tail (z17.call (op:=(.postLoop a.pos v7)) tm hnd (.inr h0))
 try simp only[if_neg hgo,Z]
 exact z.fin
theorem cases_zl (T : List Tk) (n : Nat) (at_ : Int) (ot : Bool) (kids : List Int) (hs : Toks T) (hn : n ≤ 1000000) (tm : Term T n) : ∀ Sq, Good T Sq → InK Sq (argK (.casesLoop ot kids)) → ArgOk T (.casesLoop ot kids) Sq → need T (.casesLoop ot kids) Sq ≤ n + 1 → Zr T (.casesLoop ot kids) (n + 1) Sq (run T (n + 1) (.casesLoop ot kids) Sq) := by
 intro Sq hg hin ha hnd
 simp only[run,Z]
 simp only[ArgOk]at ha
 have z:Zt T Sq Sq 0 kids:=Zt.start hg hin
 by_cases hgo:Sq.fc = 0 ∧ isL T [125] Sq = false
 try simp only[if_pos hgo,Z]
 have h0:=z.h0 hgo.1
 obtain ⟨t,ht_t⟩:∃ x,Sh (peekL T Sq=x):=⟨_,⟨rfl⟩⟩
 try simp only[ht_t.out,Z]
 have hx_t:=tok_ok hs (peek_mem z.good ht_t.out)
 cases c1:isL T [99, 97, 115, 101] Sq
 try simp only[c1,Z]
 cases ot
 try simp only[Z]
 cases c2:isL T [100, 101, 102, 97, 117, 108, 116] Sq
 try simp only[c2,Z]
 obtain ⟨S3,e3,z3⟩:=z.wrong 5
 try simp only[e3,Z]
 obtain ⟨S4,e4,z4⟩:=z3.must [58]
 try simp only[e4,Z]
 obtain ⟨kids1,S5,h2,hl2,z5⟩:=Zt.lst (z4.call (op:=(.caseLoop [-1])) tm hnd (.inr h0))
 simp only[argK,loopK,Option.getD_some,List.length_cons,List.length_nil]at hl2
 try simp only[h2,Z]
 obtain ⟨v2,S6,e5,z6⟩:=z5.add 24 t.pos [] 0 kids1
 try simp only[e5,Z]
 exact Zt.tail (z6.call (op:=(.casesLoop false (kids ++ [v2]))) tm hnd (.inr h0))
 obtain ⟨S7,e6,hz1,z7⟩:=z.step (isL_kind c2)
 try simp only[c2,e6,Z]
 obtain ⟨S8,e7,z8⟩:=z7.must [58]
 try simp only[e7,Z]
 obtain ⟨kids1,S9,h3,hl3,z9⟩:=Zt.lst (z8.call (op:=(.caseLoop [-1])) tm hnd (.inr h0))
 simp only[argK,loopK,Option.getD_some,List.length_cons,List.length_nil]at hl3
 try simp only[h3,Z]
 obtain ⟨v3,S10,e8,z10⟩:=z9.add 24 t.pos [] 0 kids1
 try simp only[e8,Z]
 exact Zt.tail (z10.call (op:=(.casesLoop true (kids ++ [v3]))) tm hnd (.inr h0))
 try simp only[Z]
 obtain ⟨S11,e9,z11⟩:=z.wrong 5
 try simp only[e9,Z]
 obtain ⟨S12,e10,z12⟩:=z11.must [58]
 try simp only[e10,Z]
 obtain ⟨kids1,S13,h4,hl4,z13⟩:=Zt.lst (z12.call (op:=(.caseLoop [-1])) tm hnd (.inr h0))
 simp only[argK,loopK,Option.getD_some,List.length_cons,List.length_nil]at hl4
 try simp only[h4,Z]
 obtain ⟨v4,S14,e11,z14⟩:=z13.add 24 t.pos [] 0 kids1
 try simp only[e11,Z]
 exact Zt.tail (z14.call (op:=(.casesLoop true (kids ++ [v4]))) tm hnd (.inr h0))
 obtain ⟨S15,e12,hz2,z15⟩:=z.step (isL_kind c1)
 try simp only[c1,e12,Z]
 obtain ⟨l5,S16,v5,h5,e13,hl5,z16⟩:=Zt.one 1 (z15.call (op:=.expr) tm hnd (.inr h0))
 try simp only[h5,e13,Z]
 obtain ⟨S17,e14,z17⟩:=z16.must [58]
 try simp only[e14,Z]
 obtain ⟨kids1,S18,h6,hl6,z18⟩:=Zt.lst (z17.call (op:=(.caseLoop [v5])) tm hnd (.inr h0))
 simp only[argK,loopK,Option.getD_some,List.length_cons,List.length_nil]at hl6
 try simp only[h6,Z]
 obtain ⟨v6,S19,e15,z19⟩:=z18.add 24 t.pos [] 0 kids1
 try simp only[e15,Z]
 exact Zt.tail (z19.call (op:=(.casesLoop ot (kids ++ [v6]))) tm hnd (.inr h0))
 try simp only[if_neg hgo,Z]
 exact z.fin
theorem literal_z (T : List Tk) (n : Nat) (hs : Toks T) (hn : n ≤ 1000000) (tm : Term T n) : ∀ S, Good T S → InK S (argK .literal) → ArgOk T .literal S → need T .literal S ≤ n + 1 → Zr T .literal (n + 1) S (run T (n + 1) .literal S) := by
 intro S hg hin ha hnd
 simp only[run,Z]
 simp only[ArgOk]at ha
 have z:Zt T S S 0 []:=Zt.start hg InK.nil
 obtain ⟨t,ht_t⟩:∃ x,Sh (peekL T S=x):=⟨_,⟨rfl⟩⟩
 try simp only[ht_t.out,Z]
 have hx_t:=tok_ok hs (peek_mem z.good ht_t.out)
 cases c1:isL T [45] S
 try simp only[c1,Z]
 cases d1:decide (t.kind = 3)
 try simp only[ef d1,d1,Z]
 cases d2:decide (t.kind = 4)
 try simp only[ef d2,d2,Z]
 cases c2:isL T [110, 117, 108, 108] S
 try simp only[c2,Z]
 cases c3:isL T [116, 114, 117, 101] S
 try simp only[c3,Z]
 cases c4:isL T [102, 97, 108, 115, 101] S
 try simp only[c4,Z]
 obtain ⟨S1,e1,z1⟩:=z.wrong 5
 try simp only[e1,Z]
 exact z1.fin
 have h0:=z.k0 (isL_kind c4)
 obtain ⟨S2,e2,hz1,z2⟩:=z.step (isL_kind c4)
 try simp only[c4,e2,Z]
 obtain ⟨v1,S3,e3,z3⟩:=z2.add 3 t.pos [] 0 []
 try simp only[e3,Z]
 exact z3.fin
 have h0:=z.k0 (isL_kind c3)
 obtain ⟨S4,e4,hz2,z4⟩:=z.step (isL_kind c3)
 try simp only[c3,e4,Z]
 obtain ⟨v2,S5,e5,z5⟩:=z4.add 2 t.pos [] 0 []
 try simp only[e5,Z]
 exact z5.fin
 have h0:=z.k0 (isL_kind c2)
 obtain ⟨S6,e6,hz3,z6⟩:=z.step (isL_kind c2)
 try simp only[c2,e6,Z]
 obtain ⟨v3,S7,e7,z7⟩:=z6.add 1 t.pos [] 0 []
 try simp only[e7,Z]
 exact z7.fin
 try simp only[et d2,d2,Z]
 have h0:=z.k0 (kk ht_t d2)
 obtain ⟨S8,e8,hz4,z8⟩:=z.step (kk ht_t d2)
 try simp only[e8,Z]
 obtain ⟨v4,S9,e9,z9⟩:=z8.add 5 t.pos t.text 0 []
 try simp only[e9,Z]
 exact z9.fin
 try simp only[et d1,d1,Z]
 have h0:=z.k0 (kk ht_t d1)
 obtain ⟨S10,e10,hz5,z10⟩:=z.step (kk ht_t d1)
 try simp only[e10,Z]
 obtain ⟨v5,S11,e11,z11⟩:=z10.add 4 t.pos [] t.num []
 try simp only[e11,Z]
 exact z11.fin
 have h0:=z.k0 (isL_kind c1)
 obtain ⟨S12,e12,hz6,z12⟩:=z.step (isL_kind c1)
 try simp only[c1,e12,Z]
 obtain ⟨u,ht_u⟩:∃ x,Sh (peekL T S12=x):=⟨_,⟨rfl⟩⟩
 try simp only[ht_u.out,Z]
 have hx_u:=tok_ok hs (peek_mem z12.good ht_u.out)
 cases d3:decide (u.kind = 3)
 try simp only[ef d3,d3,Z]
 obtain ⟨S13,e13,z13⟩:=z12.wrong 5
 try simp only[e13,Z]
 exact z13.fin
 try simp only[et d3,d3,Z]
 obtain ⟨S14,e14,hz7,z14⟩:=z12.step (kk ht_u d3)
 try simp only[e14,Z]
 obtain ⟨v6,S15,e15,z15⟩:=z14.add 4 t.pos [] (IntKind.i64.wrap (-u.num)) []
 try simp only[e15,Z]
 exact z15.fin
theorem local_z (T : List Tk) (n : Nat) (at_ : Int) (hs : Toks T) (hn : n ≤ 1000000) (tm : Term T n) : ∀ S, Good T S → InK S (argK (.locl at_)) → ArgOk T (.locl at_) S → need T (.locl at_) S ≤ n + 1 → Zr T (.locl at_) (n + 1) S (run T (n + 1) (.locl at_) S) := by
 intro S hg hin ha hnd
 simp only[run,Z]
 simp only[ArgOk]at ha
 have z:Zt T S S 0 []:=Zt.start hg InK.nil
 cases c1:isL T [102, 117, 110, 99, 116, 105, 111, 110] S
 try simp only[c1,Z]
 obtain ⟨x1,S1,e1,l1,z1⟩:=z.name hs
 try simp only[e1,Z]
 cases c2:isL T [61] S1
 try simp only[c2,Z]
 obtain ⟨v1,S2,e2,z2⟩:=z1.add 27 at_ x1 0 [-1]
 try simp only[e2,Z]
 obtain ⟨S3,e3,z3⟩:=z2.fend
 try simp only[e3,Z]
 exact z3.fin
 have h0:=z1.k0 (isL_kind c2)
 obtain ⟨S4,e4,hz1,z4⟩:=z1.step (isL_kind c2)
 try simp only[c2,e4,Z]
 obtain ⟨l2,S5,v2,h1,e5,hl1,z5⟩:=Zt.one 1 (z4.call (op:=.expr) tm hnd (.inr h0))
 try simp only[h1,e5,Z]
 obtain ⟨v3,S6,e6,z6⟩:=z5.add 27 at_ x1 0 [v2]
 try simp only[e6,Z]
 obtain ⟨S7,e7,z7⟩:=z6.fend
 try simp only[e7,Z]
 exact z7.fin
 try simp only[c1,Z]
 have h0:=z.k0 (isL_kind c1)
 obtain ⟨nt,hnt,⟨lt,-⟩,hnt3,-⟩:=nextk z.good (isL_kind c1)
 have hx_nt:=tok_ok hs (List.mem_of_getElem? hnt)
 try simp only[hnt3,Z]
 cases d1:decide (nt.kind = 1)
 try simp only[ef d1,d1,Z]
 obtain ⟨S8,e8,hz2,z8⟩:=z.step (isL_kind c1)
 try simp only[e8,Z]
 obtain ⟨S9,e9,z9⟩:=z8.wrong 5
 try simp only[e9,Z]
 obtain ⟨mt,hmt⟩:∃ x,T.getD (min (S9.idx+1) (T.length-1)) default=x:=⟨_,rfl⟩
 have hx_mt:=hmt ▸ getD_short hs.short (min (S9.idx+1) (T.length-1))
 try simp only[hmt,Z]
 obtain ⟨l3,S10,v4,h2,e10,hl2,z10⟩:=Zt.one 1 (z9.call (op:=.function) tm hnd (.inr h0))
 try simp only[h2,e10,Z]
 obtain ⟨v5,S11,e11,z11⟩:=z10.add 27 at_ mt.text 0 [v4]
 try simp only[e11,Z]
 exact z11.fin
 try simp only[et d1,d1,Z]
 obtain ⟨mt,hmt⟩:∃ x,T.getD (min (S.idx+1) (T.length-1)) default=x:=⟨_,rfl⟩
 have hx_mt:=hmt ▸ getD_short hs.short (min (S.idx+1) (T.length-1))
 try simp only[hmt,Z]
 obtain ⟨l4,S12,v6,h3,e12,hl3,z12⟩:=Zt.one 1 (z.call (op:=.function) tm hnd (.inr h0))
 try simp only[h3,e12,Z]
 obtain ⟨v7,S13,e13,z13⟩:=z12.add 27 at_ mt.text 0 [v6]
 try simp only[e13,Z]
 exact z13.fin
theorem params_zl (T : List Tk) (n : Nat) (at_ : Int) (name : List UInt8) (kids : List Int) (hs : Toks T) (hn : n ≤ 1000000) (tm : Term T n) : ∀ Sq, Good T Sq → InK Sq (argK (.paramsLoop kids)) → ArgOk T (.paramsLoop kids) Sq → need T (.paramsLoop kids) Sq ≤ n + 1 → Zr T (.paramsLoop kids) (n + 1) Sq (run T (n + 1) (.paramsLoop kids) Sq) := by
 intro Sq hg hin ha hnd
 simp only[run,Z]
 simp only[ArgOk]at ha
 have z:Zt T Sq Sq 0 kids:=Zt.start hg hin
 by_cases hgo:Sq.fc = 0 ∧ isL T [41] Sq = false
 try simp only[if_pos hgo,Z]
 have h0:=z.h0 hgo.1
 obtain ⟨t,ht_t⟩:∃ x,Sh (peekL T Sq=x):=⟨_,⟨rfl⟩⟩
 try simp only[ht_t.out,Z]
 have hx_t:=tok_ok hs (peek_mem z.good ht_t.out)
 obtain ⟨x1,S3,e3,l1,z3⟩:=z.name hs
 try simp only[e3,Z]
 cases c1:isL T [61] S3
 try simp only[c1,Z]
 obtain ⟨v1,S4,e4,z4⟩:=z3.add 22 t.pos x1 0 [-1]
 try simp only[e4,Z]
 cases c2:isL T [44] S4
 try simp only[c2,Z]
 exact z4.fin
 obtain ⟨S8,e8,hz1,z8⟩:=z4.step (isL_kind c2)
 try simp only[c2,e8,Z]
 exact Zt.tail (z8.call (op:=(.paramsLoop (kids ++ [v1]))) tm hnd (.inr h0))
 obtain ⟨S9,e9,hz2,z9⟩:=z3.step (isL_kind c1)
 try simp only[c1,e9,Z]
 obtain ⟨l3,S10,v4,h2,e10,hl2,z10⟩:=Zt.one 1 (z9.call (op:=.expr) tm hnd (.inr h0))
 try simp only[h2,e10,Z]
 obtain ⟨v5,S11,e11,z11⟩:=z10.add 22 t.pos x1 0 [v4]
 try simp only[e11,Z]
 cases c3:isL T [44] S11
 try simp only[c3,Z]
 exact z11.fin
 obtain ⟨S15,e15,hz3,z15⟩:=z11.step (isL_kind c3)
 try simp only[c3,e15,Z]
 exact Zt.tail (z15.call (op:=(.paramsLoop (kids ++ [v5]))) tm hnd (.inr h0))
 try simp only[if_neg hgo,Z]
 exact z.fin
theorem named_z (T : List Tk) (n : Nat) (t : Tk) (hs : Toks T) (hn : n ≤ 1000000) (tm : Term T n) : ∀ S, Good T S → InK S (argK (.named t)) → ArgOk T (.named t) S → need T (.named t) S ≤ n + 1 → Zr T (.named t) (n + 1) S (run T (n + 1) (.named t) S) := by
 intro S hg hin ha hnd
 simp only[run,Z]
 simp only[ArgOk]at ha
 have z:Zt T S S 0 []:=Zt.start hg InK.nil
 try simp only[if_pos ha,Z]
 have h0:=z.h0 ha.1
 obtain ⟨nt,hnt⟩:∃ x,T[S.idx+1]?=some x:=⟨_,List.getElem?_eq_getElem ha.2⟩
 have hnt3:T.getD (S.idx+1) default=nt:=by simp [List.getD,hnt]
 have hx_nt:=tok_ok hs (List.mem_of_getElem? hnt)
 try simp only[hnt3,Z]
 obtain ⟨v1,S1,e1,z1⟩:=z.add 7 t.pos [] 0 []
 try simp only[e1,Z]
 obtain ⟨v2,S2,e2,z2⟩:=z1.add 15 t.pos nt.text 0 [v1]
 try simp only[e2,Z]
 cases d1:decide (t.text = [102, 117, 110, 99, 116, 105, 111, 110])
 try simp only[ef d1,d1,Z]
 obtain ⟨l1,S3,v3,h1,e3,hl1,z3⟩:=Zt.one 1 (z2.call (op:=.clas) tm hnd (.inr h0))
 try simp only[h1,e3,Z]
 obtain ⟨v4,S4,e4,z4⟩:=z3.add 12 t.pos [60, 45] 0 [v2, v3]
 try simp only[e4,Z]
 obtain ⟨v5,S5,e5,z5⟩:=z4.add 28 t.pos [] 0 [v4]
 try simp only[e5,Z]
 exact z5.fin
 try simp only[et d1,d1,Z]
 obtain ⟨l2,S6,v6,h2,e6,hl2,z6⟩:=Zt.one 1 (z2.call (op:=.function) tm hnd (.inr h0))
 try simp only[h2,e6,Z]
 obtain ⟨v7,S7,e7,z7⟩:=z6.add 12 t.pos [60, 45] 0 [v2, v6]
 try simp only[e7,Z]
 obtain ⟨v8,S8,e8,z8⟩:=z7.add 28 t.pos [] 0 [v7]
 try simp only[e8,Z]
 exact z8.fin
theorem table_zl (T : List Tk) (n : Nat) (kids : List Int) (hs : Toks T) (hn : n ≤ 1000000) (tm : Term T n) : ∀ Sq, Good T Sq → InK Sq (argK (.tableLoop kids)) → ArgOk T (.tableLoop kids) Sq → need T (.tableLoop kids) Sq ≤ n + 1 → Zr T (.tableLoop kids) (n + 1) Sq (run T (n + 1) (.tableLoop kids) Sq) := by
 intro Sq hg hin ha hnd
 simp only[run,Z]
 simp only[ArgOk]at ha
 have z:Zt T Sq Sq 0 kids:=Zt.start hg hin
 by_cases hgo:Sq.fc = 0 ∧ isL T [125] Sq = false
 try simp only[if_pos hgo,Z]
 have h0:=z.h0 hgo.1
 obtain ⟨l1,S2,v1,v2,h1,e2,e3,z2⟩:=Zt.mem (z.call (op:=.member) tm hnd (.inr h0))
 try simp only[h1,e2,e3,Z]
 cases c1:isL T [44] S2
 try simp only[c1,Z]
 exact z2.fin
 obtain ⟨S5,e6,hz1,z5⟩:=z2.step (isL_kind c1)
 try simp only[c1,e6,Z]
 exact Zt.tail (z5.call (op:=(.tableLoop (kids ++ [v1, v2]))) tm hnd (.inr h0))
 try simp only[if_neg hgo,Z]
 exact z.fin
theorem cases_zl1 (T : List Tk) (n : Nat) (at_ : Int) (kids1 : List Int) (hs : Toks T) (hn : n ≤ 1000000) (tm : Term T n) : ∀ Sq, Good T Sq → InK Sq (argK (.caseLoop kids1)) → ArgOk T (.caseLoop kids1) Sq → need T (.caseLoop kids1) Sq ≤ n + 1 → Zr T (.caseLoop kids1) (n + 1) Sq (run T (n + 1) (.caseLoop kids1) Sq) := by
 intro Sq hg hin ha hnd
 simp only[run,Z]
 simp only[ArgOk]at ha
 have z:Zt T Sq Sq 0 kids1:=Zt.start hg hin
 by_cases hgo:Sq.fc = 0 ∧ isL T [125] Sq = false ∧ isL T [99, 97, 115, 101] Sq = false ∧ isL T [100, 101, 102, 97, 117, 108, 116] Sq = false
 try simp only[if_pos hgo,Z]
 have h0:=z.h0 hgo.1
 obtain ⟨l2,S5,v2,h2,e5,hl2,z5⟩:=Zt.one 1 (z.call (op:=.stmt) tm hnd (.inr h0))
 try simp only[h2,e5,Z]
 exact Zt.tail (z5.call (op:=(.caseLoop (kids1 ++ [v2]))) tm hnd (.inr h0))
 try simp only[if_neg hgo,Z]
 exact z.fin
theorem enum_z (T : List Tk) (n : Nat) (at_ : Int) (hs : Toks T) (hn : n ≤ 1000000) (tm : Term T n) : ∀ S, Good T S → InK S (argK (.enum at_)) → ArgOk T (.enum at_) S → need T (.enum at_) S ≤ n + 1 → Zr T (.enum at_) (n + 1) S (run T (n + 1) (.enum at_) S) := by
 intro S hg hin ha hnd
 simp only[run,Z]
 simp only[ArgOk]at ha
 have z:Zt T S S 0 []:=Zt.start hg InK.nil
 obtain ⟨x1,S1,e1,l1,z1⟩:=z.name hs
 try simp only[e1,Z]
 obtain ⟨S2,e2,z2⟩:=z1.must [123]
 try simp only[e2,Z]
 obtain ⟨kids,S3,h1,hl1,z3⟩:=Zt.lst (z2.call (op:=(.enumLoop 0 [])) tm hnd)
 simp only[argK,loopK,Option.getD_some,List.length_cons,List.length_nil]at hl1
 try simp only[h1,Z]
 obtain ⟨S4,e3,z4⟩:=z3.must [125]
 try simp only[e3,Z]
 obtain ⟨v1,S5,e4,z5⟩:=z4.add 42 at_ x1 0 kids
 try simp only[e4,Z]
 exact z5.fin
theorem body_z (T : List Tk) (n : Nat) (hs : Toks T) (hn : n ≤ 1000000) (tm : Term T n) : ∀ S, Good T S → InK S (argK .body) → ArgOk T .body S → need T .body S ≤ n + 1 → Zr T .body (n + 1) S (run T (n + 1) .body S) := by
 intro S hg hin ha hnd
 simp only[run,Z]
 simp only[ArgOk]at ha
 have z:Zt T S S 0 []:=Zt.start hg InK.nil
 cases c1:isL T [123] S
 try simp only[c1,Z]
 obtain ⟨a,ht_a⟩:∃ x,Sh (peekL T S=x):=⟨_,⟨rfl⟩⟩
 try simp only[ht_a.out,Z]
 have hx_a:=tok_ok hs (peek_mem z.good ht_a.out)
 obtain ⟨l1,S1,v1,h1,e1,hl1,z1⟩:=Zt.one 1 (z.call (op:=.stmt) tm hnd)
 try simp only[h1,e1,Z]
 obtain ⟨v2,S2,e2,z2⟩:=z1.add 26 a.pos [] 0 [v1]
 try simp only[e2,Z]
 exact z2.fin
 try simp only[c1,Z]
 have h0:=z.k0 (isL_kind c1)
 exact Zt.tail (z.call (op:=.block) tm hnd (.inr h0))
theorem paren_z (T : List Tk) (n : Nat) (hs : Toks T) (hn : n ≤ 1000000) (tm : Term T n) : ∀ S, Good T S → InK S (argK .paren) → ArgOk T .paren S → need T .paren S ≤ n + 1 → Zr T .paren (n + 1) S (run T (n + 1) .paren S) := by
 intro S hg hin ha hnd
 simp only[run,Z]
 simp only[ArgOk]at ha
 have z:Zt T S S 0 []:=Zt.start hg InK.nil
 obtain ⟨S1,e1,z1⟩:=z.must [40]
 try simp only[e1,Z]
 obtain ⟨l1,S2,v1,h1,e2,hl1,z2⟩:=Zt.one 1 (z1.call (op:=.expr) tm hnd)
 try simp only[h1,e2,Z]
 obtain ⟨S3,e3,z3⟩:=z2.must [41]
 try simp only[e3,Z]
 subst e2
 have hl:=hl1.out
 exact z3.fin
end Go.Proofs.YtcbgpjlcfkkdlaaGreatDoor

