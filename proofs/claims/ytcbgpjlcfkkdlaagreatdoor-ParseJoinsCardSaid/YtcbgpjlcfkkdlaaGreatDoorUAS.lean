import Derived.Test.YtcbgpjlcfkkdlaaGreatDoorUAR
import Derived.Test.YtcbgpjlcfkkdlaaGreatDoorUAK
import Derived.Laws.Externs
set_option linter.unusedSimpArgs false
set_option linter.unusedVariables false
set_option maxRecDepth 100000
set_option maxHeartbeats 16000000
namespace Go.Proofs.YtcbgpjlcfkkdlaaGreatDoor
open Go Go.AL Go.Proofs
def gapR (s : List UInt8) : Nat → Nat → Bool → Option Nat × Nat × Bool
 | 0, i, b => (none, i, b)
 | n + 1, i, b => if i < s.length then
   let c := s.getD i 0
   let rest := s.drop i
   if c = 10 then gapR s n (i + 1) true
   else if c = 32 ∨ c = 9 ∨ c = 13 then gapR s n (i + 1) b
   else if c = 35 ∨ Lib.hasPrefix rest [47, 47] = true then
    (if Lib.indexByte rest 10 < 0 then gapR s n (i + rest.length) b else gapR s n (i + (Lib.indexByte rest 10).toNat) b)
   else if Lib.hasPrefix rest [47, 42] = true then
    (if Lib.index (rest.drop 2) [42, 47] < 0 then (some i, i, b) else gapR s n (i + ((Lib.index (rest.drop 2) [42, 47]).toNat + 4)) (b || Lib.contains (rest.take ((Lib.index (rest.drop 2) [42, 47]).toNat + 4)) [10]))
   else (none, i, b)
  else (none, i, b)
theorem u8_ne {c k : UInt8} (h : ¬ c = k) : ¬ ((c.toNat : Int) = (k.toNat : Int)) := fun e => h (UInt8.toNat_inj.1 (Int.ofNat_inj.1 e))
theorem hasPrefix_len {s p : List UInt8} (h : Lib.hasPrefix s p = true) : p.length ≤ s.length := (List.isPrefixOf_iff_prefix.1 h).length_le
theorem gap_c (s : List UInt8) (i : Nat) (b : Bool) (l : Nat) (hi : i ≤ s.length) (hs : s.length ≤ 262144) (B h : Heap) (h0 : B 0 = some .gint) (lx : Lx B h s i b l) (R : AV → Heap → Prop)
  (hR : ∀ g, Lx B g s (gapR s (s.length - i) i b).2.1 (gapR s (s.length - i) i b).2.2 l → R (match (gapR s (s.length - i) i b).1 with | some p => .tup [.int .i64 p, .bool false] | none => .tup [.int .i64 0, .bool true]) g) :
  ACalls Tryz.prog 26 [.ptr l 0] h R := by
 have hl := lx.blk
 obtain ⟨r, hr⟩ : ∃ r, gapR s (s.length - i) i b = r := ⟨_, rfl⟩
 rw [hr] at hR
 replace hR := Shut.mk hR
 refine acalls_of Tryz.func26 rfl Tryz.ntmps26 (congrArg Array.toList Tryz.results26) fun Q hQ => ?_
 (focus repeat' first|refine ga ?_|(refine gb ?_;try simp[gz, *])|refine gk fun _ _=>?_)
 refine awp_scope ?_
 (focus repeat' first|refine ga ?_|(refine gb ?_;try simp[gz, *])|refine gk fun _ _=>?_)
 refine awp_label ?_
 (focus repeat' first|refine ga ?_|(refine gb ?_;try simp[gz, *])|refine gk fun _ _=>?_)
 refine awp_loop_h [2,3,4,5,6,7,8,9,10,11,12,13,14,15,16,17,18,19,20,21,22,23,24,25,26,27,28,29,30,31,32,33,34,35,36,37,38,39,40,41,42,43,44,45,46,47,48,49,50,51,52,53,54,55,56,57,58,59,60,61,62,63,64,65,66,67,68,69,70,71,72,73,74,75,76,77,78,79,80,81,82,83,84,85,86,87,88,89,90,91,92,93,94,95,96,97,98,99,100,101,102,103,104,105,106,107,108,109,110,111,112,113,114,115] (fun m x g => ∃ (n' j : Nat) (bb : Bool), m = n' ∧ j ≤ s.length ∧ s.length - j ≤ n' ∧ gapR s n' j bb = r ∧ Lx B g s j bb l) (s.length - i) ⟨s.length - i, i, b, rfl, hi, by omega, hr, lx⟩ (fun m x g hI K hK => ?_)
 clear hl lx hr
 obtain ⟨_, j, bb, rfl, h1, h2, h3, lx⟩ := hI
 have hl := lx.blk
 by_cases hj : j < s.length
 ·obtain ⟨n', rfl⟩ : ∃ k, m = k + 1 := ⟨m - 1, by omega⟩
  have hji : (j : Int) < s.length := by omega
  have hjl : (j : Int) ≤ s.length := by omega
  have hget : s[j]? = some s[j] := List.getElem?_eq_getElem hj
  have hgd : s.getD j 0 = s[j] := by simp [List.getD, hget]
  obtain ⟨c, hc⟩ : ∃ c, s[j] = c := ⟨_, rfl⟩
  obtain ⟨rest, hrest⟩ : ∃ rest, s.drop j = rest := ⟨_, rfl⟩
  have hrl1 : rest.length ≤ s.length - j := by rw [← hrest, List.length_drop]; exact Nat.le_refl _
  have hrl2 : s.length - j ≤ rest.length := by rw [← hrest, List.length_drop]; exact Nat.le_refl _
  have hr0 : rest[0]? = some c := by rw [← hrest, List.getElem?_drop, Nat.add_zero, hget, hc]
  rw [hc] at hget hgd
  simp only [gapR, if_pos hj, hgd, hrest] at h3
  clear hgd hc
  have w1 : IntKind.i64.wrap ((j : Int) + 1) = ((j + 1 : Nat) : Int) := by rw [w64 (by omega) (by omega)]; omega
  by_cases h10 : c = 10
  ·subst h10
   rw [if_pos rfl] at h3
   have lx2 := lx.put (j + 1) true
   replace h3 := Shut.mk h3
   replace lx2 := Shut.mk lx2
   refine awp_eqs (s' := [_,_,x 2,x 3,x 4,x 5,x 6,x 7,x 8,x 9,x 10,x 11,x 12,x 13,x 14,x 15,x 16,x 17,x 18,x 19,x 20,x 21,x 22,x 23,x 24,x 25,x 26,x 27,x 28,x 29,x 30,x 31,x 32,x 33,x 34,x 35,x 36,x 37,x 38,x 39,x 40,x 41,x 42,x 43,x 44,x 45,x 46,x 47,x 48,x 49,x 50,x 51,x 52,x 53,x 54,x 55,x 56,x 57,x 58,x 59,x 60,x 61,x 62,x 63,x 64,x 65,x 66,x 67,x 68,x 69,x 70,x 71,x 72,x 73,x 74,x 75,x 76,x 77,x 78,x 79,x 80,x 81,x 82,x 83,x 84,x 85,x 86,x 87,x 88,x 89,x 90,x 91,x 92,x 93,x 94,x 95,x 96,x 97,x 98,x 99,x 100,x 101,x 102,x 103,x 104,x 105,x 106,x 107,x 108,x 109,x 110,x 111,x 112,x 113,x 114,x 115]) rfl ?_
   (focus repeat' first|refine ga ?_|(refine gb ?_;try simp[gz, *])|refine gk fun _ _=>?_)
   refine awp_region_quiet follows (by kernel_rfl) ?_; simp [gz, *]
   (focus repeat' first|refine ga ?_|(refine gb ?_;try simp[gz, *])|refine gk fun _ _=>?_)
   refine awp_region_quiet follows (by kernel_rfl) ?_; simp [gz, *]
   (focus repeat' first|refine ga ?_|(refine gb ?_;try simp[gz, *])|refine gk fun _ _=>?_)
   exact ⟨by kernel_rfl, rfl, n', _, by omega, Sub.refl _, n', j + 1, true, rfl, by omega, by omega, h3.out, lx2.out⟩
  ·rw [if_neg h10] at h3
   have n10 : ¬ ((c.toNat : Int) = 10) := u8_ne h10
   by_cases hb : c = 32 ∨ c = 9 ∨ c = 13
   ·rw [if_pos hb] at h3
    have lx2 := lx.put (j + 1) bb
    replace h3 := Shut.mk h3
    replace lx2 := Shut.mk lx2
    rcases hb with rfl | rfl | rfl
    all_goals
     refine awp_eqs (s' := [_,_,x 2,x 3,x 4,x 5,x 6,x 7,x 8,x 9,x 10,x 11,x 12,x 13,x 14,x 15,x 16,x 17,x 18,x 19,x 20,x 21,x 22,x 23,x 24,x 25,x 26,x 27,x 28,x 29,x 30,x 31,x 32,x 33,x 34,x 35,x 36,x 37,x 38,x 39,x 40,x 41,x 42,x 43,x 44,x 45,x 46,x 47,x 48,x 49,x 50,x 51,x 52,x 53,x 54,x 55,x 56,x 57,x 58,x 59,x 60,x 61,x 62,x 63,x 64,x 65,x 66,x 67,x 68,x 69,x 70,x 71,x 72,x 73,x 74,x 75,x 76,x 77,x 78,x 79,x 80,x 81,x 82,x 83,x 84,x 85,x 86,x 87,x 88,x 89,x 90,x 91,x 92,x 93,x 94,x 95,x 96,x 97,x 98,x 99,x 100,x 101,x 102,x 103,x 104,x 105,x 106,x 107,x 108,x 109,x 110,x 111,x 112,x 113,x 114,x 115]) rfl ?_
     (focus repeat' first|refine ga ?_|(refine gb ?_;try simp[gz, *])|refine gk fun _ _=>?_)
     refine awp_region_quiet follows (by kernel_rfl) ?_; simp [gz, *]
     (focus repeat' first|refine ga ?_|(refine gb ?_;try simp[gz, *])|refine gk fun _ _=>?_)
     refine awp_region_quiet follows (by kernel_rfl) ?_; simp [gz, *]
     (focus repeat' first|refine ga ?_|(refine gb ?_;try simp[gz, *])|refine gk fun _ _=>?_)
     exact ⟨by kernel_rfl, rfl, n', _, by omega, Sub.refl _, n', j + 1, bb, rfl, by omega, by omega, h3.out, lx2.out⟩
   ·rw [if_neg hb] at h3
    have n32 : ¬ ((c.toNat : Int) = 32) := u8_ne fun e => hb (Or.inl e)
    have n9 : ¬ ((c.toNat : Int) = 9) := u8_ne fun e => hb (Or.inr (Or.inl e))
    have n13 : ¬ ((c.toNat : Int) = 13) := u8_ne fun e => hb (Or.inr (Or.inr e))
    clear hb h10
    by_cases h35 : c = 35
    ·subst h35
     rw [if_pos (Or.inl rfl)] at h3
     obtain ⟨k, hk⟩ : ∃ k, Lib.indexByte rest 10 = k := ⟨_, rfl⟩
     rw [hk] at h3
     have hkr : 0 ≤ k → 0 < k.toNat ∧ k.toNat < rest.length := fun h => by
      obtain ⟨q1, q2⟩ := Lib.indexByte_some (o := k.toNat) (by rw [hk]; omega : Lib.indexByte rest 10 = k.toNat)
      have q3 := (List.getElem?_eq_some_iff.1 q1).1
      refine ⟨?_, q3⟩
      rcases Nat.eq_zero_or_pos k.toNat with e | e
      ·rw [e, hr0] at q1
       injection q1 with q1
       exact absurd q1 (by decide)
      ·exact e
     by_cases hk0 : k < 0
     ·rw [if_pos hk0] at h3
      have w2 : IntKind.i64.wrap ((j : Int) + (rest.length : Int)) = ((j + rest.length : Nat) : Int) := by rw [w64 (by omega) (by omega)]; omega
      have lx2 := lx.put (j + rest.length) bb
      replace h3 := Shut.mk h3
      replace lx2 := Shut.mk lx2
      refine awp_eqs (s' := [_,_,x 2,x 3,x 4,x 5,x 6,x 7,x 8,x 9,x 10,x 11,x 12,x 13,x 14,x 15,x 16,x 17,x 18,x 19,x 20,x 21,x 22,x 23,x 24,x 25,x 26,x 27,x 28,x 29,x 30,x 31,x 32,x 33,x 34,x 35,x 36,x 37,x 38,x 39,x 40,x 41,x 42,x 43,x 44,x 45,x 46,x 47,x 48,x 49,x 50,x 51,x 52,x 53,x 54,x 55,x 56,x 57,x 58,x 59,x 60,x 61,x 62,x 63,x 64,x 65,x 66,x 67,x 68,x 69,x 70,x 71,x 72,x 73,x 74,x 75,x 76,x 77,x 78,x 79,x 80,x 81,x 82,x 83,x 84,x 85,x 86,x 87,x 88,x 89,x 90,x 91,x 92,x 93,x 94,x 95,x 96,x 97,x 98,x 99,x 100,x 101,x 102,x 103,x 104,x 105,x 106,x 107,x 108,x 109,x 110,x 111,x 112,x 113,x 114,x 115]) rfl ?_
      (focus repeat' first|refine ga ?_|(refine gb ?_;try simp[gz, *])|refine gk fun _ _=>?_)
      refine awp_region_quiet follows (by kernel_rfl) ?_; simp [gz, *]
      (focus repeat' first|refine ga ?_|(refine gb ?_;try simp[gz, *])|refine gk fun _ _=>?_)
      refine awp_region_quiet follows (by kernel_rfl) ?_; simp [gz, *]
      (focus repeat' first|refine ga ?_|(refine gb ?_;try simp[gz, *])|refine gk fun _ _=>?_)
      refine IndexByte_c rest 10 _ _ ?_
      rw [hk]
      simp [gz, *]
      (focus repeat' first|refine ga ?_|(refine gb ?_;try simp[gz, *])|refine gk fun _ _=>?_)
      exact ⟨by kernel_rfl, rfl, n', _, by omega, Sub.refl _, n', j + rest.length, bb, rfl, by omega, by omega, h3.out, lx2.out⟩
     ·rw [if_neg hk0] at h3
      have hk2 := hkr (by omega)
      obtain ⟨kn, hkn⟩ : ∃ kn : Nat, k = kn := ⟨k.toNat, by omega⟩
      subst hkn
      simp only [Int.toNat_natCast] at h3 hk2
      have w2 : IntKind.i64.wrap ((j : Int) + (kn : Int)) = ((j + kn : Nat) : Int) := by rw [w64 (by omega) (by omega)]; omega
      have lx2 := lx.put (j + kn) bb
      replace h3 := Shut.mk h3
      replace lx2 := Shut.mk lx2
      refine awp_eqs (s' := [_,_,x 2,x 3,x 4,x 5,x 6,x 7,x 8,x 9,x 10,x 11,x 12,x 13,x 14,x 15,x 16,x 17,x 18,x 19,x 20,x 21,x 22,x 23,x 24,x 25,x 26,x 27,x 28,x 29,x 30,x 31,x 32,x 33,x 34,x 35,x 36,x 37,x 38,x 39,x 40,x 41,x 42,x 43,x 44,x 45,x 46,x 47,x 48,x 49,x 50,x 51,x 52,x 53,x 54,x 55,x 56,x 57,x 58,x 59,x 60,x 61,x 62,x 63,x 64,x 65,x 66,x 67,x 68,x 69,x 70,x 71,x 72,x 73,x 74,x 75,x 76,x 77,x 78,x 79,x 80,x 81,x 82,x 83,x 84,x 85,x 86,x 87,x 88,x 89,x 90,x 91,x 92,x 93,x 94,x 95,x 96,x 97,x 98,x 99,x 100,x 101,x 102,x 103,x 104,x 105,x 106,x 107,x 108,x 109,x 110,x 111,x 112,x 113,x 114,x 115]) rfl ?_
      (focus repeat' first|refine ga ?_|(refine gb ?_;try simp[gz, *])|refine gk fun _ _=>?_)
      refine awp_region_quiet follows (by kernel_rfl) ?_; simp [gz, *]
      (focus repeat' first|refine ga ?_|(refine gb ?_;try simp[gz, *])|refine gk fun _ _=>?_)
      refine awp_region_quiet follows (by kernel_rfl) ?_; simp [gz, *]
      (focus repeat' first|refine ga ?_|(refine gb ?_;try simp[gz, *])|refine gk fun _ _=>?_)
      refine IndexByte_c rest 10 _ _ ?_
      rw [hk]
      simp [gz, *]
      (focus repeat' first|refine ga ?_|(refine gb ?_;try simp[gz, *])|refine gk fun _ _=>?_)
      exact ⟨by kernel_rfl, rfl, n', _, by omega, Sub.refl _, n', j + kn, bb, rfl, by omega, by omega, h3.out, lx2.out⟩
    ·have n35 : ¬ ((c.toNat : Int) = 35) := u8_ne h35
     cases hp : Lib.hasPrefix rest [47, 47]
     ·rw [if_neg (by rw [hp]; intro e; rcases e with e | e; exact h35 e; cases e)] at h3
      clear h35
      cases hp2 : Lib.hasPrefix rest [47, 42]
      ·rw [if_neg (by rw [hp2]; decide)] at h3
       have hfi := hR.out g (by rw [← h3]; exact lx)
       rw [← h3] at hfi
       replace hfi := Shut.mk hfi
       clear h3
       refine awp_eqs (s' := [_,_,x 2,x 3,x 4,x 5,x 6,x 7,x 8,x 9,x 10,x 11,x 12,x 13,x 14,x 15,x 16,x 17,x 18,x 19,x 20,x 21,x 22,x 23,x 24,x 25,x 26,x 27,x 28,x 29,x 30,x 31,x 32,x 33,x 34,x 35,x 36,x 37,x 38,x 39,x 40,x 41,x 42,x 43,x 44,x 45,x 46,x 47,x 48,x 49,x 50,x 51,x 52,x 53,x 54,x 55,x 56,x 57,x 58,x 59,x 60,x 61,x 62,x 63,x 64,x 65,x 66,x 67,x 68,x 69,x 70,x 71,x 72,x 73,x 74,x 75,x 76,x 77,x 78,x 79,x 80,x 81,x 82,x 83,x 84,x 85,x 86,x 87,x 88,x 89,x 90,x 91,x 92,x 93,x 94,x 95,x 96,x 97,x 98,x 99,x 100,x 101,x 102,x 103,x 104,x 105,x 106,x 107,x 108,x 109,x 110,x 111,x 112,x 113,x 114,x 115]) rfl ?_
       (focus repeat' first|refine ga ?_|(refine gb ?_;try simp[gz, *])|refine gk fun _ _=>?_)
       refine awp_region_quiet follows (by kernel_rfl) ?_; simp [gz, *]
       (focus repeat' first|refine ga ?_|(refine gb ?_;try simp[gz, *])|refine gk fun _ _=>?_)
       refine awp_region_quiet follows (by kernel_rfl) ?_; simp [gz, *]
       (focus repeat' first|refine ga ?_|(refine gb ?_;try simp[gz, *])|refine gk fun _ _=>?_)
       refine HasPrefix_c rest [47, 47] _ (lx.sub _ _ h0) _ ?_
       rw [hp]
       simp [gz, *]
       (focus repeat' first|refine ga ?_|(refine gb ?_;try simp[gz, *])|refine gk fun _ _=>?_)
       refine HasPrefix_c rest [47, 42] _ (lx.sub _ _ h0) _ ?_
       rw [hp2]
       simp [gz, *]
       (focus repeat' first|refine ga ?_|(refine gb ?_;try simp[gz, *])|refine gk fun _ _=>?_)
       all_goals first | exact hfi.out | (simp only [NoGotoA]; (focus repeat' first|refine ga ?_|(refine gb ?_;try simp[gz, *])|refine gk fun _ _=>?_); exact hfi.out)
      ·rw [if_pos hp2] at h3
       have hlen2 : 2 ≤ rest.length := hasPrefix_len hp2
       have hl2 : (2 : Int) ≤ rest.length := by omega
       obtain ⟨k, hk⟩ : ∃ k, Lib.index (rest.drop 2) [42, 47] = k := ⟨_, rfl⟩
       have hkr : 0 ≤ k → k.toNat + 4 ≤ rest.length := fun h => by
        have := Lib.index_room (rest.drop 2) [42, 47] (by rw [hk]; exact h)
        rw [hk, List.length_drop] at this
        simp only [List.length_cons, List.length_nil] at this
        omega
       have hkm := Lib.index_ge (rest.drop 2) [42, 47]
       rw [hk] at h3 hkm
       by_cases hk0 : k < 0
       ·rw [if_pos hk0] at h3
        have hfi := hR.out g (by rw [← h3]; exact lx)
        rw [← h3] at hfi
        replace hfi := Shut.mk hfi
        clear h3
        refine awp_eqs (s' := [_,_,x 2,x 3,x 4,x 5,x 6,x 7,x 8,x 9,x 10,x 11,x 12,x 13,x 14,x 15,x 16,x 17,x 18,x 19,x 20,x 21,x 22,x 23,x 24,x 25,x 26,x 27,x 28,x 29,x 30,x 31,x 32,x 33,x 34,x 35,x 36,x 37,x 38,x 39,x 40,x 41,x 42,x 43,x 44,x 45,x 46,x 47,x 48,x 49,x 50,x 51,x 52,x 53,x 54,x 55,x 56,x 57,x 58,x 59,x 60,x 61,x 62,x 63,x 64,x 65,x 66,x 67,x 68,x 69,x 70,x 71,x 72,x 73,x 74,x 75,x 76,x 77,x 78,x 79,x 80,x 81,x 82,x 83,x 84,x 85,x 86,x 87,x 88,x 89,x 90,x 91,x 92,x 93,x 94,x 95,x 96,x 97,x 98,x 99,x 100,x 101,x 102,x 103,x 104,x 105,x 106,x 107,x 108,x 109,x 110,x 111,x 112,x 113,x 114,x 115]) rfl ?_
        (focus repeat' first|refine ga ?_|(refine gb ?_;try simp[gz, *])|refine gk fun _ _=>?_)
        refine awp_region_quiet follows (by kernel_rfl) ?_; simp [gz, *]
        (focus repeat' first|refine ga ?_|(refine gb ?_;try simp[gz, *])|refine gk fun _ _=>?_)
        refine awp_region_quiet follows (by kernel_rfl) ?_; simp [gz, *]
        (focus repeat' first|refine ga ?_|(refine gb ?_;try simp[gz, *])|refine gk fun _ _=>?_)
        refine HasPrefix_c rest [47, 47] _ (lx.sub _ _ h0) _ ?_
        rw [hp]
        simp [gz, *]
        (focus repeat' first|refine ga ?_|(refine gb ?_;try simp[gz, *])|refine gk fun _ _=>?_)
        refine HasPrefix_c rest [47, 42] _ (lx.sub _ _ h0) _ ?_
        rw [hp2]
        simp [gz, *]
        (focus repeat' first|refine ga ?_|(refine gb ?_;try simp[gz, *])|refine gk fun _ _=>?_)
        refine SIndex_c (rest.drop 2) [42, 47] (by rw [List.length_drop]; omega) _ (lx.sub _ _ h0) _ ?_
        rw [hk]
        simp [gz, *]
        (focus repeat' first|refine ga ?_|(refine gb ?_;try simp[gz, *])|refine gk fun _ _=>?_)
        all_goals first | exact hfi.out | (simp only [NoGotoA]; (focus repeat' first|refine ga ?_|(refine gb ?_;try simp[gz, *])|refine gk fun _ _=>?_); exact hfi.out)
       ·rw [if_neg hk0] at h3
        have hk2 := hkr (by omega)
        obtain ⟨kn, hkn⟩ : ∃ kn : Nat, k = kn := ⟨k.toNat, by omega⟩
        subst hkn
        simp only [Int.toNat_natCast] at h3 hk2
        obtain ⟨e, he⟩ : ∃ e, kn + 4 = e := ⟨_, rfl⟩
        have w2 : IntKind.i64.wrap ((kn : Int) + 4) = (e : Int) := by rw [w64 (by omega) (by omega)]; omega
        have w3 : IntKind.i64.wrap ((j : Int) + (e : Int)) = ((j + e : Nat) : Int) := by rw [w64 (by omega) (by omega)]; omega
        have w5 : (e : Int) ≤ rest.length := by omega
        rw [he] at h3
        clear hkr
        cases hbb : bb
        ·cases hct : Lib.contains (rest.take e) [10]
         ·rw [hbb, hct] at h3
          have lx2 := lx.put (j + e) false
          subst hbb
          replace h3 := Shut.mk h3
          replace lx2 := Shut.mk lx2
          refine awp_eqs (s' := [_,_,x 2,x 3,x 4,x 5,x 6,x 7,x 8,x 9,x 10,x 11,x 12,x 13,x 14,x 15,x 16,x 17,x 18,x 19,x 20,x 21,x 22,x 23,x 24,x 25,x 26,x 27,x 28,x 29,x 30,x 31,x 32,x 33,x 34,x 35,x 36,x 37,x 38,x 39,x 40,x 41,x 42,x 43,x 44,x 45,x 46,x 47,x 48,x 49,x 50,x 51,x 52,x 53,x 54,x 55,x 56,x 57,x 58,x 59,x 60,x 61,x 62,x 63,x 64,x 65,x 66,x 67,x 68,x 69,x 70,x 71,x 72,x 73,x 74,x 75,x 76,x 77,x 78,x 79,x 80,x 81,x 82,x 83,x 84,x 85,x 86,x 87,x 88,x 89,x 90,x 91,x 92,x 93,x 94,x 95,x 96,x 97,x 98,x 99,x 100,x 101,x 102,x 103,x 104,x 105,x 106,x 107,x 108,x 109,x 110,x 111,x 112,x 113,x 114,x 115]) rfl ?_
          (focus repeat' first|refine ga ?_|(refine gb ?_;try simp[gz, *])|refine gk fun _ _=>?_)
          refine awp_region_quiet follows (by kernel_rfl) ?_; simp [gz, *]
          (focus repeat' first|refine ga ?_|(refine gb ?_;try simp[gz, *])|refine gk fun _ _=>?_)
          refine awp_region_quiet follows (by kernel_rfl) ?_; simp [gz, *]
          (focus repeat' first|refine ga ?_|(refine gb ?_;try simp[gz, *])|refine gk fun _ _=>?_)
          refine HasPrefix_c rest [47, 47] _ (lx.sub _ _ h0) _ ?_
          rw [hp]
          simp [gz, *]
          (focus repeat' first|refine ga ?_|(refine gb ?_;try simp[gz, *])|refine gk fun _ _=>?_)
          refine HasPrefix_c rest [47, 42] _ (lx.sub _ _ h0) _ ?_
          rw [hp2]
          simp [gz, *]
          (focus repeat' first|refine ga ?_|(refine gb ?_;try simp[gz, *])|refine gk fun _ _=>?_)
          refine SIndex_c (rest.drop 2) [42, 47] (by rw [List.length_drop]; omega) _ (lx.sub _ _ h0) _ ?_
          rw [hk]
          simp [gz, *]
          (focus repeat' first|refine ga ?_|(refine gb ?_;try simp[gz, *])|refine gk fun _ _=>?_)
          refine Contains_c (rest.take e) [10] (by rw [List.length_take]; omega) _ (lx.sub _ _ h0) _ ?_
          rw [hct]
          simp [gz, *]
          (focus repeat' first|refine ga ?_|(refine gb ?_;try simp[gz, *])|refine gk fun _ _=>?_)
          exact ⟨by kernel_rfl, rfl, n', _, by omega, Sub.refl _, n', j + e, false, rfl, by omega, by omega, h3.out, lx2.out⟩
         ·rw [hbb, hct] at h3
          have lx2 := lx.put (j + e) true
          subst hbb
          replace h3 := Shut.mk h3
          replace lx2 := Shut.mk lx2
          refine awp_eqs (s' := [_,_,x 2,x 3,x 4,x 5,x 6,x 7,x 8,x 9,x 10,x 11,x 12,x 13,x 14,x 15,x 16,x 17,x 18,x 19,x 20,x 21,x 22,x 23,x 24,x 25,x 26,x 27,x 28,x 29,x 30,x 31,x 32,x 33,x 34,x 35,x 36,x 37,x 38,x 39,x 40,x 41,x 42,x 43,x 44,x 45,x 46,x 47,x 48,x 49,x 50,x 51,x 52,x 53,x 54,x 55,x 56,x 57,x 58,x 59,x 60,x 61,x 62,x 63,x 64,x 65,x 66,x 67,x 68,x 69,x 70,x 71,x 72,x 73,x 74,x 75,x 76,x 77,x 78,x 79,x 80,x 81,x 82,x 83,x 84,x 85,x 86,x 87,x 88,x 89,x 90,x 91,x 92,x 93,x 94,x 95,x 96,x 97,x 98,x 99,x 100,x 101,x 102,x 103,x 104,x 105,x 106,x 107,x 108,x 109,x 110,x 111,x 112,x 113,x 114,x 115]) rfl ?_
          (focus repeat' first|refine ga ?_|(refine gb ?_;try simp[gz, *])|refine gk fun _ _=>?_)
          refine awp_region_quiet follows (by kernel_rfl) ?_; simp [gz, *]
          (focus repeat' first|refine ga ?_|(refine gb ?_;try simp[gz, *])|refine gk fun _ _=>?_)
          refine awp_region_quiet follows (by kernel_rfl) ?_; simp [gz, *]
          (focus repeat' first|refine ga ?_|(refine gb ?_;try simp[gz, *])|refine gk fun _ _=>?_)
          refine HasPrefix_c rest [47, 47] _ (lx.sub _ _ h0) _ ?_
          rw [hp]
          simp [gz, *]
          (focus repeat' first|refine ga ?_|(refine gb ?_;try simp[gz, *])|refine gk fun _ _=>?_)
          refine HasPrefix_c rest [47, 42] _ (lx.sub _ _ h0) _ ?_
          rw [hp2]
          simp [gz, *]
          (focus repeat' first|refine ga ?_|(refine gb ?_;try simp[gz, *])|refine gk fun _ _=>?_)
          refine SIndex_c (rest.drop 2) [42, 47] (by rw [List.length_drop]; omega) _ (lx.sub _ _ h0) _ ?_
          rw [hk]
          simp [gz, *]
          (focus repeat' first|refine ga ?_|(refine gb ?_;try simp[gz, *])|refine gk fun _ _=>?_)
          refine Contains_c (rest.take e) [10] (by rw [List.length_take]; omega) _ (lx.sub _ _ h0) _ ?_
          rw [hct]
          simp [gz, *]
          (focus repeat' first|refine ga ?_|(refine gb ?_;try simp[gz, *])|refine gk fun _ _=>?_)
          exact ⟨by kernel_rfl, rfl, n', _, by omega, Sub.refl _, n', j + e, true, rfl, by omega, by omega, h3.out, lx2.out⟩
        ·rw [hbb] at h3
         have lx2 := lx.put (j + e) true
         subst hbb
         replace h3 := Shut.mk h3
         replace lx2 := Shut.mk lx2
         refine awp_eqs (s' := [_,_,x 2,x 3,x 4,x 5,x 6,x 7,x 8,x 9,x 10,x 11,x 12,x 13,x 14,x 15,x 16,x 17,x 18,x 19,x 20,x 21,x 22,x 23,x 24,x 25,x 26,x 27,x 28,x 29,x 30,x 31,x 32,x 33,x 34,x 35,x 36,x 37,x 38,x 39,x 40,x 41,x 42,x 43,x 44,x 45,x 46,x 47,x 48,x 49,x 50,x 51,x 52,x 53,x 54,x 55,x 56,x 57,x 58,x 59,x 60,x 61,x 62,x 63,x 64,x 65,x 66,x 67,x 68,x 69,x 70,x 71,x 72,x 73,x 74,x 75,x 76,x 77,x 78,x 79,x 80,x 81,x 82,x 83,x 84,x 85,x 86,x 87,x 88,x 89,x 90,x 91,x 92,x 93,x 94,x 95,x 96,x 97,x 98,x 99,x 100,x 101,x 102,x 103,x 104,x 105,x 106,x 107,x 108,x 109,x 110,x 111,x 112,x 113,x 114,x 115]) rfl ?_
         (focus repeat' first|refine ga ?_|(refine gb ?_;try simp[gz, *])|refine gk fun _ _=>?_)
         refine awp_region_quiet follows (by kernel_rfl) ?_; simp [gz, *]
         (focus repeat' first|refine ga ?_|(refine gb ?_;try simp[gz, *])|refine gk fun _ _=>?_)
         refine awp_region_quiet follows (by kernel_rfl) ?_; simp [gz, *]
         (focus repeat' first|refine ga ?_|(refine gb ?_;try simp[gz, *])|refine gk fun _ _=>?_)
         refine HasPrefix_c rest [47, 47] _ (lx.sub _ _ h0) _ ?_
         rw [hp]
         simp [gz, *]
         (focus repeat' first|refine ga ?_|(refine gb ?_;try simp[gz, *])|refine gk fun _ _=>?_)
         refine HasPrefix_c rest [47, 42] _ (lx.sub _ _ h0) _ ?_
         rw [hp2]
         simp [gz, *]
         (focus repeat' first|refine ga ?_|(refine gb ?_;try simp[gz, *])|refine gk fun _ _=>?_)
         refine SIndex_c (rest.drop 2) [42, 47] (by rw [List.length_drop]; omega) _ (lx.sub _ _ h0) _ ?_
         rw [hk]
         simp [gz, *]
         (focus repeat' first|refine ga ?_|(refine gb ?_;try simp[gz, *])|refine gk fun _ _=>?_)
         exact ⟨by kernel_rfl, rfl, n', _, by omega, Sub.refl _, n', j + e, true, rfl, by omega, by omega, h3.out, lx2.out⟩
     ·rw [if_pos (Or.inr hp)] at h3
      have h47 : c = 47 := by
       have q : Lib.hasPrefix rest [47, 47] = true := hp
       cases rest with
       | nil => simp at hr0
       | cons y ys =>
        simp at hr0
        subst hr0
        unfold Lib.hasPrefix at q
        simp [List.isPrefixOf] at q
        exact q.1.symm
      obtain ⟨k, hk⟩ : ∃ k, Lib.indexByte rest 10 = k := ⟨_, rfl⟩
      rw [hk] at h3
      have hkr : 0 ≤ k → 0 < k.toNat ∧ k.toNat < rest.length := fun h => by
       obtain ⟨q1, q2⟩ := Lib.indexByte_some (o := k.toNat) (by rw [hk]; omega : Lib.indexByte rest 10 = k.toNat)
       have q3 := (List.getElem?_eq_some_iff.1 q1).1
       refine ⟨?_, q3⟩
       rcases Nat.eq_zero_or_pos k.toNat with e | e
       ·rw [e, hr0] at q1
        injection q1 with q1
        exact absurd q1 (by rw [h47]; decide)
       ·exact e
      clear h47 h35
      by_cases hk0 : k < 0
      ·rw [if_pos hk0] at h3
       have w2 : IntKind.i64.wrap ((j : Int) + (rest.length : Int)) = ((j + rest.length : Nat) : Int) := by rw [w64 (by omega) (by omega)]; omega
       have lx2 := lx.put (j + rest.length) bb
       replace h3 := Shut.mk h3
       replace lx2 := Shut.mk lx2
       refine awp_eqs (s' := [_,_,x 2,x 3,x 4,x 5,x 6,x 7,x 8,x 9,x 10,x 11,x 12,x 13,x 14,x 15,x 16,x 17,x 18,x 19,x 20,x 21,x 22,x 23,x 24,x 25,x 26,x 27,x 28,x 29,x 30,x 31,x 32,x 33,x 34,x 35,x 36,x 37,x 38,x 39,x 40,x 41,x 42,x 43,x 44,x 45,x 46,x 47,x 48,x 49,x 50,x 51,x 52,x 53,x 54,x 55,x 56,x 57,x 58,x 59,x 60,x 61,x 62,x 63,x 64,x 65,x 66,x 67,x 68,x 69,x 70,x 71,x 72,x 73,x 74,x 75,x 76,x 77,x 78,x 79,x 80,x 81,x 82,x 83,x 84,x 85,x 86,x 87,x 88,x 89,x 90,x 91,x 92,x 93,x 94,x 95,x 96,x 97,x 98,x 99,x 100,x 101,x 102,x 103,x 104,x 105,x 106,x 107,x 108,x 109,x 110,x 111,x 112,x 113,x 114,x 115]) rfl ?_
       (focus repeat' first|refine ga ?_|(refine gb ?_;try simp[gz, *])|refine gk fun _ _=>?_)
       refine awp_region_quiet follows (by kernel_rfl) ?_; simp [gz, *]
       (focus repeat' first|refine ga ?_|(refine gb ?_;try simp[gz, *])|refine gk fun _ _=>?_)
       refine awp_region_quiet follows (by kernel_rfl) ?_; simp [gz, *]
       (focus repeat' first|refine ga ?_|(refine gb ?_;try simp[gz, *])|refine gk fun _ _=>?_)
       refine HasPrefix_c rest [47, 47] _ (lx.sub _ _ h0) _ ?_
       rw [hp]
       simp [gz, *]
       (focus repeat' first|refine ga ?_|(refine gb ?_;try simp[gz, *])|refine gk fun _ _=>?_)
       refine IndexByte_c rest 10 _ _ ?_
       rw [hk]
       simp [gz, *]
       (focus repeat' first|refine ga ?_|(refine gb ?_;try simp[gz, *])|refine gk fun _ _=>?_)
       exact ⟨by kernel_rfl, rfl, n', _, by omega, Sub.refl _, n', j + rest.length, bb, rfl, by omega, by omega, h3.out, lx2.out⟩
      ·rw [if_neg hk0] at h3
       have hk2 := hkr (by omega)
       obtain ⟨kn, hkn⟩ : ∃ kn : Nat, k = kn := ⟨k.toNat, by omega⟩
       subst hkn
       simp only [Int.toNat_natCast] at h3 hk2
       have w2 : IntKind.i64.wrap ((j : Int) + (kn : Int)) = ((j + kn : Nat) : Int) := by rw [w64 (by omega) (by omega)]; omega
       have lx2 := lx.put (j + kn) bb
       replace h3 := Shut.mk h3
       replace lx2 := Shut.mk lx2
       refine awp_eqs (s' := [_,_,x 2,x 3,x 4,x 5,x 6,x 7,x 8,x 9,x 10,x 11,x 12,x 13,x 14,x 15,x 16,x 17,x 18,x 19,x 20,x 21,x 22,x 23,x 24,x 25,x 26,x 27,x 28,x 29,x 30,x 31,x 32,x 33,x 34,x 35,x 36,x 37,x 38,x 39,x 40,x 41,x 42,x 43,x 44,x 45,x 46,x 47,x 48,x 49,x 50,x 51,x 52,x 53,x 54,x 55,x 56,x 57,x 58,x 59,x 60,x 61,x 62,x 63,x 64,x 65,x 66,x 67,x 68,x 69,x 70,x 71,x 72,x 73,x 74,x 75,x 76,x 77,x 78,x 79,x 80,x 81,x 82,x 83,x 84,x 85,x 86,x 87,x 88,x 89,x 90,x 91,x 92,x 93,x 94,x 95,x 96,x 97,x 98,x 99,x 100,x 101,x 102,x 103,x 104,x 105,x 106,x 107,x 108,x 109,x 110,x 111,x 112,x 113,x 114,x 115]) rfl ?_
       (focus repeat' first|refine ga ?_|(refine gb ?_;try simp[gz, *])|refine gk fun _ _=>?_)
       refine awp_region_quiet follows (by kernel_rfl) ?_; simp [gz, *]
       (focus repeat' first|refine ga ?_|(refine gb ?_;try simp[gz, *])|refine gk fun _ _=>?_)
       refine awp_region_quiet follows (by kernel_rfl) ?_; simp [gz, *]
       (focus repeat' first|refine ga ?_|(refine gb ?_;try simp[gz, *])|refine gk fun _ _=>?_)
       refine HasPrefix_c rest [47, 47] _ (lx.sub _ _ h0) _ ?_
       rw [hp]
       simp [gz, *]
       (focus repeat' first|refine ga ?_|(refine gb ?_;try simp[gz, *])|refine gk fun _ _=>?_)
       refine IndexByte_c rest 10 _ _ ?_
       rw [hk]
       simp [gz, *]
       (focus repeat' first|refine ga ?_|(refine gb ?_;try simp[gz, *])|refine gk fun _ _=>?_)
       exact ⟨by kernel_rfl, rfl, n', _, by omega, Sub.refl _, n', j + kn, bb, rfl, by omega, by omega, h3.out, lx2.out⟩
 ·have hji : ¬ (j : Int) < s.length := by omega
  have h4 : r = (none, j, bb) := by
   rw [← h3]
   cases m with
   | zero => rfl
   | succ m => simp only [gapR, if_neg hj]
  have hfi := hR.out g (by rw [h4]; exact lx)
  rw [h4] at hfi
  replace hfi := Shut.mk hfi
  clear h3 h4
  refine awp_eqs (s' := [_,_,x 2,x 3,x 4,x 5,x 6,x 7,x 8,x 9,x 10,x 11,x 12,x 13,x 14,x 15,x 16,x 17,x 18,x 19,x 20,x 21,x 22,x 23,x 24,x 25,x 26,x 27,x 28,x 29,x 30,x 31,x 32,x 33,x 34,x 35,x 36,x 37,x 38,x 39,x 40,x 41,x 42,x 43,x 44,x 45,x 46,x 47,x 48,x 49,x 50,x 51,x 52,x 53,x 54,x 55,x 56,x 57,x 58,x 59,x 60,x 61,x 62,x 63,x 64,x 65,x 66,x 67,x 68,x 69,x 70,x 71,x 72,x 73,x 74,x 75,x 76,x 77,x 78,x 79,x 80,x 81,x 82,x 83,x 84,x 85,x 86,x 87,x 88,x 89,x 90,x 91,x 92,x 93,x 94,x 95,x 96,x 97,x 98,x 99,x 100,x 101,x 102,x 103,x 104,x 105,x 106,x 107,x 108,x 109,x 110,x 111,x 112,x 113,x 114,x 115]) rfl ?_
  (focus repeat' first|refine ga ?_|(refine gb ?_;try simp[gz, *])|refine gk fun _ _=>?_)
  refine awp_region_quiet follows (by kernel_rfl) ?_; simp [gz, *]
  (focus repeat' first|refine ga ?_|(refine gb ?_;try simp[gz, *])|refine gk fun _ _=>?_)
  all_goals first | exact hfi.out | (simp only [NoGotoA]; (focus repeat' first|refine ga ?_|(refine gb ?_;try simp[gz, *])|refine gk fun _ _=>?_); exact hfi.out)
end Go.Proofs.YtcbgpjlcfkkdlaaGreatDoor

namespace Go.Proofs.YtcbgpjlcfkkdlaaGreatDoor
open Go Go.AL Go.Proofs
def quoR (s : List UInt8) (q : UInt8) : Nat → Nat → Option Nat
 | 0, _ => none
 | n + 1, i => if i < s.length then
   if s.getD i 0 = q then some i
   else if s.getD i 0 = 10 then none
   else if s.getD i 0 = 92 then (if i + 1 < s.length ∧ s.getD (i + 1) 0 = 10 then none else quoR s q n (i + 2))
   else quoR s q n (i + 1)
  else none
theorem quoR_le {s : List UInt8} {q : UInt8} : ∀ {n i e : Nat}, quoR s q n i = some e → i ≤ e ∧ e < s.length
 | 0, _, _, h => by cases h
 | n + 1, i, e, h => by
  simp only [quoR] at h
  split at h
  ·split at h
   ·injection h with h; subst h; exact ⟨Nat.le_refl _, by assumption⟩
   ·split at h
    ·cases h
    ·split at h
     ·split at h
      ·cases h
      ·have := quoR_le h; omega
     ·have := quoR_le h; omega
  ·cases h
theorem quoted_c (s : List UInt8) (i : Nat) (b : Bool) (l : Nat) (q : UInt8) (hq10 : ¬ q = 10) (hq92 : ¬ q = 92) (hi : i ≤ s.length) (hs : s.length ≤ 262144) (h : Heap) (hl : h l = some (.cells (lxRow s i b))) (R : AV → Heap → Prop)
  (hR : R (match quoR s q (s.length - i) (i + 1) with | some e => .tup [.str ((s.take e).drop (i + 1)), .bool true] | none => .tup [.str [], .bool false]) h) :
  ACalls Tryz.prog 103 [.ptr l 0, .int .u8 q.toNat] h R := by
 refine ACalls.pure ?_ hR
 clear hR
 obtain ⟨r, hr⟩ : ∃ r, quoR s q (s.length - i) (i + 1) = r := ⟨_, rfl⟩
 rw [hr]
 have w0 : IntKind.i64.wrap ((i : Int) + 1) = ((i + 1 : Nat) : Int) := by rw [w64 (by omega) (by omega)]; omega
 have n10 : ¬ ((10 : Int) = q.toNat) := fun e => u8_ne hq10 e.symm
 have n92 : ¬ ((92 : Int) = q.toNat) := fun e => u8_ne hq92 e.symm
 refine acalls_of Tryz.func103 rfl Tryz.ntmps103 (congrArg Array.toList Tryz.results103) fun Q hQ => ?_
 (focus repeat' first|refine ga ?_|(refine gb ?_;try simp[gz, *])|refine gk fun _ _=>?_)
 refine awp_loop_h [4,5,6,12,13,14,15,16,17,18,19,20,21,22,23,24,25,26,27,28,29,30,31,32,33,34,35,36,37,38,39,40,41,42,43,44,45,46,47,48,49,50,51,52,53,54,55,56,57,58,59,60,61,62] (fun m x g => ∃ (n' j : Nat), m = n' ∧ i + 1 ≤ j ∧ s.length - j ≤ n' ∧ j ≤ s.length + 1 ∧ quoR s q n' j = r ∧ x 6 = .int .i64 j ∧ g = h) (s.length - i) ⟨s.length - i, i + 1, rfl, Nat.le_refl _, by omega, by omega, hr, by simp, rfl⟩ (fun m x g hI K hK => ?_)
 clear hr
 obtain ⟨_, j, rfl, h1, h2, h3, h4, hx, rfl⟩ := hI
 by_cases hj : j < s.length
 ·obtain ⟨n', rfl⟩ : ∃ k, m = k + 1 := ⟨m - 1, by omega⟩
  have hji : (j : Int) < s.length := by omega
  have hget : s[j]? = some s[j] := List.getElem?_eq_getElem hj
  have hgd : s.getD j 0 = s[j] := by simp [List.getD, hget]
  obtain ⟨c, hc⟩ : ∃ c, s[j] = c := ⟨_, rfl⟩
  rw [hc] at hget hgd
  simp only [quoR, if_pos hj, hgd] at h4
  clear hgd
  have w1 : IntKind.i64.wrap ((j : Int) + 1) = ((j + 1 : Nat) : Int) := by rw [w64 (by omega) (by omega)]; omega
  by_cases hcq : c = q
  ·subst hcq
   rw [if_pos rfl] at h4
   have hij : ((i + 1 : Nat) : Int) ≤ j := by omega
   subst h4
   refine awp_eqs (s' := [_,_,_,_,x 4,x 5,x 6,_,_,_,_,_,x 12,x 13,x 14,x 15,x 16,x 17,x 18,x 19,x 20,x 21,x 22,x 23,x 24,x 25,x 26,x 27,x 28,x 29,x 30,x 31,x 32,x 33,x 34,x 35,x 36,x 37,x 38,x 39,x 40,x 41,x 42,x 43,x 44,x 45,x 46,x 47,x 48,x 49,x 50,x 51,x 52,x 53,x 54,x 55,x 56,x 57,x 58,x 59,x 60,x 61,x 62]) rfl ?_
   (focus repeat' first|refine ga ?_|(refine gb ?_;try simp[gz, *])|refine gk fun _ _=>?_)
   refine awp_region_quiet follows (by kernel_rfl) ?_; simp [gz, *]
   (focus repeat' first|refine ga ?_|(refine gb ?_;try simp[gz, *])|refine gk fun _ _=>?_|refine gc ?_ ?_|exact gr _|refine gi fun _=>?_|(refine gn ?_ ?_;focus(intros;simp[*];done)))
   all_goals first | exact Sub.refl _
  ·rw [if_neg hcq] at h4
   have nq : ¬ ((c.toNat : Int) = q.toNat) := u8_ne hcq
   by_cases hc10 : c = 10
   ·subst hc10
    rw [if_pos rfl] at h4
    subst h4
    refine awp_eqs (s' := [_,_,_,_,x 4,x 5,x 6,_,_,_,_,_,x 12,x 13,x 14,x 15,x 16,x 17,x 18,x 19,x 20,x 21,x 22,x 23,x 24,x 25,x 26,x 27,x 28,x 29,x 30,x 31,x 32,x 33,x 34,x 35,x 36,x 37,x 38,x 39,x 40,x 41,x 42,x 43,x 44,x 45,x 46,x 47,x 48,x 49,x 50,x 51,x 52,x 53,x 54,x 55,x 56,x 57,x 58,x 59,x 60,x 61,x 62]) rfl ?_
    (focus repeat' first|refine ga ?_|(refine gb ?_;try simp[gz, *])|refine gk fun _ _=>?_|refine gc ?_ ?_|exact gr _|refine gi fun _=>?_|(refine gn ?_ ?_;focus(intros;simp[*];done)))
    all_goals first | exact Sub.refl _
   ·rw [if_neg hc10] at h4
    have nc10 : ¬ ((c.toNat : Int) = 10) := u8_ne hc10
    by_cases hc92 : c = 92
    ·subst hc92
     rw [if_pos rfl] at h4
     by_cases hj1 : j + 1 < s.length
     ·have hji1 : ((j + 1 : Nat) : Int) < s.length := by omega
      have hget1 : s[j + 1]? = some s[j + 1] := List.getElem?_eq_getElem hj1
      have hgd1 : s.getD (j + 1) 0 = s[j + 1] := by simp [List.getD, hget1]
      obtain ⟨d, hd⟩ : ∃ d, s[j + 1] = d := ⟨_, rfl⟩
      rw [hd] at hget1 hgd1
      rw [hgd1] at h4
      clear hgd1
      have w2 : IntKind.i64.wrap (((j + 1 : Nat) : Int) + 1) = ((j + 2 : Nat) : Int) := by rw [w64 (by omega) (by omega)]; omega
      have hnn : (((j + 1 : Nat) : Int)).toNat = j + 1 := by omega
      obtain ⟨j1, hj1e⟩ : ∃ j1, j1 = j + 1 := ⟨_, rfl⟩
      clear hd
      simp only [← hj1e] at w1 w2 hji1 hget1 hnn hj1 h4
      have hd2 := (List.getElem?_eq_some_iff.1 hget1).2
      have hja : j1 ≤ j + 1 := by omega
      have hjb : j + 1 ≤ j1 := by omega
      clear hj1e
      by_cases hd10 : d = 10
      ·subst hd10
       rw [if_pos ⟨hj1, rfl⟩] at h4
       subst h4
       refine awp_eqs (s' := [_,_,_,_,x 4,x 5,x 6,_,_,_,_,_,x 12,x 13,x 14,x 15,x 16,x 17,x 18,x 19,x 20,x 21,x 22,x 23,x 24,x 25,x 26,x 27,x 28,x 29,x 30,x 31,x 32,x 33,x 34,x 35,x 36,x 37,x 38,x 39,x 40,x 41,x 42,x 43,x 44,x 45,x 46,x 47,x 48,x 49,x 50,x 51,x 52,x 53,x 54,x 55,x 56,x 57,x 58,x 59,x 60,x 61,x 62]) rfl ?_
       (focus repeat' first|refine ga ?_|(refine gb ?_;try simp[gz, *])|refine gk fun _ _=>?_|refine gc ?_ ?_|exact gr _|refine gi fun _=>?_|(refine gn ?_ ?_;focus(intros;simp[*];done)))
       all_goals first | exact Sub.refl _
      ·rw [if_neg (fun e => hd10 e.2)] at h4
       have nd10 : ¬ ((d.toNat : Int) = 10) := u8_ne hd10
       replace h4 := Shut.mk h4
       refine awp_eqs (s' := [_,_,_,_,x 4,x 5,x 6,_,_,_,_,_,x 12,x 13,x 14,x 15,x 16,x 17,x 18,x 19,x 20,x 21,x 22,x 23,x 24,x 25,x 26,x 27,x 28,x 29,x 30,x 31,x 32,x 33,x 34,x 35,x 36,x 37,x 38,x 39,x 40,x 41,x 42,x 43,x 44,x 45,x 46,x 47,x 48,x 49,x 50,x 51,x 52,x 53,x 54,x 55,x 56,x 57,x 58,x 59,x 60,x 61,x 62]) rfl ?_
       (focus repeat' first|refine ga ?_|(refine gb ?_;try simp[gz, *])|refine gk fun _ _=>?_)
       exact ⟨by kernel_rfl, rfl, n', _, by omega, Sub.refl _, n', j + 2, rfl, by omega, by omega, by omega, h4.out, by simp, rfl⟩
     ·rw [if_neg (fun e => hj1 e.1)] at h4
      have hji1 : ¬ ((j + 1 : Nat) : Int) < s.length := by omega
      have w2 : IntKind.i64.wrap (((j + 1 : Nat) : Int) + 1) = ((j + 2 : Nat) : Int) := by rw [w64 (by omega) (by omega)]; omega
      obtain ⟨j1, hj1e⟩ : ∃ j1, j1 = j + 1 := ⟨_, rfl⟩
      simp only [← hj1e] at w1 w2 hji1
      have hja : j1 ≤ j + 1 := by omega
      have hjb : j + 1 ≤ j1 := by omega
      clear hj1e
      replace h4 := Shut.mk h4
      refine awp_eqs (s' := [_,_,_,_,x 4,x 5,x 6,_,_,_,_,_,x 12,x 13,x 14,x 15,x 16,x 17,x 18,x 19,x 20,x 21,x 22,x 23,x 24,x 25,x 26,x 27,x 28,x 29,x 30,x 31,x 32,x 33,x 34,x 35,x 36,x 37,x 38,x 39,x 40,x 41,x 42,x 43,x 44,x 45,x 46,x 47,x 48,x 49,x 50,x 51,x 52,x 53,x 54,x 55,x 56,x 57,x 58,x 59,x 60,x 61,x 62]) rfl ?_
      (focus repeat' first|refine ga ?_|(refine gb ?_;try simp[gz, *])|refine gk fun _ _=>?_)
      exact ⟨by kernel_rfl, rfl, n', _, by omega, Sub.refl _, n', j + 2, rfl, by omega, by omega, by omega, h4.out, by simp, rfl⟩
    ·rw [if_neg hc92] at h4
     have nc92 : ¬ ((c.toNat : Int) = 92) := u8_ne hc92
     replace h4 := Shut.mk h4
     refine awp_eqs (s' := [_,_,_,_,x 4,x 5,x 6,_,_,_,_,_,x 12,x 13,x 14,x 15,x 16,x 17,x 18,x 19,x 20,x 21,x 22,x 23,x 24,x 25,x 26,x 27,x 28,x 29,x 30,x 31,x 32,x 33,x 34,x 35,x 36,x 37,x 38,x 39,x 40,x 41,x 42,x 43,x 44,x 45,x 46,x 47,x 48,x 49,x 50,x 51,x 52,x 53,x 54,x 55,x 56,x 57,x 58,x 59,x 60,x 61,x 62]) rfl ?_
     (focus repeat' first|refine ga ?_|(refine gb ?_;try simp[gz, *])|refine gk fun _ _=>?_)
     exact ⟨by kernel_rfl, rfl, n', _, by omega, Sub.refl _, n', j + 1, rfl, by omega, by omega, by omega, h4.out, by simp, rfl⟩
 ·have hji : ¬ (j : Int) < s.length := by omega
  have h5 : r = none := by
   rw [← h4]
   cases m with
   | zero => rfl
   | succ m => simp only [quoR, if_neg hj]
  subst h5
  clear h4
  refine awp_eqs (s' := [_,_,_,_,x 4,x 5,x 6,_,_,_,_,_,x 12,x 13,x 14,x 15,x 16,x 17,x 18,x 19,x 20,x 21,x 22,x 23,x 24,x 25,x 26,x 27,x 28,x 29,x 30,x 31,x 32,x 33,x 34,x 35,x 36,x 37,x 38,x 39,x 40,x 41,x 42,x 43,x 44,x 45,x 46,x 47,x 48,x 49,x 50,x 51,x 52,x 53,x 54,x 55,x 56,x 57,x 58,x 59,x 60,x 61,x 62]) rfl ?_
  (focus repeat' first|refine ga ?_|(refine gb ?_;try simp[gz, *])|refine gk fun _ _=>?_|refine gc ?_ ?_|exact gr _|refine gi fun _=>?_|(refine gn ?_ ?_;focus(intros;simp[*];done)))
  all_goals first | exact Sub.refl _
end Go.Proofs.YtcbgpjlcfkkdlaaGreatDoor

namespace Go.Proofs.YtcbgpjlcfkkdlaaGreatDoor
open Go Go.AL Go.Proofs
theorem run_Add64 (a b c : Nat) (w : World) (hc : c ≤ 1) : (callFunc 142 #[.int .u64 (a : Nat), .int .u64 (b : Nat), .int .u64 (c : Nat)]).run Tryz.prog w =
  .ok (.value (.tuple #[.int .u64 (((a : Int) + b + c) % 18446744073709551616), .int .u64 (((a : Int) + b + c) / 18446744073709551616)])) w := by
 rw [run_callFunc_extern Tryz.func142 (by kernel_rfl) (by kernel_rfl) (by kernel_rfl) (e := add64Entry) (by kernel_rfl), run_add64 a b c (by omega) (by omega) (by omega) (by omega)]
 rfl
abbrev digitsB : List UInt8 := [48, 49, 50, 51, 52, 53, 54, 55, 56, 57, 97, 98, 99, 100, 101, 102, 103, 104, 105, 106, 107, 108, 109, 110, 111, 112, 113, 114, 115, 116, 117, 118, 119, 120, 121, 122]
def digN (c : UInt8) : Int := Lib.indexByte digitsB (if 65 ≤ c.toNat ∧ c.toNat ≤ 90 then c + 32 else c)
theorem NDigit_c (c : UInt8) (h : Heap) (R : AV → Heap → Prop) (hR : R (.int .i64 (digN c)) h) : ACalls Tryz.prog 141 [.int .u8 c.toNat] h R := by
 refine ACalls.pure ?_ hR
 clear hR
 unfold digN
 have hc := c.toNat_lt
 by_cases h1 : 65 ≤ c.toNat
 ·by_cases h2 : c.toNat ≤ 90
  ·rw [if_pos ⟨h1, h2⟩]
   have i1 : (65 : Int) ≤ c.toNat := by omega
   have i2 : (c.toNat : Int) ≤ 90 := by omega
   have w1 : ((c.toNat : Int) + 32) % 256 = ((c + 32).toNat : Int) := by
    rw [UInt8.toNat_add]
    show _ = (((c.toNat + 32) % 256 : Nat) : Int)
    omega
   obtain ⟨d, hd⟩ : ∃ d, c + 32 = d := ⟨_, rfl⟩
   rw [hd] at w1
   rw [hd]
   have w1' : IntKind.u8.wrap ((c.toNat : Int) + 32) = (d.toNat : Int) := by
    rw [← w1]
    rfl
   refine acalls_of Tryz.func141 rfl Tryz.ntmps141 (congrArg Array.toList Tryz.results141) fun Q hQ => ?_
   (focus repeat' first|refine ga ?_|(refine gb ?_;try simp[gz, *])|refine gk fun _ _=>?_)
   refine IndexByte_c digitsB d _ _ ?_
   simp [gz, *]
   (focus repeat' first|refine ga ?_|(refine gb ?_;try simp[gz, *])|refine gk fun _ _=>?_|refine gc ?_ ?_|exact gr _|refine gi fun _=>?_|(refine gn ?_ ?_;focus(intros;simp[*];done)))
  ·rw [if_neg (fun e => h2 e.2)]
   have i1 : (65 : Int) ≤ c.toNat := by omega
   have i2 : ¬ (c.toNat : Int) ≤ 90 := by omega
   refine acalls_of Tryz.func141 rfl Tryz.ntmps141 (congrArg Array.toList Tryz.results141) fun Q hQ => ?_
   (focus repeat' first|refine ga ?_|(refine gb ?_;try simp[gz, *])|refine gk fun _ _=>?_)
   refine IndexByte_c digitsB c _ _ ?_
   simp [gz, *]
   (focus repeat' first|refine ga ?_|(refine gb ?_;try simp[gz, *])|refine gk fun _ _=>?_|refine gc ?_ ?_|exact gr _|refine gi fun _=>?_|(refine gn ?_ ?_;focus(intros;simp[*];done)))
 ·rw [if_neg (fun e => h1 e.1)]
  have i1 : ¬ (65 : Int) ≤ c.toNat := by omega
  refine acalls_of Tryz.func141 rfl Tryz.ntmps141 (congrArg Array.toList Tryz.results141) fun Q hQ => ?_
  (focus repeat' first|refine ga ?_|(refine gb ?_;try simp[gz, *])|refine gk fun _ _=>?_)
  refine IndexByte_c digitsB c _ _ ?_
  simp [gz, *]
  (focus repeat' first|refine ga ?_|(refine gb ?_;try simp[gz, *])|refine gk fun _ _=>?_|refine gc ?_ ?_|exact gr _|refine gi fun _=>?_|(refine gn ?_ ?_;focus(intros;simp[*];done)))
def posB (n : Nat) : Bool := decide (0 < n)
def numR (bs : Nat) : List UInt8 → Nat → Bool → Option (Nat × Bool)
 | [], n, o => some (n, o)
 | c :: l, n, o => if digN c < 0 ∨ (bs : Int) ≤ digN c then none else
   numR bs l ((n * bs % 18446744073709551616 + (digN c).toNat) % 18446744073709551616) (o || posB (n * bs / 18446744073709551616) || posB ((n * bs % 18446744073709551616 + (digN c).toNat) / 18446744073709551616))
def parseR (s : List UInt8) (bs : Nat) : Int × Int :=
 let m := Lib.hasPrefix s [45]
 let rest := Lib.trimPrefix s [45]
 if rest = [] then (0, 5) else match numR bs rest 0 false with
  | none => (0, 5)
  | some (n, o) => if o = true ∨ (m = false ∧ 9223372036854775807 < n) ∨ (m = true ∧ 9223372036854775808 < n) then (0, 11)
   else if m = true then (IntKind.i64.wrap (IntKind.u64.wrap (-(n : Int))), 0) else (IntKind.i64.wrap n, 0)
theorem digN_lt (c : UInt8) : digN c < 36 := by
 unfold digN
 generalize (if 65 ≤ c.toNat ∧ c.toNat ≤ 90 then c + 32 else c) = d
 by_cases h : 0 ≤ Lib.indexByte digitsB d
 ·obtain ⟨q, -⟩ := Lib.indexByte_some (o := (Lib.indexByte digitsB d).toNat) (l := digitsB) (c := d) (by omega)
  have := (List.getElem?_eq_some_iff.1 q).1
  simp at this
  omega
 ·omega
theorem NParse_c (s : List UInt8) (bs : Nat) (hb2 : 2 ≤ bs) (hb36 : bs ≤ 36) (hs : s.length ≤ 262144) (h : Heap) (h0 : h 0 = some .gint) (R : AV → Heap → Prop) (hR : R (.tup [.int .i64 (parseR s bs).1, .int .i64 (parseR s bs).2]) h) :
  ACalls Tryz.prog 102 [.str s, .int .i64 bs] h R := by
 refine ACalls.pure ?_ hR
 clear hR
 have i1 : ¬ (bs : Int) < 2 := by omega
 have i2 : (bs : Int) ≤ 36 := by omega
 obtain ⟨rest, hrest⟩ : ∃ r, Lib.trimPrefix s [45] = r := ⟨_, rfl⟩
 obtain ⟨mi, hmi⟩ : ∃ r, Lib.hasPrefix s [45] = r := ⟨_, rfl⟩
 have hrl : rest.length ≤ 262144 := by
  rw [← hrest]
  unfold Lib.trimPrefix
  split
  ·rw [List.length_drop]; omega
  ·exact hs
 obtain ⟨z, hz⟩ : ∃ z, parseR s bs = z := ⟨_, rfl⟩
 rw [hz]
 by_cases hne : rest = []
 ·have hp : parseR s bs = (0, 5) := by unfold parseR; simp only [hrest, if_pos hne]
  obtain rfl : z = (0, 5) := by rw [← hz, hp]
  clear hz hp
  refine acalls_of Tryz.func102 rfl Tryz.ntmps102 (congrArg Array.toList Tryz.results102) fun Q hQ => ?_
  (focus repeat' first|refine ga ?_|(refine gb ?_;try simp[gz, *])|refine gk fun _ _=>?_)
  refine CutPrefix_c s [45] _ h0 _ ?_
  rw [hrest, hmi]
  simp [gz, *]
  (focus repeat' first|refine ga ?_|(refine gb ?_;try simp[gz, *])|refine gk fun _ _=>?_|refine gc ?_ ?_|exact gr _|refine gi fun _=>?_|(refine gn ?_ ?_;focus(intros;simp[*];done)))
  all_goals first | exact Sub.refl _
 ·have hp : parseR s bs = (match numR bs rest 0 false with
   | none => (0, 5)
   | some (n, o) => if o = true ∨ (mi = false ∧ 9223372036854775807 < n) ∨ (mi = true ∧ 9223372036854775808 < n) then (0, 11)
    else if mi = true then (IntKind.i64.wrap (IntKind.u64.wrap (-(n : Int))), 0) else (IntKind.i64.wrap n, 0)) := by
   unfold parseR
   simp only [hrest, hmi, if_neg hne]
  obtain ⟨r, hr⟩ : ∃ r, numR bs rest 0 false = r := ⟨_, rfl⟩
  rw [hp, hr] at hz
  clear hp
  replace hz := Shut.mk hz
  refine acalls_of Tryz.func102 rfl Tryz.ntmps102 (congrArg Array.toList Tryz.results102) fun Q hQ => ?_
  (focus repeat' first|refine ga ?_|(refine gb ?_;try simp[gz, *])|refine gk fun _ _=>?_)
  refine CutPrefix_c s [45] _ h0 _ ?_
  rw [hrest, hmi]
  simp [gz, *]
  (focus repeat' first|refine ga ?_|(refine gb ?_;try simp[gz, *])|refine gk fun _ _=>?_)
  refine awp_loop_h [4,5,8,9,10,11,12,13,14,15,31,32,33,34,35,36,37,38,39,40,41,42,43,44,45,46,47,48,49,50,51,52,53,54,55,56,57,58,59,60,61,62,63,64,65,66,67,68,69] (fun m x g => ∃ (j n : Nat) (o : Bool), m = rest.length - j ∧ j ≤ rest.length ∧ n < 18446744073709551616 ∧ numR bs (rest.drop j) n o = r ∧ x 31 = .int .i64 j ∧ x 8 = .int .u64 n ∧ x 9 = .bool o ∧ g = h) rest.length ⟨0, 0, false, rfl, by omega, by decide, hr, by simp, by simp, by simp, rfl⟩ (fun m x g hI K hK => ?_)
  clear hr
  obtain ⟨j, n, o, rfl, hj, hn, h3, hx1, hx2, hx3, rfl⟩ := hI
  by_cases hlt : j < rest.length
  ·have hji : (j : Int) < rest.length := by omega
   have hget : rest[j]? = some rest[j] := List.getElem?_eq_getElem hlt
   obtain ⟨c, hc⟩ : ∃ c, rest[j] = c := ⟨_, rfl⟩
   have hdr : rest.drop j = c :: rest.drop (j + 1) := by rw [List.drop_eq_getElem_cons hlt, hc]
   rw [hc] at hget
   rw [hdr] at h3
   simp only [numR] at h3
   obtain ⟨d, hd⟩ : ∃ d, digN c = d := ⟨_, rfl⟩
   have hd36 := digN_lt c
   rw [hd] at h3 hd36
   have w1 : IntKind.i64.wrap ((j : Int) + 1) = ((j + 1 : Nat) : Int) := by rw [w64 (by omega) (by omega)]; omega
   by_cases hd0 : d < 0
   ·rw [if_pos (Or.inl hd0)] at h3
    subst h3
    obtain rfl : z = (0, 5) := by rw [← hz.out]
    refine awp_eqs (s' := [_,_,_,_,x 4,x 5,_,_,x 8,x 9,x 10,x 11,x 12,x 13,x 14,x 15,_,_,_,_,_,_,_,_,_,_,_,_,_,_,_,x 31,x 32,x 33,x 34,x 35,x 36,x 37,x 38,x 39,x 40,x 41,x 42,x 43,x 44,x 45,x 46,x 47,x 48,x 49,x 50,x 51,x 52,x 53,x 54,x 55,x 56,x 57,x 58,x 59,x 60,x 61,x 62,x 63,x 64,x 65,x 66,x 67,x 68,x 69,_,_,_,_,_,_,_,_,_,_,_,_,_,_,_,_,_,_,_,_,_,_,_,_]) rfl ?_
    (focus repeat' first|refine ga ?_|(refine gb ?_;try simp[gz, *])|refine gk fun _ _=>?_)
    refine NDigit_c c _ _ ?_
    rw [hd]
    simp [gz, *]
    (focus repeat' first|refine ga ?_|(refine gb ?_;try simp[gz, *])|refine gk fun _ _=>?_|refine gc ?_ ?_|exact gr _|refine gi fun _=>?_|(refine gn ?_ ?_;focus(intros;simp[*];done)))
    all_goals first | exact Sub.refl _
   ·by_cases hdb : (bs : Int) ≤ d
    ·rw [if_pos (Or.inr hdb)] at h3
     subst h3
     obtain rfl : z = (0, 5) := by rw [← hz.out]
     refine awp_eqs (s' := [_,_,_,_,x 4,x 5,_,_,x 8,x 9,x 10,x 11,x 12,x 13,x 14,x 15,_,_,_,_,_,_,_,_,_,_,_,_,_,_,_,x 31,x 32,x 33,x 34,x 35,x 36,x 37,x 38,x 39,x 40,x 41,x 42,x 43,x 44,x 45,x 46,x 47,x 48,x 49,x 50,x 51,x 52,x 53,x 54,x 55,x 56,x 57,x 58,x 59,x 60,x 61,x 62,x 63,x 64,x 65,x 66,x 67,x 68,x 69,_,_,_,_,_,_,_,_,_,_,_,_,_,_,_,_,_,_,_,_,_,_,_,_]) rfl ?_
     (focus repeat' first|refine ga ?_|(refine gb ?_;try simp[gz, *])|refine gk fun _ _=>?_)
     refine NDigit_c c _ _ ?_
     rw [hd]
     simp [gz, *]
     (focus repeat' first|refine ga ?_|(refine gb ?_;try simp[gz, *])|refine gk fun _ _=>?_|refine gc ?_ ?_|exact gr _|refine gi fun _=>?_|(refine gn ?_ ?_;focus(intros;simp[*];done)))
     all_goals first | exact Sub.refl _
    ·rw [if_neg (fun e => e.elim hd0 hdb)] at h3
     obtain ⟨dn, hdn⟩ : ∃ dn : Nat, d = dn := ⟨d.toNat, by omega⟩
     subst hdn
     simp only [Int.toNat_natCast] at h3
     obtain ⟨hi, hhi⟩ : ∃ x, n * bs / 18446744073709551616 = x := ⟨_, rfl⟩
     obtain ⟨lo, hlo⟩ : ∃ x, n * bs % 18446744073709551616 = x := ⟨_, rfl⟩
     have hlol : lo < 18446744073709551616 := by rw [← hlo]; exact Nat.mod_lt _ (by decide)
     rw [hhi, hlo] at h3
     obtain ⟨sm, hsm⟩ : ∃ x, (lo + dn) % 18446744073709551616 = x := ⟨_, rfl⟩
     obtain ⟨cy, hcy⟩ : ∃ x, (lo + dn) / 18446744073709551616 = x := ⟨_, rfl⟩
     have hsml : sm < 18446744073709551616 := by rw [← hsm]; exact Nat.mod_lt _ (by decide)
     rw [hsm, hcy] at h3
     have wb : IntKind.u64.wrap (bs : Int) = bs := by show (bs : Int) % 18446744073709551616 = bs; omega
     have wb2 : (bs : Int) % 18446744073709551616 = bs := by omega
     have wd : IntKind.u64.wrap (dn : Int) = dn := by show (dn : Int) % 18446744073709551616 = dn; omega
     have wd2 : (dn : Int) % 18446744073709551616 = dn := by omega
     have e1 : ((lo : Int) + dn) % 18446744073709551616 = sm := by omega
     have e2 : ((lo : Int) + dn) / 18446744073709551616 = cy := by omega
     clear hsm hcy hd36
     replace h3 := Shut.mk h3
     refine awp_eqs (s' := [_,_,_,_,x 4,x 5,_,_,x 8,x 9,x 10,x 11,x 12,x 13,x 14,x 15,_,_,_,_,_,_,_,_,_,_,_,_,_,_,_,x 31,x 32,x 33,x 34,x 35,x 36,x 37,x 38,x 39,x 40,x 41,x 42,x 43,x 44,x 45,x 46,x 47,x 48,x 49,x 50,x 51,x 52,x 53,x 54,x 55,x 56,x 57,x 58,x 59,x 60,x 61,x 62,x 63,x 64,x 65,x 66,x 67,x 68,x 69,_,_,_,_,_,_,_,_,_,_,_,_,_,_,_,_,_,_,_,_,_,_,_,_]) rfl ?_
     (focus repeat' first|refine ga ?_|(refine gb ?_;try simp[gz, *])|refine gk fun _ _=>?_)
     refine NDigit_c c _ _ ?_
     rw [hd]
     simp [gz, *]
     (focus repeat' first|refine ga ?_|(refine gb ?_;try simp[gz, *])|refine gk fun _ _=>?_)
     refine Mul64_c n bs hn (by omega) _ _ ?_
     rw [hhi, hlo]
     clear hhi hlo
     simp [Heap.set_get, *]
     (focus repeat' first|refine ga ?_|(refine awp_ret ?_; try simp[gz, *])|(refine awp_skip ?_; try simp[gz, *])|(refine awp_exit ?_; try simp[gz, *])|(refine KeepQ.go (by assumption) ?_; try simp[gz, *])|(refine awp_cond' ?_; try simp[gz, *])|refine gk fun _ _=>?_|refine gc ?_ ?_|exact gr _|refine gi fun _=>?_|(refine gn ?_ ?_;focus(intros;simp[*];done)))
     refine awp_region_op (pre := [_, _, _]) rfl rfl (aop_ext3 rfl (R := fun a b c => .tuple #[.int .u64 (((a : Int) + b + c) % 18446744073709551616), .int .u64 (((a : Int) + b + c) / 18446744073709551616)]) (A := fun a b c => .tup [.int .u64 (((a : Int) + b + c) % 18446744073709551616), .int .u64 (((a : Int) + b + c) / 18446744073709551616)]) (fun a b c w hc => run_Add64 a b c w hc) (fun F a b c => .tup _ _ rfl fun i hi => match i, hi with
      | 0, _ => .int _ _
      | 1, _ => .int _ _) lo dn 0 (by omega)) ?_
     simp [Heap.set_get, *]
     (focus repeat' first|refine ga ?_|(refine gb ?_;try simp[gz, *])|refine gk fun _ _=>?_)
     exact ⟨by kernel_rfl, rfl, rest.length - (j + 1), _, by omega, Sub.refl _, j + 1, sm, o || posB hi || posB cy, rfl, by omega, hsml, h3.out, by simp, by simp, by simp [posB], rfl⟩
  ·have hji : ¬ (j : Int) < rest.length := by omega
   rw [List.drop_eq_nil_of_le (by omega)] at h3
   simp only [numR] at h3
   subst h3
   clear hne hrest hmi
   have wn : IntKind.u64.wrap (n : Int) = n := by show (n : Int) % 18446744073709551616 = n; omega
   have wn2 : (n : Int) % 18446744073709551616 = n := by omega
   replace hz := hz.out
   simp only at hz
   cases o
   ·cases mi
    ·by_cases hb : 9223372036854775807 < n
     ·have hbi : (9223372036854775807 : Int) < n := by omega
      rw [if_pos (Or.inr (Or.inl ⟨rfl, hb⟩))] at hz
      subst hz
      refine awp_eqs (s' := [_,_,_,_,x 4,x 5,_,_,x 8,x 9,x 10,x 11,x 12,x 13,x 14,x 15,_,_,_,_,_,_,_,_,_,_,_,_,_,_,_,x 31,x 32,x 33,x 34,x 35,x 36,x 37,x 38,x 39,x 40,x 41,x 42,x 43,x 44,x 45,x 46,x 47,x 48,x 49,x 50,x 51,x 52,x 53,x 54,x 55,x 56,x 57,x 58,x 59,x 60,x 61,x 62,x 63,x 64,x 65,x 66,x 67,x 68,x 69,_,_,_,_,_,_,_,_,_,_,_,_,_,_,_,_,_,_,_,_,_,_,_,_]) rfl ?_
      (focus repeat' first|refine ga ?_|(refine gb ?_;try simp[gz, *])|refine gk fun _ _=>?_|refine gc ?_ ?_|exact gr _|refine gi fun _=>?_|(refine gn ?_ ?_;focus(intros;simp[*];done)))
      all_goals first | exact Sub.refl _ | (refine ⟨?_, Sub.refl _⟩; simp [*]; done)
     ·have hbi : ¬ (9223372036854775807 : Int) < n := by omega
      rw [if_neg (by simp [hb]), if_neg (by decide)] at hz
      subst hz
      refine awp_eqs (s' := [_,_,_,_,x 4,x 5,_,_,x 8,x 9,x 10,x 11,x 12,x 13,x 14,x 15,_,_,_,_,_,_,_,_,_,_,_,_,_,_,_,x 31,x 32,x 33,x 34,x 35,x 36,x 37,x 38,x 39,x 40,x 41,x 42,x 43,x 44,x 45,x 46,x 47,x 48,x 49,x 50,x 51,x 52,x 53,x 54,x 55,x 56,x 57,x 58,x 59,x 60,x 61,x 62,x 63,x 64,x 65,x 66,x 67,x 68,x 69,_,_,_,_,_,_,_,_,_,_,_,_,_,_,_,_,_,_,_,_,_,_,_,_]) rfl ?_
      (focus repeat' first|refine ga ?_|(refine gb ?_;try simp[gz, *])|refine gk fun _ _=>?_|refine gc ?_ ?_|exact gr _|refine gi fun _=>?_|(refine gn ?_ ?_;focus(intros;simp[*];done)))
      all_goals first | exact Sub.refl _ | (refine ⟨?_, Sub.refl _⟩; simp [*]; done)
    ·by_cases hb : 9223372036854775808 < n
     ·have hbi : (9223372036854775808 : Int) < n := by omega
      rw [if_pos (Or.inr (Or.inr ⟨rfl, hb⟩))] at hz
      subst hz
      refine awp_eqs (s' := [_,_,_,_,x 4,x 5,_,_,x 8,x 9,x 10,x 11,x 12,x 13,x 14,x 15,_,_,_,_,_,_,_,_,_,_,_,_,_,_,_,x 31,x 32,x 33,x 34,x 35,x 36,x 37,x 38,x 39,x 40,x 41,x 42,x 43,x 44,x 45,x 46,x 47,x 48,x 49,x 50,x 51,x 52,x 53,x 54,x 55,x 56,x 57,x 58,x 59,x 60,x 61,x 62,x 63,x 64,x 65,x 66,x 67,x 68,x 69,_,_,_,_,_,_,_,_,_,_,_,_,_,_,_,_,_,_,_,_,_,_,_,_]) rfl ?_
      (focus repeat' first|refine ga ?_|(refine gb ?_;try simp[gz, *])|refine gk fun _ _=>?_|refine gc ?_ ?_|exact gr _|refine gi fun _=>?_|(refine gn ?_ ?_;focus(intros;simp[*];done)))
      all_goals first | exact Sub.refl _ | (refine ⟨?_, Sub.refl _⟩; simp [*]; done)
     ·have hbi : ¬ (9223372036854775808 : Int) < n := by omega
      rw [if_neg (by simp [hb]), if_pos rfl] at hz
      subst hz
      refine awp_eqs (s' := [_,_,_,_,x 4,x 5,_,_,x 8,x 9,x 10,x 11,x 12,x 13,x 14,x 15,_,_,_,_,_,_,_,_,_,_,_,_,_,_,_,x 31,x 32,x 33,x 34,x 35,x 36,x 37,x 38,x 39,x 40,x 41,x 42,x 43,x 44,x 45,x 46,x 47,x 48,x 49,x 50,x 51,x 52,x 53,x 54,x 55,x 56,x 57,x 58,x 59,x 60,x 61,x 62,x 63,x 64,x 65,x 66,x 67,x 68,x 69,_,_,_,_,_,_,_,_,_,_,_,_,_,_,_,_,_,_,_,_,_,_,_,_]) rfl ?_
      (focus repeat' first|refine ga ?_|(refine gb ?_;try simp[gz, *])|refine gk fun _ _=>?_|refine gc ?_ ?_|exact gr _|refine gi fun _=>?_|(refine gn ?_ ?_;focus(intros;simp[*];done)))
      all_goals first | exact Sub.refl _ | (refine ⟨?_, Sub.refl _⟩; simp [*]; done)
   ·rw [if_pos (Or.inl rfl)] at hz
    subst hz
    refine awp_eqs (s' := [_,_,_,_,x 4,x 5,_,_,x 8,x 9,x 10,x 11,x 12,x 13,x 14,x 15,_,_,_,_,_,_,_,_,_,_,_,_,_,_,_,x 31,x 32,x 33,x 34,x 35,x 36,x 37,x 38,x 39,x 40,x 41,x 42,x 43,x 44,x 45,x 46,x 47,x 48,x 49,x 50,x 51,x 52,x 53,x 54,x 55,x 56,x 57,x 58,x 59,x 60,x 61,x 62,x 63,x 64,x 65,x 66,x 67,x 68,x 69,_,_,_,_,_,_,_,_,_,_,_,_,_,_,_,_,_,_,_,_,_,_,_,_]) rfl ?_
    (focus repeat' first|refine ga ?_|(refine gb ?_;try simp[gz, *])|refine gk fun _ _=>?_|refine gc ?_ ?_|exact gr _|refine gi fun _=>?_|(refine gn ?_ ?_;focus(intros;simp[*];done)))
    all_goals first | exact Sub.refl _ | (refine ⟨?_, Sub.refl _⟩; simp [*]; done)
end Go.Proofs.YtcbgpjlcfkkdlaaGreatDoor

