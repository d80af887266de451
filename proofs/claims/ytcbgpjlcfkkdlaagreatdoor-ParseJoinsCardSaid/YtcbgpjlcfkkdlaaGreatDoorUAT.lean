import Derived.Test.YtcbgpjlcfkkdlaaGreatDoorUAS
import Derived.Test.YtcbgpjlcfkkdlaaGreatDoorUAL
set_option linter.unusedSimpArgs false
set_option linter.unusedVariables false
set_option maxRecDepth 100000
set_option maxHeartbeats 16000000
namespace Go.Proofs.YtcbgpjlcfkkdlaaGreatDoor
open Go Go.AL Go.Proofs
def hexD (c : UInt8) : Int := if 48 ≤ c.toNat ∧ c.toNat ≤ 57 then (c.toNat : Int) - 48 else if 97 ≤ c.toNat ∧ c.toNat ≤ 102 then (c.toNat : Int) - 87 else if 65 ≤ c.toNat ∧ c.toNat ≤ 70 then (c.toNat : Int) - 55 else -1
theorem wr8 {n : Int} (h0 : 0 ≤ n) (h1 : n < 256) : IntKind.u8.wrap n = n := by show n % 256 = n; omega
theorem SDigit_c (c : UInt8) (h : Heap) (R : AV → Heap → Prop) (hR : R (.int .i64 (hexD c)) h) : ACalls Tryz.prog 152 [.int .u8 c.toNat] h R := by
 refine ACalls.pure ?_ hR
 clear hR
 have hc := c.toNat_lt
 unfold hexD
 obtain ⟨n, hn⟩ : ∃ n, c.toNat = n := ⟨_, rfl⟩
 rw [hn] at hc ⊢
 clear hn
 by_cases h1 : 48 ≤ n ∧ n ≤ 57
 ·rw [if_pos h1]
  have i1 : (48 : Int) ≤ n := by omega
  have i2 : (n : Int) ≤ 57 := by omega
  have w1 : IntKind.u8.wrap ((n : Int) - 48) = (n : Int) - 48 := wr8 (by omega) (by omega)
  have w2 : IntKind.i64.wrap ((n : Int) - 48) = (n : Int) - 48 := w64 (by omega) (by omega)
  clear h1 hc
  refine acalls_of Tryz.func152 rfl Tryz.ntmps152 (congrArg Array.toList Tryz.results152) fun Q hQ => ?_
  (focus repeat' first|refine ga ?_|(refine gb ?_;try simp[gz, *])|refine gk fun _ _=>?_|refine gc ?_ ?_|exact gr _|refine gi fun _=>?_|(refine gn ?_ ?_;focus(intros;simp[*];done)))
  all_goals first | exact Sub.refl _
 ·rw [if_neg h1]
  by_cases h2 : 97 ≤ n ∧ n ≤ 102
  ·rw [if_pos h2]
   have i0 : (48 : Int) ≤ n := by omega
   have i1 : ¬ (n : Int) ≤ 57 := by omega
   have i3 : (97 : Int) ≤ n := by omega
   have i4 : (n : Int) ≤ 102 := by omega
   have w1 : IntKind.u8.wrap ((n : Int) - 97) = (n : Int) - 97 := wr8 (by omega) (by omega)
   have w2 : IntKind.i64.wrap ((n : Int) - 97) = (n : Int) - 97 := w64 (by omega) (by omega)
   have w3 : IntKind.i64.wrap ((n : Int) - 97 + 10) = (n : Int) - 87 := by rw [w64 (by omega) (by omega)]; omega
   clear h1 h2 hc
   refine acalls_of Tryz.func152 rfl Tryz.ntmps152 (congrArg Array.toList Tryz.results152) fun Q hQ => ?_
   (focus repeat' first|refine ga ?_|(refine gb ?_;try simp[gz, *])|refine gk fun _ _=>?_|refine gc ?_ ?_|exact gr _|refine gi fun _=>?_|(refine gn ?_ ?_;focus(intros;simp[*];done)))
   all_goals first | exact Sub.refl _
  ·rw [if_neg h2]
   by_cases h3 : 65 ≤ n ∧ n ≤ 70
   ·rw [if_pos h3]
    have i0 : (48 : Int) ≤ n := by omega
    have i1 : ¬ (n : Int) ≤ 57 := by omega
    have i3 : ¬ (97 : Int) ≤ n := by omega
    have i4 : (65 : Int) ≤ n := by omega
    have i5 : (n : Int) ≤ 70 := by omega
    have w1 : IntKind.u8.wrap ((n : Int) - 65) = (n : Int) - 65 := wr8 (by omega) (by omega)
    have w2 : IntKind.i64.wrap ((n : Int) - 65) = (n : Int) - 65 := w64 (by omega) (by omega)
    have w3 : IntKind.i64.wrap ((n : Int) - 65 + 10) = (n : Int) - 55 := by rw [w64 (by omega) (by omega)]; omega
    clear h1 h2 h3 hc
    refine acalls_of Tryz.func152 rfl Tryz.ntmps152 (congrArg Array.toList Tryz.results152) fun Q hQ => ?_
    (focus repeat' first|refine ga ?_|(refine gb ?_;try simp[gz, *])|refine gk fun _ _=>?_|refine gc ?_ ?_|exact gr _|refine gi fun _=>?_|(refine gn ?_ ?_;focus(intros;simp[*];done)))
    all_goals first | exact Sub.refl _
   ·rw [if_neg h3]
    have d1 : (decide ((48 : Int) ≤ n) && decide ((n : Int) ≤ 57)) = false := by
     rw [Bool.eq_false_iff]; intro e; simp only [Bool.and_eq_true, decide_eq_true_eq] at e; omega
    have d2 : (decide ((97 : Int) ≤ n) && decide ((n : Int) ≤ 102)) = false := by
     rw [Bool.eq_false_iff]; intro e; simp only [Bool.and_eq_true, decide_eq_true_eq] at e; omega
    have d3 : (decide ((65 : Int) ≤ n) && decide ((n : Int) ≤ 70)) = false := by
     rw [Bool.eq_false_iff]; intro e; simp only [Bool.and_eq_true, decide_eq_true_eq] at e; omega
    by_cases a1 : (48 : Int) ≤ n
    ·have a2 : ¬ (n : Int) ≤ 57 := by omega
     by_cases a3 : (97 : Int) ≤ n
     ·have a4 : ¬ (n : Int) ≤ 102 := by omega
      have a5 : (65 : Int) ≤ n := by omega
      have a6 : ¬ (n : Int) ≤ 70 := by omega
      clear h1 h2 h3 hc d1 d2 d3
      refine acalls_of Tryz.func152 rfl Tryz.ntmps152 (congrArg Array.toList Tryz.results152) fun Q hQ => ?_
      (focus repeat' first|refine ga ?_|(refine gb ?_;try simp[gz, *])|refine gk fun _ _=>?_|refine gc ?_ ?_|exact gr _|refine gi fun _=>?_|(refine gn ?_ ?_;focus(intros;simp[*];done)))
      all_goals first | exact Sub.refl _
     ·by_cases a5 : (65 : Int) ≤ n
      ·have a6 : ¬ (n : Int) ≤ 70 := by omega
       clear h1 h2 h3 hc d1 d2 d3
       refine acalls_of Tryz.func152 rfl Tryz.ntmps152 (congrArg Array.toList Tryz.results152) fun Q hQ => ?_
       (focus repeat' first|refine ga ?_|(refine gb ?_;try simp[gz, *])|refine gk fun _ _=>?_|refine gc ?_ ?_|exact gr _|refine gi fun _=>?_|(refine gn ?_ ?_;focus(intros;simp[*];done)))
       all_goals first | exact Sub.refl _
      ·clear h1 h2 h3 hc d1 d2 d3
       refine acalls_of Tryz.func152 rfl Tryz.ntmps152 (congrArg Array.toList Tryz.results152) fun Q hQ => ?_
       (focus repeat' first|refine ga ?_|(refine gb ?_;try simp[gz, *])|refine gk fun _ _=>?_|refine gc ?_ ?_|exact gr _|refine gi fun _=>?_|(refine gn ?_ ?_;focus(intros;simp[*];done)))
       all_goals first | exact Sub.refl _
    ·have a3 : ¬ (97 : Int) ≤ n := by omega
     have a5 : ¬ (65 : Int) ≤ n := by omega
     clear h1 h2 h3 hc d1 d2 d3
     refine acalls_of Tryz.func152 rfl Tryz.ntmps152 (congrArg Array.toList Tryz.results152) fun Q hQ => ?_
     (focus repeat' first|refine ga ?_|(refine gb ?_;try simp[gz, *])|refine gk fun _ _=>?_|refine gc ?_ ?_|exact gr _|refine gi fun _=>?_|(refine gn ?_ ?_;focus(intros;simp[*];done)))
     all_goals first | exact Sub.refl _
end Go.Proofs.YtcbgpjlcfkkdlaaGreatDoor

namespace Go.Proofs.YtcbgpjlcfkkdlaaGreatDoor
open Go Go.AL Go.Proofs
def hexN (n d : Int) : Int := bitOr .i64 (IntKind.i64.wrap (n * 16)) d
def hexR : List UInt8 → Nat → Int → Nat → Int × Nat
 | c :: t, m + 1, n, k => if 0 ≤ hexD c then hexR t m (hexN n (hexD c)) (k + 1) else (n, k)
 | _, _, n, k => (n, k)
theorem hexR_len : ∀ (t : List UInt8) (m : Nat) (n : Int) (k : Nat), (hexR t m n k).2 ≤ k + t.length
 | [], m, n, k => by simp [hexR]
 | c :: t, 0, n, k => by simp [hexR]
 | c :: t, m + 1, n, k => by
  simp only [hexR]
  split
  ·have := hexR_len t m (hexN n (hexD c)) (k + 1); simp only [List.length_cons]; omega
  ·show k ≤ _; omega
theorem hexR_nil (m : Nat) (n : Int) (k : Nat) : hexR [] m n k = (n, k) := by cases m <;> rfl
def byteOf (n : Int) : UInt8 := UInt8.ofNat (n % 256).toNat
theorem byteOf_eq (n : Int) : ((byteOf n).toNat : Int) = IntKind.u8.wrap n := by
 show _ = n % 256
 unfold byteOf
 simp only [UInt8.toNat_ofNat']
 omega
def behR : List UInt8 → UInt8 × Nat
 | [] => (0, 0)
 | c :: t => if c = 34 ∨ c = 39 ∨ c = 92 then (c, 1) else if c = 110 then (10, 1) else if c = 114 then (13, 1) else if c = 116 then (9, 1) else if c = 48 then (0, 1)
  else if c = 120 then (if (hexR t 2 0 0).2 = 0 then (0, 0) else (byteOf (hexR t 2 0 0).1, (hexR t 2 0 0).2 + 1)) else (0, 0)
theorem behR_len (s : List UInt8) : (behR s).2 ≤ s.length := by
 cases s with
 | nil => simp [behR]
 | cons c t =>
  simp only [behR, List.length_cons]
  have := hexR_len t 2 0 0
  repeat' split
  all_goals (simp only [] <;> omega)
theorem behind_c (s : List UInt8) (hs : s.length ≤ 262144) (h : Heap) (R : AV → Heap → Prop) (hR : R (.tup [.int .u8 (behR s).1.toNat, .int .i64 (behR s).2]) h) : ACalls Tryz.prog 143 [.str s] h R := by
 refine ACalls.pure ?_ hR
 clear hR
 cases s with
 | nil =>
  refine acalls_of Tryz.func143 rfl Tryz.ntmps143 (congrArg Array.toList Tryz.results143) fun Q hQ => ?_
  (focus repeat' first|refine ga ?_|(refine gb ?_;try simp[gz, *])|refine gk fun _ _=>?_)
  all_goals first | exact ⟨⟨rfl, rfl⟩, Sub.refl _⟩ | exact Sub.refl _
 | cons c t =>
  obtain ⟨z, hz⟩ : ∃ z, behR (c :: t) = z := ⟨_, rfl⟩
  rw [hz]
  simp only [behR] at hz
  simp only [List.length_cons] at hs
  obtain ⟨u, hu⟩ : ∃ u, c :: t = u := ⟨_, rfl⟩
  have hul : u.length = t.length + 1 := by rw [← hu, List.length_cons]
  have hu0 : u[0]? = some c := by rw [← hu]; rfl
  have huk : ∀ k, u[k + 1]? = t[k]? := fun k => by rw [← hu, List.getElem?_cons_succ]
  have hune : ¬ u = [] := by rw [← hu]; simp
  have hu1 : 0 < u.length := by rw [← hu]; simp
  have hu2 := (List.getElem?_eq_some_iff.1 hu0).2
  rw [hu]
  clear hu
  replace hul := Shut.mk hul
  replace huk := Shut.mk huk
  by_cases h1 : c = 34 ∨ c = 39 ∨ c = 92
  ·rw [if_pos h1] at hz
   subst hz
   rcases h1 with rfl | rfl | rfl
   all_goals
    refine acalls_of Tryz.func143 rfl Tryz.ntmps143 (congrArg Array.toList Tryz.results143) fun Q hQ => ?_
    (focus repeat' first|refine ga ?_|(refine gb ?_;try simp[gz, *])|refine gk fun _ _=>?_|refine gc ?_ ?_|exact gr _|refine gi fun _=>?_|(refine gn ?_ ?_;focus(intros;simp[*];done)))
    all_goals first | exact Sub.refl _
  ·rw [if_neg h1] at hz
   have n34 : ¬ ((c.toNat : Int) = 34) := u8_ne fun e => h1 (Or.inl e)
   have n39 : ¬ ((c.toNat : Int) = 39) := u8_ne fun e => h1 (Or.inr (Or.inl e))
   have n92 : ¬ ((c.toNat : Int) = 92) := u8_ne fun e => h1 (Or.inr (Or.inr e))
   clear h1
   by_cases h2 : c = 110
   ·subst h2
    rw [if_pos rfl] at hz
    subst hz
    refine acalls_of Tryz.func143 rfl Tryz.ntmps143 (congrArg Array.toList Tryz.results143) fun Q hQ => ?_
    (focus repeat' first|refine ga ?_|(refine gb ?_;try simp[gz, *])|refine gk fun _ _=>?_|refine gc ?_ ?_|exact gr _|refine gi fun _=>?_|(refine gn ?_ ?_;focus(intros;simp[*];done)))
    all_goals first | exact Sub.refl _
   ·rw [if_neg h2] at hz
    have n110 : ¬ ((c.toNat : Int) = 110) := u8_ne h2
    clear h2
    by_cases h2 : c = 114
    ·subst h2
     rw [if_pos rfl] at hz
     subst hz
     refine acalls_of Tryz.func143 rfl Tryz.ntmps143 (congrArg Array.toList Tryz.results143) fun Q hQ => ?_
     (focus repeat' first|refine ga ?_|(refine gb ?_;try simp[gz, *])|refine gk fun _ _=>?_|refine gc ?_ ?_|exact gr _|refine gi fun _=>?_|(refine gn ?_ ?_;focus(intros;simp[*];done)))
     all_goals first | exact Sub.refl _
    ·rw [if_neg h2] at hz
     have n114 : ¬ ((c.toNat : Int) = 114) := u8_ne h2
     clear h2
     by_cases h2 : c = 116
     ·subst h2
      rw [if_pos rfl] at hz
      subst hz
      refine acalls_of Tryz.func143 rfl Tryz.ntmps143 (congrArg Array.toList Tryz.results143) fun Q hQ => ?_
      (focus repeat' first|refine ga ?_|(refine gb ?_;try simp[gz, *])|refine gk fun _ _=>?_|refine gc ?_ ?_|exact gr _|refine gi fun _=>?_|(refine gn ?_ ?_;focus(intros;simp[*];done)))
      all_goals first | exact Sub.refl _
     ·rw [if_neg h2] at hz
      have n116 : ¬ ((c.toNat : Int) = 116) := u8_ne h2
      clear h2
      by_cases h2 : c = 48
      ·subst h2
       rw [if_pos rfl] at hz
       subst hz
       refine acalls_of Tryz.func143 rfl Tryz.ntmps143 (congrArg Array.toList Tryz.results143) fun Q hQ => ?_
       (focus repeat' first|refine ga ?_|(refine gb ?_;try simp[gz, *])|refine gk fun _ _=>?_|refine gc ?_ ?_|exact gr _|refine gi fun _=>?_|(refine gn ?_ ?_;focus(intros;simp[*];done)))
       all_goals first | exact Sub.refl _
      ·rw [if_neg h2] at hz
       have n48 : ¬ ((c.toNat : Int) = 48) := u8_ne h2
       clear h2
       by_cases h2 : c = 120
       ·subst h2
        rw [if_pos rfl] at hz
        obtain ⟨r, hr⟩ : ∃ r, hexR t 2 0 0 = r := ⟨_, rfl⟩
        rw [hr] at hz
        clear n34 n39 n92 n110 n114 n116 n48
        replace hz := Shut.mk hz
        refine acalls_of Tryz.func143 rfl Tryz.ntmps143 (congrArg Array.toList Tryz.results143) fun Q hQ => ?_
        (focus repeat' first|refine ga ?_|(refine gb ?_;try simp[gz, *])|refine gk fun _ _=>?_)
        refine awp_loop_h [4,5,26,27,28,29,30,31,32,33,34,35,36,37,38,39,40,41,42,43,44,45,46,47,48,49] (fun m x g => ∃ (k : Nat) (n : Int), m = 2 - k ∧ k ≤ 2 ∧ k ≤ t.length ∧ hexR (t.drop k) (2 - k) n k = r ∧ x 4 = .int .i64 n ∧ x 5 = .int .i64 ((k : Int) + 1) ∧ g = h) 2 ⟨0, 0, rfl, by omega, by omega, hr, by simp, by simp, rfl⟩ (fun m x g hI K hK => ?_)
        clear hr
        obtain ⟨k, n, rfl, hk2, hkt, h3, hx1, hx2, rfl⟩ := hI
        have hull := hul.out
        have hnn : ((k : Int) + 1).toNat = k + 1 := by omega
        have w1 : IntKind.i64.wrap ((k : Int) + 1 + 1) = ((k + 1 : Nat) : Int) + 1 := by rw [w64 (by omega) (by omega)]; omega
        by_cases hlt : k < t.length
        ·have hji : (k : Int) + 1 < u.length := by omega
         have hji3 : (0 : Int) ≤ (k : Int) + 1 := by omega
         have hji4 : k + 1 < u.length := by omega
         have hget : u[k + 1]? = some t[k] := by rw [huk.out, List.getElem?_eq_getElem hlt]
         obtain ⟨c, hc⟩ : ∃ c, t[k] = c := ⟨_, rfl⟩
         have hdr : t.drop k = c :: t.drop (k + 1) := by rw [List.drop_eq_getElem_cons hlt, hc]
         rw [hc] at hget
         have hget2 := (List.getElem?_eq_some_iff.1 hget).2
         rw [hdr] at h3
         clear hdr hull hc
         by_cases hk : k < 2
         ·have hki : (k : Int) + 1 < 3 := by omega
          obtain ⟨m, hm⟩ : ∃ m, 2 - k = m + 1 := ⟨1 - k, by omega⟩
          have hm2 : 2 - (k + 1) = m := by omega
          rw [hm] at h3
          simp only [hexR] at h3
          clear hm
          by_cases hd : 0 ≤ hexD c
          ·rw [if_pos hd] at h3
           obtain ⟨d, hdd⟩ : ∃ d, hexD c = d := ⟨_, rfl⟩
           rw [hdd] at h3 hd
           rw [← hm2] at h3
           clear hm2
           replace h3 := Shut.mk h3
           refine awp_eqs (s' := [_,_,_,_,x 4,x 5,_,_,_,_,_,_,_,_,_,_,_,_,_,_,_,_,_,_,_,_,x 26,x 27,x 28,x 29,x 30,x 31,x 32,x 33,x 34,x 35,x 36,x 37,x 38,x 39,x 40,x 41,x 42,x 43,x 44,x 45,x 46,x 47,x 48,x 49,_,_,_,_,_]) rfl ?_
           (focus repeat' first|refine ga ?_|(refine gb ?_;try simp[gz, *])|refine gk fun _ _=>?_)
           refine SDigit_c c _ _ ?_
           rw [hdd]
           simp [gz, *]
           (focus repeat' first|refine ga ?_|(refine gb ?_;try simp[gz, *])|refine gk fun _ _=>?_)
           refine SDigit_c c _ _ ?_
           rw [hdd]
           simp [gz, *]
           (focus repeat' first|refine ga ?_|(refine gb ?_;try simp[gz, *])|refine gk fun _ _=>?_)
           exact ⟨by kernel_rfl, rfl, 2 - (k + 1), _, by omega, Sub.refl _, k + 1, hexN n d, rfl, by omega, by omega, h3.out, by first | (simp [hexN]; done) | (simp [hexN]; rfl), by simp, rfl⟩
          ·rw [if_neg hd] at h3
           subst h3
           replace hz := hz.out
           simp only at hz
           by_cases hk0 : k = 0
           ·subst hk0
            rw [if_pos rfl] at hz
            subst hz
            refine awp_eqs (s' := [_,_,_,_,x 4,x 5,_,_,_,_,_,_,_,_,_,_,_,_,_,_,_,_,_,_,_,_,x 26,x 27,x 28,x 29,x 30,x 31,x 32,x 33,x 34,x 35,x 36,x 37,x 38,x 39,x 40,x 41,x 42,x 43,x 44,x 45,x 46,x 47,x 48,x 49,_,_,_,_,_]) rfl ?_
            (focus repeat' first|refine ga ?_|(refine gb ?_;try simp[gz, *])|refine gk fun _ _=>?_|refine gc ?_ ?_|exact gr _|refine gi fun _=>?_|(refine gn ?_ ?_;focus(intros;simp[*];done)))
            refine SDigit_c c _ _ ?_
            simp [gz, *]
            (focus repeat' first|refine ga ?_|(refine gb ?_;try simp[gz, *])|refine gk fun _ _=>?_|refine gc ?_ ?_|exact gr _|refine gi fun _=>?_|(refine gn ?_ ?_;focus(intros;simp[*];done)))
            all_goals first | exact Sub.refl _
           ·rw [if_neg hk0] at hz
            subst hz
            have hk0i : ¬ ((k : Int) = 0) := by omega
            have hbo := byteOf_eq n
            try simp only
            refine awp_eqs (s' := [_,_,_,_,x 4,x 5,_,_,_,_,_,_,_,_,_,_,_,_,_,_,_,_,_,_,_,_,x 26,x 27,x 28,x 29,x 30,x 31,x 32,x 33,x 34,x 35,x 36,x 37,x 38,x 39,x 40,x 41,x 42,x 43,x 44,x 45,x 46,x 47,x 48,x 49,_,_,_,_,_]) rfl ?_
            (focus repeat' first|refine ga ?_|(refine gb ?_;try simp[gz, *])|refine gk fun _ _=>?_)
            refine SDigit_c c _ _ ?_
            simp [gz, *]
            (focus repeat' first|refine ga ?_|(refine gb ?_;try simp[gz, *])|refine gk fun _ _=>?_|refine gc ?_ ?_|exact gr _|refine gi fun _=>?_|(refine gn ?_ ?_;focus(intros;simp[*];done)))
            all_goals first | exact Sub.refl _
         ·have hk2' : k = 2 := by omega
          subst hk2'
          replace h3 : (n, 2) = r := h3
          subst h3
          replace hz := hz.out
          rw [if_neg (show ¬ (2 : Nat) = 0 by decide)] at hz
          subst hz
          have hbo := byteOf_eq n
          try simp only
          refine awp_eqs (s' := [_,_,_,_,x 4,x 5,_,_,_,_,_,_,_,_,_,_,_,_,_,_,_,_,_,_,_,_,x 26,x 27,x 28,x 29,x 30,x 31,x 32,x 33,x 34,x 35,x 36,x 37,x 38,x 39,x 40,x 41,x 42,x 43,x 44,x 45,x 46,x 47,x 48,x 49,_,_,_,_,_]) rfl ?_
          (focus repeat' first|refine ga ?_|(refine gb ?_;try simp[gz, *])|refine gk fun _ _=>?_|refine gc ?_ ?_|exact gr _|refine gi fun _=>?_|(refine gn ?_ ?_;focus(intros;simp[*];done)))
          all_goals first | exact Sub.refl _
        ·have hji : ¬ (k : Int) + 1 < u.length := by omega
         rw [List.drop_eq_nil_of_le (by omega)] at h3
         rw [hexR_nil] at h3
         subst h3
         clear hull
         replace hz := hz.out
         try simp only at hz
         by_cases hk0 : k = 0
         ·subst hk0
          rw [if_pos rfl] at hz
          subst hz
          refine awp_eqs (s' := [_,_,_,_,x 4,x 5,_,_,_,_,_,_,_,_,_,_,_,_,_,_,_,_,_,_,_,_,x 26,x 27,x 28,x 29,x 30,x 31,x 32,x 33,x 34,x 35,x 36,x 37,x 38,x 39,x 40,x 41,x 42,x 43,x 44,x 45,x 46,x 47,x 48,x 49,_,_,_,_,_]) rfl ?_
          (focus repeat' first|refine ga ?_|(refine gb ?_;try simp[gz, *])|refine gk fun _ _=>?_|refine gc ?_ ?_|exact gr _|refine gi fun _=>?_|(refine gn ?_ ?_;focus(intros;simp[*];done)))
          all_goals first | exact Sub.refl _
         ·rw [if_neg hk0] at hz
          subst hz
          have hk0i : ¬ ((k : Int) = 0) := by omega
          have hbo := byteOf_eq n
          try simp only
          refine awp_eqs (s' := [_,_,_,_,x 4,x 5,_,_,_,_,_,_,_,_,_,_,_,_,_,_,_,_,_,_,_,_,x 26,x 27,x 28,x 29,x 30,x 31,x 32,x 33,x 34,x 35,x 36,x 37,x 38,x 39,x 40,x 41,x 42,x 43,x 44,x 45,x 46,x 47,x 48,x 49,_,_,_,_,_]) rfl ?_
          (focus repeat' first|refine ga ?_|(refine gb ?_;try simp[gz, *])|refine gk fun _ _=>?_|refine gc ?_ ?_|exact gr _|refine gi fun _=>?_|(refine gn ?_ ?_;focus(intros;simp[*];done)))
          all_goals first | exact Sub.refl _
       ·rw [if_neg h2] at hz
        have n120 : ¬ ((c.toNat : Int) = 120) := u8_ne h2
        clear h2
        subst hz
        refine acalls_of Tryz.func143 rfl Tryz.ntmps143 (congrArg Array.toList Tryz.results143) fun Q hQ => ?_
        (focus repeat' first|refine ga ?_|(refine gb ?_;try simp[gz, *])|refine gk fun _ _=>?_|refine gc ?_ ?_|exact gr _|refine gi fun _=>?_|(refine gn ?_ ?_;focus(intros;simp[*];done)))
        all_goals first | exact Sub.refl _
end Go.Proofs.YtcbgpjlcfkkdlaaGreatDoor

namespace Go.Proofs.YtcbgpjlcfkkdlaaGreatDoor
open Go Go.AL Go.Proofs
def unesR (s : List UInt8) : Nat → Nat → List UInt8 → List UInt8 ⊕ Nat
  | 0, _, acc => .inl acc
  | n + 1, i, acc => if i < s.length then
      (if s.getD i 0 = 92 then (if (behR (s.drop (i + 1))).2 = 0 then .inr i else unesR s n (i + (behR (s.drop (i + 1))).2 + 1) (acc ++ [(behR (s.drop (i + 1))).1]))
       else unesR s n (i + 1) (acc ++ [s.getD i 0]))
    else .inl acc
theorem unesR_len (s : List UInt8) : ∀ n i acc l, unesR s n i acc = .inl l → l.length ≤ acc.length + n
 | 0, _, _, _, h => by simp only [unesR, Sum.inl.injEq] at h; rw [← h]; omega
 | n + 1, i, acc, l, h => by
  simp only [unesR] at h
  split at h
  ·split at h
   ·split at h
    ·cases h
    ·have := unesR_len s n _ _ _ h; simp only [List.length_append, List.length_singleton] at this; omega
   ·have := unesR_len s n _ _ _ h; simp only [List.length_append, List.length_singleton] at this; omega
  ·simp only [Sum.inl.injEq] at h; rw [← h]; omega
abbrev byteRows (l : List UInt8) : List (List AV) := l.map fun c => [.int .u8 c.toNat]
theorem grown_p {h : Heap} {b k e q : Nat} {t : Tok} (hqb : ¬ q = b) (hqt : ∀ k e, t ≠ .own q k e) : ((t.rid h).set b (.spare k e)) q = h q := by
 rw [Heap.set_other _ _ _ _ hqb]
 cases t with
 | own b' k' e' =>
  have h2 : ¬ q = b' := fun e => hqt k' e' (by rw [e])
  exact Heap.del_other _ _ _ h2
 | no => rfl
 | nil => rfl
 | full => rfl
theorem Unescape_c (s : List UInt8) (hs : s.length ≤ 262144) (h : Heap) (R : AV → Heap → Prop)
  (hR : R (match unesR s s.length 0 [] with | .inl t => .tup [.str t, .agg [.int .i64 0, .int .i64 0]] | .inr i => .tup [.str [], .agg [.int .i64 20, .int .i64 i]]) h) : ACalls Tryz.prog 104 [.str s] h R := by
 refine ACalls.pure ?_ hR
 clear hR
 obtain ⟨r, hr⟩ : ∃ r, unesR s s.length 0 [] = r := ⟨_, rfl⟩
 rw [hr]
 refine acalls_of Tryz.func104 rfl Tryz.ntmps104 (congrArg Array.toList Tryz.results104) fun Q hQ => ?_
 (focus repeat' first|refine ga ?_|(refine gb ?_;try simp[gz, *])|refine gk fun _ _=>?_)
 intro b3 hb3; simp only [Fresh, Heap.set_none] at hb3; try simp [gz, *]
 (focus repeat' first|refine ga ?_|(refine gb ?_;try simp[gz, *])|refine gk fun _ _=>?_)
 intro b4 hb4
 simp only [Fresh, Heap.set_none] at hb4
 try simp [Heap.set_get, *]
 (focus repeat' first|refine ga ?_|(refine gb ?_;try simp[gz, *])|refine gk fun _ _=>?_)
 have hb30 : h b3 = none := hb3
 refine awp_loop_h [2,4,5,6,7,11,12,13,14,15,16,17,18,19,20,21,22,23,24,25,26,27,28,29,30,31,32,33,34,35,36,37,38,39,40,41,42,43,44,45] (fun m x g => ∃ (n i : Nat) (acc : List UInt8) (tk : Tok), m = n ∧ i ≤ s.length ∧ s.length - i ≤ n ∧ unesR s n i acc = r ∧ acc.length + n ≤ s.length ∧ x 4 = .list 1 (byteRows acc) tk ∧ x 5 = .int .i64 i ∧ TokIn g tk ∧ (∀ b k e, tk = .own b k e → h b = none ∧ ¬ b = b3) ∧ g b3 = some (.cells [.int .i64 0, .int .i64 0]) ∧ AL.Sub h g) s.length
  ⟨s.length, 0, [], .own b4 0 ((s.length : Int).toNat * 1), rfl, by omega, by omega, hr, by simp, by simp, by simp, by simp [Heap.set_get], fun b k e q1 => by injection q1 with q1; subst q1; exact ⟨hb4.2.2, hb4.2.1⟩, by simp [Heap.set_get, show ¬ b3 = b4 from fun e => hb4.2.1 e.symm], by (repeat (first | exact Sub.refl _ | refine Sub.loc ?_ (by simp [*]) _))⟩ (fun m x g hI K hK => ?_)
 clear hr
 obtain ⟨_, i, acc, tk, rfl, h1, h2, h4, h5, hx4, hx5, htk, htf, hg3, hsub⟩ := hI
 replace htf := Shut.mk htf
 by_cases hi : i < s.length
 ·obtain ⟨m, rfl⟩ : ∃ k, m = k + 1 := ⟨m - 1, by omega⟩
  have hii : (i : Int) < s.length := by omega
  have hget : s[i]? = some s[i] := List.getElem?_eq_getElem hi
  have hgd : s.getD i 0 = s[i] := by simp [List.getD, hget]
  obtain ⟨c, hc⟩ : ∃ c, s[i] = c := ⟨_, rfl⟩
  rw [hc] at hget hgd
  simp only [unesR, if_pos hi, hgd] at h4
  clear hgd
  by_cases h92 : c = 92
  ·subst h92
   rw [if_pos rfl] at h4
   obtain ⟨rest, hrest⟩ : ∃ t, s.drop (i + 1) = t := ⟨_, rfl⟩
   have hrl : rest.length = s.length - (i + 1) := by rw [← hrest, List.length_drop]
   obtain ⟨v, hv⟩ : ∃ v, behR rest = v := ⟨_, rfl⟩
   have hvl : v.2 ≤ rest.length := by rw [← hv]; exact behR_len rest
   rw [hrest, hv] at h4
   have w1 : IntKind.i64.wrap ((i : Int) + 1) = ((i + 1 : Nat) : Int) := by rw [w64 (by omega) (by omega)]; omega
   have hsl : ((i + 1 : Nat) : Int) ≤ s.length := by omega
   have hnn : (((i + 1 : Nat) : Int)).toNat = i + 1 := by omega
   obtain ⟨i1, hi1⟩ : ∃ i1, i1 = i + 1 := ⟨_, rfl⟩
   simp only [← hi1] at w1 hsl hnn hrest
   have hia : i1 ≤ i + 1 := by omega
   have hib : i + 1 ≤ i1 := by omega
   clear hi1
   by_cases hv0 : v.2 = 0
   ·rw [if_pos hv0] at h4
    subst h4
    refine awp_eqs (s' := [_,_,x 2,_,x 4,x 5,x 6,x 7,_,_,_,x 11,x 12,x 13,x 14,x 15,x 16,x 17,x 18,x 19,x 20,x 21,x 22,x 23,x 24,x 25,x 26,x 27,x 28,x 29,x 30,x 31,x 32,x 33,x 34,x 35,x 36,x 37,x 38,x 39,x 40,x 41,x 42,x 43,x 44,x 45,_,_,_]) rfl ?_
    (focus repeat' first|refine ga ?_|(refine gb ?_;try simp[gz, *])|refine gk fun _ _=>?_)
    refine behind_c rest (by omega) _ _ ?_
    rw [hv]
    simp [gz, *]
    (focus repeat' first|refine ga ?_|(refine gb ?_;try simp[gz, *])|refine gk fun _ _=>?_|refine gc ?_ ?_|exact gr _|refine gi fun _=>?_|(refine gn ?_ ?_;focus(intros;simp[*];done)))
    refine ⟨_, ⟨_, rfl, ?_, _, rfl, rfl⟩, ?_, ?_⟩
    ·simp [Heap.set_get]
    ·simp [aresult, Heap.set_get]
    ·exact hsub.loc hb30 _
   ·rw [if_neg hv0] at h4
    have hv0i : ¬ ((v.2 : Int) = 0) := by omega
    have w2 : IntKind.i64.wrap ((i : Int) + (v.2 : Int)) = ((i + v.2 : Nat) : Int) := by rw [w64 (by omega) (by omega)]; omega
    have w3 : IntKind.i64.wrap (((i + v.2 : Nat) : Int) + 1) = ((i + v.2 + 1 : Nat) : Int) := by rw [w64 (by omega) (by omega)]; omega
    obtain ⟨j, hj⟩ : ∃ j, j = i + v.2 := ⟨_, rfl⟩
    simp only [← hj] at w2 w3 h4
    have hja : j ≤ i + v.2 := by omega
    have hjb : i + v.2 ≤ j := by omega
    clear hj
    replace h4 := Shut.mk h4
    refine awp_eqs (s' := [_,_,x 2,_,x 4,x 5,x 6,x 7,_,_,_,x 11,x 12,x 13,x 14,x 15,x 16,x 17,x 18,x 19,x 20,x 21,x 22,x 23,x 24,x 25,x 26,x 27,x 28,x 29,x 30,x 31,x 32,x 33,x 34,x 35,x 36,x 37,x 38,x 39,x 40,x 41,x 42,x 43,x 44,x 45,_,_,_]) rfl ?_
    (focus repeat' first|refine ga ?_|(refine gb ?_;try simp[gz, *])|refine gk fun _ _=>?_)
    refine behind_c rest (by omega) _ _ ?_
    rw [hv]
    simp [gz, *]
    (focus repeat' first|refine ga ?_|(refine gb ?_;try simp[gz, *])|refine gk fun _ _=>?_)
    refine .inl ⟨htk, fun b k e hb => ?_⟩
    obtain ⟨hbh, hb3⟩ : h b = none ∧ ¬ b = b3 := by
     rcases hb with hb | ⟨_, _, hb⟩
     ·refine ⟨?_, fun e => by rw [e, hg3] at hb; cases hb⟩
      cases e : h b with
      | none => rfl
      | some y => rw [hsub _ _ e] at hb; cases hb
     ·exact htf.out _ _ _ hb
    obtain ⟨HG, hHG⟩ : ∃ HG, (tk.rid g).set b (.spare k e) = HG := ⟨_, rfl⟩
    have hG3 : HG b3 = some (.cells [.int .i64 0, .int .i64 0]) := by rw [← hHG, grown_p (fun e => hb3 e.symm) (fun k' e' q => (htf.out _ _ _ q).2 rfl)]; exact hg3
    have hGs : AL.Sub h HG := fun q y hq => by
     rw [← hHG, grown_p (fun e => by rw [e, hbh] at hq; cases hq) (fun k' e' t => by rw [(htf.out _ _ _ t).1] at hq; cases hq)]
     exact hsub _ _ hq
    have hGb : HG b = some (.spare k e) := by rw [← hHG, Heap.set_same]
    rw [hHG]
    clear hb hHG htk hg3 hsub
    replace hGs := Shut.mk hGs
    simp [gz, *]
    (focus repeat' first|refine ga ?_|(refine gb ?_;try simp[gz, *])|refine gk fun _ _=>?_)
    exact ⟨by kernel_rfl, rfl, m, _, by omega, Sub.refl _, m, j + 1, acc ++ [v.1], .own b k e, rfl, by omega, by omega, h4.out, by simp only [List.length_append, List.length_singleton]; omega, by simp, by simp, hGb, fun b' k' e' q1 => by injection q1 with q1; subst q1; exact ⟨hbh, hb3⟩, hG3, hGs.out⟩
  ·rw [if_neg h92] at h4
   have n92 : ¬ ((c.toNat : Int) = 92) := u8_ne h92
   have w1 : IntKind.i64.wrap ((i : Int) + 1) = ((i + 1 : Nat) : Int) := by rw [w64 (by omega) (by omega)]; omega
   replace h4 := Shut.mk h4
   clear h92
   refine awp_eqs (s' := [_,_,x 2,_,x 4,x 5,x 6,x 7,_,_,_,x 11,x 12,x 13,x 14,x 15,x 16,x 17,x 18,x 19,x 20,x 21,x 22,x 23,x 24,x 25,x 26,x 27,x 28,x 29,x 30,x 31,x 32,x 33,x 34,x 35,x 36,x 37,x 38,x 39,x 40,x 41,x 42,x 43,x 44,x 45,_,_,_]) rfl ?_
   (focus repeat' first|refine ga ?_|(refine gb ?_;try simp[gz, *])|refine gk fun _ _=>?_)
   refine .inl ⟨htk, fun b k e hb => ?_⟩
   obtain ⟨hbh, hb3⟩ : h b = none ∧ ¬ b = b3 := by
    rcases hb with hb | ⟨_, _, hb⟩
    ·refine ⟨?_, fun e => by rw [e, hg3] at hb; cases hb⟩
     cases e : h b with
     | none => rfl
     | some y => rw [hsub _ _ e] at hb; cases hb
    ·exact htf.out _ _ _ hb
   obtain ⟨HG, hHG⟩ : ∃ HG, (tk.rid g).set b (.spare k e) = HG := ⟨_, rfl⟩
   have hG3 : HG b3 = some (.cells [.int .i64 0, .int .i64 0]) := by rw [← hHG, grown_p (fun e => hb3 e.symm) (fun k' e' q => (htf.out _ _ _ q).2 rfl)]; exact hg3
   have hGs : AL.Sub h HG := fun q y hq => by
    rw [← hHG, grown_p (fun e => by rw [e, hbh] at hq; cases hq) (fun k' e' t => by rw [(htf.out _ _ _ t).1] at hq; cases hq)]
    exact hsub _ _ hq
   have hGb : HG b = some (.spare k e) := by rw [← hHG, Heap.set_same]
   rw [hHG]
   clear hb hHG htk hg3 hsub
   replace hGs := Shut.mk hGs
   simp [gz, *]
   (focus repeat' first|refine ga ?_|(refine gb ?_;try simp[gz, *])|refine gk fun _ _=>?_)
   exact ⟨by kernel_rfl, rfl, m, _, by omega, Sub.refl _, m, i + 1, acc ++ [c], .own b k e, rfl, by omega, by omega, h4.out, by simp only [List.length_append, List.length_singleton]; omega, by simp, by simp, hGb, fun b' k' e' q1 => by injection q1 with q1; subst q1; exact ⟨hbh, hb3⟩, hG3, hGs.out⟩
 ·have hii : ¬ (i : Int) < s.length := by omega
  have h6 : r = .inl acc := by
   rw [← h4]
   cases m with
   | zero => rfl
   | succ m => simp only [unesR, if_neg hi]
  subst h6
  clear h4
  refine awp_eqs (s' := [_,_,x 2,_,x 4,x 5,x 6,x 7,_,_,_,x 11,x 12,x 13,x 14,x 15,x 16,x 17,x 18,x 19,x 20,x 21,x 22,x 23,x 24,x 25,x 26,x 27,x 28,x 29,x 30,x 31,x 32,x 33,x 34,x 35,x 36,x 37,x 38,x 39,x 40,x 41,x 42,x 43,x 44,x 45,_,_,_]) rfl ?_
  (focus repeat' first|refine ga ?_|(refine awp_ret ?_; try simp[gz, *])|(refine awp_skip ?_; try simp[gz, *])|(refine awp_exit ?_; try simp[gz, *])|(refine KeepQ.go (by assumption) ?_; try simp[gz, *])|(refine awp_cond' ?_; try simp[gz, *])|refine gk fun _ _=>?_|refine gc ?_ ?_|exact gr _|refine gi fun _=>?_|(refine gn ?_ ?_;focus(intros;simp[*];done)))
  (refine awp_region ?_; simp [Heap.set_get, *])
  (focus repeat' first|refine ga ?_|(refine awp_ret ?_; try simp[gz, *])|(refine awp_skip ?_; try simp[gz, *])|(refine awp_exit ?_; try simp[gz, *])|(refine KeepQ.go (by assumption) ?_; try simp[gz, *])|(refine awp_cond' ?_; try simp[gz, *])|refine gk fun _ _=>?_|refine gc ?_ ?_|exact gr _|refine gi fun _=>?_|(refine gn ?_ ?_;focus(intros;simp[*];done)))
  refine awp_region_op (pre := [_]) rfl rfl (aop_b2s rfl rfl rfl rfl acc tk) ?_
  simp [Heap.set_get, *]
  (focus repeat' first|refine ga ?_|(refine gb ?_;try simp[gz, *])|refine gk fun _ _=>?_|refine gc ?_ ?_|exact gr _|refine gi fun _=>?_|(refine gn ?_ ?_;focus(intros;simp[*];done)))
  refine ⟨_, ⟨_, rfl, ?_, _, rfl, rfl⟩, ?_, ?_⟩
  ·simp [Heap.set_get]
  ·simp [aresult, Heap.set_get]
  ·exact hsub.loc hb30 _
end Go.Proofs.YtcbgpjlcfkkdlaaGreatDoor

namespace Go.Proofs.YtcbgpjlcfkkdlaaGreatDoor
open Go Go.AL Go.Proofs
section
variable {B h : Heap} {s : List UInt8} {i : Nat} {b : Bool} {l : Nat}
theorem Lx.setB {c : Nat} {x : Blk} (lx : Lx (B.set c x) h s i b l) (hc : B c = none) (y : Blk) : Lx (B.set c y) (h.set c y) s i b l := by
 have hn : ∀ q, (B.set c x) q = none → ¬ q = c ∧ B q = none := fun q h1 => by
  have h2 : ¬ q = c := fun e => by rw [e, Heap.set_same] at h1; cases h1
  exact ⟨h2, by rwa [Heap.set_other _ _ _ _ h2] at h1⟩
 obtain ⟨n1, n2⟩ := hn l lx.free
 refine ⟨fun q z hq => ?_, by rw [Heap.set_other _ _ _ _ n1]; exact n2, by rw [Heap.set_other _ _ _ _ n1]; exact lx.blk⟩
 by_cases e1 : q = c
 ·subst e1
  rw [Heap.set_same] at hq ⊢
  exact hq
 ·rw [Heap.set_other _ _ _ _ e1] at hq ⊢
  exact lx.sub q z (by rw [Heap.set_other _ _ _ _ e1]; exact hq)
end
abbrev tokAV (k : Int) (x : List UInt8) (n : Int) : AV := .agg [.int .i64 k, .int .i64 0, .str x, .int .i64 n, .bool false]
theorem spanW_len (s : List UInt8) (i : Nat) : (spanW s i).length ≤ s.length := by
 unfold spanW
 rw [List.length_take, List.length_drop]
 omega
theorem lname_c (s : List UInt8) (i : Nat) (b : Bool) (l : Nat) (hi : i ≤ s.length) (hs : s.length ≤ 262144) (B h : Heap) (h0 : B 0 = some .gint) (lx : Lx B h s i b l) (R : AV → Heap → Prop)
  (hR : ∀ g, Lx B g s (i + wspan s i) b l → R (tokAV (if keyL (spanW s i) = true then 2 else 1) (spanW s i) 0) g) :
  ACalls Tryz.prog 59 [.ptr l 0] h R := by
 have hl := lx.blk
 have hsl := spanW_len s i
 obtain ⟨t, ht⟩ : ∃ t, spanW s i = t := ⟨_, rfl⟩
 rw [ht] at hR hsl
 replace hR := Shut.mk hR
 refine acalls_of Tryz.func59 rfl Tryz.ntmps59 (congrArg Array.toList Tryz.results59) fun Q hQ => ?_
 (focus repeat' first|refine ga ?_|(refine gb ?_;try simp[gz, *])|refine gk fun _ _=>?_)
 intro b2 hb2; simp only [Fresh, Heap.set_none] at hb2; have n_b2_l := ne_of_fresh hl (b := b2) (by simp [*]); try simp [gz, *]
 have z2 := lx.isNone hb2
 have lx1 := lx.new hb2 (.cells [.int .i64 0, .int .i64 0, .str [], .int .i64 0, .bool false])
 clear lx
 (focus repeat' first|refine ga ?_|(refine gb ?_;try simp[gz, *])|refine gk fun _ _=>?_)
 refine while_c s i b l hi hs _ _ lx1 _ (fun g lx2 => ?_)
 rw [ht]
 clear lx1 hl
 have hl := lx2.blk
 have hb2' : g b2 = some (.cells [.int .i64 0, .int .i64 0, .str [], .int .i64 0, .bool false]) := lx2.sub _ _ (Heap.set_same _ _ _)
 have h02 := lx2.sub _ _ (gint_set (x := .cells [.int .i64 0, .int .i64 0, .str [], .int .i64 0, .bool false]) z2 h0)
 clear hb2
 simp [gz, *]
 (focus repeat' first|refine ga ?_|(refine gb ?_;try simp[gz, *])|refine gk fun _ _=>?_)
 refine Keyword_c t (by omega) _ h02 _ ?_
 cases hk : keyL t
 ·have hfi := hR.out _ ((lx2.setB z2 (.cells [.int .i64 1, .int .i64 0, .str t, .int .i64 0, .bool false])).drop z2)
  rw [hk, if_neg (by decide)] at hfi
  clear lx2
  replace hfi := Shut.mk hfi
  simp [gz, *]
  (focus repeat' first|refine ga ?_|(refine gb ?_;try simp[gz, *])|refine gk fun _ _=>?_)
  exact hfi.out
 ·have hfi := hR.out _ ((lx2.setB z2 (.cells [.int .i64 2, .int .i64 0, .str t, .int .i64 0, .bool false])).drop z2)
  rw [hk, if_pos rfl] at hfi
  clear lx2
  replace hfi := Shut.mk hfi
  simp [gz, *]
  (focus repeat' first|refine ga ?_|(refine gb ?_;try simp[gz, *])|refine gk fun _ _=>?_)
  exact hfi.out
end Go.Proofs.YtcbgpjlcfkkdlaaGreatDoor

namespace Go.Proofs.YtcbgpjlcfkkdlaaGreatDoor
open Go Go.AL Go.Proofs
section
variable {B h : Heap} {s : List UInt8} {i : Nat} {b : Bool} {l : Nat}
theorem Lx.wr (lx : Lx B h s i b l) {c : Nat} (hc : B c = none) (hcl : ¬ l = c) (y : Blk) : Lx B (h.set c y) s i b l := ⟨lx.sub.loc hc _, lx.free, by rw [Heap.set_other _ _ _ _ hcl]; exact lx.blk⟩
end
def numbR (t : List UInt8) : Int × Int :=
 if Lib.hasPrefix t [48, 120] = true then
  (if (Lib.trimLeftB (Lib.trimPrefix t [48, 120]) 48).length = 16 then
   (if (parseR ((Lib.trimPrefix t [48, 120]).take ((Lib.trimPrefix t [48, 120]).length - 1)) 16).2 = 0 ∧ (parseR ((Lib.trimPrefix t [48, 120]).drop ((Lib.trimPrefix t [48, 120]).length - 1)) 16).2 = 0 then
    (bitOr .i64 (IntKind.i64.wrap ((parseR ((Lib.trimPrefix t [48, 120]).take ((Lib.trimPrefix t [48, 120]).length - 1)) 16).1 * 16)) (parseR ((Lib.trimPrefix t [48, 120]).drop ((Lib.trimPrefix t [48, 120]).length - 1)) 16).1, 0) else (0, 5))
  else parseR (Lib.trimPrefix t [48, 120]) 16)
 else if 1 < t.length ∧ t.getD 0 0 = 48 then (0, 5) else parseR t 10
abbrev Z36 : List AV := [.int .i64 0, .int .i64 0, .str [], .int .i64 0, .bool false]
abbrev Z28 : List AV := [.int .i64 0, .int .i64 0]
abbrev tokRes (k : Int) (x : List UInt8) (n : Int) : AV := .tup [.agg [.int .i64 k, .int .i64 0, .str x, .int .i64 n, .bool false], .agg [.int .i64 0, .int .i64 0]]
abbrev errRes (e a : Int) : AV := .tup [.agg [.int .i64 0, .int .i64 0, .str [], .int .i64 0, .bool false], .agg [.int .i64 e, .int .i64 a]]
theorem number_c (s : List UInt8) (i : Nat) (b : Bool) (l : Nat) (hi : i ≤ s.length) (hs : s.length ≤ 262144) (B h : Heap) (h0 : B 0 = some .gint) (lx : Lx B h s i b l) (R : AV → Heap → Prop)
  (hR : ∀ g, Lx B g s (i + wspan s i) b l → R (if (numbR (spanW s i)).2 = 0 then tokRes 3 (spanW s i) (numbR (spanW s i)).1 else errRes (numbR (spanW s i)).2 i) g) :
  ACalls Tryz.prog 61 [.ptr l 0] h R := by
 have hl := lx.blk
 have hsl := spanW_len s i
 obtain ⟨t, ht⟩ : ∃ t, spanW s i = t := ⟨_, rfl⟩
 rw [ht] at hR hsl
 obtain ⟨z, hz⟩ : ∃ z, numbR t = z := ⟨_, rfl⟩
 rw [hz] at hR
 replace hR := Shut.mk hR
 replace hz := Shut.mk hz
 refine acalls_of Tryz.func61 rfl Tryz.ntmps61 (congrArg Array.toList Tryz.results61) fun Q hQ => ?_
 (focus repeat' first|refine ga ?_|(refine gb ?_;try simp[gz, *])|refine gk fun _ _=>?_)
 intro b2 hb2; simp only [Fresh, Heap.set_none] at hb2; have n_b2_l := ne_of_fresh hl (b := b2) (by simp [*]); try simp [gz, *]
 have z2 := lx.isNone hb2
 have lx1 := lx.new hb2 (.cells Z36)
 (focus repeat' first|refine ga ?_|(refine gb ?_;try simp[gz, *])|refine gk fun _ _=>?_)
 intro b3 hb3
 simp only [Fresh, Heap.set_none] at hb3
 obtain ⟨n3', n3, hb3⟩ := hb3
 have n_b3_l := ne_of_fresh hl hb3
 have z3 := lx.isNone hb3
 have hz3 : (h.set b2 (.cells Z36)) b3 = none := by rw [Heap.set_other _ _ _ _ n3]; exact hb3
 have hz3' : (B.set b2 (.cells Z36)) b3 = none := by rw [Heap.set_other _ _ _ _ n3]; exact z3
 have lx2 := lx1.new hz3 (.cells Z28)
 clear lx lx1
 try simp [Heap.set_get, *]
 (focus repeat' first|refine ga ?_|(refine gb ?_;try simp[gz, *])|refine gk fun _ _=>?_)
 refine while_c s i b l hi hs _ _ lx2 _ (fun g lx3 => ?_)
 rw [ht]
 clear lx2 hl hb2 hb3
 have hl := lx3.blk
 have hb3 : g b3 = some (.cells Z28) := lx3.sub _ _ (Heap.set_same _ _ _)
 have hb2 : g b2 = some (.cells Z36) := lx3.sub _ _ (by rw [Heap.set_other _ _ _ _ n3']; exact Heap.set_same _ _ _)
 have h03 : g 0 = some .gint := lx3.sub _ _ (gint_set (x := .cells Z28) hz3' (gint_set (x := .cells Z36) z2 h0))
 replace hz := hz.out
 unfold numbR at hz
 obtain ⟨d, hd⟩ : ∃ d, Lib.trimPrefix t [48, 120] = d := ⟨_, rfl⟩
 have hdl : d.length ≤ t.length := by
  rw [← hd]
  unfold Lib.trimPrefix
  split
  ·rw [List.length_drop]; omega
  ·exact Nat.le_refl _
 rw [hd] at hz
 cases hx : Lib.hasPrefix t [48, 120]
 ·rw [hx, if_neg (by decide)] at hz
  by_cases h1 : 1 < t.length
  ·have h1i : (1 : Int) < t.length := by omega
   have h0l : 0 < t.length := by omega
   have hget : t[0]? = some t[0] := List.getElem?_eq_getElem h0l
   have hgd : t.getD 0 0 = t[0] := by simp [List.getD, hget]
   obtain ⟨c, hc⟩ : ∃ c, t[0] = c := ⟨_, rfl⟩
   rw [hc] at hget hgd
   rw [hgd] at hz
   clear hgd
   by_cases h48 : c = 48
   ·subst h48
    rw [if_pos ⟨h1, rfl⟩] at hz
    have hfi := hR.out _ (((lx3.drop hz3').drop z2).wr z2 n_b2_l (.cells Z36) |>.wr z3 n_b3_l (.cells [.int .i64 (5), .int .i64 i]))
    rw [← hz, if_neg (by decide)] at hfi
    clear lx3
    replace hfi := Shut.mk hfi
    simp [gz, *]
    (focus repeat' first|refine ga ?_|(refine gb ?_;try simp[gz, *])|refine gk fun _ _=>?_)
    refine CutPrefix_c t [48, 120] _ h03 _ ?_
    rw [hd, hx]
    simp [gz, *]
    (focus repeat' first|refine ga ?_|(refine gb ?_;try simp[gz, *])|refine gk fun _ _=>?_|refine gc ?_ ?_|exact gr _|refine gi fun _=>?_|(refine gn ?_ ?_;focus(intros;simp[*];done)))
    refine ⟨_, ⟨?_, _, rfl, ?_, _, rfl, rfl⟩, ?_⟩
    ·simp [Heap.set_get, *]
    ·simp [Heap.set_get, *]
    ·simp [aresult, Heap.set_get, *]
     exact hfi.out
   ·rw [if_neg (fun e => h48 e.2)] at hz
    have n48 : ¬ ((c.toNat : Int) = 48) := u8_ne h48
    obtain ⟨v, hv⟩ : ∃ v, parseR t 10 = v := ⟨_, rfl⟩
    rw [hv] at hz
    simp [gz, *]
    (focus repeat' first|refine ga ?_|(refine gb ?_;try simp[gz, *])|refine gk fun _ _=>?_)
    refine CutPrefix_c t [48, 120] _ h03 _ ?_
    rw [hd, hx]
    simp [gz, *]
    (focus repeat' first|refine ga ?_|(refine gb ?_;try simp[gz, *])|refine gk fun _ _=>?_)
    subst hz
    refine NParse_c t 10 (by decide) (by decide) (by omega) _ h03 _ ?_
    rw [hv]
    by_cases hv2 : v.2 = 0
    ·skip
     have hfi := hR.out _ (((lx3.drop hz3').drop z2).wr z2 n_b2_l (.cells [.int .i64 3, .int .i64 0, .str t, .int .i64 v.1, .bool false]) |>.wr z3 n_b3_l (.cells Z28))
     rw [if_pos hv2] at hfi
     clear lx3
     replace hfi := Shut.mk hfi
     simp [gz, *]
     (focus repeat' first|refine ga ?_|(refine gb ?_;try simp[gz, *])|refine gk fun _ _=>?_|refine gc ?_ ?_|exact gr _|refine gi fun _=>?_|(refine gn ?_ ?_;focus(intros;simp[*];done)))
     refine ⟨_, ⟨?_, _, rfl, ?_, _, rfl, rfl⟩, ?_⟩
     ·simp [Heap.set_get, *]
     ·simp [Heap.set_get, *]
     ·simp [aresult, Heap.set_get, *]
      exact hfi.out
    ·skip
     have hfi := hR.out _ (((lx3.drop hz3').drop z2).wr z2 n_b2_l (.cells Z36) |>.wr z3 n_b3_l (.cells [.int .i64 v.2, .int .i64 i]))
     rw [if_neg hv2] at hfi
     clear lx3
     replace hfi := Shut.mk hfi
     simp [gz, *]
     (focus repeat' first|refine ga ?_|(refine gb ?_;try simp[gz, *])|refine gk fun _ _=>?_|refine gc ?_ ?_|exact gr _|refine gi fun _=>?_|(refine gn ?_ ?_;focus(intros;simp[*];done)))
     refine ⟨_, ⟨?_, _, rfl, ?_, _, rfl, rfl⟩, ?_⟩
     ·simp [Heap.set_get, *]
     ·simp [Heap.set_get, *]
     ·simp [aresult, Heap.set_get, *]
      exact hfi.out
  ·have h1i : ¬ (1 : Int) < t.length := by omega
   rw [if_neg (fun e => h1 e.1)] at hz
   obtain ⟨v, hv⟩ : ∃ v, parseR t 10 = v := ⟨_, rfl⟩
   rw [hv] at hz
   simp [gz, *]
   (focus repeat' first|refine ga ?_|(refine gb ?_;try simp[gz, *])|refine gk fun _ _=>?_)
   refine CutPrefix_c t [48, 120] _ h03 _ ?_
   rw [hd, hx]
   simp [gz, *]
   (focus repeat' first|refine ga ?_|(refine gb ?_;try simp[gz, *])|refine gk fun _ _=>?_)
   subst hz
   refine NParse_c t 10 (by decide) (by decide) (by omega) _ h03 _ ?_
   rw [hv]
   by_cases hv2 : v.2 = 0
   ·skip
    have hfi := hR.out _ (((lx3.drop hz3').drop z2).wr z2 n_b2_l (.cells [.int .i64 3, .int .i64 0, .str t, .int .i64 v.1, .bool false]) |>.wr z3 n_b3_l (.cells Z28))
    rw [if_pos hv2] at hfi
    clear lx3
    replace hfi := Shut.mk hfi
    simp [gz, *]
    (focus repeat' first|refine ga ?_|(refine gb ?_;try simp[gz, *])|refine gk fun _ _=>?_|refine gc ?_ ?_|exact gr _|refine gi fun _=>?_|(refine gn ?_ ?_;focus(intros;simp[*];done)))
    refine ⟨_, ⟨?_, _, rfl, ?_, _, rfl, rfl⟩, ?_⟩
    ·simp [Heap.set_get, *]
    ·simp [Heap.set_get, *]
    ·simp [aresult, Heap.set_get, *]
     exact hfi.out
   ·skip
    have hfi := hR.out _ (((lx3.drop hz3').drop z2).wr z2 n_b2_l (.cells Z36) |>.wr z3 n_b3_l (.cells [.int .i64 v.2, .int .i64 i]))
    rw [if_neg hv2] at hfi
    clear lx3
    replace hfi := Shut.mk hfi
    simp [gz, *]
    (focus repeat' first|refine ga ?_|(refine gb ?_;try simp[gz, *])|refine gk fun _ _=>?_|refine gc ?_ ?_|exact gr _|refine gi fun _=>?_|(refine gn ?_ ?_;focus(intros;simp[*];done)))
    refine ⟨_, ⟨?_, _, rfl, ?_, _, rfl, rfl⟩, ?_⟩
    ·simp [Heap.set_get, *]
    ·simp [Heap.set_get, *]
    ·simp [aresult, Heap.set_get, *]
     exact hfi.out
 ·rw [hx, if_pos rfl] at hz
  obtain ⟨q, hq⟩ : ∃ q, Lib.trimLeftB d 48 = q := ⟨_, rfl⟩
  rw [hq] at hz
  by_cases h16 : q.length = 16
  ·rw [if_pos h16] at hz
   have h16i : (q.length : Int) = 16 := by omega
   have hdq : q.length ≤ d.length := by
    rw [← hq]
    unfold Lib.trimLeftB
    exact (List.dropWhile_suffix _).length_le
   have hw1 : IntKind.i64.wrap ((d.length : Int) - 1) = ((d.length - 1 : Nat) : Int) := by rw [w64 (by omega) (by omega)]; omega
   have hd1 : ((d.length - 1 : Nat) : Int) ≤ d.length := by omega
   obtain ⟨d1, hd1e⟩ : ∃ x, x = d.length - 1 := ⟨_, rfl⟩
   simp only [← hd1e] at hw1 hd1 hz
   have hnn : ((d1 : Int)).toNat = d1 := by omega
   clear hd1e
   obtain ⟨v, hv⟩ : ∃ v, parseR (d.take d1) 16 = v := ⟨_, rfl⟩
   obtain ⟨u, hu⟩ : ∃ v, parseR (d.drop d1) 16 = v := ⟨_, rfl⟩
   rw [hv, hu] at hz
   have hlt : (d.take d1).length ≤ 262144 := by rw [List.length_take]; omega
   have hld : (d.drop d1).length ≤ 262144 := by rw [List.length_drop]; omega
   by_cases hv2 : v.2 = 0
   ·by_cases hu2 : u.2 = 0
    ·rw [if_pos ⟨hv2, hu2⟩] at hz
     have hfi := hR.out _ (((lx3.drop hz3').drop z2).wr z2 n_b2_l (.cells [.int .i64 3, .int .i64 0, .str t, .int .i64 (bitOr .i64 (IntKind.i64.wrap (v.1 * 16)) u.1), .bool false]) |>.wr z3 n_b3_l (.cells Z28))
     rw [← hz, if_pos rfl] at hfi
     clear lx3
     replace hfi := Shut.mk hfi
     simp [gz, *]
     (focus repeat' first|refine ga ?_|(refine gb ?_;try simp[gz, *])|refine gk fun _ _=>?_)
     refine CutPrefix_c t [48, 120] _ h03 _ ?_
     rw [hd, hx]
     simp [gz, *]
     (focus repeat' first|refine ga ?_|(refine gb ?_;try simp[gz, *])|refine gk fun _ _=>?_)
     refine TrimLeft_c d 48 (by decide) _ h03 _ ?_
     rw [hq]
     simp [gz, *]
     (focus repeat' first|refine ga ?_|(refine gb ?_;try simp[gz, *])|refine gk fun _ _=>?_)
     refine NParse_c (d.take d1) 16 (by decide) (by decide) hlt _ h03 _ ?_
     rw [hv]
     simp [gz, *]
     (focus repeat' first|refine ga ?_|(refine gb ?_;try simp[gz, *])|refine gk fun _ _=>?_)
     refine NParse_c (d.drop d1) 16 (by decide) (by decide) hld _ h03 _ ?_
     rw [hu]
     simp [gz, *]
     (focus repeat' first|refine ga ?_|(refine gb ?_;try simp[gz, *])|refine gk fun _ _=>?_|refine gc ?_ ?_|exact gr _|refine gi fun _=>?_|(refine gn ?_ ?_;focus(intros;simp[*];done)))
     refine ⟨_, ⟨?_, _, rfl, ?_, _, rfl, rfl⟩, ?_⟩
     ·simp [Heap.set_get, *]
     ·simp [Heap.set_get, *]
     ·simp [aresult, Heap.set_get, *]
      exact hfi.out
    ·rw [if_neg (fun e => hu2 e.2)] at hz
     have hfi := hR.out _ (((lx3.drop hz3').drop z2).wr z2 n_b2_l (.cells Z36) |>.wr z3 n_b3_l (.cells [.int .i64 (5), .int .i64 i]))
     rw [← hz, if_neg (by decide)] at hfi
     clear lx3
     replace hfi := Shut.mk hfi
     simp [gz, *]
     (focus repeat' first|refine ga ?_|(refine gb ?_;try simp[gz, *])|refine gk fun _ _=>?_)
     refine CutPrefix_c t [48, 120] _ h03 _ ?_
     rw [hd, hx]
     simp [gz, *]
     (focus repeat' first|refine ga ?_|(refine gb ?_;try simp[gz, *])|refine gk fun _ _=>?_)
     refine TrimLeft_c d 48 (by decide) _ h03 _ ?_
     rw [hq]
     simp [gz, *]
     (focus repeat' first|refine ga ?_|(refine gb ?_;try simp[gz, *])|refine gk fun _ _=>?_)
     refine NParse_c (d.take d1) 16 (by decide) (by decide) hlt _ h03 _ ?_
     rw [hv]
     simp [gz, *]
     (focus repeat' first|refine ga ?_|(refine gb ?_;try simp[gz, *])|refine gk fun _ _=>?_)
     refine NParse_c (d.drop d1) 16 (by decide) (by decide) hld _ h03 _ ?_
     rw [hu]
     simp [gz, *]
     (focus repeat' first|refine ga ?_|(refine gb ?_;try simp[gz, *])|refine gk fun _ _=>?_|refine gc ?_ ?_|exact gr _|refine gi fun _=>?_|(refine gn ?_ ?_;focus(intros;simp[*];done)))
     refine ⟨_, ⟨?_, _, rfl, ?_, _, rfl, rfl⟩, ?_⟩
     ·simp [Heap.set_get, *]
     ·simp [Heap.set_get, *]
     ·simp [aresult, Heap.set_get, *]
      exact hfi.out
   ·rw [if_neg (fun e => hv2 e.1)] at hz
    have hfi := hR.out _ (((lx3.drop hz3').drop z2).wr z2 n_b2_l (.cells Z36) |>.wr z3 n_b3_l (.cells [.int .i64 (5), .int .i64 i]))
    rw [← hz, if_neg (by decide)] at hfi
    clear lx3
    replace hfi := Shut.mk hfi
    simp [gz, *]
    (focus repeat' first|refine ga ?_|(refine gb ?_;try simp[gz, *])|refine gk fun _ _=>?_)
    refine CutPrefix_c t [48, 120] _ h03 _ ?_
    rw [hd, hx]
    simp [gz, *]
    (focus repeat' first|refine ga ?_|(refine gb ?_;try simp[gz, *])|refine gk fun _ _=>?_)
    refine TrimLeft_c d 48 (by decide) _ h03 _ ?_
    rw [hq]
    simp [gz, *]
    (focus repeat' first|refine ga ?_|(refine gb ?_;try simp[gz, *])|refine gk fun _ _=>?_)
    refine NParse_c (d.take d1) 16 (by decide) (by decide) hlt _ h03 _ ?_
    rw [hv]
    simp [gz, *]
    (focus repeat' first|refine ga ?_|(refine gb ?_;try simp[gz, *])|refine gk fun _ _=>?_)
    refine NParse_c (d.drop d1) 16 (by decide) (by decide) hld _ h03 _ ?_
    rw [hu]
    simp [gz, *]
    (focus repeat' first|refine ga ?_|(refine gb ?_;try simp[gz, *])|refine gk fun _ _=>?_|refine gc ?_ ?_|exact gr _|refine gi fun _=>?_|(refine gn ?_ ?_;focus(intros;simp[*];done)))
    refine ⟨_, ⟨?_, _, rfl, ?_, _, rfl, rfl⟩, ?_⟩
    ·simp [Heap.set_get, *]
    ·simp [Heap.set_get, *]
    ·simp [aresult, Heap.set_get, *]
     exact hfi.out
  ·rw [if_neg h16] at hz
   have h16i : ¬ (q.length : Int) = 16 := by omega
   obtain ⟨v, hv⟩ : ∃ v, parseR d 16 = v := ⟨_, rfl⟩
   rw [hv] at hz
   simp [gz, *]
   (focus repeat' first|refine ga ?_|(refine gb ?_;try simp[gz, *])|refine gk fun _ _=>?_)
   refine CutPrefix_c t [48, 120] _ h03 _ ?_
   rw [hd, hx]
   simp [gz, *]
   (focus repeat' first|refine ga ?_|(refine gb ?_;try simp[gz, *])|refine gk fun _ _=>?_)
   refine TrimLeft_c d 48 (by decide) _ h03 _ ?_
   rw [hq]
   simp [gz, *]
   (focus repeat' first|refine ga ?_|(refine gb ?_;try simp[gz, *])|refine gk fun _ _=>?_)
   subst hz
   refine NParse_c d 16 (by decide) (by decide) (by omega) _ h03 _ ?_
   rw [hv]
   by_cases hv2 : v.2 = 0
   ·skip
    have hfi := hR.out _ (((lx3.drop hz3').drop z2).wr z2 n_b2_l (.cells [.int .i64 3, .int .i64 0, .str t, .int .i64 v.1, .bool false]) |>.wr z3 n_b3_l (.cells Z28))
    rw [if_pos hv2] at hfi
    clear lx3
    replace hfi := Shut.mk hfi
    simp [gz, *]
    (focus repeat' first|refine ga ?_|(refine gb ?_;try simp[gz, *])|refine gk fun _ _=>?_|refine gc ?_ ?_|exact gr _|refine gi fun _=>?_|(refine gn ?_ ?_;focus(intros;simp[*];done)))
    refine ⟨_, ⟨?_, _, rfl, ?_, _, rfl, rfl⟩, ?_⟩
    ·simp [Heap.set_get, *]
    ·simp [Heap.set_get, *]
    ·simp [aresult, Heap.set_get, *]
     exact hfi.out
   ·skip
    have hfi := hR.out _ (((lx3.drop hz3').drop z2).wr z2 n_b2_l (.cells Z36) |>.wr z3 n_b3_l (.cells [.int .i64 v.2, .int .i64 i]))
    rw [if_neg hv2] at hfi
    clear lx3
    replace hfi := Shut.mk hfi
    simp [gz, *]
    (focus repeat' first|refine ga ?_|(refine gb ?_;try simp[gz, *])|refine gk fun _ _=>?_|refine gc ?_ ?_|exact gr _|refine gi fun _=>?_|(refine gn ?_ ?_;focus(intros;simp[*];done)))
    refine ⟨_, ⟨?_, _, rfl, ?_, _, rfl, rfl⟩, ?_⟩
    ·simp [Heap.set_get, *]
    ·simp [Heap.set_get, *]
    ·simp [aresult, Heap.set_get, *]
     exact hfi.out
end Go.Proofs.YtcbgpjlcfkkdlaaGreatDoor

