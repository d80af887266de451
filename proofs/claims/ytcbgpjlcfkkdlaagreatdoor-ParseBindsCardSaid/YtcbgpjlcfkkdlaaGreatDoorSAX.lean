import Derived.Test.YtcbgpjlcfkkdlaaGreatDoorSAW
set_option linter.unusedSimpArgs false
set_option linter.unusedVariables false
set_option maxRecDepth 100000
set_option maxHeartbeats 16000000
namespace Go.Proofs.YtcbgpjlcfkkdlaaGreatDoor
open Go Go.AL Go.Proofs
section
variable {B h : Heap} {s : List UInt8} {i : Nat} {b : Bool} {l : Nat}
theorem Lx.wr (lx : Lx B h s i b l) {c : Nat} (hc : B c = none) (hcl : ¬ l = c) (y : Blk) : Lx B (h.set c y) s i b l := ⟨lx.sub.loc hc _, lx.free, by rw [Heap.set_other _ _ _ _ hcl]; exact lx.blk⟩
end
def numbR (t : List UInt8) : Int × Int :=
 if Lib.hasPrefix t [48, 120] = true then
  (if (Lib.trimLeftB (Lib.trimPrefix t [48, 120]) 48).length = 16 then
   (if (parseR ((Lib.trimPrefix t [48, 120]).take ((Lib.trimPrefix t [48, 120]).length - 1)) 16).2 = 0 ∧ (parseR ((Lib.trimPrefix t [48, 120]).drop ((Lib.trimPrefix t [48, 120]).length - 1)) 16).2 = 0 then
    (bitOr .i64 (IntKind.i64.wrap ((parseR ((Lib.trimPrefix t [48, 120]).take ((Lib.trimPrefix t [48, 120]).length - 1)) 16).1 * 16)) (parseR ((Lib.trimPrefix t [48, 120]).drop ((Lib.trimPrefix t [48, 120]).length - 1)) 16).1, 0) else (0, 5))
  else parseR (Lib.trimPrefix t [48, 120]) 16)
 else if 1 < t.length ∧ t.getD 0 0 = 48 then (0, 5) else parseR t 10
abbrev Z36 : List AV := [.int .i64 0, .int .i64 0, .str [], .int .i64 0, .bool false]
abbrev Z28 : List AV := [.int .i64 0, .int .i64 0]
abbrev tokRes (k : Int) (x : List UInt8) (n : Int) : AV := .tup [.agg [.int .i64 k, .int .i64 0, .str x, .int .i64 n, .bool false], .agg [.int .i64 0, .int .i64 0]]
abbrev errRes (e a : Int) : AV := .tup [.agg [.int .i64 0, .int .i64 0, .str [], .int .i64 0, .bool false], .agg [.int .i64 e, .int .i64 a]]
theorem number_c (s : List UInt8) (i : Nat) (b : Bool) (l : Nat) (hi : i ≤ s.length) (hs : s.length ≤ 262144) (B h : Heap) (h0 : B 0 = some .gint) (lx : Lx B h s i b l) (R : AV → Heap → Prop)
  (hR : ∀ g, Lx B g s (i + wspan s i) b l → R (if (numbR (spanW s i)).2 = 0 then tokRes 3 (spanW s i) (numbR (spanW s i)).1 else errRes (numbR (spanW s i)).2 i) g) :
  ACalls Tryz.prog 61 [.ptr l 0] h R := by
 have hl := lx.blk
 have hsl := spanW_len s i
 obtain ⟨t, ht⟩ : ∃ t, spanW s i = t := ⟨_, rfl⟩
 rw [ht] at hR hsl
 obtain ⟨z, hz⟩ : ∃ z, numbR t = z := ⟨_, rfl⟩
 rw [hz] at hR
 replace hR := Shut.mk hR
 replace hz := Shut.mk hz
 refine acalls_of Tryz.func61 rfl Tryz.ntmps61 (congrArg Array.toList Tryz.results61) fun Q hQ => ?_
 (focus repeat' first|refine ga ?_|(refine gb ?_;try simp[gz, *])|refine gk fun _ _=>?_|refine gc ?_ ?_|exact gr _|refine gi fun _=>?_|(refine gn ?_ ?_;focus(intros;simp[*];done)))
 intro b2 hb2; simp only [Fresh, Heap.set_none] at hb2; have n_b2_l := ne_of_fresh hl (b := b2) (by simp [*]); try simp [gz, *]
 have z2 := lx.isNone hb2
 have lx1 := lx.new hb2 (.cells Z36)
 (focus repeat' first|refine ga ?_|(refine gb ?_;try simp[gz, *])|refine gk fun _ _=>?_|refine gc ?_ ?_|exact gr _|refine gi fun _=>?_|(refine gn ?_ ?_;focus(intros;simp[*];done)))
 intro b3 hb3
 simp only [Fresh, Heap.set_none] at hb3
 obtain ⟨n3', n3, hb3⟩ := hb3
 have n_b3_l := ne_of_fresh hl hb3
 have z3 := lx.isNone hb3
 have hz3 : (h.set b2 (.cells Z36)) b3 = none := by rw [Heap.set_other _ _ _ _ n3]; exact hb3
 have hz3' : (B.set b2 (.cells Z36)) b3 = none := by rw [Heap.set_other _ _ _ _ n3]; exact z3
 have lx2 := lx1.new hz3 (.cells Z28)
 clear lx lx1
 try simp [Heap.set_get, *]
 (focus repeat' first|refine ga ?_|(refine gb ?_;try simp[gz, *])|refine gk fun _ _=>?_|refine gc ?_ ?_|exact gr _|refine gi fun _=>?_|(refine gn ?_ ?_;focus(intros;simp[*];done)))
 refine while_c s i b l hi hs _ _ lx2 _ (fun g lx3 => ?_)
 rw [ht]
 clear lx2 hl hb2 hb3
 have hl := lx3.blk
 have hb3 : g b3 = some (.cells Z28) := lx3.sub _ _ (Heap.set_same _ _ _)
 have hb2 : g b2 = some (.cells Z36) := lx3.sub _ _ (by rw [Heap.set_other _ _ _ _ n3']; exact Heap.set_same _ _ _)
 have h03 : g 0 = some .gint := lx3.sub _ _ (gint_set (x := .cells Z28) hz3' (gint_set (x := .cells Z36) z2 h0))
 replace hz := hz.out
 unfold numbR at hz
 obtain ⟨d, hd⟩ : ∃ d, Lib.trimPrefix t [48, 120] = d := ⟨_, rfl⟩
 have hdl : d.length ≤ t.length := by
  rw [← hd]
  unfold Lib.trimPrefix
  split
  ·rw [List.length_drop]; omega
  ·exact Nat.le_refl _
 rw [hd] at hz
 cases hx : Lib.hasPrefix t [48, 120]
 ·rw [hx, if_neg (by decide)] at hz
  by_cases h1 : 1 < t.length
  ·have h1i : (1 : Int) < t.length := by omega
   have h0l : 0 < t.length := by omega
   have hget : t[0]? = some t[0] := List.getElem?_eq_getElem h0l
   have hgd : t.getD 0 0 = t[0] := by simp [List.getD, hget]
   obtain ⟨c, hc⟩ : ∃ c, t[0] = c := ⟨_, rfl⟩
   rw [hc] at hget hgd
   rw [hgd] at hz
   clear hgd
   by_cases h48 : c = 48
   ·subst h48
    rw [if_pos ⟨h1, rfl⟩] at hz
    have hfi := hR.out _ (((lx3.drop hz3').drop z2).wr z2 n_b2_l (.cells Z36) |>.wr z3 n_b3_l (.cells [.int .i64 (5), .int .i64 i]))
    rw [← hz, if_neg (by decide)] at hfi
    clear lx3
    replace hfi := Shut.mk hfi
    simp [gz, *]
    (focus repeat' first|refine ga ?_|(refine gb ?_;try simp[gz, *])|refine gk fun _ _=>?_|refine gc ?_ ?_|exact gr _|refine gi fun _=>?_|(refine gn ?_ ?_;focus(intros;simp[*];done)))
    refine CutPrefix_c t [48, 120] _ h03 _ ?_
    rw [hd, hx]
    simp [gz, *]
    (focus repeat' first|refine ga ?_|(refine gb ?_;try simp[gz, *])|refine gk fun _ _=>?_|refine gc ?_ ?_|exact gr _|refine gi fun _=>?_|(refine gn ?_ ?_;focus(intros;simp[*];done)))
    refine ⟨_, ⟨?_, _, rfl, ?_, _, rfl, rfl⟩, ?_⟩
    ·simp [Heap.set_get, *]
    ·simp [Heap.set_get, *]
    ·simp [aresult, Heap.set_get, *]
     exact hfi.out
   ·rw [if_neg (fun e => h48 e.2)] at hz
    have n48 : ¬ ((c.toNat : Int) = 48) := u8_ne h48
    obtain ⟨v, hv⟩ : ∃ v, parseR t 10 = v := ⟨_, rfl⟩
    rw [hv] at hz
    simp [gz, *]
    (focus repeat' first|refine ga ?_|(refine gb ?_;try simp[gz, *])|refine gk fun _ _=>?_|refine gc ?_ ?_|exact gr _|refine gi fun _=>?_|(refine gn ?_ ?_;focus(intros;simp[*];done)))
    refine CutPrefix_c t [48, 120] _ h03 _ ?_
    rw [hd, hx]
    simp [gz, *]
    (focus repeat' first|refine ga ?_|(refine gb ?_;try simp[gz, *])|refine gk fun _ _=>?_|refine gc ?_ ?_|exact gr _|refine gi fun _=>?_|(refine gn ?_ ?_;focus(intros;simp[*];done)))
    subst hz
    refine NParse_c t 10 (by decide) (by decide) (by omega) _ h03 _ ?_
    rw [hv]
    by_cases hv2 : v.2 = 0
    ·skip
     have hfi := hR.out _ (((lx3.drop hz3').drop z2).wr z2 n_b2_l (.cells [.int .i64 3, .int .i64 0, .str t, .int .i64 v.1, .bool false]) |>.wr z3 n_b3_l (.cells Z28))
     rw [if_pos hv2] at hfi
     clear lx3
     replace hfi := Shut.mk hfi
     simp [gz, *]
     (focus repeat' first|refine ga ?_|(refine gb ?_;try simp[gz, *])|refine gk fun _ _=>?_|refine gc ?_ ?_|exact gr _|refine gi fun _=>?_|(refine gn ?_ ?_;focus(intros;simp[*];done)))
     refine ⟨_, ⟨?_, _, rfl, ?_, _, rfl, rfl⟩, ?_⟩
     ·simp [Heap.set_get, *]
     ·simp [Heap.set_get, *]
     ·simp [aresult, Heap.set_get, *]
      exact hfi.out
    ·skip
     have hfi := hR.out _ (((lx3.drop hz3').drop z2).wr z2 n_b2_l (.cells Z36) |>.wr z3 n_b3_l (.cells [.int .i64 v.2, .int .i64 i]))
     rw [if_neg hv2] at hfi
     clear lx3
     replace hfi := Shut.mk hfi
     simp [gz, *]
     (focus repeat' first|refine ga ?_|(refine gb ?_;try simp[gz, *])|refine gk fun _ _=>?_|refine gc ?_ ?_|exact gr _|refine gi fun _=>?_|(refine gn ?_ ?_;focus(intros;simp[*];done)))
     refine ⟨_, ⟨?_, _, rfl, ?_, _, rfl, rfl⟩, ?_⟩
     ·simp [Heap.set_get, *]
     ·simp [Heap.set_get, *]
     ·simp [aresult, Heap.set_get, *]
      exact hfi.out
  ·have h1i : ¬ (1 : Int) < t.length := by omega
   rw [if_neg (fun e => h1 e.1)] at hz
   obtain ⟨v, hv⟩ : ∃ v, parseR t 10 = v := ⟨_, rfl⟩
   rw [hv] at hz
   simp [gz, *]
   (focus repeat' first|refine ga ?_|(refine gb ?_;try simp[gz, *])|refine gk fun _ _=>?_|refine gc ?_ ?_|exact gr _|refine gi fun _=>?_|(refine gn ?_ ?_;focus(intros;simp[*];done)))
   refine CutPrefix_c t [48, 120] _ h03 _ ?_
   rw [hd, hx]
   simp [gz, *]
   (focus repeat' first|refine ga ?_|(refine gb ?_;try simp[gz, *])|refine gk fun _ _=>?_|refine gc ?_ ?_|exact gr _|refine gi fun _=>?_|(refine gn ?_ ?_;focus(intros;simp[*];done)))
   subst hz
   refine NParse_c t 10 (by decide) (by decide) (by omega) _ h03 _ ?_
   rw [hv]
   by_cases hv2 : v.2 = 0
   ·skip
    have hfi := hR.out _ (((lx3.drop hz3').drop z2).wr z2 n_b2_l (.cells [.int .i64 3, .int .i64 0, .str t, .int .i64 v.1, .bool false]) |>.wr z3 n_b3_l (.cells Z28))
    rw [if_pos hv2] at hfi
    clear lx3
    replace hfi := Shut.mk hfi
    simp [gz, *]
    (focus repeat' first|refine ga ?_|(refine gb ?_;try simp[gz, *])|refine gk fun _ _=>?_|refine gc ?_ ?_|exact gr _|refine gi fun _=>?_|(refine gn ?_ ?_;focus(intros;simp[*];done)))
    refine ⟨_, ⟨?_, _, rfl, ?_, _, rfl, rfl⟩, ?_⟩
    ·simp [Heap.set_get, *]
    ·simp [Heap.set_get, *]
    ·simp [aresult, Heap.set_get, *]
     exact hfi.out
   ·skip
    have hfi := hR.out _ (((lx3.drop hz3').drop z2).wr z2 n_b2_l (.cells Z36) |>.wr z3 n_b3_l (.cells [.int .i64 v.2, .int .i64 i]))
    rw [if_neg hv2] at hfi
    clear lx3
    replace hfi := Shut.mk hfi
    simp [gz, *]
    (focus repeat' first|refine ga ?_|(refine gb ?_;try simp[gz, *])|refine gk fun _ _=>?_|refine gc ?_ ?_|exact gr _|refine gi fun _=>?_|(refine gn ?_ ?_;focus(intros;simp[*];done)))
    refine ⟨_, ⟨?_, _, rfl, ?_, _, rfl, rfl⟩, ?_⟩
    ·simp [Heap.set_get, *]
    ·simp [Heap.set_get, *]
    ·simp [aresult, Heap.set_get, *]
     exact hfi.out
 ·rw [hx, if_pos rfl] at hz
  obtain ⟨q, hq⟩ : ∃ q, Lib.trimLeftB d 48 = q := ⟨_, rfl⟩
  rw [hq] at hz
  by_cases h16 : q.length = 16
  ·rw [if_pos h16] at hz
   have h16i : (q.length : Int) = 16 := by omega
   have hdq : q.length ≤ d.length := by
    rw [← hq]
    unfold Lib.trimLeftB
    exact (List.dropWhile_suffix _).length_le
   have hw1 : IntKind.i64.wrap ((d.length : Int) - 1) = ((d.length - 1 : Nat) : Int) := by rw [w64 (by omega) (by omega)]; omega
   have hd1 : ((d.length - 1 : Nat) : Int) ≤ d.length := by omega
   obtain ⟨d1, hd1e⟩ : ∃ x, x = d.length - 1 := ⟨_, rfl⟩
   simp only [← hd1e] at hw1 hd1 hz
   have hnn : ((d1 : Int)).toNat = d1 := by omega
   clear hd1e
   obtain ⟨v, hv⟩ : ∃ v, parseR (d.take d1) 16 = v := ⟨_, rfl⟩
   obtain ⟨u, hu⟩ : ∃ v, parseR (d.drop d1) 16 = v := ⟨_, rfl⟩
   rw [hv, hu] at hz
   have hlt : (d.take d1).length ≤ 262144 := by rw [List.length_take]; omega
   have hld : (d.drop d1).length ≤ 262144 := by rw [List.length_drop]; omega
   by_cases hv2 : v.2 = 0
   ·by_cases hu2 : u.2 = 0
    ·rw [if_pos ⟨hv2, hu2⟩] at hz
     have hfi := hR.out _ (((lx3.drop hz3').drop z2).wr z2 n_b2_l (.cells [.int .i64 3, .int .i64 0, .str t, .int .i64 (bitOr .i64 (IntKind.i64.wrap (v.1 * 16)) u.1), .bool false]) |>.wr z3 n_b3_l (.cells Z28))
     rw [← hz, if_pos rfl] at hfi
     clear lx3
     replace hfi := Shut.mk hfi
     simp [gz, *]
     (focus repeat' first|refine ga ?_|(refine gb ?_;try simp[gz, *])|refine gk fun _ _=>?_|refine gc ?_ ?_|exact gr _|refine gi fun _=>?_|(refine gn ?_ ?_;focus(intros;simp[*];done)))
     refine CutPrefix_c t [48, 120] _ h03 _ ?_
     rw [hd, hx]
     simp [gz, *]
     (focus repeat' first|refine ga ?_|(refine gb ?_;try simp[gz, *])|refine gk fun _ _=>?_|refine gc ?_ ?_|exact gr _|refine gi fun _=>?_|(refine gn ?_ ?_;focus(intros;simp[*];done)))
     refine TrimLeft_c d 48 (by decide) _ h03 _ ?_
     rw [hq]
     simp [gz, *]
     (focus repeat' first|refine ga ?_|(refine gb ?_;try simp[gz, *])|refine gk fun _ _=>?_|refine gc ?_ ?_|exact gr _|refine gi fun _=>?_|(refine gn ?_ ?_;focus(intros;simp[*];done)))
     refine NParse_c (d.take d1) 16 (by decide) (by decide) hlt _ h03 _ ?_
     rw [hv]
     simp [gz, *]
     (focus repeat' first|refine ga ?_|(refine gb ?_;try simp[gz, *])|refine gk fun _ _=>?_|refine gc ?_ ?_|exact gr _|refine gi fun _=>?_|(refine gn ?_ ?_;focus(intros;simp[*];done)))
     refine NParse_c (d.drop d1) 16 (by decide) (by decide) hld _ h03 _ ?_
     rw [hu]
     simp [gz, *]
     (focus repeat' first|refine ga ?_|(refine gb ?_;try simp[gz, *])|refine gk fun _ _=>?_|refine gc ?_ ?_|exact gr _|refine gi fun _=>?_|(refine gn ?_ ?_;focus(intros;simp[*];done)))
     refine ⟨_, ⟨?_, _, rfl, ?_, _, rfl, rfl⟩, ?_⟩
     ·simp [Heap.set_get, *]
     ·simp [Heap.set_get, *]
     ·simp [aresult, Heap.set_get, *]
      exact hfi.out
    ·rw [if_neg (fun e => hu2 e.2)] at hz
     have hfi := hR.out _ (((lx3.drop hz3').drop z2).wr z2 n_b2_l (.cells Z36) |>.wr z3 n_b3_l (.cells [.int .i64 (5), .int .i64 i]))
     rw [← hz, if_neg (by decide)] at hfi
     clear lx3
     replace hfi := Shut.mk hfi
     simp [gz, *]
     (focus repeat' first|refine ga ?_|(refine gb ?_;try simp[gz, *])|refine gk fun _ _=>?_|refine gc ?_ ?_|exact gr _|refine gi fun _=>?_|(refine gn ?_ ?_;focus(intros;simp[*];done)))
     refine CutPrefix_c t [48, 120] _ h03 _ ?_
     rw [hd, hx]
     simp [gz, *]
     (focus repeat' first|refine ga ?_|(refine gb ?_;try simp[gz, *])|refine gk fun _ _=>?_|refine gc ?_ ?_|exact gr _|refine gi fun _=>?_|(refine gn ?_ ?_;focus(intros;simp[*];done)))
     refine TrimLeft_c d 48 (by decide) _ h03 _ ?_
     rw [hq]
     simp [gz, *]
     (focus repeat' first|refine ga ?_|(refine gb ?_;try simp[gz, *])|refine gk fun _ _=>?_|refine gc ?_ ?_|exact gr _|refine gi fun _=>?_|(refine gn ?_ ?_;focus(intros;simp[*];done)))
     refine NParse_c (d.take d1) 16 (by decide) (by decide) hlt _ h03 _ ?_
     rw [hv]
     simp [gz, *]
     (focus repeat' first|refine ga ?_|(refine gb ?_;try simp[gz, *])|refine gk fun _ _=>?_|refine gc ?_ ?_|exact gr _|refine gi fun _=>?_|(refine gn ?_ ?_;focus(intros;simp[*];done)))
     refine NParse_c (d.drop d1) 16 (by decide) (by decide) hld _ h03 _ ?_
     rw [hu]
     simp [gz, *]
     (focus repeat' first|refine ga ?_|(refine gb ?_;try simp[gz, *])|refine gk fun _ _=>?_|refine gc ?_ ?_|exact gr _|refine gi fun _=>?_|(refine gn ?_ ?_;focus(intros;simp[*];done)))
     refine ⟨_, ⟨?_, _, rfl, ?_, _, rfl, rfl⟩, ?_⟩
     ·simp [Heap.set_get, *]
     ·simp [Heap.set_get, *]
     ·simp [aresult, Heap.set_get, *]
      exact hfi.out
   ·rw [if_neg (fun e => hv2 e.1)] at hz
    have hfi := hR.out _ (((lx3.drop hz3').drop z2).wr z2 n_b2_l (.cells Z36) |>.wr z3 n_b3_l (.cells [.int .i64 (5), .int .i64 i]))
    rw [← hz, if_neg (by decide)] at hfi
    clear lx3
    replace hfi := Shut.mk hfi
    simp [gz, *]
    (focus repeat' first|refine ga ?_|(refine gb ?_;try simp[gz, *])|refine gk fun _ _=>?_|refine gc ?_ ?_|exact gr _|refine gi fun _=>?_|(refine gn ?_ ?_;focus(intros;simp[*];done)))
    refine CutPrefix_c t [48, 120] _ h03 _ ?_
    rw [hd, hx]
    simp [gz, *]
    (focus repeat' first|refine ga ?_|(refine gb ?_;try simp[gz, *])|refine gk fun _ _=>?_|refine gc ?_ ?_|exact gr _|refine gi fun _=>?_|(refine gn ?_ ?_;focus(intros;simp[*];done)))
    refine TrimLeft_c d 48 (by decide) _ h03 _ ?_
    rw [hq]
    simp [gz, *]
    (focus repeat' first|refine ga ?_|(refine gb ?_;try simp[gz, *])|refine gk fun _ _=>?_|refine gc ?_ ?_|exact gr _|refine gi fun _=>?_|(refine gn ?_ ?_;focus(intros;simp[*];done)))
    refine NParse_c (d.take d1) 16 (by decide) (by decide) hlt _ h03 _ ?_
    rw [hv]
    simp [gz, *]
    (focus repeat' first|refine ga ?_|(refine gb ?_;try simp[gz, *])|refine gk fun _ _=>?_|refine gc ?_ ?_|exact gr _|refine gi fun _=>?_|(refine gn ?_ ?_;focus(intros;simp[*];done)))
    refine NParse_c (d.drop d1) 16 (by decide) (by decide) hld _ h03 _ ?_
    rw [hu]
    simp [gz, *]
    (focus repeat' first|refine ga ?_|(refine gb ?_;try simp[gz, *])|refine gk fun _ _=>?_|refine gc ?_ ?_|exact gr _|refine gi fun _=>?_|(refine gn ?_ ?_;focus(intros;simp[*];done)))
    refine ⟨_, ⟨?_, _, rfl, ?_, _, rfl, rfl⟩, ?_⟩
    ·simp [Heap.set_get, *]
    ·simp [Heap.set_get, *]
    ·simp [aresult, Heap.set_get, *]
     exact hfi.out
  ·rw [if_neg h16] at hz
   have h16i : ¬ (q.length : Int) = 16 := by omega
   obtain ⟨v, hv⟩ : ∃ v, parseR d 16 = v := ⟨_, rfl⟩
   rw [hv] at hz
   simp [gz, *]
   (focus repeat' first|refine ga ?_|(refine gb ?_;try simp[gz, *])|refine gk fun _ _=>?_|refine gc ?_ ?_|exact gr _|refine gi fun _=>?_|(refine gn ?_ ?_;focus(intros;simp[*];done)))
   refine CutPrefix_c t [48, 120] _ h03 _ ?_
   rw [hd, hx]
   simp [gz, *]
   (focus repeat' first|refine ga ?_|(refine gb ?_;try simp[gz, *])|refine gk fun _ _=>?_|refine gc ?_ ?_|exact gr _|refine gi fun _=>?_|(refine gn ?_ ?_;focus(intros;simp[*];done)))
   refine TrimLeft_c d 48 (by decide) _ h03 _ ?_
   rw [hq]
   simp [gz, *]
   (focus repeat' first|refine ga ?_|(refine gb ?_;try simp[gz, *])|refine gk fun _ _=>?_|refine gc ?_ ?_|exact gr _|refine gi fun _=>?_|(refine gn ?_ ?_;focus(intros;simp[*];done)))
   subst hz
   refine NParse_c d 16 (by decide) (by decide) (by omega) _ h03 _ ?_
   rw [hv]
   by_cases hv2 : v.2 = 0
   ·skip
    have hfi := hR.out _ (((lx3.drop hz3').drop z2).wr z2 n_b2_l (.cells [.int .i64 3, .int .i64 0, .str t, .int .i64 v.1, .bool false]) |>.wr z3 n_b3_l (.cells Z28))
    rw [if_pos hv2] at hfi
    clear lx3
    replace hfi := Shut.mk hfi
    simp [gz, *]
    (focus repeat' first|refine ga ?_|(refine gb ?_;try simp[gz, *])|refine gk fun _ _=>?_|refine gc ?_ ?_|exact gr _|refine gi fun _=>?_|(refine gn ?_ ?_;focus(intros;simp[*];done)))
    refine ⟨_, ⟨?_, _, rfl, ?_, _, rfl, rfl⟩, ?_⟩
    ·simp [Heap.set_get, *]
    ·simp [Heap.set_get, *]
    ·simp [aresult, Heap.set_get, *]
     exact hfi.out
   ·skip
    have hfi := hR.out _ (((lx3.drop hz3').drop z2).wr z2 n_b2_l (.cells Z36) |>.wr z3 n_b3_l (.cells [.int .i64 v.2, .int .i64 i]))
    rw [if_neg hv2] at hfi
    clear lx3
    replace hfi := Shut.mk hfi
    simp [gz, *]
    (focus repeat' first|refine ga ?_|(refine gb ?_;try simp[gz, *])|refine gk fun _ _=>?_|refine gc ?_ ?_|exact gr _|refine gi fun _=>?_|(refine gn ?_ ?_;focus(intros;simp[*];done)))
    refine ⟨_, ⟨?_, _, rfl, ?_, _, rfl, rfl⟩, ?_⟩
    ·simp [Heap.set_get, *]
    ·simp [Heap.set_get, *]
    ·simp [aresult, Heap.set_get, *]
     exact hfi.out
end Go.Proofs.YtcbgpjlcfkkdlaaGreatDoor

namespace Go.Proofs.YtcbgpjlcfkkdlaaGreatDoor
open Go Go.AL Go.Proofs
def rawR (s : List UInt8) (q : UInt8) (i : Nat) : Option (List UInt8) := (quoR s q (s.length - i) (i + 1)).map fun e => (s.take e).drop (i + 1)
theorem rawR_len {s : List UInt8} {q : UInt8} {i : Nat} {t : List UInt8} (h : rawR s q i = some t) : i + t.length + 2 ≤ s.length := by
 unfold rawR at h
 rw [Option.map_eq_some_iff] at h
 obtain ⟨e, h1, rfl⟩ := h
 have := quoR_le h1
 rw [List.length_drop, List.length_take]
 omega
def strR (s : List UInt8) (i : Nat) : AV × Nat := match rawR s 34 i with
 | none => (errRes 5 i, i)
 | some t => match unesR t t.length 0 [] with
  | .inr k => (errRes 20 ((i : Int) + 1 + k), i)
  | .inl x => (tokRes 4 x 0, i + (t.length + 2))
def charR (s : List UInt8) (i : Nat) : AV × Nat := match rawR s 39 i with
 | none => (errRes 5 i, i)
 | some t => match unesR t t.length 0 [] with
  | .inr k => (errRes 20 ((i : Int) + 1 + k), i)
  | .inl x => if x.length = 1 then (tokRes 3 ([39] ++ t ++ [39]) (x.getD 0 0).toNat, i + (t.length + 2)) else (errRes 5 i, i)
theorem unesR_place {s : List UInt8} : ∀ {n i : Nat} {acc : List UInt8} {k : Nat}, unesR s n i acc = .inr k → k < s.length
 | 0, _, _, _, h => by cases h
 | n + 1, i, acc, k, h => by
  simp only [unesR] at h
  split at h
  ·split at h
   ·split at h
    ·injection h with h; subst h; assumption
    ·exact unesR_place h
   ·exact unesR_place h
  ·cases h
theorem lstr_c (s : List UInt8) (i : Nat) (b : Bool) (l : Nat) (hi : i < s.length) (hs : s.length ≤ 262144) (B h : Heap) (h0 : B 0 = some .gint) (lx : Lx B h s i b l) (R : AV → Heap → Prop)
  (hR : ∀ g, Lx B g s (strR s i).2 b l → R (strR s i).1 g) : ACalls Tryz.prog 62 [.ptr l 0] h R := by
 have hl := lx.blk
 obtain ⟨z, hz⟩ : ∃ z, strR s i = z := ⟨_, rfl⟩
 rw [hz] at hR
 replace hR := Shut.mk hR
 replace hz := Shut.mk hz
 refine acalls_of Tryz.func62 rfl Tryz.ntmps62 (congrArg Array.toList Tryz.results62) fun Q hQ => ?_
 (focus repeat' first|refine ga ?_|(refine gb ?_;try simp[gz, *])|refine gk fun _ _=>?_|refine gc ?_ ?_|exact gr _|refine gi fun _=>?_|(refine gn ?_ ?_;focus(intros;simp[*];done)))
 intro b2 hb2; simp only [Fresh, Heap.set_none] at hb2; have n_b2_l := ne_of_fresh hl (b := b2) (by simp [*]); try simp [gz, *]
 have z2 := lx.isNone hb2
 (focus repeat' first|refine ga ?_|(refine gb ?_;try simp[gz, *])|refine gk fun _ _=>?_|refine gc ?_ ?_|exact gr _|refine gi fun _=>?_|(refine gn ?_ ?_;focus(intros;simp[*];done)))
 intro b3 hb3
 simp only [Fresh, Heap.set_none] at hb3
 obtain ⟨n3', n3, hb3⟩ := hb3
 have n_b3_l := ne_of_fresh hl hb3
 have z3 := lx.isNone hb3
 have lxa := (lx.wr z2 n_b2_l (.cells Z36)).wr z3 n_b3_l (.cells Z28)
 obtain ⟨g, hg⟩ : ∃ g, (h.set b2 (.cells Z36)).set b3 (.cells Z28) = g := ⟨_, rfl⟩
 rw [hg] at lxa
 have hga : g b3 = some (.cells Z28) := by rw [← hg, Heap.set_same]
 have hgb : g b2 = some (.cells Z36) := by rw [← hg, Heap.set_other _ _ _ _ n3', Heap.set_same]
 try simp [Heap.set_get, *]
 (focus repeat' first|refine ga ?_|(refine gb ?_;try simp[gz, *])|refine gk fun _ _=>?_|refine gc ?_ ?_|exact gr _|refine gi fun _=>?_|(refine gn ?_ ?_;focus(intros;simp[*];done)))
 clear hg hb2 hb3 hl lx
 have hb2 := hgb
 have hb3 := hga
 clear hgb hga
 have m2 : ¬ b2 = l := fun e => n_b2_l e.symm
 have m3 : ¬ b3 = l := fun e => n_b3_l e.symm
 have hl := lxa.blk
 replace hz := hz.out
 unfold strR rawR at hz
 refine quoted_c s i b l 34 (by decide) (by decide) (by omega) hs _ hl _ ?_
 cases hq : quoR s 34 (s.length - i) (i + 1) with
 | none =>
  rw [hq] at hz
  simp only [Option.map_none] at hz
  subst hz
  have hfi := hR.out _ ((lxa.wr z2 n_b2_l (.cells Z36)).wr z3 n_b3_l (.cells [.int .i64 5, .int .i64 i]))
  clear lxa
  replace hfi := Shut.mk hfi
  simp [gz, *]
  (focus repeat' first|refine ga ?_|(refine gb ?_;try simp[gz, *])|refine gk fun _ _=>?_|refine gc ?_ ?_|exact gr _|refine gi fun _=>?_|(refine gn ?_ ?_;focus(intros;simp[*];done)))
  refine awp_region_stores [l] [0,1,2,3] [(4,true),(5,true),(6,false)] [7] follows (by kernel_rfl) rfl (by kernel_rfl) ?_; simp [Heap.set_get, Heap.plus_set, evc_nil, evc_cons, estep, *]
  (focus repeat' first|refine ga ?_|(refine gb ?_;try simp[gz, *])|refine gk fun _ _=>?_|refine gc ?_ ?_|exact gr _|refine gi fun _=>?_|(refine gn ?_ ?_;focus(intros;simp[*];done)))
  refine ⟨_, ⟨?_, _, rfl, ?_, _, rfl, rfl⟩, ?_⟩
  ·simp [Heap.set_get, *]
  ·simp [Heap.set_get, *]
  ·simp [aresult, Heap.set_get, *]
   exact hfi.out
 | some e =>
  rw [hq] at hz
  simp only [Option.map_some] at hz
  have hqe := quoR_le hq
  obtain ⟨t, ht⟩ : ∃ t, (s.take e).drop (i + 1) = t := ⟨_, rfl⟩
  have htl : t.length + (i + 1) = e := by rw [← ht, List.length_drop, List.length_take]; omega
  rw [ht] at hz
  simp only
  rw [ht]
  have h0g := lxa.sub _ _ h0
  replace htl := Shut.mk htl
  replace hqe := Shut.mk hqe
  clear ht hq
  simp [gz, *]
  (focus repeat' first|refine ga ?_|(refine gb ?_;try simp[gz, *])|refine gk fun _ _=>?_|refine gc ?_ ?_|exact gr _|refine gi fun _=>?_|(refine gn ?_ ?_;focus(intros;simp[*];done)))
  refine Unescape_c t (by have := htl.out; have := hqe.out; omega) _ _ ?_
  cases hu : unesR t t.length 0 [] with
  | inr k =>
   rw [hu] at hz
   simp only at hz
   subst hz
   simp only
   have hkt := unesR_place hu
   have w1 : IntKind.i64.wrap ((i : Int) + 1) = ((i + 1 : Nat) : Int) := by rw [w64 (by omega) (by omega)]; omega
   have w2 : IntKind.i64.wrap (((i + 1 : Nat) : Int) + k) = ((i + 1 + k : Nat) : Int) := by have := htl.out; have := hqe.out; rw [w64 (by omega) (by omega)]; omega
   have ez : (i : Int) + 1 + k = ((i + 1 + k : Nat) : Int) := by omega
   rw [ez] at hR
   obtain ⟨i1, hi1⟩ : ∃ x, i + 1 = x := ⟨_, rfl⟩
   obtain ⟨ik, hik⟩ : ∃ x, i + 1 + k = x := ⟨_, rfl⟩
   rw [hik] at hR w2
   rw [hi1] at w1 w2
   clear ez hik hi1 hkt hu
   simp [gz, *]
   (focus repeat' first|refine ga ?_|(refine gb ?_;try simp[gz, *])|refine gk fun _ _=>?_|refine gc ?_ ?_|exact gr _|refine gi fun _=>?_|(refine gn ?_ ?_;focus(intros;simp[*];done)))
   intro b7 hb7; simp only [Fresh, Heap.set_none] at hb7; have n_b7_l := ne_of_fresh hl (b := b7) (by simp [*]); have n_b7_b2 := ne_of_fresh hb2 (b := b7) (by simp [*]); have n_b7_b3 := ne_of_fresh hb3 (b := b7) (by simp [*]); try simp [gz, *]
   have z7 := lxa.isNone hb7
   have m7 : ¬ b7 = l := fun e => n_b7_l e.symm
   have m72 : ¬ b7 = b2 := fun e => n_b7_b2 e.symm
   have m73 : ¬ b7 = b3 := fun e => n_b7_b3 e.symm
   have hfi := hR.out _ (((lxa.wr z7 n_b7_l (.cells [.int .i64 20, .int .i64 k])).wr z2 n_b2_l (.cells Z36)).wr z3 n_b3_l (.cells [.int .i64 20, .int .i64 ik]))
   clear lxa
   replace hfi := Shut.mk hfi
   (focus repeat' first|refine ga ?_|(refine gb ?_;try simp[gz, *])|refine gk fun _ _=>?_|refine gc ?_ ?_|exact gr _|refine gi fun _=>?_|(refine gn ?_ ?_;focus(intros;simp[*];done)))
   refine awp_region_stores [l, b7] [0,1,3,4,5,8] [(2,true),(6,true),(7,true),(9,true),(10,true),(11,true),(12,false)] [13] follows (by kernel_rfl) rfl (by kernel_rfl) ?_; simp [Heap.set_get, Heap.plus_set, evc_nil, evc_cons, estep, *]
   (focus repeat' first|refine ga ?_|(refine gb ?_;try simp[gz, *])|refine gk fun _ _=>?_|refine gc ?_ ?_|exact gr _|refine gi fun _=>?_|(refine gn ?_ ?_;focus(intros;simp[*];done)))
   refine ⟨_, ⟨?_, _, rfl, ?_, _, rfl, rfl⟩, ?_⟩
   ·simp [Heap.set_get, *]
   ·simp [Heap.set_get, *]
   ·simp [aresult, Heap.set_get, *]
    exact hfi.out
  | inl x =>
   rw [hu] at hz
   simp only at hz
   subst hz
   simp only
   have w1 : IntKind.i64.wrap ((t.length : Int) + 2) = ((t.length + 2 : Nat) : Int) := by have := htl.out; have := hqe.out; rw [w64 (by omega) (by omega)]; omega
   have w2 : IntKind.i64.wrap ((i : Int) + ((t.length + 2 : Nat) : Int)) = ((i + (t.length + 2) : Nat) : Int) := by have := htl.out; have := hqe.out; rw [w64 (by omega) (by omega)]; omega
   obtain ⟨tl, htle⟩ : ∃ x, t.length + 2 = x := ⟨_, rfl⟩
   rw [htle] at hR w1 w2
   have hu0 := hu
   clear htle hu
   simp [gz, *]
   (focus repeat' first|refine ga ?_|(refine gb ?_;try simp[gz, *])|refine gk fun _ _=>?_|refine gc ?_ ?_|exact gr _|refine gi fun _=>?_|(refine gn ?_ ?_;focus(intros;simp[*];done)))
   intro b7 hb7; simp only [Fresh, Heap.set_none] at hb7; have n_b7_l := ne_of_fresh hl (b := b7) (by simp [*]); have n_b7_b2 := ne_of_fresh hb2 (b := b7) (by simp [*]); have n_b7_b3 := ne_of_fresh hb3 (b := b7) (by simp [*]); try simp [gz, *]
   have z7 := lxa.isNone hb7
   have m7 : ¬ b7 = l := fun e => n_b7_l e.symm
   have m72 : ¬ b7 = b2 := fun e => n_b7_b2 e.symm
   have m73 : ¬ b7 = b3 := fun e => n_b7_b3 e.symm
   have hfi := hR.out _ ((((lxa.wr z7 n_b7_l (.cells Z28)).put (i + tl) b).wr z2 n_b2_l (.cells [.int .i64 4, .int .i64 0, .str x, .int .i64 0, .bool false])).wr z3 n_b3_l (.cells Z28))
   clear lxa
   replace hfi := Shut.mk hfi
   (focus repeat' first|refine ga ?_|(refine gb ?_;try simp[gz, *])|refine gk fun _ _=>?_|refine gc ?_ ?_|exact gr _|refine gi fun _=>?_|(refine gn ?_ ?_;focus(intros;simp[*];done)))
   refine ⟨_, ⟨?_, _, rfl, ?_, _, rfl, rfl⟩, ?_⟩
   ·simp [Heap.set_get, *]
   ·simp [Heap.set_get, *]
   ·simp [aresult, Heap.set_get, *]
    exact hfi.out
theorem lchar_c (s : List UInt8) (i : Nat) (b : Bool) (l : Nat) (hi : i < s.length) (hs : s.length ≤ 262144) (B h : Heap) (h0 : B 0 = some .gint) (lx : Lx B h s i b l) (R : AV → Heap → Prop)
  (hR : ∀ g, Lx B g s (charR s i).2 b l → R (charR s i).1 g) : ACalls Tryz.prog 63 [.ptr l 0] h R := by
 have hl := lx.blk
 obtain ⟨z, hz⟩ : ∃ z, charR s i = z := ⟨_, rfl⟩
 rw [hz] at hR
 replace hR := Shut.mk hR
 replace hz := Shut.mk hz
 refine acalls_of Tryz.func63 rfl Tryz.ntmps63 (congrArg Array.toList Tryz.results63) fun Q hQ => ?_
 (focus repeat' first|refine ga ?_|(refine gb ?_;try simp[gz, *])|refine gk fun _ _=>?_|refine gc ?_ ?_|exact gr _|refine gi fun _=>?_|(refine gn ?_ ?_;focus(intros;simp[*];done)))
 intro b2 hb2; simp only [Fresh, Heap.set_none] at hb2; have n_b2_l := ne_of_fresh hl (b := b2) (by simp [*]); try simp [gz, *]
 have z2 := lx.isNone hb2
 (focus repeat' first|refine ga ?_|(refine gb ?_;try simp[gz, *])|refine gk fun _ _=>?_|refine gc ?_ ?_|exact gr _|refine gi fun _=>?_|(refine gn ?_ ?_;focus(intros;simp[*];done)))
 intro b3 hb3
 simp only [Fresh, Heap.set_none] at hb3
 obtain ⟨n3', n3, hb3⟩ := hb3
 have n_b3_l := ne_of_fresh hl hb3
 have z3 := lx.isNone hb3
 have lxa := (lx.wr z2 n_b2_l (.cells Z36)).wr z3 n_b3_l (.cells Z28)
 obtain ⟨g, hg⟩ : ∃ g, (h.set b2 (.cells Z36)).set b3 (.cells Z28) = g := ⟨_, rfl⟩
 rw [hg] at lxa
 have hga : g b3 = some (.cells Z28) := by rw [← hg, Heap.set_same]
 have hgb : g b2 = some (.cells Z36) := by rw [← hg, Heap.set_other _ _ _ _ n3', Heap.set_same]
 try simp [Heap.set_get, *]
 (focus repeat' first|refine ga ?_|(refine gb ?_;try simp[gz, *])|refine gk fun _ _=>?_|refine gc ?_ ?_|exact gr _|refine gi fun _=>?_|(refine gn ?_ ?_;focus(intros;simp[*];done)))
 clear hg hb2 hb3 hl lx
 have hb2 := hgb
 have hb3 := hga
 clear hgb hga
 have m2 : ¬ b2 = l := fun e => n_b2_l e.symm
 have m3 : ¬ b3 = l := fun e => n_b3_l e.symm
 have hl := lxa.blk
 replace hz := hz.out
 unfold charR rawR at hz
 refine quoted_c s i b l 39 (by decide) (by decide) (by omega) hs _ hl _ ?_
 cases hq : quoR s 39 (s.length - i) (i + 1) with
 | none =>
  rw [hq] at hz
  simp only [Option.map_none] at hz
  subst hz
  have hfi := hR.out _ ((lxa.wr z2 n_b2_l (.cells Z36)).wr z3 n_b3_l (.cells [.int .i64 5, .int .i64 i]))
  clear lxa
  replace hfi := Shut.mk hfi
  simp [gz, *]
  (focus repeat' first|refine ga ?_|(refine gb ?_;try simp[gz, *])|refine gk fun _ _=>?_|refine gc ?_ ?_|exact gr _|refine gi fun _=>?_|(refine gn ?_ ?_;focus(intros;simp[*];done)))
  refine awp_region_stores [l] [0,1,2,3] [(4,true),(5,true),(6,false)] [7] follows (by kernel_rfl) rfl (by kernel_rfl) ?_; simp [Heap.set_get, Heap.plus_set, evc_nil, evc_cons, estep, *]
  (focus repeat' first|refine ga ?_|(refine gb ?_;try simp[gz, *])|refine gk fun _ _=>?_|refine gc ?_ ?_|exact gr _|refine gi fun _=>?_|(refine gn ?_ ?_;focus(intros;simp[*];done)))
  refine ⟨_, ⟨?_, _, rfl, ?_, _, rfl, rfl⟩, ?_⟩
  ·simp [Heap.set_get, *]
  ·simp [Heap.set_get, *]
  ·simp [aresult, Heap.set_get, *]
   exact hfi.out
 | some e =>
  rw [hq] at hz
  simp only [Option.map_some] at hz
  have hqe := quoR_le hq
  obtain ⟨t, ht⟩ : ∃ t, (s.take e).drop (i + 1) = t := ⟨_, rfl⟩
  have htl : t.length + (i + 1) = e := by rw [← ht, List.length_drop, List.length_take]; omega
  rw [ht] at hz
  simp only
  rw [ht]
  have h0g := lxa.sub _ _ h0
  replace htl := Shut.mk htl
  replace hqe := Shut.mk hqe
  clear ht hq
  simp [gz, *]
  (focus repeat' first|refine ga ?_|(refine gb ?_;try simp[gz, *])|refine gk fun _ _=>?_|refine gc ?_ ?_|exact gr _|refine gi fun _=>?_|(refine gn ?_ ?_;focus(intros;simp[*];done)))
  refine Unescape_c t (by have := htl.out; have := hqe.out; omega) _ _ ?_
  cases hu : unesR t t.length 0 [] with
  | inr k =>
   rw [hu] at hz
   simp only at hz
   subst hz
   simp only
   have hkt := unesR_place hu
   have w1 : IntKind.i64.wrap ((i : Int) + 1) = ((i + 1 : Nat) : Int) := by rw [w64 (by omega) (by omega)]; omega
   have w2 : IntKind.i64.wrap (((i + 1 : Nat) : Int) + k) = ((i + 1 + k : Nat) : Int) := by have := htl.out; have := hqe.out; rw [w64 (by omega) (by omega)]; omega
   have ez : (i : Int) + 1 + k = ((i + 1 + k : Nat) : Int) := by omega
   rw [ez] at hR
   obtain ⟨i1, hi1⟩ : ∃ x, i + 1 = x := ⟨_, rfl⟩
   obtain ⟨ik, hik⟩ : ∃ x, i + 1 + k = x := ⟨_, rfl⟩
   rw [hik] at hR w2
   rw [hi1] at w1 w2
   clear ez hik hi1 hkt hu
   simp [gz, *]
   (focus repeat' first|refine ga ?_|(refine gb ?_;try simp[gz, *])|refine gk fun _ _=>?_|refine gc ?_ ?_|exact gr _|refine gi fun _=>?_|(refine gn ?_ ?_;focus(intros;simp[*];done)))
   intro b7 hb7; simp only [Fresh, Heap.set_none] at hb7; have n_b7_l := ne_of_fresh hl (b := b7) (by simp [*]); have n_b7_b2 := ne_of_fresh hb2 (b := b7) (by simp [*]); have n_b7_b3 := ne_of_fresh hb3 (b := b7) (by simp [*]); try simp [gz, *]
   have z7 := lxa.isNone hb7
   have m7 : ¬ b7 = l := fun e => n_b7_l e.symm
   have m72 : ¬ b7 = b2 := fun e => n_b7_b2 e.symm
   have m73 : ¬ b7 = b3 := fun e => n_b7_b3 e.symm
   have hfi := hR.out _ (((lxa.wr z7 n_b7_l (.cells [.int .i64 20, .int .i64 k])).wr z2 n_b2_l (.cells Z36)).wr z3 n_b3_l (.cells [.int .i64 20, .int .i64 ik]))
   clear lxa
   replace hfi := Shut.mk hfi
   (focus repeat' first|refine ga ?_|(refine gb ?_;try simp[gz, *])|refine gk fun _ _=>?_|refine gc ?_ ?_|exact gr _|refine gi fun _=>?_|(refine gn ?_ ?_;focus(intros;simp[*];done)))
   refine awp_region_stores [l, b7] [0,1,3,4,5,8] [(2,true),(6,true),(7,true),(9,true),(10,true),(11,true),(12,false)] [13] follows (by kernel_rfl) rfl (by kernel_rfl) ?_; simp [Heap.set_get, Heap.plus_set, evc_nil, evc_cons, estep, *]
   (focus repeat' first|refine ga ?_|(refine gb ?_;try simp[gz, *])|refine gk fun _ _=>?_|refine gc ?_ ?_|exact gr _|refine gi fun _=>?_|(refine gn ?_ ?_;focus(intros;simp[*];done)))
   refine ⟨_, ⟨?_, _, rfl, ?_, _, rfl, rfl⟩, ?_⟩
   ·simp [Heap.set_get, *]
   ·simp [Heap.set_get, *]
   ·simp [aresult, Heap.set_get, *]
    exact hfi.out
  | inl x =>
   rw [hu] at hz
   simp only at hz
   subst hz
   simp only
   have w1 : IntKind.i64.wrap ((t.length : Int) + 2) = ((t.length + 2 : Nat) : Int) := by have := htl.out; have := hqe.out; rw [w64 (by omega) (by omega)]; omega
   have w2 : IntKind.i64.wrap ((i : Int) + ((t.length + 2 : Nat) : Int)) = ((i + (t.length + 2) : Nat) : Int) := by have := htl.out; have := hqe.out; rw [w64 (by omega) (by omega)]; omega
   obtain ⟨tl, htle⟩ : ∃ x, t.length + 2 = x := ⟨_, rfl⟩
   rw [htle] at hR w1 w2
   have hu0 := hu
   clear htle hu
   simp [gz, *]
   (focus repeat' first|refine ga ?_|(refine gb ?_;try simp[gz, *])|refine gk fun _ _=>?_|refine gc ?_ ?_|exact gr _|refine gi fun _=>?_|(refine gn ?_ ?_;focus(intros;simp[*];done)))
   intro b7 hb7; simp only [Fresh, Heap.set_none] at hb7; have n_b7_l := ne_of_fresh hl (b := b7) (by simp [*]); have n_b7_b2 := ne_of_fresh hb2 (b := b7) (by simp [*]); have n_b7_b3 := ne_of_fresh hb3 (b := b7) (by simp [*]); try simp [gz, *]
   have z7 := lxa.isNone hb7
   have m7 : ¬ b7 = l := fun e => n_b7_l e.symm
   have m72 : ¬ b7 = b2 := fun e => n_b7_b2 e.symm
   have m73 : ¬ b7 = b3 := fun e => n_b7_b3 e.symm
   have hx1m : x.length ≤ t.length := by have := unesR_len t t.length 0 [] x hu0; simpa using this
   clear hu0
   by_cases hx1 : x.length = 1
   ·rw [if_pos hx1] at hR
    have hx1i : (x.length : Int) = 1 := by omega
    have hx0 : 0 < x.length := by omega
    have hget : x[0]? = some x[0] := List.getElem?_eq_getElem hx0
    have hgd : x.getD 0 0 = x[0] := by simp [List.getD, hget]
    obtain ⟨c, hc⟩ : ∃ c, x[0] = c := ⟨_, rfl⟩
    rw [hc] at hget hgd
    rw [hgd] at hR
    clear hgd
    have hcl := c.toNat_lt
    have w3 : IntKind.i64.wrap (c.toNat : Int) = c.toNat := w64 (by omega) (by omega)
    have htl2 : t.length ≤ 262144 := by have := htl.out; have := hqe.out; omega
    have hfi := hR.out _ ((((lxa.wr z7 n_b7_l (.cells Z28)).put (i + tl) b).wr z2 n_b2_l (.cells [.int .i64 3, .int .i64 0, .str ([39] ++ t ++ [39]), .int .i64 c.toNat, .bool false])).wr z3 n_b3_l (.cells Z28))
    clear lxa
    replace hfi := Shut.mk hfi
    (focus repeat' first|refine ga ?_|(refine gb ?_;try simp[gz, *])|refine gk fun _ _=>?_|refine gc ?_ ?_|exact gr _|refine gi fun _=>?_|(refine gn ?_ ?_;focus(intros;simp[*];done)))
    refine ⟨_, ⟨?_, _, rfl, ?_, _, rfl, rfl⟩, ?_⟩
    ·simp [Heap.set_get, *]
    ·simp [Heap.set_get, *]
    ·simp [aresult, Heap.set_get, *]
     exact hfi.out
   ·rw [if_neg hx1] at hR
    have hx1i : ¬ (x.length : Int) = 1 := by omega
    have hfi := hR.out _ (((lxa.wr z7 n_b7_l (.cells Z28)).wr z2 n_b2_l (.cells Z36)).wr z3 n_b3_l (.cells [.int .i64 5, .int .i64 i]))
    clear lxa
    replace hfi := Shut.mk hfi
    (focus repeat' first|refine ga ?_|(refine gb ?_;try simp[gz, *])|refine gk fun _ _=>?_|refine gc ?_ ?_|exact gr _|refine gi fun _=>?_|(refine gn ?_ ?_;focus(intros;simp[*];done)))
    refine awp_region_stores [l] [0,1,2,3] [(4,true),(5,true),(6,false)] [7] follows (by kernel_rfl) rfl (by kernel_rfl) ?_; simp [Heap.set_get, Heap.plus_set, evc_nil, evc_cons, estep, *]
    (focus repeat' first|refine ga ?_|(refine gb ?_;try simp[gz, *])|refine gk fun _ _=>?_|refine gc ?_ ?_|exact gr _|refine gi fun _=>?_|(refine gn ?_ ?_;focus(intros;simp[*];done)))
    refine ⟨_, ⟨?_, _, rfl, ?_, _, rfl, rfl⟩, ?_⟩
    ·simp [Heap.set_get, *]
    ·simp [Heap.set_get, *]
    ·simp [aresult, Heap.set_get, *]
     exact hfi.out
end Go.Proofs.YtcbgpjlcfkkdlaaGreatDoor

namespace Go.Proofs.YtcbgpjlcfkkdlaaGreatDoor
open Go Go.AL Go.Proofs
def nextR (s : List UInt8) (i : Nat) : AV × Nat :=
 if letterX (s.getD i 0) = true then (tokRes (if keyL (spanW s i) = true then 2 else 1) (spanW s i) 0, i + wspan s i)
 else if digitX (s.getD i 0) = true then (if (numbR (spanW s i)).2 = 0 then tokRes 3 (spanW s i) (numbR (spanW s i)).1 else errRes (numbR (spanW s i)).2 i, i + wspan s i)
 else if s.getD i 0 = 34 then strR s i
 else if s.getD i 0 = 39 then charR s i
 else match signsW.find? (fun x => Lib.hasPrefix (s.drop i) x) with
  | some x => (tokRes 5 x 0, i + x.length)
  | none => (errRes 80 i, i)
theorem strR_shape (s : List UInt8) (i : Nat) : ∃ x1 x2 x3 x4 x5, (strR s i).1 = .tup [.agg [.int .i64 x1, .int .i64 0, .str x2, .int .i64 x3, .bool false], .agg [.int .i64 x4, .int .i64 x5]] := by
 unfold strR
 split
 ·exact ⟨_, _, _, _, _, rfl⟩
 ·split <;> exact ⟨_, _, _, _, _, rfl⟩
theorem charR_shape (s : List UInt8) (i : Nat) : ∃ x1 x2 x3 x4 x5, (charR s i).1 = .tup [.agg [.int .i64 x1, .int .i64 0, .str x2, .int .i64 x3, .bool false], .agg [.int .i64 x4, .int .i64 x5]] := by
 unfold charR
 split
 ·exact ⟨_, _, _, _, _, rfl⟩
 ·split
  ·exact ⟨_, _, _, _, _, rfl⟩
  ·split <;> exact ⟨_, _, _, _, _, rfl⟩
theorem next_c (s : List UInt8) (i : Nat) (b : Bool) (l : Nat) (hi : i < s.length) (hs : s.length ≤ 262144) (B h : Heap) (h0 : B 0 = some .gint) (lx : Lx B h s i b l) (R : AV → Heap → Prop)
  (hR : ∀ g, Lx B g s (nextR s i).2 b l → R (nextR s i).1 g) : ACalls Tryz.prog 27 [.ptr l 0] h R := by
 have hl := lx.blk
 have n0l : ¬ 0 = l := fun e => by have := lx.free; rw [← e, h0] at this; cases this
 have hii : (i : Int) < s.length := by omega
 have hil : (i : Int) ≤ s.length := by omega
 have hget : s[i]? = some s[i] := List.getElem?_eq_getElem hi
 have hgd : s.getD i 0 = s[i] := by simp [List.getD, hget]
 obtain ⟨c, hc⟩ : ∃ c, s[i] = c := ⟨_, rfl⟩
 rw [hc] at hget hgd
 obtain ⟨z, hz⟩ : ∃ z, nextR s i = z := ⟨_, rfl⟩
 rw [hz] at hR
 unfold nextR at hz
 rw [hgd] at hz
 clear hgd
 replace hR := Shut.mk hR
 replace hz := Shut.mk hz
 refine acalls_of Tryz.func27 rfl Tryz.ntmps27 (congrArg Array.toList Tryz.results27) fun Q hQ => ?_
 (focus repeat' first|refine ga ?_|(refine gb ?_;try simp[gz, *])|refine gk fun _ _=>?_|refine gc ?_ ?_|exact gr _|refine gi fun _=>?_|(refine gn ?_ ?_;focus(intros;simp[*];done)))
 intro b2 hb2; simp only [Fresh, Heap.set_none] at hb2; have n_b2_l := ne_of_fresh hl (b := b2) (by simp [*]); try simp [gz, *]
 have z2 := lx.isNone hb2
 (focus repeat' first|refine ga ?_|(refine gb ?_;try simp[gz, *])|refine gk fun _ _=>?_|refine gc ?_ ?_|exact gr _|refine gi fun _=>?_|(refine gn ?_ ?_;focus(intros;simp[*];done)))
 intro b3 hb3
 simp only [Fresh, Heap.set_none] at hb3
 obtain ⟨n3', n3, hb3⟩ := hb3
 have n_b3_l := ne_of_fresh hl hb3
 have z3 := lx.isNone hb3
 have lxa := (lx.wr z2 n_b2_l (.cells Z36)).wr z3 n_b3_l (.cells Z28)
 obtain ⟨g, hg⟩ : ∃ g, (h.set b2 (.cells Z36)).set b3 (.cells Z28) = g := ⟨_, rfl⟩
 rw [hg] at lxa
 have hga : g b3 = some (.cells Z28) := by rw [← hg, Heap.set_same]
 have hgb : g b2 = some (.cells Z36) := by rw [← hg, Heap.set_other _ _ _ _ n3', Heap.set_same]
 try simp [Heap.set_get, *]
 (focus repeat' first|refine ga ?_|(refine gb ?_;try simp[gz, *])|refine gk fun _ _=>?_|refine gc ?_ ?_|exact gr _|refine gi fun _=>?_|(refine gn ?_ ?_;focus(intros;simp[*];done)))
 clear hb2 hb3 hl
 have hl := lxa.blk
 have hb2 := hgb
 have hb3 := hga
 clear hgb hga
 have m2 : ¬ b2 = l := fun e => n_b2_l e.symm
 have m3 : ¬ b3 = l := fun e => n_b3_l e.symm
 try simp [hg]
 clear hg lx
 refine awp_region_quiet follows (by kernel_rfl) ?_; simp [gz, *]
 (focus repeat' first|refine ga ?_|(refine gb ?_;try simp[gz, *])|refine gk fun _ _=>?_|refine gc ?_ ?_|exact gr _|refine gi fun _=>?_|(refine gn ?_ ?_;focus(intros;simp[*];done)))
 refine letter_c c _ _ ?_
 have hBB : ∀ k : Heap, AL.Sub ((B.set b2 (.cells Z36)).set b3 (.cells Z28)) k → k b2 = some (.cells Z36) ∧ k b3 = some (.cells Z28) := fun k hk =>
  ⟨hk _ _ (by rw [Heap.set_other _ _ _ _ n3', Heap.set_same]), hk _ _ (Heap.set_same _ _ _)⟩
 have h0b : ((B.set b2 (.cells Z36)).set b3 (.cells Z28)) 0 = some .gint := gint_set (x := .cells Z28) (by rw [Heap.set_other _ _ _ _ n3]; exact z3) (gint_set (x := .cells Z36) z2 h0)
 have lxb : Lx ((B.set b2 (.cells Z36)).set b3 (.cells Z28)) g s i b l := ⟨fun q y hq => by
  by_cases e1 : q = b3
  ·subst e1; rw [Heap.set_same] at hq; injection hq with hq; subst hq; exact hb3
  ·rw [Heap.set_other _ _ _ _ e1] at hq
   by_cases e2 : q = b2
   ·subst e2; rw [Heap.set_same] at hq; injection hq with hq; subst hq; exact hb2
   ·rw [Heap.set_other _ _ _ _ e2] at hq; exact lxa.sub _ _ hq, by rw [Heap.set_other _ _ _ _ n_b3_l, Heap.set_other _ _ _ _ n_b2_l]; exact lxa.free, lxa.blk⟩
 have unb : ∀ (k : Heap) (j : Nat), Lx ((B.set b2 (.cells Z36)).set b3 (.cells Z28)) k s j b l → Lx B k s j b l := fun k j lk => (lk.drop (by rw [Heap.set_other _ _ _ _ n3]; exact z3)).drop z2
 replace hBB := Shut.mk hBB
 replace unb := Shut.mk unb
 replace lxa := Shut.mk lxa
 replace lxb := Shut.mk lxb
 replace h0b := Shut.mk h0b
 cases h1 : letterX c
 ·replace hz := hz.out
  rw [h1, if_neg (by decide)] at hz
  replace hz := Shut.mk hz
  simp [gz, *]
  (focus repeat' first|refine ga ?_|(refine gb ?_;try simp[gz, *])|refine gk fun _ _=>?_|refine gc ?_ ?_|exact gr _|refine gi fun _=>?_|(refine gn ?_ ?_;focus(intros;simp[*];done)))
  refine digit_c c _ _ ?_
  cases h2 : digitX c
  ·replace hz := hz.out
   rw [h2, if_neg (by decide)] at hz
   by_cases h34 : c = 34
   ·rw [if_pos h34] at hz
    subst hz
    subst h34
    simp [gz, *]
    (focus repeat' first|refine ga ?_|(refine gb ?_;try simp[gz, *])|refine gk fun _ _=>?_|refine gc ?_ ?_|exact gr _|refine gi fun _=>?_|(refine gn ?_ ?_;focus(intros;simp[*];done)))
    refine lstr_c s i b l hi hs _ _ h0b.out lxb.out _ (fun k lk => ?_)
    obtain ⟨kb2, kb3⟩ := hBB.out _ lk.sub
    have lk2 := unb.out _ _ lk
    obtain ⟨v, hv⟩ : ∃ v, strR s i = v := ⟨_, rfl⟩
    obtain ⟨x1, x2, x3, x4, x5, hvs⟩ := strR_shape s i
    rw [hv] at hR hvs lk2 ⊢
    rw [hvs] at hR ⊢
    have hfi := hR.out _ ((lk2.wr z2 n_b2_l (.cells [.int .i64 x1, .int .i64 0, .str x2, .int .i64 x3, .bool false])).wr z3 n_b3_l (.cells [.int .i64 x4, .int .i64 x5]))
    replace hfi := Shut.mk hfi
    clear lk lk2 hb2 hb3 hl hv hvs
    simp [gz, *]
    (focus repeat' first|refine ga ?_|(refine gb ?_;try simp[gz, *])|refine gk fun _ _=>?_|refine gc ?_ ?_|exact gr _|refine gi fun _=>?_|(refine gn ?_ ?_;focus(intros;simp[*];done)))
    refine ⟨_, ⟨?_, _, rfl, ?_, _, rfl, rfl⟩, ?_⟩
    ·simp [Heap.set_get, *]
    ·simp [Heap.set_get, *]
    ·simp [aresult, Heap.set_get, *]
     exact hfi.out
   ·rw [if_neg h34] at hz
    have n34 : ¬ ((c.toNat : Int) = 34) := u8_ne h34
    by_cases h39 : c = 39
    ·rw [if_pos h39] at hz
     subst hz
     subst h39
     simp [gz, *]
     (focus repeat' first|refine ga ?_|(refine gb ?_;try simp[gz, *])|refine gk fun _ _=>?_|refine gc ?_ ?_|exact gr _|refine gi fun _=>?_|(refine gn ?_ ?_;focus(intros;simp[*];done)))
     refine lchar_c s i b l hi hs _ _ h0b.out lxb.out _ (fun k lk => ?_)
     obtain ⟨kb2, kb3⟩ := hBB.out _ lk.sub
     have lk2 := unb.out _ _ lk
     obtain ⟨v, hv⟩ : ∃ v, charR s i = v := ⟨_, rfl⟩
     obtain ⟨x1, x2, x3, x4, x5, hvs⟩ := charR_shape s i
     rw [hv] at hR hvs lk2 ⊢
     rw [hvs] at hR ⊢
     have hfi := hR.out _ ((lk2.wr z2 n_b2_l (.cells [.int .i64 x1, .int .i64 0, .str x2, .int .i64 x3, .bool false])).wr z3 n_b3_l (.cells [.int .i64 x4, .int .i64 x5]))
     replace hfi := Shut.mk hfi
     clear lk lk2 hb2 hb3 hl hv hvs
     simp [gz, *]
     (focus repeat' first|refine ga ?_|(refine gb ?_;try simp[gz, *])|refine gk fun _ _=>?_|refine gc ?_ ?_|exact gr _|refine gi fun _=>?_|(refine gn ?_ ?_;focus(intros;simp[*];done)))
     refine ⟨_, ⟨?_, _, rfl, ?_, _, rfl, rfl⟩, ?_⟩
     ·simp [Heap.set_get, *]
     ·simp [Heap.set_get, *]
     ·simp [aresult, Heap.set_get, *]
      exact hfi.out
    ·rw [if_neg h39] at hz
     have n39 : ¬ ((c.toNat : Int) = 39) := u8_ne h39
     clear h34 h39
     obtain ⟨rest, hrest⟩ : ∃ t, s.drop i = t := ⟨_, rfl⟩
     rw [hrest] at hz
     have hrl : rest.length ≤ s.length - i := by rw [← hrest, List.length_drop]; exact Nat.le_refl _
     replace hz := Shut.mk hz
     simp [gz, *]
     (focus repeat' first|refine ga ?_|(refine gb ?_;try simp[gz, *])|refine gk fun _ _=>?_|refine gc ?_ ?_|exact gr _|refine gi fun _=>?_|(refine gn ?_ ?_;focus(intros;simp[*];done)))
     refine awp_loop_h [6,48,49,50,51,52,53,54,55,56,57,58,59,60,61,62,63,64,65,66,67,68,69,70,71,72,73,74,75] (fun m x k => ∃ j : Nat, m = signsW.length - j ∧ j ≤ signsW.length ∧ signsW.find? (fun x => Lib.hasPrefix rest x) = (signsW.drop j).find? (fun x => Lib.hasPrefix rest x) ∧ x 48 = .int .i64 j ∧ k = g) signsW.length ⟨0, rfl, by omega, rfl, by simp, rfl⟩ (fun m x k hI K hK => ?_)
     obtain ⟨j, rfl, hj, hf, hx, rfl⟩ := hI
     have hsn : signsW.length ≤ 100 := by decide
     by_cases hlt : j < signsW.length
     ·have hlti : (j : Int) < signsW.length := by omega
      obtain ⟨t, ht⟩ : ∃ t, signsW[j] = t := ⟨_, rfl⟩
      have hgt : signRows[j]? = some [.str t] := by rw [List.getElem?_map, List.getElem?_eq_getElem hlt, ht]; rfl
      have hgt2 : signsW[j]? = some t := by rw [List.getElem?_eq_getElem hlt, ht]
      have hdr : signsW.drop j = t :: signsW.drop (j + 1) := by rw [List.drop_eq_getElem_cons hlt, ht]
      rw [hdr, List.find?_cons] at hf
      have w1 : IntKind.i64.wrap ((j : Int) + 1) = ((j + 1 : Nat) : Int) := by rw [w64 (by omega) (by omega)]; omega
      cases hp : Lib.hasPrefix rest t
      ·rw [hp] at hf
       simp only at hf
       replace hf := Shut.mk hf
       refine awp_eqs (s' := [_,_,_,_,_,_,x 6,_,_,_,_,_,_,_,_,_,_,_,_,_,_,_,_,_,_,_,_,_,_,_,_,_,_,_,_,_,_,_,_,_,_,_,_,_,_,_,_,_,x 48,x 49,x 50,x 51,x 52,x 53,x 54,x 55,x 56,x 57,x 58,x 59,x 60,x 61,x 62,x 63,x 64,x 65,x 66,x 67,x 68,x 69,x 70,x 71,x 72,x 73,x 74,x 75,_,_,_,_,_,_]) rfl ?_
       (focus repeat' first|refine ga ?_|(refine gb ?_;try simp[gz, *])|refine gk fun _ _=>?_|refine gc ?_ ?_|exact gr _|refine gi fun _=>?_|(refine gn ?_ ?_;focus(intros;simp[*];done)))
       refine awp_region_draw [l] [(0,true),(1,true),(2,true),(3,true),(4,true),(5,true),(6,true),(7,true),(8,true),(9,true),(10,false)] [] follows (by kernel_rfl) rfl (by kernel_rfl) ?_; simp [gz, Heap.plus_set, *]
       (focus repeat' first|refine ga ?_|(refine gb ?_;try simp[gz, *])|refine gk fun _ _=>?_|refine gc ?_ ?_|exact gr _|refine gi fun _=>?_|(refine gn ?_ ?_;focus(intros;simp[*];done)))
       refine HasPrefix_c rest t _ (by simp [lxa.out.sub _ _ h0, Heap.minus_get, n0l]) _ ?_
       rw [hp]
       simp [gz, *]
       (focus repeat' first|refine ga ?_|(refine gb ?_;try simp[gz, *])|refine gk fun _ _=>?_|refine gc ?_ ?_|exact gr _|refine gi fun _=>?_|(refine gn ?_ ?_;focus(intros;simp[*];done)))
       exact ⟨by kernel_rfl, rfl, signsW.length - (j + 1), _, by omega, Sub.refl _, j + 1, rfl, by omega, hf.out, by simp, rfl⟩
      ·rw [hp] at hf
       simp only at hf
       replace hz := hz.out
       rw [hf] at hz
       simp only at hz
       subst hz
       have htl := hasPrefix_len hp
       have w2 : IntKind.i64.wrap ((i : Int) + (t.length : Int)) = ((i + t.length : Nat) : Int) := by rw [w64 (by omega) (by omega)]; omega
       have hfi := hR.out _ (((lxa.out.put (i + t.length) b).wr z2 n_b2_l (.cells [.int .i64 5, .int .i64 0, .str t, .int .i64 0, .bool false])).wr z3 n_b3_l (.cells Z28))
       replace hfi := Shut.mk hfi
       clear hf
       refine awp_eqs (s' := [_,_,_,_,_,_,x 6,_,_,_,_,_,_,_,_,_,_,_,_,_,_,_,_,_,_,_,_,_,_,_,_,_,_,_,_,_,_,_,_,_,_,_,_,_,_,_,_,_,x 48,x 49,x 50,x 51,x 52,x 53,x 54,x 55,x 56,x 57,x 58,x 59,x 60,x 61,x 62,x 63,x 64,x 65,x 66,x 67,x 68,x 69,x 70,x 71,x 72,x 73,x 74,x 75,_,_,_,_,_,_]) rfl ?_
       (focus repeat' first|refine ga ?_|(refine gb ?_;try simp[gz, *])|refine gk fun _ _=>?_|refine gc ?_ ?_|exact gr _|refine gi fun _=>?_|(refine gn ?_ ?_;focus(intros;simp[*];done)))
       refine awp_region_draw [l] [(0,true),(1,true),(2,true),(3,true),(4,true),(5,true),(6,true),(7,true),(8,true),(9,true),(10,false)] [] follows (by kernel_rfl) rfl (by kernel_rfl) ?_; simp [gz, Heap.plus_set, *]
       (focus repeat' first|refine ga ?_|(refine gb ?_;try simp[gz, *])|refine gk fun _ _=>?_|refine gc ?_ ?_|exact gr _|refine gi fun _=>?_|(refine gn ?_ ?_;focus(intros;simp[*];done)))
       refine HasPrefix_c rest t _ (by simp [lxa.out.sub _ _ h0, Heap.minus_get, n0l]) _ ?_
       rw [hp]
       simp [gz, *]
       (focus repeat' first|refine ga ?_|(refine gb ?_;try simp[gz, *])|refine gk fun _ _=>?_|refine gc ?_ ?_|exact gr _|refine gi fun _=>?_|(refine gn ?_ ?_;focus(intros;simp[*];done)))
       refine ⟨_, ⟨?_, _, rfl, ?_, _, rfl, rfl⟩, ?_⟩
       ·simp [Heap.set_get, *]
       ·simp [Heap.set_get, *]
       ·simp [aresult, Heap.set_get, *]
        exact hfi.out
     ·have hlti : ¬ (j : Int) < signsW.length := by omega
      rw [List.drop_eq_nil_of_le (by omega)] at hf
      simp only [List.find?_nil] at hf
      replace hz := hz.out
      rw [hf] at hz
      simp only at hz
      subst hz
      have hfi := hR.out _ ((lxa.out.wr z2 n_b2_l (.cells Z36)).wr z3 n_b3_l (.cells [.int .i64 80, .int .i64 i]))
      replace hfi := Shut.mk hfi
      clear hf
      refine awp_eqs (s' := [_,_,_,_,_,_,x 6,_,_,_,_,_,_,_,_,_,_,_,_,_,_,_,_,_,_,_,_,_,_,_,_,_,_,_,_,_,_,_,_,_,_,_,_,_,_,_,_,_,x 48,x 49,x 50,x 51,x 52,x 53,x 54,x 55,x 56,x 57,x 58,x 59,x 60,x 61,x 62,x 63,x 64,x 65,x 66,x 67,x 68,x 69,x 70,x 71,x 72,x 73,x 74,x 75,_,_,_,_,_,_]) rfl ?_
      (focus repeat' first|refine ga ?_|(refine gb ?_;try simp[gz, *])|refine gk fun _ _=>?_|refine gc ?_ ?_|exact gr _|refine gi fun _=>?_|(refine gn ?_ ?_;focus(intros;simp[*];done)))
      refine awp_region_stores [l] [0,1,2,3] [(4,true),(5,true),(6,false)] [7] follows (by kernel_rfl) rfl (by kernel_rfl) ?_; simp [Heap.set_get, Heap.plus_set, evc_nil, evc_cons, estep, *]
      (focus repeat' first|refine ga ?_|(refine gb ?_;try simp[gz, *])|refine gk fun _ _=>?_|refine gc ?_ ?_|exact gr _|refine gi fun _=>?_|(refine gn ?_ ?_;focus(intros;simp[*];done)))
      refine ⟨_, ⟨?_, _, rfl, ?_, _, rfl, rfl⟩, ?_⟩
      ·simp [Heap.set_get, *]
      ·simp [Heap.set_get, *]
      ·simp [aresult, Heap.set_get, *]
       exact hfi.out
  ·replace hz := hz.out
   rw [h2, if_pos rfl] at hz
   subst hz
   simp [gz, *]
   (focus repeat' first|refine ga ?_|(refine gb ?_;try simp[gz, *])|refine gk fun _ _=>?_|refine gc ?_ ?_|exact gr _|refine gi fun _=>?_|(refine gn ?_ ?_;focus(intros;simp[*];done)))
   refine number_c s i b l (by omega) hs _ _ h0b.out lxb.out _ (fun k lk => ?_)
   obtain ⟨kb2, kb3⟩ := hBB.out _ lk.sub
   have lk2 := unb.out _ _ lk
   obtain ⟨t, ht⟩ : ∃ t, spanW s i = t := ⟨_, rfl⟩
   obtain ⟨v, hv⟩ : ∃ v, numbR t = v := ⟨_, rfl⟩
   rw [ht, hv] at hR ⊢
   clear lk hb2 hb3 hl ht hv
   by_cases hv2 : v.2 = 0
   ·rw [if_pos hv2] at hR ⊢
    have hfi := hR.out _ ((lk2.wr z2 n_b2_l (.cells [.int .i64 3, .int .i64 0, .str t, .int .i64 v.1, .bool false])).wr z3 n_b3_l (.cells Z28))
    replace hfi := Shut.mk hfi
    clear lk2 hv2
    simp [gz, *]
    (focus repeat' first|refine ga ?_|(refine gb ?_;try simp[gz, *])|refine gk fun _ _=>?_|refine gc ?_ ?_|exact gr _|refine gi fun _=>?_|(refine gn ?_ ?_;focus(intros;simp[*];done)))
    refine ⟨_, ⟨?_, _, rfl, ?_, _, rfl, rfl⟩, ?_⟩
    ·simp [Heap.set_get, *]
    ·simp [Heap.set_get, *]
    ·simp [aresult, Heap.set_get, *]
     exact hfi.out
   ·rw [if_neg hv2] at hR ⊢
    have hfi := hR.out _ ((lk2.wr z2 n_b2_l (.cells Z36)).wr z3 n_b3_l (.cells [.int .i64 v.2, .int .i64 i]))
    replace hfi := Shut.mk hfi
    clear lk2 hv2
    simp [gz, *]
    (focus repeat' first|refine ga ?_|(refine gb ?_;try simp[gz, *])|refine gk fun _ _=>?_|refine gc ?_ ?_|exact gr _|refine gi fun _=>?_|(refine gn ?_ ?_;focus(intros;simp[*];done)))
    refine ⟨_, ⟨?_, _, rfl, ?_, _, rfl, rfl⟩, ?_⟩
    ·simp [Heap.set_get, *]
    ·simp [Heap.set_get, *]
    ·simp [aresult, Heap.set_get, *]
     exact hfi.out
 ·replace hz := hz.out
  rw [h1, if_pos rfl] at hz
  subst hz
  simp [gz, *]
  (focus repeat' first|refine ga ?_|(refine gb ?_;try simp[gz, *])|refine gk fun _ _=>?_|refine gc ?_ ?_|exact gr _|refine gi fun _=>?_|(refine gn ?_ ?_;focus(intros;simp[*];done)))
  refine lname_c s i b l (by omega) hs _ _ h0b.out lxb.out _ (fun k lk => ?_)
  obtain ⟨kb2, kb3⟩ := hBB.out _ lk.sub
  have lk2 := unb.out _ _ lk
  obtain ⟨t, ht⟩ : ∃ t, spanW s i = t := ⟨_, rfl⟩
  obtain ⟨kd, hkd⟩ : ∃ kd : Int, (if keyL t = true then 2 else 1) = kd := ⟨_, rfl⟩
  rw [ht, hkd] at hR ⊢
  have hfi := hR.out _ ((lk2.wr z2 n_b2_l (.cells [.int .i64 kd, .int .i64 0, .str t, .int .i64 0, .bool false])).wr z3 n_b3_l (.cells Z28))
  replace hfi := Shut.mk hfi
  clear lk lk2 hb2 hb3 hl ht hkd
  simp [gz, *]
  (focus repeat' first|refine ga ?_|(refine gb ?_;try simp[gz, *])|refine gk fun _ _=>?_|refine gc ?_ ?_|exact gr _|refine gi fun _=>?_|(refine gn ?_ ?_;focus(intros;simp[*];done)))
  refine ⟨_, ⟨?_, _, rfl, ?_, _, rfl, rfl⟩, ?_⟩
  ·simp [Heap.set_get, *]
  ·simp [Heap.set_get, *]
  ·simp [aresult, Heap.set_get, *]
   exact hfi.out
end Go.Proofs.YtcbgpjlcfkkdlaaGreatDoor

