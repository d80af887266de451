import Derived.Test.YtcbgpjlcfkkdlaaGreatDoorUAT
import Derived.Test.YtcbgpjlcfkkdlaaGreatDoorUAR
import Derived.Test.YtcbgpjlcfkkdlaaGreatDoorUAP
import Derived.Test.YtcbgpjlcfkkdlaaGreatDoorUAH
import Derived.Test.YtcbgpjlcfkkdlaaGreatDoorUAJ
import Derived.Test.YtcbgpjlcfkkdlaaGreatDoorUAI
set_option linter.unusedSimpArgs false
set_option linter.unusedVariables false
set_option maxRecDepth 100000
set_option maxHeartbeats 16000000
namespace Go.Proofs.YtcbgpjlcfkkdlaaGreatDoor
open Go Go.AL Go.Proofs
def rawR (s : List UInt8) (q : UInt8) (i : Nat) : Option (List UInt8) := (quoR s q (s.length - i) (i + 1)).map fun e => (s.take e).drop (i + 1)
theorem rawR_len {s : List UInt8} {q : UInt8} {i : Nat} {t : List UInt8} (h : rawR s q i = some t) : i + t.length + 2 ≤ s.length := by
 unfold rawR at h
 rw [Option.map_eq_some_iff] at h
 obtain ⟨e, h1, rfl⟩ := h
 have := quoR_le h1
 rw [List.length_drop, List.length_take]
 omega
def strR (s : List UInt8) (i : Nat) : AV × Nat := match rawR s 34 i with
 | none => (errRes 5 i, i)
 | some t => match unesR t t.length 0 [] with
  | .inr k => (errRes 20 ((i : Int) + 1 + k), i)
  | .inl x => (tokRes 4 x 0, i + (t.length + 2))
def charR (s : List UInt8) (i : Nat) : AV × Nat := match rawR s 39 i with
 | none => (errRes 5 i, i)
 | some t => match unesR t t.length 0 [] with
  | .inr k => (errRes 20 ((i : Int) + 1 + k), i)
  | .inl x => if x.length = 1 then (tokRes 3 ([39] ++ t ++ [39]) (x.getD 0 0).toNat, i + (t.length + 2)) else (errRes 5 i, i)
theorem unesR_place {s : List UInt8} : ∀ {n i : Nat} {acc : List UInt8} {k : Nat}, unesR s n i acc = .inr k → k < s.length
 | 0, _, _, _, h => by cases h
 | n + 1, i, acc, k, h => by
  simp only [unesR] at h
  split at h
  ·split at h
   ·split at h
    ·injection h with h; subst h; assumption
    ·exact unesR_place h
   ·exact unesR_place h
  ·cases h
theorem lstr_c (s : List UInt8) (i : Nat) (b : Bool) (l : Nat) (hi : i < s.length) (hs : s.length ≤ 262144) (B h : Heap) (h0 : B 0 = some .gint) (lx : Lx B h s i b l) (R : AV → Heap → Prop)
  (hR : ∀ g, Lx B g s (strR s i).2 b l → R (strR s i).1 g) : ACalls Tryz.prog 62 [.ptr l 0] h R := by
 have hl := lx.blk
 obtain ⟨z, hz⟩ : ∃ z, strR s i = z := ⟨_, rfl⟩
 rw [hz] at hR
 replace hR := Shut.mk hR
 replace hz := Shut.mk hz
 refine acalls_of Tryz.func62 rfl Tryz.ntmps62 (congrArg Array.toList Tryz.results62) fun Q hQ => ?_
 (focus repeat' first|refine ga ?_|(refine gb ?_;try simp[gz, *])|refine gk fun _ _=>?_)
 intro b2 hb2; simp only [Fresh, Heap.set_none] at hb2; have n_b2_l := ne_of_fresh hl (b := b2) (by simp [*]); try simp [gz, *]
 have z2 := lx.isNone hb2
 (focus repeat' first|refine ga ?_|(refine gb ?_;try simp[gz, *])|refine gk fun _ _=>?_)
 intro b3 hb3
 simp only [Fresh, Heap.set_none] at hb3
 obtain ⟨n3', n3, hb3⟩ := hb3
 have n_b3_l := ne_of_fresh hl hb3
 have z3 := lx.isNone hb3
 have lxa := (lx.wr z2 n_b2_l (.cells Z36)).wr z3 n_b3_l (.cells Z28)
 obtain ⟨g, hg⟩ : ∃ g, (h.set b2 (.cells Z36)).set b3 (.cells Z28) = g := ⟨_, rfl⟩
 rw [hg] at lxa
 have hga : g b3 = some (.cells Z28) := by rw [← hg, Heap.set_same]
 have hgb : g b2 = some (.cells Z36) := by rw [← hg, Heap.set_other _ _ _ _ n3', Heap.set_same]
 try simp [Heap.set_get, *]
 (focus repeat' first|refine ga ?_|(refine gb ?_;try simp[gz, *])|refine gk fun _ _=>?_)
 clear hg hb2 hb3 hl lx
 have hb2 := hgb
 have hb3 := hga
 clear hgb hga
 have m2 : ¬ b2 = l := fun e => n_b2_l e.symm
 have m3 : ¬ b3 = l := fun e => n_b3_l e.symm
 have hl := lxa.blk
 replace hz := hz.out
 unfold strR rawR at hz
 refine quoted_c s i b l 34 (by decide) (by decide) (by omega) hs _ hl _ ?_
 cases hq : quoR s 34 (s.length - i) (i + 1) with
 | none =>
  rw [hq] at hz
  simp only [Option.map_none] at hz
  subst hz
  have hfi := hR.out _ ((lxa.wr z2 n_b2_l (.cells Z36)).wr z3 n_b3_l (.cells [.int .i64 5, .int .i64 i]))
  clear lxa
  replace hfi := Shut.mk hfi
  simp [gz, *]
  (focus repeat' first|refine ga ?_|(refine gb ?_;try simp[gz, *])|refine gk fun _ _=>?_)
  refine awp_region_stores [l] [0,1,2,3] [(4,true),(5,true),(6,false)] [7] follows (by kernel_rfl) rfl (by kernel_rfl) ?_; simp [Heap.set_get, Heap.plus_set, evc_nil, evc_cons, estep, *]
  (focus repeat' first|refine ga ?_|(refine gb ?_;try simp[gz, *])|refine gk fun _ _=>?_|refine gc ?_ ?_|exact gr _|refine gi fun _=>?_|(refine gn ?_ ?_;focus(intros;simp[*];done)))
  refine ⟨_, ⟨?_, _, rfl, ?_, _, rfl, rfl⟩, ?_⟩
  ·simp [Heap.set_get, *]
  ·simp [Heap.set_get, *]
  ·simp [aresult, Heap.set_get, *]
   exact hfi.out
 | some e =>
  rw [hq] at hz
  simp only [Option.map_some] at hz
  have hqe := quoR_le hq
  obtain ⟨t, ht⟩ : ∃ t, (s.take e).drop (i + 1) = t := ⟨_, rfl⟩
  have htl : t.length + (i + 1) = e := by rw [← ht, List.length_drop, List.length_take]; omega
  rw [ht] at hz
  simp only
  rw [ht]
  have h0g := lxa.sub _ _ h0
  replace htl := Shut.mk htl
  replace hqe := Shut.mk hqe
  clear ht hq
  simp [gz, *]
  (focus repeat' first|refine ga ?_|(refine gb ?_;try simp[gz, *])|refine gk fun _ _=>?_)
  refine Unescape_c t (by have := htl.out; have := hqe.out; omega) _ _ ?_
  cases hu : unesR t t.length 0 [] with
  | inr k =>
   rw [hu] at hz
   simp only at hz
   subst hz
   simp only
   have hkt := unesR_place hu
   have w1 : IntKind.i64.wrap ((i : Int) + 1) = ((i + 1 : Nat) : Int) := by rw [w64 (by omega) (by omega)]; omega
   have w2 : IntKind.i64.wrap (((i + 1 : Nat) : Int) + k) = ((i + 1 + k : Nat) : Int) := by have := htl.out; have := hqe.out; rw [w64 (by omega) (by omega)]; omega
   have ez : (i : Int) + 1 + k = ((i + 1 + k : Nat) : Int) := by omega
   rw [ez] at hR
   obtain ⟨i1, hi1⟩ : ∃ x, i + 1 = x := ⟨_, rfl⟩
   obtain ⟨ik, hik⟩ : ∃ x, i + 1 + k = x := ⟨_, rfl⟩
   rw [hik] at hR w2
   rw [hi1] at w1 w2
   clear ez hik hi1 hkt hu
   simp [gz, *]
   (focus repeat' first|refine ga ?_|(refine gb ?_;try simp[gz, *])|refine gk fun _ _=>?_)
   intro b7 hb7; simp only [Fresh, Heap.set_none] at hb7; have n_b7_l := ne_of_fresh hl (b := b7) (by simp [*]); have n_b7_b2 := ne_of_fresh hb2 (b := b7) (by simp [*]); have n_b7_b3 := ne_of_fresh hb3 (b := b7) (by simp [*]); try simp [gz, *]
   have z7 := lxa.isNone hb7
   have m7 : ¬ b7 = l := fun e => n_b7_l e.symm
   have m72 : ¬ b7 = b2 := fun e => n_b7_b2 e.symm
   have m73 : ¬ b7 = b3 := fun e => n_b7_b3 e.symm
   have hfi := hR.out _ (((lxa.wr z7 n_b7_l (.cells [.int .i64 20, .int .i64 k])).wr z2 n_b2_l (.cells Z36)).wr z3 n_b3_l (.cells [.int .i64 20, .int .i64 ik]))
   clear lxa
   replace hfi := Shut.mk hfi
   (focus repeat' first|refine ga ?_|(refine gb ?_;try simp[gz, *])|refine gk fun _ _=>?_)
   refine awp_region_stores [l, b7] [0,1,3,4,5,8] [(2,true),(6,true),(7,true),(9,true),(10,true),(11,true),(12,false)] [13] follows (by kernel_rfl) rfl (by kernel_rfl) ?_; simp [Heap.set_get, Heap.plus_set, evc_nil, evc_cons, estep, *]
   (focus repeat' first|refine ga ?_|(refine gb ?_;try simp[gz, *])|refine gk fun _ _=>?_|refine gc ?_ ?_|exact gr _|refine gi fun _=>?_|(refine gn ?_ ?_;focus(intros;simp[*];done)))
   refine ⟨_, ⟨?_, _, rfl, ?_, _, rfl, rfl⟩, ?_⟩
   ·simp [Heap.set_get, *]
   ·simp [Heap.set_get, *]
   ·simp [aresult, Heap.set_get, *]
    exact hfi.out
  | inl x =>
   rw [hu] at hz
   simp only at hz
   subst hz
   simp only
   have w1 : IntKind.i64.wrap ((t.length : Int) + 2) = ((t.length + 2 : Nat) : Int) := by have := htl.out; have := hqe.out; rw [w64 (by omega) (by omega)]; omega
   have w2 : IntKind.i64.wrap ((i : Int) + ((t.length + 2 : Nat) : Int)) = ((i + (t.length + 2) : Nat) : Int) := by have := htl.out; have := hqe.out; rw [w64 (by omega) (by omega)]; omega
   obtain ⟨tl, htle⟩ : ∃ x, t.length + 2 = x := ⟨_, rfl⟩
   rw [htle] at hR w1 w2
   have hu0 := hu
   clear htle hu
   simp [gz, *]
   (focus repeat' first|refine ga ?_|(refine gb ?_;try simp[gz, *])|refine gk fun _ _=>?_)
   intro b7 hb7; simp only [Fresh, Heap.set_none] at hb7; have n_b7_l := ne_of_fresh hl (b := b7) (by simp [*]); have n_b7_b2 := ne_of_fresh hb2 (b := b7) (by simp [*]); have n_b7_b3 := ne_of_fresh hb3 (b := b7) (by simp [*]); try simp [gz, *]
   have z7 := lxa.isNone hb7
   have m7 : ¬ b7 = l := fun e => n_b7_l e.symm
   have m72 : ¬ b7 = b2 := fun e => n_b7_b2 e.symm
   have m73 : ¬ b7 = b3 := fun e => n_b7_b3 e.symm
   have hfi := hR.out _ ((((lxa.wr z7 n_b7_l (.cells Z28)).put (i + tl) b).wr z2 n_b2_l (.cells [.int .i64 4, .int .i64 0, .str x, .int .i64 0, .bool false])).wr z3 n_b3_l (.cells Z28))
   clear lxa
   replace hfi := Shut.mk hfi
   (focus repeat' first|refine ga ?_|(refine gb ?_;try simp[gz, *])|refine gk fun _ _=>?_|refine gc ?_ ?_|exact gr _|refine gi fun _=>?_|(refine gn ?_ ?_;focus(intros;simp[*];done)))
   refine ⟨_, ⟨?_, _, rfl, ?_, _, rfl, rfl⟩, ?_⟩
   ·simp [Heap.set_get, *]
   ·simp [Heap.set_get, *]
   ·simp [aresult, Heap.set_get, *]
    exact hfi.out
theorem lchar_c (s : List UInt8) (i : Nat) (b : Bool) (l : Nat) (hi : i < s.length) (hs : s.length ≤ 262144) (B h : Heap) (h0 : B 0 = some .gint) (lx : Lx B h s i b l) (R : AV → Heap → Prop)
  (hR : ∀ g, Lx B g s (charR s i).2 b l → R (charR s i).1 g) : ACalls Tryz.prog 63 [.ptr l 0] h R := by
 have hl := lx.blk
 obtain ⟨z, hz⟩ : ∃ z, charR s i = z := ⟨_, rfl⟩
 rw [hz] at hR
 replace hR := Shut.mk hR
 replace hz := Shut.mk hz
 refine acalls_of Tryz.func63 rfl Tryz.ntmps63 (congrArg Array.toList Tryz.results63) fun Q hQ => ?_
 (focus repeat' first|refine ga ?_|(refine gb ?_;try simp[gz, *])|refine gk fun _ _=>?_)
 intro b2 hb2; simp only [Fresh, Heap.set_none] at hb2; have n_b2_l := ne_of_fresh hl (b := b2) (by simp [*]); try simp [gz, *]
 have z2 := lx.isNone hb2
 (focus repeat' first|refine ga ?_|(refine gb ?_;try simp[gz, *])|refine gk fun _ _=>?_)
 intro b3 hb3
 simp only [Fresh, Heap.set_none] at hb3
 obtain ⟨n3', n3, hb3⟩ := hb3
 have n_b3_l := ne_of_fresh hl hb3
 have z3 := lx.isNone hb3
 have lxa := (lx.wr z2 n_b2_l (.cells Z36)).wr z3 n_b3_l (.cells Z28)
 obtain ⟨g, hg⟩ : ∃ g, (h.set b2 (.cells Z36)).set b3 (.cells Z28) = g := ⟨_, rfl⟩
 rw [hg] at lxa
 have hga : g b3 = some (.cells Z28) := by rw [← hg, Heap.set_same]
 have hgb : g b2 = some (.cells Z36) := by rw [← hg, Heap.set_other _ _ _ _ n3', Heap.set_same]
 try simp [Heap.set_get, *]
 (focus repeat' first|refine ga ?_|(refine gb ?_;try simp[gz, *])|refine gk fun _ _=>?_)
 clear hg hb2 hb3 hl lx
 have hb2 := hgb
 have hb3 := hga
 clear hgb hga
 have m2 : ¬ b2 = l := fun e => n_b2_l e.symm
 have m3 : ¬ b3 = l := fun e => n_b3_l e.symm
 have hl := lxa.blk
 replace hz := hz.out
 unfold charR rawR at hz
 refine quoted_c s i b l 39 (by decide) (by decide) (by omega) hs _ hl _ ?_
 cases hq : quoR s 39 (s.length - i) (i + 1) with
 | none =>
  rw [hq] at hz
  simp only [Option.map_none] at hz
  subst hz
  have hfi := hR.out _ ((lxa.wr z2 n_b2_l (.cells Z36)).wr z3 n_b3_l (.cells [.int .i64 5, .int .i64 i]))
  clear lxa
  replace hfi := Shut.mk hfi
  simp [gz, *]
  (focus repeat' first|refine ga ?_|(refine gb ?_;try simp[gz, *])|refine gk fun _ _=>?_)
  refine awp_region_stores [l] [0,1,2,3] [(4,true),(5,true),(6,false)] [7] follows (by kernel_rfl) rfl (by kernel_rfl) ?_; simp [Heap.set_get, Heap.plus_set, evc_nil, evc_cons, estep, *]
  (focus repeat' first|refine ga ?_|(refine gb ?_;try simp[gz, *])|refine gk fun _ _=>?_|refine gc ?_ ?_|exact gr _|refine gi fun _=>?_|(refine gn ?_ ?_;focus(intros;simp[*];done)))
  refine ⟨_, ⟨?_, _, rfl, ?_, _, rfl, rfl⟩, ?_⟩
  ·simp [Heap.set_get, *]
  ·simp [Heap.set_get, *]
  ·simp [aresult, Heap.set_get, *]
   exact hfi.out
 | some e =>
  rw [hq] at hz
  simp only [Option.map_some] at hz
  have hqe := quoR_le hq
  obtain ⟨t, ht⟩ : ∃ t, (s.take e).drop (i + 1) = t := ⟨_, rfl⟩
  have htl : t.length + (i + 1) = e := by rw [← ht, List.length_drop, List.length_take]; omega
  rw [ht] at hz
  simp only
  rw [ht]
  have h0g := lxa.sub _ _ h0
  replace htl := Shut.mk htl
  replace hqe := Shut.mk hqe
  clear ht hq
  simp [gz, *]
  (focus repeat' first|refine ga ?_|(refine gb ?_;try simp[gz, *])|refine gk fun _ _=>?_)
  refine Unescape_c t (by have := htl.out; have := hqe.out; omega) _ _ ?_
  cases hu : unesR t t.length 0 [] with
  | inr k =>
   rw [hu] at hz
   simp only at hz
   subst hz
   simp only
   have hkt := unesR_place hu
   have w1 : IntKind.i64.wrap ((i : Int) + 1) = ((i + 1 : Nat) : Int) := by rw [w64 (by omega) (by omega)]; omega
   have w2 : IntKind.i64.wrap (((i + 1 : Nat) : Int) + k) = ((i + 1 + k : Nat) : Int) := by have := htl.out; have := hqe.out; rw [w64 (by omega) (by omega)]; omega
   have ez : (i : Int) + 1 + k = ((i + 1 + k : Nat) : Int) := by omega
   rw [ez] at hR
   obtain ⟨i1, hi1⟩ : ∃ x, i + 1 = x := ⟨_, rfl⟩
   obtain ⟨ik, hik⟩ : ∃ x, i + 1 + k = x := ⟨_, rfl⟩
   rw [hik] at hR w2
   rw [hi1] at w1 w2
   clear ez hik hi1 hkt hu
   simp [gz, *]
   (focus repeat' first|refine ga ?_|(refine gb ?_;try simp[gz, *])|refine gk fun _ _=>?_)
   intro b7 hb7; simp only [Fresh, Heap.set_none] at hb7; have n_b7_l := ne_of_fresh hl (b := b7) (by simp [*]); have n_b7_b2 := ne_of_fresh hb2 (b := b7) (by simp [*]); have n_b7_b3 := ne_of_fresh hb3 (b := b7) (by simp [*]); try simp [gz, *]
   have z7 := lxa.isNone hb7
   have m7 : ¬ b7 = l := fun e => n_b7_l e.symm
   have m72 : ¬ b7 = b2 := fun e => n_b7_b2 e.symm
   have m73 : ¬ b7 = b3 := fun e => n_b7_b3 e.symm
   have hfi := hR.out _ (((lxa.wr z7 n_b7_l (.cells [.int .i64 20, .int .i64 k])).wr z2 n_b2_l (.cells Z36)).wr z3 n_b3_l (.cells [.int .i64 20, .int .i64 ik]))
   clear lxa
   replace hfi := Shut.mk hfi
   (focus repeat' first|refine ga ?_|(refine gb ?_;try simp[gz, *])|refine gk fun _ _=>?_)
   refine awp_region_stores [l, b7] [0,1,3,4,5,8] [(2,true),(6,true),(7,true),(9,true),(10,true),(11,true),(12,false)] [13] follows (by kernel_rfl) rfl (by kernel_rfl) ?_; simp [Heap.set_get, Heap.plus_set, evc_nil, evc_cons, estep, *]
   (focus repeat' first|refine ga ?_|(refine gb ?_;try simp[gz, *])|refine gk fun _ _=>?_|refine gc ?_ ?_|exact gr _|refine gi fun _=>?_|(refine gn ?_ ?_;focus(intros;simp[*];done)))
   refine ⟨_, ⟨?_, _, rfl, ?_, _, rfl, rfl⟩, ?_⟩
   ·simp [Heap.set_get, *]
   ·simp [Heap.set_get, *]
   ·simp [aresult, Heap.set_get, *]
    exact hfi.out
  | inl x =>
   rw [hu] at hz
   simp only at hz
   subst hz
   simp only
   have w1 : IntKind.i64.wrap ((t.length : Int) + 2) = ((t.length + 2 : Nat) : Int) := by have := htl.out; have := hqe.out; rw [w64 (by omega) (by omega)]; omega
   have w2 : IntKind.i64.wrap ((i : Int) + ((t.length + 2 : Nat) : Int)) = ((i + (t.length + 2) : Nat) : Int) := by have := htl.out; have := hqe.out; rw [w64 (by omega) (by omega)]; omega
   obtain ⟨tl, htle⟩ : ∃ x, t.length + 2 = x := ⟨_, rfl⟩
   rw [htle] at hR w1 w2
   have hu0 := hu
   clear htle hu
   simp [gz, *]
   (focus repeat' first|refine ga ?_|(refine gb ?_;try simp[gz, *])|refine gk fun _ _=>?_)
   intro b7 hb7; simp only [Fresh, Heap.set_none] at hb7; have n_b7_l := ne_of_fresh hl (b := b7) (by simp [*]); have n_b7_b2 := ne_of_fresh hb2 (b := b7) (by simp [*]); have n_b7_b3 := ne_of_fresh hb3 (b := b7) (by simp [*]); try simp [gz, *]
   have z7 := lxa.isNone hb7
   have m7 : ¬ b7 = l := fun e => n_b7_l e.symm
   have m72 : ¬ b7 = b2 := fun e => n_b7_b2 e.symm
   have m73 : ¬ b7 = b3 := fun e => n_b7_b3 e.symm
   have hx1m : x.length ≤ t.length := by have := unesR_len t t.length 0 [] x hu0; simpa using this
   clear hu0
   by_cases hx1 : x.length = 1
   ·rw [if_pos hx1] at hR
    have hx1i : (x.length : Int) = 1 := by omega
    have hx0 : 0 < x.length := by omega
    have hget : x[0]? = some x[0] := List.getElem?_eq_getElem hx0
    have hgd : x.getD 0 0 = x[0] := by simp [List.getD, hget]
    obtain ⟨c, hc⟩ : ∃ c, x[0] = c := ⟨_, rfl⟩
    rw [hc] at hget hgd
    rw [hgd] at hR
    clear hgd
    have hcl := c.toNat_lt
    have w3 : IntKind.i64.wrap (c.toNat : Int) = c.toNat := w64 (by omega) (by omega)
    have htl2 : t.length ≤ 262144 := by have := htl.out; have := hqe.out; omega
    have hfi := hR.out _ ((((lxa.wr z7 n_b7_l (.cells Z28)).put (i + tl) b).wr z2 n_b2_l (.cells [.int .i64 3, .int .i64 0, .str ([39] ++ t ++ [39]), .int .i64 c.toNat, .bool false])).wr z3 n_b3_l (.cells Z28))
    clear lxa
    replace hfi := Shut.mk hfi
    (focus repeat' first|refine ga ?_|(refine gb ?_;try simp[gz, *])|refine gk fun _ _=>?_|refine gc ?_ ?_|exact gr _|refine gi fun _=>?_|(refine gn ?_ ?_;focus(intros;simp[*];done)))
    refine ⟨_, ⟨?_, _, rfl, ?_, _, rfl, rfl⟩, ?_⟩
    ·simp [Heap.set_get, *]
    ·simp [Heap.set_get, *]
    ·simp [aresult, Heap.set_get, *]
     exact hfi.out
   ·rw [if_neg hx1] at hR
    have hx1i : ¬ (x.length : Int) = 1 := by omega
    have hfi := hR.out _ (((lxa.wr z7 n_b7_l (.cells Z28)).wr z2 n_b2_l (.cells Z36)).wr z3 n_b3_l (.cells [.int .i64 5, .int .i64 i]))
    clear lxa
    replace hfi := Shut.mk hfi
    (focus repeat' first|refine ga ?_|(refine gb ?_;try simp[gz, *])|refine gk fun _ _=>?_)
    refine awp_region_stores [l] [0,1,2,3] [(4,true),(5,true),(6,false)] [7] follows (by kernel_rfl) rfl (by kernel_rfl) ?_; simp [Heap.set_get, Heap.plus_set, evc_nil, evc_cons, estep, *]
    (focus repeat' first|refine ga ?_|(refine gb ?_;try simp[gz, *])|refine gk fun _ _=>?_|refine gc ?_ ?_|exact gr _|refine gi fun _=>?_|(refine gn ?_ ?_;focus(intros;simp[*];done)))
    refine ⟨_, ⟨?_, _, rfl, ?_, _, rfl, rfl⟩, ?_⟩
    ·simp [Heap.set_get, *]
    ·simp [Heap.set_get, *]
    ·simp [aresult, Heap.set_get, *]
     exact hfi.out
end Go.Proofs.YtcbgpjlcfkkdlaaGreatDoor

namespace Go.Proofs.YtcbgpjlcfkkdlaaGreatDoor
open Go Go.AL Go.Proofs
def nextR (s : List UInt8) (i : Nat) : AV × Nat :=
 if letterX (s.getD i 0) = true then (tokRes (if keyL (spanW s i) = true then 2 else 1) (spanW s i) 0, i + wspan s i)
 else if digitX (s.getD i 0) = true then (if (numbR (spanW s i)).2 = 0 then tokRes 3 (spanW s i) (numbR (spanW s i)).1 else errRes (numbR (spanW s i)).2 i, i + wspan s i)
 else if s.getD i 0 = 34 then strR s i
 else if s.getD i 0 = 39 then charR s i
 else match signsW.find? (fun x => Lib.hasPrefix (s.drop i) x) with
  | some x => (tokRes 5 x 0, i + x.length)
  | none => (errRes 80 i, i)
theorem strR_shape (s : List UInt8) (i : Nat) : ∃ x1 x2 x3 x4 x5, (strR s i).1 = .tup [.agg [.int .i64 x1, .int .i64 0, .str x2, .int .i64 x3, .bool false], .agg [.int .i64 x4, .int .i64 x5]] := by
 unfold strR
 split
 ·exact ⟨_, _, _, _, _, rfl⟩
 ·split <;> exact ⟨_, _, _, _, _, rfl⟩
theorem charR_shape (s : List UInt8) (i : Nat) : ∃ x1 x2 x3 x4 x5, (charR s i).1 = .tup [.agg [.int .i64 x1, .int .i64 0, .str x2, .int .i64 x3, .bool false], .agg [.int .i64 x4, .int .i64 x5]] := by
 unfold charR
 split
 ·exact ⟨_, _, _, _, _, rfl⟩
 ·split
  ·exact ⟨_, _, _, _, _, rfl⟩
  ·split <;> exact ⟨_, _, _, _, _, rfl⟩
theorem next_c (s : List UInt8) (i : Nat) (b : Bool) (l : Nat) (hi : i < s.length) (hs : s.length ≤ 262144) (B h : Heap) (h0 : B 0 = some .gint) (lx : Lx B h s i b l) (R : AV → Heap → Prop)
  (hR : ∀ g, Lx B g s (nextR s i).2 b l → R (nextR s i).1 g) : ACalls Tryz.prog 27 [.ptr l 0] h R := by
 have hl := lx.blk
 have n0l : ¬ 0 = l := fun e => by have := lx.free; rw [← e, h0] at this; cases this
 have hii : (i : Int) < s.length := by omega
 have hil : (i : Int) ≤ s.length := by omega
 have hget : s[i]? = some s[i] := List.getElem?_eq_getElem hi
 have hgd : s.getD i 0 = s[i] := by simp [List.getD, hget]
 obtain ⟨c, hc⟩ : ∃ c, s[i] = c := ⟨_, rfl⟩
 rw [hc] at hget hgd
 obtain ⟨z, hz⟩ : ∃ z, nextR s i = z := ⟨_, rfl⟩
 rw [hz] at hR
 unfold nextR at hz
 rw [hgd] at hz
 clear hgd
 replace hR := Shut.mk hR
 replace hz := Shut.mk hz
 refine acalls_of Tryz.func27 rfl Tryz.ntmps27 (congrArg Array.toList Tryz.results27) fun Q hQ => ?_
 (focus repeat' first|refine ga ?_|(refine gb ?_;try simp[gz, *])|refine gk fun _ _=>?_)
 intro b2 hb2; simp only [Fresh, Heap.set_none] at hb2; have n_b2_l := ne_of_fresh hl (b := b2) (by simp [*]); try simp [gz, *]
 have z2 := lx.isNone hb2
 (focus repeat' first|refine ga ?_|(refine gb ?_;try simp[gz, *])|refine gk fun _ _=>?_)
 intro b3 hb3
 simp only [Fresh, Heap.set_none] at hb3
 obtain ⟨n3', n3, hb3⟩ := hb3
 have n_b3_l := ne_of_fresh hl hb3
 have z3 := lx.isNone hb3
 have lxa := (lx.wr z2 n_b2_l (.cells Z36)).wr z3 n_b3_l (.cells Z28)
 obtain ⟨g, hg⟩ : ∃ g, (h.set b2 (.cells Z36)).set b3 (.cells Z28) = g := ⟨_, rfl⟩
 rw [hg] at lxa
 have hga : g b3 = some (.cells Z28) := by rw [← hg, Heap.set_same]
 have hgb : g b2 = some (.cells Z36) := by rw [← hg, Heap.set_other _ _ _ _ n3', Heap.set_same]
 try simp [Heap.set_get, *]
 (focus repeat' first|refine ga ?_|(refine gb ?_;try simp[gz, *])|refine gk fun _ _=>?_)
 clear hb2 hb3 hl
 have hl := lxa.blk
 have hb2 := hgb
 have hb3 := hga
 clear hgb hga
 have m2 : ¬ b2 = l := fun e => n_b2_l e.symm
 have m3 : ¬ b3 = l := fun e => n_b3_l e.symm
 try simp [hg]
 clear hg lx
 refine awp_region_quiet follows (by kernel_rfl) ?_; simp [gz, *]
 (focus repeat' first|refine ga ?_|(refine gb ?_;try simp[gz, *])|refine gk fun _ _=>?_)
 refine letter_c c _ _ ?_
 have hBB : ∀ k : Heap, AL.Sub ((B.set b2 (.cells Z36)).set b3 (.cells Z28)) k → k b2 = some (.cells Z36) ∧ k b3 = some (.cells Z28) := fun k hk =>
  ⟨hk _ _ (by rw [Heap.set_other _ _ _ _ n3', Heap.set_same]), hk _ _ (Heap.set_same _ _ _)⟩
 have h0b : ((B.set b2 (.cells Z36)).set b3 (.cells Z28)) 0 = some .gint := gint_set (x := .cells Z28) (by rw [Heap.set_other _ _ _ _ n3]; exact z3) (gint_set (x := .cells Z36) z2 h0)
 have lxb : Lx ((B.set b2 (.cells Z36)).set b3 (.cells Z28)) g s i b l := ⟨fun q y hq => by
  by_cases e1 : q = b3
  ·subst e1; rw [Heap.set_same] at hq; injection hq with hq; subst hq; exact hb3
  ·rw [Heap.set_other _ _ _ _ e1] at hq
   by_cases e2 : q = b2
   ·subst e2; rw [Heap.set_same] at hq; injection hq with hq; subst hq; exact hb2
   ·rw [Heap.set_other _ _ _ _ e2] at hq; exact lxa.sub _ _ hq, by rw [Heap.set_other _ _ _ _ n_b3_l, Heap.set_other _ _ _ _ n_b2_l]; exact lxa.free, lxa.blk⟩
 have unb : ∀ (k : Heap) (j : Nat), Lx ((B.set b2 (.cells Z36)).set b3 (.cells Z28)) k s j b l → Lx B k s j b l := fun k j lk => (lk.drop (by rw [Heap.set_other _ _ _ _ n3]; exact z3)).drop z2
 replace hBB := Shut.mk hBB
 replace unb := Shut.mk unb
 replace lxa := Shut.mk lxa
 replace lxb := Shut.mk lxb
 replace h0b := Shut.mk h0b
 cases h1 : letterX c
 ·replace hz := hz.out
  rw [h1, if_neg (by decide)] at hz
  replace hz := Shut.mk hz
  simp [gz, *]
  (focus repeat' first|refine ga ?_|(refine gb ?_;try simp[gz, *])|refine gk fun _ _=>?_)
  refine digit_c c _ _ ?_
  cases h2 : digitX c
  ·replace hz := hz.out
   rw [h2, if_neg (by decide)] at hz
   by_cases h34 : c = 34
   ·rw [if_pos h34] at hz
    subst hz
    subst h34
    simp [gz, *]
    (focus repeat' first|refine ga ?_|(refine gb ?_;try simp[gz, *])|refine gk fun _ _=>?_)
    refine lstr_c s i b l hi hs _ _ h0b.out lxb.out _ (fun k lk => ?_)
    obtain ⟨kb2, kb3⟩ := hBB.out _ lk.sub
    have lk2 := unb.out _ _ lk
    obtain ⟨v, hv⟩ : ∃ v, strR s i = v := ⟨_, rfl⟩
    obtain ⟨x1, x2, x3, x4, x5, hvs⟩ := strR_shape s i
    rw [hv] at hR hvs lk2 ⊢
    rw [hvs] at hR ⊢
    have hfi := hR.out _ ((lk2.wr z2 n_b2_l (.cells [.int .i64 x1, .int .i64 0, .str x2, .int .i64 x3, .bool false])).wr z3 n_b3_l (.cells [.int .i64 x4, .int .i64 x5]))
    replace hfi := Shut.mk hfi
    clear lk lk2 hb2 hb3 hl hv hvs
    simp [gz, *]
    (focus repeat' first|refine ga ?_|(refine gb ?_;try simp[gz, *])|refine gk fun _ _=>?_|refine gc ?_ ?_|exact gr _|refine gi fun _=>?_|(refine gn ?_ ?_;focus(intros;simp[*];done)))
    refine ⟨_, ⟨?_, _, rfl, ?_, _, rfl, rfl⟩, ?_⟩
    ·simp [Heap.set_get, *]
    ·simp [Heap.set_get, *]
    ·simp [aresult, Heap.set_get, *]
     exact hfi.out
   ·rw [if_neg h34] at hz
    have n34 : ¬ ((c.toNat : Int) = 34) := u8_ne h34
    by_cases h39 : c = 39
    ·rw [if_pos h39] at hz
     subst hz
     subst h39
     simp [gz, *]
     (focus repeat' first|refine ga ?_|(refine gb ?_;try simp[gz, *])|refine gk fun _ _=>?_)
     refine lchar_c s i b l hi hs _ _ h0b.out lxb.out _ (fun k lk => ?_)
     obtain ⟨kb2, kb3⟩ := hBB.out _ lk.sub
     have lk2 := unb.out _ _ lk
     obtain ⟨v, hv⟩ : ∃ v, charR s i = v := ⟨_, rfl⟩
     obtain ⟨x1, x2, x3, x4, x5, hvs⟩ := charR_shape s i
     rw [hv] at hR hvs lk2 ⊢
     rw [hvs] at hR ⊢
     have hfi := hR.out _ ((lk2.wr z2 n_b2_l (.cells [.int .i64 x1, .int .i64 0, .str x2, .int .i64 x3, .bool false])).wr z3 n_b3_l (.cells [.int .i64 x4, .int .i64 x5]))
     replace hfi := Shut.mk hfi
     clear lk lk2 hb2 hb3 hl hv hvs
     simp [gz, *]
     (focus repeat' first|refine ga ?_|(refine gb ?_;try simp[gz, *])|refine gk fun _ _=>?_|refine gc ?_ ?_|exact gr _|refine gi fun _=>?_|(refine gn ?_ ?_;focus(intros;simp[*];done)))
     refine ⟨_, ⟨?_, _, rfl, ?_, _, rfl, rfl⟩, ?_⟩
     ·simp [Heap.set_get, *]
     ·simp [Heap.set_get, *]
     ·simp [aresult, Heap.set_get, *]
      exact hfi.out
    ·rw [if_neg h39] at hz
     have n39 : ¬ ((c.toNat : Int) = 39) := u8_ne h39
     clear h34 h39
     obtain ⟨rest, hrest⟩ : ∃ t, s.drop i = t := ⟨_, rfl⟩
     rw [hrest] at hz
     have hrl : rest.length ≤ s.length - i := by rw [← hrest, List.length_drop]; exact Nat.le_refl _
     replace hz := Shut.mk hz
     simp [gz, *]
     (focus repeat' first|refine ga ?_|(refine gb ?_;try simp[gz, *])|refine gk fun _ _=>?_)
     refine awp_loop_h [6,48,49,50,51,52,53,54,55,56,57,58,59,60,61,62,63,64,65,66,67,68,69,70,71,72,73,74,75] (fun m x k => ∃ j : Nat, m = signsW.length - j ∧ j ≤ signsW.length ∧ signsW.find? (fun x => Lib.hasPrefix rest x) = (signsW.drop j).find? (fun x => Lib.hasPrefix rest x) ∧ x 48 = .int .i64 j ∧ k = g) signsW.length ⟨0, rfl, by omega, rfl, by simp, rfl⟩ (fun m x k hI K hK => ?_)
     obtain ⟨j, rfl, hj, hf, hx, rfl⟩ := hI
     have hsn : signsW.length ≤ 100 := by decide
     by_cases hlt : j < signsW.length
     ·have hlti : (j : Int) < signsW.length := by omega
      obtain ⟨t, ht⟩ : ∃ t, signsW[j] = t := ⟨_, rfl⟩
      have hgt : signRows[j]? = some [.str t] := by rw [List.getElem?_map, List.getElem?_eq_getElem hlt, ht]; rfl
      have hgt2 : signsW[j]? = some t := by rw [List.getElem?_eq_getElem hlt, ht]
      have hdr : signsW.drop j = t :: signsW.drop (j + 1) := by rw [List.drop_eq_getElem_cons hlt, ht]
      rw [hdr, List.find?_cons] at hf
      have w1 : IntKind.i64.wrap ((j : Int) + 1) = ((j + 1 : Nat) : Int) := by rw [w64 (by omega) (by omega)]; omega
      cases hp : Lib.hasPrefix rest t
      ·rw [hp] at hf
       simp only at hf
       replace hf := Shut.mk hf
       refine awp_eqs (s' := [_,_,_,_,_,_,x 6,_,_,_,_,_,_,_,_,_,_,_,_,_,_,_,_,_,_,_,_,_,_,_,_,_,_,_,_,_,_,_,_,_,_,_,_,_,_,_,_,_,x 48,x 49,x 50,x 51,x 52,x 53,x 54,x 55,x 56,x 57,x 58,x 59,x 60,x 61,x 62,x 63,x 64,x 65,x 66,x 67,x 68,x 69,x 70,x 71,x 72,x 73,x 74,x 75,_,_,_,_,_,_]) rfl ?_
       (focus repeat' first|refine ga ?_|(refine gb ?_;try simp[gz, *])|refine gk fun _ _=>?_)
       refine awp_region_draw [l] [(0,true),(1,true),(2,true),(3,true),(4,true),(5,true),(6,true),(7,true),(8,true),(9,true),(10,false)] [] follows (by kernel_rfl) rfl (by kernel_rfl) ?_; simp [gz, Heap.plus_set, *]
       (focus repeat' first|refine ga ?_|(refine gb ?_;try simp[gz, *])|refine gk fun _ _=>?_)
       refine HasPrefix_c rest t _ (by simp [lxa.out.sub _ _ h0, Heap.minus_get, n0l]) _ ?_
       rw [hp]
       simp [gz, *]
       (focus repeat' first|refine ga ?_|(refine gb ?_;try simp[gz, *])|refine gk fun _ _=>?_)
       exact ⟨by kernel_rfl, rfl, signsW.length - (j + 1), _, by omega, Sub.refl _, j + 1, rfl, by omega, hf.out, by simp, rfl⟩
      ·rw [hp] at hf
       simp only at hf
       replace hz := hz.out
       rw [hf] at hz
       simp only at hz
       subst hz
       have htl := hasPrefix_len hp
       have w2 : IntKind.i64.wrap ((i : Int) + (t.length : Int)) = ((i + t.length : Nat) : Int) := by rw [w64 (by omega) (by omega)]; omega
       have hfi := hR.out _ (((lxa.out.put (i + t.length) b).wr z2 n_b2_l (.cells [.int .i64 5, .int .i64 0, .str t, .int .i64 0, .bool false])).wr z3 n_b3_l (.cells Z28))
       replace hfi := Shut.mk hfi
       clear hf
       refine awp_eqs (s' := [_,_,_,_,_,_,x 6,_,_,_,_,_,_,_,_,_,_,_,_,_,_,_,_,_,_,_,_,_,_,_,_,_,_,_,_,_,_,_,_,_,_,_,_,_,_,_,_,_,x 48,x 49,x 50,x 51,x 52,x 53,x 54,x 55,x 56,x 57,x 58,x 59,x 60,x 61,x 62,x 63,x 64,x 65,x 66,x 67,x 68,x 69,x 70,x 71,x 72,x 73,x 74,x 75,_,_,_,_,_,_]) rfl ?_
       (focus repeat' first|refine ga ?_|(refine gb ?_;try simp[gz, *])|refine gk fun _ _=>?_)
       refine awp_region_draw [l] [(0,true),(1,true),(2,true),(3,true),(4,true),(5,true),(6,true),(7,true),(8,true),(9,true),(10,false)] [] follows (by kernel_rfl) rfl (by kernel_rfl) ?_; simp [gz, Heap.plus_set, *]
       (focus repeat' first|refine ga ?_|(refine gb ?_;try simp[gz, *])|refine gk fun _ _=>?_)
       refine HasPrefix_c rest t _ (by simp [lxa.out.sub _ _ h0, Heap.minus_get, n0l]) _ ?_
       rw [hp]
       simp [gz, *]
       (focus repeat' first|refine ga ?_|(refine gb ?_;try simp[gz, *])|refine gk fun _ _=>?_|refine gc ?_ ?_|exact gr _|refine gi fun _=>?_|(refine gn ?_ ?_;focus(intros;simp[*];done)))
       refine ⟨_, ⟨?_, _, rfl, ?_, _, rfl, rfl⟩, ?_⟩
       ·simp [Heap.set_get, *]
       ·simp [Heap.set_get, *]
       ·simp [aresult, Heap.set_get, *]
        exact hfi.out
     ·have hlti : ¬ (j : Int) < signsW.length := by omega
      rw [List.drop_eq_nil_of_le (by omega)] at hf
      simp only [List.find?_nil] at hf
      replace hz := hz.out
      rw [hf] at hz
      simp only at hz
      subst hz
      have hfi := hR.out _ ((lxa.out.wr z2 n_b2_l (.cells Z36)).wr z3 n_b3_l (.cells [.int .i64 80, .int .i64 i]))
      replace hfi := Shut.mk hfi
      clear hf
      refine awp_eqs (s' := [_,_,_,_,_,_,x 6,_,_,_,_,_,_,_,_,_,_,_,_,_,_,_,_,_,_,_,_,_,_,_,_,_,_,_,_,_,_,_,_,_,_,_,_,_,_,_,_,_,x 48,x 49,x 50,x 51,x 52,x 53,x 54,x 55,x 56,x 57,x 58,x 59,x 60,x 61,x 62,x 63,x 64,x 65,x 66,x 67,x 68,x 69,x 70,x 71,x 72,x 73,x 74,x 75,_,_,_,_,_,_]) rfl ?_
      (focus repeat' first|refine ga ?_|(refine gb ?_;try simp[gz, *])|refine gk fun _ _=>?_)
      refine awp_region_stores [l] [0,1,2,3] [(4,true),(5,true),(6,false)] [7] follows (by kernel_rfl) rfl (by kernel_rfl) ?_; simp [Heap.set_get, Heap.plus_set, evc_nil, evc_cons, estep, *]
      (focus repeat' first|refine ga ?_|(refine gb ?_;try simp[gz, *])|refine gk fun _ _=>?_|refine gc ?_ ?_|exact gr _|refine gi fun _=>?_|(refine gn ?_ ?_;focus(intros;simp[*];done)))
      refine ⟨_, ⟨?_, _, rfl, ?_, _, rfl, rfl⟩, ?_⟩
      ·simp [Heap.set_get, *]
      ·simp [Heap.set_get, *]
      ·simp [aresult, Heap.set_get, *]
       exact hfi.out
  ·replace hz := hz.out
   rw [h2, if_pos rfl] at hz
   subst hz
   simp [gz, *]
   (focus repeat' first|refine ga ?_|(refine gb ?_;try simp[gz, *])|refine gk fun _ _=>?_)
   refine number_c s i b l (by omega) hs _ _ h0b.out lxb.out _ (fun k lk => ?_)
   obtain ⟨kb2, kb3⟩ := hBB.out _ lk.sub
   have lk2 := unb.out _ _ lk
   obtain ⟨t, ht⟩ : ∃ t, spanW s i = t := ⟨_, rfl⟩
   obtain ⟨v, hv⟩ : ∃ v, numbR t = v := ⟨_, rfl⟩
   rw [ht, hv] at hR ⊢
   clear lk hb2 hb3 hl ht hv
   by_cases hv2 : v.2 = 0
   ·rw [if_pos hv2] at hR ⊢
    have hfi := hR.out _ ((lk2.wr z2 n_b2_l (.cells [.int .i64 3, .int .i64 0, .str t, .int .i64 v.1, .bool false])).wr z3 n_b3_l (.cells Z28))
    replace hfi := Shut.mk hfi
    clear lk2 hv2
    simp [gz, *]
    (focus repeat' first|refine ga ?_|(refine gb ?_;try simp[gz, *])|refine gk fun _ _=>?_|refine gc ?_ ?_|exact gr _|refine gi fun _=>?_|(refine gn ?_ ?_;focus(intros;simp[*];done)))
    refine ⟨_, ⟨?_, _, rfl, ?_, _, rfl, rfl⟩, ?_⟩
    ·simp [Heap.set_get, *]
    ·simp [Heap.set_get, *]
    ·simp [aresult, Heap.set_get, *]
     exact hfi.out
   ·rw [if_neg hv2] at hR ⊢
    have hfi := hR.out _ ((lk2.wr z2 n_b2_l (.cells Z36)).wr z3 n_b3_l (.cells [.int .i64 v.2, .int .i64 i]))
    replace hfi := Shut.mk hfi
    clear lk2 hv2
    simp [gz, *]
    (focus repeat' first|refine ga ?_|(refine gb ?_;try simp[gz, *])|refine gk fun _ _=>?_|refine gc ?_ ?_|exact gr _|refine gi fun _=>?_|(refine gn ?_ ?_;focus(intros;simp[*];done)))
    refine ⟨_, ⟨?_, _, rfl, ?_, _, rfl, rfl⟩, ?_⟩
    ·simp [Heap.set_get, *]
    ·simp [Heap.set_get, *]
    ·simp [aresult, Heap.set_get, *]
     exact hfi.out
 ·replace hz := hz.out
  rw [h1, if_pos rfl] at hz
  subst hz
  simp [gz, *]
  (focus repeat' first|refine ga ?_|(refine gb ?_;try simp[gz, *])|refine gk fun _ _=>?_)
  refine lname_c s i b l (by omega) hs _ _ h0b.out lxb.out _ (fun k lk => ?_)
  obtain ⟨kb2, kb3⟩ := hBB.out _ lk.sub
  have lk2 := unb.out _ _ lk
  obtain ⟨t, ht⟩ : ∃ t, spanW s i = t := ⟨_, rfl⟩
  obtain ⟨kd, hkd⟩ : ∃ kd : Int, (if keyL t = true then 2 else 1) = kd := ⟨_, rfl⟩
  rw [ht, hkd] at hR ⊢
  have hfi := hR.out _ ((lk2.wr z2 n_b2_l (.cells [.int .i64 kd, .int .i64 0, .str t, .int .i64 0, .bool false])).wr z3 n_b3_l (.cells Z28))
  replace hfi := Shut.mk hfi
  clear lk lk2 hb2 hb3 hl ht hkd
  simp [gz, *]
  (focus repeat' first|refine ga ?_|(refine gb ?_;try simp[gz, *])|refine gk fun _ _=>?_|refine gc ?_ ?_|exact gr _|refine gi fun _=>?_|(refine gn ?_ ?_;focus(intros;simp[*];done)))
  refine ⟨_, ⟨?_, _, rfl, ?_, _, rfl, rfl⟩, ?_⟩
  ·simp [Heap.set_get, *]
  ·simp [Heap.set_get, *]
  ·simp [aresult, Heap.set_get, *]
   exact hfi.out
end Go.Proofs.YtcbgpjlcfkkdlaaGreatDoor

namespace Go.Proofs.YtcbgpjlcfkkdlaaGreatDoor
open Go Go.AL Go.Proofs
def unaryB : List UInt8 := [45, 32, 33, 32, 126, 32, 116, 121, 112, 101, 111, 102, 32, 99, 108, 111, 110, 101, 32, 114, 101, 115, 117, 109, 101, 32, 100, 101, 108, 101, 116, 101]
def assignB : List UInt8 := [61, 32, 60, 45, 32, 43, 61, 32, 45, 61, 32, 42, 61, 32, 47, 61, 32, 37, 61]
def stepB : List UInt8 := [43, 43, 32, 45, 45]
def binB : List UInt8 := [124, 124, 10, 38, 38, 10, 124, 10, 94, 10, 38, 10, 61, 61, 32, 33, 61, 32, 60, 61, 62, 10, 60, 32, 60, 61, 32, 62, 32, 62, 61, 32, 105, 110, 32, 105, 110, 115, 116, 97, 110, 99, 101, 111, 102, 10, 60, 60, 32, 62, 62, 32, 62, 62, 62, 10, 43, 32, 45, 10, 42, 32, 47, 32, 37]
theorem Assign_c (s : List UInt8) (h : Heap) (hg : h 0 = some .gint) (R : AV → Heap → Prop) (hR : R (.bool (amongL s assignB)) h) :
  ACalls Tryz.prog 67 [.str s] h R := by
 refine ACalls.pure ?_ hR
 clear hR
 refine acalls_of Tryz.func67 rfl Tryz.ntmps67 (congrArg Array.toList Tryz.results67) fun Q hQ => ?_
 (focus repeat' first|refine ga ?_|(refine gb ?_;try simp[gz, *])|refine gk fun _ _=>?_)
 refine among_c s assignB (by decide) _ hg _ ?_
 simp [gz, *]
 (focus repeat' first|refine ga ?_|(refine gb ?_;try simp[gz, *])|refine gk fun _ _=>?_|refine gc ?_ ?_|exact gr _|refine gi fun _=>?_|(refine gn ?_ ?_;focus(intros;simp[*];done)))
theorem Step_c (s : List UInt8) (h : Heap) (hg : h 0 = some .gint) (R : AV → Heap → Prop) (hR : R (.bool (amongL s stepB)) h) :
  ACalls Tryz.prog 68 [.str s] h R := by
 refine ACalls.pure ?_ hR
 clear hR
 refine acalls_of Tryz.func68 rfl Tryz.ntmps68 (congrArg Array.toList Tryz.results68) fun Q hQ => ?_
 (focus repeat' first|refine ga ?_|(refine gb ?_;try simp[gz, *])|refine gk fun _ _=>?_)
 refine among_c s stepB (by decide) _ hg _ ?_
 simp [gz, *]
 (focus repeat' first|refine ga ?_|(refine gb ?_;try simp[gz, *])|refine gk fun _ _=>?_|refine gc ?_ ?_|exact gr _|refine gi fun _=>?_|(refine gn ?_ ?_;focus(intros;simp[*];done)))
def linesB : List (List UInt8) := Lib.split binB [10]
def levelL (op : List UInt8) : Int := match linesB.findIdx? (fun l => decide (op ∈ Lib.split l [32])) with | some i => (i : Int) | none => -1
theorem lines_short : ∀ l ∈ linesB, l.length < 100 := by decide +kernel
theorem level_at {op : List UInt8} {i : Nat} (hi : i < linesB.length) (h : op ∈ Lib.split linesB[i] [32]) (hn : ∀ j, j < i → ∀ l, linesB[j]? = some l → op ∉ Lib.split l [32]) : levelL op = i := by
 have : linesB.findIdx? (fun l => decide (op ∈ Lib.split l [32])) = some i := by
  rw [List.findIdx?_eq_some_iff_getElem]
  refine ⟨hi, by simpa using h, fun j hj => ?_⟩
  have := hn j hj _ (List.getElem?_eq_getElem (by omega))
  simpa using this
 simp only [levelL, this]
theorem level_none {op : List UInt8} (hn : ∀ j, j < linesB.length → ∀ l, linesB[j]? = some l → op ∉ Lib.split l [32]) : levelL op = -1 := by
 have : linesB.findIdx? (fun l => decide (op ∈ Lib.split l [32])) = none := by
  rw [List.findIdx?_eq_none_iff]
  intro l hl
  obtain ⟨j, hj, rfl⟩ := List.getElem_of_mem hl
  have := hn j hj _ (List.getElem?_eq_getElem hj)
  simpa using this
 simp only [levelL, this]
theorem Level_c (op : List UInt8) (h : Heap) (hg : h 0 = some .gint) (R : AV → Heap → Prop) (hR : R (.int .i64 (levelL op)) h) : ACalls Tryz.prog 66 [.str op] h R := by
 refine ACalls.pure ?_ hR
 clear hR
 have hlen : linesB.length = 10 := by decide +kernel
 have hsp : Lib.split binB [10] = linesB := rfl
 refine acalls_of Tryz.func66 rfl Tryz.ntmps66 (congrArg Array.toList Tryz.results66) fun Q hQ => ?_
 (focus repeat' first|refine ga ?_|(refine gb ?_;try simp[gz, *])|refine gk fun _ _=>?_)
 refine Split_c binB [10] (by decide) (by decide) _ hg _ ?_
 simp [gz, *]
 (focus repeat' first|refine ga ?_|(refine gb ?_;try simp[gz, *])|refine gk fun _ _=>?_)
 refine awp_loop_h [2,3,4,7,8,9,10,11,12,13,14,15,16,17] (fun n x g => ∃ i : Nat, i ≤ linesB.length ∧ n = linesB.length - i ∧ x 7 = .int .i64 i ∧ (∀ j, j < i → ∀ l, linesB[j]? = some l → op ∉ Lib.split l [32]) ∧ g = h) linesB.length ⟨0, by omega, by omega, rfl, by simp, rfl⟩ (fun n x g hI K hK => ?_)
 obtain ⟨i, hi, rfl, hx, hn, rfl⟩ := hI
 have w1 : IntKind.i64.wrap ((i : Int) + 1) = i + 1 := w64 (by omega) (by omega)
 by_cases hlt : i < linesB.length
 ·have hs := lines_short linesB[i] (List.getElem_mem hlt)
  have hlt2 : i < 10 := by omega
  have hns := split_len linesB[i] [32] (by simp)
  simp (maxSteps := 10000000) only [AgainAt, hav_nil, hav_end, hav_cons, Nat.reduceAdd, Nat.reduceEqDiff, if_true, if_false]
  (focus repeat' first|refine ga ?_|(refine gb ?_;try simp[gz, *])|refine gk fun _ _=>?_|refine gc ?_ ?_|exact gr _|refine gi fun _=>?_|(refine gn ?_ ?_;focus(intros;simp[*];done)))
  refine Split_c _ [32] (by omega) (by decide) _ hg _ ?_
  simp [gz, *]
  refine Has_c _ op _ (by omega) _ _ ?_
  simp [gz, *]
  (focus repeat' first|refine ga ?_|(refine gb ?_;try simp[gz, *])|refine gk fun _ _=>?_|refine gc ?_ ?_|exact gr _|refine gi fun _=>?_|(refine gn ?_ ?_;focus(intros;simp[*];done)))
  ·refine ⟨(level_at hlt (by assumption) hn).symm, Sub.refl _⟩
  ·exact ⟨by simp [hav], rfl, linesB.length - (i + 1), _, by omega, Sub.refl _, i + 1, by omega, rfl, by simp, fun j hj l hl => by
    by_cases e : j < i
    ·exact hn j e l hl
    ·have : j = i := by omega
     subst this
     rw [List.getElem?_eq_getElem hlt] at hl
     rw [← Option.some.inj hl]; assumption, rfl⟩
 ·have hge : ¬ i < 10 := by omega
  simp (maxSteps := 10000000) only [AgainAt, hav_nil, hav_end, hav_cons, Nat.reduceAdd, Nat.reduceEqDiff, if_true, if_false]
  (focus repeat' first|refine ga ?_|(refine gb ?_;try simp[gz, *])|refine gk fun _ _=>?_|refine gc ?_ ?_|exact gr _|refine gi fun _=>?_|(refine gn ?_ ?_;focus(intros;simp[*];done)))
  refine ⟨(level_none fun j hj => hn j (by omega)).symm, Sub.refl _⟩
end Go.Proofs.YtcbgpjlcfkkdlaaGreatDoor

namespace Go.Proofs.YtcbgpjlcfkkdlaaGreatDoor
open Go Go.AL Go.Proofs
abbrev tkRow (t : Tk) : List AV := [.int .i64 t.kind, .int .i64 t.pos, .str t.text, .int .i64 t.num, .bool t.line]
abbrev rdRow (T : List Tk) (tt : Tok) (S : St) (t1 t2 : Tok) : List AV := [.list 5 (T.map tkRow) tt, .int .i64 S.idx, .int .i64 S.nest, .list 5 (S.nodes.map row) t1, .list 1 (ints S.deep) t2, .int .i64 S.fc, .int .i64 S.fa]
structure Rd (T : List Tk) (S : St) : Prop where
 pos : S.fc = 0 → S.idx < T.length
 top : S.idx ≤ T.length
 len : T.length ≤ 65537
 ne : 0 < T.length
 nl : S.nodes.length ≤ 131072
 last : (T.getD (T.length - 1) default).kind = 6
theorem ok_c (T : List Tk) (tt : Tok) (S : St) (t1 t2 : Tok) (r : Nat) (h : Heap) (hr : h r = some (.cells (rdRow T tt S t1 t2))) (R : AV → Heap → Prop) (hR : R (.bool (decide (S.fc = 0))) h) :
  ACalls Tryz.prog 20 [.ptr r 0] h R := by
 refine ACalls.pure ?_ hR
 clear hR
 refine acalls_of Tryz.func20 rfl Tryz.ntmps20 (congrArg Array.toList Tryz.results20) fun Q hQ => ?_
 (focus repeat' first|refine ga ?_|(refine gb ?_;try simp[gz, *])|refine gk fun _ _=>?_|refine gc ?_ ?_|exact gr _|refine gi fun _=>?_|(refine gn ?_ ?_;focus(intros;simp[*];done)))
 all_goals first
  | exact Sub.refl _
theorem peek_c (T : List Tk) (tt : Tok) (S : St) (t1 t2 : Tok) (r : Nat) (hv : Rd T S) (h : Heap) (hr : h r = some (.cells (rdRow T tt S t1 t2))) (R : AV → Heap → Prop) (hR : R (.agg (tkRow (peekL T S))) h) :
  ACalls Tryz.prog 21 [.ptr r 0] h R := by
 refine ACalls.pure ?_ hR
 clear hR
 have h1 := hv.len
 have h2 := hv.ne
 by_cases hf : S.fc = 0
 ·have h3 := hv.pos hf
  have hp : peekL T S = T[S.idx] := by unfold peekL; rw [if_pos hf]; simp [List.getD, h3]
  have hg : T[S.idx]? = some T[S.idx] := List.getElem?_eq_getElem h3
  rw [hp]
  obtain ⟨t, ht⟩ : ∃ t, T[S.idx] = t := ⟨_, rfl⟩
  rw [ht] at hg ⊢
  clear hp
  refine acalls_of Tryz.func21 rfl Tryz.ntmps21 (congrArg Array.toList Tryz.results21) fun Q hQ => ?_
  (focus repeat' first|refine ga ?_|(refine gb ?_;try simp[gz, *])|refine gk fun _ _=>?_)
  intro b2 hb2; simp only [Fresh, Heap.set_none] at hb2; have n_b2_r := ne_of_fresh hr (b := b2) (by simp [*]); try simp [gz, *]
  (focus repeat' first|refine ga ?_|(refine gb ?_;try simp[gz, *])|refine gk fun _ _=>?_)
  refine ok_c T tt S t1 t2 r _ (by simp [Heap.set_get, *]) _ ?_
  simp [gz, *]
  (focus repeat' first|refine ga ?_|(refine gb ?_;try simp[gz, *])|refine gk fun _ _=>?_)
  refine awp_region_stores [r] [0,1,2,4,5,6] [(3,true),(7,true),(8,true),(9,true)] [10] follows (by kernel_rfl) rfl (by kernel_rfl) ?_; simp [Heap.set_get, Heap.plus_set, evc_nil, evc_cons, estep, *]
  (focus repeat' first|refine ga ?_|(refine gb ?_;try simp[gz, *])|refine gk fun _ _=>?_)
  all_goals first
   | ((repeat (first | exact Sub.refl _ | refine Sub.loc ?_ (by simp [*]) _)); done)
 ·obtain ⟨m, hm⟩ : ∃ m : Nat, T.length = m + 1 := ⟨T.length - 1, by omega⟩
  have hml : m < T.length := by omega
  have hp : peekL T S = T[m] := by unfold peekL; rw [if_neg hf, show T.length - 1 = m by omega]; simp [List.getD, hml]
  have hg : T[m]? = some T[m] := List.getElem?_eq_getElem hml
  have w1 : IntKind.i64.wrap ((T.length : Int) - 1) = m := by rw [w64 (by omega) (by omega)]; omega
  have hm0 : ¬ (m : Int) < 0 := by omega
  have hm1 : ¬ (T.length : Int) ≤ m := by omega
  rw [hp]
  obtain ⟨t, ht⟩ : ∃ t, T[m] = t := ⟨_, rfl⟩
  rw [ht] at hg ⊢
  clear hp hm
  refine acalls_of Tryz.func21 rfl Tryz.ntmps21 (congrArg Array.toList Tryz.results21) fun Q hQ => ?_
  (focus repeat' first|refine ga ?_|(refine gb ?_;try simp[gz, *])|refine gk fun _ _=>?_)
  intro b2 hb2; simp only [Fresh, Heap.set_none] at hb2; have n_b2_r := ne_of_fresh hr (b := b2) (by simp [*]); try simp [gz, *]
  (focus repeat' first|refine ga ?_|(refine gb ?_;try simp[gz, *])|refine gk fun _ _=>?_)
  refine ok_c T tt S t1 t2 r _ (by simp [Heap.set_get, *]) _ ?_
  simp [gz, *]
  (focus repeat' first|refine ga ?_|(refine gb ?_;try simp[gz, *])|refine gk fun _ _=>?_)
  refine awp_region_stores [r] [0,1,2,4,5,6] [(3,true),(7,true),(8,true),(9,true),(10,true),(11,true)] [12] follows (by kernel_rfl) rfl (by kernel_rfl) ?_; simp [Heap.set_get, Heap.plus_set, evc_nil, evc_cons, estep, *]
  (focus repeat' first|refine ga ?_|(refine gb ?_;try simp[gz, *])|refine gk fun _ _=>?_)
  all_goals first
   | ((repeat (first | exact Sub.refl _ | refine Sub.loc ?_ (by simp [*]) _)); done)
theorem is_c (x : List UInt8) (T : List Tk) (tt : Tok) (S : St) (t1 t2 : Tok) (r : Nat) (hv : Rd T S) (h : Heap) (hr : h r = some (.cells (rdRow T tt S t1 t2))) (R : AV → Heap → Prop) (hR : R (.bool (isL T x S)) h) :
  ACalls Tryz.prog 46 [.ptr r 0, .str x] h R := by
 refine ACalls.pure ?_ hR
 clear hR
 refine acalls_of Tryz.func46 rfl Tryz.ntmps46 (congrArg Array.toList Tryz.results46) fun Q hQ => ?_
 (focus repeat' first|refine ga ?_|(refine gb ?_;try simp[gz, *])|refine gk fun _ _=>?_)
 refine peek_c T tt S t1 t2 r hv _ hr _ ?_
 obtain ⟨t, ht⟩ : ∃ t, peekL T S = t := ⟨_, rfl⟩
 have hi : isL T x S = ((decide (t.kind = 5) || decide (t.kind = 2)) && decide (t.text = x)) := by unfold isL; rw [ht]
 rw [ht]
 clear ht
 by_cases k5 : t.kind = 5
 ·simp [gz, *]
  intro b5 hb5; simp only [Fresh, Heap.set_none] at hb5; have n_b5_r := ne_of_fresh hr (b := b5) (by simp [*]); try simp [gz, *]
  (focus repeat' first|refine ga ?_|(refine gb ?_;try simp[gz, *])|refine gk fun _ _=>?_)
  all_goals first
   | ((repeat (first | exact Sub.refl _ | refine Sub.loc ?_ (by simp [*]) _)); done)
   | exact ⟨by simp [*], by (repeat (first | exact Sub.refl _ | refine Sub.loc ?_ (by simp [*]) _))⟩
 ·by_cases k2 : t.kind = 2
  ·simp [gz, *]
   intro b5 hb5; simp only [Fresh, Heap.set_none] at hb5; have n_b5_r := ne_of_fresh hr (b := b5) (by simp [*]); try simp [gz, *]
   (focus repeat' first|refine ga ?_|(refine gb ?_;try simp[gz, *])|refine gk fun _ _=>?_)
   all_goals first
    | ((repeat (first | exact Sub.refl _ | refine Sub.loc ?_ (by simp [*]) _)); done)
    | exact ⟨by simp [*], by (repeat (first | exact Sub.refl _ | refine Sub.loc ?_ (by simp [*]) _))⟩
  ·simp [gz, *]
   intro b5 hb5; simp only [Fresh, Heap.set_none] at hb5; have n_b5_r := ne_of_fresh hr (b := b5) (by simp [*]); try simp [gz, *]
   (focus repeat' first|refine ga ?_|(refine gb ?_;try simp[gz, *])|refine gk fun _ _=>?_)
   all_goals first
    | ((repeat (first | exact Sub.refl _ | refine Sub.loc ?_ (by simp [*]) _)); done)
    | exact ⟨by simp [*], by (repeat (first | exact Sub.refl _ | refine Sub.loc ?_ (by simp [*]) _))⟩
end Go.Proofs.YtcbgpjlcfkkdlaaGreatDoor

namespace Go.Proofs.YtcbgpjlcfkkdlaaGreatDoor
open Go Go.AL Go.Proofs
structure Own (B h : Heap) (T : List Tk) (tt : Tok) (S : St) (r : Nat) (t1 t2 : Tok) : Prop where
 sub : AL.Sub B h
 free : B r = none
 blk : h r = some (.cells (rdRow T tt S t1 t2))
 tk1 : TokIn h t1
 tk2 : TokIn h t2
 fr1 : ∀ q k e, t1 = .own q k e → B q = none
 fr2 : ∀ q k e, t2 = .own q k e → B q = none
 ap : ∀ q k e k' e', t1 = .own q k e → t2 = .own q k' e' → False
theorem tokIn_set {h : Heap} {t : Tok} {c : Nat} {x : Blk} (ht : TokIn h t) (hc : ∀ q k e, t = .own q k e → ¬ q = c) : TokIn (h.set c x) t := by
 cases t with
 | own b k e =>
  have h1 : h b = some (.spare k e) := ht
  show (h.set c x) b = _
  rw [Heap.set_other _ _ _ _ (hc _ _ _ rfl)]; exact h1
 | no => exact ht
 | nil => trivial
 | full => trivial
theorem tok_ne {h : Heap} {t : Tok} {c : Nat} (ht : TokIn h t) (hc : ∀ k e, h c ≠ some (.spare k e)) : ∀ q k e, t = .own q k e → ¬ q = c := fun q k e e1 e2 => by
 subst e1 e2
 exact hc _ _ ht
section
variable {B h : Heap} {T : List Tk} {tt : Tok} {S : St} {r : Nat} {t1 t2 : Tok}
theorem Own.ne (ho : Own B h T tt S r t1 t2) : (∀ q k e, t1 = .own q k e → ¬ q = r) ∧ (∀ q k e, t2 = .own q k e → ¬ q = r) :=
 ⟨tok_ne ho.tk1 (fun k e => by rw [ho.blk]; intro h; cases h), tok_ne ho.tk2 (fun k e => by rw [ho.blk]; intro h; cases h)⟩
theorem Own.put (ho : Own B h T tt S r t1 t2) (S' : St) : Own B (h.set r (.cells (rdRow T tt S' t1 t2))) T tt S' r t1 t2 :=
 ⟨ho.sub.loc ho.free _, ho.free, Heap.set_same _ _ _, tokIn_set ho.tk1 ho.ne.1, tokIn_set ho.tk2 ho.ne.2, ho.fr1, ho.fr2, ho.ap⟩
theorem Own.new (ho : Own B h T tt S r t1 t2) {b : Nat} (hb : h b = none) (x : Blk) : Own (B.set b x) (h.set b x) T tt S r t1 t2 := by
 have hbr : ¬ r = b := fun e => by rw [← e, ho.blk] at hb; cases hb
 have hBb : ∀ q, B q = none → ¬ q = b → (B.set b x) q = none := fun q h1 h2 => by rw [Heap.set_other _ _ _ _ h2]; exact h1
 have n1 : ∀ q k e, t1 = .own q k e → ¬ q = b := tok_ne ho.tk1 fun k e => by rw [hb]; intro h; cases h
 have n2 : ∀ q k e, t2 = .own q k e → ¬ q = b := tok_ne ho.tk2 fun k e => by rw [hb]; intro h; cases h
 exact ⟨ho.sub.upd b x, hBb _ ho.free hbr, by rw [Heap.set_other _ _ _ _ hbr]; exact ho.blk, tokIn_set ho.tk1 n1, tokIn_set ho.tk2 n2, fun q k e q1 => hBb _ (ho.fr1 _ _ _ q1) (n1 _ _ _ q1), fun q k e q1 => hBb _ (ho.fr2 _ _ _ q1) (n2 _ _ _ q1), ho.ap⟩
theorem Own.weak {B0 : Heap} (ho : Own B h T tt S r t1 t2) (hs : AL.Sub B0 B) : Own B0 h T tt S r t1 t2 := by
 have hn : ∀ q, B q = none → B0 q = none := fun q h1 => by
  cases e : B0 q with
  | none => rfl
  | some x => rw [hs _ _ e] at h1; cases h1
 exact ⟨hs.trans ho.sub, hn _ ho.free, ho.blk, ho.tk1, ho.tk2, fun q k e q1 => hn _ (ho.fr1 _ _ _ q1), fun q k e q1 => hn _ (ho.fr2 _ _ _ q1), ho.ap⟩
theorem Own.isNone (ho : Own B h T tt S r t1 t2) {b : Nat} (hb : h b = none) : B b = none := by
 cases e : B b with
 | none => rfl
 | some x => rw [ho.sub _ _ e] at hb; cases hb
theorem Own.drop {g : Heap} {b : Nat} {x : Blk} (ho : Own (B.set b x) g T tt S r t1 t2) (hb : B b = none) : Own B g T tt S r t1 t2 := ho.weak ((Sub.refl B).loc hb x)
end
theorem eat_c (x : List UInt8) (T : List Tk) (tt : Tok) (S : St) (t1 t2 : Tok) (r : Nat) (hv : Rd T S) (B h : Heap) (ho : Own B h T tt S r t1 t2) (R : AV → Heap → Prop) (hR : ∀ g, Own B g T tt (eatL T x S).2 r t1 t2 → R (.bool (eatL T x S).1) g) :
  ACalls Tryz.prog 48 [.ptr r 0, .str x] h R := by
 have hr := ho.blk
 have h1 := hv.top
 have h2 := hv.len
 have w1 : IntKind.i64.wrap ((S.idx : Int) + 1) = (S.idx : Int) + 1 := w64 (by omega) (by omega)
 refine acalls_of Tryz.func48 rfl Tryz.ntmps48 (congrArg Array.toList Tryz.results48) fun Q hQ => ?_
 (focus repeat' first|refine ga ?_|(refine gb ?_;try simp[gz, *])|refine gk fun _ _=>?_)
 refine is_c x T tt S t1 t2 r hv _ hr _ ?_
 cases hi : isL T x S
 ·have he : eatL T x S = (false, S) := by unfold eatL; rw [hi]; rfl
  rw [he] at hR
  simp [gz, *]
  (focus repeat' first|refine ga ?_|(refine gb ?_;try simp[gz, *])|refine gk fun _ _=>?_)
  all_goals first
   | exact hR _ ho
 ·have he : eatL T x S = (true, stepL S) := by unfold eatL; rw [hi]; rfl
  rw [he] at hR
  replace hR := Shut.mk hR
  simp [gz, *]
  (focus repeat' first|refine ga ?_|(refine gb ?_;try simp[gz, *])|refine gk fun _ _=>?_)
  all_goals first
   | exact hR.out _ (ho.put (stepL S))
theorem wrong_c (e : Int) (T : List Tk) (tt : Tok) (S : St) (t1 t2 : Tok) (r : Nat) (hv : Rd T S) (B h : Heap) (ho : Own B h T tt S r t1 t2) (R : AV → Heap → Prop) (hR : ∀ g, Own B g T tt (wrongL T e S) r t1 t2 → R (.tup []) g) :
  ACalls Tryz.prog 52 [.ptr r 0, .int .i64 e] h R := by
 have hr := ho.blk
 by_cases hf : S.fc = 0
 ·have he : wrongL T e S = { S with fc := e, fa := (peekL T S).pos } := by unfold wrongL; rw [if_pos hf]
  rw [he] at hR
  replace hR := Shut.mk hR
  refine acalls_of Tryz.func52 rfl Tryz.ntmps52 (congrArg Array.toList Tryz.results52) fun Q hQ => ?_
  (focus repeat' first|refine ga ?_|(refine gb ?_;try simp[gz, *])|refine gk fun _ _=>?_)
  refine peek_c T tt S t1 t2 r hv _ hr _ ?_
  simp [gz, *]
  (focus repeat' first|refine ga ?_|(refine gb ?_;try simp[gz, *])|refine gk fun _ _=>?_)
  all_goals first
   | exact hR.out _ (ho.put { S with fc := e, fa := (peekL T S).pos })
 ·have he : wrongL T e S = S := by unfold wrongL; rw [if_neg hf]
  rw [he] at hR
  replace hR := Shut.mk hR
  refine acalls_of Tryz.func52 rfl Tryz.ntmps52 (congrArg Array.toList Tryz.results52) fun Q hQ => ?_
  (focus repeat' first|refine ga ?_|(refine gb ?_;try simp[gz, *])|refine gk fun _ _=>?_)
  all_goals first
   | exact hR.out _ ho
end Go.Proofs.YtcbgpjlcfkkdlaaGreatDoor

namespace Go.Proofs.YtcbgpjlcfkkdlaaGreatDoor
open Go Go.AL Go.Proofs
theorem Rd.step {T : List Tk} {S : St} (hv : Rd T S) (hk : ¬ (peekL T S).kind = 6) : S.fc = 0 ∧ Rd T (stepL S) := by
 by_cases hf : S.fc = 0
 ·have h3 := hv.pos hf
  have hn : ¬ S.idx = T.length - 1 := fun e => hk (by unfold peekL; rw [if_pos hf, e]; exact hv.last)
  refine ⟨hf, ⟨fun _ => ?_, ?_, hv.len, hv.ne, hv.nl, hv.last⟩⟩
  ·show S.idx + 1 < T.length
   omega
  ·show S.idx + 1 ≤ T.length
   omega
 ·exact absurd (by unfold peekL; rw [if_neg hf]; exact hv.last) hk
theorem isL_kind {T : List Tk} {S : St} {x : List UInt8} (h : isL T x S = true) : ¬ (peekL T S).kind = 6 := by
 intro e
 unfold isL at h
 rw [e] at h
 simp at h
theorem Rd.wrong {T : List Tk} {S : St} (hv : Rd T S) {e : Int} (he : ¬ e = 0) : Rd T (wrongL T e S) := by
 unfold wrongL
 split
 ·exact ⟨fun q => absurd q he, hv.top, hv.len, hv.ne, hv.nl, hv.last⟩
 ·exact hv
theorem Rd.eat {T : List Tk} {S : St} (hv : Rd T S) (x : List UInt8) : Rd T (eatL T x S).2 := by
 unfold eatL
 split
 ·rename_i h; exact (hv.step (isL_kind h)).2
 ·exact hv
theorem Rd.must {T : List Tk} {S : St} (hv : Rd T S) (x : List UInt8) : Rd T (mustL T x S) := by
 unfold mustL
 split
 ·rename_i h; exact (hv.step (isL_kind h)).2
 ·exact hv.wrong (by decide)
theorem Rd.nest {T : List Tk} {S : St} (hv : Rd T S) (n : Int) : Rd T { S with nest := n } := ⟨hv.pos, hv.top, hv.len, hv.ne, hv.nl, hv.last⟩
theorem Rd.down {T : List Tk} {S : St} (hv : Rd T S) : Rd T (downL T S) := by
 unfold downL
 simp only
 split
 ·exact (hv.nest _).wrong (by decide)
 ·exact hv.nest _
theorem Rd.up {T : List Tk} {S : St} (hv : Rd T S) : Rd T (upL S) := hv.nest _
theorem Rd.name {T : List Tk} {S : St} (hv : Rd T S) : Rd T (nameR T S).2 := by
 unfold nameR
 split
 ·rename_i h; exact (hv.step (by rw [h]; decide)).2
 ·exact hv.wrong (by decide)
theorem must_c (x : List UInt8) (T : List Tk) (tt : Tok) (S : St) (t1 t2 : Tok) (r : Nat) (hv : Rd T S) (B h : Heap) (ho : Own B h T tt S r t1 t2) (R : AV → Heap → Prop) (hR : ∀ g, Own B g T tt (mustL T x S) r t1 t2 → R (.tup []) g) :
  ACalls Tryz.prog 84 [.ptr r 0, .str x] h R := by
 refine acalls_of Tryz.func84 rfl Tryz.ntmps84 (congrArg Array.toList Tryz.results84) fun Q hQ => ?_
 (focus repeat' first|refine ga ?_|(refine gb ?_;try simp[gz, *])|refine gk fun _ _=>?_)
 refine eat_c x T tt S t1 t2 r hv B _ ho _ (fun g ho2 => ?_)
 cases hi : isL T x S
 ·have he : eatL T x S = (false, S) := by unfold eatL; rw [hi]; rfl
  have hm : mustL T x S = wrongL T 5 S := by unfold mustL; rw [hi]; rfl
  rw [he] at ho2 ⊢
  rw [hm] at hR
  replace hR := Shut.mk hR
  simp [gz, *]
  (focus repeat' first|refine ga ?_|(refine gb ?_;try simp[gz, *])|refine gk fun _ _=>?_)
  refine wrong_c 5 T tt S t1 t2 r hv B _ ho2 _ (fun g2 ho3 => ?_)
  simp [gz, *]
  (focus repeat' first|refine ga ?_|(refine gb ?_;try simp[gz, *])|refine gk fun _ _=>?_)
  all_goals first
   | exact hR.out _ ho3
 ·have he : eatL T x S = (true, stepL S) := by unfold eatL; rw [hi]; rfl
  have hm : mustL T x S = stepL S := by unfold mustL; rw [hi]; rfl
  rw [he] at ho2 ⊢
  rw [hm] at hR
  replace hR := Shut.mk hR
  simp [gz, *]
  (focus repeat' first|refine ga ?_|(refine gb ?_;try simp[gz, *])|refine gk fun _ _=>?_)
  all_goals first
   | exact hR.out _ ho2
theorem down_c (T : List Tk) (tt : Tok) (S : St) (t1 t2 : Tok) (r : Nat) (hv : Rd T S) (B h : Heap) (ho : Own B h T tt S r t1 t2) (R : AV → Heap → Prop) (hR : ∀ g, Own B g T tt (downL T S) r t1 t2 → R (.tup []) g) :
  ACalls Tryz.prog 43 [.ptr r 0] h R := by
 have hr := ho.blk
 obtain ⟨m, hm⟩ : ∃ m, IntKind.i64.wrap (S.nest + 1) = m := ⟨_, rfl⟩
 have ho2 := ho.put { S with nest := m }
 by_cases hd : 60 < m
 ·have he : downL T S = wrongL T 6 { S with nest := m } := by unfold downL; simp only [hm]; exact if_pos hd
  rw [he] at hR
  replace hR := Shut.mk hR
  refine acalls_of Tryz.func43 rfl Tryz.ntmps43 (congrArg Array.toList Tryz.results43) fun Q hQ => ?_
  (focus repeat' first|refine ga ?_|(refine gb ?_;try simp[gz, *])|refine gk fun _ _=>?_)
  refine wrong_c 6 T tt { S with nest := m } t1 t2 r (hv.nest m) B _ ho2 _ (fun g2 ho3 => ?_)
  simp [gz, *]
  (focus repeat' first|refine ga ?_|(refine gb ?_;try simp[gz, *])|refine gk fun _ _=>?_)
  all_goals first
   | exact hR.out _ ho3
 ·have he : downL T S = { S with nest := m } := by unfold downL; simp only [hm]; exact if_neg hd
  rw [he] at hR
  replace hR := Shut.mk hR
  refine acalls_of Tryz.func43 rfl Tryz.ntmps43 (congrArg Array.toList Tryz.results43) fun Q hQ => ?_
  (focus repeat' first|refine ga ?_|(refine gb ?_;try simp[gz, *])|refine gk fun _ _=>?_)
  all_goals first
   | exact hR.out _ ho2
theorem up_c (T : List Tk) (tt : Tok) (S : St) (t1 t2 : Tok) (r : Nat) (B h : Heap) (ho : Own B h T tt S r t1 t2) (R : AV → Heap → Prop) (hR : ∀ g, Own B g T tt (upL S) r t1 t2 → R (.tup []) g) :
  ACalls Tryz.prog 44 [.ptr r 0] h R := by
 have hr := ho.blk
 have ho2 := ho.put (upL S)
 replace hR := Shut.mk hR
 refine acalls_of Tryz.func44 rfl Tryz.ntmps44 (congrArg Array.toList Tryz.results44) fun Q hQ => ?_
 (focus repeat' first|refine ga ?_|(refine gb ?_;try simp[gz, *])|refine gk fun _ _=>?_)
 all_goals first
  | exact hR.out _ ho2
theorem up_d (T : List Tk) (tt : Tok) (S : St) (t1 t2 : Tok) (r : Nat) (B h : Heap) (ho : Own B h T tt S r t1 t2) (R : AV → Heap → Prop) (hR : ∀ g, Own B g T tt (upL S) r t1 t2 → R (.tup []) g) :
  ACallsD Tryz.prog 44 [.ptr r 0] h R := by
 have hr := ho.blk
 have ho2 := ho.put (upL S)
 replace hR := Shut.mk hR
 refine acallsD_of_awp Tryz.func44 rfl Tryz.ntmps44 (congrArg Array.toList Tryz.results44) ?_
 simp only [List.length_cons, List.length_nil, Nat.reduceAdd, Nat.reduceSub, List.replicate, List.cons_append, List.nil_append]
 (focus repeat' first|refine ga ?_|(refine gb ?_;try simp[gz, *])|refine gk fun _ _=>?_)
 all_goals first
  | exact hR.out _ ho2
end Go.Proofs.YtcbgpjlcfkkdlaaGreatDoor

