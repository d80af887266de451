import Derived.Test.YtcbgpjlcfkkdlaaGreatDoorUBG
import Derived.Test.YtcbgpjlcfkkdlaaGreatDoorUBH
import Derived.Test.YtcbgpjlcfkkdlaaGreatDoorUAV
import Derived.Test.YtcbgpjlcfkkdlaaGreatDoorUAL
set_option linter.unusedSimpArgs false
set_option linter.unusedVariables false
set_option maxRecDepth 100000
set_option maxHeartbeats 16000000
namespace Go.Proofs.YtcbgpjlcfkkdlaaGreatDoor
open Go Go.AL Go.Proofs
def rowsT (z : List Nd × Int × Int) : List (List AV) := if z.2.1 = 0 then z.1.map row else []
def tokT (z : List Nd × Int × Int) : Tok := if z.2.1 = 0 then .no else .nil
theorem parseAV_eq (z : List Nd × Int × Int) : parseAV z = .tup [.agg [.list 5 (rowsT z) (tokT z)], .agg [.int .i64 z.2.1, .int .i64 z.2.2]] := by
 unfold parseAV rowsT tokT
 split <;> rfl
theorem code_c (s : List UInt8) (hs : s.length ≤ 3300) (h : Heap) (h0 : h 0 = some .gint) (R : AV → Heap → Prop) (hR : R (.agg [.int .i64 (parseT s).2.1, .int .i64 (parseT s).2.2]) h) : ACalls Tryz.prog 19 [.str s] h R := by
 refine ACalls.pure ?_ hR
 clear hR
 refine acalls_of Tryz.func19 rfl Tryz.ntmps19 (congrArg Array.toList Tryz.results19) fun Q hQ => ?_
 (focus repeat' first|refine ga ?_|(refine gb ?_;try simp[gz, *])|refine gk fun _ _=>?_)
 intro b1 hb1; simp only [Fresh, Heap.set_none] at hb1; try simp [gz, *]
 (focus repeat' first|refine ga ?_|(refine gb ?_;try simp[gz, *])|refine gk fun _ _=>?_)
 refine Parse_c s hs _ (gint_set hb1 h0) _ ?_
 rw [parseAV_eq]
 obtain ⟨z, hz⟩ : ∃ z, parseT s = z := ⟨_, rfl⟩
 rw [hz]
 replace hz := Shut.mk hz
 simp [gz, *]
 (focus repeat' first|refine ga ?_|(refine gb ?_;try simp[gz, *])|refine gk fun _ _=>?_)
 intro b2 hb2
 simp only [Fresh, Heap.set_none] at hb2
 obtain ⟨n12, n21, hb2⟩ := hb2
 try simp [gz, *]
 (focus repeat' first|refine ga ?_|(refine gb ?_;try simp[gz, *])|refine gk fun _ _=>?_)
 intro b3 hb3
 simp only [Fresh, Heap.set_none] at hb3
 obtain ⟨n13, n31, n23, n32, hb3⟩ := hb3
 try simp [gz, *]
 (focus repeat' first|refine ga ?_|(refine gb ?_;try simp[gz, *])|refine gk fun _ _=>?_)
 rw [hz.out]
 exact ⟨⟨rfl, rfl⟩, by (repeat (first | exact Sub.refl _ | refine Sub.loc ?_ (by simp [*]) _))⟩
theorem reads_c (h : Heap) (h0 : h 0 = some .gint) (R : AV → Heap → Prop) (hR : R (.bool true) h) : ACalls Tryz.prog 8 [] h R := by
 refine ACalls.pure ?_ hR
 clear hR
 refine acalls_of Tryz.func8 rfl Tryz.ntmps8 (congrArg Array.toList Tryz.results8) fun Q hQ => ?_
 (focus repeat' first|refine ga ?_|(refine gb ?_;try simp[gz, *])|refine gk fun _ _=>?_)
 refine Parse_c src1 (by decide) _ h0 _ ?_
 rw [ev1]
 obtain ⟨N, hN⟩ : ∃ N, nodes1 = N := ⟨_, rfl⟩
 have hc : checkL N = ((0 : Int), (0 : Int)) := by rw [← hN]; exact ev1c
 have hok : ∀ n ∈ N, NdOk n := by rw [← hN]; exact ok1
 have hl : N.length = 31 := by rw [← hN]; rfl
 obtain ⟨q30, g30⟩ : (∃ q : 30 < N.length, N[30] = ⟨26, 0, [], 0, [14, 20, 29]⟩) := ⟨by omega, by subst hN; rfl⟩
 obtain ⟨q14, g14⟩ : (∃ q : 14 < N.length, N[14] = ⟨28, 0, [], 0, [13]⟩) := ⟨by omega, by subst hN; rfl⟩
 obtain ⟨q13, g13⟩ : (∃ q : 13 < N.length, N[13] = ⟨12, 0, [60, 45], 0, [1, 12]⟩) := ⟨by omega, by subst hN; rfl⟩
 obtain ⟨q12, g12⟩ : (∃ q : 12 < N.length, N[12] = ⟨20, 0, [102], 2, [2, 4, 11]⟩) := ⟨by omega, by subst hN; rfl⟩
 rw [hN]
 clear hN
 replace hok := Shut.mk hok
 replace hc := Shut.mk hc
 show _ ∧ _
 simp only [parseAV, if_true]
 simp [gz, *]
 (focus repeat' first|refine ga ?_|(refine gb ?_;try simp[gz, *])|refine gk fun _ _=>?_)
 intro b1 hb1; simp only [Fresh, Heap.set_none] at hb1; try simp [gz, *]
 (focus repeat' first|refine ga ?_|(refine gb ?_;try simp[gz, *])|refine gk fun _ _=>?_)
 intro b2 hb2; simp only [Fresh, Heap.set_none] at hb2; obtain ⟨qb20, qb21, hb2⟩ := hb2; try simp [gz, *]
 (focus repeat' first|refine ga ?_|(refine gb ?_;try simp[gz, *])|refine gk fun _ _=>?_)
 refine Check_c N .no hok.out (by omega) _ ((show AL.Sub h _ by (repeat (first | exact Sub.refl _ | refine Sub.loc ?_ (by simp [*]) _))) _ _ h0) _ ?_
 rw [hc.out]
 simp [gz, *]
 (focus repeat' first|refine ga ?_|(refine gb ?_;try simp[gz, *])|refine gk fun _ _=>?_)
 refine awp_heap (fun g => g b1 = some (.cells [.list 5 (N.map row) .no]) ∧ AL.Sub h g) ⟨by simp [Heap.set_get, *], by (repeat (first | exact Sub.refl _ | refine Sub.loc ?_ (by simp [*]) _))⟩ (fun H hH => ?_)
 obtain ⟨H1, hsH⟩ := hH
 clear hb1 hb2 qb20 qb21
 have H0 := hsH _ _ h0
 replace hsH := Shut.mk hsH
 clear h0
 refine awp_region_pair2 [b1] [(0, true), (1, true), (2, true)] 3 [(4, true), (5, true), (6, false)] 6 [(3, false), (4, true), (5, true)] [7] follows (by kernel_rfl) rfl (by kernel_rfl) ?_
 simp [Heap.set_get, Heap.plus_set, *]
 refine ⟨?A, ?B⟩
 case' A =>
  refine Root_c N .no (by omega) _ _ ?_
  simp [Heap.set_get, Heap.plus_set, *]
  intro b3 hb3
  simp only [Fresh] at hb3
  simp [Heap.set_get, Heap.plus_set, *]
  intro n13
  have n31 : ¬ b3 = b1 := fun e => n13 e.symm
  have z3 : H b3 = none := by simpa [n31] using hb3
  clear hb3
  simp [Heap.set_get, Heap.plus_set, *]
 case' B =>
  intro b3 hb3
  simp only [Fresh] at hb3
  simp [Heap.set_get, Heap.plus_set, *]
  intro n13
  have n31 : ¬ b3 = b1 := fun e => n13 e.symm
  have z3 : H b3 = none := by simpa [n31] using hb3
  clear hb3
  simp [Heap.set_get, Heap.plus_set, *]
  refine Root_c N .no (by omega) _ _ ?_
  simp [Heap.set_get, Heap.plus_set, *]
 all_goals
  (focus repeat' first|refine ga ?_|(refine gb ?_;try simp[gz, *])|refine gk fun _ _=>?_)
  refine awp_region_draw [b1, b3] [(0,true),(1,true),(2,true),(3,true),(4,true),(5,true),(6,true),(7,true),(8,true),(9,true),(10,true),(11,true),(12,true),(13,true),(14,true),(15,false)] [16] follows (by kernel_rfl) rfl (by kernel_rfl) ?_; simp [gz, Heap.plus_set, *]
  intro b4 hb4
  simp only [Fresh] at hb4
  simp [Heap.set_get, Heap.plus_set, *]
  intro n14 n34
  have n41 : ¬ b4 = b1 := fun e => n14 e.symm
  have n43 : ¬ b4 = b3 := fun e => n34 e.symm
  have z4 : H b4 = none := by simpa [Heap.set_get, n41, n43, n14, n34] using hb4
  clear hb4
  simp [Heap.set_get, Heap.plus_set, *]
  refine Keep.go (by assumption) ?_
  refine awp_heap (fun g => g b1 = some (.cells [.list 5 (N.map row) .no]) ∧ g b4 = some (.cells [.int .i64 12, .int .i64 0, .str [60, 45], .int .i64 0, .list 1 [[.int .i64 1], [.int .i64 12]] .no]) ∧ AL.Sub H g) ⟨by simp [Heap.set_get, *], by simp [Heap.set_get, *], ?_⟩ (fun H' hH' => ?_)
  ·exact ((Sub.refl H).loc z3 _).loc z4 _
  obtain ⟨G1, G4, hsG⟩ := hH'
  clear n14 n34 n41 n43 z4 z3 n13 n31
  have G0 := hsG _ _ H0
  have m1 : ¬ 0 = b1 := fun e => by rw [← e, G0] at G1; cases G1
  have m4 : ¬ 0 = b4 := fun e => by rw [← e, G0] at G4; cases G4
  have M0 : (H'.minus [b1, b4]) 0 = some .gint := by rw [Heap.minus_get, if_neg (by simp [m1, m4])]; exact G0
  replace hsG := Shut.mk hsG
  clear H0 H1
  (focus repeat' first|refine ga ?_|(refine gb ?_;try simp[gz, *])|refine gk fun _ _=>?_)
  refine awp_region_draw [b1, b4] [(0,true),(1,true),(2,true),(3,true),(4,true),(5,true),(6,true),(7,true),(8,true),(9,true),(10,true),(11,true),(12,true),(13,true),(14,true),(15,true),(16,true),(17,true),(18,true),(19,true),(20,true),(21,true),(22,true),(23,true),(24,true),(25,true),(26,true),(27,true),(28,true),(29,true),(30,true),(31,true),(32,true),(34,true),(33,false),(35,true),(36,true),(37,true),(39,true),(38,false),(40,true),(41,true),(42,true),(44,true),(43,false),(45,true),(46,true),(47,true),(48,false),(49,true),(50,true),(51,true),(52,true),(53,false),(54,false),(55,true),(56,true),(57,true),(58,true),(59,true)] [60] follows (by kernel_rfl) rfl (by kernel_rfl) ?_; simp [gz, Heap.plus_set, *]
  refine code_c [120, 32, 61, 32] (by decide) _ M0 _ ?_
  rw [show (parseT [120, 32, 61, 32]).2.1 = _ from congrArg Prod.fst ev2, show (parseT [120, 32, 61, 32]).2.2 = _ from congrArg Prod.snd ev2]
  simp [Heap.set_get, Heap.plus_set, *]
  refine code_c [49, 32, 61, 32, 120] (by decide) _ M0 _ ?_
  rw [show (parseT [49, 32, 61, 32, 120]).2.1 = _ from congrArg Prod.fst ev3, show (parseT [49, 32, 61, 32, 120]).2.2 = _ from congrArg Prod.snd ev3]
  simp [Heap.set_get, Heap.plus_set, *]
  refine code_c [120, 32, 121] (by decide) _ M0 _ ?_
  rw [show (parseT [120, 32, 121]).2.1 = _ from congrArg Prod.fst ev4, show (parseT [120, 32, 121]).2.2 = _ from congrArg Prod.snd ev4]
  simp [Heap.set_get, Heap.plus_set, *]
  refine code_c [120, 10, 121] (by decide) _ M0 _ ?_
  rw [ev5]
  simp [Heap.set_get, Heap.plus_set, *]
  refine Repeat_c [40] 99 (by decide) (by decide) _ _ ?_
  simp [Heap.set_get, Heap.plus_set, *]
  refine code_c (Lib.repeatL [40] 99) (by decide) _ M0 _ ?_
  rw [ev6]
  simp [Heap.set_get, Heap.plus_set, *]
  (focus repeat' first|refine ga ?_|(refine gb ?_;try simp[gz, *])|refine gk fun _ _=>?_)
  exact hsH.out.trans hsG.out
end Go.Proofs.YtcbgpjlcfkkdlaaGreatDoor

namespace Go.Proofs.YtcbgpjlcfkkdlaaGreatDoor
open Go Go.AL Go.Proofs
theorem joins_wrap {x y z : Nat} (hx : x ≤ 281474976710) (hy : y ≤ 281474976710) (h : z = x + y ∨ z = x + y + 1) : (z : Int) = IntKind.i64.wrap ((x : Int) + y) ∨ (z : Int) = IntKind.i64.wrap (IntKind.i64.wrap ((x : Int) + y) + 1) := by
 rw [w64 (n := (x : Int) + y) (by omega) (by omega), w64 (by omega) (by omega)]
 omega
theorem ParseJoins_c (a b : List UInt8) (ha0 : a.length ≤ 9223372036854775807) (hb0 : b.length ≤ 9223372036854775807) (h : Heap) (h0 : h 0 = some .gint) (R : AV → Heap → Prop) (hR : R (.bool true) h) : ACalls Tryz.prog 5 [.str a, .str b] h R := by
 refine ACalls.pure ?_ hR
 clear hR
 by_cases ha : (1500 : Int) < a.length
 ·skip
  refine acalls_of Tryz.func5 rfl Tryz.ntmps5 (congrArg Array.toList Tryz.results5) fun Q hQ => ?_
  (focus repeat' first|refine ga ?_|(refine gb ?_;try simp[gz, *])|refine gk fun _ _=>?_)
  refine reads_c _ h0 _ ?_
  simp [gz, *]
  (focus repeat' first|refine ga ?_|(refine gb ?_;try simp[gz, *])|refine gk fun _ _=>?_|refine gc ?_ ?_|exact gr _|refine gi fun _=>?_|(refine gn ?_ ?_;focus(intros;simp[*];done)))
 by_cases hb : (1500 : Int) < b.length
 ·skip
  refine acalls_of Tryz.func5 rfl Tryz.ntmps5 (congrArg Array.toList Tryz.results5) fun Q hQ => ?_
  (focus repeat' first|refine ga ?_|(refine gb ?_;try simp[gz, *])|refine gk fun _ _=>?_)
  refine reads_c _ h0 _ ?_
  simp [gz, *]
  (focus repeat' first|refine ga ?_|(refine gb ?_;try simp[gz, *])|refine gk fun _ _=>?_|refine gc ?_ ?_|exact gr _|refine gi fun _=>?_|(refine gn ?_ ?_;focus(intros;simp[*];done)))
 have hla : a.length ≤ 1500 := by omega
 have hlb : b.length ≤ 1500 := by omega
 have pa := Parse_c a (by omega)
 have pb := Parse_c b (by omega)
 have pz := Parse_c (a ++ 10 :: 59 :: b) (by simp only [List.length_append, List.length_cons]; omega)
 rw [parseAV_eq] at pa pb pz
 have hj := joins_plain hla hlb
 obtain ⟨x, hx⟩ : ∃ x, parseT a = x := ⟨_, rfl⟩
 obtain ⟨y, hy⟩ : ∃ x, parseT b = x := ⟨_, rfl⟩
 obtain ⟨z, hz⟩ : ∃ x, parseT (a ++ 10 :: 59 :: b) = x := ⟨_, rfl⟩
 have px := (parse_ok a (by omega)).good
 have py := (parse_ok b (by omega)).good
 have pzz := (parse_ok (a ++ 10 :: 59 :: b) (by simp only [List.length_append, List.length_cons]; omega)).good
 rw [hx] at pa hj px
 rw [hy] at pb hj py
 rw [hz] at pz hj pzz
 obtain ⟨xs, f, fa⟩ := x
 obtain ⟨ys, g, ga'⟩ := y
 obtain ⟨zs, k, ka⟩ := z
 simp only at pa pb pz hj px py pzz
 clear hx hy hz
 replace pa := Shut.mk pa
 replace pb := Shut.mk pb
 replace pz := Shut.mk pz
 by_cases hf : f = 0
 ·by_cases hg : g = 0
  ·have hj := hj hf hg
   by_cases hk : k = 0
   ·obtain ⟨X, Y, Z, lx, ly, lz, ex, ey, ez, hl⟩ : ∃ X Y Z lx ly lz, xs = X ++ [(⟨26, 0, [], 0, lx⟩ : Nd)] ∧ ys = Y ++ [(⟨26, 0, [], 0, ly⟩ : Nd)] ∧ zs = Z ++ [(⟨26, 0, [], 0, lz⟩ : Nd)] ∧ (lz.length = lx.length + ly.length ∨ lz.length = lx.length + ly.length + 1) := by
     rcases hj with q | ⟨-, q⟩
     ·rw [hk] at q; exact absurd q (by decide)
     ·exact q
    have nx := (px hf).2.2.1
    have ny := (py hg).2.2.1
    have nz := (pzz hk).2.2.1
    have kx : lx.length ≤ 281474976710 := ((px hf).2.1 ⟨26, 0, [], 0, lx⟩ (by rw [ex]; simp)).2
    have ky : ly.length ≤ 281474976710 := ((py hg).2.1 ⟨26, 0, [], 0, ly⟩ (by rw [ey]; simp)).2
    have kz : lz.length ≤ 281474976710 := ((pzz hk).2.1 ⟨26, 0, [], 0, lz⟩ (by rw [ez]; simp)).2
    have gx : xs[X.length]? = some ⟨26, 0, [], 0, lx⟩ := by rw [ex]; simp
    have gy : ys[Y.length]? = some ⟨26, 0, [], 0, ly⟩ := by rw [ey]; simp
    have gz' : zs[Z.length]? = some ⟨26, 0, [], 0, lz⟩ := by rw [ez]; simp
    have lx1 : xs.length = X.length + 1 := by rw [ex]; simp
    have ly1 : ys.length = Y.length + 1 := by rw [ey]; simp
    have lz1 : zs.length = Z.length + 1 := by rw [ez]; simp
    clear ex ey ez hj px py pzz
    subst hf hg hk
    rw [rowsT, if_pos rfl, tokT, if_pos rfl] at pa pb pz
    obtain ⟨qx, gx2⟩ := List.getElem?_eq_some_iff.1 gx
    obtain ⟨qy, gy2⟩ := List.getElem?_eq_some_iff.1 gy
    obtain ⟨qz, gz2⟩ := List.getElem?_eq_some_iff.1 gz'
    refine acalls_of Tryz.func5 rfl Tryz.ntmps5 (congrArg Array.toList Tryz.results5) fun Q hQ => ?_
    (focus repeat' first|refine ga ?_|(refine gb ?_;try simp[gz, *])|refine gk fun _ _=>?_)
    refine reads_c _ h0 _ ?_
    simp [gz, *]
    (focus repeat' first|refine ga ?_|(refine gb ?_;try simp[gz, *])|refine gk fun _ _=>?_)
    refine pa.out _ h0 _ ?_
    simp [gz, *]
    (focus repeat' first|refine ga ?_|(refine gb ?_;try simp[gz, *])|refine gk fun _ _=>?_)
    intro b3 hb3; simp only [Fresh, Heap.set_none] at hb3; try simp [gz, *]
    (focus repeat' first|refine ga ?_|(refine gb ?_;try simp[gz, *])|refine gk fun _ _=>?_)
    intro b4 hb4; simp only [Fresh, Heap.set_none] at hb4; obtain ⟨qb40, qb41, hb4⟩ := hb4; try simp [gz, *]
    (focus repeat' first|refine ga ?_|(refine gb ?_;try simp[gz, *])|refine gk fun _ _=>?_)
    refine pb.out _ ((show AL.Sub h _ by (repeat (first | exact Sub.refl _ | refine Sub.loc ?_ (by simp [*]) _))) _ _ h0) _ ?_
    simp [gz, *]
    (focus repeat' first|refine ga ?_|(refine gb ?_;try simp[gz, *])|refine gk fun _ _=>?_)
    intro b5 hb5; simp only [Fresh, Heap.set_none] at hb5; obtain ⟨qb50, qb51, qb52, qb53, hb5⟩ := hb5; try simp [gz, *]
    (focus repeat' first|refine ga ?_|(refine gb ?_;try simp[gz, *])|refine gk fun _ _=>?_)
    intro b6 hb6; simp only [Fresh, Heap.set_none] at hb6; obtain ⟨qb60, qb61, qb62, qb63, qb64, qb65, hb6⟩ := hb6; try simp [gz, *]
    (focus repeat' first|refine ga ?_|(refine gb ?_;try simp[gz, *])|refine gk fun _ _=>?_)
    refine pz.out _ ((show AL.Sub h _ by (repeat (first | exact Sub.refl _ | refine Sub.loc ?_ (by simp [*]) _))) _ _ h0) _ ?_
    simp [gz, *]
    (focus repeat' first|refine ga ?_|(refine gb ?_;try simp[gz, *])|refine gk fun _ _=>?_)
    intro b7 hb7; simp only [Fresh, Heap.set_none] at hb7; obtain ⟨qb70, qb71, qb72, qb73, qb74, qb75, qb76, qb77, hb7⟩ := hb7; try simp [gz, *]
    (focus repeat' first|refine ga ?_|(refine gb ?_;try simp[gz, *])|refine gk fun _ _=>?_)
    intro b8 hb8; simp only [Fresh, Heap.set_none] at hb8; obtain ⟨qb80, qb81, qb82, qb83, qb84, qb85, qb86, qb87, qb88, qb89, hb8⟩ := hb8; try simp [gz, *]
    (focus repeat' first|refine ga ?_|(refine gb ?_;try simp[gz, *])|refine gk fun _ _=>?_)
    refine awp_heap (fun H => H b3 = some (.cells [.list 5 (xs.map row) .no]) ∧ H b5 = some (.cells [.list 5 (ys.map row) .no]) ∧ H b7 = some (.cells [.list 5 (zs.map row) .no]) ∧ AL.Sub h H) ⟨by simp [Heap.set_get, *], by simp [Heap.set_get, *], by simp [Heap.set_get, *], by (repeat (first | exact Sub.refl _ | refine Sub.loc ?_ (by simp [*]) _))⟩ (fun H hH => ?_)
    obtain ⟨H1, H2, H3, hsH⟩ := hH
    refine awp_region_draw [b3,b5,b7] [(0,true),(1,true),(2,true),(8,true),(9,true),(10,true),(16,true),(17,true),(18,true),(3,false),(4,true),(5,true),(6,true),(7,true),(11,false),(12,true),(13,true),(14,true),(15,true),(19,false),(20,true),(21,true),(22,true),(23,true),(24,true),(25,true)] [26] follows (by kernel_rfl) rfl (by kernel_rfl) ?_; simp [gz, Heap.plus_set, *]
    refine Root_c xs .no (by omega) _ _ ?_
    simp [gz, Heap.plus_set, *]
    refine Root_c ys .no (by omega) _ _ ?_
    simp [gz, Heap.plus_set, *]
    refine Root_c zs .no (by omega) _ _ ?_
    simp [gz, Heap.plus_set, *]
    (focus repeat' first|refine ga ?_|(refine gb ?_;try simp[gz, *])|refine gk fun _ _=>?_)
    exact joins_wrap kx ky hl
   ·have hk2 : k = 2 := by
     rcases hj with q | ⟨q, -⟩
     ·exact q
     ·exact absurd q hk
    clear hj px py pzz
    subst hk2 hf hg
    skip
    refine acalls_of Tryz.func5 rfl Tryz.ntmps5 (congrArg Array.toList Tryz.results5) fun Q hQ => ?_
    (focus repeat' first|refine ga ?_|(refine gb ?_;try simp[gz, *])|refine gk fun _ _=>?_)
    refine reads_c _ h0 _ ?_
    simp [gz, *]
    (focus repeat' first|refine ga ?_|(refine gb ?_;try simp[gz, *])|refine gk fun _ _=>?_)
    refine pa.out _ h0 _ ?_
    simp [gz, *]
    (focus repeat' first|refine ga ?_|(refine gb ?_;try simp[gz, *])|refine gk fun _ _=>?_)
    intro b3 hb3; simp only [Fresh, Heap.set_none] at hb3; try simp [gz, *]
    (focus repeat' first|refine ga ?_|(refine gb ?_;try simp[gz, *])|refine gk fun _ _=>?_)
    intro b4 hb4; simp only [Fresh, Heap.set_none] at hb4; obtain ⟨qb40, qb41, hb4⟩ := hb4; try simp [gz, *]
    (focus repeat' first|refine ga ?_|(refine gb ?_;try simp[gz, *])|refine gk fun _ _=>?_)
    refine pb.out _ ((show AL.Sub h _ by (repeat (first | exact Sub.refl _ | refine Sub.loc ?_ (by simp [*]) _))) _ _ h0) _ ?_
    simp [gz, *]
    (focus repeat' first|refine ga ?_|(refine gb ?_;try simp[gz, *])|refine gk fun _ _=>?_)
    intro b5 hb5; simp only [Fresh, Heap.set_none] at hb5; obtain ⟨qb50, qb51, qb52, qb53, hb5⟩ := hb5; try simp [gz, *]
    (focus repeat' first|refine ga ?_|(refine gb ?_;try simp[gz, *])|refine gk fun _ _=>?_)
    intro b6 hb6; simp only [Fresh, Heap.set_none] at hb6; obtain ⟨qb60, qb61, qb62, qb63, qb64, qb65, hb6⟩ := hb6; try simp [gz, *]
    (focus repeat' first|refine ga ?_|(refine gb ?_;try simp[gz, *])|refine gk fun _ _=>?_)
    refine pz.out _ ((show AL.Sub h _ by (repeat (first | exact Sub.refl _ | refine Sub.loc ?_ (by simp [*]) _))) _ _ h0) _ ?_
    simp [gz, *]
    (focus repeat' first|refine ga ?_|(refine gb ?_;try simp[gz, *])|refine gk fun _ _=>?_)
    intro b7 hb7; simp only [Fresh, Heap.set_none] at hb7; obtain ⟨qb70, qb71, qb72, qb73, qb74, qb75, qb76, qb77, hb7⟩ := hb7; try simp [gz, *]
    (focus repeat' first|refine ga ?_|(refine gb ?_;try simp[gz, *])|refine gk fun _ _=>?_)
    intro b8 hb8; simp only [Fresh, Heap.set_none] at hb8; obtain ⟨qb80, qb81, qb82, qb83, qb84, qb85, qb86, qb87, qb88, qb89, hb8⟩ := hb8; try simp [gz, *]
    (focus repeat' first|refine ga ?_|(refine gb ?_;try simp[gz, *])|refine gk fun _ _=>?_)
    (repeat (first | exact Sub.refl _ | refine Sub.loc ?_ (by simp [*]) _))
  ·clear hj px py pzz
   subst hf
   refine acalls_of Tryz.func5 rfl Tryz.ntmps5 (congrArg Array.toList Tryz.results5) fun Q hQ => ?_
   (focus repeat' first|refine ga ?_|(refine gb ?_;try simp[gz, *])|refine gk fun _ _=>?_)
   refine reads_c _ h0 _ ?_
   simp [gz, *]
   (focus repeat' first|refine ga ?_|(refine gb ?_;try simp[gz, *])|refine gk fun _ _=>?_)
   refine pa.out _ h0 _ ?_
   simp [gz, *]
   (focus repeat' first|refine ga ?_|(refine gb ?_;try simp[gz, *])|refine gk fun _ _=>?_)
   intro b3 hb3; simp only [Fresh, Heap.set_none] at hb3; try simp [gz, *]
   (focus repeat' first|refine ga ?_|(refine gb ?_;try simp[gz, *])|refine gk fun _ _=>?_)
   intro b4 hb4; simp only [Fresh, Heap.set_none] at hb4; obtain ⟨qb40, qb41, hb4⟩ := hb4; try simp [gz, *]
   (focus repeat' first|refine ga ?_|(refine gb ?_;try simp[gz, *])|refine gk fun _ _=>?_)
   refine pb.out _ ((show AL.Sub h _ by (repeat (first | exact Sub.refl _ | refine Sub.loc ?_ (by simp [*]) _))) _ _ h0) _ ?_
   simp [gz, *]
   (focus repeat' first|refine ga ?_|(refine gb ?_;try simp[gz, *])|refine gk fun _ _=>?_)
   intro b5 hb5; simp only [Fresh, Heap.set_none] at hb5; obtain ⟨qb50, qb51, qb52, qb53, hb5⟩ := hb5; try simp [gz, *]
   (focus repeat' first|refine ga ?_|(refine gb ?_;try simp[gz, *])|refine gk fun _ _=>?_)
   intro b6 hb6; simp only [Fresh, Heap.set_none] at hb6; obtain ⟨qb60, qb61, qb62, qb63, qb64, qb65, hb6⟩ := hb6; try simp [gz, *]
   (focus repeat' first|refine ga ?_|(refine gb ?_;try simp[gz, *])|refine gk fun _ _=>?_)
   refine pz.out _ ((show AL.Sub h _ by (repeat (first | exact Sub.refl _ | refine Sub.loc ?_ (by simp [*]) _))) _ _ h0) _ ?_
   simp [gz, *]
   (focus repeat' first|refine ga ?_|(refine gb ?_;try simp[gz, *])|refine gk fun _ _=>?_)
   intro b7 hb7; simp only [Fresh, Heap.set_none] at hb7; obtain ⟨qb70, qb71, qb72, qb73, qb74, qb75, qb76, qb77, hb7⟩ := hb7; try simp [gz, *]
   (focus repeat' first|refine ga ?_|(refine gb ?_;try simp[gz, *])|refine gk fun _ _=>?_)
   intro b8 hb8; simp only [Fresh, Heap.set_none] at hb8; obtain ⟨qb80, qb81, qb82, qb83, qb84, qb85, qb86, qb87, qb88, qb89, hb8⟩ := hb8; try simp [gz, *]
   (focus repeat' first|refine ga ?_|(refine gb ?_;try simp[gz, *])|refine gk fun _ _=>?_)
   (repeat (first | exact Sub.refl _ | refine Sub.loc ?_ (by simp [*]) _))
 ·clear hj px py pzz
  refine acalls_of Tryz.func5 rfl Tryz.ntmps5 (congrArg Array.toList Tryz.results5) fun Q hQ => ?_
  (focus repeat' first|refine ga ?_|(refine gb ?_;try simp[gz, *])|refine gk fun _ _=>?_)
  refine reads_c _ h0 _ ?_
  simp [gz, *]
  (focus repeat' first|refine ga ?_|(refine gb ?_;try simp[gz, *])|refine gk fun _ _=>?_)
  refine pa.out _ h0 _ ?_
  simp [gz, *]
  (focus repeat' first|refine ga ?_|(refine gb ?_;try simp[gz, *])|refine gk fun _ _=>?_)
  intro b3 hb3; simp only [Fresh, Heap.set_none] at hb3; try simp [gz, *]
  (focus repeat' first|refine ga ?_|(refine gb ?_;try simp[gz, *])|refine gk fun _ _=>?_)
  intro b4 hb4; simp only [Fresh, Heap.set_none] at hb4; obtain ⟨qb40, qb41, hb4⟩ := hb4; try simp [gz, *]
  (focus repeat' first|refine ga ?_|(refine gb ?_;try simp[gz, *])|refine gk fun _ _=>?_)
  refine pb.out _ ((show AL.Sub h _ by (repeat (first | exact Sub.refl _ | refine Sub.loc ?_ (by simp [*]) _))) _ _ h0) _ ?_
  simp [gz, *]
  (focus repeat' first|refine ga ?_|(refine gb ?_;try simp[gz, *])|refine gk fun _ _=>?_)
  intro b5 hb5; simp only [Fresh, Heap.set_none] at hb5; obtain ⟨qb50, qb51, qb52, qb53, hb5⟩ := hb5; try simp [gz, *]
  (focus repeat' first|refine ga ?_|(refine gb ?_;try simp[gz, *])|refine gk fun _ _=>?_)
  intro b6 hb6; simp only [Fresh, Heap.set_none] at hb6; obtain ⟨qb60, qb61, qb62, qb63, qb64, qb65, hb6⟩ := hb6; try simp [gz, *]
  (focus repeat' first|refine ga ?_|(refine gb ?_;try simp[gz, *])|refine gk fun _ _=>?_)
  refine pz.out _ ((show AL.Sub h _ by (repeat (first | exact Sub.refl _ | refine Sub.loc ?_ (by simp [*]) _))) _ _ h0) _ ?_
  simp [gz, *]
  (focus repeat' first|refine ga ?_|(refine gb ?_;try simp[gz, *])|refine gk fun _ _=>?_)
  intro b7 hb7; simp only [Fresh, Heap.set_none] at hb7; obtain ⟨qb70, qb71, qb72, qb73, qb74, qb75, qb76, qb77, hb7⟩ := hb7; try simp [gz, *]
  (focus repeat' first|refine ga ?_|(refine gb ?_;try simp[gz, *])|refine gk fun _ _=>?_)
  intro b8 hb8; simp only [Fresh, Heap.set_none] at hb8; obtain ⟨qb80, qb81, qb82, qb83, qb84, qb85, qb86, qb87, qb88, qb89, hb8⟩ := hb8; try simp [gz, *]
  (focus repeat' first|refine ga ?_|(refine gb ?_;try simp[gz, *])|refine gk fun _ _=>?_)
  (repeat (first | exact Sub.refl _ | refine Sub.loc ?_ (by simp [*]) _))
end Go.Proofs.YtcbgpjlcfkkdlaaGreatDoor

