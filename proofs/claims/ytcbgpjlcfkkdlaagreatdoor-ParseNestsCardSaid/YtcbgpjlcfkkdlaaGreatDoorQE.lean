import Derived.Test.YtcbgpjlcfkkdlaaGreatDoorQBJ
set_option linter.unusedSimpArgs false
set_option linter.unusedVariables false
set_option maxRecDepth 100000
set_option maxHeartbeats 16000000
namespace Go.Proofs.YtcbgpjlcfkkdlaaGreatDoor
open Go Go.AL Go.Proofs
def nestS (d : Nat) : List UInt8 := Lib.repeatL [40] d ++ [120] ++ Lib.repeatL [41] d
def par (x : UInt8) : Nat → Nat → List Tk
  | _, 0 => []
  | i, k + 1 => ⟨5, i, [x], 0, false⟩ :: par x (i + 1) k
def toks (d : Nat) : List Tk := par 40 0 d ++ [⟨1, d, [120], 0, false⟩] ++ par 41 (d + 1) d ++ [⟨6, (2 * d + 1 : Nat), [], 0, false⟩]
theorem rep_cons (c : UInt8) (k : Nat) : Lib.repeatL [c] (k + 1) = c :: Lib.repeatL [c] k := rfl
theorem gap_no (s : List UInt8) (n i : Nat) (c : UInt8) (rest : List UInt8) (h : s.drop i = c :: rest) (hc : c = 40 ∨ c = 41 ∨ c = 120) : gapR s (n + 1) i false = (none, i, false) := by
  have hi : i < s.length := by
    have : (s.drop i).length = s.length - i := List.length_drop
    rw [h, List.length_cons] at this
    omega
  have hg : s.getD i 0 = c := by
    have h2 : (s.drop i)[0]? = s[i]? := by rw [List.getElem?_drop, Nat.add_zero]
    rw [h] at h2
    simp [List.getD, ← h2]
  simp only [gapR, if_pos hi, hg, h]
  rcases hc with rfl | rfl | rfl <;> rfl
theorem next_par (s : List UInt8) (i : Nat) (c : UInt8) (rest : List UInt8) (h : s.drop i = c :: rest) (hc : c = 40 ∨ c = 41) : nextR s i = (tokRes 5 [c] 0, i + 1) := by
  have hg : s.getD i 0 = c := by
    have h2 : (s.drop i)[0]? = s[i]? := by rw [List.getElem?_drop, Nat.add_zero]
    rw [h] at h2
    simp [List.getD, ← h2]
  unfold nextR
  rw [hg, h]
  rcases hc with rfl | rfl <;> rfl
theorem next_x (s : List UInt8) (i : Nat) (rest : List UInt8) (h : s.drop i = 120 :: rest) (hr : rest = [] ∨ ∃ q, rest = 41 :: q) : nextR s i = (tokRes 1 [120] 0, i + 1) := by
  have hg : s.getD i 0 = 120 := by
    have h2 : (s.drop i)[0]? = s[i]? := by rw [List.getElem?_drop, Nat.add_zero]
    rw [h] at h2
    simp [List.getD, ← h2]
  have hw : wspan s i = 1 := by unfold wspan; rw [h]; rcases hr with rfl | ⟨q, rfl⟩ <;> rfl
  have hs : spanW s i = [120] := by unfold spanW; rw [hw, h]; rfl
  unfold nextR
  rw [hg, hs, hw, if_pos (by decide), if_neg (show ¬ keyL [120] = true by decide)]
theorem scan_one (s : List UInt8) (n i : Nat) (out : List Tk) (c : UInt8) (rest : List UInt8) (k : Int) (h : s.drop i = c :: rest) (hc : c = 40 ∨ c = 41 ∨ c = 120) (hn : nextR s i = (tokRes k [c] 0, i + 1)) (ho : out.length < 65536) :
    scanR s (n + 1) i false out = scanR s n (i + 1) false (out ++ [⟨k, i, [c], 0, false⟩]) := by
  have hi : i < s.length := by
    have : (s.drop i).length = s.length - i := List.length_drop
    rw [h, List.length_cons] at this
    omega
  obtain ⟨m, hm⟩ : ∃ m, s.length - i = m + 1 := ⟨s.length - i - 1, by omega⟩
  simp only [scanR, hm, gap_no s m i c rest h hc, hn]
  rw [if_neg (by omega), if_neg (by omega)]
  rfl
theorem scan_pars (s : List UInt8) (c : UInt8) (hc : c = 40 ∨ c = 41) (rest : List UInt8) : ∀ (d n i : Nat) (out : List Tk), s.drop i = Lib.repeatL [c] d ++ rest → out.length + d ≤ 65536 →
    scanR s (n + d) i false out = scanR s n (i + d) false (out ++ par c i d)
  | 0, n, i, out, h, ho => by simp [par]
  | d + 1, n, i, out, h, ho => by
    rw [rep_cons, List.cons_append] at h
    have h2 : s.drop (i + 1) = Lib.repeatL [c] d ++ rest := by
      have : (s.drop i).drop 1 = s.drop (i + 1) := by rw [List.drop_drop]
      rw [← this, h]; rfl
    rw [← Nat.add_assoc, scan_one s (n + d) i out c _ 5 h (by rcases hc with e | e <;> simp [e]) (next_par s i c _ h hc) (by omega), scan_pars s c hc rest d n (i + 1) _ h2 (by simp; omega)]
    simp [par, Nat.add_comm, Nat.add_left_comm]
theorem nestS_len (d : Nat) : (nestS d).length = 2 * d + 1 := by
  unfold nestS
  rw [List.length_append, List.length_append, Lib.repeatL_length, Lib.repeatL_length]
  simp; omega
theorem scan_nest (d : Nat) (hd : d ≤ 200) : scanT (nestS d) = .inl (toks d) := by
  unfold scanT
  rw [nestS_len]
  have e1 : (nestS d).drop 0 = Lib.repeatL [40] d ++ ([120] ++ Lib.repeatL [41] d) := by rw [List.drop_zero]; unfold nestS; rw [List.append_assoc]
  have hl : (Lib.repeatL [40] d).length = d := by rw [Lib.repeatL_length]; simp
  have hl2 : (Lib.repeatL [41] d).length = d := by rw [Lib.repeatL_length]; simp
  have hpl : ∀ (c : UInt8) (i k : Nat), (par c i k).length = k := by
    intro c i k
    induction k generalizing i with
    | zero => rfl
    | succ k ih => simp [par, ih]
  have e2 : (nestS d).drop d = 120 :: Lib.repeatL [41] d := by
    have : ((nestS d).drop 0).drop d = (nestS d).drop d := by rw [List.drop_drop, Nat.zero_add]
    rw [← this, e1, List.drop_left' hl]; rfl
  have e3 : (nestS d).drop (d + 1) = Lib.repeatL [41] d ++ [] := by
    have : ((nestS d).drop d).drop 1 = (nestS d).drop (d + 1) := by rw [List.drop_drop]
    rw [← this, e2]; simp
  have hx := next_x (nestS d) d _ e2 (by cases d with | zero => exact .inl rfl | succ k => exact .inr ⟨_, rep_cons 41 k⟩)
  rw [show 2 * d + 1 + 1 = (d + 2) + d from by omega, scan_pars (nestS d) 40 (.inl rfl) _ d (d + 2) 0 [] e1 (by simp; omega), Nat.zero_add, List.nil_append,
    scan_one (nestS d) (d + 1) d _ 120 _ 1 e2 (by simp) hx (by rw [hpl]; omega), show d + 1 = 1 + d from Nat.add_comm _ _, ← Nat.add_comm d 1,
    show scanR (nestS d) (d + 1) (d + 1) false = scanR (nestS d) (1 + d) (d + 1) false from by rw [Nat.add_comm d 1], scan_pars (nestS d) 41 (.inr rfl) [] d 1 (d + 1) _ e3 (by simp [hpl]; omega)]
  have hz : (nestS d).length - (d + 1 + d) = 0 := by rw [nestS_len]; omega
  simp only [scanR, hz, gapR]
  rw [if_pos (by rw [nestS_len]; omega)]
  unfold toks
  rw [show d + 1 + d = 2 * d + 1 from by omega]
end Go.Proofs.YtcbgpjlcfkkdlaaGreatDoor

namespace Go.Proofs.YtcbgpjlcfkkdlaaGreatDoor
open Go Go.AL Go.Proofs
def parseK (T : List Tk) (len : Int) : List Nd × Int × Int := match run T fuel0 (.top []) S00 with
    | none => ([], 0, 0)
    | some (kids, S1) =>
      if (addL T 26 0 [] 0 kids S1).2.fc = 0 then
        (if (checkL (addL T 26 0 [] 0 kids S1).2.nodes).1 = 0 then ((addL T 26 0 [] 0 kids S1).2.nodes, 0, 0) else ([], (checkL (addL T 26 0 [] 0 kids S1).2.nodes).1, len))
      else ([], (addL T 26 0 [] 0 kids S1).2.fc, (addL T 26 0 [] 0 kids S1).2.fa)
theorem parseT_of {s : List UInt8} {T : List Tk} (h : scanT s = .inl T) : parseT s = parseK T s.length := by unfold parseT parseK; rw [h]; rfl
def nestG (d : Nat) (z : List Nd × Int × Int) : Bool := match z with
  | (ns, c, a) => if c = 0 then decide (d < 60) && decide (ns.length = 3) else decide (58 ≤ d) && decide (c = 6) && decide (58 ≤ a) && decide (a ≤ 60)
def nestOk (d : Nat) : Bool := nestG d (parseK (toks d) (2 * d + 1))
def nestAll : Nat → Nat → Bool
  | _, 0 => true
  | a, k + 1 => nestOk a && nestAll (a + 1) k
theorem nestAll_out : ∀ (k a : Nat), nestAll a k = true → ∀ d, a ≤ d → d < a + k → nestOk d = true
  | 0, _, _ => fun d h1 h2 => by omega
  | k + 1, a, h => fun d h1 h2 => by
      simp only [nestAll, Bool.and_eq_true] at h
      rcases Nat.eq_or_lt_of_le h1 with h3 | h3
      · rw [← h3]; exact h.1
      · exact nestAll_out k (a + 1) h.2 d h3 (by omega)
set_option maxHeartbeats 0 in
theorem nests_0 : nestAll 0 10 = true := by decide +kernel
set_option maxHeartbeats 0 in
theorem nests_10 : nestAll 10 10 = true := by decide +kernel
set_option maxHeartbeats 0 in
theorem nests_20 : nestAll 20 10 = true := by decide +kernel
set_option maxHeartbeats 0 in
theorem nests_30 : nestAll 30 4 = true := by decide +kernel
set_option maxHeartbeats 0 in
theorem nests_34 : nestAll 34 4 = true := by decide +kernel
set_option maxHeartbeats 0 in
theorem nests_38 : nestAll 38 4 = true := by decide +kernel
set_option maxHeartbeats 0 in
theorem nests_42 : nestAll 42 4 = true := by decide +kernel
set_option maxHeartbeats 0 in
theorem nests_46 : nestAll 46 4 = true := by decide +kernel
set_option maxHeartbeats 0 in
theorem nests_50 : nestAll 50 4 = true := by decide +kernel
set_option maxHeartbeats 0 in
theorem nests_54 : nestAll 54 4 = true := by decide +kernel
set_option maxHeartbeats 0 in
theorem nests_58 : nestAll 58 4 = true := by decide +kernel
set_option maxHeartbeats 0 in
theorem nests_62 : nestAll 62 2 = true := by decide +kernel
theorem nests1 (d : Nat) (h0 : 0 ≤ d) (hd : d < 64) : nestOk d = true := by
  by_cases h_0 : d < 10
  · exact nestAll_out 10 0 nests_0 d (by omega) (by omega)
  by_cases h10 : d < 20
  · exact nestAll_out 10 10 nests_10 d (by omega) (by omega)
  by_cases h20 : d < 30
  · exact nestAll_out 10 20 nests_20 d (by omega) (by omega)
  by_cases h30 : d < 34
  · exact nestAll_out 4 30 nests_30 d (by omega) (by omega)
  by_cases h34 : d < 38
  · exact nestAll_out 4 34 nests_34 d (by omega) (by omega)
  by_cases h38 : d < 42
  · exact nestAll_out 4 38 nests_38 d (by omega) (by omega)
  by_cases h42 : d < 46
  · exact nestAll_out 4 42 nests_42 d (by omega) (by omega)
  by_cases h46 : d < 50
  · exact nestAll_out 4 46 nests_46 d (by omega) (by omega)
  by_cases h50 : d < 54
  · exact nestAll_out 4 50 nests_50 d (by omega) (by omega)
  by_cases h54 : d < 58
  · exact nestAll_out 4 54 nests_54 d (by omega) (by omega)
  by_cases h58 : d < 62
  · exact nestAll_out 4 58 nests_58 d (by omega) (by omega)
  by_cases h62 : d < 64
  · exact nestAll_out 2 62 nests_62 d (by omega) (by omega)
  omega
end Go.Proofs.YtcbgpjlcfkkdlaaGreatDoor

namespace Go.Proofs.YtcbgpjlcfkkdlaaGreatDoor
open Go Go.AL Go.Proofs
set_option maxHeartbeats 0 in
theorem nests_64 : nestAll 64 10 = true := by decide +kernel
set_option maxHeartbeats 0 in
theorem nests_74 : nestAll 74 10 = true := by decide +kernel
set_option maxHeartbeats 0 in
theorem nests_84 : nestAll 84 10 = true := by decide +kernel
set_option maxHeartbeats 0 in
theorem nests_94 : nestAll 94 10 = true := by decide +kernel
set_option maxHeartbeats 0 in
theorem nests_104 : nestAll 104 10 = true := by decide +kernel
set_option maxHeartbeats 0 in
theorem nests_114 : nestAll 114 10 = true := by decide +kernel
set_option maxHeartbeats 0 in
theorem nests_124 : nestAll 124 10 = true := by decide +kernel
theorem nests2 (d : Nat) (h0 : 64 ≤ d) (hd : d < 134) : nestOk d = true := by
  by_cases h64 : d < 74
  · exact nestAll_out 10 64 nests_64 d (by omega) (by omega)
  by_cases h74 : d < 84
  · exact nestAll_out 10 74 nests_74 d (by omega) (by omega)
  by_cases h84 : d < 94
  · exact nestAll_out 10 84 nests_84 d (by omega) (by omega)
  by_cases h94 : d < 104
  · exact nestAll_out 10 94 nests_94 d (by omega) (by omega)
  by_cases h104 : d < 114
  · exact nestAll_out 10 104 nests_104 d (by omega) (by omega)
  by_cases h114 : d < 124
  · exact nestAll_out 10 114 nests_114 d (by omega) (by omega)
  by_cases h124 : d < 134
  · exact nestAll_out 10 124 nests_124 d (by omega) (by omega)
  omega
end Go.Proofs.YtcbgpjlcfkkdlaaGreatDoor

namespace Go.Proofs.YtcbgpjlcfkkdlaaGreatDoor
open Go Go.AL Go.Proofs
set_option maxHeartbeats 0 in
theorem nests_134 : nestAll 134 10 = true := by decide +kernel
set_option maxHeartbeats 0 in
theorem nests_144 : nestAll 144 10 = true := by decide +kernel
set_option maxHeartbeats 0 in
theorem nests_154 : nestAll 154 10 = true := by decide +kernel
set_option maxHeartbeats 0 in
theorem nests_164 : nestAll 164 10 = true := by decide +kernel
set_option maxHeartbeats 0 in
theorem nests_174 : nestAll 174 10 = true := by decide +kernel
set_option maxHeartbeats 0 in
theorem nests_184 : nestAll 184 10 = true := by decide +kernel
set_option maxHeartbeats 0 in
theorem nests_194 : nestAll 194 7 = true := by decide +kernel
theorem nests3 (d : Nat) (h0 : 134 ≤ d) (hd : d < 201) : nestOk d = true := by
  by_cases h134 : d < 144
  · exact nestAll_out 10 134 nests_134 d (by omega) (by omega)
  by_cases h144 : d < 154
  · exact nestAll_out 10 144 nests_144 d (by omega) (by omega)
  by_cases h154 : d < 164
  · exact nestAll_out 10 154 nests_154 d (by omega) (by omega)
  by_cases h164 : d < 174
  · exact nestAll_out 10 164 nests_164 d (by omega) (by omega)
  by_cases h174 : d < 184
  · exact nestAll_out 10 174 nests_174 d (by omega) (by omega)
  by_cases h184 : d < 194
  · exact nestAll_out 10 184 nests_184 d (by omega) (by omega)
  by_cases h194 : d < 201
  · exact nestAll_out 7 194 nests_194 d (by omega) (by omega)
  omega
theorem nests_ok (d : Nat) (hd : d < 201) : nestG d (parseT (nestS d)) = true := by
  rw [parseT_of (scan_nest d (by omega)), nestS_len]
  show nestG d (parseK (toks d) ((2 * d + 1 : Nat) : Int)) = true
  rw [show ((2 * d + 1 : Nat) : Int) = 2 * d + 1 from by omega]
  show nestOk d = true
  by_cases h1 : d < 64
  · exact nests1 d (by omega) h1
  · by_cases h2 : d < 134
    · exact nests2 d (by omega) h2
    · exact nests3 d (by omega) (by omega)
end Go.Proofs.YtcbgpjlcfkkdlaaGreatDoor

namespace Go.Proofs.YtcbgpjlcfkkdlaaGreatDoor
open Go Go.AL Go.Proofs
theorem ParseNests_c (d : Int) (h : Heap) (h0 : h 0 = some .gint) (R : AV → Heap → Prop) (hR : R (.bool true) h) : ACalls Tryz.prog 6 [.int .i64 d] h R := by
  refine ACalls.pure ?_ hR
  clear hR
  by_cases hs1 : d < 0
  · refine acalls_of Tryz.func6 rfl Tryz.ntmps6 (congrArg Array.toList Tryz.results6) fun Q hQ => ?_
    (focus repeat' first|refine ga ?_|(refine gb ?_;try simp[gz, *])|refine gk fun _ _=>?_|refine gc ?_ ?_|exact gr _|refine gi fun _=>?_|(refine gn ?_ ?_;focus(intros;simp[*];done)))
    refine reads_c _ h0 _ ?_
    simp [gz, *]
    (focus repeat' first|refine ga ?_|(refine gb ?_;try simp[gz, *])|refine gk fun _ _=>?_|refine gc ?_ ?_|exact gr _|refine gi fun _=>?_|(refine gn ?_ ?_;focus(intros;simp[*];done)))
  by_cases hs2 : (200 : Int) < d
  · refine acalls_of Tryz.func6 rfl Tryz.ntmps6 (congrArg Array.toList Tryz.results6) fun Q hQ => ?_
    (focus repeat' first|refine ga ?_|(refine gb ?_;try simp[gz, *])|refine gk fun _ _=>?_|refine gc ?_ ?_|exact gr _|refine gi fun _=>?_|(refine gn ?_ ?_;focus(intros;simp[*];done)))
    refine reads_c _ h0 _ ?_
    simp [gz, *]
    (focus repeat' first|refine ga ?_|(refine gb ?_;try simp[gz, *])|refine gk fun _ _=>?_|refine gc ?_ ?_|exact gr _|refine gi fun _=>?_|(refine gn ?_ ?_;focus(intros;simp[*];done)))
  obtain ⟨k, rfl⟩ : ∃ k : Nat, d = k := ⟨d.toNat, by omega⟩
  have hk : k ≤ 200 := by omega
  have hn := nests_ok k (by omega)
  have hpc := Parse_c (nestS k) (by rw [nestS_len]; omega)
  obtain ⟨z, hz⟩ : ∃ z, parseT (nestS k) = z := ⟨_, rfl⟩
  rw [parseAV_eq, hz] at hpc
  rw [hz] at hn
  clear hz
  obtain ⟨ns, c, a⟩ := z
  have hr1 := Repeat_c [40] k (by omega) (by decide)
  have hr2 := Repeat_c [41] k (by omega) (by decide)
  have lA : (Lib.repeatL [40] k).length = k := by rw [Lib.repeatL_length]; simp
  have lB : (Lib.repeatL [41] k).length = k := by rw [Lib.repeatL_length]; simp
  unfold nestS at hpc
  rw [List.append_assoc, List.singleton_append] at hpc
  generalize Lib.repeatL [40] k = A at hpc hr1 lA
  generalize Lib.repeatL [41] k = B at hpc hr2 lB
  replace hpc := Shut.mk hpc
  replace hr1 := Shut.mk hr1
  replace hr2 := Shut.mk hr2
  unfold nestG at hn
  simp only at hn
  by_cases hc : c = 0
  · rw [if_pos hc] at hn
    subst hc
    simp only [Bool.and_eq_true, decide_eq_true_eq] at hn
    obtain ⟨hn1, hn2⟩ := hn
    have hn3 : (k : Int) < 60 := by omega
    have hrl : (rowsT (ns, 0, a)).length = 3 := by unfold rowsT; rw [if_pos rfl, List.length_map]; exact hn2
    generalize rowsT (ns, 0, a) = rw0 at hrl hpc
    generalize tokT (ns, 0, a) = tk0 at hpc
    clear hn1 hn2
    refine acalls_of Tryz.func6 rfl Tryz.ntmps6 (congrArg Array.toList Tryz.results6) fun Q hQ => ?_
    (focus repeat' first|refine ga ?_|(refine gb ?_;try simp[gz, *])|refine gk fun _ _=>?_|refine gc ?_ ?_|exact gr _|refine gi fun _=>?_|(refine gn ?_ ?_;focus(intros;simp[*];done)))
    refine reads_c _ h0 _ ?_
    simp [gz, *]
    (focus repeat' first|refine ga ?_|(refine gb ?_;try simp[gz, *])|refine gk fun _ _=>?_|refine gc ?_ ?_|exact gr _|refine gi fun _=>?_|(refine gn ?_ ?_;focus(intros;simp[*];done)))
    refine hr1.out _ _ ?_
    simp [gz, *]
    (focus repeat' first|refine ga ?_|(refine gb ?_;try simp[gz, *])|refine gk fun _ _=>?_|refine gc ?_ ?_|exact gr _|refine gi fun _=>?_|(refine gn ?_ ?_;focus(intros;simp[*];done)))
    refine hr2.out _ _ ?_
    simp [gz, *]
    (focus repeat' first|refine ga ?_|(refine gb ?_;try simp[gz, *])|refine gk fun _ _=>?_|refine gc ?_ ?_|exact gr _|refine gi fun _=>?_|(refine gn ?_ ?_;focus(intros;simp[*];done)))
    refine hpc.out _ h0 _ ?_
    simp [gz, *]
    (focus repeat' first|refine ga ?_|(refine gb ?_;try simp[gz, *])|refine gk fun _ _=>?_|refine gc ?_ ?_|exact gr _|refine gi fun _=>?_|(refine gn ?_ ?_;focus(intros;simp[*];done)))
    intro b3 hb3; simp only [Fresh, Heap.set_none] at hb3; try simp [gz, *]
    (focus repeat' first|refine ga ?_|(refine gb ?_;try simp[gz, *])|refine gk fun _ _=>?_|refine gc ?_ ?_|exact gr _|refine gi fun _=>?_|(refine gn ?_ ?_;focus(intros;simp[*];done)))
    intro b4 hb4; simp only [Fresh, Heap.set_none] at hb4; obtain ⟨qb40, qb41, hb4⟩ := hb4; try simp [gz, *]
    (focus repeat' first|refine ga ?_|(refine gb ?_;try simp[gz, *])|refine gk fun _ _=>?_|refine gc ?_ ?_|exact gr _|refine gi fun _=>?_|(refine gn ?_ ?_;focus(intros;simp[*];done)))
    all_goals ((repeat (first | exact Sub.refl _ | refine Sub.loc ?_ (by simp [*]) _)))
  · rw [if_neg hc] at hn
    simp only [Bool.and_eq_true, decide_eq_true_eq] at hn
    obtain ⟨⟨⟨hn1, hn2⟩, hn3⟩, hn4⟩ := hn
    subst hn2
    have hn5 : (58 : Int) ≤ k := by omega
    generalize rowsT (ns, 6, a) = rw0 at hpc
    generalize tokT (ns, 6, a) = tk0 at hpc
    clear hn1
    refine acalls_of Tryz.func6 rfl Tryz.ntmps6 (congrArg Array.toList Tryz.results6) fun Q hQ => ?_
    (focus repeat' first|refine ga ?_|(refine gb ?_;try simp[gz, *])|refine gk fun _ _=>?_|refine gc ?_ ?_|exact gr _|refine gi fun _=>?_|(refine gn ?_ ?_;focus(intros;simp[*];done)))
    refine reads_c _ h0 _ ?_
    simp [gz, *]
    (focus repeat' first|refine ga ?_|(refine gb ?_;try simp[gz, *])|refine gk fun _ _=>?_|refine gc ?_ ?_|exact gr _|refine gi fun _=>?_|(refine gn ?_ ?_;focus(intros;simp[*];done)))
    refine hr1.out _ _ ?_
    simp [gz, *]
    (focus repeat' first|refine ga ?_|(refine gb ?_;try simp[gz, *])|refine gk fun _ _=>?_|refine gc ?_ ?_|exact gr _|refine gi fun _=>?_|(refine gn ?_ ?_;focus(intros;simp[*];done)))
    refine hr2.out _ _ ?_
    simp [gz, *]
    (focus repeat' first|refine ga ?_|(refine gb ?_;try simp[gz, *])|refine gk fun _ _=>?_|refine gc ?_ ?_|exact gr _|refine gi fun _=>?_|(refine gn ?_ ?_;focus(intros;simp[*];done)))
    refine hpc.out _ h0 _ ?_
    simp [gz, *]
    (focus repeat' first|refine ga ?_|(refine gb ?_;try simp[gz, *])|refine gk fun _ _=>?_|refine gc ?_ ?_|exact gr _|refine gi fun _=>?_|(refine gn ?_ ?_;focus(intros;simp[*];done)))
    intro b3 hb3; simp only [Fresh, Heap.set_none] at hb3; try simp [gz, *]
    (focus repeat' first|refine ga ?_|(refine gb ?_;try simp[gz, *])|refine gk fun _ _=>?_|refine gc ?_ ?_|exact gr _|refine gi fun _=>?_|(refine gn ?_ ?_;focus(intros;simp[*];done)))
    intro b4 hb4; simp only [Fresh, Heap.set_none] at hb4; obtain ⟨qb40, qb41, hb4⟩ := hb4; try simp [gz, *]
    (focus repeat' first|refine ga ?_|(refine gb ?_;try simp[gz, *])|refine gk fun _ _=>?_|refine gc ?_ ?_|exact gr _|refine gi fun _=>?_|(refine gn ?_ ?_;focus(intros;simp[*];done)))
    all_goals ((repeat (first | exact Sub.refl _ | refine Sub.loc ?_ (by simp [*]) _)))
end Go.Proofs.YtcbgpjlcfkkdlaaGreatDoor

