import Derived.Test.YtcbgpjlcfkkdlaaGreatDoorQAQ
import Derived.Test.YtcbgpjlcfkkdlaaGreatDoorQAI
import Derived.Test.YtcbgpjlcfkkdlaaGreatDoorQAJ
import Derived.Test.YtcbgpjlcfkkdlaaGreatDoorQAK
import Derived.Test.YtcbgpjlcfkkdlaaGreatDoorQAL
set_option linter.unusedSimpArgs false
set_option linter.unusedVariables false
set_option maxRecDepth 100000
set_option maxHeartbeats 16000000
namespace Go.Proofs.YtcbgpjlcfkkdlaaGreatDoor
open Go Go.AL Go.Proofs Go.RowKit
theorem int_inv {F : Fin} {v : Value} {k : IntKind} {n : Int} (h : Rep F v (.int k n)) : v = .int k n := by cases h; rfl
theorem repL_str_int {F : Fin} {cargs : Array Value} {s : List UInt8} {k : IntKind} {n : Int} (h : RepL F cargs [.str s, .int k n]) : ∃ a : ByteArray, cargs = #[.string a, .int k n] ∧ a.data.toList = s := by
  obtain ⟨hl, hr⟩ := h
  obtain ⟨l⟩ := cargs
  match l, hl with
  | [x, y], _ =>
    have h0 := hr 0 (by simp)
    have h1 := hr 1 (by simp)
    simp [Array.getD] at h0 h1
    obtain ⟨a, rfl, ha⟩ := h0.str_inv
    obtain rfl := int_inv h1
    exact ⟨a, rfl, ha⟩
theorem repL_int2 {F : Fin} {cargs : Array Value} {k k' : IntKind} {n n' : Int} (h : RepL F cargs [.int k n, .int k' n']) : cargs = #[.int k n, .int k' n'] := by
  obtain ⟨hl, hr⟩ := h
  obtain ⟨l⟩ := cargs
  match l, hl with
  | [x, y], _ =>
    have h0 := hr 0 (by simp)
    have h1 := hr 1 (by simp)
    simp [Array.getD] at h0 h1
    obtain rfl := int_inv h0
    obtain rfl := int_inv h1
    rfl
theorem HasPrefix_c (s p : List UInt8) (h : Heap) (hg : h 0 = some .gint) (R : AV → Heap → Prop) (hR : R (.bool (Lib.hasPrefix s p)) h) : ACalls Tryz.prog 35 [.str s, .str p] h R := by
  refine acalls_str2 hg (fun a b m w ea eb hm => ?_) hR
  subst ea eb
  refine (Tryz.strings_HasPrefix a b w).mono ?_
  rintro e w' ⟨rfl, rfl⟩
  exact ⟨⟨_, rfl, fun F => .bool _⟩, 0, rfl⟩
theorem SIndex_c (s sub : List UInt8) (hs : s.length < 4294967281) (h : Heap) (hg : h 0 = some .gint) (R : AV → Heap → Prop) (hR : R (.int .i64 (Lib.index s sub)) h) : ACalls Tryz.prog 56 [.str s, .str sub] h R := by
  refine acalls_str2 hg (fun a b m w ea eb hm => ?_) hR
  subst ea eb
  refine (Tryz.strings_Index a b m w (by simpa using hs) hm).mono ?_
  rintro e w' ⟨rfl, rfl⟩
  exact ⟨⟨_, rfl, fun F => .int _ _⟩, 0, rfl⟩
theorem CutPrefix_c (s p : List UInt8) (h : Heap) (hg : h 0 = some .gint) (R : AV → Heap → Prop) (hR : R (.tup [.str (Lib.trimPrefix s p), .bool (Lib.hasPrefix s p)]) h) : ACalls Tryz.prog 100 [.str s, .str p] h R := by
  refine acalls_str2 hg (fun a b m w ea eb hm => ?_) hR
  subst ea eb
  refine (Tryz.strings_CutPrefix a b w).mono ?_
  rintro e w' ⟨rfl, rfl⟩
  refine ⟨⟨_, rfl, fun F => .tup _ _ rfl fun i hi => ?_⟩, 0, rfl⟩
  have hi' : i < 2 := hi
  match i, hi' with
  | 0, _ => exact .str _ _ rfl
  | 1, _ => exact .bool _
theorem TrimLeft_c (s : List UInt8) (c : UInt8) (hc : c.toNat < 128) (h : Heap) (hg : h 0 = some .gint) (R : AV → Heap → Prop) (hR : R (.str (Lib.trimLeftB s c)) h) : ACalls Tryz.prog 101 [.str s, .str [c]] h R := by
  refine acalls_str2 hg (fun a b m w ea eb hm => ?_) hR
  subst ea
  have : b = ⟨#[c]⟩ := by
    cases b with
    | mk d => cases d with
      | mk l => simp at eb; rw [eb]
  subst this
  refine (Tryz.strings_TrimLeft_one a c hc w).mono ?_
  rintro e w' ⟨rfl, rfl⟩
  exact ⟨⟨_, rfl, fun F => .str _ _ rfl⟩, 0, rfl⟩
theorem IndexByte_c (s : List UInt8) (c : UInt8) (h : Heap) (R : AV → Heap → Prop) (hR : R (.int .i64 (Lib.indexByte s c)) h) : ACalls Tryz.prog 55 [.str s, .int .u8 c.toNat] h R := by
  intro w0 F w cargs hi ha
  obtain ⟨a, rfl, rfl⟩ := repL_str_int ha
  refine (Tryz.strings_IndexByte a c.toNat w).mono ?_
  rintro e w' ⟨rfl, rfl⟩
  have hc : ((c.toNat : Int).toNat.toUInt8) = c := by simp
  rw [hc]
  exact ⟨_, F, _, h, rfl, .refl F, hi, .int _ _, hR⟩
theorem Mul64_c (x y : Nat) (hx : x < 18446744073709551616) (hy : y < 18446744073709551616) (h : Heap) (R : AV → Heap → Prop) (hR : R (.tup [.int .u64 ((x * y / 18446744073709551616 : Nat) : Int), .int .u64 ((x * y % 18446744073709551616 : Nat) : Int)]) h) :
    ACalls Tryz.prog 74 [.int .u64 x, .int .u64 y] h R := by
  intro w0 F w cargs hi ha
  obtain rfl := repL_int2 ha
  refine (Tryz.bits_Mul64 x y hx hy w).mono ?_
  rintro e w' ⟨rfl, rfl⟩
  refine ⟨_, F, _, h, rfl, .refl F, hi, .tup _ _ rfl fun i hi => ?_, hR⟩
  have hi' : i < 2 := hi
  match i, hi' with
  | 0, _ => exact .int _ _
  | 1, _ => exact .int _ _
theorem Repeat_c (s : List UInt8) (c : Nat) (hc : c ≤ 100000) (hs : s.length ≤ 100000) (h : Heap) (R : AV → Heap → Prop) (hR : R (.str (Lib.repeatL s c)) h) : ACalls Tryz.prog 16 [.str s, .int .i64 c] h R := by
  intro w0 F w cargs hi ha
  obtain ⟨a, rfl, rfl⟩ := repL_str_int ha
  have hsz : a.size = a.data.toList.length := by simp
  refine (Tryz.strings_Repeat a c w (by omega) (by rw [hsz]; exact Nat.le_trans (Nat.mul_le_mul hs hc) (by decide))).mono ?_
  rintro e w' ⟨rfl, hb⟩
  exact ⟨_, F, _, h, rfl, .refl F, hi.of_below hb, .str _ _ rfl, hR⟩
theorem letter_c (c : UInt8) (h : Heap) (R : AV → Heap → Prop) (hR : R (.bool (letterX c)) h) : ACalls Tryz.prog 58 [.int .u8 c.toNat] h R := by
  refine ACalls.pure ?_ hR
  clear hR
  have e1 : letterX c = ((decide (97 ≤ c.toNat) && decide (c.toNat ≤ 122)) || (decide (65 ≤ c.toNat) && decide (c.toNat ≤ 90)) || decide (c.toNat = 95)) := by
    unfold letterX
    simp only [UInt8.le_iff_toNat_le, ← UInt8.toNat_inj]
    rfl
  rw [e1]
  obtain ⟨n, hn⟩ : ∃ n, c.toNat = n := ⟨_, rfl⟩
  rw [hn]
  clear e1 hn
  by_cases h1 : 97 ≤ n
  · by_cases h2 : n ≤ 122
    · refine acalls_of Tryz.func58 rfl Tryz.ntmps58 (congrArg Array.toList Tryz.results58) fun Q hQ => ?_
      (focus repeat' first|refine ga ?_|(refine gb ?_;try simp[gz, *])|refine gk fun _ _=>?_|refine gc ?_ ?_|exact gr _|refine gi fun _=>?_|(refine gn ?_ ?_;focus(intros;simp[*];done)))
      all_goals first | exact Sub.refl _ | (simp [*]; done) | exact ⟨by rw [Bool.eq_iff_iff]; simp only [Bool.or_eq_true, Bool.and_eq_true, decide_eq_true_eq]; omega, Sub.refl _⟩ | trace_state
    · have h3 : ¬ n ≤ 90 := by omega
      have h4 : ¬ n = 95 := by omega
      by_cases h5 : 65 ≤ n
      · refine acalls_of Tryz.func58 rfl Tryz.ntmps58 (congrArg Array.toList Tryz.results58) fun Q hQ => ?_
        (focus repeat' first|refine ga ?_|(refine gb ?_;try simp[gz, *])|refine gk fun _ _=>?_|refine gc ?_ ?_|exact gr _|refine gi fun _=>?_|(refine gn ?_ ?_;focus(intros;simp[*];done)))
        all_goals first | exact Sub.refl _ | (simp [*]; done) | exact ⟨by rw [Bool.eq_iff_iff]; simp only [Bool.or_eq_true, Bool.and_eq_true, decide_eq_true_eq]; omega, Sub.refl _⟩ | trace_state
      · omega
  · by_cases h5 : 65 ≤ n
    · by_cases h6 : n ≤ 90
      · refine acalls_of Tryz.func58 rfl Tryz.ntmps58 (congrArg Array.toList Tryz.results58) fun Q hQ => ?_
        (focus repeat' first|refine ga ?_|(refine gb ?_;try simp[gz, *])|refine gk fun _ _=>?_|refine gc ?_ ?_|exact gr _|refine gi fun _=>?_|(refine gn ?_ ?_;focus(intros;simp[*];done)))
        all_goals first | exact Sub.refl _ | (simp [*]; done) | exact ⟨by rw [Bool.eq_iff_iff]; simp only [Bool.or_eq_true, Bool.and_eq_true, decide_eq_true_eq]; omega, Sub.refl _⟩ | trace_state
      · refine acalls_of Tryz.func58 rfl Tryz.ntmps58 (congrArg Array.toList Tryz.results58) fun Q hQ => ?_
        (focus repeat' first|refine ga ?_|(refine gb ?_;try simp[gz, *])|refine gk fun _ _=>?_|refine gc ?_ ?_|exact gr _|refine gi fun _=>?_|(refine gn ?_ ?_;focus(intros;simp[*];done)))
        all_goals first | exact Sub.refl _ | (simp [*]; done) | exact ⟨by rw [Bool.eq_iff_iff]; simp only [Bool.or_eq_true, Bool.and_eq_true, decide_eq_true_eq]; omega, Sub.refl _⟩ | trace_state
    · have h7 : ¬ n = 95 := by omega
      refine acalls_of Tryz.func58 rfl Tryz.ntmps58 (congrArg Array.toList Tryz.results58) fun Q hQ => ?_
      (focus repeat' first|refine ga ?_|(refine gb ?_;try simp[gz, *])|refine gk fun _ _=>?_|refine gc ?_ ?_|exact gr _|refine gi fun _=>?_|(refine gn ?_ ?_;focus(intros;simp[*];done)))
      all_goals first | exact Sub.refl _ | (simp [*]; done) | exact ⟨by rw [Bool.eq_iff_iff]; simp only [Bool.or_eq_true, Bool.and_eq_true, decide_eq_true_eq]; omega, Sub.refl _⟩ | trace_state
theorem digit_c (c : UInt8) (h : Heap) (R : AV → Heap → Prop) (hR : R (.bool (digitX c)) h) : ACalls Tryz.prog 60 [.int .u8 c.toNat] h R := by
  refine ACalls.pure ?_ hR
  clear hR
  have e1 : digitX c = (decide (48 ≤ c.toNat) && decide (c.toNat ≤ 57)) := by
    unfold digitX
    simp only [UInt8.le_iff_toNat_le]
    rfl
  rw [e1]
  obtain ⟨n, hn⟩ : ∃ n, c.toNat = n := ⟨_, rfl⟩
  rw [hn]
  clear e1 hn
  by_cases h1 : 48 ≤ n
  · refine acalls_of Tryz.func60 rfl Tryz.ntmps60 (congrArg Array.toList Tryz.results60) fun Q hQ => ?_
    (focus repeat' first|refine ga ?_|(refine gb ?_;try simp[gz, *])|refine gk fun _ _=>?_|refine gc ?_ ?_|exact gr _|refine gi fun _=>?_|(refine gn ?_ ?_;focus(intros;simp[*];done)))
    all_goals first | exact Sub.refl _ | (simp [*]; done) | exact ⟨by rw [Bool.eq_iff_iff]; simp only [Bool.or_eq_true, Bool.and_eq_true, decide_eq_true_eq]; omega, Sub.refl _⟩ | trace_state
  · refine acalls_of Tryz.func60 rfl Tryz.ntmps60 (congrArg Array.toList Tryz.results60) fun Q hQ => ?_
    (focus repeat' first|refine ga ?_|(refine gb ?_;try simp[gz, *])|refine gk fun _ _=>?_|refine gc ?_ ?_|exact gr _|refine gi fun _=>?_|(refine gn ?_ ?_;focus(intros;simp[*];done)))
    all_goals first | exact Sub.refl _ | (simp [*]; done) | exact ⟨by rw [Bool.eq_iff_iff]; simp only [Bool.or_eq_true, Bool.and_eq_true, decide_eq_true_eq]; omega, Sub.refl _⟩ | trace_state
theorem word_c (c : UInt8) (h : Heap) (R : AV → Heap → Prop) (hR : R (.bool (wordX c)) h) : ACalls Tryz.prog 98 [.int .u8 c.toNat] h R := by
  refine ACalls.pure ?_ hR
  clear hR
  refine acalls_of Tryz.func98 rfl Tryz.ntmps98 (congrArg Array.toList Tryz.results98) fun Q hQ => ?_
  (focus repeat' first|refine ga ?_|(refine gb ?_;try simp[gz, *])|refine gk fun _ _=>?_|refine gc ?_ ?_|exact gr _|refine gi fun _=>?_|(refine gn ?_ ?_;focus(intros;simp[*];done)))
  refine letter_c c _ _ ?_
  cases hl : letterX c
  · simp [gz, *]
    (focus repeat' first|refine ga ?_|(refine gb ?_;try simp[gz, *])|refine gk fun _ _=>?_|refine gc ?_ ?_|exact gr _|refine gi fun _=>?_|(refine gn ?_ ?_;focus(intros;simp[*];done)))
    refine digit_c c _ _ ?_
    simp [gz, *]
    (focus repeat' first|refine ga ?_|(refine gb ?_;try simp[gz, *])|refine gk fun _ _=>?_|refine gc ?_ ?_|exact gr _|refine gi fun _=>?_|(refine gn ?_ ?_;focus(intros;simp[*];done)))
    all_goals first | exact ⟨by simp [wordX, *], Sub.refl _⟩ | exact Sub.refl _ | (simp [wordX, *]; done) | trace_state
  · simp [gz, *]
    (focus repeat' first|refine ga ?_|(refine gb ?_;try simp[gz, *])|refine gk fun _ _=>?_|refine gc ?_ ?_|exact gr _|refine gi fun _=>?_|(refine gn ?_ ?_;focus(intros;simp[*];done)))
    all_goals first | exact ⟨by simp [wordX, *], Sub.refl _⟩ | exact Sub.refl _ | (simp [wordX, *]; done) | trace_state
end Go.Proofs.YtcbgpjlcfkkdlaaGreatDoor

namespace Go.Proofs.YtcbgpjlcfkkdlaaGreatDoor
open Go Go.AL Go.Proofs
def signsB : List UInt8 := [62, 62, 62, 32, 60, 61, 62, 32, 60, 45, 32, 60, 60, 32, 62, 62, 32, 60, 61, 32, 62, 61, 32, 61, 61, 32, 33, 61, 32, 38, 38, 32, 124, 124, 32, 43, 43, 32, 45, 45, 32, 43, 61, 32, 45, 61, 32, 42, 61, 32, 47, 61, 32, 37, 61, 32, 58, 58, 32, 43, 32, 45, 32, 42, 32, 47, 32, 37, 32, 61, 32, 60, 32, 62, 32, 33, 32, 126, 32, 38, 32, 124, 32, 94, 32, 63, 32, 58, 32, 59, 32, 44, 32, 46, 32, 40, 32, 41, 32, 123, 32, 125, 32, 91, 32, 93]
theorem signs_split : Lib.split signsB [32] = signsW := by decide +kernel
abbrev signRows : List (List AV) := signsW.map fun p => [.str p]
abbrev lxRow (s : List UInt8) (i : Nat) (b : Bool) : List AV := [.str s, .int .i64 i, .bool b, .list 1 signRows .full]
structure Lx (B h : Heap) (s : List UInt8) (i : Nat) (b : Bool) (l : Nat) : Prop where
  sub : AL.Sub B h
  free : B l = none
  blk : h l = some (.cells (lxRow s i b))
section
variable {B h : Heap} {s : List UInt8} {i : Nat} {b : Bool} {l : Nat}
theorem Lx.put (lx : Lx B h s i b l) (i' : Nat) (b' : Bool) : Lx B (h.set l (.cells (lxRow s i' b'))) s i' b' l := ⟨lx.sub.loc lx.free _, lx.free, Heap.set_same _ _ _⟩
theorem Lx.isNone (lx : Lx B h s i b l) {c : Nat} (hc : h c = none) : B c = none := by
  cases e : B c with
  | none => rfl
  | some x => rw [lx.sub _ _ e] at hc; cases hc
theorem Lx.new (lx : Lx B h s i b l) {c : Nat} (hc : h c = none) (x : Blk) : Lx (B.set c x) (h.set c x) s i b l := by
  have hcl : ¬ l = c := fun e => by rw [← e, lx.blk] at hc; cases hc
  exact ⟨lx.sub.upd c x, by rw [Heap.set_other _ _ _ _ hcl]; exact lx.free, by rw [Heap.set_other _ _ _ _ hcl]; exact lx.blk⟩
theorem Lx.extra (lx : Lx B h s i b l) {c : Nat} (hc : h c = none) (x : Blk) : Lx B (h.set c x) s i b l := by
  have hcl : ¬ l = c := fun e => by rw [← e, lx.blk] at hc; cases hc
  exact ⟨lx.sub.loc (lx.isNone hc) _, lx.free, by rw [Heap.set_other _ _ _ _ hcl]; exact lx.blk⟩
theorem Lx.drop {x : Blk} {c : Nat} (lx : Lx (B.set c x) h s i b l) (hc : B c = none) : Lx B h s i b l := by
  have hl : B l = none := by
    by_cases e : l = c
    · rw [e]; exact hc
    · have := lx.free; rwa [Heap.set_other _ _ _ _ e] at this
  exact ⟨fun q y hq => lx.sub q y (by rw [Heap.set_other _ _ _ _ (fun e => by rw [e, hc] at hq; cases hq)]; exact hq), hl, lx.blk⟩
end
def wspan (s : List UInt8) (i : Nat) : Nat := ((s.drop i).takeWhile wordX).length
theorem wspan_end {s : List UInt8} {i : Nat} (h : s.length ≤ i) : wspan s i = 0 := by unfold wspan; rw [List.drop_eq_nil_of_le h]; rfl
theorem wspan_yes {s : List UInt8} {i : Nat} (h : i < s.length) (hw : wordX s[i] = true) : wspan s i = wspan s (i + 1) + 1 := by
  unfold wspan
  rw [List.drop_eq_getElem_cons h, List.takeWhile_cons, hw, if_pos rfl]
  rfl
theorem wspan_no {s : List UInt8} {i : Nat} (h : i < s.length) (hw : wordX s[i] = false) : wspan s i = 0 := by
  unfold wspan
  rw [List.drop_eq_getElem_cons h, List.takeWhile_cons, hw]
  rfl
theorem wspan_le {s : List UInt8} {i : Nat} (h : i ≤ s.length) : i + wspan s i ≤ s.length := by
  have h1 := (List.takeWhile_prefix (p := wordX) (l := s.drop i)).length_le
  rw [List.length_drop] at h1
  unfold wspan
  omega
def spanW (s : List UInt8) (i : Nat) : List UInt8 := (s.drop i).take (wspan s i)
theorem while_c (s : List UInt8) (i : Nat) (b : Bool) (l : Nat) (hi : i ≤ s.length) (hs : s.length ≤ 262144) (B h : Heap) (lx : Lx B h s i b l) (R : AV → Heap → Prop) (hR : ∀ g, Lx B g s (i + wspan s i) b l → R (.str (spanW s i)) g) :
    ACalls Tryz.prog 97 [.ptr l 0, .fn 98 []] h R := by
  have hl := lx.blk
  have hfin := wspan_le hi
  replace hR := Shut.mk hR
  refine acalls_of Tryz.func97 rfl Tryz.ntmps97 (congrArg Array.toList Tryz.results97) fun Q hQ => ?_
  (focus repeat' first|refine ga ?_|(refine gb ?_;try simp[gz, *])|refine gk fun _ _=>?_|refine gc ?_ ?_|exact gr _|refine gi fun _=>?_|(refine gn ?_ ?_;focus(intros;simp[*];done)))
  refine awp_loop_h [10, 11, 12, 13, 14, 15, 16, 17, 18, 19, 20, 21, 22, 23, 24, 25, 26, 27, 28, 29, 30, 31, 32, 33, 34, 35, 36, 37, 38, 39] (fun n x g => ∃ j : Nat, i ≤ j ∧ j ≤ s.length ∧ n = s.length - j ∧ wspan s j + (j - i) = wspan s i ∧ Lx B g s j b l) (s.length - i) ⟨i, by omega, hi, rfl, by omega, lx⟩ (fun n x g hI K hK => ?_)
  clear hl lx
  obtain ⟨j, h1, h2, rfl, h3, lx⟩ := hI
  have hl := lx.blk
  have w1 : IntKind.i64.wrap ((j : Int) + 1) = ((j + 1 : Nat) : Int) := by rw [w64 (by omega) (by omega)]; omega
  by_cases hj : j < s.length
  · have hji : (j : Int) < s.length := by omega
    have hget : s[j]? = some s[j] := List.getElem?_eq_getElem hj
    obtain ⟨c, hc⟩ : ∃ c, s[j] = c := ⟨_, rfl⟩
    rw [hc] at hget
    cases hw : wordX c
    · have e1 : wspan s j = 0 := wspan_no hj (by rw [hc]; exact hw)
      have e2 : j = i + wspan s i := by omega
      have hfi := hR.out g (e2 ▸ lx)
      have e3 : spanW s i = (s.take j).drop i := by unfold spanW; rw [List.drop_take, e2, Nat.add_sub_cancel_left]
      rw [e3] at hfi
      replace hfi := Shut.mk hfi
      clear e1 e2 e3 h3 hfin
      refine awp_eqs (s' := [_, _, _, _, _, _, _, _, _, _, x 10, x 11, x 12, x 13, x 14, x 15, x 16, x 17, x 18, x 19, x 20, x 21, x 22, x 23, x 24, x 25, x 26, x 27, x 28, x 29, x 30, x 31, x 32, x 33, x 34, x 35, x 36, x 37, x 38, x 39, _, _, _, _, _, _, _, _, _, _]) rfl ?_
      (focus repeat' first|refine ga ?_|(refine gb ?_;try simp[gz, *])|refine gk fun _ _=>?_|refine gc ?_ ?_|exact gr _|refine gi fun _=>?_|(refine gn ?_ ?_;focus(intros;simp[*];done)))
      refine awp_region_draw [l] [(0, true), (1, true), (2, true), (3, true), (4, true), (5, true), (6, true), (7, true), (8, true), (9, true), (10, true), (11, true), (12, true), (13, true), (14, true), (15, true), (16, true), (17, true), (18, true), (19, true), (20, true), (21, false), (22, true)] [] follows (by kernel_rfl) rfl (by kernel_rfl) ?_; simp [gz, Heap.plus_set, *]
      (focus repeat' first|refine ga ?_|(refine gb ?_;try simp[gz, *])|refine gk fun _ _=>?_|refine gc ?_ ?_|exact gr _|refine gi fun _=>?_|(refine gn ?_ ?_;focus(intros;simp[*];done)))
      refine word_c c _ _ ?_
      rw [hw]
      simp [gz, *]
      (focus repeat' first|refine ga ?_|(refine gb ?_;try simp[gz, *])|refine gk fun _ _=>?_|refine gc ?_ ?_|exact gr _|refine gi fun _=>?_|(refine gn ?_ ?_;focus(intros;simp[*];done)))
      refine awp_region_quiet follows (by kernel_rfl) ?_; simp [gz, *]
      (focus repeat' first|refine ga ?_|(refine gb ?_;try simp[gz, *])|refine gk fun _ _=>?_|refine gc ?_ ?_|exact gr _|refine gi fun _=>?_|(refine gn ?_ ?_;focus(intros;simp[*];done)))
      all_goals first | exact hfi.out | trace_state
    · have e1 : wspan s j = wspan s (j + 1) + 1 := wspan_yes hj (by rw [hc]; exact hw)
      have lx2 := lx.put (j + 1) b
      refine awp_eqs (s' := [_, _, _, _, _, _, _, _, _, _, x 10, x 11, x 12, x 13, x 14, x 15, x 16, x 17, x 18, x 19, x 20, x 21, x 22, x 23, x 24, x 25, x 26, x 27, x 28, x 29, x 30, x 31, x 32, x 33, x 34, x 35, x 36, x 37, x 38, x 39, _, _, _, _, _, _, _, _, _, _]) rfl ?_
      (focus repeat' first|refine ga ?_|(refine gb ?_;try simp[gz, *])|refine gk fun _ _=>?_|refine gc ?_ ?_|exact gr _|refine gi fun _=>?_|(refine gn ?_ ?_;focus(intros;simp[*];done)))
      refine awp_region_draw [l] [(0, true), (1, true), (2, true), (3, true), (4, true), (5, true), (6, true), (7, true), (8, true), (9, true), (10, true), (11, true), (12, true), (13, true), (14, true), (15, true), (16, true), (17, true), (18, true), (19, true), (20, true), (21, false), (22, true)] [] follows (by kernel_rfl) rfl (by kernel_rfl) ?_; simp [gz, Heap.plus_set, *]
      (focus repeat' first|refine ga ?_|(refine gb ?_;try simp[gz, *])|refine gk fun _ _=>?_|refine gc ?_ ?_|exact gr _|refine gi fun _=>?_|(refine gn ?_ ?_;focus(intros;simp[*];done)))
      refine word_c c _ _ ?_
      rw [hw]
      simp [gz, *]
      (focus repeat' first|refine ga ?_|(refine gb ?_;try simp[gz, *])|refine gk fun _ _=>?_|refine gc ?_ ?_|exact gr _|refine gi fun _=>?_|(refine gn ?_ ?_;focus(intros;simp[*];done)))
      exact ⟨by kernel_rfl, rfl, s.length - (j + 1), _, by omega, Sub.refl _, j + 1, by omega, by omega, rfl, by omega, lx2⟩
  · have hji : ¬ (j : Int) < s.length := by omega
    have e1 : wspan s j = 0 := wspan_end (by omega)
    have e2 : j = i + wspan s i := by omega
    have hfi := hR.out g (e2 ▸ lx)
    have e3 : spanW s i = (s.take j).drop i := by unfold spanW; rw [List.drop_take, e2, Nat.add_sub_cancel_left]
    rw [e3] at hfi
    replace hfi := Shut.mk hfi
    clear e1 e2 e3 h3 hfin
    refine awp_eqs (s' := [_, _, _, _, _, _, _, _, _, _, x 10, x 11, x 12, x 13, x 14, x 15, x 16, x 17, x 18, x 19, x 20, x 21, x 22, x 23, x 24, x 25, x 26, x 27, x 28, x 29, x 30, x 31, x 32, x 33, x 34, x 35, x 36, x 37, x 38, x 39, _, _, _, _, _, _, _, _, _, _]) rfl ?_
    (focus repeat' first|refine ga ?_|(refine gb ?_;try simp[gz, *])|refine gk fun _ _=>?_|refine gc ?_ ?_|exact gr _|refine gi fun _=>?_|(refine gn ?_ ?_;focus(intros;simp[*];done)))
    refine awp_region_draw [l] [(0, true), (1, true), (2, true), (3, true), (4, true), (5, true), (6, true), (7, true), (8, true), (9, true), (10, true), (11, true), (12, true), (13, true), (14, true), (15, true), (16, true), (17, true), (18, true), (19, true), (20, true), (21, false), (22, true)] [] follows (by kernel_rfl) rfl (by kernel_rfl) ?_; simp [gz, Heap.plus_set, *]
    (focus repeat' first|refine ga ?_|(refine gb ?_;try simp[gz, *])|refine gk fun _ _=>?_|refine gc ?_ ?_|exact gr _|refine gi fun _=>?_|(refine gn ?_ ?_;focus(intros;simp[*];done)))
    refine awp_region_quiet follows (by kernel_rfl) ?_; simp [gz, *]
    (focus repeat' first|refine ga ?_|(refine gb ?_;try simp[gz, *])|refine gk fun _ _=>?_|refine gc ?_ ?_|exact gr _|refine gi fun _=>?_|(refine gn ?_ ?_;focus(intros;simp[*];done)))
    all_goals first | exact hfi.out | trace_state
end Go.Proofs.YtcbgpjlcfkkdlaaGreatDoor

namespace Go.Proofs.YtcbgpjlcfkkdlaaGreatDoor
open Go Go.AL Go.Proofs
def gapR (s : List UInt8) : Nat → Nat → Bool → Option Nat × Nat × Bool
  | 0, i, b => (none, i, b)
  | n + 1, i, b => if i < s.length then
      let c := s.getD i 0
      let rest := s.drop i
      if c = 10 then gapR s n (i + 1) true
      else if c = 32 ∨ c = 9 ∨ c = 13 then gapR s n (i + 1) b
      else if c = 35 ∨ Lib.hasPrefix rest [47, 47] = true then
        (if Lib.indexByte rest 10 < 0 then gapR s n (i + rest.length) b else gapR s n (i + (Lib.indexByte rest 10).toNat) b)
      else if Lib.hasPrefix rest [47, 42] = true then
        (if Lib.index (rest.drop 2) [42, 47] < 0 then (some i, i, b) else gapR s n (i + ((Lib.index (rest.drop 2) [42, 47]).toNat + 4)) (b || Lib.contains (rest.take ((Lib.index (rest.drop 2) [42, 47]).toNat + 4)) [10]))
      else (none, i, b)
    else (none, i, b)
theorem u8_ne {c k : UInt8} (h : ¬ c = k) : ¬ ((c.toNat : Int) = (k.toNat : Int)) := fun e => h (UInt8.toNat_inj.1 (Int.ofNat_inj.1 e))
theorem hasPrefix_len {s p : List UInt8} (h : Lib.hasPrefix s p = true) : p.length ≤ s.length := (List.isPrefixOf_iff_prefix.1 h).length_le
theorem gap_c (s : List UInt8) (i : Nat) (b : Bool) (l : Nat) (hi : i ≤ s.length) (hs : s.length ≤ 262144) (B h : Heap) (h0 : B 0 = some .gint) (lx : Lx B h s i b l) (R : AV → Heap → Prop)
    (hR : ∀ g, Lx B g s (gapR s (s.length - i) i b).2.1 (gapR s (s.length - i) i b).2.2 l → R (match (gapR s (s.length - i) i b).1 with | some p => .tup [.int .i64 p, .bool false] | none => .tup [.int .i64 0, .bool true]) g) :
    ACalls Tryz.prog 26 [.ptr l 0] h R := by
  have hl := lx.blk
  obtain ⟨r, hr⟩ : ∃ r, gapR s (s.length - i) i b = r := ⟨_, rfl⟩
  rw [hr] at hR
  replace hR := Shut.mk hR
  refine acalls_of Tryz.func26 rfl Tryz.ntmps26 (congrArg Array.toList Tryz.results26) fun Q hQ => ?_
  (focus repeat' first|refine ga ?_|(refine gb ?_;try simp[gz, *])|refine gk fun _ _=>?_|refine gc ?_ ?_|exact gr _|refine gi fun _=>?_|(refine gn ?_ ?_;focus(intros;simp[*];done)))
  refine awp_scope ?_
  (focus repeat' first|refine ga ?_|(refine gb ?_;try simp[gz, *])|refine gk fun _ _=>?_|refine gc ?_ ?_|exact gr _|refine gi fun _=>?_|(refine gn ?_ ?_;focus(intros;simp[*];done)))
  refine awp_label ?_
  (focus repeat' first|refine ga ?_|(refine gb ?_;try simp[gz, *])|refine gk fun _ _=>?_|refine gc ?_ ?_|exact gr _|refine gi fun _=>?_|(refine gn ?_ ?_;focus(intros;simp[*];done)))
  refine awp_loop_h [2, 3, 4, 5, 6, 7, 8, 9, 10, 11, 12, 13, 14, 15, 16, 17, 18, 19, 20, 21, 22, 23, 24, 25, 26, 27, 28, 29, 30, 31, 32, 33, 34, 35, 36, 37, 38, 39, 40, 41, 42, 43, 44, 45, 46, 47, 48, 49, 50, 51, 52, 53, 54, 55, 56, 57, 58, 59, 60, 61, 62, 63, 64, 65, 66, 67, 68, 69, 70, 71, 72, 73, 74, 75, 76, 77, 78, 79, 80, 81, 82, 83, 84, 85, 86, 87, 88, 89, 90, 91, 92, 93, 94, 95, 96, 97, 98, 99, 100, 101, 102, 103, 104, 105, 106, 107, 108, 109, 110, 111, 112, 113, 114, 115] (fun m x g => ∃ (n' j : Nat) (bb : Bool), m = n' ∧ j ≤ s.length ∧ s.length - j ≤ n' ∧ gapR s n' j bb = r ∧ Lx B g s j bb l) (s.length - i) ⟨s.length - i, i, b, rfl, hi, by omega, hr, lx⟩ (fun m x g hI K hK => ?_)
  clear hl lx hr
  obtain ⟨_, j, bb, rfl, h1, h2, h3, lx⟩ := hI
  have hl := lx.blk
  by_cases hj : j < s.length
  · obtain ⟨n', rfl⟩ : ∃ k, m = k + 1 := ⟨m - 1, by omega⟩
    have hji : (j : Int) < s.length := by omega
    have hjl : (j : Int) ≤ s.length := by omega
    have hget : s[j]? = some s[j] := List.getElem?_eq_getElem hj
    have hgd : s.getD j 0 = s[j] := by simp [List.getD, hget]
    obtain ⟨c, hc⟩ : ∃ c, s[j] = c := ⟨_, rfl⟩
    obtain ⟨rest, hrest⟩ : ∃ rest, s.drop j = rest := ⟨_, rfl⟩
    have hrl1 : rest.length ≤ s.length - j := by rw [← hrest, List.length_drop]; exact Nat.le_refl _
    have hrl2 : s.length - j ≤ rest.length := by rw [← hrest, List.length_drop]; exact Nat.le_refl _
    have hr0 : rest[0]? = some c := by rw [← hrest, List.getElem?_drop, Nat.add_zero, hget, hc]
    rw [hc] at hget hgd
    simp only [gapR, if_pos hj, hgd, hrest] at h3
    clear hgd hc
    have w1 : IntKind.i64.wrap ((j : Int) + 1) = ((j + 1 : Nat) : Int) := by rw [w64 (by omega) (by omega)]; omega
    by_cases h10 : c = 10
    · subst h10
      rw [if_pos rfl] at h3
      have lx2 := lx.put (j + 1) true
      replace h3 := Shut.mk h3
      replace lx2 := Shut.mk lx2
      refine awp_eqs (s' := [_, _, x 2, x 3, x 4, x 5, x 6, x 7, x 8, x 9, x 10, x 11, x 12, x 13, x 14, x 15, x 16, x 17, x 18, x 19, x 20, x 21, x 22, x 23, x 24, x 25, x 26, x 27, x 28, x 29, x 30, x 31, x 32, x 33, x 34, x 35, x 36, x 37, x 38, x 39, x 40, x 41, x 42, x 43, x 44, x 45, x 46, x 47, x 48, x 49, x 50, x 51, x 52, x 53, x 54, x 55, x 56, x 57, x 58, x 59, x 60, x 61, x 62, x 63, x 64, x 65, x 66, x 67, x 68, x 69, x 70, x 71, x 72, x 73, x 74, x 75, x 76, x 77, x 78, x 79, x 80, x 81, x 82, x 83, x 84, x 85, x 86, x 87, x 88, x 89, x 90, x 91, x 92, x 93, x 94, x 95, x 96, x 97, x 98, x 99, x 100, x 101, x 102, x 103, x 104, x 105, x 106, x 107, x 108, x 109, x 110, x 111, x 112, x 113, x 114, x 115]) rfl ?_
      (focus repeat' first|refine ga ?_|(refine gb ?_;try simp[gz, *])|refine gk fun _ _=>?_|refine gc ?_ ?_|exact gr _|refine gi fun _=>?_|(refine gn ?_ ?_;focus(intros;simp[*];done)))
      refine awp_region_quiet follows (by kernel_rfl) ?_; simp [gz, *]
      (focus repeat' first|refine ga ?_|(refine gb ?_;try simp[gz, *])|refine gk fun _ _=>?_|refine gc ?_ ?_|exact gr _|refine gi fun _=>?_|(refine gn ?_ ?_;focus(intros;simp[*];done)))
      refine awp_region_quiet follows (by kernel_rfl) ?_; simp [gz, *]
      (focus repeat' first|refine ga ?_|(refine gb ?_;try simp[gz, *])|refine gk fun _ _=>?_|refine gc ?_ ?_|exact gr _|refine gi fun _=>?_|(refine gn ?_ ?_;focus(intros;simp[*];done)))
      exact ⟨by kernel_rfl, rfl, n', _, by omega, Sub.refl _, n', j + 1, true, rfl, by omega, by omega, h3.out, lx2.out⟩
    · rw [if_neg h10] at h3
      have n10 : ¬ ((c.toNat : Int) = 10) := u8_ne h10
      by_cases hb : c = 32 ∨ c = 9 ∨ c = 13
      · rw [if_pos hb] at h3
        have lx2 := lx.put (j + 1) bb
        replace h3 := Shut.mk h3
        replace lx2 := Shut.mk lx2
        rcases hb with rfl | rfl | rfl
        all_goals
          refine awp_eqs (s' := [_, _, x 2, x 3, x 4, x 5, x 6, x 7, x 8, x 9, x 10, x 11, x 12, x 13, x 14, x 15, x 16, x 17, x 18, x 19, x 20, x 21, x 22, x 23, x 24, x 25, x 26, x 27, x 28, x 29, x 30, x 31, x 32, x 33, x 34, x 35, x 36, x 37, x 38, x 39, x 40, x 41, x 42, x 43, x 44, x 45, x 46, x 47, x 48, x 49, x 50, x 51, x 52, x 53, x 54, x 55, x 56, x 57, x 58, x 59, x 60, x 61, x 62, x 63, x 64, x 65, x 66, x 67, x 68, x 69, x 70, x 71, x 72, x 73, x 74, x 75, x 76, x 77, x 78, x 79, x 80, x 81, x 82, x 83, x 84, x 85, x 86, x 87, x 88, x 89, x 90, x 91, x 92, x 93, x 94, x 95, x 96, x 97, x 98, x 99, x 100, x 101, x 102, x 103, x 104, x 105, x 106, x 107, x 108, x 109, x 110, x 111, x 112, x 113, x 114, x 115]) rfl ?_
          (focus repeat' first|refine ga ?_|(refine gb ?_;try simp[gz, *])|refine gk fun _ _=>?_|refine gc ?_ ?_|exact gr _|refine gi fun _=>?_|(refine gn ?_ ?_;focus(intros;simp[*];done)))
          refine awp_region_quiet follows (by kernel_rfl) ?_; simp [gz, *]
          (focus repeat' first|refine ga ?_|(refine gb ?_;try simp[gz, *])|refine gk fun _ _=>?_|refine gc ?_ ?_|exact gr _|refine gi fun _=>?_|(refine gn ?_ ?_;focus(intros;simp[*];done)))
          refine awp_region_quiet follows (by kernel_rfl) ?_; simp [gz, *]
          (focus repeat' first|refine ga ?_|(refine gb ?_;try simp[gz, *])|refine gk fun _ _=>?_|refine gc ?_ ?_|exact gr _|refine gi fun _=>?_|(refine gn ?_ ?_;focus(intros;simp[*];done)))
          exact ⟨by kernel_rfl, rfl, n', _, by omega, Sub.refl _, n', j + 1, bb, rfl, by omega, by omega, h3.out, lx2.out⟩
      · rw [if_neg hb] at h3
        have n32 : ¬ ((c.toNat : Int) = 32) := u8_ne fun e => hb (Or.inl e)
        have n9 : ¬ ((c.toNat : Int) = 9) := u8_ne fun e => hb (Or.inr (Or.inl e))
        have n13 : ¬ ((c.toNat : Int) = 13) := u8_ne fun e => hb (Or.inr (Or.inr e))
        clear hb h10
        by_cases h35 : c = 35
        · subst h35
          rw [if_pos (Or.inl rfl)] at h3
          obtain ⟨k, hk⟩ : ∃ k, Lib.indexByte rest 10 = k := ⟨_, rfl⟩
          rw [hk] at h3
          have hkr : 0 ≤ k → 0 < k.toNat ∧ k.toNat < rest.length := fun h => by
            obtain ⟨q1, q2⟩ := Lib.indexByte_some (o := k.toNat) (by rw [hk]; omega : Lib.indexByte rest 10 = k.toNat)
            have q3 := (List.getElem?_eq_some_iff.1 q1).1
            refine ⟨?_, q3⟩
            rcases Nat.eq_zero_or_pos k.toNat with e | e
            · rw [e, hr0] at q1
              injection q1 with q1
              exact absurd q1 (by decide)
            · exact e
          by_cases hk0 : k < 0
          · rw [if_pos hk0] at h3
            have w2 : IntKind.i64.wrap ((j : Int) + (rest.length : Int)) = ((j + rest.length : Nat) : Int) := by rw [w64 (by omega) (by omega)]; omega
            have lx2 := lx.put (j + rest.length) bb
            replace h3 := Shut.mk h3
            replace lx2 := Shut.mk lx2
            refine awp_eqs (s' := [_, _, x 2, x 3, x 4, x 5, x 6, x 7, x 8, x 9, x 10, x 11, x 12, x 13, x 14, x 15, x 16, x 17, x 18, x 19, x 20, x 21, x 22, x 23, x 24, x 25, x 26, x 27, x 28, x 29, x 30, x 31, x 32, x 33, x 34, x 35, x 36, x 37, x 38, x 39, x 40, x 41, x 42, x 43, x 44, x 45, x 46, x 47, x 48, x 49, x 50, x 51, x 52, x 53, x 54, x 55, x 56, x 57, x 58, x 59, x 60, x 61, x 62, x 63, x 64, x 65, x 66, x 67, x 68, x 69, x 70, x 71, x 72, x 73, x 74, x 75, x 76, x 77, x 78, x 79, x 80, x 81, x 82, x 83, x 84, x 85, x 86, x 87, x 88, x 89, x 90, x 91, x 92, x 93, x 94, x 95, x 96, x 97, x 98, x 99, x 100, x 101, x 102, x 103, x 104, x 105, x 106, x 107, x 108, x 109, x 110, x 111, x 112, x 113, x 114, x 115]) rfl ?_
            (focus repeat' first|refine ga ?_|(refine gb ?_;try simp[gz, *])|refine gk fun _ _=>?_|refine gc ?_ ?_|exact gr _|refine gi fun _=>?_|(refine gn ?_ ?_;focus(intros;simp[*];done)))
            refine awp_region_quiet follows (by kernel_rfl) ?_; simp [gz, *]
            (focus repeat' first|refine ga ?_|(refine gb ?_;try simp[gz, *])|refine gk fun _ _=>?_|refine gc ?_ ?_|exact gr _|refine gi fun _=>?_|(refine gn ?_ ?_;focus(intros;simp[*];done)))
            refine awp_region_quiet follows (by kernel_rfl) ?_; simp [gz, *]
            (focus repeat' first|refine ga ?_|(refine gb ?_;try simp[gz, *])|refine gk fun _ _=>?_|refine gc ?_ ?_|exact gr _|refine gi fun _=>?_|(refine gn ?_ ?_;focus(intros;simp[*];done)))
            refine IndexByte_c rest 10 _ _ ?_
            rw [hk]
            simp [gz, *]
            (focus repeat' first|refine ga ?_|(refine gb ?_;try simp[gz, *])|refine gk fun _ _=>?_|refine gc ?_ ?_|exact gr _|refine gi fun _=>?_|(refine gn ?_ ?_;focus(intros;simp[*];done)))
            exact ⟨by kernel_rfl, rfl, n', _, by omega, Sub.refl _, n', j + rest.length, bb, rfl, by omega, by omega, h3.out, lx2.out⟩
          · rw [if_neg hk0] at h3
            have hk2 := hkr (by omega)
            obtain ⟨kn, hkn⟩ : ∃ kn : Nat, k = kn := ⟨k.toNat, by omega⟩
            subst hkn
            simp only [Int.toNat_natCast] at h3 hk2
            have w2 : IntKind.i64.wrap ((j : Int) + (kn : Int)) = ((j + kn : Nat) : Int) := by rw [w64 (by omega) (by omega)]; omega
            have lx2 := lx.put (j + kn) bb
            replace h3 := Shut.mk h3
            replace lx2 := Shut.mk lx2
            refine awp_eqs (s' := [_, _, x 2, x 3, x 4, x 5, x 6, x 7, x 8, x 9, x 10, x 11, x 12, x 13, x 14, x 15, x 16, x 17, x 18, x 19, x 20, x 21, x 22, x 23, x 24, x 25, x 26, x 27, x 28, x 29, x 30, x 31, x 32, x 33, x 34, x 35, x 36, x 37, x 38, x 39, x 40, x 41, x 42, x 43, x 44, x 45, x 46, x 47, x 48, x 49, x 50, x 51, x 52, x 53, x 54, x 55, x 56, x 57, x 58, x 59, x 60, x 61, x 62, x 63, x 64, x 65, x 66, x 67, x 68, x 69, x 70, x 71, x 72, x 73, x 74, x 75, x 76, x 77, x 78, x 79, x 80, x 81, x 82, x 83, x 84, x 85, x 86, x 87, x 88, x 89, x 90, x 91, x 92, x 93, x 94, x 95, x 96, x 97, x 98, x 99, x 100, x 101, x 102, x 103, x 104, x 105, x 106, x 107, x 108, x 109, x 110, x 111, x 112, x 113, x 114, x 115]) rfl ?_
            (focus repeat' first|refine ga ?_|(refine gb ?_;try simp[gz, *])|refine gk fun _ _=>?_|refine gc ?_ ?_|exact gr _|refine gi fun _=>?_|(refine gn ?_ ?_;focus(intros;simp[*];done)))
            refine awp_region_quiet follows (by kernel_rfl) ?_; simp [gz, *]
            (focus repeat' first|refine ga ?_|(refine gb ?_;try simp[gz, *])|refine gk fun _ _=>?_|refine gc ?_ ?_|exact gr _|refine gi fun _=>?_|(refine gn ?_ ?_;focus(intros;simp[*];done)))
            refine awp_region_quiet follows (by kernel_rfl) ?_; simp [gz, *]
            (focus repeat' first|refine ga ?_|(refine gb ?_;try simp[gz, *])|refine gk fun _ _=>?_|refine gc ?_ ?_|exact gr _|refine gi fun _=>?_|(refine gn ?_ ?_;focus(intros;simp[*];done)))
            refine IndexByte_c rest 10 _ _ ?_
            rw [hk]
            simp [gz, *]
            (focus repeat' first|refine ga ?_|(refine gb ?_;try simp[gz, *])|refine gk fun _ _=>?_|refine gc ?_ ?_|exact gr _|refine gi fun _=>?_|(refine gn ?_ ?_;focus(intros;simp[*];done)))
            exact ⟨by kernel_rfl, rfl, n', _, by omega, Sub.refl _, n', j + kn, bb, rfl, by omega, by omega, h3.out, lx2.out⟩
        · have n35 : ¬ ((c.toNat : Int) = 35) := u8_ne h35
          cases hp : Lib.hasPrefix rest [47, 47]
          · rw [if_neg (by rw [hp]; intro e; rcases e with e | e; exact h35 e; cases e)] at h3
            clear h35
            cases hp2 : Lib.hasPrefix rest [47, 42]
            · rw [if_neg (by rw [hp2]; decide)] at h3
              have hfi := hR.out g (by rw [← h3]; exact lx)
              rw [← h3] at hfi
              replace hfi := Shut.mk hfi
              clear h3
              refine awp_eqs (s' := [_, _, x 2, x 3, x 4, x 5, x 6, x 7, x 8, x 9, x 10, x 11, x 12, x 13, x 14, x 15, x 16, x 17, x 18, x 19, x 20, x 21, x 22, x 23, x 24, x 25, x 26, x 27, x 28, x 29, x 30, x 31, x 32, x 33, x 34, x 35, x 36, x 37, x 38, x 39, x 40, x 41, x 42, x 43, x 44, x 45, x 46, x 47, x 48, x 49, x 50, x 51, x 52, x 53, x 54, x 55, x 56, x 57, x 58, x 59, x 60, x 61, x 62, x 63, x 64, x 65, x 66, x 67, x 68, x 69, x 70, x 71, x 72, x 73, x 74, x 75, x 76, x 77, x 78, x 79, x 80, x 81, x 82, x 83, x 84, x 85, x 86, x 87, x 88, x 89, x 90, x 91, x 92, x 93, x 94, x 95, x 96, x 97, x 98, x 99, x 100, x 101, x 102, x 103, x 104, x 105, x 106, x 107, x 108, x 109, x 110, x 111, x 112, x 113, x 114, x 115]) rfl ?_
              (focus repeat' first|refine ga ?_|(refine gb ?_;try simp[gz, *])|refine gk fun _ _=>?_|refine gc ?_ ?_|exact gr _|refine gi fun _=>?_|(refine gn ?_ ?_;focus(intros;simp[*];done)))
              refine awp_region_quiet follows (by kernel_rfl) ?_; simp [gz, *]
              (focus repeat' first|refine ga ?_|(refine gb ?_;try simp[gz, *])|refine gk fun _ _=>?_|refine gc ?_ ?_|exact gr _|refine gi fun _=>?_|(refine gn ?_ ?_;focus(intros;simp[*];done)))
              refine awp_region_quiet follows (by kernel_rfl) ?_; simp [gz, *]
              (focus repeat' first|refine ga ?_|(refine gb ?_;try simp[gz, *])|refine gk fun _ _=>?_|refine gc ?_ ?_|exact gr _|refine gi fun _=>?_|(refine gn ?_ ?_;focus(intros;simp[*];done)))
              refine HasPrefix_c rest [47, 47] _ (lx.sub _ _ h0) _ ?_
              rw [hp]
              simp [gz, *]
              (focus repeat' first|refine ga ?_|(refine gb ?_;try simp[gz, *])|refine gk fun _ _=>?_|refine gc ?_ ?_|exact gr _|refine gi fun _=>?_|(refine gn ?_ ?_;focus(intros;simp[*];done)))
              refine HasPrefix_c rest [47, 42] _ (lx.sub _ _ h0) _ ?_
              rw [hp2]
              simp [gz, *]
              (focus repeat' first|refine ga ?_|(refine gb ?_;try simp[gz, *])|refine gk fun _ _=>?_|refine gc ?_ ?_|exact gr _|refine gi fun _=>?_|(refine gn ?_ ?_;focus(intros;simp[*];done)))
              all_goals first | exact hfi.out | (simp only [NoGotoA]; (focus repeat' first|refine ga ?_|(refine gb ?_;try simp[gz, *])|refine gk fun _ _=>?_|refine gc ?_ ?_|exact gr _|refine gi fun _=>?_|(refine gn ?_ ?_;focus(intros;simp[*];done))); exact hfi.out) | trace_state
            · rw [if_pos hp2] at h3
              have hlen2 : 2 ≤ rest.length := hasPrefix_len hp2
              have hl2 : (2 : Int) ≤ rest.length := by omega
              obtain ⟨k, hk⟩ : ∃ k, Lib.index (rest.drop 2) [42, 47] = k := ⟨_, rfl⟩
              have hkr : 0 ≤ k → k.toNat + 4 ≤ rest.length := fun h => by
                have := Lib.index_room (rest.drop 2) [42, 47] (by rw [hk]; exact h)
                rw [hk, List.length_drop] at this
                simp only [List.length_cons, List.length_nil] at this
                omega
              have hkm := Lib.index_ge (rest.drop 2) [42, 47]
              rw [hk] at h3 hkm
              by_cases hk0 : k < 0
              · rw [if_pos hk0] at h3
                have hfi := hR.out g (by rw [← h3]; exact lx)
                rw [← h3] at hfi
                replace hfi := Shut.mk hfi
                clear h3
                refine awp_eqs (s' := [_, _, x 2, x 3, x 4, x 5, x 6, x 7, x 8, x 9, x 10, x 11, x 12, x 13, x 14, x 15, x 16, x 17, x 18, x 19, x 20, x 21, x 22, x 23, x 24, x 25, x 26, x 27, x 28, x 29, x 30, x 31, x 32, x 33, x 34, x 35, x 36, x 37, x 38, x 39, x 40, x 41, x 42, x 43, x 44, x 45, x 46, x 47, x 48, x 49, x 50, x 51, x 52, x 53, x 54, x 55, x 56, x 57, x 58, x 59, x 60, x 61, x 62, x 63, x 64, x 65, x 66, x 67, x 68, x 69, x 70, x 71, x 72, x 73, x 74, x 75, x 76, x 77, x 78, x 79, x 80, x 81, x 82, x 83, x 84, x 85, x 86, x 87, x 88, x 89, x 90, x 91, x 92, x 93, x 94, x 95, x 96, x 97, x 98, x 99, x 100, x 101, x 102, x 103, x 104, x 105, x 106, x 107, x 108, x 109, x 110, x 111, x 112, x 113, x 114, x 115]) rfl ?_
                (focus repeat' first|refine ga ?_|(refine gb ?_;try simp[gz, *])|refine gk fun _ _=>?_|refine gc ?_ ?_|exact gr _|refine gi fun _=>?_|(refine gn ?_ ?_;focus(intros;simp[*];done)))
                refine awp_region_quiet follows (by kernel_rfl) ?_; simp [gz, *]
                (focus repeat' first|refine ga ?_|(refine gb ?_;try simp[gz, *])|refine gk fun _ _=>?_|refine gc ?_ ?_|exact gr _|refine gi fun _=>?_|(refine gn ?_ ?_;focus(intros;simp[*];done)))
                refine awp_region_quiet follows (by kernel_rfl) ?_; simp [gz, *]
                (focus repeat' first|refine ga ?_|(refine gb ?_;try simp[gz, *])|refine gk fun _ _=>?_|refine gc ?_ ?_|exact gr _|refine gi fun _=>?_|(refine gn ?_ ?_;focus(intros;simp[*];done)))
                refine HasPrefix_c rest [47, 47] _ (lx.sub _ _ h0) _ ?_
                rw [hp]
                simp [gz, *]
                (focus repeat' first|refine ga ?_|(refine gb ?_;try simp[gz, *])|refine gk fun _ _=>?_|refine gc ?_ ?_|exact gr _|refine gi fun _=>?_|(refine gn ?_ ?_;focus(intros;simp[*];done)))
                refine HasPrefix_c rest [47, 42] _ (lx.sub _ _ h0) _ ?_
                rw [hp2]
                simp [gz, *]
                (focus repeat' first|refine ga ?_|(refine gb ?_;try simp[gz, *])|refine gk fun _ _=>?_|refine gc ?_ ?_|exact gr _|refine gi fun _=>?_|(refine gn ?_ ?_;focus(intros;simp[*];done)))
                refine SIndex_c (rest.drop 2) [42, 47] (by rw [List.length_drop]; omega) _ (lx.sub _ _ h0) _ ?_
                rw [hk]
                simp [gz, *]
                (focus repeat' first|refine ga ?_|(refine gb ?_;try simp[gz, *])|refine gk fun _ _=>?_|refine gc ?_ ?_|exact gr _|refine gi fun _=>?_|(refine gn ?_ ?_;focus(intros;simp[*];done)))
                all_goals first | exact hfi.out | (simp only [NoGotoA]; (focus repeat' first|refine ga ?_|(refine gb ?_;try simp[gz, *])|refine gk fun _ _=>?_|refine gc ?_ ?_|exact gr _|refine gi fun _=>?_|(refine gn ?_ ?_;focus(intros;simp[*];done))); exact hfi.out) | trace_state
              · rw [if_neg hk0] at h3
                have hk2 := hkr (by omega)
                obtain ⟨kn, hkn⟩ : ∃ kn : Nat, k = kn := ⟨k.toNat, by omega⟩
                subst hkn
                simp only [Int.toNat_natCast] at h3 hk2
                obtain ⟨e, he⟩ : ∃ e, kn + 4 = e := ⟨_, rfl⟩
                have w2 : IntKind.i64.wrap ((kn : Int) + 4) = (e : Int) := by rw [w64 (by omega) (by omega)]; omega
                have w3 : IntKind.i64.wrap ((j : Int) + (e : Int)) = ((j + e : Nat) : Int) := by rw [w64 (by omega) (by omega)]; omega
                have w5 : (e : Int) ≤ rest.length := by omega
                rw [he] at h3
                clear hkr
                cases hbb : bb
                · cases hct : Lib.contains (rest.take e) [10]
                  · rw [hbb, hct] at h3
                    have lx2 := lx.put (j + e) false
                    subst hbb
                    replace h3 := Shut.mk h3
                    replace lx2 := Shut.mk lx2
                    refine awp_eqs (s' := [_, _, x 2, x 3, x 4, x 5, x 6, x 7, x 8, x 9, x 10, x 11, x 12, x 13, x 14, x 15, x 16, x 17, x 18, x 19, x 20, x 21, x 22, x 23, x 24, x 25, x 26, x 27, x 28, x 29, x 30, x 31, x 32, x 33, x 34, x 35, x 36, x 37, x 38, x 39, x 40, x 41, x 42, x 43, x 44, x 45, x 46, x 47, x 48, x 49, x 50, x 51, x 52, x 53, x 54, x 55, x 56, x 57, x 58, x 59, x 60, x 61, x 62, x 63, x 64, x 65, x 66, x 67, x 68, x 69, x 70, x 71, x 72, x 73, x 74, x 75, x 76, x 77, x 78, x 79, x 80, x 81, x 82, x 83, x 84, x 85, x 86, x 87, x 88, x 89, x 90, x 91, x 92, x 93, x 94, x 95, x 96, x 97, x 98, x 99, x 100, x 101, x 102, x 103, x 104, x 105, x 106, x 107, x 108, x 109, x 110, x 111, x 112, x 113, x 114, x 115]) rfl ?_
                    (focus repeat' first|refine ga ?_|(refine gb ?_;try simp[gz, *])|refine gk fun _ _=>?_|refine gc ?_ ?_|exact gr _|refine gi fun _=>?_|(refine gn ?_ ?_;focus(intros;simp[*];done)))
                    refine awp_region_quiet follows (by kernel_rfl) ?_; simp [gz, *]
                    (focus repeat' first|refine ga ?_|(refine gb ?_;try simp[gz, *])|refine gk fun _ _=>?_|refine gc ?_ ?_|exact gr _|refine gi fun _=>?_|(refine gn ?_ ?_;focus(intros;simp[*];done)))
                    refine awp_region_quiet follows (by kernel_rfl) ?_; simp [gz, *]
                    (focus repeat' first|refine ga ?_|(refine gb ?_;try simp[gz, *])|refine gk fun _ _=>?_|refine gc ?_ ?_|exact gr _|refine gi fun _=>?_|(refine gn ?_ ?_;focus(intros;simp[*];done)))
                    refine HasPrefix_c rest [47, 47] _ (lx.sub _ _ h0) _ ?_
                    rw [hp]
                    simp [gz, *]
                    (focus repeat' first|refine ga ?_|(refine gb ?_;try simp[gz, *])|refine gk fun _ _=>?_|refine gc ?_ ?_|exact gr _|refine gi fun _=>?_|(refine gn ?_ ?_;focus(intros;simp[*];done)))
                    refine HasPrefix_c rest [47, 42] _ (lx.sub _ _ h0) _ ?_
                    rw [hp2]
                    simp [gz, *]
                    (focus repeat' first|refine ga ?_|(refine gb ?_;try simp[gz, *])|refine gk fun _ _=>?_|refine gc ?_ ?_|exact gr _|refine gi fun _=>?_|(refine gn ?_ ?_;focus(intros;simp[*];done)))
                    refine SIndex_c (rest.drop 2) [42, 47] (by rw [List.length_drop]; omega) _ (lx.sub _ _ h0) _ ?_
                    rw [hk]
                    simp [gz, *]
                    (focus repeat' first|refine ga ?_|(refine gb ?_;try simp[gz, *])|refine gk fun _ _=>?_|refine gc ?_ ?_|exact gr _|refine gi fun _=>?_|(refine gn ?_ ?_;focus(intros;simp[*];done)))
                    refine Contains_c (rest.take e) [10] (by rw [List.length_take]; omega) _ (lx.sub _ _ h0) _ ?_
                    rw [hct]
                    simp [gz, *]
                    (focus repeat' first|refine ga ?_|(refine gb ?_;try simp[gz, *])|refine gk fun _ _=>?_|refine gc ?_ ?_|exact gr _|refine gi fun _=>?_|(refine gn ?_ ?_;focus(intros;simp[*];done)))
                    exact ⟨by kernel_rfl, rfl, n', _, by omega, Sub.refl _, n', j + e, false, rfl, by omega, by omega, h3.out, lx2.out⟩
                  · rw [hbb, hct] at h3
                    have lx2 := lx.put (j + e) true
                    subst hbb
                    replace h3 := Shut.mk h3
                    replace lx2 := Shut.mk lx2
                    refine awp_eqs (s' := [_, _, x 2, x 3, x 4, x 5, x 6, x 7, x 8, x 9, x 10, x 11, x 12, x 13, x 14, x 15, x 16, x 17, x 18, x 19, x 20, x 21, x 22, x 23, x 24, x 25, x 26, x 27, x 28, x 29, x 30, x 31, x 32, x 33, x 34, x 35, x 36, x 37, x 38, x 39, x 40, x 41, x 42, x 43, x 44, x 45, x 46, x 47, x 48, x 49, x 50, x 51, x 52, x 53, x 54, x 55, x 56, x 57, x 58, x 59, x 60, x 61, x 62, x 63, x 64, x 65, x 66, x 67, x 68, x 69, x 70, x 71, x 72, x 73, x 74, x 75, x 76, x 77, x 78, x 79, x 80, x 81, x 82, x 83, x 84, x 85, x 86, x 87, x 88, x 89, x 90, x 91, x 92, x 93, x 94, x 95, x 96, x 97, x 98, x 99, x 100, x 101, x 102, x 103, x 104, x 105, x 106, x 107, x 108, x 109, x 110, x 111, x 112, x 113, x 114, x 115]) rfl ?_
                    (focus repeat' first|refine ga ?_|(refine gb ?_;try simp[gz, *])|refine gk fun _ _=>?_|refine gc ?_ ?_|exact gr _|refine gi fun _=>?_|(refine gn ?_ ?_;focus(intros;simp[*];done)))
                    refine awp_region_quiet follows (by kernel_rfl) ?_; simp [gz, *]
                    (focus repeat' first|refine ga ?_|(refine gb ?_;try simp[gz, *])|refine gk fun _ _=>?_|refine gc ?_ ?_|exact gr _|refine gi fun _=>?_|(refine gn ?_ ?_;focus(intros;simp[*];done)))
                    refine awp_region_quiet follows (by kernel_rfl) ?_; simp [gz, *]
                    (focus repeat' first|refine ga ?_|(refine gb ?_;try simp[gz, *])|refine gk fun _ _=>?_|refine gc ?_ ?_|exact gr _|refine gi fun _=>?_|(refine gn ?_ ?_;focus(intros;simp[*];done)))
                    refine HasPrefix_c rest [47, 47] _ (lx.sub _ _ h0) _ ?_
                    rw [hp]
                    simp [gz, *]
                    (focus repeat' first|refine ga ?_|(refine gb ?_;try simp[gz, *])|refine gk fun _ _=>?_|refine gc ?_ ?_|exact gr _|refine gi fun _=>?_|(refine gn ?_ ?_;focus(intros;simp[*];done)))
                    refine HasPrefix_c rest [47, 42] _ (lx.sub _ _ h0) _ ?_
                    rw [hp2]
                    simp [gz, *]
                    (focus repeat' first|refine ga ?_|(refine gb ?_;try simp[gz, *])|refine gk fun _ _=>?_|refine gc ?_ ?_|exact gr _|refine gi fun _=>?_|(refine gn ?_ ?_;focus(intros;simp[*];done)))
                    refine SIndex_c (rest.drop 2) [42, 47] (by rw [List.length_drop]; omega) _ (lx.sub _ _ h0) _ ?_
                    rw [hk]
                    simp [gz, *]
                    (focus repeat' first|refine ga ?_|(refine gb ?_;try simp[gz, *])|refine gk fun _ _=>?_|refine gc ?_ ?_|exact gr _|refine gi fun _=>?_|(refine gn ?_ ?_;focus(intros;simp[*];done)))
                    refine Contains_c (rest.take e) [10] (by rw [List.length_take]; omega) _ (lx.sub _ _ h0) _ ?_
                    rw [hct]
                    simp [gz, *]
                    (focus repeat' first|refine ga ?_|(refine gb ?_;try simp[gz, *])|refine gk fun _ _=>?_|refine gc ?_ ?_|exact gr _|refine gi fun _=>?_|(refine gn ?_ ?_;focus(intros;simp[*];done)))
                    exact ⟨by kernel_rfl, rfl, n', _, by omega, Sub.refl _, n', j + e, true, rfl, by omega, by omega, h3.out, lx2.out⟩
                · rw [hbb] at h3
                  have lx2 := lx.put (j + e) true
                  subst hbb
                  replace h3 := Shut.mk h3
                  replace lx2 := Shut.mk lx2
                  refine awp_eqs (s' := [_, _, x 2, x 3, x 4, x 5, x 6, x 7, x 8, x 9, x 10, x 11, x 12, x 13, x 14, x 15, x 16, x 17, x 18, x 19, x 20, x 21, x 22, x 23, x 24, x 25, x 26, x 27, x 28, x 29, x 30, x 31, x 32, x 33, x 34, x 35, x 36, x 37, x 38, x 39, x 40, x 41, x 42, x 43, x 44, x 45, x 46, x 47, x 48, x 49, x 50, x 51, x 52, x 53, x 54, x 55, x 56, x 57, x 58, x 59, x 60, x 61, x 62, x 63, x 64, x 65, x 66, x 67, x 68, x 69, x 70, x 71, x 72, x 73, x 74, x 75, x 76, x 77, x 78, x 79, x 80, x 81, x 82, x 83, x 84, x 85, x 86, x 87, x 88, x 89, x 90, x 91, x 92, x 93, x 94, x 95, x 96, x 97, x 98, x 99, x 100, x 101, x 102, x 103, x 104, x 105, x 106, x 107, x 108, x 109, x 110, x 111, x 112, x 113, x 114, x 115]) rfl ?_
                  (focus repeat' first|refine ga ?_|(refine gb ?_;try simp[gz, *])|refine gk fun _ _=>?_|refine gc ?_ ?_|exact gr _|refine gi fun _=>?_|(refine gn ?_ ?_;focus(intros;simp[*];done)))
                  refine awp_region_quiet follows (by kernel_rfl) ?_; simp [gz, *]
                  (focus repeat' first|refine ga ?_|(refine gb ?_;try simp[gz, *])|refine gk fun _ _=>?_|refine gc ?_ ?_|exact gr _|refine gi fun _=>?_|(refine gn ?_ ?_;focus(intros;simp[*];done)))
                  refine awp_region_quiet follows (by kernel_rfl) ?_; simp [gz, *]
                  (focus repeat' first|refine ga ?_|(refine gb ?_;try simp[gz, *])|refine gk fun _ _=>?_|refine gc ?_ ?_|exact gr _|refine gi fun _=>?_|(refine gn ?_ ?_;focus(intros;simp[*];done)))
                  refine HasPrefix_c rest [47, 47] _ (lx.sub _ _ h0) _ ?_
                  rw [hp]
                  simp [gz, *]
                  (focus repeat' first|refine ga ?_|(refine gb ?_;try simp[gz, *])|refine gk fun _ _=>?_|refine gc ?_ ?_|exact gr _|refine gi fun _=>?_|(refine gn ?_ ?_;focus(intros;simp[*];done)))
                  refine HasPrefix_c rest [47, 42] _ (lx.sub _ _ h0) _ ?_
                  rw [hp2]
                  simp [gz, *]
                  (focus repeat' first|refine ga ?_|(refine gb ?_;try simp[gz, *])|refine gk fun _ _=>?_|refine gc ?_ ?_|exact gr _|refine gi fun _=>?_|(refine gn ?_ ?_;focus(intros;simp[*];done)))
                  refine SIndex_c (rest.drop 2) [42, 47] (by rw [List.length_drop]; omega) _ (lx.sub _ _ h0) _ ?_
                  rw [hk]
                  simp [gz, *]
                  (focus repeat' first|refine ga ?_|(refine gb ?_;try simp[gz, *])|refine gk fun _ _=>?_|refine gc ?_ ?_|exact gr _|refine gi fun _=>?_|(refine gn ?_ ?_;focus(intros;simp[*];done)))
                  exact ⟨by kernel_rfl, rfl, n', _, by omega, Sub.refl _, n', j + e, true, rfl, by omega, by omega, h3.out, lx2.out⟩
          · rw [if_pos (Or.inr hp)] at h3
            have h47 : c = 47 := by
              have q : Lib.hasPrefix rest [47, 47] = true := hp
              cases rest with
              | nil => simp at hr0
              | cons y ys =>
                simp at hr0
                subst hr0
                unfold Lib.hasPrefix at q
                simp [List.isPrefixOf] at q
                exact q.1.symm
            obtain ⟨k, hk⟩ : ∃ k, Lib.indexByte rest 10 = k := ⟨_, rfl⟩
            rw [hk] at h3
            have hkr : 0 ≤ k → 0 < k.toNat ∧ k.toNat < rest.length := fun h => by
              obtain ⟨q1, q2⟩ := Lib.indexByte_some (o := k.toNat) (by rw [hk]; omega : Lib.indexByte rest 10 = k.toNat)
              have q3 := (List.getElem?_eq_some_iff.1 q1).1
              refine ⟨?_, q3⟩
              rcases Nat.eq_zero_or_pos k.toNat with e | e
              · rw [e, hr0] at q1
                injection q1 with q1
                exact absurd q1 (by rw [h47]; decide)
              · exact e
            clear h47 h35
            by_cases hk0 : k < 0
            · rw [if_pos hk0] at h3
              have w2 : IntKind.i64.wrap ((j : Int) + (rest.length : Int)) = ((j + rest.length : Nat) : Int) := by rw [w64 (by omega) (by omega)]; omega
              have lx2 := lx.put (j + rest.length) bb
              replace h3 := Shut.mk h3
              replace lx2 := Shut.mk lx2
              refine awp_eqs (s' := [_, _, x 2, x 3, x 4, x 5, x 6, x 7, x 8, x 9, x 10, x 11, x 12, x 13, x 14, x 15, x 16, x 17, x 18, x 19, x 20, x 21, x 22, x 23, x 24, x 25, x 26, x 27, x 28, x 29, x 30, x 31, x 32, x 33, x 34, x 35, x 36, x 37, x 38, x 39, x 40, x 41, x 42, x 43, x 44, x 45, x 46, x 47, x 48, x 49, x 50, x 51, x 52, x 53, x 54, x 55, x 56, x 57, x 58, x 59, x 60, x 61, x 62, x 63, x 64, x 65, x 66, x 67, x 68, x 69, x 70, x 71, x 72, x 73, x 74, x 75, x 76, x 77, x 78, x 79, x 80, x 81, x 82, x 83, x 84, x 85, x 86, x 87, x 88, x 89, x 90, x 91, x 92, x 93, x 94, x 95, x 96, x 97, x 98, x 99, x 100, x 101, x 102, x 103, x 104, x 105, x 106, x 107, x 108, x 109, x 110, x 111, x 112, x 113, x 114, x 115]) rfl ?_
              (focus repeat' first|refine ga ?_|(refine gb ?_;try simp[gz, *])|refine gk fun _ _=>?_|refine gc ?_ ?_|exact gr _|refine gi fun _=>?_|(refine gn ?_ ?_;focus(intros;simp[*];done)))
              refine awp_region_quiet follows (by kernel_rfl) ?_; simp [gz, *]
              (focus repeat' first|refine ga ?_|(refine gb ?_;try simp[gz, *])|refine gk fun _ _=>?_|refine gc ?_ ?_|exact gr _|refine gi fun _=>?_|(refine gn ?_ ?_;focus(intros;simp[*];done)))
              refine awp_region_quiet follows (by kernel_rfl) ?_; simp [gz, *]
              (focus repeat' first|refine ga ?_|(refine gb ?_;try simp[gz, *])|refine gk fun _ _=>?_|refine gc ?_ ?_|exact gr _|refine gi fun _=>?_|(refine gn ?_ ?_;focus(intros;simp[*];done)))
              refine HasPrefix_c rest [47, 47] _ (lx.sub _ _ h0) _ ?_
              rw [hp]
              simp [gz, *]
              (focus repeat' first|refine ga ?_|(refine gb ?_;try simp[gz, *])|refine gk fun _ _=>?_|refine gc ?_ ?_|exact gr _|refine gi fun _=>?_|(refine gn ?_ ?_;focus(intros;simp[*];done)))
              refine IndexByte_c rest 10 _ _ ?_
              rw [hk]
              simp [gz, *]
              (focus repeat' first|refine ga ?_|(refine gb ?_;try simp[gz, *])|refine gk fun _ _=>?_|refine gc ?_ ?_|exact gr _|refine gi fun _=>?_|(refine gn ?_ ?_;focus(intros;simp[*];done)))
              exact ⟨by kernel_rfl, rfl, n', _, by omega, Sub.refl _, n', j + rest.length, bb, rfl, by omega, by omega, h3.out, lx2.out⟩
            · rw [if_neg hk0] at h3
              have hk2 := hkr (by omega)
              obtain ⟨kn, hkn⟩ : ∃ kn : Nat, k = kn := ⟨k.toNat, by omega⟩
              subst hkn
              simp only [Int.toNat_natCast] at h3 hk2
              have w2 : IntKind.i64.wrap ((j : Int) + (kn : Int)) = ((j + kn : Nat) : Int) := by rw [w64 (by omega) (by omega)]; omega
              have lx2 := lx.put (j + kn) bb
              replace h3 := Shut.mk h3
              replace lx2 := Shut.mk lx2
              refine awp_eqs (s' := [_, _, x 2, x 3, x 4, x 5, x 6, x 7, x 8, x 9, x 10, x 11, x 12, x 13, x 14, x 15, x 16, x 17, x 18, x 19, x 20, x 21, x 22, x 23, x 24, x 25, x 26, x 27, x 28, x 29, x 30, x 31, x 32, x 33, x 34, x 35, x 36, x 37, x 38, x 39, x 40, x 41, x 42, x 43, x 44, x 45, x 46, x 47, x 48, x 49, x 50, x 51, x 52, x 53, x 54, x 55, x 56, x 57, x 58, x 59, x 60, x 61, x 62, x 63, x 64, x 65, x 66, x 67, x 68, x 69, x 70, x 71, x 72, x 73, x 74, x 75, x 76, x 77, x 78, x 79, x 80, x 81, x 82, x 83, x 84, x 85, x 86, x 87, x 88, x 89, x 90, x 91, x 92, x 93, x 94, x 95, x 96, x 97, x 98, x 99, x 100, x 101, x 102, x 103, x 104, x 105, x 106, x 107, x 108, x 109, x 110, x 111, x 112, x 113, x 114, x 115]) rfl ?_
              (focus repeat' first|refine ga ?_|(refine gb ?_;try simp[gz, *])|refine gk fun _ _=>?_|refine gc ?_ ?_|exact gr _|refine gi fun _=>?_|(refine gn ?_ ?_;focus(intros;simp[*];done)))
              refine awp_region_quiet follows (by kernel_rfl) ?_; simp [gz, *]
              (focus repeat' first|refine ga ?_|(refine gb ?_;try simp[gz, *])|refine gk fun _ _=>?_|refine gc ?_ ?_|exact gr _|refine gi fun _=>?_|(refine gn ?_ ?_;focus(intros;simp[*];done)))
              refine awp_region_quiet follows (by kernel_rfl) ?_; simp [gz, *]
              (focus repeat' first|refine ga ?_|(refine gb ?_;try simp[gz, *])|refine gk fun _ _=>?_|refine gc ?_ ?_|exact gr _|refine gi fun _=>?_|(refine gn ?_ ?_;focus(intros;simp[*];done)))
              refine HasPrefix_c rest [47, 47] _ (lx.sub _ _ h0) _ ?_
              rw [hp]
              simp [gz, *]
              (focus repeat' first|refine ga ?_|(refine gb ?_;try simp[gz, *])|refine gk fun _ _=>?_|refine gc ?_ ?_|exact gr _|refine gi fun _=>?_|(refine gn ?_ ?_;focus(intros;simp[*];done)))
              refine IndexByte_c rest 10 _ _ ?_
              rw [hk]
              simp [gz, *]
              (focus repeat' first|refine ga ?_|(refine gb ?_;try simp[gz, *])|refine gk fun _ _=>?_|refine gc ?_ ?_|exact gr _|refine gi fun _=>?_|(refine gn ?_ ?_;focus(intros;simp[*];done)))
              exact ⟨by kernel_rfl, rfl, n', _, by omega, Sub.refl _, n', j + kn, bb, rfl, by omega, by omega, h3.out, lx2.out⟩
  · have hji : ¬ (j : Int) < s.length := by omega
    have h4 : r = (none, j, bb) := by
      rw [← h3]
      cases m with
      | zero => rfl
      | succ m => simp only [gapR, if_neg hj]
    have hfi := hR.out g (by rw [h4]; exact lx)
    rw [h4] at hfi
    replace hfi := Shut.mk hfi
    clear h3 h4
    refine awp_eqs (s' := [_, _, x 2, x 3, x 4, x 5, x 6, x 7, x 8, x 9, x 10, x 11, x 12, x 13, x 14, x 15, x 16, x 17, x 18, x 19, x 20, x 21, x 22, x 23, x 24, x 25, x 26, x 27, x 28, x 29, x 30, x 31, x 32, x 33, x 34, x 35, x 36, x 37, x 38, x 39, x 40, x 41, x 42, x 43, x 44, x 45, x 46, x 47, x 48, x 49, x 50, x 51, x 52, x 53, x 54, x 55, x 56, x 57, x 58, x 59, x 60, x 61, x 62, x 63, x 64, x 65, x 66, x 67, x 68, x 69, x 70, x 71, x 72, x 73, x 74, x 75, x 76, x 77, x 78, x 79, x 80, x 81, x 82, x 83, x 84, x 85, x 86, x 87, x 88, x 89, x 90, x 91, x 92, x 93, x 94, x 95, x 96, x 97, x 98, x 99, x 100, x 101, x 102, x 103, x 104, x 105, x 106, x 107, x 108, x 109, x 110, x 111, x 112, x 113, x 114, x 115]) rfl ?_
    (focus repeat' first|refine ga ?_|(refine gb ?_;try simp[gz, *])|refine gk fun _ _=>?_|refine gc ?_ ?_|exact gr _|refine gi fun _=>?_|(refine gn ?_ ?_;focus(intros;simp[*];done)))
    refine awp_region_quiet follows (by kernel_rfl) ?_; simp [gz, *]
    (focus repeat' first|refine ga ?_|(refine gb ?_;try simp[gz, *])|refine gk fun _ _=>?_|refine gc ?_ ?_|exact gr _|refine gi fun _=>?_|(refine gn ?_ ?_;focus(intros;simp[*];done)))
    all_goals first | exact hfi.out | (simp only [NoGotoA]; (focus repeat' first|refine ga ?_|(refine gb ?_;try simp[gz, *])|refine gk fun _ _=>?_|refine gc ?_ ?_|exact gr _|refine gi fun _=>?_|(refine gn ?_ ?_;focus(intros;simp[*];done))); exact hfi.out) | trace_state
end Go.Proofs.YtcbgpjlcfkkdlaaGreatDoor

