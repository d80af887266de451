import Derived.Test.YtgcpgoggngkbjaaDoorQ
import Derived.Test.YtgcpgoggngkbjaaDoorO
import Derived.Test.YtgcpgoggngkbjaaDoorG
import Derived.Test.YtgcpgoggngkbjaaDoorAL17
import Derived.Lib.ItoaLen
set_option linter.unusedSimpArgs false
set_option linter.unusedVariables false
namespace Go.Proofs.YtgcpgoggngkbjaaDoor
open Go Go.AL Go.Proofs
theorem repL_int1 {F : Fin} {cs : Array Value} {n : Int} (h : RepL F cs [.int .i64 n]) : cs = #[.int .i64 n] := by
  obtain ⟨h1, h2⟩ := h
  have h3 := h2 0 (by simp)
  obtain ⟨l⟩ := cs
  match l, h1 with
  | [x], _ =>
    simp at h3
    cases h3
    rfl
theorem itoa_nat (i : Nat) : Lib.itoa (i : Int) = Lib.decDigits i := by
  unfold Lib.itoa
  rw [if_neg (by omega)]
  simp
theorem itoa_small : ItoaOn (fun n => 0 ≤ n ∧ n < 100) (fun _ => True) := by
  refine ⟨fun n hn => ?_, fun n h R hn _ hR => ?_⟩
  · have := Lib.itoa_length_le n (by omega) (by omega)
    omega
  · obtain ⟨i, rfl⟩ := Int.eq_ofNat_of_zero_le hn.1
    intro w0 F w cargs hi ha
    obtain rfl := repL_int1 ha
    refine (Tryd.strconv_Itoa_small i (by omega) w).mono ?_
    rintro e w' ⟨rfl, rfl⟩
    refine ⟨_, F, _, h, rfl, .refl F, hi, .str _ _ rfl, ?_⟩
    rw [itoa_nat] at hR
    exact hR
theorem Lines_c (P : Int → Prop) (H : Heap → Prop) (hI : ItoaOn P H) (hH : ∀ h g, AL.Sub h g → H h → H g) (f : Fn) (hf : f.steps.length ≤ 1048576) (hP : ∀ i : Nat, i < f.steps.length → P i) (hS : ∀ s ∈ f.steps, P s.a ∧ P s.b ∧ P s.c)
    (h : Heap) (hg : h 0 = some .gint) (hHh : H h) (R : AV → Heap → Prop) (hR : R (.list 1 (strs1 (linesL f)) .no) h) :
    ACalls Tryd.prog 12 [.agg (fnRow f)] h R := by
  refine ACalls.conv (LinesTok_c P H hI hH f hf hP hS h hg hHh (fun x g => ∃ tok, x = .list 1 (strs1 (linesL f)) tok ∧ AL.Sub h g) (fun tok g hg => ⟨tok, rfl, hg⟩)) ?_
  rintro x g ⟨tok, rfl, hg⟩
  exact ⟨_, _, View.of (Weak.tok _ _ tok) hg, hR⟩
/-- What a copy holds now. -/
structure CopyNow (g : Heap) (p : List Fn) (b : Nat) (cs : List AV) (kb kc : Nat → Nat) : Prop where
  len : p.length * 9 ≤ cs.length
  rows : ∀ j (hj : j < p.length) q, q < 9 → cs.getD (j * 9 + q) .any = (rowC p[j] (kb j) (kc j)).getD q .any
  steps : ∀ j (hj : j < p.length), p[j].steps ≠ [] → p[j].steps.length ≤ kc j ∧ ∃ sp, g (kb j) = some (.cells ((p[j].steps.map stRow).flatten ++ sp))
  blk : g b = some (.cells cs)
theorem CopyOf.now {h g : Heap} {p : List Fn} {b : Nat} {cs : List AV} {kb kc : Nat → Nat} (hC : CopyOf h g p b cs kb kc p.length) : CopyNow g p b cs kb kc :=
  ⟨hC.len, fun j hj q hq => by have := hC.rows j hj q hq; rwa [if_pos hj] at this, fun j hj hn => by obtain ⟨_, _, h3, h4⟩ := hC.steps j hj hj hn; exact ⟨h3, h4⟩, hC.blk⟩
theorem getD_rowsS (l : List Stp) (z : List AV) (j q : Nat) (hj : j < l.length) (hq : q < 4) : ((l.map stRow).flatten ++ z).getD (j * 4 + q) .any = (stRow l[j]).getD q .any := by
  have h1 : ∀ (rs : List (List AV)) (j q : Nat) (hr : ∀ r ∈ rs, r.length = 4) (hj : j < rs.length), q < 4 → (rs.flatten ++ z).getD (j * 4 + q) .any = rs[j].getD q .any := by
    intro rs
    induction rs with
    | nil => intro j q _ hj; simp at hj
    | cons r rs ih =>
      intro j q hr hj hq
      have hl := hr r (by simp)
      cases j with
      | zero =>
        simp only [List.flatten_cons, Nat.zero_mul, Nat.zero_add, List.append_assoc, List.getElem_cons_zero, List.getD]
        rw [List.getElem?_append_left (by omega)]
      | succ j =>
        have h2 := ih j q (fun x hx => hr x (by simp [hx])) (by simpa using hj) hq
        simp only [List.flatten_cons, List.append_assoc, List.getElem_cons_succ, List.getD] at h2 ⊢
        rw [List.getElem?_append_right (by omega), show (j + 1) * 4 + q - r.length = j * 4 + q by omega]
        exact h2
  have := h1 (l.map stRow) j q (by simp) (by simpa using hj) hq
  simpa using this
theorem rows4_len (l : List Stp) : ((l.map stRow).flatten).length = l.length * 4 := by
  induction l with
  | nil => rfl
  | cons a l ih => simp only [List.map_cons, List.flatten_cons, List.length_append, ih, List.length_cons, List.length_nil]; omega
theorem CopyNow.deepRow {g : Heap} {p : List Fn} {b : Nat} {cs : List AV} {kb kc : Nat → Nat} (hC : CopyNow g p b cs kb kc) (j : Nat) (hj : j < p.length) (q : Nat) (hq : q < 9) : Deep g ((rowC p[j] (kb j) (kc j)).getD q .any) ((fnRow p[j]).getD q .any) := by
  rcases (show q = 0 ∨ q = 1 ∨ q = 2 ∨ q = 3 ∨ q = 4 ∨ q = 5 ∨ q = 6 ∨ q = 7 ∨ q = 8 by omega) with rfl | rfl | rfl | rfl | rfl | rfl | rfl | rfl | rfl
  · by_cases e : p[j].steps = []
    · have h1 : (rowC p[j] (kb j) (kc j)).getD 0 .any = .list 4 [] .no := by simp [rowC, e]
      have h2 : (fnRow p[j]).getD 0 .any = .list 4 [] .no := by simp [e]
      rw [h1, h2]
      exact Deep.refl _ _
    · obtain ⟨h3, sp, h4⟩ := hC.steps j hj e
      have h1 : (rowC p[j] (kb j) (kc j)).getD 0 .any = .arr (kb j) 0 p[j].steps.length (kc j) := by simp [rowC, e]
      have h2 : (fnRow p[j]).getD 0 .any = .list 4 (p[j].steps.map stRow) .no := by simp
      rw [h1, h2]
      refine .arr (kb j) 0 p[j].steps.length (kc j) 4 _ _ h4 (by rw [List.length_append, rows4_len]; omega) h3 (by simp) (by simp) (fun i k hi hk => ?_)
      rw [Nat.zero_add, getD_rowsS _ _ _ _ hi hk]
      have h5 : (p[j].steps.map stRow).getD i [] = stRow p[j].steps[i] := by simp [List.getD, hi]
      rw [h5]
      exact Deep.refl _ _
  all_goals exact Deep.refl _ _
theorem CopyNow.deep {g : Heap} {p : List Fn} {b c : Nat} {cs : List AV} {kb kc : Nat → Nat} (hC : CopyNow g p b cs kb kc) (hc : p.length ≤ c) : Deep g (.agg [.arr b 0 p.length c]) (progAV p .no) := by
  refine .agg _ _ rfl (fun i hi => ?_)
  have : i = 0 := by simpa using hi
  subst this
  refine .arr b 0 p.length c 9 _ _ hC.blk (by have := hC.len; omega) hc (by simp) (by simp) (fun i k hi hk => ?_)
  rw [Nat.zero_add, hC.rows i hi k hk]
  have h5 : (p.map fnRow).getD i [] = fnRow p[i] := by simp [List.getD, hi]
  rw [h5]
  exact hC.deepRow i hi k hk
end Go.Proofs.YtgcpgoggngkbjaaDoor
