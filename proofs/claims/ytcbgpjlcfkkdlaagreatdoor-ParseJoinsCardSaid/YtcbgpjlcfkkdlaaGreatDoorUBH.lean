import Derived.Test.YtcbgpjlcfkkdlaaGreatDoorUBG
import Derived.Test.YtcbgpjlcfkkdlaaGreatDoorUAQ
set_option linter.unusedSimpArgs false
set_option linter.unusedVariables false
set_option maxRecDepth 100000
set_option maxHeartbeats 16000000
namespace Go.Proofs.YtcbgpjlcfkkdlaaGreatDoor
open Go Go.AL Go.Proofs
theorem shape26 : shapeL 26 [] = ([], 2) := by decide +kernel
theorem block_iff {N : List Nd} {l : List Int} : kidsL N ⟨26, 0, [], 0, l⟩ = true ↔ ∀ k ∈ l, 0 ≤ k ∧ fitsL (kindAt N k) 2 = true := by
 have hw : ∀ i, wantAt ⟨26, 0, [], 0, l⟩ i = 2 := fun i => by unfold wantAt; simp only [shape26]; rfl
 have hf : ∀ k, kidFine N k 2 = true ↔ 0 ≤ k ∧ fitsL (kindAt N k) 2 = true := fun k => by
  unfold kidFine
  rw [if_neg (show ¬ (k = -1 ∧ ¬ bitAnd .i64 2 4096 = 0) from fun h => h.2 (by decide +kernel))]
  simp
 have hd : ∀ k, kidFine N k 2 = true → isDefault N k = false := fun k h => by
  have h2 := (hf k).1 h
  cases e : isDefault N k with
  | false => rfl
  | true =>
   unfold isDefault at e
   simp only [Bool.and_eq_true, decide_eq_true_eq] at e
   rw [e.1.2] at h2
   exact absurd h2.2 (by decide +kernel)
 unfold kidsL
 rw [if_neg (show ¬ (26 : Int) = 20 by decide)]
 simp only [shape26, hw, Bool.and_eq_true, decide_eq_true_eq]
 constructor
 ·intro h k hk
  obtain ⟨i, hi, e⟩ := List.mem_iff_getElem.1 hk
  rw [← e]
  exact (hf _).1 (h.1.2 i hi)
 ·intro h
  refine ⟨⟨by simp, fun i hi => (hf _).2 (h _ (List.getElem_mem hi))⟩, ?_⟩
  have : l.countP (isDefault N) = 0 := List.countP_eq_zero.2 fun k hk => by rw [hd k ((hf k).2 (h k hk))]; decide
  rw [this]
  decide
theorem last_true {nodes : List Nd} {n i : Nat} {o : List Bool} {d : List Int} (h : runG formL kidsL nodes [] i o d = (0, 0)) (hn : nodes.length = n + 1) (ho : o.length = n + 1) : ∀ j, j < n → o.getD j false = true := by
 simp only [runG] at h
 unfold lastL at h
 split at h
 ·exact absurd (show (30 : Int) = 0 from congrArg Prod.fst h) (by decide)
 ·split at h
  ·exact absurd (show (3 : Int) = 0 from congrArg Prod.fst h) (by decide)
  ·rename_i hf
   intro j hj
   unfold firstNo at hf
   rw [hn, Nat.add_sub_cancel] at hf
   split at hf
   ·exact absurd (Int.natCast_nonneg _) hf
   ·rename_i e
    rw [List.findIdx?_eq_none_iff] at e
    have hm : o.getD j false ∈ o.take n := by
     rw [List.getD_eq_getElem?_getD, List.getElem?_eq_getElem (show j < o.length by omega), Option.getD_some]
     exact List.mem_iff_getElem.2 ⟨j, by rw [List.length_take]; omega, by rw [List.getElem_take]⟩
    simpa using e _ hm
theorem last_fine {nodes : List Nd} {n i : Nat} {o : List Bool} {d : List Int} {r : Nd} (hn : nodes[n]? = some r) (hk : r.kind = 26) (hl : nodes.length = n + 1) (ho : ∀ j, j < n → o.getD j false = true) : runG formL kidsL nodes [] i o d = (0, 0) := by
 simp only [runG]
 unfold lastL
 have e : kindAt nodes (nodes.length - 1 : Int) = 26 := by
  unfold kindAt
  rw [show ((nodes.length : Int) - 1).toNat = n by omega, hn]
  exact hk
 have hf : firstNo (o.take (nodes.length - 1)) = -1 := firstNo_none fun j hj => by
  rw [List.length_take, hl] at hj
  have := ho j (by omega)
  rw [List.getD_eq_getElem?_getD, List.getElem?_eq_getElem (by omega)] at this
  rw [List.getElem_take]
  exact this
 rw [if_neg (by rw [e]; decide), hf, if_neg (by decide)]
theorem getD_rep {α : Type} (n j : Nat) (x : α) : (List.replicate n x).getD j x = x := by
 rw [List.getD_eq_getElem?_getD, List.getElem?_replicate]
 split <;> rfl
theorem join_check {X X' Y Y' M : List Nd} {lx ly ex : List Int} {p m q : Nat} (hx : checkL (X ++ [⟨26, 0, [], 0, lx⟩]) = (0, 0)) (hy : checkL (Y ++ [⟨26, 0, [], 0, ly⟩]) = (0, 0)) (hp : X.length = p) (hq : Y.length = q) (hM : M.length = m)
  (nx : NdsR ((0 : Nat) : Int) X X') (ny : NdsR ((p + m : Nat) : Int) Y Y') (hm : (M = [] ∧ ex = []) ∨ ∃ pos : Int, 0 ≤ pos ∧ M = [⟨43, pos, [], 0, []⟩] ∧ ex = [(p : Int)]) (hl : p + m + q + 1 ≤ 131072) :
  checkL (X' ++ (M ++ (Y' ++ [⟨26, 0, [], 0, lx ++ (ex ++ ly.map (shi ((p + m : Nat) : Int)))⟩]))) = (0, 0) := by
 obtain ⟨rx, erx⟩ : ∃ r : Nd, ⟨26, 0, [], 0, lx⟩ = r := ⟨_, rfl⟩
 obtain ⟨ry, ery⟩ : ∃ r : Nd, ⟨26, 0, [], 0, ly⟩ = r := ⟨_, rfl⟩
 obtain ⟨rz, erz⟩ : ∃ r : Nd, ⟨26, 0, [], 0, lx ++ (ex ++ ly.map (shi ((p + m : Nat) : Int)))⟩ = r := ⟨_, rfl⟩
 rw [erx] at hx
 rw [ery] at hy
 rw [erz]
 obtain ⟨nxs, enx⟩ : ∃ n, X ++ [rx] = n := ⟨_, rfl⟩
 obtain ⟨nys, eny⟩ : ∃ n, Y ++ [ry] = n := ⟨_, rfl⟩
 obtain ⟨nz, enz⟩ : ∃ n, X' ++ (M ++ (Y' ++ [rz])) = n := ⟨_, rfl⟩
 have lX' : X'.length = p := nx.1.trans hp
 have lY' : Y'.length = q := ny.1.trans hq
 have lnx : nxs.length = p + 1 := by rw [← enx]; simp [hp]
 have lny : nys.length = q + 1 := by rw [← eny]; simp [hq]
 have lnz : nz.length = p + m + q + 1 := by rw [← enz]; simp [lX', hM, lY']; omega
 have gx : ∀ j, j < p → nxs[j]? = X[j]? := fun j hj => by rw [← enx, List.getElem?_append_left (by omega)]
 have gy : ∀ j, j < q → nys[j]? = Y[j]? := fun j hj => by rw [← eny, List.getElem?_append_left (by omega)]
 have gz1 : ∀ j, j < p → nz[j]? = X'[j]? := fun j hj => by rw [← enz, List.getElem?_append_left (by omega)]
 have gz2 : ∀ j, nz[p + j]? = (M ++ (Y' ++ [rz]))[j]? := fun j => by rw [← enz, List.getElem?_append_right (by omega), lX', Nat.add_sub_cancel_left]
 have gz3 : ∀ j, nz[p + m + j]? = (Y' ++ [rz])[j]? := fun j => by rw [Nat.add_assoc, gz2, List.getElem?_append_right (by omega), hM, Nat.add_sub_cancel_left]
 have gz4 : nz[p + m + q]? = some rz := by rw [gz3, List.getElem?_append_right (by omega), lY', Nat.sub_self]; rfl
 have w1 : Win 0 p nxs nz := fun j hj => by
  refine ⟨X[j]'(by omega), X'[j]'(by omega), ?_, ?_, nx.2 j _ _ (List.getElem?_eq_getElem _) (List.getElem?_eq_getElem _)⟩
  ·rw [gx j hj]; exact List.getElem?_eq_getElem _
  ·rw [Nat.zero_add, gz1 j hj]; exact List.getElem?_eq_getElem _
 have w2 : Win (p + m) q nys nz := fun j hj => by
  refine ⟨Y[j]'(by omega), Y'[j]'(by omega), ?_, ?_, ny.2 j _ _ (List.getElem?_eq_getElem _) (List.getElem?_eq_getElem _)⟩
  ·rw [gy j hj]; exact List.getElem?_eq_getElem _
  ·rw [gz3, List.getElem?_append_left (by omega)]; exact List.getElem?_eq_getElem _
 have start : ∀ {nodes : List Nd} {n : Nat}, nodes.length = n + 1 → checkL nodes = (0, 0) → runG formL kidsL nodes nodes 0 (List.replicate (n + 1) false) (List.replicate (n + 1) 0) = (0, 0) := fun {nodes n} h hc => by
  unfold checkL checkG at hc
  split at hc
  ·exact absurd (show (2 : Int) = 0 from congrArg Prod.fst hc) (by decide)
  ·rw [h] at hc; exact hc
 have rx0 := start lnx (enx ▸ hx)
 have ry0 := start lny (eny ▸ hy)
 rw [enz]
 unfold checkL checkG
 rw [if_neg (show ¬ (nz = [] ∨ 131072 < nz.length) from fun h => by rcases h with h | h; (rw [h] at lnz; simp at lnz); omega), lnz]
 -- the first source's nodes
 obtain ⟨ox, ox', dx, dx', sx, fx, ex1⟩ := seg (g := fun _ => 0) (f := fun _ => false) w1 (lx := p + 1) (lz := p + m + q + 1) (by omega) (by omega) [rx] (M ++ (Y' ++ [rz])) X X' 0 (List.replicate (p + 1) false) (List.replicate (p + m + q + 1) false) (List.replicate (p + 1) 0) (List.replicate (p + m + q + 1) 0) nx (by omega)
  ⟨by simp, by simp, by simp, by simp, fun j h => absurd h (Nat.not_lt_zero j), fun j h => absurd h (Nat.not_lt_zero j), fun j _ => getD_rep _ _ _, fun j _ => getD_rep _ _ _, fun j _ => getD_rep _ _ _, fun j _ => getD_rep _ _ _, fun j h => absurd h (Nat.not_lt_zero j), fun j h => absurd h (Nat.not_lt_zero j)⟩ (by rw [enx]; exact rx0)
 rw [enz, hp] at ex1
 simp only [Nat.zero_add] at ex1
 rw [hp, Nat.zero_add] at fx sx
 rw [ex1]
 obtain ⟨ox2, dx2, -, kx, gkx, dmx, lastx⟩ := run_inv fx
 have allx := last_true lastx lnx (by
  have := kl_sim (off := 0) (i' := p) (by omega) kx (o' := ox) (d' := dx) (by rw [sx.ol]; omega) (by rw [sx.ol]; omega) (by rw [sx.dl]; omega) (by rw [sx.dl]; omega) (fun j _ => by rw [Nat.zero_add]) (fun j _ => by rw [Nat.zero_add]) dmx (by rw [sx.zd p (Nat.le_refl _)]; decide)
  obtain ⟨_, _, _, r⟩ := this
  rw [r.ol, sx.ol])
 -- the sign between
 have em : runG formL kidsL nz (M ++ (Y' ++ [rz])) p ox' dx' = runG formL kidsL nz (Y' ++ [rz]) (p + m) ox' dx' := by
  rcases hm with ⟨rfl, -⟩ | ⟨pos, h0, rfl, -⟩
  ·rw [← hM]; rfl
  ·rw [← hM]
   refine run_cons (by simp [formL, textL, h0]) rfl ?_ (by rw [sx.zd' p (by omega)]; decide)
   simp [kidsL, shapeL]
 rw [em]
 -- the second one's nodes
 obtain ⟨oy, oy', dy, dy', sy, fy, ey1⟩ := seg (g := fun j => dx'.getD j 0) (f := fun j => ox'.getD j false) w2 (lx := q + 1) (lz := p + m + q + 1) (by omega) (by omega) [ry] [rz] Y Y' 0 (List.replicate (q + 1) false) ox' (List.replicate (q + 1) 0) dx' ny (by omega)
  ⟨by simp, by simp, sx.ol', sx.dl', fun j h => absurd h (Nat.not_lt_zero j), fun j h => absurd h (Nat.not_lt_zero j), fun j _ => getD_rep _ _ _, fun j _ => getD_rep _ _ _, fun j h => sx.od' j (by omega), fun j h => sx.zd' j (by omega), fun _ _ => rfl, fun _ _ => rfl⟩ (by rw [eny]; exact ry0)
 rw [hq, Nat.zero_add] at ey1 fy sy
 rw [Nat.add_zero] at ey1
 rw [ey1]
 obtain ⟨oy2, dy2, -, ky, gky, dmy, lasty⟩ := run_inv fy
 -- the block
 have kx2 : kidLoop p lx ox dx = .inr (ox2, dx2) := by rw [← erx] at kx; exact kx
 have ky2 : kidLoop q ly oy dy = .inr (oy2, dy2) := by rw [← ery] at ky; exact ky
 obtain ⟨o4, d4, k4, r4⟩ := kl_sim (off := 0) (i' := p + m + q) (by omega) kx2 (o' := oy') (d' := dy') (by rw [sx.ol]; omega) (by rw [sy.ol']; omega) (by rw [sx.dl]; omega) (by rw [sy.dl']; omega)
  (fun j hj => by rw [Nat.zero_add, sy.fr j (by omega), ← sx.oo j hj, Nat.zero_add]) (fun j hj => by rw [Nat.zero_add, sy.gr j (by omega), ← sx.dd j hj, Nat.zero_add]) dmx (by rw [sy.zd' _ (Nat.le_refl _)]; decide)
 rw [map_shi_zero] at k4
 have mid : ∃ o5 d5, kidLoop (p + m + q) ex o4 d4 = .inr (o5, d5) ∧ o5.length = p + m + q + 1 ∧ d5.length = p + m + q + 1 ∧ (∀ j, ¬ (p ≤ j ∧ j < p + m) → o5.getD j false = o4.getD j false) ∧ (∀ j, p ≤ j → j < p + m → o5.getD j false = true) ∧ (∀ j, ¬ j = p + m + q → d5.getD j 0 = d4.getD j 0) ∧ d5.getD (p + m + q) 0 ≤ 200 := by
  rcases hm with ⟨rfl, rfl⟩ | ⟨pos, h0, rfl, rfl⟩
  ·simp only [List.length_nil] at hM
   exact ⟨o4, d4, rfl, by rw [r4.ol', sy.ol'], by rw [r4.dl', sy.dl'], fun _ _ => rfl, fun j h1 h2 => by omega, fun _ _ => rfl, r4.dm⟩
  ·simp only [List.length_cons, List.length_nil] at hM
   have ho : o4.getD p false = false := by rw [r4.oz p (by omega), sy.fr p (by omega)]; exact sx.od' p (by omega)
   have hd : d4.getD p 0 = 0 := by rw [r4.dz p (by omega), sy.gr p (by omega)]; exact sx.zd' p (by omega)
   have hd4 : d4.length = p + m + q + 1 := by rw [r4.dl', sy.dl']
   have ho4 : o4.length = p + m + q + 1 := by rw [r4.ol', sy.ol']
   refine ⟨o4.set p true, d4.set (p + m + q) (max (d4.getD (p + m + q) 0) (d4.getD p 0 + 1)), ?_, by rw [List.length_set, ho4], by rw [List.length_set, hd4], fun j hj => ?_, fun j h1 h2 => ?_, fun j hj => ?_, ?_⟩
   ·have a1 : ¬ ((p : Int) < -1 ∨ ((p + m + q : Nat) : Int) ≤ p) := by omega
    have a2 : ¬ ((p : Int) < 0) := by omega
    simp only [kidLoop, a1, a2, if_false, Int.toNat_natCast, ho, Bool.false_eq_true]
   ·rw [getD_set' _ _ _ _ _ (by omega), if_neg (by omega)]
   ·rw [getD_set' _ _ _ _ _ (by omega), if_pos (by omega)]
   ·rw [getD_set' _ _ _ _ _ (by omega), if_neg (by omega)]
   ·rw [getD_set' _ _ _ _ _ (by omega), if_pos rfl, hd]
    have := r4.dm
    omega
 obtain ⟨o5, d5, k5, l5, m5, a5, b5, c5, e5⟩ := mid
 obtain ⟨o6, d6, k6, r6⟩ := kl_sim (off := p + m) (i' := p + m + q) (Nat.le_refl _) ky2 (o' := o5) (d' := d5) (by rw [sy.ol]; omega) (by omega) (by rw [sy.dl]; omega) (by omega)
  (fun j hj => by rw [a5 _ (by omega), r4.oz _ (by omega)]; exact sy.oo j hj) (fun j hj => by rw [c5 _ (by omega), r4.dz _ (by omega)]; exact sy.dd j hj) dmy e5
 have hk : kidLoop (p + m + q) rz.kids oy' dy' = .inr (o6, d6) := by
  rw [← erz]
  show kidLoop (p + m + q) (lx ++ (ex ++ ly.map (shi ((p + m : Nat) : Int)))) oy' dy' = _
  rw [kl_append _ _ k4, kl_append _ _ k5]
  exact k6
 have ally := last_true lasty lny (by rw [r6.ol, sy.ol])
 have hfm : formL rz = true := by rw [← erz]; simp [formL, textL]
 have hkd : kidsL nz rz = true := by
  rw [← erz, block_iff]
  rw [← erx, block_iff] at gkx
  rw [← ery, block_iff] at gky
  intro k hmem
  rcases List.mem_append.1 hmem with h | h
  ·have h1 := gkx k h
   have h2 := kl_range kx2 k h
   have h3 := win_kind w1 h1.1 (by omega)
   rw [shi_zero] at h3
   rw [h3]
   exact h1
  ·rcases List.mem_append.1 h with h | h
   ·rcases hm with ⟨-, rfl⟩ | ⟨pos, h0, rfl, rfl⟩
    ·cases h
    ·obtain rfl := List.mem_singleton.1 h
     refine ⟨by omega, ?_⟩
     have e : kindAt nz (p : Int) = 43 := by
      unfold kindAt
      rw [Int.toNat_natCast, show p = p + 0 from rfl, gz2]
      rfl
     rw [e]
     decide +kernel
   ·obtain ⟨k0, hk0, rfl⟩ := List.mem_map.1 h
    have h1 := gky k0 hk0
    have h2 := kl_range ky2 k0 hk0
    rw [win_kind w2 h1.1 (by omega)]
    exact ⟨(shi_sign (K := p + m) k0).2 h1.1, h1.2⟩
 rw [run_cons hfm hk hkd r6.dm]
 refine last_fine gz4 (by rw [← erz]) lnz fun j hj => ?_
 by_cases h1 : j < p
 ·rw [r6.oz j (by omega), a5 j (by omega)]
  have := r4.oo j h1
  rw [Nat.zero_add] at this
  rw [this]
  exact allx j h1
 ·by_cases h2 : j < p + m
  ·rw [r6.oz j (by omega)]; exact b5 j (by omega) h2
  ·obtain ⟨j', rfl⟩ : ∃ j', j = p + m + j' := ⟨j - (p + m), by omega⟩
   rw [r6.oo j' (by omega)]
   exact ally j' (by omega)
end Go.Proofs.YtcbgpjlcfkkdlaaGreatDoor

namespace Go.Proofs.YtcbgpjlcfkkdlaaGreatDoor
open Go Go.AL Go.Proofs
theorem hp_ext (w : List UInt8) : ∀ (r p : List UInt8), (10 : UInt8) ∉ p → Lib.hasPrefix (r ++ 10 :: w) p = Lib.hasPrefix r p
 | [], [], _ => rfl
 | [], c :: p, h => by
  have hc : ¬ c = 10 := fun e => h (by rw [e]; exact List.mem_cons_self)
  unfold Lib.hasPrefix
  simp [List.isPrefixOf, hc]
 | x :: r, [], _ => rfl
 | x :: r, c :: p, h => by
  have := hp_ext w r p (fun q => h (List.mem_cons_of_mem _ q))
  unfold Lib.hasPrefix at this ⊢
  simp only [List.cons_append, List.isPrefixOf, this]
theorem hp_two {x y : UInt8} : ∀ {r : List UInt8}, Lib.hasPrefix r [x, y] = true → 2 ≤ r.length
 | [], h => by cases h
 | [_], h => by simp [Lib.hasPrefix, List.isPrefixOf] at h
 | _ :: _ :: _, _ => by simp
theorem ib_ext (w : List UInt8) : ∀ (r : List UInt8), Lib.indexByte (r ++ 10 :: w) 10 = if Lib.indexByte r 10 < 0 then (r.length : Int) else Lib.indexByte r 10
 | [] => rfl
 | x :: r => by
  have h := ib_ext w r
  have hge := Lib.indexByte_ge r 10
  simp only [List.cons_append, Lib.indexByte]
  by_cases hx : (x == 10) = true
  ·simp only [if_pos hx]; rfl
  ·simp only [if_neg hx]
   rw [h]
   by_cases hr : Lib.indexByte r 10 < 0
   ·have e : Lib.indexByte r 10 = -1 := by omega
    rw [e]
    simp
   ·rw [if_neg hr]
    simp only [beq_iff_eq]
    rw [if_neg (by omega), if_neg (by omega)]
theorem ix_ext (v : List UInt8) : ∀ (r : List UInt8), 0 ≤ Lib.index r [42, 47] → Lib.index (r ++ v) [42, 47] = Lib.index r [42, 47]
 | [], h => by exact absurd h (by decide)
 | x :: r, h => by
  have hge := Lib.index_ge r [42, 47]
  simp only [List.cons_append, Lib.index] at h ⊢
  by_cases hp : ([42, 47] : List UInt8).isPrefixOf (x :: r) = true
  ·have hp2 : ([42, 47] : List UInt8).isPrefixOf (x :: (r ++ v)) = true := by
    cases r with
    | nil => simp [List.isPrefixOf] at hp
    | cons y r => simpa [List.isPrefixOf] using hp
   rw [if_pos hp, if_pos hp2]
  ·rw [if_neg hp] at h ⊢
   simp only [beq_iff_eq] at h ⊢
   have hn : ¬ Lib.index r [42, 47] = -1 := fun e => by rw [if_pos e] at h; exact absurd h (by decide)
   have ih := ix_ext v r (by omega)
   have hp2 : ¬ ([42, 47] : List UInt8).isPrefixOf (x :: (r ++ v)) = true := by
    cases r with
    | nil => exact absurd (show Lib.index [] [42, 47] = -1 by decide) hn
    | cons y r => simpa [List.isPrefixOf] using hp
   rw [if_neg hp2, ih]
theorem tw_ext (w : List UInt8) : ∀ (r : List UInt8), (r ++ 10 :: w).takeWhile wordX = r.takeWhile wordX
 | [] => by simp [show wordX 10 = false by decide]
 | x :: r => by simp only [List.cons_append, List.takeWhile_cons, tw_ext w r]
theorem find_congr {α : Type} {p q : α → Bool} : ∀ {l : List α}, (∀ x ∈ l, p x = q x) → l.find? p = l.find? q
 | [], _ => rfl
 | x :: l, h => by
  rw [List.find?_cons, List.find?_cons, h x List.mem_cons_self, find_congr fun y hy => h y (List.mem_cons_of_mem _ hy)]
theorem signs_10 : ∀ x ∈ signsW, (10 : UInt8) ∉ x := by decide +kernel
section
variable {a w : List UInt8} {i : Nat}
theorem ext_get (h : i < a.length) : (a ++ 10 :: w).getD i 0 = a.getD i 0 := by rw [List.getD_eq_getElem?_getD, List.getElem?_append_left h, ← List.getD_eq_getElem?_getD]
theorem ext_drop (h : i ≤ a.length) : (a ++ 10 :: w).drop i = a.drop i ++ 10 :: w := List.drop_append_of_le_length h
theorem ext_len : (a ++ 10 :: w).length = a.length + w.length + 1 := by simp; omega
theorem gap_ext (w : List UInt8) : ∀ (n i m : Nat) (b : Bool), i ≤ a.length → a.length - i ≤ n → a.length - i + 2 ≤ m → (gapR a n i b).1 = none → ∃ j b', gapR a n i b = (none, j, b') ∧ i ≤ j ∧ j ≤ a.length ∧ gapR (a ++ 10 :: 59 :: w) m i b = if j < a.length then (none, j, b') else (none, a.length + 1, true)
 | n, i, 0, b, hi, hn, hm, hg => by omega
 | n, i, m + 1, b, hi, hn, hm, hg => by
  have hlen : (a ++ 10 :: 59 :: w).length = a.length + w.length + 2 := by simp only [List.length_append, List.length_cons]; omega
  have tail : ∀ m b, 2 ≤ m → gapR (a ++ 10 :: 59 :: w) m a.length b = (none, a.length + 1, true) := fun m b hm => by
   obtain ⟨k, rfl⟩ : ∃ k, m = k + 2 := ⟨m - 2, by omega⟩
   have g1 : (a ++ 10 :: 59 :: w).getD a.length 0 = 10 := by rw [List.getD_eq_getElem?_getD, List.getElem?_append_right (Nat.le_refl _), Nat.sub_self]; rfl
   have g2 : (a ++ 10 :: 59 :: w).getD (a.length + 1) 0 = 59 := by rw [List.getD_eq_getElem?_getD, List.getElem?_append_right (by omega), Nat.add_sub_cancel_left]; rfl
   have g3 : (a ++ 10 :: 59 :: w).drop (a.length + 1) = 59 :: w := by rw [List.drop_append, List.drop_eq_nil_of_le (by omega), Nat.add_sub_cancel_left]; rfl
   simp only [gapR]
   rw [if_pos (by omega), if_pos g1, if_pos (by omega), g2, g3]
   rfl
  by_cases he : i = a.length
  ·subst he
   refine ⟨a.length, b, ?_, Nat.le_refl _, Nat.le_refl _, ?_⟩
   ·cases n with
    | zero => rfl
    | succ n => simp only [gapR]; rw [if_neg (by omega)]
   ·rw [if_neg (by omega)]; exact tail _ _ (by omega)
  ·have hi2 : i < a.length := by omega
   cases n with
   | zero => omega
   | succ n =>
    simp only [gapR] at hg ⊢
    rw [if_pos hi2] at hg ⊢
    rw [if_pos (show i < (a ++ 10 :: 59 :: w).length by omega), ext_get hi2, ext_drop hi, hp_ext _ _ _ (by decide), hp_ext _ _ _ (by decide)]
    have hdl : (a.drop i).length = a.length - i := List.length_drop
    split at hg
    ·rename_i h; rw [if_pos h, if_pos h]
     obtain ⟨j, b', e1, e2, e3, e4⟩ := gap_ext w n (i + 1) m true (by omega) (by omega) (by omega) hg
     exact ⟨j, b', e1, by omega, e3, e4⟩
    ·rename_i h; rw [if_neg h, if_neg h]
     split at hg
     ·rename_i h; rw [if_pos h, if_pos h]
      obtain ⟨j, b', e1, e2, e3, e4⟩ := gap_ext w n (i + 1) m b (by omega) (by omega) (by omega) hg
      exact ⟨j, b', e1, by omega, e3, e4⟩
     ·rename_i h; rw [if_neg h, if_neg h]
      split at hg
      ·rename_i h; rw [if_pos h, if_pos h, ib_ext]
       split at hg
       ·rename_i hb
        rw [if_pos hb, if_pos hb, if_neg (by omega), hdl, Int.toNat_natCast, show i + (a.length - i) = a.length by omega]
        rw [show i + (a.drop i).length = a.length by omega] at hg
        obtain ⟨j, b', e1, e2, e3, e4⟩ := gap_ext w n a.length m b (Nat.le_refl _) (by omega) (by omega) hg
        exact ⟨j, b', e1, by omega, e3, e4⟩
       ·rename_i hb
        rw [if_neg hb, if_neg hb, if_neg hb]
        have hk2 : (Lib.indexByte (a.drop i) 10).toNat < (a.drop i).length := by
         obtain ⟨q1, -⟩ := Lib.indexByte_some (l := a.drop i) (c := 10) (o := (Lib.indexByte (a.drop i) 10).toNat) (by omega)
         exact (List.getElem?_eq_some_iff.1 q1).1
        have hz : (0 : Int) < Lib.indexByte (a.drop i) 10 := by
         rcases Int.lt_or_eq_of_le (show (0 : Int) ≤ Lib.indexByte (a.drop i) 10 by omega) with q | q
         ·exact q
         ·exfalso
          obtain ⟨q1, -⟩ := Lib.indexByte_some (l := a.drop i) (c := 10) (o := 0) (by omega)
          rw [List.getElem?_drop, Nat.add_zero] at q1
          have q2 : a.getD i 0 = 10 := by rw [List.getD_eq_getElem?_getD, q1]; rfl
          contradiction
        obtain ⟨j, b', e1, e2, e3, e4⟩ := gap_ext w n (i + (Lib.indexByte (a.drop i) 10).toNat) m b (by omega) (by omega) (by omega) hg
        exact ⟨j, b', e1, by omega, e3, e4⟩
      ·rename_i h; rw [if_neg h, if_neg h]
       split at hg
       ·rename_i h; rw [if_pos h, if_pos h]
        split at hg
        ·cases hg
        ·rename_i hb
         have hpl := hp_two h
         have hx := ix_ext (10 :: 59 :: w) ((a.drop i).drop 2) (by omega)
         have hk2 := Lib.index_room ((a.drop i).drop 2) [42, 47] (by omega)
         rw [List.length_drop] at hk2
         simp only [List.length_cons, List.length_nil] at hk2
         rw [List.drop_append_of_le_length (by omega), hx, if_neg hb, if_neg hb, List.take_append_of_le_length (by omega)]
         obtain ⟨j, b', e1, e2, e3, e4⟩ := gap_ext w n (i + ((Lib.index ((a.drop i).drop 2) [42, 47]).toNat + 4)) m (b || Lib.contains ((a.drop i).take ((Lib.index ((a.drop i).drop 2) [42, 47]).toNat + 4)) [10]) (by omega) (by omega) (by omega) hg
         exact ⟨j, b', e1, by omega, e3, e4⟩
       ·rename_i h; rw [if_neg h, if_neg h]
        exact ⟨i, b, rfl, Nat.le_refl _, hi, by rw [if_pos hi2]⟩
theorem wspan_ext (h : i ≤ a.length) : wspan (a ++ 10 :: w) i = wspan a i := by unfold wspan; rw [ext_drop h, tw_ext]
theorem spanW_ext (h : i ≤ a.length) : spanW (a ++ 10 :: w) i = spanW a i := by
 have := wspan_le h
 unfold spanW
 rw [wspan_ext h, ext_drop h, List.take_append_of_le_length (by rw [List.length_drop]; omega)]
theorem quo_ext {q : UInt8} : ∀ {n m j e : Nat}, quoR a q n j = some e → n ≤ m → quoR (a ++ 10 :: w) q m j = some e
 | 0, _, _, _, h, _ => by cases h
 | n + 1, 0, _, _, _, hm => by omega
 | n + 1, m + 1, j, e, h, hm => by
  simp only [quoR] at h ⊢
  split at h
  ·rename_i hj
   rw [if_pos (by rw [ext_len]; omega), ext_get hj]
   split at h
   ·rename_i h1; rw [if_pos h1]; exact h
   ·rename_i h1; rw [if_neg h1]
    split at h
    ·cases h
    ·rename_i h2; rw [if_neg h2]
     split at h
     ·rename_i h3; rw [if_pos h3]
      split at h
      ·cases h
      ·rename_i h4
       have hle := quoR_le h
       rw [ext_get (show j + 1 < a.length by omega), if_neg (fun q => h4 ⟨by omega, q.2⟩)]
       exact quo_ext h (by omega)
     ·rename_i h3; rw [if_neg h3]; exact quo_ext h (by omega)
  ·cases h
theorem raw_ext {q : UInt8} (hr : ¬ rawR a q i = none) : rawR (a ++ 10 :: w) q i = rawR a q i := by
 unfold rawR at hr ⊢
 cases e : quoR a q (a.length - i) (i + 1) with
 | none => rw [e] at hr; exact absurd rfl hr
 | some k =>
  have := quoR_le e
  rw [quo_ext e (by rw [ext_len]; omega)]
  simp only [Option.map_some]
  rw [List.take_append_of_le_length (by omega)]
def noErr (s : List UInt8) (i : Nat) : Prop := (avTok (nextR s i).1).2.2.2.1 = 0
theorem next_ext (h : i < a.length) (hn : noErr a i) : nextR (a ++ 10 :: w) i = nextR a i := by
 unfold noErr nextR at hn
 unfold nextR
 rw [ext_get h, spanW_ext (by omega), wspan_ext (by omega)]
 split
 ·rfl
 ·rename_i h1
  rw [if_neg h1] at hn
  split
  ·rfl
  ·rename_i h2
   rw [if_neg h2] at hn
   split
   ·rename_i h3
    rw [if_pos h3] at hn
    unfold strR at hn ⊢
    rw [raw_ext (fun q => by rw [q] at hn; exact absurd hn (show ¬ (5 : Int) = 0 by decide))]
   ·rename_i h3
    rw [if_neg h3] at hn
    split
    ·rename_i h4
     rw [if_pos h4] at hn
     unfold charR at hn ⊢
     rw [raw_ext (fun q => by rw [q] at hn; exact absurd hn (show ¬ (5 : Int) = 0 by decide))]
    ·rw [find_congr fun x hx => (by show Lib.hasPrefix ((a ++ 10 :: w).drop i) x = Lib.hasPrefix (a.drop i) x; rw [ext_drop (by omega)]; exact hp_ext _ _ _ (signs_10 x hx))]
variable {u b : List UInt8}
theorem sh_get : (u ++ b).getD (u.length + i) 0 = b.getD i 0 := by rw [List.getD_eq_getElem?_getD, List.getElem?_append_right (by omega), Nat.add_sub_cancel_left, ← List.getD_eq_getElem?_getD]
theorem sh_drop : (u ++ b).drop (u.length + i) = b.drop i := by rw [List.drop_append, List.drop_eq_nil_of_le (by omega), Nat.add_sub_cancel_left, List.nil_append]
theorem gap_sh : ∀ (n i : Nat) (l : Bool), gapR (u ++ b) n (u.length + i) l = ((gapR b n i l).1.map (u.length + ·), u.length + (gapR b n i l).2.1, (gapR b n i l).2.2)
 | 0, i, l => rfl
 | n + 1, i, l => by
  simp only [gapR]
  rw [sh_get, sh_drop]
  by_cases hi : i < b.length
  ·rw [if_pos hi, if_pos (by rw [List.length_append]; omega)]
   split
   ·rw [Nat.add_assoc]; exact gap_sh n _ _
   ·split
    ·rw [Nat.add_assoc]; exact gap_sh n _ _
    ·split
     ·split
      ·rw [Nat.add_assoc]; exact gap_sh n _ _
      ·rw [Nat.add_assoc]; exact gap_sh n _ _
     ·split
      ·split
       ·rfl
       ·rw [Nat.add_assoc]; exact gap_sh n _ _
      ·rfl
  ·rw [if_neg hi, if_neg (by rw [List.length_append]; omega)]
   rfl
theorem quo_sh {q : UInt8} : ∀ (n j : Nat), quoR (u ++ b) q n (u.length + j) = (quoR b q n j).map (u.length + ·)
 | 0, _ => rfl
 | n + 1, j => by
  simp only [quoR]
  rw [sh_get, Nat.add_assoc, sh_get]
  by_cases hj : j < b.length
  ·rw [if_pos hj, if_pos (by rw [List.length_append]; omega)]
   split
   ·rfl
   ·split
    ·rfl
    ·split
     ·have e : (u.length + (j + 1) < (u ++ b).length ∧ b.getD (j + 1) 0 = 10) ↔ (j + 1 < b.length ∧ b.getD (j + 1) 0 = 10) := by rw [List.length_append]; constructor <;> exact fun q => ⟨by omega, q.2⟩
      by_cases h : j + 1 < b.length ∧ b.getD (j + 1) 0 = 10
      ·rw [if_pos h, if_pos (e.2 h)]; rfl
      ·rw [if_neg h, if_neg (fun q => h (e.1 q)), Nat.add_assoc]; exact quo_sh n _
     ·exact quo_sh n _
  ·rw [if_neg hj, if_neg (by rw [List.length_append]; omega)]
   rfl
theorem raw_sh {q : UInt8} : rawR (u ++ b) q (u.length + i) = rawR b q i := by
 unfold rawR
 rw [List.length_append, show u.length + b.length - (u.length + i) = b.length - i by omega, Nat.add_assoc, quo_sh]
 cases e : quoR b q (b.length - i) (i + 1) with
 | none => rfl
 | some k =>
  simp only [Option.map_some]
  rw [List.take_append, List.take_of_length_le (show u.length ≤ u.length + k by omega), Nat.add_sub_cancel_left, sh_drop]
theorem next_sh (hn : noErr b i) : nextR (u ++ b) (u.length + i) = ((nextR b i).1, u.length + (nextR b i).2) := by
 unfold noErr nextR at hn
 unfold nextR
 have e1 : wspan (u ++ b) (u.length + i) = wspan b i := by unfold wspan; rw [sh_drop]
 have e2 : spanW (u ++ b) (u.length + i) = spanW b i := by unfold spanW; rw [e1, sh_drop]
 rw [sh_get, sh_drop, e1, e2]
 split
 ·rw [Nat.add_assoc]
 ·rename_i h1
  rw [if_neg h1] at hn
  split
  ·rename_i h2
   rw [if_pos h2] at hn
   rw [Nat.add_assoc]
   split
   ·rfl
   ·rename_i h
    simp only at hn
    rw [if_neg h] at hn
    exact absurd hn h
  ·rename_i h2
   rw [if_neg h2] at hn
   split
   ·rename_i h3
    rw [if_pos h3] at hn
    unfold strR at hn ⊢
    rw [raw_sh]
    split
    ·rename_i e; rw [e] at hn; exact absurd hn (show ¬ (5 : Int) = 0 by decide)
    ·rename_i t e
     rw [e] at hn
     simp only at hn
     split
     ·rename_i e2; rw [e2] at hn; exact absurd hn (show ¬ (20 : Int) = 0 by decide)
     ·rw [Nat.add_assoc]
   ·rename_i h3
    rw [if_neg h3] at hn
    split
    ·rename_i h4
     rw [if_pos h4] at hn
     unfold charR at hn ⊢
     rw [raw_sh]
     split
     ·rename_i e; rw [e] at hn; exact absurd hn (show ¬ (5 : Int) = 0 by decide)
     ·rename_i t e
      rw [e] at hn
      simp only at hn
      split
      ·rename_i e2; rw [e2] at hn; exact absurd hn (show ¬ (20 : Int) = 0 by decide)
      ·rename_i x e2
       rw [e2] at hn
       simp only at hn
       split
       ·rw [Nat.add_assoc]
       ·rename_i h5
        rw [if_neg h5] at hn
        exact absurd hn (show ¬ (5 : Int) = 0 by decide)
    ·rename_i h4
     rw [if_neg h4] at hn
     split
     ·rw [Nat.add_assoc]
     ·rename_i e
      rw [e] at hn
      exact absurd hn (show ¬ (80 : Int) = 0 by decide)
theorem next_kind (s : List UInt8) (i : Nat) : ¬ (avTok (nextR s i).1).1 = 6 := by
 unfold nextR strR charR
 repeat' split
 all_goals first
  | decide
  | (simp only [avTok]; first | decide | (split <;> decide))
end
end Go.Proofs.YtcbgpjlcfkkdlaaGreatDoor

namespace Go.Proofs.YtcbgpjlcfkkdlaaGreatDoor
open Go Go.AL Go.Proofs
structure TksR (W W' : List Tk) : Prop where
 len : W'.length = W.length
 tk : ∀ i : Nat, TkR (W.getD i default) (W'.getD i default)
theorem TkR.dflt : TkR default default := ⟨rfl, rfl, rfl, rfl, by decide⟩
theorem TksR.nil : TksR [] [] := ⟨rfl, fun _ => TkR.dflt⟩
theorem TksR.cons {t t' : Tk} {W W' : List Tk} (h : TkR t t') (hs : TksR W W') : TksR (t :: W) (t' :: W') := ⟨by simp [hs.len], fun i => by
 cases i with
 | zero => exact h
 | succ i => exact hs.tk i⟩
theorem semi_next {a w : List UInt8} : nextR (a ++ 10 :: 59 :: w) (a.length + 1) = (tokRes 5 [59] 0, a.length + 2) := by
 have g2 : (a ++ 10 :: 59 :: w).getD (a.length + 1) 0 = 59 := by rw [List.getD_eq_getElem?_getD, List.getElem?_append_right (by omega), Nat.add_sub_cancel_left]; rfl
 have g3 : (a ++ 10 :: 59 :: w).drop (a.length + 1) = 59 :: w := by rw [List.drop_append, List.drop_eq_nil_of_le (by omega), Nat.add_sub_cancel_left]; rfl
 have hs : ∀ x ∈ signsW, x.head? = some 59 → x = [59] := by decide +kernel
 have hn : ∀ x ∈ signsW, ¬ x = [] := by decide +kernel
 have e : signsW.find? (fun x => Lib.hasPrefix (59 :: w) x) = some [59] := by
  have : signsW.find? (fun x => Lib.hasPrefix (59 :: w) x) = signsW.find? (fun x => decide (x = [59])) := find_congr fun x hx => by
   cases x with
   | nil => exact absurd rfl (hn _ hx)
   | cons c p =>
    by_cases hc : c = 59
    ·have := hs _ hx (by rw [hc]; rfl)
     rw [this]
     unfold Lib.hasPrefix
     simp [List.isPrefixOf]
    ·rw [decide_eq_false (fun q => hc (by injection q))]
     unfold Lib.hasPrefix
     simp [List.isPrefixOf, hc]
  rw [this]
  decide +kernel
 unfold nextR
 rw [g2, g3, e, if_neg (by decide), if_neg (by decide), if_neg (by decide), if_neg (by decide)]
 rfl
section
variable {a : List UInt8}
theorem scan_ext (w : List UInt8) (ha : a.length ≤ 60000) : ∀ (n i : Nat) (bl : Bool) (out X : List Tk), scanR a n i bl out = .inl X → i ≤ a.length → out.length ≤ i → ∃ W bl' c, X = out ++ (W ++ [⟨6, a.length, [], 0, bl'⟩]) ∧ (∀ t ∈ W, 0 ≤ t.pos ∧ ¬ t.kind = 6) ∧ c ≤ a.length - i ∧ W.length ≤ a.length - i ∧
  ∀ m, scanR (a ++ 10 :: 59 :: w) (m + (c + 1)) i bl out = scanR (a ++ 10 :: 59 :: w) m (a.length + 2) false (out ++ (W ++ [⟨5, (a.length + 1 : Nat), [59], 0, true⟩]))
 | 0, _, _, _, _, h, _, _ => by cases h
 | n + 1, i, bl, out, X, h, hi, ho => by
  have hlen : (a ++ 10 :: 59 :: w).length = a.length + w.length + 2 := by simp only [List.length_append, List.length_cons]; omega
  simp only [scanR] at h
  cases hg : (gapR a (a.length - i) i bl).1 with
  | some p => rw [hg] at h; cases h
  | none =>
   rw [hg] at h
   obtain ⟨j, b', e1, e2, e3, e4⟩ := gap_ext w (a.length - i) i ((a ++ 10 :: 59 :: w).length - i) bl hi (Nat.le_refl _) (by omega) hg
   rw [e1] at h
   simp only at h
   by_cases hj : j = a.length
   ·rw [if_pos hj] at h
    injection h with h
    refine ⟨[], b', 0, by rw [← h, hj]; rfl, (fun _ q => by cases q), Nat.zero_le _, Nat.zero_le _, fun m => ?_⟩
    show scanR _ (m + 1) _ _ _ = _
    simp only [scanR]
    rw [e4, if_neg (by omega)]
    simp only
    rw [if_neg (by omega), if_neg (by omega), semi_next]
    rfl
   ·rw [if_neg hj, if_neg (by omega)] at h
    have hja : j < a.length := by omega
    split at h
    ·rename_i hn
     have hnx := nextR_le a j hja
     have hlt := hnx.2 hn
     obtain ⟨W, bl', c, q1, q2, q3, q4, q5⟩ := scan_ext w ha n _ _ _ X h hnx.1 (by simp only [List.length_append, List.length_cons, List.length_nil]; omega)
     refine ⟨⟨(avTok (nextR a j).1).1, j, (avTok (nextR a j).1).2.1, (avTok (nextR a j).1).2.2.1, b'⟩ :: W, bl', c + 1, ?_, ?_, by omega, by simp only [List.length_cons]; omega, fun m => ?_⟩
     ·rw [q1, List.append_assoc]; rfl
     ·intro t ht
      rcases List.mem_cons.1 ht with e | e
      ·rw [e]; exact ⟨Int.natCast_nonneg _, next_kind a j⟩
      ·exact q2 t e
     ·have q6 := q5 m
      obtain ⟨m', hm'⟩ : ∃ m', m + (c + 1) = m' := ⟨_, rfl⟩
      rw [hm'] at q6
      rw [show m + (c + 1 + 1) = m' + 1 by omega]
      simp only [scanR]
      rw [e4, if_pos hja]
      simp only
      rw [if_neg (by omega), if_neg (by omega), next_ext hja hn, if_pos hn, q6, List.append_assoc]
      rfl
    ·cases h
variable {u b : List UInt8}
theorem scan_sh : ∀ (n i : Nat) (bl : Bool) (out X : List Tk), scanR b n i bl out = .inl X → i ≤ b.length → ∀ (out' : List Tk) (m : Nat), out'.length + (b.length - i) < 65536 → n ≤ m → ∃ W W', X = out ++ W ∧ TksR W W' ∧ scanR (u ++ b) m (u.length + i) bl out' = .inl (out' ++ W')
 | 0, _, _, _, _, h, _, _, _, _, _ => by cases h
 | n + 1, i, bl, out, X, h, hi, out', 0, _, hm => by omega
 | n + 1, i, bl, out, X, h, hi, out', m + 1, ho, hm => by
  have hlen : (u ++ b).length = u.length + b.length := List.length_append
  simp only [scanR] at h ⊢
  rw [hlen, show u.length + b.length - (u.length + i) = b.length - i by omega, gap_sh]
  have hle := gapR_le b (b.length - i) i bl hi
  cases hg : (gapR b (b.length - i) i bl).1 with
  | some p => rw [hg] at h; cases h
  | none =>
   rw [hg] at h
   simp only [Option.map_none] at h ⊢
   by_cases hj : (gapR b (b.length - i) i bl).2.1 = b.length
   ·rw [if_pos hj] at h
    rw [if_pos (by omega)]
    injection h with h
    exact ⟨_, [⟨6, (u.length + (gapR b (b.length - i) i bl).2.1 : Nat), [], 0, _⟩], h.symm, .cons ⟨rfl, rfl, rfl, rfl, Int.natCast_nonneg _⟩ .nil, rfl⟩
   ·rw [if_neg hj] at h
    rw [if_neg (by omega), if_neg (by omega)]
    split at h
    ·cases h
    ·have hja : (gapR b (b.length - i) i bl).2.1 < b.length := by omega
     split at h
     ·rename_i hn
      have hnx := nextR_le b _ hja
      have hlt := hnx.2 hn
      rw [next_sh hn, if_pos hn]
      obtain ⟨W, W', q1, q2, q3⟩ := scan_sh n _ _ _ X h hnx.1 (out' ++ [⟨(avTok (nextR b (gapR b (b.length - i) i bl).2.1).1).1, (u.length + (gapR b (b.length - i) i bl).2.1 : Nat), (avTok (nextR b (gapR b (b.length - i) i bl).2.1).1).2.1, (avTok (nextR b (gapR b (b.length - i) i bl).2.1).1).2.2.1, (gapR b (b.length - i) i bl).2.2⟩]) m (by simp only [List.length_append, List.length_cons, List.length_nil]; omega) (by omega)
      rw [List.append_assoc] at q1 q3
      refine ⟨_, _ :: W', q1, .cons ?_ q2, q3⟩
      exact ⟨rfl, rfl, rfl, rfl, Int.natCast_nonneg _⟩
     ·cases h
end
theorem scan_join {a b : List UInt8} (ha : a.length ≤ 2000) (hb : b.length ≤ 2000) {TA TB : List Tk} (h1 : scanT a = .inl TA) (h2 : scanT b = .inl TB) :
  ∃ A ea B eb B' sm, TA = A ++ [ea] ∧ ea.kind = 6 ∧ (∀ t ∈ A, 0 ≤ t.pos ∧ ¬ t.kind = 6) ∧ TB = B ++ [eb] ∧ eb.kind = 6 ∧ (∀ t ∈ B, 0 ≤ t.pos ∧ ¬ t.kind = 6) ∧ TksR TB B' ∧ sm.kind = 5 ∧ sm.text = [59] ∧ 0 ≤ sm.pos ∧ scanT (a ++ 10 :: 59 :: b) = .inl (A ++ sm :: B') := by
 unfold scanT at h1 h2 ⊢
 obtain ⟨A, la, c, q1, q2, q3, q4, q5⟩ := scan_ext b (by omega) _ _ _ _ _ h1 (Nat.zero_le _) (Nat.le_refl _)
 obtain ⟨B, lb, cb, r1, r2, -, r4, -⟩ := scan_ext (a := b) [] (by omega) _ _ _ _ _ h2 (Nat.zero_le _) (Nat.le_refl _)
 obtain ⟨W, W', s1, s2, s3⟩ := scan_sh (u := a ++ [10, 59]) _ _ _ _ _ h2 (Nat.zero_le _) (A ++ [⟨5, (a.length + 1 : Nat), [59], 0, true⟩]) (a.length + b.length + 2 - c) (by simp only [List.length_append, List.length_cons, List.length_nil]; omega) (by omega)
 rw [List.nil_append] at q1 r1 s1
 refine ⟨A, _, B, _, W', ⟨5, (a.length + 1 : Nat), [59], 0, true⟩, q1, rfl, q2, r1, rfl, r2, s1 ▸ s2, rfl, rfl, Int.natCast_nonneg _, ?_⟩
 have hlen : (a ++ 10 :: 59 :: b).length = a.length + b.length + 2 := by simp only [List.length_append, List.length_cons]; omega
 have hu : (a ++ [10, 59]) ++ b = a ++ 10 :: 59 :: b := by rw [List.append_assoc]; rfl
 have hul : (a ++ [10, 59]).length = a.length + 2 := by simp
 rw [hu, hul, Nat.add_zero, List.append_assoc] at s3
 have e := q5 (a.length + b.length + 2 - c)
 rw [List.nil_append] at e
 rw [hlen, show a.length + b.length + 2 + 1 = a.length + b.length + 2 - c + (c + 1) by omega, e]
 exact s3
end Go.Proofs.YtcbgpjlcfkkdlaaGreatDoor

namespace Go.Proofs.YtcbgpjlcfkkdlaaGreatDoor
open Go Go.AL Go.Proofs
theorem add_ok {T : List Tk} {k p : Int} {x : List UInt8} {n : Int} {ks : List Int} {S : St} (h : (addL T k p x n ks S).2.fc = 0) : S.fc = 0 ∧ ¬ S.nodes.length = 131072 ∧ deepOf S.deep ks 0 ≤ 200 ∧ (addL T k p x n ks S).2.nodes = S.nodes ++ [⟨k, p, x, n, ks⟩] := by
 unfold addL at h ⊢
 by_cases hf : S.fc = 0
 ·rw [if_pos hf] at h ⊢
  by_cases hl : S.nodes.length = 131072
  ·rw [if_pos hl] at h
   exact absurd h (wrong_ne T 2 hf (by decide))
  ·rw [if_neg hl] at h ⊢
   simp only at h ⊢
   by_cases hd : deepOf S.deep ks 0 > 200
   ·rw [if_pos hd] at h
    exact absurd h (wrong_ne T 6 (by exact hf) (by decide))
   ·rw [if_neg hd]
    exact ⟨hf, hl, by omega, rfl⟩
 ·rw [if_neg hf] at h
  exact absurd h hf
theorem add_mk {T : List Tk} {k p : Int} {x : List UInt8} {n : Int} {ks : List Int} {S : St} (h1 : S.fc = 0) (h2 : ¬ S.nodes.length = 131072) (h3 : deepOf S.deep ks 0 ≤ 200) : (addL T k p x n ks S).2.fc = 0 := by
 unfold addL
 rw [if_pos h1, if_neg h2]
 simp only
 rw [if_neg (by omega)]
 exact h1
theorem parse_run {s : List UInt8} (hs : s.length ≤ 3300) {T : List Tk} (hr : scanT s = .inl T) : ∃ kids S1, run T fuel0 (.top []) S00 = some (kids, S1) ∧ Good T S1 ∧ InK S1 kids ∧ parseT s = if (addL T 26 0 [] 0 kids S1).2.fc = 0 then
    (if (checkL (addL T 26 0 [] 0 kids S1).2.nodes).1 = 0 then ((addL T 26 0 [] 0 kids S1).2.nodes, (0 : Int), (0 : Int)) else ([], (checkL (addL T 26 0 [] 0 kids S1).2.nodes).1, (s.length : Int)))
   else ([], (addL T 26 0 [] 0 kids S1).2.fc, (addL T 26 0 [] 0 kids S1).2.fa) := by
 have hsc := scan_ok s (by omega) (s.length + 1) 0 false [] (by omega) (by omega) (by simp) (by simp)
 have hr2 : scanR s (s.length + 1) 0 false [] = scanT s := rfl
 rw [hr2, hr] at hsc
 obtain ⟨hT1, hT2, T0, te, hT3, hT4, hT5⟩ := hsc.1 T rfl
 have hG : Good T S00 := ⟨⟨fun _ => by rw [hT3]; simp, Nat.zero_le _, by omega, by rw [hT3]; simp, Nat.zero_le _, by rw [hT3]; simp [List.getD, hT4]⟩, rfl⟩
 have hTk : Toks T := ⟨fun t ht => (hT1 t ht).short, fun t ht => (hT1 t ht).num⟩
 have hnd : need T (.top []) S00 ≤ fuel0 := by
  unfold need
  rw [if_pos rfl]
  simp only [rank, fuel0]
  omega
 obtain ⟨kids0, S1, hrun, hzt, hkl0⟩ := term_all T hTk fuel0 (by decide) (.top []) S00 hG InK.nil trivial hnd
 refine ⟨kids0, S1, hrun, hzt.good, hzt.ink, ?_⟩
 unfold parseT
 rw [hr]
 simp only [hrun]
structure PG (s : List UInt8) (T : List Tk) (X : List Nd) (D l : List Int) (S1 : St) : Prop where
 scan : scanT s = .inl T
 run : run T fuel0 (.top []) S00 = some (l, S1)
 fc : S1.fc = 0
 nd : S1.nodes = X
 dp : S1.deep = D
 dl : D.length = X.length
 ink : ∀ k ∈ l, 0 ≤ k → k < X.length
 deep : deepOf D l 0 ≤ 200
 res : (parseT s).1 = X ++ [⟨26, 0, [], 0, l⟩]
 chk : checkL (X ++ [⟨26, 0, [], 0, l⟩]) = (0, 0)
theorem parse_good {s : List UInt8} (hs : s.length ≤ 3300) (h : (parseT s).2.1 = 0) : ∃ T X D l S1, PG s T X D l S1 := by
 cases hr : scanT s with
 | inr f =>
  obtain ⟨h1, h2⟩ := (parse_ok s hs).bad f hr
  rw [h2] at h
  exact absurd h h1
 | inl T =>
  obtain ⟨kids, S1, hrun, hg, hk, hp⟩ := parse_run hs hr
  rw [hp] at h
  split at h
  ·rename_i hf
   rw [if_pos hf] at hp
   obtain ⟨f1, f2, f3, f4⟩ := add_ok hf
   split at h
   ·rename_i hc
    rw [if_pos hc] at hp
    refine ⟨T, _, _, kids, S1, hr, hrun, f1, rfl, rfl, hg.dl, hk, f3, by rw [hp]; exact f4, ?_⟩
    rw [← f4]
    exact check_zero _ hc
   ·rename_i hc; exact absurd h hc
  ·rename_i hf; exact absurd h hf
theorem deepOf_le (D : List Int) : ∀ (ks : List Int) (d : Int), deepOf D ks d ≤ 200 ↔ d ≤ 200 ∧ ∀ k ∈ ks, 0 ≤ k → IntKind.i64.wrap (D.getD k.toNat 0 + 1) ≤ 200
 | [], d => by simp [deepOf]
 | k :: ks, d => by
  simp only [deepOf]
  rw [deepOf_le D ks]
  by_cases h : 0 ≤ k
  ·rw [if_pos h]
   constructor
   ·exact fun ⟨h1, h2⟩ => ⟨by omega, fun x hx h0 => by
     rcases List.mem_cons.1 hx with e | e
     ·rw [e]; omega
     ·exact h2 x e h0⟩
   ·exact fun ⟨h1, h2⟩ => ⟨by have := h2 k List.mem_cons_self h; omega, fun x hx h0 => h2 x (List.mem_cons_of_mem _ hx) h0⟩
  ·rw [if_neg h]
   constructor
   ·exact fun ⟨h1, h2⟩ => ⟨h1, fun x hx h0 => by
     rcases List.mem_cons.1 hx with e | e
     ·rw [e] at h0; exact absurd h0 h
     ·exact h2 x e h0⟩
   ·exact fun ⟨h1, h2⟩ => ⟨h1, fun x hx h0 => h2 x (List.mem_cons_of_mem _ hx) h0⟩
theorem getD_app1 {α : Type} {l r : List α} {i : Nat} (h : i < l.length) (d : α) : (l ++ r).getD i d = l.getD i d := by rw [List.getD_eq_getElem?_getD, List.getElem?_append_left h, ← List.getD_eq_getElem?_getD]
theorem getD_app2 {α : Type} {l r : List α} {i : Nat} (d : α) : (l ++ r).getD (l.length + i) d = r.getD i d := by rw [List.getD_eq_getElem?_getD, List.getElem?_append_right (by omega), Nat.add_sub_cancel_left, ← List.getD_eq_getElem?_getD]
theorem getD_end {α : Type} {l : List α} {x d : α} : (l ++ [x]).getD l.length d = x := getD_app2 (i := 0) d
theorem TkR.self {t : Tk} (h : 0 ≤ t.pos) : TkR t t := ⟨rfl, rfl, rfl, rfl, h⟩
theorem joins_plain {a b : List UInt8} (ha : a.length ≤ 1500) (hb : b.length ≤ 1500) (h1 : (parseT a).2.1 = 0) (h2 : (parseT b).2.1 = 0) :
  (parseT (a ++ 10 :: 59 :: b)).2.1 = 2 ∨ ((parseT (a ++ 10 :: 59 :: b)).2.1 = 0 ∧ ∃ X Y Z lx ly lz, (parseT a).1 = X ++ [⟨26, 0, [], 0, lx⟩] ∧ (parseT b).1 = Y ++ [⟨26, 0, [], 0, ly⟩] ∧ (parseT (a ++ 10 :: 59 :: b)).1 = Z ++ [⟨26, 0, [], 0, lz⟩] ∧ (lz.length = lx.length + ly.length ∨ lz.length = lx.length + ly.length + 1)) := by
 obtain ⟨TA, X, DX, lx, SX, gx⟩ := parse_good (by omega) h1
 obtain ⟨TB, Y, DY, ly, SY, gy⟩ := parse_good (by omega) h2
 obtain ⟨A, ea, B, eb, B', sm, q1, q2, q3, q4, q5, q6, q7, q8, q9, q10, q11⟩ := scan_join (by omega) (by omega) gx.scan gy.scan
 obtain ⟨TZ, hZ⟩ : ∃ T, A ++ sm :: B' = T := ⟨_, rfl⟩
 rw [hZ] at q11
 obtain ⟨lz, SZ, zr, zg, zk, zp⟩ := parse_run (s := a ++ 10 :: 59 :: b) (by simp only [List.length_append, List.length_cons]; omega) q11
 have code2 : SZ.fc = 2 → (parseT (a ++ 10 :: 59 :: b)).2.1 = 2 := fun h => by
  have e : (addL TZ 26 0 [] 0 lz SZ).2.fc = 2 := by unfold addL; rw [if_neg (by rw [h]; decide)]; exact h
  rw [zp, e]
  rfl
 have gz0 : ∀ i, i < A.length → TZ.getD i default = A.getD i default := fun i hi => by rw [← hZ]; exact getD_app1 hi _
 have gz1 : TZ.getD A.length default = sm := by rw [← hZ]; exact getD_app2 (i := 0) default
 have gz2 : ∀ i, TZ.getD (A.length + (i + 1)) default = B'.getD i default := fun i => by rw [← hZ]; exact getD_app2 (i := i + 1) default
 have lZ : TZ.length = A.length + B'.length + 1 := by rw [← hZ]; simp only [List.length_append, List.length_cons]; omega
 have lB' : B'.length = B.length + 1 := by rw [q7.len, q4]; simp
 have elseB : isT ELSE (TB.getD 0 default) = false := by
  cases e : isT ELSE (TB.getD 0 default) with
  | false => rfl
  | true =>
   have hr := gy.run
   have hk : ¬ (peekL TB S00).kind = 6 := by
    show ¬ (TB.getD 0 default).kind = 6
    rcases (isT_iff.1 e).1 with h | h <;> rw [h] <;> decide
   rw [show fuel0 = 199999 + 1 from rfl, run_top, if_pos ⟨rfl, hk⟩] at hr
   cases e2 : run TB 199999 .stmt S00 with
   | none => rw [e2] at hr; cases hr
   | some r =>
    rw [e2] at hr
    have hd := stmt_else (S := S00) (l := r.1) (S1 := r.2) rfl e e2
    exact absurd ((stick TB _ _ _ _ _ hd hr).symm.trans gy.fc) hd
 have E1 : Side false true TA TZ A.length 0 0 [] [] := by
  refine ⟨by rw [q1]; simp, fun i hi => ?_, by rw [q1, getD_end]; exact q2, fun h => (by cases h), fun _ => ⟨?_, ?_, ?_⟩, by omega, rfl, rfl, fun h => (by cases h)⟩
  ·have e : TA.getD i default = A.getD i default := by rw [q1]; exact getD_app1 hi _
   have hm : A.getD i default ∈ A := by rw [List.getD_eq_getElem?_getD, List.getElem?_eq_getElem hi]; exact List.getElem_mem hi
   rw [Nat.add_zero, gz0 i hi, e]
   exact ⟨(q3 _ hm).2, .self (q3 _ hm).1⟩
  ·rw [Nat.add_zero, gz1]; exact q8
  ·rw [Nat.add_zero, gz1]; exact q9
  ·rw [Nat.add_zero, gz2 0, tkr_is (q7.tk 0)]; exact elseB
 have L1 : Lv true A.length 0 0 [] [] true S00 S00 := ⟨rfl, rfl, rfl, rfl, ⟨[], rfl, .nil⟩, .inl ⟨Nat.zero_le _, rfl⟩⟩
 rcases top1 E1 (by rw [gz1]; exact q10) fuel0 [] S00 S00 lx lz SX SZ L1 rfl gx.run zr gx.fc with hz | ⟨n2, S2, ks, hn2, zr2, md⟩
 ·exact .inl (code2 hz)
 obtain ⟨X', nX, hmid⟩ := md.nodes
 rw [gx.nd] at nX hmid
 rw [gx.dp] at hmid
 -- the sign, as a node or none
 obtain ⟨M, ex, hM⟩ : ∃ M ex, ((M = [] ∧ ex = []) ∨ ∃ pos : Int, 0 ≤ pos ∧ M = [⟨43, pos, [], 0, []⟩] ∧ ex = [(X.length : Int)]) ∧ ks = lx ++ ex ∧ S2.nodes = X' ++ M ∧ S2.deep = DX ++ M.map fun _ => 0 := by
  rcases hmid with ⟨h1, h2, h3⟩ | ⟨pos, h0, h1, h2, h3⟩
  ·exact ⟨[], [], .inl ⟨rfl, rfl⟩, by rw [h1, List.append_nil], by rw [h2, List.append_nil], by rw [h3]; simp⟩
  ·exact ⟨_, _, .inr ⟨pos, h0, rfl, rfl⟩, h1, h2, by rw [h3]; rfl⟩
 obtain ⟨hM1, hks, hS2, hD2⟩ := hM
 have lX' : X'.length = X.length := nX.1
 have lS2 : S2.nodes.length = X.length + M.length := by rw [hS2, List.length_append, lX']
 have lD2 : S2.deep.length = X.length + M.length := by rw [hD2, List.length_append, gx.dl, List.length_map]
 have E2 : Side false false TB TZ B.length (A.length + 1) (X.length + M.length) S2.nodes S2.deep := by
  have sh : ∀ i, TZ.getD (i + (A.length + 1)) default = B'.getD i default := fun i => by rw [show i + (A.length + 1) = A.length + (i + 1) by omega]; exact gz2 i
  refine ⟨by rw [q4]; simp, fun i hi => ?_, by rw [q4, getD_end]; exact q5, fun _ => by rw [sh]; exact q7.tk _, fun h => (by cases h), by omega, lS2, lD2, fun h => (by cases h)⟩
  have e : TB.getD i default = B.getD i default := by rw [q4]; exact getD_app1 hi _
  have hm : B.getD i default ∈ B := by rw [List.getD_eq_getElem?_getD, List.getElem?_eq_getElem hi]; exact List.getElem_mem hi
  rw [sh]
  exact ⟨by rw [e]; exact (q6 _ hm).2, q7.tk i⟩
 have L2 : Lv false B.length (A.length + 1) (X.length + M.length) S2.nodes S2.deep true S00 S2 := ⟨rfl, md.fc, md.nest, (List.append_nil _).symm, ⟨[], (List.append_nil _).symm, .nil⟩, .inl ⟨Nat.zero_le _, by rw [md.idx]; show _ = 0 + _; omega⟩⟩
 rcases top2 E2 fuel0 [] ks S00 S2 ly lz SY SZ L2 gy.run (by rw [List.map_nil, List.append_nil]; exact run_mono TZ hn2 zr2) with ⟨L3, hlz⟩ | ⟨h, -⟩ | ⟨-, h⟩
 ·obtain ⟨Y', nz, nY⟩ := L3.nodes
  rw [gy.nd] at nY
  have hdz := L3.deep
  rw [gy.dp] at hdz
  by_cases hfull : SZ.nodes.length = 131072
  ·left
   have e : (addL TZ 26 0 [] 0 lz SZ).2.fc = 2 := by
    unfold addL
    rw [if_pos L3.fc', if_pos hfull]
    exact wrong_fc TZ 2 L3.fc'
   rw [zp, e]
   rfl
  ·right
   have hdeep : deepOf SZ.deep lz 0 ≤ 200 := by
    have d1 := (deepOf_le DX lx 0).1 gx.deep
    have d2 := (deepOf_le DY ly 0).1 gy.deep
    rw [deepOf_le]
    refine ⟨by decide, fun k hk h0 => ?_⟩
    rw [hlz, hks] at hk
    rw [hdz, hD2]
    rcases List.mem_append.1 hk with hka | hk
    ·clear hk
     rcases List.mem_append.1 hka with hk | hkb
     ·have hlt := gx.ink k hk h0
      rw [getD_app1 (by rw [List.length_append, gx.dl]; omega), getD_app1 (by rw [gx.dl]; omega)]
      exact d1.2 k hk h0
     ·rcases hM1 with ⟨-, rfl⟩ | ⟨pos, -, rfl, rfl⟩
      ·cases hkb
      ·obtain rfl := List.mem_singleton.1 hkb
       rw [getD_app1 (by rw [List.length_append, gx.dl]; simp), Int.toNat_natCast, ← gx.dl]
       have : (DX ++ List.map (fun _ => (0 : Int)) [(⟨43, pos, [], 0, []⟩ : Nd)]).getD (DX.length + 0) 0 = 0 := getD_app2 (i := 0) 0
       rw [Nat.add_zero] at this
       rw [this]
       decide
    ·obtain ⟨k0, hk0, rfl⟩ := List.mem_map.1 hk
     have h00 := (shi_sign (K := X.length + M.length) k0).1 h0
     rw [← hD2, shi_getD DY lD2 h00]
     exact d2.2 k0 hk0 h00
   have hf := add_mk (T := TZ) (k := 26) (p := 0) (x := []) (n := 0) L3.fc' hfull hdeep
   obtain ⟨-, -, -, f4⟩ := add_ok hf
   have hnl := zg.rd.nl
   have hnod : SZ.nodes ++ [(⟨26, 0, [], 0, lz⟩ : Nd)] = X' ++ (M ++ (Y' ++ [⟨26, 0, [], 0, lx ++ (ex ++ ly.map (shi ((X.length + M.length : Nat) : Int)))⟩])) := by
    rw [nz, hS2, hlz, hks, List.append_assoc, List.append_assoc, List.append_assoc]
   have hlen : SZ.nodes.length = X.length + M.length + Y.length := by rw [nz, List.length_append, lS2, nY.1]
   have hchk := join_check gx.chk gy.chk rfl rfl rfl nX nY hM1 (by omega)
   rw [← hnod] at hchk
   rw [if_pos hf, f4, hchk, if_pos rfl] at zp
   rw [zp]
   refine ⟨rfl, X, Y, _, lx, ly, lz, gx.res, gy.res, rfl, ?_⟩
   rw [hlz, hks]
   rcases hM1 with ⟨-, rfl⟩ | ⟨pos, -, -, rfl⟩
   ·left; simp
   ·right; simp; omega
 ·exact absurd gy.fc h
 ·exact .inl (code2 h)
end Go.Proofs.YtcbgpjlcfkkdlaaGreatDoor

namespace Go.Proofs.YtcbgpjlcfkkdlaaGreatDoor
open Go Go.AL Go.Proofs
def src1 : List UInt8 := [102, 117, 110, 99, 116, 105, 111, 110, 32, 102, 40, 97, 44, 32, 98, 32, 61, 32, 49, 41, 32, 123, 32, 114, 101, 116, 117, 114, 110, 32, 97, 32, 43, 32, 98, 32, 42, 32, 50, 32, 125, 10, 112, 114, 105, 110, 116, 40, 102, 40, 51, 41, 41, 10, 120, 32, 61, 32, 121, 32, 63, 32, 49, 32, 58, 32, 45, 122, 43, 43]
def nodes1 : List Nd := [⟨7, 0, [], 0, []⟩, ⟨15, 0, [102], 0, [0]⟩, ⟨22, 11, [97], 0, [-1]⟩, ⟨4, 18, [], 1, []⟩, ⟨22, 14, [98], 0, [3]⟩,
 ⟨6, 30, [97], 0, []⟩, ⟨6, 34, [98], 0, []⟩, ⟨4, 38, [], 2, []⟩, ⟨10, 34, [42], 0, [6, 7]⟩, ⟨10, 30, [43], 0, [5, 8]⟩,
 ⟨37, 23, [], 0, [9]⟩, ⟨26, 21, [], 0, [10]⟩, ⟨20, 0, [102], 2, [2, 4, 11]⟩, ⟨12, 0, [60, 45], 0, [1, 12]⟩,
 ⟨28, 0, [], 0, [13]⟩, ⟨6, 42, [112, 114, 105, 110, 116], 0, []⟩, ⟨6, 48, [102], 0, []⟩, ⟨4, 50, [], 3, []⟩,
 ⟨17, 48, [], 0, [16, 17]⟩, ⟨17, 42, [], 0, [15, 18]⟩, ⟨28, 42, [], 0, [19]⟩, ⟨6, 54, [120], 0, []⟩,
 ⟨6, 58, [121], 0, []⟩, ⟨4, 62, [], 1, []⟩, ⟨6, 67, [122], 0, []⟩, ⟨13, 67, [43, 43], 1, [24]⟩, ⟨9, 66, [45], 0, [25]⟩,
 ⟨11, 58, [], 0, [22, 23, 26]⟩, ⟨12, 54, [61], 0, [21, 27]⟩, ⟨28, 54, [], 0, [28]⟩, ⟨26, 0, [], 0, [14, 20, 29]⟩]
def ndEq (a b : Nd) : Bool := decide (a.kind = b.kind) && decide (a.pos = b.pos) && decide (a.text = b.text) && decide (a.num = b.num) && decide (a.kids = b.kids)
def ndsEq : List Nd → List Nd → Bool
 | [], [] => true
 | a :: l, b :: m => ndEq a b && ndsEq l m
 | _, _ => false
theorem ndsEq_out : ∀ (l m : List Nd), ndsEq l m = true → l = m
 | [], [], _ => rfl
 | [], _ :: _, h => by simp [ndsEq] at h
 | _ :: _, [], h => by simp [ndsEq] at h
 | ⟨a1, a2, a3, a4, a5⟩ :: l, ⟨b1, b2, b3, b4, b5⟩ :: m, h => by
  simp only [ndsEq, ndEq, Bool.and_eq_true, decide_eq_true_eq] at h
  obtain ⟨⟨⟨⟨⟨rfl, rfl⟩, rfl⟩, rfl⟩, rfl⟩, h2⟩ := h
  rw [ndsEq_out l m h2]
theorem ev1a : (parseT src1).2 = (0, 0) := by decide +kernel
theorem ev1b : ndsEq (parseT src1).1 nodes1 = true := by decide +kernel
theorem ev1 : parseT src1 = (nodes1, ((0 : Int), (0 : Int))) := Prod.ext (ndsEq_out _ _ ev1b) ev1a
theorem ev1c : checkL nodes1 = ((0 : Int), (0 : Int)) := by decide +kernel
def ndFine (n : Nd) : Bool := decide (n.text.length < 4294967200) && decide (n.kids.length ≤ 281474976710656) && decide (n.num ≤ 9223372036854775807)
theorem ok1b : nodes1.all ndFine = true := by decide +kernel
theorem ok1 (n : Nd) (hn : n ∈ nodes1) : NdOk n := by
 have h2 := List.all_eq_true.1 ok1b n hn
 simp only [ndFine, Bool.and_eq_true, decide_eq_true_eq] at h2
 exact ⟨h2.1.1, h2.1.2, h2.2⟩
theorem ev2 : (parseT [120, 32, 61, 32]).2 = (5, 4) := by decide +kernel
theorem ev3 : (parseT [49, 32, 61, 32, 120]).2 = (30, 2) := by decide +kernel
theorem ev4 : (parseT [120, 32, 121]).2 = (5, 2) := by decide +kernel
theorem ev5 : (parseT [120, 10, 121]).2.1 = 0 := by decide +kernel
theorem ev6 : (parseT (Lib.repeatL [40] 99)).2.1 = 6 := by decide +kernel
end Go.Proofs.YtcbgpjlcfkkdlaaGreatDoor

