/-
  The abstract logic, 22: strconv.Itoa and strings.Join, as the kit's shelf proves them, taken over.
-/
import Derived.Test.YtgcpgoggngkbjaaDoorAL13
import Derived.Lib.LaidTab
import Derived.Lib.ItoaNum
import Derived.Sort.Grow
import Derived.Lib.Join
set_option linter.unusedSimpArgs false
set_option linter.unusedVariables false
namespace Go.AL
open Go Go.RowKit

theorem Inv.of_below {w0 : Base} {F : Fin} {w w' : World} {h : Heap} (hi : Inv w0 F w h) (hb : Below w.heap.size w w') : Inv w0 F w' h := by
  refine ⟨⟨hb.os.trans hi.below.os, hb.tape.trans hi.below.tape, hb.output.trans hi.below.output, Nat.le_trans hi.below.size hb.size, hi.below.lt, fun k hk => (hb.block k ?_).trans (hi.below.block k hk)⟩, fun b o v e => ?_, hi.fin0, fun b x e => ?_⟩
  · have h1 := hi.below.lt k hk
    have h2 := hi.below.size
    omega
  · have h1 := hi.fin b o v e
    have h2 : w'.heap[b]? = w.heap[b]? := hb.block b (World.block_lt_of_cell? w _ h1.1)
    refine ⟨?_, h1.2⟩
    rw [← h1.1]
    simp only [World.cell?, h2]
  · have h1 := hi.blk b x e
    exact ⟨h1.1, h1.2.of_block (hb.block b h1.2.lt)⟩

theorem grow_below (w : World) (os : Array Obj) : Below w.heap.size w (Sort.grow w os) := ⟨rfl, rfl, rfl, by simp, fun _ hk => Sort.heap_grow_old w os hk⟩

theorem repL_one {F : Fin} {cs : Array Value} {x : AV} (h : RepL F cs [x]) : ∃ v, cs = #[v] ∧ Rep F v x := by
  obtain ⟨h1, h2⟩ := h
  have h3 := h2 0 (by simp)
  obtain ⟨l⟩ := cs
  match l, h1 with
  | [v], _ => exact ⟨v, rfl, by simpa [Array.getD] using h3⟩
theorem repL_two {F : Fin} {cs : Array Value} {x y : AV} (h : RepL F cs [x, y]) : ∃ v u, cs = #[v, u] ∧ Rep F v x ∧ Rep F u y := by
  obtain ⟨h1, h2⟩ := h
  have h3 := h2 0 (by simp)
  have h4 := h2 1 (by simp)
  obtain ⟨l⟩ := cs
  match l, h1 with
  | [v, u], _ => exact ⟨v, u, rfl, by simpa [Array.getD] using h3, by simpa [Array.getD] using h4⟩

/-- strconv.Itoa, over the library's table. -/
theorem acalls_itoa {P : Program} {f : FuncId} {bt : Nat} {name : String} {k : IntKind} {zs : List Int} (hn : P.globalNamed name = some bt)
    (hc : ∀ n : Int, -9223372036854775808 ≤ n → n ≤ 9223372036854775807 → ∀ w : World, Lib.TabIs P w name k zs → Calls P f #[.int .i64 n] w fun e w' => e = .returned (.string ⟨(Lib.itoa n).toArray⟩) ∧ ∃ k os, w' = Sort.grow (w.drewN k) os)
    (n : Int) (h0 : -9223372036854775808 ≤ n) (h1 : n ≤ 9223372036854775807) (h : Heap) (hb : h bt = some (.tab (zs.map fun z => Value.int k z).toArray)) (R : AV → Heap → Prop) (hR : R (.str (Lib.itoa n)) h) : ACalls P f [.int .i64 n] h R := by
  intro w0 F w cargs hi ha
  obtain ⟨v, rfl, hv⟩ := repL_one ha
  cases hv
  obtain ⟨_, _, t, z, he⟩ := hi.blk bt _ hb
  have htab : Lib.TabIs P w name k zs := by
    unfold Lib.TabIs World.var?
    rw [hn]
    simp only [Option.bind_some, he]
  refine (hc n h0 h1 w htab).mono ?_
  rintro e w' ⟨rfl, m, os, rfl⟩
  exact ⟨_, F, _, h, rfl, .refl F, (hi.drewN m).of_below (grow_below _ _), .str _ _ (by simp), hR⟩

theorem flat_one : ∀ l : List (List UInt8), (l.map fun x => [AV.str x]).flatten = l.map AV.str
  | [] => rfl
  | a :: l => by simp [flat_one l]
/-- strings.Join. -/
theorem acalls_join {P : Program} {f : FuncId}
    (hn : ∀ (a : Option Addr) (c : Nat) (sep : ByteArray) (w : World), Calls P f #[.slice a 0 c, .string sep] w fun e w' => e = .returned (.string ⟨#[]⟩) ∧ w' = w)
    (hc : ∀ (bk o c : Nat) (xs : List ByteArray) (sep : ByteArray) (w : World), (∀ (j : Nat) x, xs[j]? = some x → w.cell? ⟨bk, o + j, none⟩ = some (.string x)) → bk < w.heap.size → xs.length ≤ 140737488355328 → xs.length ≤ c →
      (Lib.join (xs.map (·.data.toList)) sep.data.toList).length ≤ 140737488355328 →
      Calls P f #[.slice (some ⟨bk, o, none⟩) xs.length c, .string sep] w fun e w' => e = .returned (.string ⟨(Lib.join (xs.map (·.data.toList)) sep.data.toList).toArray⟩) ∧ Below w.heap.size w w')
    (l : List (List UInt8)) (sep : List UInt8) (hl : l.length ≤ 140737488355328) (hj : (Lib.join l sep).length ≤ 140737488355328) (h : Heap) (R : AV → Heap → Prop) (hR : R (.str (Lib.join l sep)) h) :
    ACalls P f [.list 1 (l.map fun x => [.str x]) .no, .str sep] h R := by
  intro w0 F w cargs hi ha
  obtain ⟨v, u, rfl, hv, hu⟩ := repL_two ha
  obtain ⟨b, rfl, rfl⟩ := hu.str_inv
  rcases hv.list_inv with ⟨a, rfl, hnil, _⟩ | ⟨bk, o, cap, news, rfl, hcap, hlen, hrow, hF, _⟩
  · have hl0 : l = [] := by simpa using hnil
    subst hl0
    refine (hn a 0 b w).mono ?_
    rintro e w' ⟨rfl, rfl⟩
    exact ⟨_, F, _, h, rfl, .refl F, hi, .str _ _ (by simp [Lib.join]), hR⟩
  · by_cases hl0 : l = []
    · subst hl0
      refine (hn (some ⟨bk, o, none⟩) cap b w).mono ?_
      rintro e w' ⟨rfl, rfl⟩
      exact ⟨_, F, _, h, rfl, .refl F, hi, .str _ _ (by simp [Lib.join]), hR⟩
    · have hpos : 0 < l.length := List.length_pos_iff.2 hl0
      have hcell : ∀ j (hj : j < l.length), w.cell? ⟨bk, o + j, none⟩ = some (.string ⟨l[j].toArray⟩) := fun j hj => by
        obtain ⟨h1, h2⟩ := hF j (by simpa using hj)
        have h3 : ((l.map fun x => [AV.str x]).flatten).getD j .any = .str l[j] := by
          rw [flat_one]
          simp [List.getD, hj]
        rw [h3] at h2
        obtain ⟨s, hs, hs2⟩ := h2.str_inv
        rw [hs] at h1
        have : s = ⟨l[j].toArray⟩ := by
          obtain ⟨⟨d⟩⟩ := s
          simp at hs2
          rw [hs2]
        rw [← this]
        exact (hi.fin _ _ _ h1).1
      have hxs : (l.map fun s => (⟨s.toArray⟩ : ByteArray)).map (·.data.toList) = l := by simp [Function.comp_def]
      have := hc bk o cap (l.map fun s => (⟨s.toArray⟩ : ByteArray)) b w (fun j x hx => by
        simp only [List.getElem?_map, Option.map_eq_some_iff] at hx
        obtain ⟨s, hs, rfl⟩ := hx
        obtain ⟨hjl, rfl⟩ := List.getElem?_eq_some_iff.1 hs
        exact hcell j hjl) (World.block_lt_of_cell? w _ (hcell 0 hpos)) (by simpa using hl) (by simpa using hcap) (by rw [hxs]; exact hj)
      rw [hxs] at this
      simp only [List.length_map] at this ⊢
      refine this.mono ?_
      rintro e w' ⟨rfl, hb⟩
      exact ⟨_, F, _, h, rfl, .refl F, hi.of_below hb, .str _ _ (by simp), hR⟩
end Go.AL
