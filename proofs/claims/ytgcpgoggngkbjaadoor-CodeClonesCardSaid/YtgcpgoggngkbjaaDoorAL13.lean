/-
  The abstract logic, 13: contracts of the library's functions, as the kit's shelf proves them, taken over.
-/
import Derived.Test.YtgcpgoggngkbjaaDoorAL12
import Derived.Lib.SplitLaws
import Derived.Deep.Draws
set_option linter.unusedSimpArgs false
set_option linter.unusedVariables false
namespace Go.AL
open Go Go.RowKit

theorem repL_str2 {F : Fin} {cargs : Array Value} {s t : List UInt8} (h : RepL F cargs [.str s, .str t]) : ∃ a b : ByteArray, cargs = #[.string a, .string b] ∧ a.data.toList = s ∧ b.data.toList = t := by
  obtain ⟨hl, hr⟩ := h
  obtain ⟨l⟩ := cargs
  match l, hl with
  | [x, y], _ =>
    have h0 := hr 0 (by simp)
    have h1 := hr 1 (by simp)
    simp [Array.getD] at h0 h1
    obtain ⟨a, rfl, ha⟩ := h0.str_inv
    obtain ⟨b, rfl, hb⟩ := h1.str_inv
    exact ⟨a, b, rfl, ha, hb⟩

theorem Inv.gint {w0 : Base} {F : Fin} {w : World} {h : Heap} {g : Nat} (hi : Inv w0 F w h) (hg : h g = some .gint) : ∃ m, w.cell? ⟨g, 0, none⟩ = some (.int .i64 m) := by
  obtain ⟨_, m, hF⟩ := (hi.blk g _ hg).2
  exact ⟨m, (hi.fin _ _ _ hF).1⟩

theorem Inv.drewN {w0 : Base} {F : Fin} {w : World} {h : Heap} (hi : Inv w0 F w h) : ∀ n, Inv w0 F (w.drewN n) h
  | n => ⟨⟨hi.below.os, hi.below.tape, hi.below.output, hi.below.size, hi.below.lt, hi.below.block⟩, hi.fin, hi.fin0, hi.blk⟩

theorem chunk_one {A : Type} (f : A → AV) : ∀ l : List A, chunk l.length 1 (l.map f) = l.map fun a => [f a]
  | [] => rfl
  | a :: l => by simp [chunk, chunk_one f l]

/-- strings.Split at a separator that is not empty. -/
theorem acalls_split {P : Program} {f : FuncId} {g : Nat} {el : TypeId}
    (hc : ∀ (s sep : ByteArray) (m : Int) (w : World), s.size < 4294967281 → w.cell? ⟨g, 0, none⟩ = some (.int .i64 m) → 1 ≤ sep.size →
      Calls P f #[.string s, .string sep] w fun e w' => e = .returned (.slice (some ⟨w.heap.size, 0, none⟩) (Lib.countB s sep + 1) (Lib.countB s sep + 1)) ∧
        w' = w.alloc (.cells ((Lib.splitB sep 0 (Lib.countB s sep) s).map Value.string).toArray el))
    (s sep : List UInt8) (hs : s.length < 4294967281) (h1 : 1 ≤ sep.length) (h : Heap) (hg : h g = some .gint) (R : AV → Heap → Prop) (hR : R (.list 1 ((Lib.split s sep).map fun p => [.str p]) .full) h) :
    ACalls P f [.str s, .str sep] h R := by
  intro w0 F w cargs hi ha
  obtain ⟨a, b, rfl, rfl, rfl⟩ := repL_str2 ha
  obtain ⟨m, hm⟩ := hi.gint hg
  refine (hc a b m w (by simpa using hs) hm (by simpa using h1)).mono ?_
  rintro e w' ⟨rfl, rfl⟩
  have hsp : (Lib.splitB b 0 (Lib.countB a b) a).map (·.data.toList) = Lib.split a.data.toList b.data.toList := Lib.splitB_data b 0 _ a
  have hlen : (Lib.splitB b 0 (Lib.countB a b) a).length = Lib.countB a b + 1 := Lib.splitB_all b (by simpa using h1) 0 _ a rfl
  obtain ⟨F', m1, m2, m3⟩ := hi.lay (n := Lib.countB a b + 1) (sz := 1) (el := el) (arr := ((Lib.splitB b 0 (Lib.countB a b) a).map Value.string).toArray) (cs := (Lib.split a.data.toList b.data.toList).map AV.str)
    ⟨by simp [← hsp], fun i hi' => by
      simp [← hsp] at hi'
      simp [← hsp, List.getD, hi', Array.getD]
      exact .str _ _ rfl⟩ (by simp [← hsp, hlen]) (fun j hj => by
      simp [← hsp] at hj
      simp [Array.getD, hj, Value.oneCell'])
  refine ⟨_, F', _, h, rfl, m1, m2, m3, ?_⟩
  have := chunk_one AV.str (Lib.split a.data.toList b.data.toList)
  rw [← hsp, List.length_map, hlen] at this
  rw [← hsp, this, hsp]
  exact hR

/-- A function of two strings that leaves the world alone but for draws. -/
theorem acalls_str2 {P : Program} {f : FuncId} {s t : List UInt8} {x : AV} {h : Heap} {g : Nat} (hg : h g = some .gint)
    (hc : ∀ (a b : ByteArray) (m : Int) (w : World), a.data.toList = s → b.data.toList = t → w.cell? ⟨g, 0, none⟩ = some (.int .i64 m) →
      Calls P f #[.string a, .string b] w fun e w' => (∃ v, e = .returned v ∧ ∀ F, Rep F v x) ∧ ∃ n, w' = w.drewN n) {R : AV → Heap → Prop} (hR : R x h) : ACalls P f [.str s, .str t] h R := by
  intro w0 F w cargs hi ha
  obtain ⟨a, b, rfl, ea, eb⟩ := repL_str2 ha
  obtain ⟨m, hm⟩ := hi.gint hg
  refine (hc a b m w ea eb hm).mono ?_
  rintro e w' ⟨⟨v, rfl, hv⟩, n, rfl⟩
  exact ⟨v, F, x, h, rfl, .refl F, hi.drewN n, hv F, hR⟩

end Go.AL
