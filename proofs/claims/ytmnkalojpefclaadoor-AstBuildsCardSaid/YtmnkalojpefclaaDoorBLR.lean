/-
  dreylaw09.AstBuilds answers true for every input: what is put together node by node is the tree of these, if that may be; and it is one of its own. No condition; the two tables of unicode/utf8 are tied to the program's text.
-/
import Derived.Test.YtmnkalojpefclaaDoorBLY
import Derived.Test.YtmnkalojpefclaaDoorRows
import Derived.Test.YtmnkalojpefclaaDoorCards
import Derived.Test.YtmnkalojpefclaaDoorTie
import Derived.Test.YtmnkalojpefclaaDoorAL15
import Derived.LaidMore
import Derived.Lay
import Derived.SevenTiedAt
import Derived.MakeChecks
set_option linter.unusedSimpArgs false
set_option linter.unusedVariables false
namespace Go.Proofs.YtmnkalojpefclaaDoor.astBuilds
open Go Go.AL Go.Proofs

theorem own : ownKnob Tryd.prog.godebug = none := by kernel_rfl

theorem gint (W : World) (h : W.ShapedOpen Tryd.prog) : ∃ n, W.cell? ⟨0, 0, none⟩ = some (.int .i64 n) := Tryd.laysM144.s1_3 W h

set_option maxRecDepth 100000 in
theorem lifted (os : Os) (started : os.Started) (H : Type) (enc : TypeId × Value → H) (F : Stop.Interp) :
    ReturnsInHanded {} Tryd.checked os 4 .any ((OpenSpec.ofChange Rows.astBuildsSpec).preRow enc Tryd.prog Tryd.f4 Rows.astBuildsRow.domain false Rows.astBuildsRow.laid)
      (((OpenSpec.ofChange Rows.astBuildsSpec).at F).post enc Tryd.prog Tryd.f4 false true false false) := by
  refine law_lift_row (C := Tryd.checked) (t := 4) 0 5 [24] own started (by kernel_rfl) Tryd.func4
    (ChangeSpec.witness_shaped (enc := enc) (C := Tryd.checked) (os := os) (X := fun w _ => laidMetH Tryd.prog Rows.astBuildsRow.laid w) false (World.laidAll Tryd.prog os Rows.astBuildsRow.laid) #[.agg #[.slice none 0 0]] 8 (World.laidAll_os _ _ _)
      (World.shaped_of_ZipB (by kernel_rfl) (by kernel_rfl)) (by kernel_rfl) (by kernel_rfl) (by kernel_rfl)
      (by rw [MakeChecks.laidMetH_plain _ _ _ (by kernel_rfl)]; exact laidMet_laidAll _ (by kernel_rfl) (by kernel_rfl)))
    (by kernel_rfl) (by kernel_rfl) (by kernel_rfl) (by kernel_rfl) Tryd.underlying4 rfl ?_ gint ?_
  · intro ds hl
    rcases ds with _ | ⟨d1, _ | ⟨d2, ds⟩⟩
    · cases hl
    · rfl
    · simp at hl
  · intro ds hf
    rcases ds with _ | ⟨d1, _ | ⟨d2, ds⟩⟩
    · exact hf.elim
    · obtain ⟨nodes, h1, h2, h3⟩ := tree_arg (m := 0) hf.1
      have e1 : lawArg Tryd.checked.prog 5 24 d1 = treeAV nodes .no := h1
      simp only [lawArgs, e1]
      have : maxLen ≤ 9223372036854775807 := by decide
      refine AstBuilds_c nodes h2 (by omega) _ (gintAt_self 0) _ ?_
      rfl
    · exact hf.2.elim

theorem over : Rows.AstBuildsSaid :=
  OpenClaim.holds_of_cond 4 Tryd.f4 rfl rfl rfl rfl rfl rfl rfl ⟨rfl, rfl, rfl, rfl, rfl⟩ rfl rfl rfl rfl rfl (by kernel_rfl) Tryd.func4 (by kernel_rfl)
    (of_decide_eq_true (by kernel_rfl)) (by unfold Func.isWrapper; first | (rw [if_pos (by decide +kernel)]; kernel_rfl) | (rw [if_neg (by decide +kernel)]; exact ⟨rfl, rfl⟩))
    (fun os started H enc _ F => by rw [OpenClaim.pre_eq_preRow]; exact lifted os started H enc F)

theorem plain (f : FuncId) (fn : Func) (hf : Tryd.pinned.checked.prog.funcNamed "drey/dreylaw09.AstBuilds" = some f) (hfn : Tryd.pinned.checked.prog.funcs[f]? = some fn) :
    false = Tryd.pinned.checked.prog.looks [] ∧ ∀ (j : Nat) t, fn.params[j]? = some t → Tryd.pinned.checked.prog.wantsStandIn t = false := by
  obtain rfl : f = 4 := Option.some.inj ((show Tryd.prog.funcNamed "drey/dreylaw09.AstBuilds" = some 4 by kernel_rfl).symm.trans hf) |>.symm
  obtain rfl : fn = Tryd.f4 := (Option.some.inj (Tryd.func4.symm.trans hfn)).symm
  refine ⟨by kernel_rfl, fun j t ht => ?_⟩
  rw [Tryd.params4] at ht
  have hm : t ∈ [24] := by simpa using Array.mem_of_getElem? ht
  have hall : ([24].all fun u => !Tryd.prog.wantsStandIn u) = true := by kernel_rfl
  exact (show Tryd.prog.wantsStandIn t = false by simpa using List.all_eq_true.1 hall t hm)

/-- The statement. -/
theorem proved : Rows.AstBuildsCardSaid :=
  Claim7.holds_tied_plain_at .later [] _ _ _ _ over (fun _ h => by cases h) (by kernel_rfl) (fun _ h => by cases h) astBuilds_row_tie rfl ⟨rfl, rfl⟩ (by kernel_rfl) rfl plain (by kernel_rfl)
#print axioms proved
end Go.Proofs.YtmnkalojpefclaaDoor.astBuilds
