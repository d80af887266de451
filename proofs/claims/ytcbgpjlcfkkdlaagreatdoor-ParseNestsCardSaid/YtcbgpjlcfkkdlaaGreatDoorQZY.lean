/-
  dreylaw10.ParseNests answers true for every input: brackets nested so deep are read up to a bound; one more is too deep, told where that is. No condition; the two tables of unicode/utf8 are tied to the program's text.
-/
import Derived.Test.YtcbgpjlcfkkdlaaGreatDoorQE
import Derived.Test.YtcbgpjlcfkkdlaaGreatDoorRows
import Derived.Test.YtcbgpjlcfkkdlaaGreatDoorCards
import Derived.Test.YtcbgpjlcfkkdlaaGreatDoorTie
import Derived.Test.YtcbgpjlcfkkdlaaGreatDoorQAN
import Derived.LaidMore
import Derived.Lay
import Derived.SevenTiedAt
import Derived.MakeChecks
set_option linter.unusedSimpArgs false
set_option linter.unusedVariables false
set_option maxRecDepth 100000
set_option maxHeartbeats 16000000
namespace Go.Proofs.YtcbgpjlcfkkdlaaGreatDoor.parseNests
open Go Go.AL Go.Proofs
theorem own : ownKnob Tryz.prog.godebug = none := by kernel_rfl
theorem gint (W : World) (h : W.ShapedOpen Tryz.prog) : ∃ n, W.cell? ⟨0, 0, none⟩ = some (.int .i64 n) := Tryz.laysM144.s1_3 W h
theorem lifted (os : Os) (started : os.Started) (H : Type) (enc : TypeId × Value → H) (F : Stop.Interp) :
    ReturnsInHanded {} Tryz.checked os 6 .any ((OpenSpec.ofChange Rows.parseNestsSpec).preRow enc Tryz.prog Tryz.f6 Rows.parseNestsRow.domain false Rows.parseNestsRow.laid)
      (((OpenSpec.ofChange Rows.parseNestsSpec).at F).post enc Tryz.prog Tryz.f6 false true false false) := by
  refine law_lift_row (C := Tryz.checked) (t := 4) 0 3 [3] own started (by kernel_rfl) Tryz.func6
    (ChangeSpec.witness_shaped (enc := enc) (C := Tryz.checked) (os := os) (X := fun w _ => laidMetH Tryz.prog Rows.parseNestsRow.laid w) false (World.laidAll Tryz.prog os Rows.parseNestsRow.laid) #[.int .i64 0] 8 (World.laidAll_os _ _ _)
      (World.shaped_of_ZipB (by kernel_rfl) (by kernel_rfl)) (by kernel_rfl) (by kernel_rfl) (by kernel_rfl)
      (by rw [MakeChecks.laidMetH_plain _ _ _ (by kernel_rfl)]; exact laidMet_laidAll _ (by kernel_rfl) (by kernel_rfl)))
    (by kernel_rfl) (by kernel_rfl) (by kernel_rfl) (by kernel_rfl) Tryz.underlying4 rfl ?_ gint ?_
  · intro ds hl
    rcases ds with _ | ⟨d1, _ | ⟨d2, ds⟩⟩
    all_goals first | rfl | simp at hl
  · intro ds hf
    have hmax : maxLen ≤ 9223372036854775807 := by decide
    rcases ds with _ | ⟨d1, _ | ⟨d2, ds⟩⟩
    case' cons.nil =>
      obtain ⟨s1, rfl, l1⟩ := fit_int (m := 2) Tryz.underlying3 hf.1
      simp only [lawArgs, lawArg_int (m := 2) Tryz.underlying3]
      refine ParseNests_c s1 _ (gintAt_self 0) _ ?_
      rfl
    all_goals first | exact hf.elim | exact hf.2.elim | exact hf.2.2.elim
theorem over : Rows.ParseNestsSaid :=
  OpenClaim.holds_of_cond 6 Tryz.f6 rfl rfl rfl rfl rfl rfl rfl ⟨rfl, rfl, rfl, rfl, rfl⟩ rfl rfl rfl rfl rfl (by kernel_rfl) Tryz.func6 (by kernel_rfl)
    (of_decide_eq_true (by kernel_rfl)) (by unfold Func.isWrapper; first | (rw [if_pos (by decide +kernel)]; kernel_rfl) | (rw [if_neg (by decide +kernel)]; exact ⟨rfl, rfl⟩))
    (fun os started H enc _ F => by rw [OpenClaim.pre_eq_preRow]; exact lifted os started H enc F)
theorem plain (f : FuncId) (fn : Func) (hf : Tryz.pinned.checked.prog.funcNamed "drey/dreylaw10.ParseNests" = some f) (hfn : Tryz.pinned.checked.prog.funcs[f]? = some fn) :
    false = Tryz.pinned.checked.prog.looks [] ∧ ∀ (j : Nat) t, fn.params[j]? = some t → Tryz.pinned.checked.prog.wantsStandIn t = false := by
  obtain rfl : f = 6 := Option.some.inj ((show Tryz.prog.funcNamed "drey/dreylaw10.ParseNests" = some 6 by kernel_rfl).symm.trans hf) |>.symm
  obtain rfl : fn = Tryz.f6 := (Option.some.inj (Tryz.func6.symm.trans hfn)).symm
  refine ⟨by kernel_rfl, fun j t ht => ?_⟩
  rw [Tryz.params6] at ht
  have hm : t ∈ [3] := by simpa using Array.mem_of_getElem? ht
  have hall : ([3].all fun u => !Tryz.prog.wantsStandIn u) = true := by kernel_rfl
  exact (show Tryz.prog.wantsStandIn t = false by simpa using List.all_eq_true.1 hall t hm)
theorem proved : Rows.ParseNestsCardSaid :=
  Claim7.holds_tied_plain_at .later [] _ _ _ _ over (fun _ h => by cases h) (by kernel_rfl) (fun _ h => by cases h) parseNests_row_tie rfl ⟨rfl, rfl⟩ (by kernel_rfl) rfl plain (by kernel_rfl)
#print axioms proved
end Go.Proofs.YtcbgpjlcfkkdlaaGreatDoor.parseNests

