/-
  dreylaw10.ParseJoins answers true for every input: two sources, a line end and a sign between, are the statements of both, where each by itself is a tree. No condition; the two tables of unicode/utf8 are tied to the program's text.
-/
import Derived.Test.YtcbgpjlcfkkdlaaGreatDoorUBI
import Derived.Test.YtcbgpjlcfkkdlaaGreatDoorRows
import Derived.Test.YtcbgpjlcfkkdlaaGreatDoorCards
import Derived.Test.YtcbgpjlcfkkdlaaGreatDoorTie
import Derived.Test.YtcbgpjlcfkkdlaaGreatDoorUAM
import Derived.LaidMore
import Derived.Lay
import Derived.SevenTiedAt
import Derived.MakeChecks
set_option linter.unusedSimpArgs false
set_option linter.unusedVariables false
set_option maxRecDepth 100000
set_option maxHeartbeats 16000000
namespace Go.Proofs.YtcbgpjlcfkkdlaaGreatDoor.parseJoins
open Go Go.AL Go.Proofs
theorem own : ownKnob Tryz.prog.godebug = none := by kernel_rfl
theorem gint (W : World) (h : W.ShapedOpen Tryz.prog) : ∃ n, W.cell? ⟨0, 0, none⟩ = some (.int .i64 n) := Tryz.laysM144.s1_3 W h
theorem lifted (os : Os) (started : os.Started) (H : Type) (enc : TypeId × Value → H) (F : Stop.Interp) :
  ReturnsInHanded {} Tryz.checked os 5 .any ((OpenSpec.ofChange Rows.parseJoinsSpec).preRow enc Tryz.prog Tryz.f5 Rows.parseJoinsRow.domain false Rows.parseJoinsRow.laid)
   (((OpenSpec.ofChange Rows.parseJoinsSpec).at F).post enc Tryz.prog Tryz.f5 false true false false) := by
 refine law_lift_row (C := Tryz.checked) (t := 4) 0 3 [9, 9] own started (by kernel_rfl) Tryz.func5
  (ChangeSpec.witness_shaped (enc := enc) (C := Tryz.checked) (os := os) (X := fun w _ => laidMetH Tryz.prog Rows.parseJoinsRow.laid w) false (World.laidAll Tryz.prog os Rows.parseJoinsRow.laid) #[.string ⟨#[]⟩, .string ⟨#[]⟩] 8 (World.laidAll_os _ _ _)
   (World.shaped_of_ZipB (by kernel_rfl) (by kernel_rfl)) (by kernel_rfl) (by kernel_rfl) (by kernel_rfl)
   (by rw [MakeChecks.laidMetH_plain _ _ _ (by kernel_rfl)]; exact laidMet_laidAll _ (by kernel_rfl) (by kernel_rfl)))
  (by kernel_rfl) (by kernel_rfl) (by kernel_rfl) (by kernel_rfl) Tryz.underlying4 rfl ?_ gint ?_
 ·intro ds hl
  rcases ds with _ | ⟨d1, _ | ⟨d2, _ | ⟨d3, ds⟩⟩⟩
  all_goals first | rfl | simp at hl
 ·intro ds hf
  have hmax : maxLen ≤ 9223372036854775807 := by decide
  rcases ds with _ | ⟨d1, _ | ⟨d2, _ | ⟨d3, ds⟩⟩⟩
  case' cons.cons.nil =>
   obtain ⟨s1, rfl, l1⟩ := fit_string (m := 2) Tryz.underlying9 hf.1
   obtain ⟨s2, rfl, l2⟩ := fit_string (m := 2) Tryz.underlying9 hf.2.1
   simp only [lawArgs, lawArg_string (m := 2) Tryz.underlying9, lawArg_string (m := 2) Tryz.underlying9]
   refine ParseJoins_c s1 s2 (by omega) (by omega) _ (gintAt_self 0) _ ?_
   rfl
  all_goals first | exact hf.elim | exact hf.2.elim | exact hf.2.2.elim
theorem over : Rows.ParseJoinsSaid :=
 OpenClaim.holds_of_cond 5 Tryz.f5 rfl rfl rfl rfl rfl rfl rfl ⟨rfl, rfl, rfl, rfl, rfl⟩ rfl rfl rfl rfl rfl (by kernel_rfl) Tryz.func5 (by kernel_rfl)
  (of_decide_eq_true (by kernel_rfl)) (by unfold Func.isWrapper; first | (rw [if_pos (by decide +kernel)]; kernel_rfl) | (rw [if_neg (by decide +kernel)]; exact ⟨rfl, rfl⟩))
  (fun os started H enc _ F => by rw [OpenClaim.pre_eq_preRow]; exact lifted os started H enc F)
theorem plain (f : FuncId) (fn : Func) (hf : Tryz.pinned.checked.prog.funcNamed "drey/dreylaw10.ParseJoins" = some f) (hfn : Tryz.pinned.checked.prog.funcs[f]? = some fn) :
  false = Tryz.pinned.checked.prog.looks [] ∧ ∀ (j : Nat) t, fn.params[j]? = some t → Tryz.pinned.checked.prog.wantsStandIn t = false := by
 obtain rfl : f = 5 := Option.some.inj ((show Tryz.prog.funcNamed "drey/dreylaw10.ParseJoins" = some 5 by kernel_rfl).symm.trans hf) |>.symm
 obtain rfl : fn = Tryz.f5 := (Option.some.inj (Tryz.func5.symm.trans hfn)).symm
 refine ⟨by kernel_rfl, fun j t ht => ?_⟩
 rw [Tryz.params5] at ht
 have hm : t ∈ [9, 9] := by simpa using Array.mem_of_getElem? ht
 have hall : ([9, 9].all fun u => !Tryz.prog.wantsStandIn u) = true := by kernel_rfl
 exact (show Tryz.prog.wantsStandIn t = false by simpa using List.all_eq_true.1 hall t hm)
theorem proved : Rows.ParseJoinsCardSaid :=
 Claim7.holds_tied_plain_at .later [] _ _ _ _ over (fun _ h => by cases h) (by kernel_rfl) (fun _ h => by cases h) parseJoins_row_tie rfl ⟨rfl, rfl⟩ (by kernel_rfl) rfl plain (by kernel_rfl)
#print axioms proved
end Go.Proofs.YtcbgpjlcfkkdlaaGreatDoor.parseJoins

