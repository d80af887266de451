/-
  dreylaw14.CodeChecks answers true for every input: whether any raw program may be, and in which function it mayn't, is what the document says. No condition; the tables that the row lists are tied to the program's text.
-/
import Derived.Test.YtgcpgoggngkbjaaDoorCK
import Derived.Test.YtgcpgoggngkbjaaDoorNA
import Derived.Test.YtgcpgoggngkbjaaDoorRows
import Derived.Test.YtgcpgoggngkbjaaDoorCards
import Derived.Test.YtgcpgoggngkbjaaDoorTie
import Derived.Test.YtgcpgoggngkbjaaDoorAL15
import Derived.LaidMore
import Derived.Lay
import Derived.SevenTiedAt
import Derived.MakeChecks
set_option linter.unusedSimpArgs false
set_option linter.unusedVariables false
namespace Go.Proofs.YtgcpgoggngkbjaaDoor.codeChecks
open Go Go.AL Go.Proofs

theorem own : ownKnob Tryd.prog.godebug = none := by kernel_rfl

theorem gint (W : World) (h : W.ShapedOpen Tryd.prog) : ∃ n, W.cell? ⟨0, 0, none⟩ = some (.int .i64 n) := Tryd.laysM219.s1_3 W h

set_option maxRecDepth 100000 in
theorem lifted (os : Os) (started : os.Started) (H : Type) (enc : TypeId × Value → H) (F : Stop.Interp) :
    ReturnsInHanded {} Tryd.checked os 3 .any ((OpenSpec.ofChange Rows.codeChecksSpec).preRow enc Tryd.prog Tryd.f3 Rows.codeChecksRow.domain false Rows.codeChecksRow.laid)
      (((OpenSpec.ofChange Rows.codeChecksSpec).at F).post enc Tryd.prog Tryd.f3 false true false false) := by
  refine law_lift_row (C := Tryd.checked) (t := 4) 0 6 [24] own started (by kernel_rfl) Tryd.func3
    (ChangeSpec.witness_shaped (enc := enc) (C := Tryd.checked) (os := os) (X := fun w _ => laidMetH Tryd.prog Rows.codeChecksRow.laid w) false (World.laidAll Tryd.prog os Rows.codeChecksRow.laid) #[.agg #[.slice none 0 0]] 8 (World.laidAll_os _ _ _)
      (World.shaped_of_ZipB (by kernel_rfl) (by kernel_rfl)) (by kernel_rfl) (by kernel_rfl) (by kernel_rfl)
      (by rw [MakeChecks.laidMetH_plain _ _ _ (by kernel_rfl)]; exact laidMet_laidAll _ (by kernel_rfl) (by kernel_rfl)))
    (by kernel_rfl) (by kernel_rfl) (by kernel_rfl) (by kernel_rfl) Tryd.underlying4 rfl ?_ gint ?_
  · intro ds hl
    rcases ds with _ | ⟨d1, _ | ⟨d2, ds⟩⟩
    · cases hl
    · rfl
    · simp at hl
  · intro ds hf
    rcases ds with _ | ⟨d1, _ | ⟨d2, ds⟩⟩
    · exact hf.elim
    · obtain ⟨p, h1, h2, -⟩ := prog_arg (m := 0) hf.1
      have e1 : lawArg Tryd.checked.prog 6 24 d1 = progAV p .no := h1
      simp only [lawArgs, e1]
      have hm : maxLen ≤ 9223372036854775807 := by decide
      refine CodeChecks_c p (by omega) _ (gintAt_self 0) _ ?_
      rfl
    · exact hf.2.elim

theorem over : Rows.CodeChecksSaid :=
  OpenClaim.holds_of_cond 3 Tryd.f3 rfl rfl rfl rfl rfl rfl rfl ⟨rfl, rfl, rfl, rfl, rfl⟩ rfl rfl rfl rfl rfl (by kernel_rfl) Tryd.func3 (by kernel_rfl)
    (of_decide_eq_true (by kernel_rfl)) (by unfold Func.isWrapper; first | (rw [if_pos (by decide +kernel)]; kernel_rfl) | (rw [if_neg (by decide +kernel)]; exact ⟨rfl, rfl⟩))
    (fun os started H enc _ F => by rw [OpenClaim.pre_eq_preRow]; exact lifted os started H enc F)

theorem plain (f : FuncId) (fn : Func) (hf : Tryd.pinned.checked.prog.funcNamed "drey/dreylaw14.CodeChecks" = some f) (hfn : Tryd.pinned.checked.prog.funcs[f]? = some fn) :
    false = Tryd.pinned.checked.prog.looks [] ∧ ∀ (j : Nat) t, fn.params[j]? = some t → Tryd.pinned.checked.prog.wantsStandIn t = false := by
  obtain rfl : f = 3 := Option.some.inj ((show Tryd.prog.funcNamed "drey/dreylaw14.CodeChecks" = some 3 by kernel_rfl).symm.trans hf) |>.symm
  obtain rfl : fn = Tryd.f3 := (Option.some.inj (Tryd.func3.symm.trans hfn)).symm
  refine ⟨by kernel_rfl, fun j t ht => ?_⟩
  rw [Tryd.params3] at ht
  have hm : t ∈ [24] := by simpa using Array.mem_of_getElem? ht
  have hall : ([24].all fun u => !Tryd.prog.wantsStandIn u) = true := by kernel_rfl
  exact (show Tryd.prog.wantsStandIn t = false by simpa using List.all_eq_true.1 hall t hm)

/-- The statement. -/
theorem proved : Rows.CodeChecksCardSaid :=
  Claim7.holds_tied_plain_at .later [] _ _ _ _ over (fun _ h => by cases h) (by kernel_rfl) (fun _ h => by cases h) codeChecks_row_tie rfl ⟨rfl, rfl⟩ (by kernel_rfl) rfl plain (by kernel_rfl)
#print axioms proved
end Go.Proofs.YtgcpgoggngkbjaaDoor.codeChecks
