import Derived.Test.YtgphhfhnjacenaaK
import Derived.Test.YtgphhfhnjacenaaG
import Derived.Test.YtgphhfhnjacenaaRows
import Derived.Test.YtgphhfhnjacenaaAL12
set_option linter.unusedSimpArgs false
set_option linter.unusedVariables false
namespace Go.Proofs.Ytgphhfhnjacenaa.limitClips
open Go Go.AL Go.Proofs

theorem own : ownKnob Try.prog.godebug = none := by kernel_rfl

set_option maxRecDepth 100000 in
theorem lifted (os : Os) (started : os.Started) (H : Type) (enc : TypeId × Value → H) :
    ReturnsInHanded {} Try.checked os 3 .any (Rows.limitClipsSpec.pre6 enc Try.prog Try.f3 Rows.limitClipsRow.domain false) (Rows.limitClipsSpec.post enc Try.prog Try.f3 false true false false) := by
  refine law_lift (C := Try.checked) (t := 4) 2 [23] own started (by kernel_rfl) Try.func3
    (ChangeSpec.witness6 (enc := enc) (C := Try.checked) false ⟨#[], #[.agg #[.int .i64 0, .int .i64 0, .int .i64 0, .int .i64 0]], []⟩ 8 (by kernel_rfl) (by kernel_rfl) (by kernel_rfl) (by kernel_rfl)) (by kernel_rfl) (by kernel_rfl) (by kernel_rfl) (by kernel_rfl) Try.underlying4 rfl ?_ ?_
  · intro ds hl
    obtain ⟨d, rfl⟩ := List.length_eq_one_iff.1 hl
    simp only [Rows.limitClipsSpec]
  · intro ds hf _
    rcases ds with _ | ⟨d, _ | ⟨d2, ds⟩⟩
    · exact hf.elim
    · obtain ⟨a, b, c, d', e⟩ := limits_arg hf.1
      show ACalls Try.prog _ (lawArgs Try.prog 2 [23] [d]) _ _
      simp only [lawArgs, e]
      exact clips_law a b c d' _
    · exact hf.2.elim

theorem over : Rows.limitClipsRow.holds Try.pinned (OpenSpec.ofChange Rows.limitClipsSpec) :=
  OpenClaim.holds_of_wide 3 Try.f3 rfl rfl rfl rfl rfl rfl rfl ⟨rfl, rfl, rfl, rfl, rfl⟩ rfl rfl rfl rfl rfl (by kernel_rfl) Try.func3 (by kernel_rfl)
    (of_decide_eq_true (by kernel_rfl)) (by unfold Func.isWrapper; first | (rw [if_pos (by decide +kernel)]; kernel_rfl) | (rw [if_neg (by decide +kernel)]; exact ⟨rfl, rfl⟩))
    (fun os started H enc _ => lifted os started H enc)

/-- The statement. -/
theorem proved : Rows.LimitClipsSaid :=
  over
#print axioms proved
end Go.Proofs.Ytgphhfhnjacenaa.limitClips
