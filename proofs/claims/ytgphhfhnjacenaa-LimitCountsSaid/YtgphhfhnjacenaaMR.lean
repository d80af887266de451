import Derived.Test.YtgphhfhnjacenaaM
import Derived.Test.YtgphhfhnjacenaaG
import Derived.Test.YtgphhfhnjacenaaRows
import Derived.Test.YtgphhfhnjacenaaAL12
set_option linter.unusedSimpArgs false
set_option linter.unusedVariables false
namespace Go.Proofs.Ytgphhfhnjacenaa.limitCounts
open Go Go.AL Go.Proofs

theorem own : ownKnob Try.prog.godebug = none := by kernel_rfl

set_option maxRecDepth 100000 in
theorem lifted (os : Os) (started : os.Started) (H : Type) (enc : TypeId × Value → H) :
    ReturnsInHanded {} Try.checked os 5 .any (Rows.limitCountsSpec.pre6 enc Try.prog Try.f5 Rows.limitCountsRow.domain false) (Rows.limitCountsSpec.post enc Try.prog Try.f5 false true false false) := by
  refine law_lift (C := Try.checked) (t := 4) 2 [35, 23] own started (by kernel_rfl) Try.func5
    (ChangeSpec.witness6 (enc := enc) (C := Try.checked) false ⟨#[], #[.slice none 0 0, .agg #[.int .i64 0, .int .i64 0, .int .i64 0, .int .i64 0]], []⟩ 8 (by kernel_rfl) (by kernel_rfl) (by kernel_rfl) (by kernel_rfl)) (by kernel_rfl) (by kernel_rfl) (by kernel_rfl) (by kernel_rfl) Try.underlying4 rfl ?_ ?_
  · intro ds hl
    rcases ds with _ | ⟨d, _ | ⟨d2, _ | ⟨d3, ds⟩⟩⟩ <;> simp at hl
    simp only [Rows.limitCountsSpec]
  · intro ds hf _
    rcases ds with _ | ⟨d, _ | ⟨d2, _ | ⟨d3, ds⟩⟩⟩
    · exact hf.elim
    · exact hf.2.elim
    · obtain ⟨ns, e1⟩ := ints_arg hf.1
      obtain ⟨a, b, c, d', e2⟩ := limits_arg hf.2.1
      show ACalls Try.prog _ (lawArgs Try.prog 2 [35, 23] [d, d2]) _ _
      simp only [lawArgs, e1, e2]
      exact counts_law ns a b c d' _
    · exact hf.2.2.elim

theorem over : Rows.limitCountsRow.holds Try.pinned (OpenSpec.ofChange Rows.limitCountsSpec) :=
  OpenClaim.holds_of_wide 5 Try.f5 rfl rfl rfl rfl rfl rfl rfl ⟨rfl, rfl, rfl, rfl, rfl⟩ rfl rfl rfl rfl rfl (by kernel_rfl) Try.func5 (by kernel_rfl)
    (of_decide_eq_true (by kernel_rfl)) (by unfold Func.isWrapper; first | (rw [if_pos (by decide +kernel)]; kernel_rfl) | (rw [if_neg (by decide +kernel)]; exact ⟨rfl, rfl⟩))
    (fun os started H enc _ => lifted os started H enc)

/-- The statement. -/
theorem proved : Rows.LimitCountsSaid :=
  over
#print axioms proved
end Go.Proofs.Ytgphhfhnjacenaa.limitCounts
