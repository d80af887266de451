import Derived.Test.YtgphhfhnjacenaaN
import Derived.Test.YtgphhfhnjacenaaRows
import Derived.Test.YtgphhfhnjacenaaAL12
namespace Go.Proofs.Ytgphhfhnjacenaa.limitNames
open Go Go.AL Go.Proofs

theorem own : ownKnob Try.prog.godebug = none := by kernel_rfl

set_option maxRecDepth 100000 in
theorem lifted (os : Os) (started : os.Started) (H : Type) (enc : TypeId × Value → H) :
    ReturnsInHanded {} Try.checked os 4 .any (Rows.limitNamesSpec.pre6 enc Try.prog Try.f4 Rows.limitNamesRow.domain false) (Rows.limitNamesSpec.post enc Try.prog Try.f4 false true false false) := by
  refine law_lift (C := Try.checked) (t := 4) 1 [3] own started (by kernel_rfl) Try.func4
    (ChangeSpec.witness6 (enc := enc) (C := Try.checked) false ⟨#[], #[.int .i64 0], []⟩ 8 (by kernel_rfl) (by kernel_rfl) (by kernel_rfl) (by kernel_rfl)) (by kernel_rfl) (by kernel_rfl) (by kernel_rfl) (by kernel_rfl) Try.underlying4 rfl ?_ ?_
  · intro ds hl
    obtain ⟨d, rfl⟩ := List.length_eq_one_iff.1 hl
    simp only [Rows.limitNamesSpec]
  · intro ds hf _
    rcases ds with _ | ⟨d, _ | ⟨d2, ds⟩⟩
    · exact hf.elim
    · obtain ⟨n, rfl, hw⟩ := fit_int Try.underlying3 hf.1
      simp only [lawArgs, lawArg_int Try.underlying3]
      exact names_law n _
    · exact hf.2.elim

theorem over : Rows.limitNamesRow.holds Try.pinned (OpenSpec.ofChange Rows.limitNamesSpec) :=
  OpenClaim.holds_of_wide 4 Try.f4 rfl rfl rfl rfl rfl rfl rfl ⟨rfl, rfl, rfl, rfl, rfl⟩ rfl rfl rfl rfl rfl (by kernel_rfl) Try.func4 (by kernel_rfl)
    (of_decide_eq_true (by kernel_rfl)) (by unfold Func.isWrapper; first | (rw [if_pos (by decide +kernel)]; kernel_rfl) | (rw [if_neg (by decide +kernel)]; exact ⟨rfl, rfl⟩))
    (fun os started H enc _ => lifted os started H enc)

/-- The statement. -/
theorem proved : Rows.LimitNamesSaid :=
  over
#print axioms proved
end Go.Proofs.Ytgphhfhnjacenaa.limitNames
