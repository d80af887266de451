import Derived.Test.YtgphhfhnjacenaaF
import Derived.Test.YtgphhfhnjacenaaAL12
set_option linter.unusedSimpArgs false
set_option linter.unusedVariables false
namespace Go.Proofs.Ytgphhfhnjacenaa
open Go Go.AL Go.Proofs
theorem limits_arg {H : Type} {d : DataW H} (hf : fitD Try.prog 2 23 d) : ∃ a b c e : Int, lawArg Try.prog 2 23 d = .agg [.int .i64 a, .int .i64 b, .int .i64 c, .int .i64 e] := by
  obtain ⟨parts, rfl, hl, hp⟩ := fit_struct Try.underlying23 hf
  rw [lawArg_struct Try.underlying23, avL_struct Try.underlying23]
  rcases parts with _ | ⟨p1, _ | ⟨p2, _ | ⟨p3, _ | ⟨p4, _ | ⟨p5, ps⟩⟩⟩⟩⟩ <;> simp at hl
  simp at hp
  obtain ⟨h1, h2, h3, h4⟩ := hp
  obtain ⟨a, rfl, _⟩ := fit_int Try.underlying3 h1
  obtain ⟨b, rfl, _⟩ := fit_int Try.underlying3 h2
  obtain ⟨c, rfl, _⟩ := fit_int Try.underlying3 h3
  obtain ⟨e, rfl, _⟩ := fit_int Try.underlying3 h4
  exact ⟨a, b, c, e, by simp [avL_int Try.underlying3]⟩
theorem ints_arg {H : Type} {d : DataW H} (hf : fitD Try.prog 2 35 d) : ∃ ns : List Int, lawArg Try.prog 2 35 d = .list 1 (ns.map fun n => [.int .i64 n]) .no := by
  obtain ⟨l, h1, _⟩ := slice_arg (A := Int) (Q := fun _ => True) (g := fun n => [.int .i64 n]) Try.underlying35 (fun x hx => by
    obtain ⟨n, rfl, _⟩ := fit_int Try.underlying3 hx
    exact ⟨n, trivial, avL_int Try.underlying3⟩) hf
  rw [h1, show Try.prog.cellsOf 3 = 1 by kernel_rfl]
  exact ⟨l, rfl⟩
end Go.Proofs.Ytgphhfhnjacenaa
