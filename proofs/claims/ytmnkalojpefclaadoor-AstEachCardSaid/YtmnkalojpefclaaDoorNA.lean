import Derived.Test.YtmnkalojpefclaaDoorK
import Derived.Test.YtmnkalojpefclaaDoorAL12
set_option linter.unusedSimpArgs false
set_option linter.unusedVariables false
namespace Go.Proofs.YtmnkalojpefclaaDoor
open Go Go.AL Go.Proofs
theorem cells37 : Tryd.prog.cellsOf 37 = 5 := by kernel_rfl
theorem cells3 : Tryd.prog.cellsOf 3 = 1 := by kernel_rfl
section
variable {H : Type}
theorem ints_arg {m : Nat} {d : DataW H} (hf : fitD Tryd.prog (m + 2) 35 d) : ∃ l : List Int, avL Tryd.prog (m + 2) 35 d = [.list 1 (ints l) .no] := by
  obtain ⟨l, -, h2, -, -⟩ := slice_arg (A := Int) (Q := fun _ => True) (g := fun n => [.int .i64 n]) Tryd.underlying35 (fun x hx => by
    obtain ⟨n, rfl, -⟩ := fit_int (m := m) Tryd.underlying3 hx
    exact ⟨n, trivial, avL_int Tryd.underlying3⟩) hf
  rw [cells3] at h2
  exact ⟨l, h2⟩
theorem node_arg {m : Nat} {d : DataW H} (hf : fitD Tryd.prog (m + 3) 37 d) : ∃ n : Nd, n.num ≤ 9223372036854775807 ∧ avL Tryd.prog (m + 3) 37 d = ndRow n .no := by
  obtain ⟨parts, rfl, hl, hx⟩ := fit_struct Tryd.underlying37 hf
  rcases parts with _ | ⟨d1, _ | ⟨d2, _ | ⟨d3, _ | ⟨d4, _ | ⟨d5, _ | ⟨d6, ps⟩⟩⟩⟩⟩⟩ <;> simp at hl
  simp only [List.zip_cons_cons, List.zip_nil_right, List.mem_cons, List.not_mem_nil, or_false, forall_eq_or_imp, forall_eq] at hx
  obtain ⟨h1, h2, h3, h4, h5⟩ := hx
  obtain ⟨k, rfl, -⟩ := fit_int (m := m + 1) Tryd.underlying3 h1
  obtain ⟨p, rfl, -⟩ := fit_int (m := m + 1) Tryd.underlying3 h2
  obtain ⟨t, rfl, -⟩ := fit_string (m := m + 1) Tryd.underlying9 h3
  obtain ⟨u, rfl, hw⟩ := fit_int (m := m + 1) Tryd.underlying2 h4
  obtain ⟨l, h5⟩ := ints_arg h5
  refine ⟨⟨k, p, t, u, l⟩, ?_, ?_⟩
  · simp only [Lit.wf, Bool.and_eq_true, decide_eq_true_eq] at hw
    exact hw.2
  · rw [avL_struct Tryd.underlying37]
    simp only [List.zipWith_cons_cons, List.zipWith_nil_right, List.flatten_cons, List.flatten_nil, avL_int Tryd.underlying3, avL_string Tryd.underlying9, avL_int Tryd.underlying2, h5, List.cons_append, List.nil_append, List.append_nil]
theorem tree_arg {m : Nat} {d : DataW H} (hf : fitD Tryd.prog (m + 5) 24 d) : ∃ nodes : List Nd, lawArg Tryd.prog (m + 5) 24 d = treeAV nodes .no ∧ (∀ n ∈ nodes, n.num ≤ 9223372036854775807) ∧ nodes.length ≤ maxLen := by
  obtain ⟨parts, rfl, hl, hx⟩ := fit_struct Tryd.underlying24 hf
  rcases parts with _ | ⟨d1, _ | ⟨d2, ps⟩⟩ <;> simp at hl
  simp only [List.zip_cons_cons, List.zip_nil_right, List.mem_cons, List.not_mem_nil, or_false, forall_eq] at hx
  obtain ⟨l, -, h2, h3, h4⟩ := slice_arg (A := Nd) (Q := fun n => n.num ≤ 9223372036854775807) (g := fun n => ndRow n .no) Tryd.underlying22 (fun x hx => node_arg hx) hx
  refine ⟨l, ?_, h3, h4⟩
  rw [lawArg_struct Tryd.underlying24, avL_struct Tryd.underlying24]
  simp only [List.zipWith_cons_cons, List.zipWith_nil_right, List.flatten_cons, List.flatten_nil, List.append_nil]
  rw [h2, cells37]
end
end Go.Proofs.YtmnkalojpefclaaDoor
