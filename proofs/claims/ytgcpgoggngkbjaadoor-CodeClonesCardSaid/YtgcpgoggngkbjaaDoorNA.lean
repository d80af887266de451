import Derived.Test.YtgcpgoggngkbjaaDoorG
import Derived.Test.YtgcpgoggngkbjaaDoorAL12
set_option linter.unusedSimpArgs false
set_option linter.unusedVariables false
namespace Go.Proofs.YtgcpgoggngkbjaaDoor
open Go Go.AL Go.Proofs
theorem cells48 : Tryd.prog.cellsOf 48 = 4 := by kernel_rfl
theorem cells50 : Tryd.prog.cellsOf 50 = 3 := by kernel_rfl
theorem cells62 : Tryd.prog.cellsOf 62 = 2 := by kernel_rfl
theorem cells39 : Tryd.prog.cellsOf 39 = 4 := by kernel_rfl
theorem cells37 : Tryd.prog.cellsOf 37 = 9 := by kernel_rfl
theorem wf_i64 {n : Int} (hw : (Lit.int .i64 n).wf = true) : -9223372036854775808 ≤ n ∧ n ≤ 9223372036854775807 := by
  simp only [Lit.wf, Bool.and_eq_true, decide_eq_true_eq] at hw
  exact hw
/-- A step's numbers. -/
structure StpRange (s : Stp) : Prop where
  a : -9223372036854775808 ≤ s.a ∧ s.a ≤ 9223372036854775807
  b : -9223372036854775808 ≤ s.b ∧ s.b ≤ 9223372036854775807
  c : -9223372036854775808 ≤ s.c ∧ s.c ≤ 9223372036854775807
section
variable {H : Type}
set_option maxRecDepth 100000 in
theorem stp_arg {m : Nat} {d : DataW H} (hf : fitD Tryd.prog (m + 2) 48 d) : ∃ s : Stp, StpRange s ∧ avL Tryd.prog (m + 2) 48 d = stRow s := by
  obtain ⟨parts, rfl, hl, hx⟩ := fit_struct Tryd.underlying48 hf
  rcases parts with _ | ⟨d1, _ | ⟨d2, _ | ⟨d3, _ | ⟨d4, _ | ⟨d5, ps⟩⟩⟩⟩⟩ <;> simp at hl
  simp only [List.zip_cons_cons, List.zip_nil_right, List.mem_cons, List.not_mem_nil, or_false, forall_eq_or_imp, forall_eq] at hx
  obtain ⟨h1, h2, h3, h4⟩ := hx
  obtain ⟨a, rfl, -⟩ := fit_int (m := m) Tryd.underlying3 h1
  obtain ⟨b, rfl, w2⟩ := fit_int (m := m) Tryd.underlying3 h2
  obtain ⟨c, rfl, w3⟩ := fit_int (m := m) Tryd.underlying3 h3
  obtain ⟨e, rfl, w4⟩ := fit_int (m := m) Tryd.underlying3 h4
  refine ⟨⟨a, b, c, e⟩, ⟨wf_i64 w2, wf_i64 w3, wf_i64 w4⟩, ?_⟩
  rw [avL_struct Tryd.underlying48]
  simp only [List.zipWith_cons_cons, List.zipWith_nil_right, List.flatten_cons, List.flatten_nil, avL_int Tryd.underlying3, List.cons_append, List.nil_append, List.append_nil]
set_option maxRecDepth 100000 in
theorem tr_arg {m : Nat} {d : DataW H} (hf : fitD Tryd.prog (m + 2) 39 d) : ∃ s : Tr, True ∧ avL Tryd.prog (m + 2) 39 d = trRow s := by
  obtain ⟨parts, rfl, hl, hx⟩ := fit_struct Tryd.underlying39 hf
  rcases parts with _ | ⟨d1, _ | ⟨d2, _ | ⟨d3, _ | ⟨d4, _ | ⟨d5, ps⟩⟩⟩⟩⟩ <;> simp at hl
  simp only [List.zip_cons_cons, List.zip_nil_right, List.mem_cons, List.not_mem_nil, or_false, forall_eq_or_imp, forall_eq] at hx
  obtain ⟨h1, h2, h3, h4⟩ := hx
  obtain ⟨a, rfl, -⟩ := fit_int (m := m) Tryd.underlying3 h1
  obtain ⟨b, rfl, -⟩ := fit_int (m := m) Tryd.underlying3 h2
  obtain ⟨c, rfl, -⟩ := fit_int (m := m) Tryd.underlying3 h3
  obtain ⟨e, rfl, -⟩ := fit_int (m := m) Tryd.underlying3 h4
  refine ⟨⟨a, b, c, e⟩, trivial, ?_⟩
  rw [avL_struct Tryd.underlying39]
  simp only [List.zipWith_cons_cons, List.zipWith_nil_right, List.flatten_cons, List.flatten_nil, avL_int Tryd.underlying3, List.cons_append, List.nil_append, List.append_nil]
set_option maxRecDepth 100000 in
theorem vl_arg {m : Nat} {d : DataW H} (hf : fitD Tryd.prog (m + 2) 50 d) : ∃ s : Vl, True ∧ avL Tryd.prog (m + 2) 50 d = vlRow s := by
  obtain ⟨parts, rfl, hl, hx⟩ := fit_struct Tryd.underlying50 hf
  rcases parts with _ | ⟨d1, _ | ⟨d2, _ | ⟨d3, _ | ⟨d4, ps⟩⟩⟩⟩ <;> simp at hl
  simp only [List.zip_cons_cons, List.zip_nil_right, List.mem_cons, List.not_mem_nil, or_false, forall_eq_or_imp, forall_eq] at hx
  obtain ⟨h1, h2, h3⟩ := hx
  obtain ⟨a, rfl, -⟩ := fit_int (m := m) Tryd.underlying3 h1
  obtain ⟨b, rfl, -⟩ := fit_int (m := m) Tryd.underlying2 h2
  obtain ⟨c, rfl, -⟩ := fit_string (m := m) Tryd.underlying9 h3
  refine ⟨⟨a, b, c⟩, trivial, ?_⟩
  rw [avL_struct Tryd.underlying50]
  simp only [List.zipWith_cons_cons, List.zipWith_nil_right, List.flatten_cons, List.flatten_nil, avL_int Tryd.underlying3, avL_int Tryd.underlying2, avL_string Tryd.underlying9, List.cons_append, List.nil_append, List.append_nil]
set_option maxRecDepth 100000 in
theorem cap_arg {m : Nat} {d : DataW H} (hf : fitD Tryd.prog (m + 2) 62 d) : ∃ s : Cap, True ∧ avL Tryd.prog (m + 2) 62 d = capRow s := by
  obtain ⟨parts, rfl, hl, hx⟩ := fit_struct Tryd.underlying62 hf
  rcases parts with _ | ⟨d1, _ | ⟨d2, _ | ⟨d3, ps⟩⟩⟩ <;> simp at hl
  simp only [List.zip_cons_cons, List.zip_nil_right, List.mem_cons, List.not_mem_nil, or_false, forall_eq_or_imp, forall_eq] at hx
  obtain ⟨h1, h2⟩ := hx
  obtain ⟨a, rfl⟩ := fit_bool (m := m) Tryd.underlying4 h1
  obtain ⟨b, rfl, -⟩ := fit_int (m := m) Tryd.underlying3 h2
  refine ⟨⟨a, b⟩, trivial, ?_⟩
  rw [avL_struct Tryd.underlying62]
  simp only [List.zipWith_cons_cons, List.zipWith_nil_right, List.flatten_cons, List.flatten_nil, avL_int Tryd.underlying3, avL_bool Tryd.underlying4, List.cons_append, List.nil_append, List.append_nil]
set_option maxRecDepth 100000 in
theorem fn_arg {m : Nat} {d : DataW H} (hf : fitD Tryd.prog (m + 4) 37 d) : ∃ f : Fn, (∀ s ∈ f.steps, StpRange s) ∧ avL Tryd.prog (m + 4) 37 d = fnRow f := by
  obtain ⟨parts, rfl, hl, hx⟩ := fit_struct Tryd.underlying37 hf
  rcases parts with _ | ⟨d1, _ | ⟨d2, _ | ⟨d3, _ | ⟨d4, _ | ⟨d5, _ | ⟨d6, _ | ⟨d7, _ | ⟨d8, _ | ⟨d9, _ | ⟨d10, ps⟩⟩⟩⟩⟩⟩⟩⟩⟩⟩ <;> simp at hl
  simp only [List.zip_cons_cons, List.zip_nil_right, List.mem_cons, List.not_mem_nil, or_false, forall_eq_or_imp, forall_eq] at hx
  obtain ⟨h1, h2, h3, h4, h5, h6, h7, h8, h9⟩ := hx
  obtain ⟨l1, -, e1, q1, n1⟩ := slice_arg (A := Stp) (Q := StpRange) (g := stRow) Tryd.underlying32 (fun x hx => stp_arg hx) h1
  obtain ⟨l2, -, e2, -, n2⟩ := slice_arg (A := Vl) (Q := fun _ => True) (g := vlRow) Tryd.underlying33 (fun x hx => vl_arg hx) h2
  obtain ⟨a, rfl, -⟩ := fit_int (m := m + 2) Tryd.underlying3 h3
  obtain ⟨b, rfl, -⟩ := fit_int (m := m + 2) Tryd.underlying3 h4
  obtain ⟨c, rfl, -⟩ := fit_int (m := m + 2) Tryd.underlying3 h5
  obtain ⟨l3, -, e3, -, n3⟩ := slice_arg (A := Cap) (Q := fun _ => True) (g := capRow) Tryd.underlying34 (fun x hx => cap_arg hx) h6
  obtain ⟨l4, -, e4, -, n4⟩ := slice_arg (A := Tr) (Q := fun _ => True) (g := trRow) Tryd.underlying35 (fun x hx => tr_arg hx) h7
  obtain ⟨y, rfl⟩ := fit_bool (m := m + 2) Tryd.underlying4 h8
  obtain ⟨nm, rfl, -⟩ := fit_string (m := m + 2) Tryd.underlying9 h9
  rw [cells48] at e1
  rw [cells50] at e2
  rw [cells62] at e3
  rw [cells39] at e4
  refine ⟨⟨l1, l2, a, b, c, l3, l4, y, nm⟩, q1, ?_⟩
  rw [avL_struct Tryd.underlying37]
  simp only [List.zipWith_cons_cons, List.zipWith_nil_right, List.flatten_cons, List.flatten_nil, avL_int Tryd.underlying3, avL_bool Tryd.underlying4, avL_string Tryd.underlying9, e1, e2, e3, e4, List.cons_append, List.nil_append, List.append_nil]
set_option maxRecDepth 100000 in
theorem prog_arg {m : Nat} {d : DataW H} (hf : fitD Tryd.prog (m + 6) 24 d) : ∃ p : List Fn, lawArg Tryd.prog (m + 6) 24 d = progAV p .no ∧ p.length ≤ maxLen ∧ ∀ f ∈ p, ∀ s ∈ f.steps, StpRange s := by
  obtain ⟨parts, rfl, hl, hx⟩ := fit_struct Tryd.underlying24 hf
  rcases parts with _ | ⟨d1, _ | ⟨d2, ps⟩⟩ <;> simp at hl
  simp only [List.zip_cons_cons, List.zip_nil_right, List.mem_cons, List.not_mem_nil, or_false, forall_eq] at hx
  obtain ⟨l, -, h2, h3, h4⟩ := slice_arg (A := Fn) (Q := fun f => ∀ s ∈ f.steps, StpRange s) (g := fnRow) Tryd.underlying22 (fun x hx => fn_arg hx) hx
  refine ⟨l, ?_, h4, h3⟩
  rw [lawArg_struct Tryd.underlying24, avL_struct Tryd.underlying24]
  simp only [List.zipWith_cons_cons, List.zipWith_nil_right, List.flatten_cons, List.flatten_nil, List.append_nil]
  rw [h2, cells37]
set_option maxRecDepth 100000 in
theorem func_arg {m : Nat} {d : DataW H} (hf : fitD Tryd.prog (m + 4) 37 d) : ∃ f : Fn, lawArg Tryd.prog (m + 4) 37 d = .agg (fnRow f) := by
  obtain ⟨f, h1, h2⟩ := fn_arg hf
  exact ⟨f, by rw [lawArg_struct Tryd.underlying37, h2]⟩
end
end Go.Proofs.YtgcpgoggngkbjaaDoor
