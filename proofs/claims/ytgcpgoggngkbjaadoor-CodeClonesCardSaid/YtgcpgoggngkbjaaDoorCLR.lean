/-
  dreylaw14.CodeClones answers true for every input: a copy is the same program, and one of its own; each step is told in a line. No condition; the tables that the row lists are tied to the program's text.
-/
import Derived.Test.YtgcpgoggngkbjaaDoorCL
import Derived.Test.YtgcpgoggngkbjaaDoorNA
import Derived.Test.YtgcpgoggngkbjaaDoorRows
import Derived.Test.YtgcpgoggngkbjaaDoorCards
import Derived.Test.YtgcpgoggngkbjaaDoorTie
import Derived.Test.YtgcpgoggngkbjaaDoorAL21
import Derived.Test.YtgcpgoggngkbjaaDoorAL22
import Derived.Lib.ItoaLen
import Derived.Stop.LaidErr
import Derived.LaidMore
import Derived.Lay
import Derived.SevenTiedAt
import Derived.MakeChecks
set_option linter.unusedSimpArgs false
set_option linter.unusedVariables false
namespace Go.Proofs.YtgcpgoggngkbjaaDoor.codeClones
open Go Go.AL Go.Proofs

theorem own : ownKnob Tryd.prog.godebug = none := by kernel_rfl

theorem gint (W : World) (h : W.ShapedOpen Tryd.prog) : ∃ n, W.cell? ⟨0, 0, none⟩ = some (.int .i64 n) := Tryd.laysM219.s1_3 W h

/-- The library's table of powers of ten. -/
abbrev pow10 : Array Value := (Lib.pow10Tab.map fun z => Value.int .u64 z).toArray
theorem gT : Tryd.prog.globalNamed "internal/strconv.uint64pow10" = some 1 := by kernel_rfl
theorem gTType : (Tryd.prog.globals[1]?).map (·.type) = some 106 := by kernel_rfl
theorem datum : Rows.laid_internal_strconv_uint64pow10 (H := Unit) = Lib.tabData .u64 Lib.pow10Tab := by kernel_rfl
theorem u95 : Tryd.prog.underlying 95 = some (.int .u64) := by kernel_rfl
theorem tab (W : World) (hL : laidMetH Tryd.prog Rows.codeClonesRow.laid W) : ∃ t z, W.heap[1]? = some (.cells pow10 t z) := by
  rw [MakeChecks.laidMetH_plain _ _ _ (by kernel_rfl)] at hL
  have h1 : laidMet Tryd.prog (("internal/strconv.uint64pow10", Rows.laid_internal_strconv_uint64pow10) :: [("unicode/utf8.acceptRanges", Rows.laid_unicode_utf8_acceptRanges), ("unicode/utf8.first", Rows.laid_unicode_utf8_first)]) W := laidMet.tail (laidMet.tail hL)
  rw [datum] at h1
  have h2 := Lib.tabIs_of_head gT gTType Tryd.underlying106 u95 (by kernel_rfl) (by kernel_rfl) h1
  unfold Lib.TabIs World.var? at h2
  rw [gT] at h2
  simp only [Option.bind_some] at h2
  split at h2
  · rename_i cs t z he
    injection h2 with h2
    subst h2
    exact ⟨t, z, he⟩
  · cases h2
theorem itoaOn : ItoaOn (fun n => -9223372036854775808 ≤ n ∧ n ≤ 9223372036854775807) (fun h => h 1 = some (.tab pow10)) :=
  ⟨fun n hn => by have := Lib.itoa_length_le n hn.1 hn.2; omega, fun n h R hn hh hR => acalls_itoa gT (fun n h0 h1 w htab => Tryd.strconv_Itoa n h0 h1 w htab) n hn.1 hn.2 h hh R hR⟩
theorem joinOk : JoinOk := fun l sep hl hj h R hR => acalls_join Tryd.strings_Join_none Tryd.strings_Join l sep hl hj h R hR

set_option maxRecDepth 100000 in
theorem lifted (os : Os) (started : os.Started) (H : Type) (enc : TypeId × Value → H) (F : Stop.Interp) :
    ReturnsInHanded {} Tryd.checked os 5 .any ((OpenSpec.ofChange Rows.codeClonesSpec).preRow enc Tryd.prog Tryd.f5 Rows.codeClonesRow.domain false Rows.codeClonesRow.laid)
      (((OpenSpec.ofChange Rows.codeClonesSpec).at F).post enc Tryd.prog Tryd.f5 false true false false) := by
  refine law_lift_tab (C := Tryd.checked) (t := 4) (arr := pow10) (n0 := 1) (k0 := .u64) 0 1 6 (by decide) (by kernel_rfl) [24] own started (by kernel_rfl) Tryd.func5
    (ChangeSpec.witness_shaped (enc := enc) (C := Tryd.checked) (os := os) (X := fun w _ => laidMetH Tryd.prog Rows.codeClonesRow.laid w) false (World.laidAll Tryd.prog os Rows.codeClonesRow.laid) #[.agg #[.slice none 0 0]] 8 (World.laidAll_os _ _ _)
      (World.shaped_of_ZipB (by kernel_rfl) (by kernel_rfl)) (by kernel_rfl) (by kernel_rfl) (by kernel_rfl)
      (by rw [MakeChecks.laidMetH_plain _ _ _ (by kernel_rfl)]; exact laidMet_laidAll _ (by kernel_rfl) (by kernel_rfl)))
    (by kernel_rfl) (by kernel_rfl) (by kernel_rfl) (by kernel_rfl) Tryd.underlying4 rfl ?_ gint tab ?_
  · intro ds hl
    rcases ds with _ | ⟨d1, _ | ⟨d2, ds⟩⟩
    · cases hl
    · rfl
    · simp at hl
  · intro ds hf
    rcases ds with _ | ⟨d1, _ | ⟨d2, ds⟩⟩
    · exact hf.elim
    · obtain ⟨p, h1, h2, h3⟩ := prog_arg (m := 0) hf.1
      have e1 : lawArg Tryd.checked.prog 6 24 d1 = progAV p .no := h1
      simp only [lawArgs, e1]
      have hm : maxLen ≤ 9223372036854775807 := by decide
      refine CodeClones_c _ _ itoaOn (fun h g hs hh => hs _ _ hh) joinOk p (by omega) (fun i hi => ⟨by omega, by omega⟩) (fun f hf s hs => ⟨(h3 f hf s hs).a, (h3 f hf s hs).b, (h3 f hf s hs).c⟩) _ (tabAt_gint 0 1 pow10) (tabAt_tab (by decide)) _ ?_
      rfl
    · exact hf.2.elim

theorem over : Rows.CodeClonesSaid :=
  OpenClaim.holds_of_cond 5 Tryd.f5 rfl rfl rfl rfl rfl rfl rfl ⟨rfl, rfl, rfl, rfl, rfl⟩ rfl rfl rfl rfl rfl (by kernel_rfl) Tryd.func5 (by kernel_rfl)
    (of_decide_eq_true (by kernel_rfl)) (by unfold Func.isWrapper; first | (rw [if_pos (by decide +kernel)]; kernel_rfl) | (rw [if_neg (by decide +kernel)]; exact ⟨rfl, rfl⟩))
    (fun os started H enc _ F => by rw [OpenClaim.pre_eq_preRow]; exact lifted os started H enc F)

theorem plain (f : FuncId) (fn : Func) (hf : Tryd.pinned.checked.prog.funcNamed "drey/dreylaw14.CodeClones" = some f) (hfn : Tryd.pinned.checked.prog.funcs[f]? = some fn) :
    false = Tryd.pinned.checked.prog.looks [] ∧ ∀ (j : Nat) t, fn.params[j]? = some t → Tryd.pinned.checked.prog.wantsStandIn t = false := by
  obtain rfl : f = 5 := Option.some.inj ((show Tryd.prog.funcNamed "drey/dreylaw14.CodeClones" = some 5 by kernel_rfl).symm.trans hf) |>.symm
  obtain rfl : fn = Tryd.f5 := (Option.some.inj (Tryd.func5.symm.trans hfn)).symm
  refine ⟨by kernel_rfl, fun j t ht => ?_⟩
  rw [Tryd.params5] at ht
  have hm : t ∈ [24] := by simpa using Array.mem_of_getElem? ht
  have hall : ([24].all fun u => !Tryd.prog.wantsStandIn u) = true := by kernel_rfl
  exact (show Tryd.prog.wantsStandIn t = false by simpa using List.all_eq_true.1 hall t hm)

/-- The statement. -/
theorem proved : Rows.CodeClonesCardSaid :=
  Claim7.holds_tied_plain_at .later [] _ _ _ _ over (fun _ h => by cases h) (by kernel_rfl) (fun _ h => by cases h) codeClones_row_tie rfl ⟨rfl, rfl⟩ (by kernel_rfl) rfl plain (by kernel_rfl)
#print axioms proved
end Go.Proofs.YtgcpgoggngkbjaaDoor.codeClones
