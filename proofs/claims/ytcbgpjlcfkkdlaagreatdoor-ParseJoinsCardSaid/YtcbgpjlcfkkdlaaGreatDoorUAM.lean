import Derived.Test.YtcbgpjlcfkkdlaaGreatDoorUAL
import Derived.Test.YtcbgpjlcfkkdlaaGreatDoorUAG
import Derived.Deep.DeepHandedRow
set_option linter.unusedSimpArgs false
set_option linter.unusedVariables false
namespace Go.AL
open Go Go.RowKit Go.ChangeShapes
abbrev gintAt (g : Nat) : Heap := fun b => if b = g then some .gint else none
theorem gintAt_self (g : Nat) : gintAt g g = some .gint := by simp [gintAt]
theorem inv_start_gint (W : World) (g : Nat) (m : Int) (hm : W.cell? ⟨g, 0, none⟩ = some (.int .i64 m)) : Inv (baseOf W) (finOf W) W (gintAt g) := by
 have h0 := inv_start W
 refine ⟨h0.below, h0.fin, h0.fin0, fun b x h => ?_⟩
 by_cases hb : b = g
 ·subst hb
  simp [gintAt] at h
  subst h
  exact ⟨trivial, World.block_lt_of_cell? W _ hm, m, finOf_some hm rfl⟩
 ·simp [gintAt, hb] at h
theorem law_calls_gint {P : Program} {W : World} {f : FuncId} {args : Array Value} {as : List AV} {g : Nat} {m : Int} (hm : W.cell? ⟨g, 0, none⟩ = some (.int .i64 m)) (hr : RepL (finOf W) args as) (hc : ACalls P f as (gintAt g) fun x _ => x = .bool true) :
  Calls P f args W fun e W' => e = .returned (.bool true) ∧ Below W.heap.size W W' :=
 (hc (baseOf W) (finOf W) W args (inv_start_gint W g m hm) hr).mono fun e W' ⟨v, F', x, h', he, _, hi, hx, hR⟩ => by
  subst hR
  cases hx
  exact ⟨he, hi.below.toBelow⟩
theorem law_lift_row {H : Type} {enc : TypeId × Value → H} {C : Checked} {os : Os} {f : FuncId} {fn : Func} {s : ChangeSpec} {conds : List PathCond} {laid : List (String × DataW Unit)} {F : Stop.Interp} {t : TypeId} (g m : Nat) (ts : List TypeId)
  (own : ownKnob C.prog.godebug = none) (started : os.Started) (noInit : C.prog.inits.idxOf? f = none) (hfn : C.prog.funcs[f]? = some fn)
  (witness : ∃ (w : World) (tape : Tape) (i : Input), w.os = os ∧ (w.forCall tape i).Shaped C.prog ∧ i.vars = [] ∧ Input.okWide C.prog (w.forCall tape i) .any w.heap.size f i ∧
   (OpenSpec.ofChange s).preRow enc C.prog fn conds false laid (w.forCall tape i).memory i.args ∧ Assume.holds {} C.prog (lone (Frame.enter C.prog f i.args .normal) [] (w.forCall tape i)))
  (hl : laidOutB C.prog = true) (hp : fn.params.toList = ts) (hts : okTs C.prog m ts = true) (hr : fn.resultTypes = #[t]) (hb : C.prog.underlying t = some .bool) (hv : s.vars = [])
  (hs : ∀ ds : List (DataW H), ds.length = ts.length → s.fn H ds = { results := [.lit (.bool true)], args := ds })
  (gint : ∀ W : World, W.ShapedOpen C.prog → ∃ n, W.cell? ⟨g, 0, none⟩ = some (.int .i64 n))
  (walk : ∀ ds : List (DataW H), Fits C.prog m ts ds → ACalls C.prog f (lawArgs C.prog m ts ds) (gintAt g) fun x _ => x = .bool true) :
  ReturnsInHanded {} C os f .any ((OpenSpec.ofChange s).preRow enc C.prog fn conds false laid) (((OpenSpec.ofChange s).at F).post enc C.prog fn false true false false) := by
 refine returnsInHanded_of_row (C := C) (s := OpenSpec.ofChange s) own started noInit hfn witness ?_
 subst hp
 intro W base args ds gs before hval hW _ _ _ _ hsh _
 have hW0 : DataW.Whole enc C.prog fn.params.toList s.vars false W args.toList ds gs before := hW
 have hW' := hW0
 obtain ⟨p, q, hA, hV, rfl, hfz, hnd⟩ := hW0
 rw [hv] at hV
 obtain ⟨rfl, rfl⟩ := trodVars_none hV
 obtain ⟨n, hn⟩ := gint W hsh
 have h1 := lawArgs_rep (m := m) fn.params.toList args.toList ds p hts (fun j t v hj hv => hval j t v (by simpa using hj) (by simpa using hv)) hA
 have hrep : RepL (finOf W) args (lawArgs C.prog m fn.params.toList ds) := ⟨by simpa using h1.1, fun i hi => by
  have h2 := h1.2.1 i (by rw [h1.1]; exact hi)
  have : i < args.size := by have := h1.1; simp at this; omega
  simpa [List.getD, Array.getD, this] using h2⟩
 have hlen : ∀ (ts : List TypeId) (ds : List (DataW H)), Fits C.prog m ts ds → ds.length = ts.length := by
  intro ts
  induction ts with
  | nil => intro ds h; cases ds <;> simp_all [Fits]
  | cons t ts ih => intro ds h; cases ds <;> simp_all [Fits]
 refine (law_calls_gint hn hrep (walk ds h1.2.2)).mono fun e W' ⟨he, hbl⟩ => ?_
 subst he
 have e1 : s.fn H (ds ++ []) = { results := [.lit (.bool true)], args := ds } := by rw [List.append_nil]; exact hs ds (by simpa using hlen _ _ h1.2.2)
 have hpost : s.post enc C.prog fn false true false false W args (.bool true) W' := by
  refine ⟨ds, [], p ++ [], [], p, [], hW', ?_, ?_, ?_, hbl.frame _, fun h => by cases h⟩
  ·rw [e1, hr]
   exact trodAll_cons_mk (shut_bool hb _) trodAll_mk0
  ·rw [e1]
   exact below_trodAll (m := m) hl hbl _ _ _ _ hts hA (fun x hx => hW'.lt x (by simp [hx]))
  ·rw [e1, hv]
   rfl
 exact ⟨_, rfl, hpost⟩
end Go.AL

