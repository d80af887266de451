/-
  The abstract logic, 6: slicing, literals; 'pev' is right.
-/
import Derived.Test.YtgcpgoggngkbjaaDoorAL5
set_option linter.unusedSimpArgs false
set_option linter.unusedVariables false
namespace Go.AL
open Go Go.RowKit

section
variable {P : Program} {w0 : Base} {w : World} {F : Fin} {h : Heap}

theorem run_sliceBound' (k : IntKind) (i : Int) (y : Nat) (code : BoundsCode) (h0 : 0 ≤ i) (h1 : i ≤ y) (w : World) :
    (Instr.sliceBound (.int k i) y code).run P w = .ok i.toNat w := by
  unfold Instr.sliceBound
  simp [asIntOf, h0, h1]

/-- An optional bound. -/
def RepO (F : Fin) : Option Value → Option AV → Prop
  | none, none => True
  | some v, some x => Rep F v x
  | _, _ => False

theorem lo_cases {lo : Option Value} {l : Option AV} {a : Int} (hl : loOf l = some a) (rl : RepO F lo l) : (lo = none ∧ a = 0) ∨ ∃ k, lo = some (.int k a) := by
  cases lo with
  | none =>
    cases l with
    | none => simp only [loOf] at hl; injection hl with hl; exact .inl ⟨rfl, hl.symm⟩
    | some x => exact rl.elim
  | some v =>
    cases l with
    | none => exact rl.elim
    | some x =>
      have rl' : Rep F v x := rl
      cases x <;> simp only [loOf] at hl <;> first | cases hl | skip
      have := rl'.int_inv
      exact .inr ⟨_, by rw [this]⟩

theorem hi_cases {hi : Option Value} {r : Option AV} {b : Int} {len : Nat} (hh : hiOf len r = some b) (rh : RepO F hi r) : (hi = none ∧ b = len ∧ r = none) ∨ ∃ k, hi = some (.int k b) := by
  cases hi with
  | none =>
    cases r with
    | none => simp only [hiOf] at hh; injection hh with hh; exact .inl ⟨rfl, hh.symm, rfl⟩
    | some x => exact rh.elim
  | some v =>
    cases r with
    | none => exact rh.elim
    | some x =>
      have rh' : Rep F v x := rh
      cases x <;> simp only [hiOf] at hh <;> first | cases hh | skip
      have := rh'.int_inv
      exact .inr ⟨_, by rw [this]⟩

theorem bounds_sound {isSlice : Bool} {len cap : Nat} {lo hi : Option Value} {l r : Option AV} {a b : Int} (hl : loOf l = some a) (hh : hiOf len r = some b)
    (rl : RepO F lo l) (rh : RepO F hi r) (h0 : 0 ≤ a) (h1 : a ≤ b) (h2 : b ≤ len) (hc : len ≤ cap) (w : World) :
    (Instr.sliceBounds isSlice len cap lo hi none).run P w = .ok (a.toNat, b.toNat, cap) w := by
  have q1 : ∀ k code, (Instr.sliceBound (.int k a) b.toNat code).run P w = .ok a.toNat w := fun k code => run_sliceBound' k a b.toNat code h0 (by omega) w
  have q2 : ∀ k code, (Instr.sliceBound (.int k b) cap code).run P w = .ok b.toNat w := fun k code => run_sliceBound' k b cap code (by omega) (by omega) w
  rcases lo_cases hl rl with ⟨rfl, rfl⟩ | ⟨k, rfl⟩ <;> rcases hi_cases hh rh with ⟨rfl, hb, _⟩ | ⟨k', rfl⟩ <;> unfold Instr.sliceBounds
  · simp; omega
  · simp [q2]
  · have hb' : len = b.toNat := by omega
    simp only [Sem.run_bind, Sem.run_pure, Result.andThen_ok]
    rw [hb']
    simp [q1]
  · simp [q1, q2]

theorem bounds3_sound {len cap : Nat} {lo hi : Option Value} {l : Option AV} {x : AV} {a b m : Int} {vm : Value} {k : IntKind} (hl : loOf l = some a) (hh : hiOf len (some x) = some b)
    (rl : RepO F lo l) (rh : RepO F hi (some x)) (rm : Rep F vm (.int k m)) (h0 : 0 ≤ a) (h1 : a ≤ b) (hbm : b = m) (h2 : b ≤ len) (hc : len ≤ cap) (w : World) :
    (Instr.sliceBounds true len cap lo hi (some vm)).run P w = .ok (a.toNat, b.toNat, m.toNat) w := by
  have hm := rm.int_inv
  subst hm hbm
  have q1 : ∀ k code, (Instr.sliceBound (.int k a) b.toNat code).run P w = .ok a.toNat w := fun k code => run_sliceBound' k a b.toNat code h0 (by omega) w
  have q2 : ∀ k code, (Instr.sliceBound (.int k b) cap code).run P w = .ok b.toNat w := fun k code => run_sliceBound' k b cap code (by omega) (by omega) w
  have q3 : ∀ k code, (Instr.sliceBound (.int k b) b.toNat code).run P w = .ok b.toNat w := fun k code => run_sliceBound' k b _ code (by omega) (by omega) w
  rcases lo_cases hl rl with ⟨rfl, rfl⟩ | ⟨k, rfl⟩ <;> rcases hi_cases hh rh with ⟨rfl, hb, hx⟩ | ⟨k', rfl⟩ <;> unfold Instr.sliceBounds
  · cases hx
  · simp [q2, q3]
  · cases hx
  · simp [q1, q2, q3]

theorem getD_rows {rows : List (List AV)} {a b i : Nat} (hi : a + i < b) : ((rows.take b).drop a).getD i [] = rows.getD (a + i) [] := by
  simp [List.getD, List.getElem?_drop, List.getElem?_take, hi]

theorem slice_sound {t : TypeId} {x : AV} {v : Value} {lo hi mx : Option Value} {l r m : Option AV} {S : Prop} {y : AV} (e : sliceAV P t x l r m = (S, y)) (hs : S)
    (hv : Rep F v x) (rl : RepO F lo l) (rh : RepO F hi r) (rm : RepO F mx m) : ∃ q, (∀ w, (Instr.sliceAt t v lo hi mx).run P w = .ok q w) ∧ Rep F q y := by
  unfold sliceAV at e
  split at e
  · rename_i el sz s ht
    have h1 := elemT_string ht
    split at e
    · rename_i a b hl hh
      injection e with e1 e2
      subst e1 e2
      obtain ⟨s0, s1, s2⟩ := hs
      obtain ⟨bs, rfl, rfl⟩ := hv.str_inv
      have hsz : bs.data.toList.length = bs.size := by rw [ByteArray.size, ← Array.length_toList]
      cases mx with
      | some _ => exact rm.elim
      | none =>
        rw [hsz] at hh s2
        have hb := fun w => bounds_sound (P := P) (isSlice := false) (cap := bs.size) hl hh rl rh s0 s1 s2 (Nat.le_refl _) w
        refine ⟨.string (bs.extract a.toNat b.toNat), fun w => ?_, .str _ _ ?_⟩
        · unfold Instr.sliceAt
          simp only [Sem.run_bind, run_underlying h1, Result.andThen_ok]
          unfold Instr.slice
          simp only [Sem.run_bind, run_underlying h1, Result.andThen_ok, Option.isSome_none, Bool.false_eq_true, if_false, hb, Sem.run_pure]
        · rw [ByteArray.data_extract, Array.toList_extract, List.extract_eq_take_drop, List.drop_take]
    · injection e with e1 e2; subst e1; exact hs.elim
  · rename_i el sz s rows tk ht
    obtain ⟨ti, h1, h2, h3⟩ := elemT_slice ht
    have pre : ∀ w, (Instr.sliceAt t v lo hi mx).run P w = (Instr.slice t v lo hi mx).run P w := by
      intro w
      unfold Instr.sliceAt
      simp only [Sem.run_bind, run_underlying h1, Result.andThen_ok]
    simp only [pre]
    split at e
    · rename_i a b hl hh
      injection e with e1 e2
      subst e1 e2
      obtain ⟨s0, s1, s2, s3⟩ := hs
      subst s3
      cases mx with
      | some _ => exact rm.elim
      | none =>
        cases hv with
        | listNil =>
          have hb := fun w => bounds_sound (P := P) (isSlice := true) (len := 0) (cap := 0) hl hh rl rh s0 s1 s2 (Nat.le_refl _) w
          have ha : a = 0 := by simp at s2; omega
          have hb0 : b = 0 := by simp at s2; omega
          subst ha hb0
          refine ⟨.slice none 0 0, fun w => ?_, by simpa using .listNo _⟩
          unfold Instr.slice
          simp only [Sem.run_bind, run_underlying h1, Result.andThen_ok, hb, run_sizeOf_info h2, Sem.run_pure]
          rfl
        | listFull =>
          have hb := fun w => bounds_sound (P := P) (isSlice := true) (len := 0) (cap := 0) hl hh rl rh s0 s1 s2 (Nat.le_refl _) w
          have ha : a = 0 := by simp at s2; omega
          have hb0 : b = 0 := by simp at s2; omega
          subst ha hb0
          refine ⟨.slice none 0 0, fun w => ?_, by simpa using .listNo _⟩
          unfold Instr.slice
          simp only [Sem.run_bind, run_underlying h1, Result.andThen_ok, hb, run_sizeOf_info h2, Sem.run_pure]
          rfl
        | listE ad =>
          have hb := fun w => bounds_sound (P := P) (isSlice := true) (len := 0) (cap := 0) hl hh rl rh s0 s1 s2 (Nat.le_refl _) w
          have ha : a = 0 := by simp at s2; omega
          have hb0 : b = 0 := by simp at s2; omega
          subst ha hb0
          refine ⟨.slice (some ad) 0 0, fun w => ?_, by simpa using .listE _ _⟩
          unfold Instr.slice
          simp only [Sem.run_bind, run_underlying h1, Result.andThen_ok, hb, run_sizeOf_info h2, Sem.run_pure]
          rfl
        | listEF ad =>
          have hb := fun w => bounds_sound (P := P) (isSlice := true) (len := 0) (cap := 0) hl hh rl rh s0 s1 s2 (Nat.le_refl _) w
          have ha : a = 0 := by simp at s2; omega
          have hb0 : b = 0 := by simp at s2; omega
          subst ha hb0
          refine ⟨.slice (some ad) 0 0, fun w => ?_, by simpa using .listE _ _⟩
          unfold Instr.slice
          simp only [Sem.run_bind, run_underlying h1, Result.andThen_ok, hb, run_sizeOf_info h2, Sem.run_pure]
          rfl
        | listNo =>
          have hb := fun w => bounds_sound (P := P) (isSlice := true) (len := 0) (cap := 0) hl hh rl rh s0 s1 s2 (Nat.le_refl _) w
          have ha : a = 0 := by simp at s2; omega
          have hb0 : b = 0 := by simp at s2; omega
          subst ha hb0
          refine ⟨.slice none 0 0, fun w => ?_, by simpa using .listNo _⟩
          unfold Instr.slice
          simp only [Sem.run_bind, run_underlying h1, Result.andThen_ok, hb, run_sizeOf_info h2, Sem.run_pure]
          rfl
        | list bb o cap sz' len rows' tk' cv hn hc hl' hh' hr ht' =>
          have hb := fun w => bounds_sound (P := P) (isSlice := true) (cap := cap) hl (hn ▸ hh) rl rh s0 s1 (hn ▸ s2) hc w
          refine ⟨.slice (if cap = a.toNat then some ⟨bb, o, none⟩ else some ⟨bb, o + a.toNat * s, none⟩) (b.toNat - a.toNat) (cap - a.toNat), fun w => ?_, ?_⟩
          · unfold Instr.slice
            simp only [Sem.run_bind, run_underlying h1, Result.andThen_ok, hb, run_sizeOf_info h2, Sem.run_pure, Option.map_some, addr_add, h3]
          · have hlen : ((rows.take b.toNat).drop a.toNat).length = b.toNat - a.toNat := by simp; omega
            have hmem : ∀ r ∈ (rows.take b.toNat).drop a.toNat, r.length = s := fun r hr => hl' r (List.mem_of_mem_take (List.mem_of_mem_drop hr))
            split
            · rename_i hca
              have hz : b.toNat - a.toNat = 0 := by omega
              exact .list bb o (cap - a.toNat) s (b.toNat - a.toNat) _ .no (fun _ _ => undef) hlen.symm (by omega) hmem (fun i j hi _ => by rw [hlen] at hi; omega) (fun i j hi _ => by rw [hlen] at hi; omega) trivial
            · refine .list bb (o + a.toNat * s) (cap - a.toNat) s (b.toNat - a.toNat) _ .no (fun i j => cv (a.toNat + i) j) hlen.symm (by omega) hmem (fun i j hi hj => ?_) (fun i j hi hj => ?_) trivial
              · rw [hlen] at hi
                rw [show o + a.toNat * s + i * s + j = o + (a.toNat + i) * s + j by rw [Nat.add_mul]; omega]
                exact hh' (a.toNat + i) j (by omega) hj
              · rw [hlen] at hi
                rw [getD_rows (by omega)]
                exact hr (a.toNat + i) j (by omega) hj
    · rename_i a b x k m' hl hh
      injection e with e1 e2
      subst e1 e2
      obtain ⟨s0, s1, s2, s3, s4⟩ := hs
      subst s4
      cases mx with
      | none => exact rm.elim
      | some vm =>
        have nilcase : rows = [] → v = .slice none 0 0 → ∃ q, (∀ w, (Instr.slice t v lo hi (some vm)).run P w = .ok q w) ∧ Rep F q (.list s ((rows.take b.toNat).drop a.toNat) .full) := by
          intro hr0 hv0
          subst hr0 hv0
          have hb := fun w => bounds3_sound (P := P) (len := 0) (cap := 0) hl hh rl rh rm s0 s1 s2 s3 (Nat.le_refl _) w
          have ha : a = 0 := by simp at s3; omega
          have hb0 : b = 0 := by simp at s3; omega
          subst ha hb0
          subst s2
          refine ⟨.slice none 0 0, fun w => ?_, by simpa using .listFull _⟩
          unfold Instr.slice
          simp only [Sem.run_bind, run_underlying h1, Result.andThen_ok, hb, run_sizeOf_info h2, Sem.run_pure]
          rfl
        cases hv with
        | listNil => exact nilcase rfl rfl
        | listNo => exact nilcase rfl rfl
        | listFull => exact nilcase rfl rfl
        | listE ad =>
          have hb := fun w => bounds3_sound (P := P) (len := 0) (cap := 0) hl hh rl rh rm s0 s1 s2 s3 (Nat.le_refl _) w
          have ha : a = 0 := by simp at s3; omega
          have hb0 : b = 0 := by simp at s3; omega
          subst ha hb0
          subst s2
          refine ⟨.slice (some ad) 0 0, fun w => ?_, by simpa using .listEF _ _⟩
          unfold Instr.slice
          simp only [Sem.run_bind, run_underlying h1, Result.andThen_ok, hb, run_sizeOf_info h2, Sem.run_pure]
          rfl
        | listEF ad =>
          have hb := fun w => bounds3_sound (P := P) (len := 0) (cap := 0) hl hh rl rh rm s0 s1 s2 s3 (Nat.le_refl _) w
          have ha : a = 0 := by simp at s3; omega
          have hb0 : b = 0 := by simp at s3; omega
          subst ha hb0
          subst s2
          refine ⟨.slice (some ad) 0 0, fun w => ?_, by simpa using .listEF _ _⟩
          unfold Instr.slice
          simp only [Sem.run_bind, run_underlying h1, Result.andThen_ok, hb, run_sizeOf_info h2, Sem.run_pure]
          rfl
        | list bb o cap sz' len rows' tk' cv hn hc hl' hh' hr ht' =>
          have hb := fun w => bounds3_sound (P := P) (cap := cap) hl (hn ▸ hh) rl rh rm s0 s1 s2 (hn ▸ s3) hc w
          refine ⟨.slice (if m'.toNat = a.toNat then some ⟨bb, o, none⟩ else some ⟨bb, o + a.toNat * s, none⟩) (b.toNat - a.toNat) (m'.toNat - a.toNat), fun w => ?_, ?_⟩
          · unfold Instr.slice
            simp only [Sem.run_bind, run_underlying h1, Result.andThen_ok, hb, run_sizeOf_info h2, Sem.run_pure, Option.map_some, addr_add, h3]
          · have hlen : ((rows.take b.toNat).drop a.toNat).length = b.toNat - a.toNat := by simp; omega
            have hmem : ∀ r ∈ (rows.take b.toNat).drop a.toNat, r.length = s := fun r hr => hl' r (List.mem_of_mem_take (List.mem_of_mem_drop hr))
            have hbm : b.toNat = m'.toNat := by omega
            split
            · rename_i hca
              have hz : b.toNat - a.toNat = 0 := by omega
              exact .list bb o (m'.toNat - a.toNat) s (b.toNat - a.toNat) _ .full (fun _ _ => undef) hlen.symm (by omega) hmem (fun i j hi _ => by rw [hlen] at hi; omega) (fun i j hi _ => by rw [hlen] at hi; omega) (by show m'.toNat - a.toNat = b.toNat - a.toNat; omega)
            · refine .list bb (o + a.toNat * s) (m'.toNat - a.toNat) s (b.toNat - a.toNat) _ .full (fun i j => cv (a.toNat + i) j) hlen.symm (by omega) hmem (fun i j hi hj => ?_) (fun i j hi hj => ?_) (by show m'.toNat - a.toNat = b.toNat - a.toNat; omega)
              · rw [hlen] at hi
                rw [show o + a.toNat * s + i * s + j = o + (a.toNat + i) * s + j by rw [Nat.add_mul]; omega]
                exact hh' (a.toNat + i) j (by omega) hj
              · rw [hlen] at hi
                rw [getD_rows (by omega)]
                exact hr (a.toNat + i) j (by omega) hj
    · injection e with e1 e2; subst e1; exact hs.elim
  · rename_i el sz b off len cap ht
    obtain ⟨ti, h1, h2, h3⟩ := elemT_slice ht
    have pre : ∀ w, (Instr.sliceAt t v lo hi mx).run P w = (Instr.slice t v lo hi mx).run P w := by
      intro w
      unfold Instr.sliceAt
      simp only [Sem.run_bind, run_underlying h1, Result.andThen_ok]
    simp only [pre]
    split at e
    · rename_i a c hl hh
      injection e with e1 e2
      subst e1 e2
      obtain ⟨s0, s1, s2, s3⟩ := hs
      cases mx with
      | some _ => exact rm.elim
      | none =>
        cases hv
        have hb := fun w => bounds_sound (P := P) (isSlice := true) (cap := cap) hl hh rl rh s0 s1 s2 s3 w
        refine ⟨.slice (some ⟨b, if cap = a.toNat then off else off + a.toNat * sz, none⟩) (c.toNat - a.toNat) (cap - a.toNat), fun w => ?_, .arr _ _ _ _⟩
        unfold Instr.slice
        simp only [Sem.run_bind, run_underlying h1, Result.andThen_ok, hb, run_sizeOf_info h2, Sem.run_pure, Option.map_some, addr_add, h3]
        split <;> rfl
    · rename_i a c x k m' hl hh
      injection e with e1 e2
      subst e1 e2
      obtain ⟨s0, s1, s2, s3, s4⟩ := hs
      cases mx with
      | none => exact rm.elim
      | some vm =>
        cases hv
        have hb := fun w => bounds3_sound (P := P) (cap := cap) hl hh rl rh rm s0 s1 s2 s3 s4 w
        subst s2
        refine ⟨.slice (some ⟨b, if c.toNat = a.toNat then off else off + a.toNat * sz, none⟩) (c.toNat - a.toNat) (c.toNat - a.toNat), fun w => ?_, .arr _ _ _ _⟩
        unfold Instr.slice
        simp only [Sem.run_bind, run_underlying h1, Result.andThen_ok, hb, run_sizeOf_info h2, Sem.run_pure, Option.map_some, addr_add, h3]
        split <;> rfl
    · injection e with e1 e2; subst e1; exact hs.elim
  · injection e with e1 e2; subst e1; exact hs.elim

end
end Go.AL
