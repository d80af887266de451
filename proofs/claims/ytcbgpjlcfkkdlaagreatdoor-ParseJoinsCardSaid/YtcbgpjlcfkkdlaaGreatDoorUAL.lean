import Derived.Test.YtcbgpjlcfkkdlaaGreatDoorUAK
import Derived.Laws.BytesArg
import Derived.Test.YtcbgpjlcfkkdlaaGreatDoorUAE
set_option linter.unusedSimpArgs false
set_option linter.unusedVariables false
namespace Go.AL
open Go Go.RowKit
theorem flat_byte {A B : Type} (f : A → B) : ∀ l : List A, (l.map fun c => [f c]).flatten = l.map f
 | [] => rfl
 | y :: ys => by simp [flat_byte f ys]
theorem aop_b2s {P : Program} {o : Oper} {src dst e : TypeId} {x : Operand} (ho : o.op = .convert src dst x) (hs : P.underlying src = some (.slice e)) (he : P.underlying e = some (.int .u8)) (hd : P.underlying dst = some .string)
  (l : List UInt8) (tk : Tok) (α : AAct) (h : Heap) (K : AAct → Heap → Prop) (q : α.ev P src x = .list 1 (l.map fun c => [.int .u8 c.toNat]) tk ∧ K (α.put o.dst (.str l)) h) : AOp P o α h K := by
 obtain ⟨ex, hk⟩ := q
 intro w0 F a w next Q hi hr hK
 have hx := hr.ev P src x
 rw [ex] at hx
 have key : ∃ s : ByteArray, (convert src dst (a.eval x)).run P w = .ok (.string s) w ∧ s.data.toList = l := by
  rcases hx.list_inv with ⟨c, hv, hn, _⟩ | ⟨b, off, cap, cv, hv, hc, hl, hr2, hF, _⟩
  ·rw [hv]
   have hl0 : l = [] := by simpa using hn
   subst hl0
   cases c with
   | none => exact ⟨ByteArray.empty, run_convert_bytes_nil w src e hs he 0 0 dst hd, rfl⟩
   | some c =>
    refine ⟨ByteArray.empty, ?_, rfl⟩
    ·rw [run_convert_bytes_string w src dst e _ 0 0 hs he hd, run_bytesToString w c 0 0 [] (by simpa using run_loadCells_list (P := P) w c [] (fun j v hj => by simp at hj))]
     rfl
  ·rw [hv]
   have hflat : ∀ q, q < l.length → (l.map fun c => [AV.int .u8 (c.toNat : Nat)]).flatten.getD q .any = .int .u8 ((l.getD q 0).toNat : Nat) := by
    intro q hq
    have : (l.map fun c => [AV.int .u8 (c.toNat : Nat)]).flatten = l.map fun c => AV.int .u8 (c.toNat : Nat) := flat_byte _ l
    rw [this]
    simp [List.getD, hq]
   refine ⟨strOfNums (l.map fun c => ((c.toNat : Nat) : Int)), ?_, ?_⟩
   ·rw [show (l.map fun c => [AV.int .u8 (c.toNat : Nat)]).length = l.length by simp]
    refine run_convert_bytes_arg w src e hs he b off l.length cap (l.map fun c => ((c.toNat : Nat) : Int)) (by simp) (fun i hi' => ?_) dst hd
    obtain ⟨q1, q2⟩ := hF i (by simpa using hi')
    rw [hflat i hi'] at q2
    have q3 : cv.getD i undef = .int .u8 ((l.getD i 0).toNat : Nat) := by
     generalize cv.getD i undef = v at q2
     cases q2
     rfl
    rw [q3] at q1
    rw [(hi.fin _ _ _ q1).1]
    simp [List.getD, hi']
   ·rw [strOfNums_data, List.map_map]
    conv => rhs; rw [← List.map_id l]
    apply List.map_congr_left
    intro c _
    simp
 obtain ⟨s, hrun, hsl⟩ := key
 have hr1 : (execOp a.eval o).run P w = .ok (.value (.string s)) w := by
  unfold execOp
  rw [ho]
  simp [hrun]
 unfold Oper.wp
 rw [hr1]
 exact hK F _ h _ w (.refl F) hi (hr.put o.dst (.str _ _ hsl)) hk
end Go.AL

namespace Go.AL
open Go Go.RowKit
def schedOkF (ops : Array Oper) (Z : List Nat) (okF : Array Bool → Bool) : List (Nat × Bool) → Array Bool → Bool
 | [], listed => okF listed
 | (i, true) :: is, listed => (Region.ready .any ops listed).contains i && Region.free .any ops listed i && Z.all (fun z => edgeOn ops z i) && schedOkF ops Z okF is (listed.setIfInBounds i true)
 | (i, false) :: is, listed => Region.ready .any ops listed == [i] && schedOkF ops Z okF is (listed.setIfInBounds i true)
section
variable {P : Program} {ops : Array Oper} {K : AAct → Heap → Prop}
theorem svcF_sound {Z : List Nat} {N : Nat} {KF : AAct → Heap → Prop} {okF : Array Bool → Bool} {G : List Nat} (hsel : Region.noSelect ops = true)
  (hfin : ∀ (listed : Array Bool) (α : AAct) (h h0 : Heap), KF α h → okF listed = true → (∀ b, b ∈ G → h b = h0 b) →
   ∀ (w0 : Base) (F F0 Fr : Fin) (a : Act) (w w1 : World), Mono F0 F → Mono Fr F → Inv w0 F w h → RepA F a α → Held w1 G h0 F w →
   wpAnyZ P ops (RPost w0 Fr K) Z (Held w1 G h0 F0) N listed a w) :
  ∀ (sched : List (Nat × Bool)) (listed : Array Bool) (α : AAct) (h h0 : Heap), svc P ops G KF sched α h → schedOkF ops Z okF sched listed = true →
  (∀ b, b ∈ G → h b = h0 b) →
  ∀ (w0 : Base) (F F0 Fr : Fin) (a : Act) (w w1 : World), Mono F0 F → Mono Fr F → Inv w0 F w h → RepA F a α → Held w1 G h0 F w →
  wpAnyZ P ops (RPost w0 Fr K) Z (Held w1 G h0 F0) (sched.length + N) listed a w
 | [], listed, α, h, h0, e, hok, hG, w0, F, F0, Fr, a, w, w1, hm, hmr, hi, hr, hheld => by
  rw [svc_nil] at e
  simp only [schedOkF] at hok
  rw [List.length_nil, Nat.zero_add]
  exact hfin listed α h h0 e hok hG w0 F F0 Fr a w w1 hm hmr hi hr hheld
 | (i, early) :: is, listed, α, h, h0, e, hok, hG, w0, F, F0, Fr, a, w, w1, hm, hmr, hi, hr, hheld => by
  have hlen : ((i, early) :: is).length + N = (is.length + N) + 1 := by simp; omega
  rw [hlen]
  have hheldF : ∀ w', Held w1 G h0 F w' → Held w1 G h0 F0 w' := fun w' hw' => ⟨hw'.1, fun b o u hu => hw'.2 b o u (hm _ _ _ hu)⟩
  have hheldh : Held w1 G h F w := ⟨fun b hb y hy => hheld.1 b hb y (by rw [← hG b hb]; exact hy), hheld.2⟩
  have hheldh' : ∀ w', Held w1 G h0 F w' → Held w1 G h F w' := fun w' hw' => ⟨fun b hb y hy => hw'.1 b hb y (by rw [← hG b hb]; exact hy), hw'.2⟩
  rw [svc_cons] at e
  unfold sstep at e
  cases ho : ops[i]? with
  | none => rw [ho] at e; exact e.elim
  | some o =>
   rw [ho] at e
   simp only at e
   cases hg : guardAV ops α o.guard with
   | none => rw [hg] at e; exact e.elim
   | some c =>
    rw [hg] at e
    simp only at e
    have hw := guard_sound (ops := ops) (o := o) hr hg
    cases early with
    | true =>
     simp only [schedOkF, Bool.and_eq_true] at hok
     obtain ⟨⟨⟨hready, hfree⟩, hZ⟩, hok'⟩ := hok
     have hZ' : ∀ z ∈ Z, edgeOn ops z i = true := fun z hz => List.all_eq_true.1 hZ z hz
     have hready' : i ∈ Region.ready .any ops listed := by simpa using hready
     simp only at e
     cases hp : pev P α (h.only G) o with
     | none => rw [hp] at e; exact e.elim
     | some q =>
      obtain ⟨S, x⟩ := q
      rw [hp] at e
      simp only at e
      refine wpAnyZ_weaken hheldF _ _ _ _ ?_
      cases c with
      | true =>
       obtain ⟨v, h1, h2⟩ := pev_held hp (e.1 rfl) hi hr hheldh
       refine wpAnyZ_first ho hsel (fun _ _ _ hq => RPost_panic hq) hZ' _ _ _ _ (Region.free_spec ho hfree) hready' (.inl ⟨hw, fun w' hw' => h2 w' (hheldh' w' hw')⟩) hheld ?_
       exact svcF_sound hsel hfin is _ _ h h0 e.2 hok' hG w0 F F Fr _ w w1 (.refl F) hmr hi (hr.put o.dst (rep_under rfl h1)) hheld
      | false =>
       refine wpAnyZ_first ho hsel (fun _ _ _ hq => RPost_panic hq) hZ' _ _ _ _ (Region.free_spec ho hfree) hready' (.inr ⟨hw, rfl⟩) hheld ?_
       cases hgo : o.guard with
       | none => rw [hgo] at hg; simp [guardAV] at hg
       | some j =>
        rw [hgo] at e
        exact svcF_sound hsel hfin is _ _ h h0 e.2 hok' hG w0 F F Fr _ w w1 (.refl F) hmr hi (hr.put o.dst rep_skip) hheld
    | false =>
     simp only [schedOkF, Bool.and_eq_true] at hok
     obtain ⟨hready, hok'⟩ := hok
     have hready' : Region.ready .any ops listed = [i] := by simpa using hready
     refine ⟨fun h0 => (by rw [hready'] at h0; cases h0), fun i' hi' => ?_⟩
     rw [hready'] at hi'
     have : i' = i := by simpa using hi'
     subst this
     unfold wpOp
     rw [ho]
     simp only at e ⊢
     cases hp : pev P α h o with
     | some q =>
      obtain ⟨S, x⟩ := q
      rw [hp] at e
      simp only at e
      cases c with
      | true =>
       rw [if_pos hw]
       obtain ⟨v, h1, h2⟩ := pev_sound hp (e.1 rfl) w0 F a w hi hr
       left
       unfold Oper.wp
       rw [h2 w hi.like]
       exact ⟨.inr (hheldF w hheld), svcF_sound hsel hfin is _ _ h h0 e.2 hok' hG w0 F F0 Fr _ w w1 hm hmr hi (hr.put o.dst (rep_under rfl h1)) hheld⟩
      | false =>
       rw [hw]
       simp only [Bool.false_eq_true, if_false]
       cases hgo : o.guard with
       | none => rw [hgo] at hg; simp [guardAV] at hg
       | some j =>
        rw [hgo] at e
        exact ⟨.inr (hheldF w hheld), svcF_sound hsel hfin is _ _ h h0 e.2 hok' hG w0 F F0 Fr _ w w1 hm hmr hi (hr.put o.dst rep_skip) hheld⟩
     | none =>
      rw [hp] at e
      simp only at e
      cases c with
      | true =>
       rw [if_pos hw]
       left
       refine veff_frame (e.1 rfl) (.refl F) hi (hr.known hg) hheldh ?_
       intro F' α' h' a' w' m1 m2 m3 m4 m6 m5
       have hG' : ∀ b, b ∈ G → (h'.plus G h) b = h0 b := fun b hb => (Heap.plus_mem hb).trans (hG b hb)
       have hheld' : Held w1 G h0 F' w' := ⟨fun b hb y hy => m4.1 b hb y (by rw [hG b hb]; exact hy), fun b o u hu => (m2.fin b o u hu).1⟩
       refine ⟨.inr ⟨hheld'.1, fun b o u hu => hheld'.2 b o u (m1 _ _ _ (hm _ _ _ hu))⟩, ?_⟩
       exact svcF_sound hsel hfin is _ _ _ h0 (m5 m6) hok' hG' w0 F' F0 Fr a' w' w1 (hm.trans m1) (hmr.trans m1) m2 m3 hheld'
      | false =>
       rw [hw]
       simp only [Bool.false_eq_true, if_false]
       exact ⟨.inr (hheldF w hheld), svcF_sound hsel hfin is _ _ h h0 (e.2 rfl) hok' hG w0 F F0 Fr _ w w1 hm hmr hi (AAct.put_any_rep (hr.known hg) _) hheld⟩
def pvc (P : Program) (ops : Array Oper) (G : List Nat) (i j : Nat) (S2 : List (Nat × Bool)) (K : AAct → Heap → Prop) (α : AAct) (h : Heap) : Prop :=
 sstep P ops G (i, false) (svc P ops G K ((j, false) :: S2)) α h ∧ sstep P ops G (j, false) (svc P ops G K ((i, false) :: S2)) α h
theorem sstep_op {Z : List Nat} {G : List Nat} {i : Nat} {KF : AAct → Heap → Prop} {α : AAct} {h h0 : Heap} {R : Act → World → Prop} {Q : Exit → Act → World → Prop} (e : sstep P ops G (i, false) KF α h) (hG : ∀ b, b ∈ G → h b = h0 b)
  {w0 : Base} {F F0 : Fin} {a : Act} {w w1 : World} (hm : Mono F0 F) (hi : Inv w0 F w h) (hr : RepA F a α) (hheld : Held w1 G h0 F w)
  (next : ∀ F' α' h' a' w', Mono F F' → Inv w0 F' w' h' → RepA F' a' α' → (∀ b, b ∈ G → h' b = h0 b) → Held w1 G h0 F' w' → KF α' h' → R a' w') :
  wpOp P ops Q i (fun a' w' => (i ∈ Z ∨ Held w1 G h0 F0 w') ∧ R a' w') a w := by
 have hheldF : ∀ w', Held w1 G h0 F w' → Held w1 G h0 F0 w' := fun w' hw' => ⟨hw'.1, fun b o u hu => hw'.2 b o u (hm _ _ _ hu)⟩
 have hheldh : Held w1 G h F w := ⟨fun b hb y hy => hheld.1 b hb y (by rw [← hG b hb]; exact hy), hheld.2⟩
 unfold sstep at e
 unfold wpOp
 cases ho : ops[i]? with
 | none => rw [ho] at e; exact e.elim
 | some o =>
  rw [ho] at e
  simp only at e ⊢
  cases hg : guardAV ops α o.guard with
  | none => rw [hg] at e; exact e.elim
  | some c =>
   rw [hg] at e
   simp only at e
   have hw := guard_sound (ops := ops) (o := o) hr hg
   cases hp : pev P α h o with
   | some q =>
    obtain ⟨S, x⟩ := q
    rw [hp] at e
    simp only at e
    cases c with
    | true =>
     rw [if_pos hw]
     obtain ⟨v, h1, h2⟩ := pev_sound hp (e.1 rfl) w0 F a w hi hr
     left
     unfold Oper.wp
     rw [h2 w hi.like]
     exact ⟨.inr (hheldF w hheld), next F _ _ _ _ (.refl F) hi (hr.put o.dst (rep_under rfl h1)) hG hheld e.2⟩
    | false =>
     rw [hw]
     simp only [Bool.false_eq_true, if_false]
     cases hgo : o.guard with
     | none => rw [hgo] at hg; simp [guardAV] at hg
     | some j =>
      rw [hgo] at e
      exact ⟨.inr (hheldF w hheld), next F _ _ _ _ (.refl F) hi (hr.put o.dst rep_skip) hG hheld e.2⟩
   | none =>
    rw [hp] at e
    simp only at e
    cases c with
    | true =>
     rw [if_pos hw]
     left
     refine veff_frame (e.1 rfl) (.refl F) hi (hr.known hg) hheldh ?_
     intro F' α' h' a' w' m1 m2 m3 m4 m6 m5
     have hG' : ∀ b, b ∈ G → (h'.plus G h) b = h0 b := fun b hb => (Heap.plus_mem hb).trans (hG b hb)
     have hheld' : Held w1 G h0 F' w' := ⟨fun b hb y hy => m4.1 b hb y (by rw [hG b hb]; exact hy), fun b o u hu => (m2.fin b o u hu).1⟩
     exact ⟨.inr ⟨hheld'.1, fun b o u hu => hheld'.2 b o u (m1 _ _ _ (hm _ _ _ hu))⟩, next F' _ _ _ _ m1 m2 m3 hG' hheld' (m5 m6)⟩
    | false =>
     rw [hw]
     simp only [Bool.false_eq_true, if_false]
     exact ⟨.inr (hheldF w hheld), next F _ _ _ _ (.refl F) hi (AAct.put_any_rep (hr.known hg) _) hG hheld (e.2 rfl)⟩
end
theorem ACalls.weak {P : Program} {f : FuncId} {xs ys : List AV} {h : Heap} {R : AV → Heap → Prop} (hw : WeakL xs ys) (hc : ACalls P f ys h R) : ACalls P f xs h R :=
 fun w0 F w cargs hi ha => hc w0 F w cargs hi ⟨ha.1.trans hw.1, fun i hi' => hw.2 i (by rw [hw.1]; exact hi') F _ (ha.2 i (by rw [hw.1]; exact hi'))⟩
attribute [simp] pvc
end Go.AL

namespace Go.AL
open Go Go.RowKit
section
variable {P : Program} {ops : Array Oper} {K : AAct → Heap → Prop}
def pvc2 (P : Program) (ops : Array Oper) (G : List Nat) (i : Nat) (Si : List (Nat × Bool)) (j : Nat) (Sj : List (Nat × Bool)) (K : AAct → Heap → Prop) (α : AAct) (h : Heap) : Prop :=
 sstep P ops G (i, false) (svc P ops G K Si) α h ∧ sstep P ops G (j, false) (svc P ops G K Sj) α h
def pairOk2 (ops : Array Oper) (Z : List Nat) (i : Nat) (Si : List (Nat × Bool)) (j : Nat) (Sj : List (Nat × Bool)) (listed : Array Bool) : Bool :=
 Region.ready .any ops listed == [i, j] && schedOk ops Z Si (listed.setIfInBounds i true) && schedOk ops Z Sj (listed.setIfInBounds j true)
theorem pvc2_sound {Z : List Nat} {G : List Nat} {i j n : Nat} {Si Sj : List (Nat × Bool)} (hni : Si.length = n) (hnj : Sj.length = n) (hsel : Region.noSelect ops = true) (listed : Array Bool) (α : AAct) (h h0 : Heap) (e : pvc2 P ops G i Si j Sj (fvc P ops K Z) α h) (hok : pairOk2 ops Z i Si j Sj listed = true)
  (hG : ∀ b, b ∈ G → h b = h0 b) (w0 : Base) (F F0 Fr : Fin) (a : Act) (w w1 : World) (hm : Mono F0 F) (hmr : Mono Fr F) (hi : Inv w0 F w h) (hr : RepA F a α) (hheld : Held w1 G h0 F w) :
  wpAnyZ P ops (RPost w0 Fr K) Z (Held w1 G h0 F0) (n + Z.length + 1) listed a w := by
 simp only [pairOk2, Bool.and_eq_true] at hok
 obtain ⟨⟨hready, hok1⟩, hok2⟩ := hok
 have hready' : Region.ready .any ops listed = [i, j] := by simpa using hready
 refine ⟨fun h0 => (by rw [hready'] at h0; cases h0), fun i' hi' => ?_⟩
 rw [hready'] at hi'
 have hcase : i' = i ∨ i' = j := by simpa using hi'
 have next1 : ∀ (S : List (Nat × Bool)) (hS : S.length = n) (listed' : Array Bool), schedOk ops Z S listed' = true → ∀ F' α' h' a' w', Mono F F' → Inv w0 F' w' h' → RepA F' a' α' → (∀ b, b ∈ G → h' b = h0 b) → Held w1 G h0 F' w' → svc P ops G (fvc P ops K Z) S α' h' →
   wpAnyZ P ops (RPost w0 Fr K) Z (Held w1 G h0 F0) (n + Z.length) listed' a' w' := by
  intro S hS listed' hk F' α' h' a' w' m1 m2 m3 m4 m5 m6
  have := svc_sound (K := K) (Z := Z) hsel S listed' G α' h' h0 m6 hk m4 w0 F' F0 Fr a' w' w1 (hm.trans m1) (hmr.trans m1) m2 m3 m5
  rw [hS] at this
  exact this
 rcases hcase with rfl | rfl
 ·exact sstep_op e.1 hG hm hi hr hheld (next1 Si hni _ hok1)
 ·exact sstep_op e.2 hG hm hi hr hheld (next1 Sj hnj _ hok2)
theorem awp_region_pair2 {Q : APostT} {α : AAct} {h : Heap} {id : Nat} (G : List Nat) (sched : List (Nat × Bool)) (i : Nat) (Si : List (Nat × Bool)) (j : Nat) (Sj : List (Nat × Bool)) (Z : List Nat) (hm : P.follows .mixedOrders = true) (hsel : Region.noSelect ops = true)
  (hl : (sched.length + (Si.length + Z.length + 1) == ops.size && Sj.length == Si.length) = true) (hok : schedOkF ops Z (pairOk2 ops Z i Si j Sj) sched (Array.replicate ops.size false) = true) (e : svc P ops G (pvc2 P ops G i Si j Sj (fvc P ops (Q .normal) Z)) sched α h) :
  awp P (.region id ops true) Q α h := by
 intro w0 F a w hi hr
 simp only [Bool.and_eq_true, beq_iff_eq] at hl
 have key := svcF_sound (N := Si.length + Z.length + 1) (G := G) hsel (fun listed α h h0 e1 e2 e3 => pvc2_sound rfl hl.2 hsel listed α h h0 e1 e2 e3) sched (Array.replicate ops.size false) α h h e hok (fun _ _ => rfl) w0 F F F a w.drew w.drew (.refl F) (.refl F) hi.drew hr ⟨fun _ _ _ _ => rfl, fun b o u hu => (hi.drew.fin b o u hu).1⟩
 rw [hl.1] at key
 refine wp_mono (wp_region_any hm (wpAny_of_Z _ _ _ _ key)) ?_
 intro e a w ⟨he, F', α', h', h1, h2, h3, h4⟩
 subst he
 exact ⟨F', α', h', h1, h2, h3, h4⟩
end
attribute [simp] pvc2
end Go.AL

