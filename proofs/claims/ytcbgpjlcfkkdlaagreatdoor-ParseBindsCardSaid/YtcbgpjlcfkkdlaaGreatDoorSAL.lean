import Derived.Test.YtcbgpjlcfkkdlaaGreatDoorSAK
import Derived.Laws.BytesArg
import Derived.Test.YtcbgpjlcfkkdlaaGreatDoorSAJ
set_option linter.unusedSimpArgs false
set_option linter.unusedVariables false
namespace Go.AL
open Go Go.RowKit
theorem flat_byte {A B : Type} (f : A → B) : ∀ l : List A, (l.map fun c => [f c]).flatten = l.map f
 | [] => rfl
 | y :: ys => by simp [flat_byte f ys]
theorem aop_b2s {P : Program} {o : Oper} {src dst e : TypeId} {x : Operand} (ho : o.op = .convert src dst x) (hs : P.underlying src = some (.slice e)) (he : P.underlying e = some (.int .u8)) (hd : P.underlying dst = some .string)
  (l : List UInt8) (tk : Tok) (α : AAct) (h : Heap) (K : AAct → Heap → Prop) (q : α.ev P src x = .list 1 (l.map fun c => [.int .u8 c.toNat]) tk ∧ K (α.put o.dst (.str l)) h) : AOp P o α h K := by
 obtain ⟨ex, hk⟩ := q
 intro w0 F a w next Q hi hr hK
 have hx := hr.ev P src x
 rw [ex] at hx
 have key : ∃ s : ByteArray, (convert src dst (a.eval x)).run P w = .ok (.string s) w ∧ s.data.toList = l := by
  rcases hx.list_inv with ⟨c, hv, hn, _⟩ | ⟨b, off, cap, cv, hv, hc, hl, hr2, hF, _⟩
  ·rw [hv]
   have hl0 : l = [] := by simpa using hn
   subst hl0
   cases c with
   | none => exact ⟨ByteArray.empty, run_convert_bytes_nil w src e hs he 0 0 dst hd, rfl⟩
   | some c =>
    refine ⟨ByteArray.empty, ?_, rfl⟩
    ·rw [run_convert_bytes_string w src dst e _ 0 0 hs he hd, run_bytesToString w c 0 0 [] (by simpa using run_loadCells_list (P := P) w c [] (fun j v hj => by simp at hj))]
     rfl
  ·rw [hv]
   have hflat : ∀ q, q < l.length → (l.map fun c => [AV.int .u8 (c.toNat : Nat)]).flatten.getD q .any = .int .u8 ((l.getD q 0).toNat : Nat) := by
    intro q hq
    have : (l.map fun c => [AV.int .u8 (c.toNat : Nat)]).flatten = l.map fun c => AV.int .u8 (c.toNat : Nat) := flat_byte _ l
    rw [this]
    simp [List.getD, hq]
   refine ⟨strOfNums (l.map fun c => ((c.toNat : Nat) : Int)), ?_, ?_⟩
   ·rw [show (l.map fun c => [AV.int .u8 (c.toNat : Nat)]).length = l.length by simp]
    refine run_convert_bytes_arg w src e hs he b off l.length cap (l.map fun c => ((c.toNat : Nat) : Int)) (by simp) (fun i hi' => ?_) dst hd
    obtain ⟨q1, q2⟩ := hF i (by simpa using hi')
    rw [hflat i hi'] at q2
    have q3 : cv.getD i undef = .int .u8 ((l.getD i 0).toNat : Nat) := by
     generalize cv.getD i undef = v at q2
     cases q2
     rfl
    rw [q3] at q1
    rw [(hi.fin _ _ _ q1).1]
    simp [List.getD, hi']
   ·rw [strOfNums_data, List.map_map]
    conv => rhs; rw [← List.map_id l]
    apply List.map_congr_left
    intro c _
    simp
 obtain ⟨s, hrun, hsl⟩ := key
 have hr1 : (execOp a.eval o).run P w = .ok (.value (.string s)) w := by
  unfold execOp
  rw [ho]
  simp [hrun]
 unfold Oper.wp
 rw [hr1]
 exact hK F _ h _ w (.refl F) hi (hr.put o.dst (.str _ _ hsl)) hk
end Go.AL

namespace Go.AL
open Go Go.RowKit
section
variable {P : Program} {ops : Array Oper} {K : AAct → Heap → Prop}
def pvc2 (P : Program) (ops : Array Oper) (G : List Nat) (i : Nat) (Si : List (Nat × Bool)) (j : Nat) (Sj : List (Nat × Bool)) (K : AAct → Heap → Prop) (α : AAct) (h : Heap) : Prop :=
 sstep P ops G (i, false) (svc P ops G K Si) α h ∧ sstep P ops G (j, false) (svc P ops G K Sj) α h
def pairOk2 (ops : Array Oper) (Z : List Nat) (i : Nat) (Si : List (Nat × Bool)) (j : Nat) (Sj : List (Nat × Bool)) (listed : Array Bool) : Bool :=
 Region.ready .any ops listed == [i, j] && schedOk ops Z Si (listed.setIfInBounds i true) && schedOk ops Z Sj (listed.setIfInBounds j true)
theorem pvc2_sound {Z : List Nat} {G : List Nat} {i j n : Nat} {Si Sj : List (Nat × Bool)} (hni : Si.length = n) (hnj : Sj.length = n) (hsel : Region.noSelect ops = true) (listed : Array Bool) (α : AAct) (h h0 : Heap) (e : pvc2 P ops G i Si j Sj (fvc P ops K Z) α h) (hok : pairOk2 ops Z i Si j Sj listed = true)
  (hG : ∀ b, b ∈ G → h b = h0 b) (w0 : Base) (F F0 Fr : Fin) (a : Act) (w w1 : World) (hm : Mono F0 F) (hmr : Mono Fr F) (hi : Inv w0 F w h) (hr : RepA F a α) (hheld : Held w1 G h0 F w) :
  wpAnyZ P ops (RPost w0 Fr K) Z (Held w1 G h0 F0) (n + Z.length + 1) listed a w := by
 simp only [pairOk2, Bool.and_eq_true] at hok
 obtain ⟨⟨hready, hok1⟩, hok2⟩ := hok
 have hready' : Region.ready .any ops listed = [i, j] := by simpa using hready
 refine ⟨fun h0 => (by rw [hready'] at h0; cases h0), fun i' hi' => ?_⟩
 rw [hready'] at hi'
 have hcase : i' = i ∨ i' = j := by simpa using hi'
 have next1 : ∀ (S : List (Nat × Bool)) (hS : S.length = n) (listed' : Array Bool), schedOk ops Z S listed' = true → ∀ F' α' h' a' w', Mono F F' → Inv w0 F' w' h' → RepA F' a' α' → (∀ b, b ∈ G → h' b = h0 b) → Held w1 G h0 F' w' → svc P ops G (fvc P ops K Z) S α' h' →
   wpAnyZ P ops (RPost w0 Fr K) Z (Held w1 G h0 F0) (n + Z.length) listed' a' w' := by
  intro S hS listed' hk F' α' h' a' w' m1 m2 m3 m4 m5 m6
  have := svc_sound (K := K) (Z := Z) hsel S listed' G α' h' h0 m6 hk m4 w0 F' F0 Fr a' w' w1 (hm.trans m1) (hmr.trans m1) m2 m3 m5
  rw [hS] at this
  exact this
 rcases hcase with rfl | rfl
 ·exact sstep_op e.1 hG hm hi hr hheld (next1 Si hni _ hok1)
 ·exact sstep_op e.2 hG hm hi hr hheld (next1 Sj hnj _ hok2)
theorem awp_region_pair2 {Q : APostT} {α : AAct} {h : Heap} {id : Nat} (G : List Nat) (sched : List (Nat × Bool)) (i : Nat) (Si : List (Nat × Bool)) (j : Nat) (Sj : List (Nat × Bool)) (Z : List Nat) (hm : P.follows .mixedOrders = true) (hsel : Region.noSelect ops = true)
  (hl : (sched.length + (Si.length + Z.length + 1) == ops.size && Sj.length == Si.length) = true) (hok : schedOkF ops Z (pairOk2 ops Z i Si j Sj) sched (Array.replicate ops.size false) = true) (e : svc P ops G (pvc2 P ops G i Si j Sj (fvc P ops (Q .normal) Z)) sched α h) :
  awp P (.region id ops true) Q α h := by
 intro w0 F a w hi hr
 simp only [Bool.and_eq_true, beq_iff_eq] at hl
 have key := svcF_sound (N := Si.length + Z.length + 1) (G := G) hsel (fun listed α h h0 e1 e2 e3 => pvc2_sound rfl hl.2 hsel listed α h h0 e1 e2 e3) sched (Array.replicate ops.size false) α h h e hok (fun _ _ => rfl) w0 F F F a w.drew w.drew (.refl F) (.refl F) hi.drew hr ⟨fun _ _ _ _ => rfl, fun b o u hu => (hi.drew.fin b o u hu).1⟩
 rw [hl.1] at key
 refine wp_mono (wp_region_any hm (wpAny_of_Z _ _ _ _ key)) ?_
 intro e a w ⟨he, F', α', h', h1, h2, h3, h4⟩
 subst he
 exact ⟨F', α', h', h1, h2, h3, h4⟩
end
attribute [simp] pvc2
end Go.AL

