import Derived.Test.YtmnkalojpefclaaDoorB
set_option linter.unusedSimpArgs false
set_option linter.unusedVariables false
namespace Go.Proofs.YtmnkalojpefclaaDoor
open Go Go.AL Go.Proofs
structure Nd where
  kind : Int
  pos : Int
  text : List UInt8
  num : Int
  kids : List Int
abbrev ints (l : List Int) : List (List AV) := l.map fun n => [.int .i64 n]
abbrev ndRow (n : Nd) (t : Tok) : List AV := [.int .i64 n.kind, .int .i64 n.pos, .str n.text, .int .i64 n.num, .list 1 (ints n.kids) t]
def shapeL (k : Int) (text : List UInt8) : List Int × Int :=
  if k = 9 then (if text = [100, 101, 108, 101, 116, 101] then ([4], 0) else ([1], 0))
  else if k = 15 ∨ k = 28 ∨ k = 39 then ([1], 0)
  else if k = 10 ∨ k = 14 then ([1, 1], 0)
  else if k = 11 then ([1, 1, 1], 0)
  else if k = 12 then ([4, 1], 0)
  else if k = 13 then ([4], 0)
  else if k = 17 then ([1], 1)
  else if k = 18 ∨ k = 19 then ([], 1)
  else if k = 21 then ([4097], 32)
  else if k = 22 ∨ k = 27 ∨ k = 37 ∨ k = 38 then ([4097], 0)
  else if k = 23 then ([1, 1], 0)
  else if k = 24 then ([4097], 2)
  else if k = 26 then ([], 2)
  else if k = 29 then ([1, 512, 5120], 0)
  else if k = 30 ∨ k = 33 then ([1, 512], 0)
  else if k = 31 then ([512, 1], 0)
  else if k = 32 then ([6144, 4097, 4097, 512], 0)
  else if k = 34 then ([1], 64)
  else if k = 40 then ([512, 512], 0)
  else if k = 41 then ([8], 0)
  else if k = 42 then ([], 128)
  else ([], 0)
set_option maxRecDepth 100000 in
set_option maxHeartbeats 4000000 in
theorem shape_c (n : Nd) (t : Tok) (h : Heap) (R : AV → Heap → Prop) (hR : ∀ tok, R (.tup [.list 1 (ints (shapeL n.kind n.text).1) tok, .int .i64 (shapeL n.kind n.text).2]) h) :
    ACalls Tryd.prog 48 [.agg (ndRow n t)] h R := by
  refine ACalls.subR (R := fun y h' => (∃ tok, y = (.tup [.list 1 (ints (shapeL n.kind n.text).1) tok, .int .i64 (shapeL n.kind n.text).2])) ∧ Sub h h') ?_ (fun x h' ⟨⟨tok, h1⟩, h3⟩ => ⟨h, h3, h1 ▸ hR tok⟩)
  clear hR
  obtain ⟨k, p, text, num, kids⟩ := n
  refine acalls_of Tryd.func48 rfl Tryd.ntmps48 (congrArg Array.toList Tryd.results48) fun Q hQ => ?_
  repeat' (first | refine Keep.go (by assumption) ?_ | refine awp_seq_k fun K hK => ?_ | (refine awp_region ?_; try simp [Heap.set_get, *]) | refine awp_block ?_ | (refine awp_ret ?_; try simp) | (refine awp_skip ?_; try simp) | (refine awp_exit ?_; try simp) | (refine KeepQ.go (by assumption) ?_; try simp [Heap.set_get, *]) | (refine awp_cond' ?_; try simp [Heap.set_get, *]) | refine And.intro (by omega) ?_ | refine And.intro (by assumption) ?_ | refine and_lf (by omega) ?_ | refine and_rf ?_ (by omega) | refine and_imps (fun _ => ?_) (fun _ => ?_) | refine arounds_k fun K hK => ?_ | refine Or.inl ⟨by omega, ?_⟩ | refine Or.inr ⟨by omega, ?_⟩ | refine or_split (fun _ => ?_) (fun _ => ?_) | exact Sub.refl _ | refine imp_in fun _ => ?_ | refine and_ri ?_ (fun _ => ?_) | refine and_li (fun _ => ?_) ?_ | (refine And.intro ?_ ?_; focus (intros; simp [*]; done)) | fail)
  intro b1 hb1; simp only [Fresh, Heap.set_none] at hb1; try simp [Heap.set_get, *]
  repeat' (first | refine Keep.go (by assumption) ?_ | refine awp_seq_k fun K hK => ?_ | (refine awp_region ?_; try simp [Heap.set_get, *]) | refine awp_block ?_ | (refine awp_ret ?_; try simp) | (refine awp_skip ?_; try simp) | (refine awp_exit ?_; try simp) | (refine KeepQ.go (by assumption) ?_; try simp [Heap.set_get, *]) | (refine awp_cond' ?_; try simp [Heap.set_get, *]) | refine And.intro (by omega) ?_ | refine And.intro (by assumption) ?_ | refine and_lf (by omega) ?_ | refine and_rf ?_ (by omega) | refine and_imps (fun _ => ?_) (fun _ => ?_) | refine arounds_k fun K hK => ?_ | refine Or.inl ⟨by omega, ?_⟩ | refine Or.inr ⟨by omega, ?_⟩ | refine or_split (fun _ => ?_) (fun _ => ?_) | exact Sub.refl _ | refine imp_in fun _ => ?_ | refine and_ri ?_ (fun _ => ?_) | refine and_li (fun _ => ?_) ?_ | (refine And.intro ?_ ?_; focus (intros; simp [*]; done)) | fail)
  all_goals exact ⟨by simp [shapeL, *], (Sub.refl h).loc hb1 _⟩
end Go.Proofs.YtmnkalojpefclaaDoor
