import Derived.Test.YtcbgpjlcfkkdlaaGreatDoorUAX
import Derived.Test.YtcbgpjlcfkkdlaaGreatDoorUAZ
set_option linter.unusedSimpArgs false
set_option linter.unusedVariables false
set_option maxRecDepth 100000
set_option maxHeartbeats 16000000
namespace Go.Proofs.YtcbgpjlcfkkdlaaGreatDoor
open Go Go.AL Go.Proofs
structure TkFine (t : Tk) : Prop where
 short : t.text.length ≤ 1000000
 num : t.num ≤ 9223372036854775807
theorem parseR_le (s : List UInt8) (b : Nat) : (parseR s b).1 ≤ 9223372036854775807 := by
 unfold parseR
 simp only
 split
 ·decide
 ·split
  ·decide
  ·split
   ·decide
   ·split
    ·exact wrap_le _
    ·exact wrap_le _
theorem bitOr_le (a b : Int) : bitOr .i64 a b ≤ 9223372036854775807 := wrap_le _
theorem numbR_le (t : List UInt8) : (numbR t).1 ≤ 9223372036854775807 := by
 unfold numbR
 split
 ·split
  ·split
   ·exact bitOr_le _ _
   ·decide
  ·exact parseR_le _ _
 ·split
  ·decide
  ·exact parseR_le _ _
theorem next_fine (s : List UInt8) (hs : s.length ≤ 10000) (i : Nat) (hi : i < s.length) : (avTok (nextR s i).1).2.1.length ≤ 1000000 ∧ (avTok (nextR s i).1).2.2.1 ≤ 9223372036854775807 := by
 have hsp := spanW_len s i
 unfold nextR
 split
 ·exact ⟨by show (spanW s i).length ≤ _; omega, by show (0 : Int) ≤ _; decide⟩
 ·split
  ·split
   ·exact ⟨by show (spanW s i).length ≤ _; omega, numbR_le _⟩
   ·exact ⟨by show 0 ≤ _; omega, by show (0 : Int) ≤ _; decide⟩
  ·split
   ·unfold strR
    split
    ·exact ⟨by show 0 ≤ _; omega, by show (0 : Int) ≤ _; decide⟩
    ·rename_i t ht
     have := rawR_len ht
     split
     ·exact ⟨by show 0 ≤ _; omega, by show (0 : Int) ≤ _; decide⟩
     ·rename_i x hx
      have h2 := unesR_len _ _ _ _ _ hx
      simp only [List.length_nil] at h2
      exact ⟨by show x.length ≤ _; omega, by show (0 : Int) ≤ _; decide⟩
   ·split
    ·unfold charR
     split
     ·exact ⟨by show 0 ≤ _; omega, by show (0 : Int) ≤ _; decide⟩
     ·rename_i t ht
      have := rawR_len ht
      split
      ·exact ⟨by show 0 ≤ _; omega, by show (0 : Int) ≤ _; decide⟩
      ·rename_i x hx
       split
       ·refine ⟨?_, ?_⟩
        ·show ([39] ++ t ++ [39]).length ≤ _
         simp only [List.length_append, List.length_singleton]
         omega
        ·show ((x.getD 0 0).toNat : Int) ≤ _
         have := (x.getD 0 0).toNat_lt
         omega
       ·exact ⟨by show 0 ≤ _; omega, by show (0 : Int) ≤ _; decide⟩
    ·split
     ·rename_i x hx
      have h1 := List.find?_some hx
      have h2 := hasPrefix_len (by simpa using h1)
      rw [List.length_drop] at h2
      exact ⟨by show x.length ≤ _; omega, by show (0 : Int) ≤ _; decide⟩
     ·exact ⟨by show 0 ≤ _; omega, by show (0 : Int) ≤ _; decide⟩
theorem scan_ok (s : List UInt8) (hs : s.length ≤ 10000) : ∀ (n i : Nat) (b : Bool) (out : List Tk), s.length + 1 - i ≤ n → i ≤ s.length → out.length ≤ i → (∀ t ∈ out, TkFine t) →
  (∀ T, scanR s n i b out = .inl T → (∀ t ∈ T, TkFine t) ∧ T.length ≤ s.length + 1 ∧ ∃ T0 t, T = T0 ++ [t] ∧ t.kind = 6 ∧ t.pos = (s.length : Int)) ∧ (∀ f, scanR s n i b out = .inr f → ¬ f.1 = 0)
 | 0, i, b, out, h1, h2, _, _ => by omega
 | n + 1, i, b, out, h1, h2, h3, h4 => by
  have hg := gapR_le s (s.length - i) i b h2
  simp only [scanR]
  obtain ⟨g, hgg⟩ : ∃ g, gapR s (s.length - i) i b = g := ⟨_, rfl⟩
  rw [hgg] at hg ⊢
  obtain ⟨e, j, bb⟩ := g
  simp only at hg ⊢
  cases e with
  | some p => exact ⟨fun T h => (by cases h), fun f h => (by injection h with h; rw [← h]; exact (by decide : ¬ (5 : Int) = 0))⟩
  | none =>
   simp only
   by_cases hj : j = s.length
   ·simp only [hj, if_true]
    refine ⟨fun T h => ?_, fun f h => (by cases h)⟩
    injection h with h
    subst h
    refine ⟨fun t ht => ?_, by simp only [List.length_append, List.length_singleton]; omega, out, _, rfl, rfl, rfl⟩
    rcases List.mem_append.1 ht with ht | ht
    ·exact h4 t ht
    ·rw [List.mem_singleton.1 ht]; exact ⟨by show 0 ≤ _; omega, by show (0 : Int) ≤ _; decide⟩
   ·simp only [hj, if_false]
    by_cases ho : out.length = 65536
    ·omega
    ·simp only [ho, if_false]
     have hjl : j < s.length := by omega
     have hn := nextR_le s j hjl
     have hf := next_fine s hs j hjl
     by_cases hx : (avTok (nextR s j).1).2.2.2.1 = 0
     ·simp only [hx, if_true]
      have hn2 := hn.2 hx
      refine scan_ok s hs n _ _ _ ?_ hn.1 ?_ fun t ht => ?_
      ·omega
      ·simp only [List.length_append, List.length_singleton]; omega
      rcases List.mem_append.1 ht with ht | ht
      ·exact h4 t ht
      ·rw [List.mem_singleton.1 ht]; exact ⟨hf.1, hf.2⟩
     ·simp only [hx, if_false]
      exact ⟨fun T h => (by cases h), fun f h => by injection h with h; rw [← h]; exact hx⟩
end Go.Proofs.YtcbgpjlcfkkdlaaGreatDoor

namespace Go.Proofs.YtcbgpjlcfkkdlaaGreatDoor
open Go Go.AL Go.Proofs
theorem stmt_w (T : List Tk) (tt : Tok) (n : Nat) (ih : ∀ m op, m ≤ n → Meth T tt m op) : Meth T tt (n + 1) .stmt := by
 refine Meth.of fun S l S' q r t1 t2 B h o R hR=>?_
 simp only[run,Z]at q
 refine acalls_ofD Tryz.func22 rfl Tryz.ntmps22 (congrArg Array.toList Tryz.results22) fun Q hQ => ?_
 have r1:=o.own.blk
 (focus repeat' first|refine ga ?_|(refine gb ?_;try simp[gz, *])|refine gk fun _ _=>?_)
 refine o.down fun k1 S1 e1 o1 r2=>?_
 try simp only[e1,Z]at q
 clear o r1 e1
 obtain ⟨t,ht_t⟩:∃ x,Sh (peekL T S1=x):=⟨_,⟨rfl⟩⟩
 try simp only[ht_t.out,Z]at q
 simp [gz, *]
 (focus repeat' first|refine ga ?_|(refine gb ?_;try simp[gz, *])|refine gk fun _ _=>?_)
 refine o1.peek ht_t ?_
 simp [gz, *]
 intro b3 zb3
 obtain ⟨n_r_b3,n_b3_r⟩:=o1.ne zb3
 have yb3:=o1.y zb3
 have o2:=o1.new zb3 (.cells (tkRow t))
 clear o1 zb3
 try simp [gz, *]
 cases d1:decide (t.kind = 2)
 try simp only[ef d1,d1,Z]at q
 (focus repeat' first|refine ga ?_|(refine gb ?_;try simp[gz, *])|refine gk fun _ _=>?_)
 refine o2.settle fun k2 o3 r3=>?_
 have p1:=o3.b1
 clear o2 r2
 cases c1:isL T [123] S1
 try simp only[c1,Z]at q
 refine o3.is [123] ?_
 simp [gz, *]
 (focus repeat' first|refine ga ?_|(refine gb ?_;try simp[gz, *])|refine gk fun _ _=>?_)
 refine o3.eat [59] (fun c2 k3 o4 r4=>?_) fun c2 k3 S2 e2 z1 o4 r4=>?_
 try simp only[c2,Z]at q
 have p2:=o4.b1
 clear o3 r3 p1 c2
 simp [gz, *]
 (focus repeat' first|refine ga ?_|(refine gb ?_;try simp[gz, *])|refine gk fun _ _=>?_)
 have o5:=(o4.minus yb3)
 refine awp_region_draw [b3] [(0,true),(1,true),(2,true),(3,true),(4,false),(5,false),(6,false)] [7] follows (by kernel_rfl) rfl (by kernel_rfl) ?_; simp [gz, *]
 clear o4
 (focus repeat' first|refine ga ?_|(refine gb ?_;try simp[gz, *])|refine gk fun _ _=>?_)
 obtain ⟨l1,S3,h1,q⟩:=bo2 q
 refine o5.call (ih _ _ (by omega)) h1 fun k4 u1 u2 v1 e3 o6 r5=>?_
 try simp only[e3,Z]at q
 clear o5 h1
 simp [gz, *]
 intro hn1
 rw [show (k4.plus [b3] k3).minus [b3]=k4 from minus_of_none (by simp[hn1])]
 clear hn1
 refine o6.add 28 t.pos [] 0 [v1] (fun k5 u3 u4 v2 S4 e4 o7 r6=>?_)
 try simp only[e4,Z]at q
 clear o6 r5 e4 e3
 simp [gz, *]
 intro hn2
 rw [show k5.plus [b3] (k4.plus [b3] k3)=_ from plus_one (x:=.cells (tkRow t)) (by simp[*])]
 have o8:=o7.new hn2 (.cells (tkRow t))
 clear o7 r4 p2
 (focus repeat' first|refine ga ?_|(refine gb ?_;try simp[gz, *])|refine gk fun _ _=>?_)
 refine o8.settle fun k6 o9 r7=>?_
 have p3:=o9.b1
 clear o8 r6
 refine o9.fend fun k7 S5 e5 o10 r8=>?_
 try simp only[e5,Z]at q
 have p4:=o10.b1
 clear o9 r7 p3 e5
 obtain ⟨rfl,rfl⟩:=fi q
 simp [gz, *]
 (focus repeat' first|refine ga ?_|(refine gb ?_;try simp[gz, *])|refine gk fun _ _=>?_)
 refine o10.upd fun k8 o11=>?_
 exact hR.out _ _ _ o11.fin
 try simp only[c2,e2,Z]at q
 have p5:=o4.b1
 clear o3 r3 p1 e2 c2
 simp [gz, *]
 (focus repeat' first|refine ga ?_|(refine gb ?_;try simp[gz, *])|refine gk fun _ _=>?_)
 refine o4.add 43 t.pos [] 0 [] (fun k9 u5 u6 v3 S6 e6 o12 r9=>?_)
 try simp only[e6,Z]at q
 have p6:=o12.b1
 clear o4 r4 p5 e6
 obtain ⟨rfl,rfl⟩:=fi q
 simp [gz, *]
 (focus repeat' first|refine ga ?_|(refine gb ?_;try simp[gz, *])|refine gk fun _ _=>?_)
 refine o12.upd fun k10 o13=>?_
 exact hR.out _ _ _ o13.fin
 try simp only[c1,Z]at q
 refine o3.is [123] ?_
 simp [gz, *]
 (focus repeat' first|refine ga ?_|(refine gb ?_;try simp[gz, *])|refine gk fun _ _=>?_)
 obtain ⟨l2,S7,h2,q⟩:=bo2 q
 refine o3.call (ih _ _ (by omega)) h2 fun k11 u7 u8 v4 e7 o14 r10=>?_
 try simp only[e7,Z]at q
 have p7:=o14.b1
 clear o3 r3 p1 h2
 obtain ⟨rfl,rfl⟩:=fi q
 subst e7
 simp [gz, *]
 (focus repeat' first|refine ga ?_|(refine gb ?_;try simp[gz, *])|refine gk fun _ _=>?_)
 refine o14.upd fun k12 o15=>?_
 exact hR.out _ _ _ o15.fin
 try simp only[et d1,d1,Z]at q
 (focus repeat' first|refine ga ?_|(refine gb ?_;try simp[gz, *])|refine gk fun _ _=>?_)
 refine o2.settle fun k13 o16 r11=>?_
 have p8:=o16.b1
 clear o2 r2
 obtain ⟨l3,S8,h3,q⟩:=bo2 q
 refine o16.at_ (ih _ (.word t) (by omega)) h3 fun k14 u9 u10 o17 r12=>?_
 have p9:=o17.b1
 clear o16 r11 p8 h3
 rw [show resOf (.word t) l3=.tup [.int .i64 (fst0 l3),.bool (decide (l3.getD 1 0=1))] from rfl]
 cases d2:decide (l3.getD 1 0 = 1)
 try simp only[ef d2,d2,Z]at q
 simp [gz, *]
 (focus repeat' first|refine ga ?_|(refine gb ?_;try simp[gz, *])|refine gk fun _ _=>?_)
 cases c3:isL T [123] S8
 try simp only[c3,Z]at q
 refine o17.is [123] ?_
 simp [gz, *]
 (focus repeat' first|refine ga ?_|(refine gb ?_;try simp[gz, *])|refine gk fun _ _=>?_)
 refine o17.eat [59] (fun c4 k15 o18 r13=>?_) fun c4 k15 S9 e8 z2 o18 r13=>?_
 try simp only[c4,Z]at q
 have p10:=o18.b1
 clear o17 r12 p9 c4
 simp [gz, *]
 (focus repeat' first|refine ga ?_|(refine gb ?_;try simp[gz, *])|refine gk fun _ _=>?_)
 have o19:=(o18.minus yb3)
 refine awp_region_draw [b3] [(0,true),(1,true),(2,true),(3,true),(4,false),(5,false),(6,false)] [7] follows (by kernel_rfl) rfl (by kernel_rfl) ?_; simp [gz, *]
 clear o18
 (focus repeat' first|refine ga ?_|(refine gb ?_;try simp[gz, *])|refine gk fun _ _=>?_)
 obtain ⟨l4,S10,h4,q⟩:=bo2 q
 refine o19.call (ih _ _ (by omega)) h4 fun k16 u11 u12 v5 e9 o20 r14=>?_
 try simp only[e9,Z]at q
 clear o19 h4
 simp [gz, *]
 intro hn3
 rw [show (k16.plus [b3] k15).minus [b3]=k16 from minus_of_none (by simp[hn3])]
 clear hn3
 refine o20.add 28 t.pos [] 0 [v5] (fun k17 u13 u14 v6 S11 e10 o21 r15=>?_)
 try simp only[e10,Z]at q
 clear o20 r14 e10 e9
 simp [gz, *]
 intro hn4
 rw [show k17.plus [b3] (k16.plus [b3] k15)=_ from plus_one (x:=.cells (tkRow t)) (by simp[*])]
 have o22:=o21.new hn4 (.cells (tkRow t))
 clear o21 r13 p10
 (focus repeat' first|refine ga ?_|(refine gb ?_;try simp[gz, *])|refine gk fun _ _=>?_)
 refine o22.settle fun k18 o23 r16=>?_
 have p11:=o23.b1
 clear o22 r15
 refine o23.fend fun k19 S12 e11 o24 r17=>?_
 try simp only[e11,Z]at q
 have p12:=o24.b1
 clear o23 r16 p11 e11
 obtain ⟨rfl,rfl⟩:=fi q
 simp [gz, *]
 (focus repeat' first|refine ga ?_|(refine gb ?_;try simp[gz, *])|refine gk fun _ _=>?_)
 refine o24.upd fun k20 o25=>?_
 exact hR.out _ _ _ o25.fin
 try simp only[c4,e8,Z]at q
 have p13:=o18.b1
 clear o17 r12 p9 e8 c4
 simp [gz, *]
 (focus repeat' first|refine ga ?_|(refine gb ?_;try simp[gz, *])|refine gk fun _ _=>?_)
 refine o18.add 43 t.pos [] 0 [] (fun k21 u15 u16 v7 S13 e12 o26 r18=>?_)
 try simp only[e12,Z]at q
 have p14:=o26.b1
 clear o18 r13 p13 e12
 obtain ⟨rfl,rfl⟩:=fi q
 simp [gz, *]
 (focus repeat' first|refine ga ?_|(refine gb ?_;try simp[gz, *])|refine gk fun _ _=>?_)
 refine o26.upd fun k22 o27=>?_
 exact hR.out _ _ _ o27.fin
 try simp only[c3,Z]at q
 refine o17.is [123] ?_
 simp [gz, *]
 (focus repeat' first|refine ga ?_|(refine gb ?_;try simp[gz, *])|refine gk fun _ _=>?_)
 obtain ⟨l5,S14,h5,q⟩:=bo2 q
 refine o17.call (ih _ _ (by omega)) h5 fun k23 u17 u18 v8 e13 o28 r19=>?_
 try simp only[e13,Z]at q
 have p15:=o28.b1
 clear o17 r12 p9 h5
 obtain ⟨rfl,rfl⟩:=fi q
 subst e13
 simp [gz, *]
 (focus repeat' first|refine ga ?_|(refine gb ?_;try simp[gz, *])|refine gk fun _ _=>?_)
 refine o28.upd fun k24 o29=>?_
 exact hR.out _ _ _ o29.fin
 try simp only[et d2,d2,Z]at q
 rw [show resK (.word t) l3=[fst0 l3] from if_pos (of_decide_eq_true d2)]at o17
 obtain ⟨rfl,rfl⟩:=fi q
 simp [gz, *]
 (focus repeat' first|refine ga ?_|(refine gb ?_;try simp[gz, *])|refine gk fun _ _=>?_)
 refine o17.upd fun k25 o30=>?_
 exact hR.out _ _ _ o30.fin
end Go.Proofs.YtcbgpjlcfkkdlaaGreatDoor

namespace Go.Proofs.YtcbgpjlcfkkdlaaGreatDoor
open Go Go.AL Go.Proofs
theorem literal_w (T : List Tk) (tt : Tok) (n : Nat) (ih : ∀ m op, m ≤ n → Meth T tt m op) : Meth T tt (n + 1) .literal := by
 refine Meth.of fun S l S' q r t1 t2 B h o R hR=>?_
 simp only[run,Z]at q
 obtain ⟨t,ht_t⟩:∃ x,Sh (peekL T S=x):=⟨_,⟨rfl⟩⟩
 try simp only[ht_t.out,Z]at q
 refine acalls_of Tryz.func85 rfl Tryz.ntmps85 (congrArg Array.toList Tryz.results85) fun Q hQ => ?_
 have r1:=o.own.blk
 (focus repeat' first|refine ga ?_|(refine gb ?_;try simp[gz, *])|refine gk fun _ _=>?_)
 refine o.peek ht_t ?_
 simp [gz, *]
 intro b3 zb3
 obtain ⟨n_r_b3,n_b3_r⟩:=o.ne zb3
 have yb3:=o.y zb3
 have o1:=o.new zb3 (.cells (tkRow t))
 clear o zb3
 try simp [gz, *]
 (focus repeat' first|refine ga ?_|(refine gb ?_;try simp[gz, *])|refine gk fun _ _=>?_)
 refine o1.settle fun k1 o2 r2=>?_
 have p1:=o2.b1
 clear o1 r1
 refine o2.eat [45] (fun c1 k2 o3 r3=>?_) fun c1 k2 S1 e1 z1 o3 r3=>?_
 try simp only[c1,Z]at q
 have p2:=o3.b1
 clear o2 r2 p1 c1
 cases d1:decide (t.kind = 3)
 try simp only[ef d1,d1,Z]at q
 cases d2:decide (t.kind = 4)
 try simp only[ef d2,d2,Z]at q
 simp [gz, *]
 (focus repeat' first|refine ga ?_|(refine gb ?_;try simp[gz, *])|refine gk fun _ _=>?_)
 refine o3.eat [110, 117, 108, 108] (fun c2 k3 o4 r4=>?_) fun c2 k3 S2 e2 z2 o4 r4=>?_
 try simp only[c2,Z]at q
 have p3:=o4.b1
 clear o3 r3 p2 c2
 simp [gz, *]
 (focus repeat' first|refine ga ?_|(refine gb ?_;try simp[gz, *])|refine gk fun _ _=>?_)
 refine o4.eat [116, 114, 117, 101] (fun c3 k4 o5 r5=>?_) fun c3 k4 S3 e3 z3 o5 r5=>?_
 try simp only[c3,Z]at q
 have p4:=o5.b1
 clear o4 r4 p3 c3
 simp [gz, *]
 (focus repeat' first|refine ga ?_|(refine gb ?_;try simp[gz, *])|refine gk fun _ _=>?_)
 refine o5.eat [102, 97, 108, 115, 101] (fun c4 k5 o6 r6=>?_) fun c4 k5 S4 e4 z4 o6 r6=>?_
 try simp only[c4,Z]at q
 have p5:=o6.b1
 clear o5 r5 p4 c4
 simp [gz, *]
 (focus repeat' first|refine ga ?_|(refine gb ?_;try simp[gz, *])|refine gk fun _ _=>?_)
 refine o6.wrong 5 fun k6 S5 e5 o7 r7=>?_
 try simp only[e5,Z]at q
 have p6:=o7.b1
 clear o6 r6 p5 e5
 obtain ⟨rfl,rfl⟩:=fi q
 simp [gz, *]
 (focus repeat' first|refine ga ?_|(refine gb ?_;try simp[gz, *])|refine gk fun _ _=>?_)
 exact hR.out _ _ _ o7.fin
 try simp only[c4,e4,Z]at q
 have p7:=o6.b1
 clear o5 r5 p4 e4 c4
 simp [gz, *]
 (focus repeat' first|refine ga ?_|(refine gb ?_;try simp[gz, *])|refine gk fun _ _=>?_)
 refine o6.add 3 t.pos [] 0 [] (fun k7 u1 u2 v1 S6 e6 o8 r8=>?_)
 try simp only[e6,Z]at q
 have p8:=o8.b1
 clear o6 r6 p7 e6
 obtain ⟨rfl,rfl⟩:=fi q
 simp [gz, *]
 (focus repeat' first|refine ga ?_|(refine gb ?_;try simp[gz, *])|refine gk fun _ _=>?_)
 exact hR.out _ _ _ o8.fin
 try simp only[c3,e3,Z]at q
 have p9:=o5.b1
 clear o4 r4 p3 e3 c3
 simp [gz, *]
 (focus repeat' first|refine ga ?_|(refine gb ?_;try simp[gz, *])|refine gk fun _ _=>?_)
 refine o5.add 2 t.pos [] 0 [] (fun k8 u3 u4 v2 S7 e7 o9 r9=>?_)
 try simp only[e7,Z]at q
 have p10:=o9.b1
 clear o5 r5 p9 e7
 obtain ⟨rfl,rfl⟩:=fi q
 simp [gz, *]
 (focus repeat' first|refine ga ?_|(refine gb ?_;try simp[gz, *])|refine gk fun _ _=>?_)
 exact hR.out _ _ _ o9.fin
 try simp only[c2,e2,Z]at q
 have p11:=o4.b1
 clear o3 r3 p2 e2 c2
 simp [gz, *]
 (focus repeat' first|refine ga ?_|(refine gb ?_;try simp[gz, *])|refine gk fun _ _=>?_)
 refine o4.add 1 t.pos [] 0 [] (fun k9 u5 u6 v3 S8 e8 o10 r10=>?_)
 try simp only[e8,Z]at q
 have p12:=o10.b1
 clear o4 r4 p11 e8
 obtain ⟨rfl,rfl⟩:=fi q
 simp [gz, *]
 (focus repeat' first|refine ga ?_|(refine gb ?_;try simp[gz, *])|refine gk fun _ _=>?_)
 exact hR.out _ _ _ o10.fin
 try simp only[et d2,d2,Z]at q
 have w1:=o3.good.rd.w1
 simp [gz, *]
 (focus repeat' first|refine ga ?_|(refine gb ?_;try simp[gz, *])|refine gk fun _ _=>?_)
 have o11:=o3.stepped (kk ht_t d2)
 clear o3
 refine o11.settle fun k10 o12 r11=>?_
 have p13:=o12.b1
 clear o11 r3 p2 w1
 refine o12.add 5 t.pos t.text 0 [] (fun k11 u7 u8 v4 S9 e9 o13 r12=>?_)
 try simp only[e9,Z]at q
 have p14:=o13.b1
 clear o12 r11 p13 e9
 obtain ⟨rfl,rfl⟩:=fi q
 simp [gz, *]
 (focus repeat' first|refine ga ?_|(refine gb ?_;try simp[gz, *])|refine gk fun _ _=>?_)
 exact hR.out _ _ _ o13.fin
 try simp only[et d1,d1,Z]at q
 have w2:=o3.good.rd.w1
 simp [gz, *]
 (focus repeat' first|refine ga ?_|(refine gb ?_;try simp[gz, *])|refine gk fun _ _=>?_)
 have o14:=o3.stepped (kk ht_t d1)
 clear o3
 refine o14.settle fun k12 o15 r13=>?_
 have p15:=o15.b1
 clear o14 r3 p2 w2
 refine o15.add 4 t.pos [] t.num [] (fun k13 u9 u10 v5 S10 e10 o16 r14=>?_)
 try simp only[e10,Z]at q
 have p16:=o16.b1
 clear o15 r13 p15 e10
 obtain ⟨rfl,rfl⟩:=fi q
 simp [gz, *]
 (focus repeat' first|refine ga ?_|(refine gb ?_;try simp[gz, *])|refine gk fun _ _=>?_)
 exact hR.out _ _ _ o16.fin
 try simp only[c1,e1,Z]at q
 have p17:=o3.b1
 clear o2 r2 p1 e1 c1
 obtain ⟨u,ht_u⟩:∃ x,Sh (peekL T S1=x):=⟨_,⟨rfl⟩⟩
 try simp only[ht_u.out,Z]at q
 cases d3:decide (u.kind = 3)
 try simp only[ef d3,d3,Z]at q
 simp [gz, *]
 (focus repeat' first|refine ga ?_|(refine gb ?_;try simp[gz, *])|refine gk fun _ _=>?_)
 refine o3.peek ht_u ?_
 simp [gz, *]
 intro b4 zb4
 obtain ⟨n_r_b4,n_b4_r⟩:=o3.ne zb4
 obtain ⟨n_b3_b4,n_b4_b3⟩:=ne2 p17 zb4
 have yb4:=o3.y zb4
 have o17:=o3.new zb4 (.cells (tkRow u))
 clear o3 zb4
 try simp [gz, *]
 (focus repeat' first|refine ga ?_|(refine gb ?_;try simp[gz, *])|refine gk fun _ _=>?_)
 refine o17.settle fun k14 o18 r15=>?_
 have p18:=o18.b1
 have p19:=o18.b2 n_b3_b4
 clear o17 r3 p17
 refine o18.wrong 5 fun k15 S11 e11 o19 r16=>?_
 try simp only[e11,Z]at q
 have p20:=o19.b1
 have p21:=o19.b2 n_b3_b4
 clear o18 r15 p18 p19 e11
 obtain ⟨rfl,rfl⟩:=fi q
 simp [gz, *]
 (focus repeat' first|refine ga ?_|(refine gb ?_;try simp[gz, *])|refine gk fun _ _=>?_)
 exact hR.out _ _ _ o19.fin
 try simp only[et d3,d3,Z]at q
 simp [gz, *]
 (focus repeat' first|refine ga ?_|(refine gb ?_;try simp[gz, *])|refine gk fun _ _=>?_)
 refine o3.peek ht_u ?_
 simp [gz, *]
 intro b4 zb4
 obtain ⟨n_r_b4,n_b4_r⟩:=o3.ne zb4
 obtain ⟨n_b3_b4,n_b4_b3⟩:=ne2 p17 zb4
 have yb4:=o3.y zb4
 have o20:=o3.new zb4 (.cells (tkRow u))
 clear o3 zb4
 try simp [gz, *]
 have w3:=o20.good.rd.w1
 (focus repeat' first|refine ga ?_|(refine gb ?_;try simp[gz, *])|refine gk fun _ _=>?_)
 have o21:=o20.stepped (kk ht_u d3)
 clear o20
 refine o21.settleA fun k16 o22 r17=>?_
 have p22:=o22.b1
 have p23:=o22.b2 n_b3_b4
 clear o21 r3 p17 w3
 have o23:=minus_minus ▸ ((o22.minus yb4).minus yb3)
 refine awp_region_draw [b3,b4] [(0,true),(1,true),(2,true),(3,true),(4,true),(5,false),(6,false)] [7] follows (by kernel_rfl) rfl (by kernel_rfl) ?_; simp [gz, *]
 clear o22
 (focus repeat' first|refine ga ?_|(refine gb ?_;try simp[gz, *])|refine gk fun _ _=>?_)
 refine Neg_c u.num _ _ ?_
 simp [gz, *]
 refine o23.add 4 t.pos [] (IntKind.i64.wrap (-u.num)) [] (fun k17 u11 u12 v6 S12 e12 o24 r18=>?_)
 try simp only[e12,Z]at q
 clear o23 e12
 simp [gz, *]
 intro hn1 hn2
 rw [show k17.plus [b3,b4] k16=_ from plus_two (x:=.cells (tkRow t)) (y:=.cells (tkRow u)) n_b3_b4 (by simp[*]) (by simp[*])]
 have o25:=(o24.new hn1 (.cells (tkRow t))).new (b:=b4) (by simp[gz, *]) (.cells (tkRow u))
 clear o24 r17 p22 p23
 obtain ⟨rfl,rfl⟩:=fi q
 (focus repeat' first|refine ga ?_|(refine gb ?_;try simp[gz, *])|refine gk fun _ _=>?_)
 exact hR.out _ _ _ o25.fin
end Go.Proofs.YtcbgpjlcfkkdlaaGreatDoor

namespace Go.Proofs.YtcbgpjlcfkkdlaaGreatDoor
open Go Go.AL Go.Proofs
theorem word_w (T : List Tk) (tt : Tok) (n : Nat) (t : Tk) (ih : ∀ m op, m ≤ n → Meth T tt m op) : Meth T tt (n + 1) (.word t) := by
 refine Meth.of fun S l S' q r t1 t2 B h o R hR=>?_
 simp only[run,Z]at q
 by_cases h6:(peekL T S).kind=6
 · have q0:=q.out
   rw [if_pos h6]at q0
   cases q0
 rw [if_neg h6]at q
 refine acalls_of Tryz.func45 rfl Tryz.ntmps45 (congrArg Array.toList Tryz.results45) fun Q hQ => ?_
 have r1:=o.own.blk
 (focus repeat' first|refine ga ?_|(refine gb ?_;try simp[gz, *])|refine gk fun _ _=>?_)
 intro b3 zb3
 obtain ⟨n_r_b3,n_b3_r⟩:=o.ne zb3
 have yb3:=o.y zb3
 have o1:=o.new zb3 (.cells (tkRow t))
 clear o zb3
 try simp [gz, *]
 cases d1:decide (t.text = [105, 102])
 try simp only[ef d1,d1,Z]at q
 cases d2:decide (t.text = [119, 104, 105, 108, 101])
 try simp only[ef d2,d2,Z]at q
 cases d3:decide (t.text = [100, 111])
 try simp only[ef d3,d3,Z]at q
 cases d4:decide (t.text = [102, 111, 114])
 try simp only[ef d4,d4,Z]at q
 cases d5:decide (t.text = [102, 111, 114, 101, 97, 99, 104])
 try simp only[ef d5,d5,Z]at q
 cases d6:decide (t.text = [115, 119, 105, 116, 99, 104])
 try simp only[ef d6,d6,Z]at q
 cases d7:decide (t.text = [116, 114, 121])
 try simp only[ef d7,d7,Z]at q
 cases d8:decide (t.text = [108, 111, 99, 97, 108])
 try simp only[ef d8,d8,Z]at q
 cases d9:decide (t.text = [98, 114, 101, 97, 107])
 try simp only[ef d9,d9,Z]at q
 cases d10:decide (t.text = [99, 111, 110, 116, 105, 110, 117, 101])
 try simp only[ef d10,d10,Z]at q
 cases d11:decide (t.text = [114, 101, 116, 117, 114, 110])
 try simp only[ef d11,d11,Z]at q
 cases d12:decide (t.text = [121, 105, 101, 108, 100])
 try simp only[ef d12,d12,Z]at q
 cases d13:decide (t.text = [116, 104, 114, 111, 119])
 try simp only[ef d13,d13,Z]at q
 cases d14:decide (t.text = [102, 117, 110, 99, 116, 105, 111, 110])
 try simp only[ef d14,d14,Z]at q
 cases d15:decide (t.text = [99, 108, 97, 115, 115])
 try simp only[ef d15,d15,Z]at q
 cases d16:decide (t.text = [99, 111, 110, 115, 116])
 try simp only[ef d16,d16,Z]at q
 cases d17:decide (t.text = [101, 110, 117, 109])
 try simp only[ef d17,d17,Z]at q
 obtain ⟨rfl,rfl⟩:=fi q
 (focus repeat' first|refine ga ?_|(refine gb ?_;try simp[gz, *])|refine gk fun _ _=>?_)
 exact hR.out _ _ _ o1.fin
 try simp only[et d17,d17,Z]at q
 have w1:=o1.good.rd.w1
 (focus repeat' first|refine ga ?_|(refine gb ?_;try simp[gz, *])|refine gk fun _ _=>?_)
 have o2:=o1.stepped (h6)
 clear o1
 refine o2.settle fun k1 o3 r2=>?_
 have p1:=o3.b1
 clear o2 r1 w1
 obtain ⟨l1,S1,h1,q⟩:=bo2 q
 refine o3.call (ih _ _ (by omega)) h1 fun k2 u1 u2 v1 e1 o4 r3=>?_
 try simp only[e1,Z]at q
 have p2:=o4.b1
 clear o3 r2 p1 h1
 obtain ⟨rfl,rfl⟩:=fi q
 subst e1
 simp [gz, *]
 (focus repeat' first|refine ga ?_|(refine gb ?_;try simp[gz, *])|refine gk fun _ _=>?_)
 exact hR.out _ _ _ o4.fin
 try simp only[et d16,d16,Z]at q
 have w2:=o1.good.rd.w1
 (focus repeat' first|refine ga ?_|(refine gb ?_;try simp[gz, *])|refine gk fun _ _=>?_)
 have o5:=o1.stepped (h6)
 clear o1
 refine o5.settle fun k3 o6 r4=>?_
 have p3:=o6.b1
 clear o5 r1 w2
 refine o6.name fun k4 x1 S2 e2 o7 r5=>?_
 try simp only[e2,Z]at q
 have p4:=o7.b1
 clear o6 r4 p3 e2
 simp [gz, *]
 (focus repeat' first|refine ga ?_|(refine gb ?_;try simp[gz, *])|refine gk fun _ _=>?_)
 refine o7.must [61] fun k5 S3 e3 o8 r6=>?_
 try simp only[e3,Z]at q
 have p5:=o8.b1
 clear o7 r5 p4 e3
 simp [gz, *]
 (focus repeat' first|refine ga ?_|(refine gb ?_;try simp[gz, *])|refine gk fun _ _=>?_)
 obtain ⟨l2,S4,h2,q⟩:=bo2 q
 refine o8.call (ih _ _ (by omega)) h2 fun k6 u3 u4 v2 e4 o9 r7=>?_
 try simp only[e4,Z]at q
 have p6:=o9.b1
 clear o8 r6 p5 h2
 simp [gz, *]
 (focus repeat' first|refine ga ?_|(refine gb ?_;try simp[gz, *])|refine gk fun _ _=>?_)
 refine o9.add 41 t.pos x1 0 [v2] (fun k7 u5 u6 v3 S5 e5 o10 r8=>?_)
 try simp only[e5,Z]at q
 have p7:=o10.b1
 clear o9 r7 p6 e5 e4
 simp [gz, *]
 (focus repeat' first|refine ga ?_|(refine gb ?_;try simp[gz, *])|refine gk fun _ _=>?_)
 refine o10.fend fun k8 S6 e6 o11 r9=>?_
 try simp only[e6,Z]at q
 have p8:=o11.b1
 clear o10 r8 p7 e6
 obtain ⟨rfl,rfl⟩:=fi q
 simp [gz, *]
 (focus repeat' first|refine ga ?_|(refine gb ?_;try simp[gz, *])|refine gk fun _ _=>?_)
 exact hR.out _ _ _ o11.fin
 try simp only[et d15,d15,Z]at q
 obtain ⟨nt,hnt,⟨lt1,hnt2⟩,hnt3,w3⟩:=nextk o1.good (h6)
 have lt1l:=o1.good.rd.len
 try simp only[hnt3,Z]at q
 cases d18:decide (nt.kind = 1)
 try simp only[ef d18,d18,Z]at q
 (focus repeat' first|refine ga ?_|(refine gb ?_;try simp[gz, *])|refine gk fun _ _=>?_)
 refine o1.settleA fun k9 o12 r10=>?_
 have p9:=o12.b1
 clear o1 r1
 refine awp_region_quiet follows (by kernel_rfl) ?_; simp [gz, *]
 (focus repeat' first|refine ga ?_|(refine gb ?_;try simp[gz, *])|refine gk fun _ _=>?_)
 obtain ⟨rfl,rfl⟩:=fi q
 exact hR.out _ _ _ o12.fin
 try simp only[et d18,d18,Z]at q
 (focus repeat' first|refine ga ?_|(refine gb ?_;try simp[gz, *])|refine gk fun _ _=>?_)
 refine o1.settleA fun k10 o13 r11=>?_
 have p10:=o13.b1
 clear o1 r1
 refine awp_region_quiet follows (by kernel_rfl) ?_; simp [gz, *]
 (focus repeat' first|refine ga ?_|(refine gb ?_;try simp[gz, *])|refine gk fun _ _=>?_)
 obtain ⟨l3,S7,h3,q⟩:=bo2 q
 refine o13.call (ih _ _ (by omega)) h3 fun k11 u7 u8 v4 e7 o14 r12=>?_
 try simp only[e7,Z]at q
 have p11:=o14.b1
 clear o13 r11 p10 h3
 obtain ⟨rfl,rfl⟩:=fi q
 subst e7
 simp [gz, *]
 (focus repeat' first|refine ga ?_|(refine gb ?_;try simp[gz, *])|refine gk fun _ _=>?_)
 exact hR.out _ _ _ o14.fin
 try simp only[et d14,d14,Z]at q
 obtain ⟨nt,hnt,⟨lt2,hnt2⟩,hnt3,w4⟩:=nextk o1.good (h6)
 have lt2l:=o1.good.rd.len
 try simp only[hnt3,Z]at q
 cases d19:decide (nt.kind = 1)
 try simp only[ef d19,d19,Z]at q
 (focus repeat' first|refine ga ?_|(refine gb ?_;try simp[gz, *])|refine gk fun _ _=>?_)
 refine o1.settleA fun k12 o15 r13=>?_
 have p12:=o15.b1
 clear o1 r1
 refine awp_region_quiet follows (by kernel_rfl) ?_; simp [gz, *]
 (focus repeat' first|refine ga ?_|(refine gb ?_;try simp[gz, *])|refine gk fun _ _=>?_)
 obtain ⟨rfl,rfl⟩:=fi q
 exact hR.out _ _ _ o15.fin
 try simp only[et d19,d19,Z]at q
 (focus repeat' first|refine ga ?_|(refine gb ?_;try simp[gz, *])|refine gk fun _ _=>?_)
 refine o1.settleA fun k13 o16 r14=>?_
 have p13:=o16.b1
 clear o1 r1
 refine awp_region_quiet follows (by kernel_rfl) ?_; simp [gz, *]
 (focus repeat' first|refine ga ?_|(refine gb ?_;try simp[gz, *])|refine gk fun _ _=>?_)
 obtain ⟨l4,S8,h4,q⟩:=bo2 q
 refine o16.call (ih _ _ (by omega)) h4 fun k14 u9 u10 v5 e8 o17 r15=>?_
 try simp only[e8,Z]at q
 have p14:=o17.b1
 clear o16 r14 p13 h4
 obtain ⟨rfl,rfl⟩:=fi q
 subst e8
 simp [gz, *]
 (focus repeat' first|refine ga ?_|(refine gb ?_;try simp[gz, *])|refine gk fun _ _=>?_)
 exact hR.out _ _ _ o17.fin
 try simp only[et d13,d13,Z]at q
 have w5:=o1.good.rd.w1
 (focus repeat' first|refine ga ?_|(refine gb ?_;try simp[gz, *])|refine gk fun _ _=>?_)
 have o18:=o1.stepped (h6)
 clear o1
 refine o18.settle fun k15 o19 r16=>?_
 have p15:=o19.b1
 clear o18 r1 w5
 obtain ⟨l5,S9,h5,q⟩:=bo2 q
 refine o19.call (ih _ _ (by omega)) h5 fun k16 u11 u12 v6 e9 o20 r17=>?_
 try simp only[e9,Z]at q
 have p16:=o20.b1
 clear o19 r16 p15 h5
 simp [gz, *]
 (focus repeat' first|refine ga ?_|(refine gb ?_;try simp[gz, *])|refine gk fun _ _=>?_)
 refine o20.add 39 t.pos [] 0 [v6] (fun k17 u13 u14 v7 S10 e10 o21 r18=>?_)
 try simp only[e10,Z]at q
 have p17:=o21.b1
 clear o20 r17 p16 e10 e9
 simp [gz, *]
 (focus repeat' first|refine ga ?_|(refine gb ?_;try simp[gz, *])|refine gk fun _ _=>?_)
 refine o21.fend fun k18 S11 e11 o22 r19=>?_
 try simp only[e11,Z]at q
 have p18:=o22.b1
 clear o21 r18 p17 e11
 obtain ⟨rfl,rfl⟩:=fi q
 simp [gz, *]
 (focus repeat' first|refine ga ?_|(refine gb ?_;try simp[gz, *])|refine gk fun _ _=>?_)
 exact hR.out _ _ _ o22.fin
 try simp only[et d12,d12,Z]at q
 have w6:=o1.good.rd.w1
 (focus repeat' first|refine ga ?_|(refine gb ?_;try simp[gz, *])|refine gk fun _ _=>?_)
 have o23:=o1.stepped (h6)
 clear o1
 refine o23.settle fun k19 o24 r20=>?_
 have p19:=o24.b1
 clear o23 r1 w6
 cases c1:endsL T (stepL S)
 try simp only[c1,Z]at q
 refine o24.ends ?_
 simp [gz, *]
 (focus repeat' first|refine ga ?_|(refine gb ?_;try simp[gz, *])|refine gk fun _ _=>?_)
 obtain ⟨l6,S12,h6,q⟩:=bo2 q
 refine o24.call (ih _ _ (by omega)) h6 fun k20 u15 u16 v8 e12 o25 r21=>?_
 try simp only[e12,Z]at q
 have p20:=o25.b1
 clear o24 r20 p19 h6
 simp [gz, *]
 (focus repeat' first|refine ga ?_|(refine gb ?_;try simp[gz, *])|refine gk fun _ _=>?_)
 refine o25.add 38 t.pos [] 0 [v8] (fun k21 u17 u18 v9 S13 e13 o26 r22=>?_)
 try simp only[e13,Z]at q
 have p21:=o26.b1
 clear o25 r21 p20 e13 e12
 simp [gz, *]
 (focus repeat' first|refine ga ?_|(refine gb ?_;try simp[gz, *])|refine gk fun _ _=>?_)
 refine o26.fend fun k22 S14 e14 o27 r23=>?_
 try simp only[e14,Z]at q
 have p22:=o27.b1
 clear o26 r22 p21 e14
 obtain ⟨rfl,rfl⟩:=fi q
 simp [gz, *]
 (focus repeat' first|refine ga ?_|(refine gb ?_;try simp[gz, *])|refine gk fun _ _=>?_)
 exact hR.out _ _ _ o27.fin
 try simp only[c1,Z]at q
 refine o24.ends ?_
 simp [gz, *]
 (focus repeat' first|refine ga ?_|(refine gb ?_;try simp[gz, *])|refine gk fun _ _=>?_)
 refine o24.add 38 t.pos [] 0 [-1] (fun k23 u19 u20 v10 S15 e15 o28 r24=>?_)
 try simp only[e15,Z]at q
 have p23:=o28.b1
 clear o24 r20 p19 e15
 simp [gz, *]
 (focus repeat' first|refine ga ?_|(refine gb ?_;try simp[gz, *])|refine gk fun _ _=>?_)
 refine o28.fend fun k24 S16 e16 o29 r25=>?_
 try simp only[e16,Z]at q
 have p24:=o29.b1
 clear o28 r24 p23 e16
 obtain ⟨rfl,rfl⟩:=fi q
 simp [gz, *]
 (focus repeat' first|refine ga ?_|(refine gb ?_;try simp[gz, *])|refine gk fun _ _=>?_)
 exact hR.out _ _ _ o29.fin
 try simp only[et d11,d11,Z]at q
 have x2 : decide (t.text = [121, 105, 101, 108, 100]) = false := decide_eq_false (by rw [of_decide_eq_true d11]; decide)
 try simp only[ef x2,x2,Z]at q
 have w7:=o1.good.rd.w1
 (focus repeat' first|refine ga ?_|(refine gb ?_;try simp[gz, *])|refine gk fun _ _=>?_)
 have o30:=o1.stepped (h6)
 clear o1
 refine o30.settle fun k25 o31 r26=>?_
 have p25:=o31.b1
 clear o30 r1 w7
 cases c2:endsL T (stepL S)
 try simp only[c2,Z]at q
 refine o31.ends ?_
 simp [gz, *]
 (focus repeat' first|refine ga ?_|(refine gb ?_;try simp[gz, *])|refine gk fun _ _=>?_)
 obtain ⟨l7,S17,h7,q⟩:=bo2 q
 refine o31.call (ih _ _ (by omega)) h7 fun k26 u21 u22 v11 e17 o32 r27=>?_
 try simp only[e17,Z]at q
 have p26:=o32.b1
 clear o31 r26 p25 h7
 simp [gz, *]
 (focus repeat' first|refine ga ?_|(refine gb ?_;try simp[gz, *])|refine gk fun _ _=>?_)
 refine o32.add 37 t.pos [] 0 [v11] (fun k27 u23 u24 v12 S18 e18 o33 r28=>?_)
 try simp only[e18,Z]at q
 have p27:=o33.b1
 clear o32 r27 p26 e18 e17
 simp [gz, *]
 (focus repeat' first|refine ga ?_|(refine gb ?_;try simp[gz, *])|refine gk fun _ _=>?_)
 refine o33.fend fun k28 S19 e19 o34 r29=>?_
 try simp only[e19,Z]at q
 have p28:=o34.b1
 clear o33 r28 p27 e19
 obtain ⟨rfl,rfl⟩:=fi q
 simp [gz, *]
 (focus repeat' first|refine ga ?_|(refine gb ?_;try simp[gz, *])|refine gk fun _ _=>?_)
 exact hR.out _ _ _ o34.fin
 try simp only[c2,Z]at q
 refine o31.ends ?_
 simp [gz, *]
 (focus repeat' first|refine ga ?_|(refine gb ?_;try simp[gz, *])|refine gk fun _ _=>?_)
 refine o31.add 37 t.pos [] 0 [-1] (fun k29 u25 u26 v13 S20 e20 o35 r30=>?_)
 try simp only[e20,Z]at q
 have p29:=o35.b1
 clear o31 r26 p25 e20
 simp [gz, *]
 (focus repeat' first|refine ga ?_|(refine gb ?_;try simp[gz, *])|refine gk fun _ _=>?_)
 refine o35.fend fun k30 S21 e21 o36 r31=>?_
 try simp only[e21,Z]at q
 have p30:=o36.b1
 clear o35 r30 p29 e21
 obtain ⟨rfl,rfl⟩:=fi q
 simp [gz, *]
 (focus repeat' first|refine ga ?_|(refine gb ?_;try simp[gz, *])|refine gk fun _ _=>?_)
 exact hR.out _ _ _ o36.fin
 try simp only[et d10,d10,Z]at q
 have w8:=o1.good.rd.w1
 (focus repeat' first|refine ga ?_|(refine gb ?_;try simp[gz, *])|refine gk fun _ _=>?_)
 have o37:=o1.stepped (h6)
 clear o1
 refine o37.settle fun k31 o38 r32=>?_
 have p31:=o38.b1
 clear o37 r1 w8
 refine o38.add 36 t.pos [] 0 [] (fun k32 u27 u28 v14 S22 e22 o39 r33=>?_)
 try simp only[e22,Z]at q
 have p32:=o39.b1
 clear o38 r32 p31 e22
 simp [gz, *]
 (focus repeat' first|refine ga ?_|(refine gb ?_;try simp[gz, *])|refine gk fun _ _=>?_)
 refine o39.fend fun k33 S23 e23 o40 r34=>?_
 try simp only[e23,Z]at q
 have p33:=o40.b1
 clear o39 r33 p32 e23
 obtain ⟨rfl,rfl⟩:=fi q
 simp [gz, *]
 (focus repeat' first|refine ga ?_|(refine gb ?_;try simp[gz, *])|refine gk fun _ _=>?_)
 exact hR.out _ _ _ o40.fin
 try simp only[et d9,d9,Z]at q
 have x3 : decide (t.text = [99, 111, 110, 116, 105, 110, 117, 101]) = false := decide_eq_false (by rw [of_decide_eq_true d9]; decide)
 try simp only[ef x3,x3,Z]at q
 have w9:=o1.good.rd.w1
 (focus repeat' first|refine ga ?_|(refine gb ?_;try simp[gz, *])|refine gk fun _ _=>?_)
 have o41:=o1.stepped (h6)
 clear o1
 refine o41.settle fun k34 o42 r35=>?_
 have p34:=o42.b1
 clear o41 r1 w9
 refine o42.add 35 t.pos [] 0 [] (fun k35 u29 u30 v15 S24 e24 o43 r36=>?_)
 try simp only[e24,Z]at q
 have p35:=o43.b1
 clear o42 r35 p34 e24
 simp [gz, *]
 (focus repeat' first|refine ga ?_|(refine gb ?_;try simp[gz, *])|refine gk fun _ _=>?_)
 refine o43.fend fun k36 S25 e25 o44 r37=>?_
 try simp only[e25,Z]at q
 have p36:=o44.b1
 clear o43 r36 p35 e25
 obtain ⟨rfl,rfl⟩:=fi q
 simp [gz, *]
 (focus repeat' first|refine ga ?_|(refine gb ?_;try simp[gz, *])|refine gk fun _ _=>?_)
 exact hR.out _ _ _ o44.fin
 try simp only[et d8,d8,Z]at q
 have w10:=o1.good.rd.w1
 (focus repeat' first|refine ga ?_|(refine gb ?_;try simp[gz, *])|refine gk fun _ _=>?_)
 have o45:=o1.stepped (h6)
 clear o1
 refine o45.settle fun k37 o46 r38=>?_
 have p37:=o46.b1
 clear o45 r1 w10
 obtain ⟨l8,S26,h8,q⟩:=bo2 q
 refine o46.call (ih _ _ (by omega)) h8 fun k38 u31 u32 v16 e26 o47 r39=>?_
 try simp only[e26,Z]at q
 have p38:=o47.b1
 clear o46 r38 p37 h8
 obtain ⟨rfl,rfl⟩:=fi q
 subst e26
 simp [gz, *]
 (focus repeat' first|refine ga ?_|(refine gb ?_;try simp[gz, *])|refine gk fun _ _=>?_)
 exact hR.out _ _ _ o47.fin
 try simp only[et d7,d7,Z]at q
 have w11:=o1.good.rd.w1
 (focus repeat' first|refine ga ?_|(refine gb ?_;try simp[gz, *])|refine gk fun _ _=>?_)
 have o48:=o1.stepped (h6)
 clear o1
 refine o48.settle fun k39 o49 r40=>?_
 have p39:=o49.b1
 clear o48 r1 w11
 obtain ⟨l9,S27,h9,q⟩:=bo2 q
 refine o49.call (ih _ _ (by omega)) h9 fun k40 u33 u34 v17 e27 o50 r41=>?_
 try simp only[e27,Z]at q
 have p40:=o50.b1
 clear o49 r40 p39 h9
 obtain ⟨rfl,rfl⟩:=fi q
 subst e27
 simp [gz, *]
 (focus repeat' first|refine ga ?_|(refine gb ?_;try simp[gz, *])|refine gk fun _ _=>?_)
 exact hR.out _ _ _ o50.fin
 try simp only[et d6,d6,Z]at q
 have w12:=o1.good.rd.w1
 (focus repeat' first|refine ga ?_|(refine gb ?_;try simp[gz, *])|refine gk fun _ _=>?_)
 have o51:=o1.stepped (h6)
 clear o1
 refine o51.settle fun k41 o52 r42=>?_
 have p41:=o52.b1
 clear o51 r1 w12
 obtain ⟨l10,S28,h10,q⟩:=bo2 q
 refine o52.call (ih _ _ (by omega)) h10 fun k42 u35 u36 v18 e28 o53 r43=>?_
 try simp only[e28,Z]at q
 have p42:=o53.b1
 clear o52 r42 p41 h10
 obtain ⟨rfl,rfl⟩:=fi q
 subst e28
 simp [gz, *]
 (focus repeat' first|refine ga ?_|(refine gb ?_;try simp[gz, *])|refine gk fun _ _=>?_)
 exact hR.out _ _ _ o53.fin
 try simp only[et d5,d5,Z]at q
 have w13:=o1.good.rd.w1
 (focus repeat' first|refine ga ?_|(refine gb ?_;try simp[gz, *])|refine gk fun _ _=>?_)
 have o54:=o1.stepped (h6)
 clear o1
 refine o54.settle fun k43 o55 r44=>?_
 have p43:=o55.b1
 clear o54 r1 w13
 obtain ⟨l11,S29,h11,q⟩:=bo2 q
 refine o55.call (ih _ _ (by omega)) h11 fun k44 u37 u38 v19 e29 o56 r45=>?_
 try simp only[e29,Z]at q
 have p44:=o56.b1
 clear o55 r44 p43 h11
 obtain ⟨rfl,rfl⟩:=fi q
 subst e29
 simp [gz, *]
 (focus repeat' first|refine ga ?_|(refine gb ?_;try simp[gz, *])|refine gk fun _ _=>?_)
 exact hR.out _ _ _ o56.fin
 try simp only[et d4,d4,Z]at q
 have w14:=o1.good.rd.w1
 (focus repeat' first|refine ga ?_|(refine gb ?_;try simp[gz, *])|refine gk fun _ _=>?_)
 have o57:=o1.stepped (h6)
 clear o1
 refine o57.settle fun k45 o58 r46=>?_
 have p45:=o58.b1
 clear o57 r1 w14
 obtain ⟨l12,S30,h12,q⟩:=bo2 q
 refine o58.call (ih _ _ (by omega)) h12 fun k46 u39 u40 v20 e30 o59 r47=>?_
 try simp only[e30,Z]at q
 have p46:=o59.b1
 clear o58 r46 p45 h12
 obtain ⟨rfl,rfl⟩:=fi q
 subst e30
 simp [gz, *]
 (focus repeat' first|refine ga ?_|(refine gb ?_;try simp[gz, *])|refine gk fun _ _=>?_)
 exact hR.out _ _ _ o59.fin
 try simp only[et d3,d3,Z]at q
 have w15:=o1.good.rd.w1
 (focus repeat' first|refine ga ?_|(refine gb ?_;try simp[gz, *])|refine gk fun _ _=>?_)
 have o60:=o1.stepped (h6)
 clear o1
 refine o60.settle fun k47 o61 r48=>?_
 have p47:=o61.b1
 clear o60 r1 w15
 obtain ⟨l13,S31,h13,q⟩:=bo2 q
 refine o61.call (ih _ _ (by omega)) h13 fun k48 u41 u42 v21 e31 o62 r49=>?_
 try simp only[e31,Z]at q
 have p48:=o62.b1
 clear o61 r48 p47 h13
 obtain ⟨rfl,rfl⟩:=fi q
 subst e31
 simp [gz, *]
 (focus repeat' first|refine ga ?_|(refine gb ?_;try simp[gz, *])|refine gk fun _ _=>?_)
 exact hR.out _ _ _ o62.fin
 try simp only[et d2,d2,Z]at q
 have w16:=o1.good.rd.w1
 (focus repeat' first|refine ga ?_|(refine gb ?_;try simp[gz, *])|refine gk fun _ _=>?_)
 have o63:=o1.stepped (h6)
 clear o1
 refine o63.settle fun k49 o64 r50=>?_
 have p49:=o64.b1
 clear o63 r1 w16
 obtain ⟨l14,S32,h14,q⟩:=bo2 q
 refine o64.call (ih _ _ (by omega)) h14 fun k50 u43 u44 v22 e32 o65 r51=>?_
 try simp only[e32,Z]at q
 have p50:=o65.b1
 clear o64 r50 p49 h14
 obtain ⟨rfl,rfl⟩:=fi q
 subst e32
 simp [gz, *]
 (focus repeat' first|refine ga ?_|(refine gb ?_;try simp[gz, *])|refine gk fun _ _=>?_)
 exact hR.out _ _ _ o65.fin
 try simp only[et d1,d1,Z]at q
 have w17:=o1.good.rd.w1
 (focus repeat' first|refine ga ?_|(refine gb ?_;try simp[gz, *])|refine gk fun _ _=>?_)
 have o66:=o1.stepped (h6)
 clear o1
 refine o66.settle fun k51 o67 r52=>?_
 have p51:=o67.b1
 clear o66 r1 w17
 obtain ⟨l15,S33,h15,q⟩:=bo2 q
 refine o67.call (ih _ _ (by omega)) h15 fun k52 u45 u46 v23 e33 o68 r53=>?_
 try simp only[e33,Z]at q
 have p52:=o68.b1
 clear o67 r52 p51 h15
 obtain ⟨rfl,rfl⟩:=fi q
 subst e33
 simp [gz, *]
 (focus repeat' first|refine ga ?_|(refine gb ?_;try simp[gz, *])|refine gk fun _ _=>?_)
 exact hR.out _ _ _ o68.fin
end Go.Proofs.YtcbgpjlcfkkdlaaGreatDoor

namespace Go.Proofs.YtcbgpjlcfkkdlaaGreatDoor
open Go Go.AL Go.Proofs
theorem local_w (T : List Tk) (tt : Tok) (n : Nat) (at_ : Int) (ih : ∀ m op, m ≤ n → Meth T tt m op) : Meth T tt (n + 1) (.locl at_) := by
 refine Meth.of fun S l S' q r t1 t2 B h o R hR=>?_
 simp only[run,Z]at q
 refine acalls_of Tryz.func80 rfl Tryz.ntmps80 (congrArg Array.toList Tryz.results80) fun Q hQ => ?_
 have r1:=o.own.blk
 (focus repeat' first|refine ga ?_|(refine gb ?_;try simp[gz, *])|refine gk fun _ _=>?_)
 cases c1:isL T [102, 117, 110, 99, 116, 105, 111, 110] S
 try simp only[c1,Z]at q
 refine o.is [102, 117, 110, 99, 116, 105, 111, 110] ?_
 simp [gz, *]
 (focus repeat' first|refine ga ?_|(refine gb ?_;try simp[gz, *])|refine gk fun _ _=>?_)
 refine o.name fun k1 x1 S1 e1 o1 r2=>?_
 try simp only[e1,Z]at q
 clear o r1 e1
 simp [gz, *]
 (focus repeat' first|refine ga ?_|(refine gb ?_;try simp[gz, *])|refine gk fun _ _=>?_)
 refine o1.eat [61] (fun c2 k2 o2 r3=>?_) fun c2 k2 S2 e2 z1 o2 r3=>?_
 try simp only[c2,Z]at q
 clear o1 r2 c2
 simp [gz, *]
 (focus repeat' first|refine ga ?_|(refine gb ?_;try simp[gz, *])|refine gk fun _ _=>?_)
 refine o2.add 27 at_ x1 0 [-1] (fun k3 u1 u2 v1 S3 e3 o3 r4=>?_)
 try simp only[e3,Z]at q
 clear o2 r3 e3
 simp [gz, *]
 (focus repeat' first|refine ga ?_|(refine gb ?_;try simp[gz, *])|refine gk fun _ _=>?_)
 refine o3.fend fun k4 S4 e4 o4 r5=>?_
 try simp only[e4,Z]at q
 clear o3 r4 e4
 obtain ⟨rfl,rfl⟩:=fi q
 simp [gz, *]
 (focus repeat' first|refine ga ?_|(refine gb ?_;try simp[gz, *])|refine gk fun _ _=>?_)
 exact hR.out _ _ _ o4.fin
 try simp only[c2,e2,Z]at q
 clear o1 r2 e2 c2
 simp [gz, *]
 (focus repeat' first|refine ga ?_|(refine gb ?_;try simp[gz, *])|refine gk fun _ _=>?_)
 obtain ⟨l1,S5,h1,q⟩:=bo2 q
 refine o2.call (ih _ _ (by omega)) h1 fun k5 u3 u4 v2 e5 o5 r6=>?_
 try simp only[e5,Z]at q
 clear o2 r3 h1
 simp [gz, *]
 (focus repeat' first|refine ga ?_|(refine gb ?_;try simp[gz, *])|refine gk fun _ _=>?_)
 refine o5.add 27 at_ x1 0 [v2] (fun k6 u5 u6 v3 S6 e6 o6 r7=>?_)
 try simp only[e6,Z]at q
 clear o5 r6 e6 e5
 simp [gz, *]
 (focus repeat' first|refine ga ?_|(refine gb ?_;try simp[gz, *])|refine gk fun _ _=>?_)
 refine o6.fend fun k7 S7 e7 o7 r8=>?_
 try simp only[e7,Z]at q
 clear o6 r7 e7
 obtain ⟨rfl,rfl⟩:=fi q
 simp [gz, *]
 (focus repeat' first|refine ga ?_|(refine gb ?_;try simp[gz, *])|refine gk fun _ _=>?_)
 exact hR.out _ _ _ o7.fin
 try simp only[c1,Z]at q
 refine o.is [102, 117, 110, 99, 116, 105, 111, 110] ?_
 have hg:=o.good
 obtain ⟨nt,hnt,⟨lt1,hnt2⟩,hnt3,w1⟩:=nextk o.good (isL_kind c1)
 have lt1l:=o.good.rd.len
 try simp only[hnt3,Z]at q
 have wl : IntKind.i64.wrap ((T.length : Int) - 1) = (T.length : Int) - 1 := by have := hg.rd.len; rw [w64 (by omega) (by omega)]
 cases d1:decide (nt.kind = 1)
 try simp only[ef d1,d1,Z]at q
 simp [gz, *]
 (focus repeat' first|refine ga ?_|(refine gb ?_;try simp[gz, *])|refine gk fun _ _=>?_)
 refine awp_region_quiet follows (by kernel_rfl) ?_; simp [gz, *]
 (focus repeat' first|refine ga ?_|(refine gb ?_;try simp[gz, *])|refine gk fun _ _=>?_)
 have w2:=o.good.rd.w1
 have o8:=o.stepped (isL_kind c1)
 clear o
 refine o8.settle fun k8 o9 r9=>?_
 clear o8 r1 w2
 refine o9.wrong 5 fun k9 S8 e8 o10 r10=>?_
 try simp only[e8,Z]at q
 clear o9 r9 e8
 have hlt2 := o10.good.rd.top
 have hM : min (S8.idx + 1) (T.length - 1) < T.length := by have := hg.rd.ne; omega
 obtain ⟨M, hMM⟩ : ∃ x, min (S8.idx + 1) (T.length - 1) = x := ⟨_, rfl⟩
 rw [hMM] at hM
 obtain ⟨mt, hmt⟩ : ∃ x, T[M]? = some x := ⟨_, List.getElem?_eq_getElem hM⟩
 have hmt2 := (List.getElem?_eq_some_iff.1 hmt).2
 have hmt3 : T.getD M default = mt := by simp [List.getD, hmt]
 have hMi : min ((S8.idx : Int) + 1) ((T.length : Int) - 1) = (M : Int) := by have := hg.rd.ne; omega
 try simp only[hMM,hmt3,Z]at q
 have wM := o10.good.rd.w1
 simp [gz, *]
 (focus repeat' first|refine ga ?_|(refine gb ?_;try simp[gz, *])|refine gk fun _ _=>?_)
 refine awp_region_quiet follows (by kernel_rfl) ?_; simp [gz, *]
 (focus repeat' first|refine ga ?_|(refine gb ?_;try simp[gz, *])|refine gk fun _ _=>?_)
 obtain ⟨l2,S9,h2,q⟩:=bo2 q
 refine o10.call (ih _ _ (by omega)) h2 fun k10 u7 u8 v4 e9 o11 r11=>?_
 try simp only[e9,Z]at q
 clear o10 r10 h2
 simp [gz, *]
 (focus repeat' first|refine ga ?_|(refine gb ?_;try simp[gz, *])|refine gk fun _ _=>?_)
 refine o11.add 27 at_ mt.text 0 [v4] (fun k11 u9 u10 v5 S10 e10 o12 r12=>?_)
 try simp only[e10,Z]at q
 clear o11 r11 e10 e9
 obtain ⟨rfl,rfl⟩:=fi q
 simp [gz, *]
 (focus repeat' first|refine ga ?_|(refine gb ?_;try simp[gz, *])|refine gk fun _ _=>?_)
 exact hR.out _ _ _ o12.fin
 try simp only[et d1,d1,Z]at q
 simp [gz, *]
 (focus repeat' first|refine ga ?_|(refine gb ?_;try simp[gz, *])|refine gk fun _ _=>?_)
 refine awp_region_quiet follows (by kernel_rfl) ?_; simp [gz, *]
 (focus repeat' first|refine ga ?_|(refine gb ?_;try simp[gz, *])|refine gk fun _ _=>?_)
 have hlt2 := o.good.rd.top
 have hM : min (S.idx + 1) (T.length - 1) < T.length := by have := hg.rd.ne; omega
 obtain ⟨M, hMM⟩ : ∃ x, min (S.idx + 1) (T.length - 1) = x := ⟨_, rfl⟩
 rw [hMM] at hM
 obtain ⟨mt, hmt⟩ : ∃ x, T[M]? = some x := ⟨_, List.getElem?_eq_getElem hM⟩
 have hmt2 := (List.getElem?_eq_some_iff.1 hmt).2
 have hmt3 : T.getD M default = mt := by simp [List.getD, hmt]
 have hMi : min ((S.idx : Int) + 1) ((T.length : Int) - 1) = (M : Int) := by have := hg.rd.ne; omega
 try simp only[hMM,hmt3,Z]at q
 have wM := o.good.rd.w1
 refine awp_region_quiet follows (by kernel_rfl) ?_; simp [gz, *]
 (focus repeat' first|refine ga ?_|(refine gb ?_;try simp[gz, *])|refine gk fun _ _=>?_)
 obtain ⟨l3,S11,h3,q⟩:=bo2 q
 refine o.call (ih _ _ (by omega)) h3 fun k12 u11 u12 v6 e11 o13 r13=>?_
 try simp only[e11,Z]at q
 clear o r1 h3
 simp [gz, *]
 (focus repeat' first|refine ga ?_|(refine gb ?_;try simp[gz, *])|refine gk fun _ _=>?_)
 refine o13.add 27 at_ mt.text 0 [v6] (fun k13 u13 u14 v7 S12 e12 o14 r14=>?_)
 try simp only[e12,Z]at q
 clear o13 r13 e12 e11
 obtain ⟨rfl,rfl⟩:=fi q
 simp [gz, *]
 (focus repeat' first|refine ga ?_|(refine gb ?_;try simp[gz, *])|refine gk fun _ _=>?_)
 exact hR.out _ _ _ o14.fin
end Go.Proofs.YtcbgpjlcfkkdlaaGreatDoor

namespace Go.Proofs.YtcbgpjlcfkkdlaaGreatDoor
open Go Go.AL Go.Proofs
theorem control_w (T : List Tk) (tt : Tok) (n : Nat) (t : Tk) (ih : ∀ m op, m ≤ n → Meth T tt m op) : Meth T tt (n + 1) (.control t) := by
 refine Meth.of fun S l S' q r t1 t2 B h o R hR=>?_
 simp only[run,Z]at q
 refine acalls_of Tryz.func79 rfl Tryz.ntmps79 (congrArg Array.toList Tryz.results79) fun Q hQ => ?_
 have r1:=o.own.blk
 (focus repeat' first|refine ga ?_|(refine gb ?_;try simp[gz, *])|refine gk fun _ _=>?_)
 intro b3 zb3
 obtain ⟨n_r_b3,n_b3_r⟩:=o.ne zb3
 have yb3:=o.y zb3
 have o1:=o.new zb3 (.cells (tkRow t))
 clear o zb3
 try simp [gz, *]
 cases d1:decide (t.text = [105, 102])
 try simp only[ef d1,d1,Z]at q
 cases d2:decide (t.text = [119, 104, 105, 108, 101])
 try simp only[ef d2,d2,Z]at q
 cases d3:decide (t.text = [100, 111])
 try simp only[ef d3,d3,Z]at q
 cases d4:decide (t.text = [102, 111, 114])
 try simp only[ef d4,d4,Z]at q
 cases d5:decide (t.text = [102, 111, 114, 101, 97, 99, 104])
 try simp only[ef d5,d5,Z]at q
 cases d6:decide (t.text = [115, 119, 105, 116, 99, 104])
 try simp only[ef d6,d6,Z]at q
 (focus repeat' first|refine ga ?_|(refine gb ?_;try simp[gz, *])|refine gk fun _ _=>?_)
 refine o1.settle fun k1 o2 r2=>?_
 have p1:=o2.b1
 clear o1 r1
 obtain ⟨l1,S1,h1,q⟩:=bo2 q
 refine o2.call (ih _ _ (by omega)) h1 fun k2 u1 u2 v1 e1 o3 r3=>?_
 try simp only[e1,Z]at q
 have p2:=o3.b1
 clear o2 r2 p1 h1
 simp [gz, *]
 (focus repeat' first|refine ga ?_|(refine gb ?_;try simp[gz, *])|refine gk fun _ _=>?_)
 refine o3.must [99, 97, 116, 99, 104] fun k3 S2 e2 o4 r4=>?_
 try simp only[e2,Z]at q
 have p3:=o4.b1
 clear o3 r3 p2 e2
 simp [gz, *]
 (focus repeat' first|refine ga ?_|(refine gb ?_;try simp[gz, *])|refine gk fun _ _=>?_)
 refine o4.must [40] fun k4 S3 e3 o5 r5=>?_
 try simp only[e3,Z]at q
 have p4:=o5.b1
 clear o4 r4 p3 e3
 simp [gz, *]
 (focus repeat' first|refine ga ?_|(refine gb ?_;try simp[gz, *])|refine gk fun _ _=>?_)
 refine o5.name fun k5 x1 S4 e4 o6 r6=>?_
 try simp only[e4,Z]at q
 have p5:=o6.b1
 clear o5 r5 p4 e4
 simp [gz, *]
 (focus repeat' first|refine ga ?_|(refine gb ?_;try simp[gz, *])|refine gk fun _ _=>?_)
 refine o6.must [41] fun k6 S5 e5 o7 r7=>?_
 try simp only[e5,Z]at q
 have p6:=o7.b1
 clear o6 r6 p5 e5
 simp [gz, *]
 (focus repeat' first|refine ga ?_|(refine gb ?_;try simp[gz, *])|refine gk fun _ _=>?_)
 obtain ⟨l2,S6,h2,q⟩:=bo2 q
 refine o7.call (ih _ _ (by omega)) h2 fun k7 u3 u4 v2 e6 o8 r8=>?_
 try simp only[e6,Z]at q
 have p7:=o8.b1
 clear o7 r7 p6 h2 e1
 simp [gz, *]
 (focus repeat' first|refine ga ?_|(refine gb ?_;try simp[gz, *])|refine gk fun _ _=>?_)
 refine o8.add 40 t.pos x1 0 [v1, v2] (fun k8 u5 u6 v3 S7 e7 o9 r9=>?_)
 try simp only[e7,Z]at q
 have p8:=o9.b1
 clear o8 r8 p7 e7 e6
 obtain ⟨rfl,rfl⟩:=fi q
 simp [gz, *]
 (focus repeat' first|refine ga ?_|(refine gb ?_;try simp[gz, *])|refine gk fun _ _=>?_)
 exact hR.out _ _ _ o9.fin
 try simp only[et d6,d6,Z]at q
 (focus repeat' first|refine ga ?_|(refine gb ?_;try simp[gz, *])|refine gk fun _ _=>?_)
 refine o1.settle fun k9 o10 r10=>?_
 have p9:=o10.b1
 clear o1 r1
 refine o10.tail (ih _ _ (by omega)) q fun k10 u7 u8 o11 r11=>?_
 have p10:=o11.b1
 clear o10 r10 p9
 simp [gz, *]
 (focus repeat' first|refine ga ?_|(refine gb ?_;try simp[gz, *])|refine gk fun _ _=>?_)
 exact hR.out _ _ _ o11.fin
 try simp only[et d5,d5,Z]at q
 (focus repeat' first|refine ga ?_|(refine gb ?_;try simp[gz, *])|refine gk fun _ _=>?_)
 refine o1.settle fun k11 o12 r12=>?_
 have p11:=o12.b1
 clear o1 r1
 refine o12.tail (ih _ _ (by omega)) q fun k12 u9 u10 o13 r13=>?_
 have p12:=o13.b1
 clear o12 r12 p11
 simp [gz, *]
 (focus repeat' first|refine ga ?_|(refine gb ?_;try simp[gz, *])|refine gk fun _ _=>?_)
 exact hR.out _ _ _ o13.fin
 try simp only[et d4,d4,Z]at q
 (focus repeat' first|refine ga ?_|(refine gb ?_;try simp[gz, *])|refine gk fun _ _=>?_)
 refine o1.settle fun k13 o14 r14=>?_
 have p13:=o14.b1
 clear o1 r1
 refine o14.tail (ih _ _ (by omega)) q fun k14 u11 u12 o15 r15=>?_
 have p14:=o15.b1
 clear o14 r14 p13
 simp [gz, *]
 (focus repeat' first|refine ga ?_|(refine gb ?_;try simp[gz, *])|refine gk fun _ _=>?_)
 exact hR.out _ _ _ o15.fin
 try simp only[et d3,d3,Z]at q
 (focus repeat' first|refine ga ?_|(refine gb ?_;try simp[gz, *])|refine gk fun _ _=>?_)
 refine o1.settle fun k15 o16 r16=>?_
 have p15:=o16.b1
 clear o1 r1
 obtain ⟨l3,S8,h3,q⟩:=bo2 q
 refine o16.call (ih _ _ (by omega)) h3 fun k16 u13 u14 v4 e8 o17 r17=>?_
 try simp only[e8,Z]at q
 have p16:=o17.b1
 clear o16 r16 p15 h3
 simp [gz, *]
 (focus repeat' first|refine ga ?_|(refine gb ?_;try simp[gz, *])|refine gk fun _ _=>?_)
 refine o17.must [119, 104, 105, 108, 101] fun k17 S9 e9 o18 r18=>?_
 try simp only[e9,Z]at q
 have p17:=o18.b1
 clear o17 r17 p16 e9
 simp [gz, *]
 (focus repeat' first|refine ga ?_|(refine gb ?_;try simp[gz, *])|refine gk fun _ _=>?_)
 obtain ⟨l4,S10,h4,q⟩:=bo2 q
 refine o18.call (ih _ _ (by omega)) h4 fun k18 u15 u16 v5 e10 o19 r19=>?_
 try simp only[e10,Z]at q
 have p18:=o19.b1
 clear o18 r18 p17 h4 e8
 simp [gz, *]
 (focus repeat' first|refine ga ?_|(refine gb ?_;try simp[gz, *])|refine gk fun _ _=>?_)
 refine o19.add 31 t.pos [] 0 [v4, v5] (fun k19 u17 u18 v6 S11 e11 o20 r20=>?_)
 try simp only[e11,Z]at q
 have p19:=o20.b1
 clear o19 r19 p18 e11 e10
 simp [gz, *]
 (focus repeat' first|refine ga ?_|(refine gb ?_;try simp[gz, *])|refine gk fun _ _=>?_)
 refine o20.fend fun k20 S12 e12 o21 r21=>?_
 try simp only[e12,Z]at q
 have p20:=o21.b1
 clear o20 r20 p19 e12
 obtain ⟨rfl,rfl⟩:=fi q
 simp [gz, *]
 (focus repeat' first|refine ga ?_|(refine gb ?_;try simp[gz, *])|refine gk fun _ _=>?_)
 exact hR.out _ _ _ o21.fin
 try simp only[et d2,d2,Z]at q
 (focus repeat' first|refine ga ?_|(refine gb ?_;try simp[gz, *])|refine gk fun _ _=>?_)
 refine o1.settle fun k21 o22 r22=>?_
 have p21:=o22.b1
 clear o1 r1
 obtain ⟨l5,S13,h5,q⟩:=bo2 q
 refine o22.call (ih _ _ (by omega)) h5 fun k22 u19 u20 v7 e13 o23 r23=>?_
 try simp only[e13,Z]at q
 have p22:=o23.b1
 clear o22 r22 p21 h5
 simp [gz, *]
 (focus repeat' first|refine ga ?_|(refine gb ?_;try simp[gz, *])|refine gk fun _ _=>?_)
 obtain ⟨l6,S14,h6,q⟩:=bo2 q
 refine o23.call (ih _ _ (by omega)) h6 fun k23 u21 u22 v8 e14 o24 r24=>?_
 try simp only[e14,Z]at q
 have p23:=o24.b1
 clear o23 r23 p22 h6 e13
 simp [gz, *]
 (focus repeat' first|refine ga ?_|(refine gb ?_;try simp[gz, *])|refine gk fun _ _=>?_)
 refine o24.add 30 t.pos [] 0 [v7, v8] (fun k24 u23 u24 v9 S15 e15 o25 r25=>?_)
 try simp only[e15,Z]at q
 have p24:=o25.b1
 clear o24 r24 p23 e15 e14
 obtain ⟨rfl,rfl⟩:=fi q
 simp [gz, *]
 (focus repeat' first|refine ga ?_|(refine gb ?_;try simp[gz, *])|refine gk fun _ _=>?_)
 exact hR.out _ _ _ o25.fin
 try simp only[et d1,d1,Z]at q
 (focus repeat' first|refine ga ?_|(refine gb ?_;try simp[gz, *])|refine gk fun _ _=>?_)
 refine o1.settle fun k25 o26 r26=>?_
 have p25:=o26.b1
 clear o1 r1
 obtain ⟨l7,S16,h7,q⟩:=bo2 q
 refine o26.call (ih _ _ (by omega)) h7 fun k26 u25 u26 v10 e16 o27 r27=>?_
 try simp only[e16,Z]at q
 have p26:=o27.b1
 clear o26 r26 p25 h7
 simp [gz, *]
 (focus repeat' first|refine ga ?_|(refine gb ?_;try simp[gz, *])|refine gk fun _ _=>?_)
 obtain ⟨l8,S17,h8,q⟩:=bo2 q
 refine o27.call (ih _ _ (by omega)) h8 fun k27 u27 u28 v11 e17 o28 r28=>?_
 try simp only[e17,Z]at q
 have p27:=o28.b1
 clear o27 r27 p26 h8 e16
 simp [gz, *]
 (focus repeat' first|refine ga ?_|(refine gb ?_;try simp[gz, *])|refine gk fun _ _=>?_)
 refine o28.eat [101, 108, 115, 101] (fun c1 k28 o29 r29=>?_) fun c1 k28 S18 e18 z1 o29 r29=>?_
 try simp only[c1,Z]at q
 have p28:=o29.b1
 clear o28 r28 p27 c1
 simp [gz, *]
 (focus repeat' first|refine ga ?_|(refine gb ?_;try simp[gz, *])|refine gk fun _ _=>?_)
 refine o29.add 29 t.pos [] 0 [v10, v11, -1] (fun k29 u29 u30 v12 S19 e19 o30 r30=>?_)
 try simp only[e19,Z]at q
 have p29:=o30.b1
 clear o29 r29 p28 e19 e17
 obtain ⟨rfl,rfl⟩:=fi q
 simp [gz, *]
 (focus repeat' first|refine ga ?_|(refine gb ?_;try simp[gz, *])|refine gk fun _ _=>?_)
 exact hR.out _ _ _ o30.fin
 try simp only[c1,e18,Z]at q
 have p30:=o29.b1
 clear o28 r28 p27 e18 c1
 obtain ⟨u,ht_u⟩:∃ x,Sh (peekL T S18=x):=⟨_,⟨rfl⟩⟩
 try simp only[ht_u.out,Z]at q
 simp [gz, *]
 (focus repeat' first|refine ga ?_|(refine gb ?_;try simp[gz, *])|refine gk fun _ _=>?_)
 refine o29.peek ht_u ?_
 simp [gz, *]
 intro b5 zb5
 obtain ⟨n_r_b5,n_b5_r⟩:=o29.ne zb5
 obtain ⟨n_b3_b5,n_b5_b3⟩:=ne2 p30 zb5
 have yb5:=o29.y zb5
 have o31:=o29.new zb5 (.cells (tkRow u))
 clear o29 zb5
 try simp [gz, *]
 (focus repeat' first|refine ga ?_|(refine gb ?_;try simp[gz, *])|refine gk fun _ _=>?_)
 refine o31.settle fun k30 o32 r31=>?_
 have p31:=o32.b1
 have p32:=o32.b2 n_b3_b5
 clear o31 r29 p30
 refine o32.eat [105, 102] (fun c2 k31 o33 r32=>?_) fun c2 k31 S20 e20 z2 o33 r32=>?_
 try simp only[c2,Z]at q
 have p33:=o33.b1
 have p34:=o33.b2 n_b3_b5
 clear o32 r31 p31 p32 c2
 simp [gz, *]
 (focus repeat' first|refine ga ?_|(refine gb ?_;try simp[gz, *])|refine gk fun _ _=>?_)
 obtain ⟨l9,S21,h9,q⟩:=bo2 q
 refine o33.call (ih _ _ (by omega)) h9 fun k32 u31 u32 v13 e21 o34 r33=>?_
 try simp only[e21,Z]at q
 have p35:=o34.b1
 have p36:=o34.b2 n_b3_b5
 clear o33 r32 p33 p34 h9 e17
 simp [gz, *]
 (focus repeat' first|refine ga ?_|(refine gb ?_;try simp[gz, *])|refine gk fun _ _=>?_)
 refine o34.add 29 t.pos [] 0 [v10, v11, v13] (fun k33 u33 u34 v14 S22 e22 o35 r34=>?_)
 try simp only[e22,Z]at q
 have p37:=o35.b1
 have p38:=o35.b2 n_b3_b5
 clear o34 r33 p35 p36 e22 e21
 obtain ⟨rfl,rfl⟩:=fi q
 simp [gz, *]
 (focus repeat' first|refine ga ?_|(refine gb ?_;try simp[gz, *])|refine gk fun _ _=>?_)
 exact hR.out _ _ _ o35.fin
 try simp only[c2,e20,Z]at q
 have p39:=o33.b1
 have p40:=o33.b2 n_b3_b5
 clear o32 r31 p31 p32 e20 c2
 simp [gz, *]
 (focus repeat' first|refine ga ?_|(refine gb ?_;try simp[gz, *])|refine gk fun _ _=>?_)
 refine o33.down fun k34 S23 e23 o36 r35=>?_
 try simp only[e23,Z]at q
 have p41:=o36.b1
 have p42:=o36.b2 n_b3_b5
 clear o33 r32 p39 p40 e23
 simp [gz, *]
 (focus repeat' first|refine ga ?_|(refine gb ?_;try simp[gz, *])|refine gk fun _ _=>?_)
 obtain ⟨l10,S24,h10,q⟩:=bo2 q
 refine o36.call (ih _ _ (by omega)) h10 fun k35 u35 u36 v15 e24 o37 r36=>?_
 try simp only[e24,Z]at q
 have p43:=o37.b1
 have p44:=o37.b2 n_b3_b5
 clear o36 r35 p41 p42 h10 e17
 simp [gz, *]
 (focus repeat' first|refine ga ?_|(refine gb ?_;try simp[gz, *])|refine gk fun _ _=>?_)
 refine o37.up fun k36 S25 e25 o38 r37=>?_
 try simp only[e25,Z]at q
 have p45:=o38.b1
 have p46:=o38.b2 n_b3_b5
 clear o37 r36 p43 p44 e25
 simp [gz, *]
 (focus repeat' first|refine ga ?_|(refine gb ?_;try simp[gz, *])|refine gk fun _ _=>?_)
 refine o38.add 29 t.pos [] 0 [v10, v11, v15] (fun k37 u37 u38 v16 S26 e26 o39 r38=>?_)
 try simp only[e26,Z]at q
 have p47:=o39.b1
 have p48:=o39.b2 n_b3_b5
 clear o38 r37 p45 p46 e26 e24
 obtain ⟨rfl,rfl⟩:=fi q
 simp [gz, *]
 (focus repeat' first|refine ga ?_|(refine gb ?_;try simp[gz, *])|refine gk fun _ _=>?_)
 exact hR.out _ _ _ o39.fin
end Go.Proofs.YtcbgpjlcfkkdlaaGreatDoor

