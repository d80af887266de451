import Derived.Test.YtcbgpjlcfkkdlaaGreatDoorUAX
set_option linter.unusedSimpArgs false
set_option linter.unusedVariables false
set_option maxRecDepth 100000
set_option maxHeartbeats 16000000
namespace Go.Proofs.YtcbgpjlcfkkdlaaGreatDoor
open Go Go.AL Go.Proofs
theorem foreach_w (T : List Tk) (tt : Tok) (n : Nat) (hs : Short T) (at_ : Int) (ih : ∀ m op, m ≤ n → Meth T tt m op) : Meth T tt (n + 1) (.foreach at_) := by
 refine Meth.of fun S l S' q r t1 t2 B h o R hR=>?_
 simp only[run,Z]at q
 replace hs := Shut.mk hs
 refine acalls_of Tryz.func118 rfl Tryz.ntmps118 (congrArg Array.toList Tryz.results118) fun Q hQ => ?_
 have r1:=o.own.blk
 (focus repeat' first|refine ga ?_|(refine gb ?_;try simp[gz, *])|refine gk fun _ _=>?_)
 refine o.must [40] fun k1 S1 e1 o1 r2=>?_
 try simp only[e1,Z]at q
 clear o r1 e1
 simp [gz, *]
 (focus repeat' first|refine ga ?_|(refine gb ?_;try simp[gz, *])|refine gk fun _ _=>?_)
 refine o1.name fun k2 x1 S2 e2 o2 r3=>?_
 try simp only[e2,Z]at q
 have lx1:=nlen hs.out e2
 clear o1 r2 e2
 simp [gz, *]
 (focus repeat' first|refine ga ?_|(refine gb ?_;try simp[gz, *])|refine gk fun _ _=>?_)
 refine o2.eat [44] (fun c1 k3 o3 r4=>?_) fun c1 k3 S3 e3 z1 o3 r4=>?_
 try simp only[c1,Z]at q
 clear o2 r3 c1
 cases d1 : decide (x1 = [])
 have d1P := of_decide_eq_false d1
 try simp only[eq_false (fun e : [] = x1 => d1P e.symm),d1,Z]at q
 clear d1P
 simp [gz, *]
 (focus repeat' first|refine ga ?_|(refine gb ?_;try simp[gz, *])|refine gk fun _ _=>?_)
 refine o3.must [105, 110] fun k4 S4 e4 o4 r5=>?_
 try simp only[e4,Z]at q
 clear o3 r4 e4
 simp [gz, *]
 (focus repeat' first|refine ga ?_|(refine gb ?_;try simp[gz, *])|refine gk fun _ _=>?_)
 obtain ⟨l1,S5,h1,q⟩:=bo2 q
 refine o4.call (ih _ _ (by omega)) h1 fun k5 u1 u2 v1 e5 o5 r6=>?_
 try simp only[e5,Z]at q
 clear o4 r5 h1
 simp [gz, *]
 (focus repeat' first|refine ga ?_|(refine gb ?_;try simp[gz, *])|refine gk fun _ _=>?_)
 refine o5.must [41] fun k6 S6 e6 o6 r7=>?_
 try simp only[e6,Z]at q
 clear o5 r6 e6
 simp [gz, *]
 (focus repeat' first|refine ga ?_|(refine gb ?_;try simp[gz, *])|refine gk fun _ _=>?_)
 obtain ⟨l2,S7,h2,q⟩:=bo2 q
 refine o6.call (ih _ _ (by omega)) h2 fun k7 u3 u4 v2 e7 o7 r8=>?_
 try simp only[e7,Z]at q
 clear o6 r7 h2 e5
 simp [gz, *]
 (focus repeat' first|refine ga ?_|(refine gb ?_;try simp[gz, *])|refine gk fun _ _=>?_)
 refine o7.add 33 at_ ([] ++ [9] ++ x1) 0 [v1, v2] (fun k8 u5 u6 v3 S8 e8 o8 r9=>?_)
 try simp only[e8,Z]at q
 clear o7 r8 e8 e7
 obtain ⟨rfl,rfl⟩:=fi q
 simp [gz, *]
 (focus repeat' first|refine ga ?_|(refine gb ?_;try simp[gz, *])|refine gk fun _ _=>?_)
 exact hR.out _ _ _ o8.fin
 have d1P := of_decide_eq_true d1
 clear d1
 simp only [d1P, if_true] at q
 obtain ⟨vv, hvv⟩ : ∃ x, x1 = x := ⟨_, rfl⟩
 simp [gz, *]
 (focus repeat' first|refine ga ?_|(refine gb ?_;try simp[gz, *])|refine gk fun _ _=>?_)
 refine o3.wrong 4 fun k9 S9 e9 o9 r10=>?_
 try simp only[e9,Z]at q
 clear o3 r4 e9
 simp [gz, *]
 (focus repeat' first|refine ga ?_|(refine gb ?_;try simp[gz, *])|refine gk fun _ _=>?_)
 refine o9.must [105, 110] fun k10 S10 e10 o10 r11=>?_
 try simp only[e10,Z]at q
 clear o9 r10 e10
 simp [gz, *]
 (focus repeat' first|refine ga ?_|(refine gb ?_;try simp[gz, *])|refine gk fun _ _=>?_)
 obtain ⟨l3,S11,h3,q⟩:=bo2 q
 refine o10.call (ih _ _ (by omega)) h3 fun k11 u7 u8 v4 e11 o11 r12=>?_
 try simp only[e11,Z]at q
 clear o10 r11 h3
 simp [gz, *]
 (focus repeat' first|refine ga ?_|(refine gb ?_;try simp[gz, *])|refine gk fun _ _=>?_)
 refine o11.must [41] fun k12 S12 e12 o12 r13=>?_
 try simp only[e12,Z]at q
 clear o11 r12 e12
 simp [gz, *]
 (focus repeat' first|refine ga ?_|(refine gb ?_;try simp[gz, *])|refine gk fun _ _=>?_)
 obtain ⟨l4,S13,h4,q⟩:=bo2 q
 refine o12.call (ih _ _ (by omega)) h4 fun k13 u9 u10 v5 e13 o13 r14=>?_
 try simp only[e13,Z]at q
 clear o12 r13 h4 e11
 simp [gz, *]
 (focus repeat' first|refine ga ?_|(refine gb ?_;try simp[gz, *])|refine gk fun _ _=>?_)
 refine o13.add 33 at_ ([] ++ [9] ++ []) 0 [v4, v5] (fun k14 u11 u12 v6 S14 e14 o14 r15=>?_)
 try simp only[e14,Z]at q
 clear o13 r14 e14 e13
 obtain ⟨rfl,rfl⟩:=fi q
 simp [gz, *]
 (focus repeat' first|refine ga ?_|(refine gb ?_;try simp[gz, *])|refine gk fun _ _=>?_)
 exact hR.out _ _ _ o14.fin
 try simp only[c1,e3,Z]at q
 clear o2 r3 e3 c1
 simp [gz, *]
 (focus repeat' first|refine ga ?_|(refine gb ?_;try simp[gz, *])|refine gk fun _ _=>?_)
 refine o3.name fun k15 x2 S15 e15 o15 r16=>?_
 try simp only[e15,Z]at q
 have lx2:=nlen hs.out e15
 clear o3 r4 e15
 cases d2:decide (x1 = x2)
 try simp only[ef d2,d2,Z]at q
 simp [gz, *]
 (focus repeat' first|refine ga ?_|(refine gb ?_;try simp[gz, *])|refine gk fun _ _=>?_)
 refine o15.must [105, 110] fun k16 S16 e16 o16 r17=>?_
 try simp only[e16,Z]at q
 clear o15 r16 e16
 simp [gz, *]
 (focus repeat' first|refine ga ?_|(refine gb ?_;try simp[gz, *])|refine gk fun _ _=>?_)
 obtain ⟨l5,S17,h5,q⟩:=bo2 q
 refine o16.call (ih _ _ (by omega)) h5 fun k17 u13 u14 v7 e17 o17 r18=>?_
 try simp only[e17,Z]at q
 clear o16 r17 h5
 simp [gz, *]
 (focus repeat' first|refine ga ?_|(refine gb ?_;try simp[gz, *])|refine gk fun _ _=>?_)
 refine o17.must [41] fun k18 S18 e18 o18 r19=>?_
 try simp only[e18,Z]at q
 clear o17 r18 e18
 simp [gz, *]
 (focus repeat' first|refine ga ?_|(refine gb ?_;try simp[gz, *])|refine gk fun _ _=>?_)
 obtain ⟨l6,S19,h6,q⟩:=bo2 q
 refine o18.call (ih _ _ (by omega)) h6 fun k19 u15 u16 v8 e19 o19 r20=>?_
 try simp only[e19,Z]at q
 clear o18 r19 h6 e17
 simp [gz, *]
 (focus repeat' first|refine ga ?_|(refine gb ?_;try simp[gz, *])|refine gk fun _ _=>?_)
 refine o19.add 33 at_ (x1 ++ [9] ++ x2) 0 [v7, v8] (fun k20 u17 u18 v9 S20 e20 o20 r21=>?_)
 try simp only[e20,Z]at q
 clear o19 r20 e20 e19
 obtain ⟨rfl,rfl⟩:=fi q
 simp [gz, *]
 (focus repeat' first|refine ga ?_|(refine gb ?_;try simp[gz, *])|refine gk fun _ _=>?_)
 exact hR.out _ _ _ o20.fin
 try simp only[et d2,d2,Z]at q
 simp [gz, *]
 (focus repeat' first|refine ga ?_|(refine gb ?_;try simp[gz, *])|refine gk fun _ _=>?_)
 refine o15.wrong 4 fun k21 S21 e21 o21 r22=>?_
 try simp only[e21,Z]at q
 clear o15 r16 e21
 simp [gz, *]
 (focus repeat' first|refine ga ?_|(refine gb ?_;try simp[gz, *])|refine gk fun _ _=>?_)
 refine o21.must [105, 110] fun k22 S22 e22 o22 r23=>?_
 try simp only[e22,Z]at q
 clear o21 r22 e22
 simp [gz, *]
 (focus repeat' first|refine ga ?_|(refine gb ?_;try simp[gz, *])|refine gk fun _ _=>?_)
 obtain ⟨l7,S23,h7,q⟩:=bo2 q
 refine o22.call (ih _ _ (by omega)) h7 fun k23 u19 u20 v10 e23 o23 r24=>?_
 try simp only[e23,Z]at q
 clear o22 r23 h7
 simp [gz, *]
 (focus repeat' first|refine ga ?_|(refine gb ?_;try simp[gz, *])|refine gk fun _ _=>?_)
 refine o23.must [41] fun k24 S24 e24 o24 r25=>?_
 try simp only[e24,Z]at q
 clear o23 r24 e24
 simp [gz, *]
 (focus repeat' first|refine ga ?_|(refine gb ?_;try simp[gz, *])|refine gk fun _ _=>?_)
 obtain ⟨l8,S25,h8,q⟩:=bo2 q
 refine o24.call (ih _ _ (by omega)) h8 fun k25 u21 u22 v11 e25 o25 r26=>?_
 try simp only[e25,Z]at q
 clear o24 r25 h8 e23
 simp [gz, *]
 (focus repeat' first|refine ga ?_|(refine gb ?_;try simp[gz, *])|refine gk fun _ _=>?_)
 refine o25.add 33 at_ (x1 ++ [9] ++ x2) 0 [v10, v11] (fun k26 u23 u24 v12 S26 e26 o26 r27=>?_)
 try simp only[e26,Z]at q
 clear o25 r26 e26 e25
 obtain ⟨rfl,rfl⟩:=fi q
 simp [gz, *]
 (focus repeat' first|refine ga ?_|(refine gb ?_;try simp[gz, *])|refine gk fun _ _=>?_)
 exact hR.out _ _ _ o26.fin
end Go.Proofs.YtcbgpjlcfkkdlaaGreatDoor

namespace Go.Proofs.YtcbgpjlcfkkdlaaGreatDoor
open Go Go.AL Go.Proofs
theorem loop_w (T : List Tk) (tt : Tok) (n : Nat) (at_ : Int) (ih : ∀ m op, m ≤ n → Meth T tt m op) : Meth T tt (n + 1) (.loop at_) := by
 refine Meth.of fun S l S' q r t1 t2 B h o R hR=>?_
 simp only[run,Z]at q
 refine acalls_of Tryz.func117 rfl Tryz.ntmps117 (congrArg Array.toList Tryz.results117) fun Q hQ => ?_
 have r1:=o.own.blk
 (focus repeat' first|refine ga ?_|(refine gb ?_;try simp[gz, *])|refine gk fun _ _=>?_)
 refine o.must [40] fun k1 S1 e1 o1 r2=>?_
 try simp only[e1,Z]at q
 clear o r1 e1
 obtain ⟨t,ht_t⟩:∃ x,Sh (peekL T S1=x):=⟨_,⟨rfl⟩⟩
 try simp only[ht_t.out,Z]at q
 simp [gz, *]
 (focus repeat' first|refine ga ?_|(refine gb ?_;try simp[gz, *])|refine gk fun _ _=>?_)
 refine o1.peek ht_t ?_
 simp [gz, *]
 intro b8 zb8
 obtain ⟨n_r_b8,n_b8_r⟩:=o1.ne zb8
 have yb8:=o1.y zb8
 have o2:=o1.new zb8 (.cells (tkRow t))
 clear o1 zb8
 try simp [gz, *]
 (focus repeat' first|refine ga ?_|(refine gb ?_;try simp[gz, *])|refine gk fun _ _=>?_)
 refine o2.settle fun k2 o3 r3=>?_
 have p1:=o3.b1
 clear o2 r2
 refine o3.eat [59] (fun c1 k3 o4 r4=>?_) fun c1 k3 S2 e2 z1 o4 r4=>?_
 try simp only[c1,Z]at q
 have p2:=o4.b1
 clear o3 r3 p1 c1
 simp [gz, *]
 (focus repeat' first|refine ga ?_|(refine gb ?_;try simp[gz, *])|refine gk fun _ _=>?_)
 refine o4.eat [108, 111, 99, 97, 108] (fun c2 k4 o5 r5=>?_) fun c2 k4 S3 e3 z2 o5 r5=>?_
 try simp only[c2,Z]at q
 have p3:=o5.b1
 clear o4 r4 p2 c2
 simp [gz, *]
 (focus repeat' first|refine ga ?_|(refine gb ?_;try simp[gz, *])|refine gk fun _ _=>?_)
 have o6:=(o5.minus yb8)
 refine awp_region_draw [b8] [(0,true),(1,true),(2,true),(3,true),(4,false),(5,false),(6,false)] [7] follows (by kernel_rfl) rfl (by kernel_rfl) ?_; simp [gz, *]
 clear o5
 (focus repeat' first|refine ga ?_|(refine gb ?_;try simp[gz, *])|refine gk fun _ _=>?_)
 obtain ⟨l1,S4,h1,q⟩:=bo2 q
 refine o6.call (ih _ _ (by omega)) h1 fun k5 u1 u2 v1 e4 o7 r6=>?_
 try simp only[e4,Z]at q
 clear o6 h1
 simp [gz, *]
 intro hn1
 rw [show (k5.plus [b8] k4).minus [b8]=k5 from minus_of_none (by simp[hn1])]
 clear hn1
 refine o7.add 28 t.pos [] 0 [v1] (fun k6 u3 u4 v2 S5 e5 o8 r7=>?_)
 try simp only[e5,Z]at q
 clear o7 r6 e5 e4
 simp [gz, *]
 intro hn2
 rw [show k6.plus [b8] (k5.plus [b8] k4)=_ from plus_one (x:=.cells (tkRow t)) (by simp[*])]
 have o9:=o8.new hn2 (.cells (tkRow t))
 clear o8 r5 p3
 (focus repeat' first|refine ga ?_|(refine gb ?_;try simp[gz, *])|refine gk fun _ _=>?_)
 refine o9.settle fun k7 o10 r8=>?_
 have p4:=o10.b1
 clear o9 r7
 refine o10.must [59] fun k8 S6 e6 o11 r9=>?_
 try simp only[e6,Z]at q
 have p5:=o11.b1
 clear o10 r8 p4 e6
 simp [gz, *]
 (focus repeat' first|refine ga ?_|(refine gb ?_;try simp[gz, *])|refine gk fun _ _=>?_)
 refine o11.eat [59] (fun c3 k9 o12 r10=>?_) fun c3 k9 S7 e7 z3 o12 r10=>?_
 try simp only[c3,Z]at q
 have p6:=o12.b1
 clear o11 r9 p5 c3
 simp [gz, *]
 (focus repeat' first|refine ga ?_|(refine gb ?_;try simp[gz, *])|refine gk fun _ _=>?_)
 obtain ⟨l2,S8,h2,q⟩:=bo2 q
 refine o12.call (ih _ _ (by omega)) h2 fun k10 u5 u6 v3 e8 o13 r11=>?_
 try simp only[e8,Z]at q
 have p7:=o13.b1
 clear o12 r10 p6 h2
 simp [gz, *]
 (focus repeat' first|refine ga ?_|(refine gb ?_;try simp[gz, *])|refine gk fun _ _=>?_)
 refine o13.must [59] fun k11 S9 e9 o14 r12=>?_
 try simp only[e9,Z]at q
 have p8:=o14.b1
 clear o13 r11 p7 e9
 simp [gz, *]
 (focus repeat' first|refine ga ?_|(refine gb ?_;try simp[gz, *])|refine gk fun _ _=>?_)
 cases c4:isL T [41] S9
 try simp only[c4,Z]at q
 refine o14.is [41] ?_
 simp [gz, *]
 (focus repeat' first|refine ga ?_|(refine gb ?_;try simp[gz, *])|refine gk fun _ _=>?_)
 obtain ⟨l3,S10,h3,q⟩:=bo2 q
 refine o14.call (ih _ _ (by omega)) h3 fun k12 u7 u8 v4 e10 o15 r13=>?_
 try simp only[e10,Z]at q
 have p9:=o15.b1
 clear o14 r12 p8 h3 e8
 simp [gz, *]
 (focus repeat' first|refine ga ?_|(refine gb ?_;try simp[gz, *])|refine gk fun _ _=>?_)
 refine o15.must [41] fun k13 S11 e11 o16 r14=>?_
 try simp only[e11,Z]at q
 have p10:=o16.b1
 clear o15 r13 p9 e11
 simp [gz, *]
 (focus repeat' first|refine ga ?_|(refine gb ?_;try simp[gz, *])|refine gk fun _ _=>?_)
 obtain ⟨l4,S12,h4,q⟩:=bo2 q
 refine o16.call (ih _ _ (by omega)) h4 fun k14 u9 u10 v5 e12 o17 r15=>?_
 try simp only[e12,Z]at q
 have p11:=o17.b1
 clear o16 r14 p10 h4 e10
 simp [gz, *]
 (focus repeat' first|refine ga ?_|(refine gb ?_;try simp[gz, *])|refine gk fun _ _=>?_)
 refine o17.add 32 at_ [] 0 [v2, v3, v4, v5] (fun k15 u11 u12 v6 S13 e13 o18 r16=>?_)
 try simp only[e13,Z]at q
 have p12:=o18.b1
 clear o17 r15 p11 e13 e12
 obtain ⟨rfl,rfl⟩:=fi q
 simp [gz, *]
 (focus repeat' first|refine ga ?_|(refine gb ?_;try simp[gz, *])|refine gk fun _ _=>?_)
 exact hR.out _ _ _ o18.fin
 try simp only[c4,Z]at q
 refine o14.is [41] ?_
 simp [gz, *]
 (focus repeat' first|refine ga ?_|(refine gb ?_;try simp[gz, *])|refine gk fun _ _=>?_)
 refine o14.must [41] fun k16 S14 e14 o19 r17=>?_
 try simp only[e14,Z]at q
 have p13:=o19.b1
 clear o14 r12 p8 e14
 simp [gz, *]
 (focus repeat' first|refine ga ?_|(refine gb ?_;try simp[gz, *])|refine gk fun _ _=>?_)
 obtain ⟨l5,S15,h5,q⟩:=bo2 q
 refine o19.call (ih _ _ (by omega)) h5 fun k17 u13 u14 v7 e15 o20 r18=>?_
 try simp only[e15,Z]at q
 have p14:=o20.b1
 clear o19 r17 p13 h5 e8
 simp [gz, *]
 (focus repeat' first|refine ga ?_|(refine gb ?_;try simp[gz, *])|refine gk fun _ _=>?_)
 refine o20.add 32 at_ [] 0 [v2, v3, -1, v7] (fun k18 u15 u16 v8 S16 e16 o21 r19=>?_)
 try simp only[e16,Z]at q
 have p15:=o21.b1
 clear o20 r18 p14 e16 e15
 obtain ⟨rfl,rfl⟩:=fi q
 simp [gz, *]
 (focus repeat' first|refine ga ?_|(refine gb ?_;try simp[gz, *])|refine gk fun _ _=>?_)
 exact hR.out _ _ _ o21.fin
 try simp only[c3,e7,Z]at q
 have p16:=o12.b1
 clear o11 r9 p5 e7 c3
 simp [gz, *]
 (focus repeat' first|refine ga ?_|(refine gb ?_;try simp[gz, *])|refine gk fun _ _=>?_)
 cases c5:isL T [41] S7
 try simp only[c5,Z]at q
 refine o12.is [41] ?_
 simp [gz, *]
 (focus repeat' first|refine ga ?_|(refine gb ?_;try simp[gz, *])|refine gk fun _ _=>?_)
 obtain ⟨l6,S17,h6,q⟩:=bo2 q
 refine o12.call (ih _ _ (by omega)) h6 fun k19 u17 u18 v9 e17 o22 r20=>?_
 try simp only[e17,Z]at q
 have p17:=o22.b1
 clear o12 r10 p16 h6
 simp [gz, *]
 (focus repeat' first|refine ga ?_|(refine gb ?_;try simp[gz, *])|refine gk fun _ _=>?_)
 refine o22.must [41] fun k20 S18 e18 o23 r21=>?_
 try simp only[e18,Z]at q
 have p18:=o23.b1
 clear o22 r20 p17 e18
 simp [gz, *]
 (focus repeat' first|refine ga ?_|(refine gb ?_;try simp[gz, *])|refine gk fun _ _=>?_)
 obtain ⟨l7,S19,h7,q⟩:=bo2 q
 refine o23.call (ih _ _ (by omega)) h7 fun k21 u19 u20 v10 e19 o24 r22=>?_
 try simp only[e19,Z]at q
 have p19:=o24.b1
 clear o23 r21 p18 h7 e17
 simp [gz, *]
 (focus repeat' first|refine ga ?_|(refine gb ?_;try simp[gz, *])|refine gk fun _ _=>?_)
 refine o24.add 32 at_ [] 0 [v2, -1, v9, v10] (fun k22 u21 u22 v11 S20 e20 o25 r23=>?_)
 try simp only[e20,Z]at q
 have p20:=o25.b1
 clear o24 r22 p19 e20 e19
 obtain ⟨rfl,rfl⟩:=fi q
 simp [gz, *]
 (focus repeat' first|refine ga ?_|(refine gb ?_;try simp[gz, *])|refine gk fun _ _=>?_)
 exact hR.out _ _ _ o25.fin
 try simp only[c5,Z]at q
 refine o12.is [41] ?_
 simp [gz, *]
 (focus repeat' first|refine ga ?_|(refine gb ?_;try simp[gz, *])|refine gk fun _ _=>?_)
 refine o12.must [41] fun k23 S21 e21 o26 r24=>?_
 try simp only[e21,Z]at q
 have p21:=o26.b1
 clear o12 r10 p16 e21
 simp [gz, *]
 (focus repeat' first|refine ga ?_|(refine gb ?_;try simp[gz, *])|refine gk fun _ _=>?_)
 obtain ⟨l8,S22,h8,q⟩:=bo2 q
 refine o26.call (ih _ _ (by omega)) h8 fun k24 u23 u24 v12 e22 o27 r25=>?_
 try simp only[e22,Z]at q
 have p22:=o27.b1
 clear o26 r24 p21 h8
 simp [gz, *]
 (focus repeat' first|refine ga ?_|(refine gb ?_;try simp[gz, *])|refine gk fun _ _=>?_)
 refine o27.add 32 at_ [] 0 [v2, -1, -1, v12] (fun k25 u25 u26 v13 S23 e23 o28 r26=>?_)
 try simp only[e23,Z]at q
 have p23:=o28.b1
 clear o27 r25 p22 e23 e22
 obtain ⟨rfl,rfl⟩:=fi q
 simp [gz, *]
 (focus repeat' first|refine ga ?_|(refine gb ?_;try simp[gz, *])|refine gk fun _ _=>?_)
 exact hR.out _ _ _ o28.fin
 try simp only[c2,e3,Z]at q
 have p24:=o5.b1
 clear o4 r4 p2 e3 c2
 simp [gz, *]
 (focus repeat' first|refine ga ?_|(refine gb ?_;try simp[gz, *])|refine gk fun _ _=>?_)
 refine o5.name fun k26 x1 S24 e24 o29 r27=>?_
 try simp only[e24,Z]at q
 have p25:=o29.b1
 clear o5 r5 p24 e24
 simp [gz, *]
 (focus repeat' first|refine ga ?_|(refine gb ?_;try simp[gz, *])|refine gk fun _ _=>?_)
 refine o29.eat [61] (fun c6 k27 o30 r28=>?_) fun c6 k27 S25 e25 z4 o30 r28=>?_
 try simp only[c6,Z]at q
 have p26:=o30.b1
 clear o29 r27 p25 c6
 simp [gz, *]
 (focus repeat' first|refine ga ?_|(refine gb ?_;try simp[gz, *])|refine gk fun _ _=>?_)
 refine o30.add 27 t.pos x1 0 [-1] (fun k28 u27 u28 v14 S26 e26 o31 r29=>?_)
 try simp only[e26,Z]at q
 have p27:=o31.b1
 clear o30 r28 p26 e26
 simp [gz, *]
 (focus repeat' first|refine ga ?_|(refine gb ?_;try simp[gz, *])|refine gk fun _ _=>?_)
 refine o31.must [59] fun k29 S27 e27 o32 r30=>?_
 try simp only[e27,Z]at q
 have p28:=o32.b1
 clear o31 r29 p27 e27
 simp [gz, *]
 (focus repeat' first|refine ga ?_|(refine gb ?_;try simp[gz, *])|refine gk fun _ _=>?_)
 refine o32.eat [59] (fun c7 k30 o33 r31=>?_) fun c7 k30 S28 e28 z5 o33 r31=>?_
 try simp only[c7,Z]at q
 have p29:=o33.b1
 clear o32 r30 p28 c7
 simp [gz, *]
 (focus repeat' first|refine ga ?_|(refine gb ?_;try simp[gz, *])|refine gk fun _ _=>?_)
 obtain ⟨l9,S29,h9,q⟩:=bo2 q
 refine o33.call (ih _ _ (by omega)) h9 fun k31 u29 u30 v15 e29 o34 r32=>?_
 try simp only[e29,Z]at q
 have p30:=o34.b1
 clear o33 r31 p29 h9
 simp [gz, *]
 (focus repeat' first|refine ga ?_|(refine gb ?_;try simp[gz, *])|refine gk fun _ _=>?_)
 refine o34.must [59] fun k32 S30 e30 o35 r33=>?_
 try simp only[e30,Z]at q
 have p31:=o35.b1
 clear o34 r32 p30 e30
 simp [gz, *]
 (focus repeat' first|refine ga ?_|(refine gb ?_;try simp[gz, *])|refine gk fun _ _=>?_)
 cases c8:isL T [41] S30
 try simp only[c8,Z]at q
 refine o35.is [41] ?_
 simp [gz, *]
 (focus repeat' first|refine ga ?_|(refine gb ?_;try simp[gz, *])|refine gk fun _ _=>?_)
 obtain ⟨l10,S31,h10,q⟩:=bo2 q
 refine o35.call (ih _ _ (by omega)) h10 fun k33 u31 u32 v16 e31 o36 r34=>?_
 try simp only[e31,Z]at q
 have p32:=o36.b1
 clear o35 r33 p31 h10 e29
 simp [gz, *]
 (focus repeat' first|refine ga ?_|(refine gb ?_;try simp[gz, *])|refine gk fun _ _=>?_)
 refine o36.must [41] fun k34 S32 e32 o37 r35=>?_
 try simp only[e32,Z]at q
 have p33:=o37.b1
 clear o36 r34 p32 e32
 simp [gz, *]
 (focus repeat' first|refine ga ?_|(refine gb ?_;try simp[gz, *])|refine gk fun _ _=>?_)
 obtain ⟨l11,S33,h11,q⟩:=bo2 q
 refine o37.call (ih _ _ (by omega)) h11 fun k35 u33 u34 v17 e33 o38 r36=>?_
 try simp only[e33,Z]at q
 have p34:=o38.b1
 clear o37 r35 p33 h11 e31
 simp [gz, *]
 (focus repeat' first|refine ga ?_|(refine gb ?_;try simp[gz, *])|refine gk fun _ _=>?_)
 refine o38.add 32 at_ [] 0 [v14, v15, v16, v17] (fun k36 u35 u36 v18 S34 e34 o39 r37=>?_)
 try simp only[e34,Z]at q
 have p35:=o39.b1
 clear o38 r36 p34 e34 e33
 obtain ⟨rfl,rfl⟩:=fi q
 simp [gz, *]
 (focus repeat' first|refine ga ?_|(refine gb ?_;try simp[gz, *])|refine gk fun _ _=>?_)
 exact hR.out _ _ _ o39.fin
 try simp only[c8,Z]at q
 refine o35.is [41] ?_
 simp [gz, *]
 (focus repeat' first|refine ga ?_|(refine gb ?_;try simp[gz, *])|refine gk fun _ _=>?_)
 refine o35.must [41] fun k37 S35 e35 o40 r38=>?_
 try simp only[e35,Z]at q
 have p36:=o40.b1
 clear o35 r33 p31 e35
 simp [gz, *]
 (focus repeat' first|refine ga ?_|(refine gb ?_;try simp[gz, *])|refine gk fun _ _=>?_)
 obtain ⟨l12,S36,h12,q⟩:=bo2 q
 refine o40.call (ih _ _ (by omega)) h12 fun k38 u37 u38 v19 e36 o41 r39=>?_
 try simp only[e36,Z]at q
 have p37:=o41.b1
 clear o40 r38 p36 h12 e29
 simp [gz, *]
 (focus repeat' first|refine ga ?_|(refine gb ?_;try simp[gz, *])|refine gk fun _ _=>?_)
 refine o41.add 32 at_ [] 0 [v14, v15, -1, v19] (fun k39 u39 u40 v20 S37 e37 o42 r40=>?_)
 try simp only[e37,Z]at q
 have p38:=o42.b1
 clear o41 r39 p37 e37 e36
 obtain ⟨rfl,rfl⟩:=fi q
 simp [gz, *]
 (focus repeat' first|refine ga ?_|(refine gb ?_;try simp[gz, *])|refine gk fun _ _=>?_)
 exact hR.out _ _ _ o42.fin
 try simp only[c7,e28,Z]at q
 have p39:=o33.b1
 clear o32 r30 p28 e28 c7
 simp [gz, *]
 (focus repeat' first|refine ga ?_|(refine gb ?_;try simp[gz, *])|refine gk fun _ _=>?_)
 cases c9:isL T [41] S28
 try simp only[c9,Z]at q
 refine o33.is [41] ?_
 simp [gz, *]
 (focus repeat' first|refine ga ?_|(refine gb ?_;try simp[gz, *])|refine gk fun _ _=>?_)
 obtain ⟨l13,S38,h13,q⟩:=bo2 q
 refine o33.call (ih _ _ (by omega)) h13 fun k40 u41 u42 v21 e38 o43 r41=>?_
 try simp only[e38,Z]at q
 have p40:=o43.b1
 clear o33 r31 p39 h13
 simp [gz, *]
 (focus repeat' first|refine ga ?_|(refine gb ?_;try simp[gz, *])|refine gk fun _ _=>?_)
 refine o43.must [41] fun k41 S39 e39 o44 r42=>?_
 try simp only[e39,Z]at q
 have p41:=o44.b1
 clear o43 r41 p40 e39
 simp [gz, *]
 (focus repeat' first|refine ga ?_|(refine gb ?_;try simp[gz, *])|refine gk fun _ _=>?_)
 obtain ⟨l14,S40,h14,q⟩:=bo2 q
 refine o44.call (ih _ _ (by omega)) h14 fun k42 u43 u44 v22 e40 o45 r43=>?_
 try simp only[e40,Z]at q
 have p42:=o45.b1
 clear o44 r42 p41 h14 e38
 simp [gz, *]
 (focus repeat' first|refine ga ?_|(refine gb ?_;try simp[gz, *])|refine gk fun _ _=>?_)
 refine o45.add 32 at_ [] 0 [v14, -1, v21, v22] (fun k43 u45 u46 v23 S41 e41 o46 r44=>?_)
 try simp only[e41,Z]at q
 have p43:=o46.b1
 clear o45 r43 p42 e41 e40
 obtain ⟨rfl,rfl⟩:=fi q
 simp [gz, *]
 (focus repeat' first|refine ga ?_|(refine gb ?_;try simp[gz, *])|refine gk fun _ _=>?_)
 exact hR.out _ _ _ o46.fin
 try simp only[c9,Z]at q
 refine o33.is [41] ?_
 simp [gz, *]
 (focus repeat' first|refine ga ?_|(refine gb ?_;try simp[gz, *])|refine gk fun _ _=>?_)
 refine o33.must [41] fun k44 S42 e42 o47 r45=>?_
 try simp only[e42,Z]at q
 have p44:=o47.b1
 clear o33 r31 p39 e42
 simp [gz, *]
 (focus repeat' first|refine ga ?_|(refine gb ?_;try simp[gz, *])|refine gk fun _ _=>?_)
 obtain ⟨l15,S43,h15,q⟩:=bo2 q
 refine o47.call (ih _ _ (by omega)) h15 fun k45 u47 u48 v24 e43 o48 r46=>?_
 try simp only[e43,Z]at q
 have p45:=o48.b1
 clear o47 r45 p44 h15
 simp [gz, *]
 (focus repeat' first|refine ga ?_|(refine gb ?_;try simp[gz, *])|refine gk fun _ _=>?_)
 refine o48.add 32 at_ [] 0 [v14, -1, -1, v24] (fun k46 u49 u50 v25 S44 e44 o49 r47=>?_)
 try simp only[e44,Z]at q
 have p46:=o49.b1
 clear o48 r46 p45 e44 e43
 obtain ⟨rfl,rfl⟩:=fi q
 simp [gz, *]
 (focus repeat' first|refine ga ?_|(refine gb ?_;try simp[gz, *])|refine gk fun _ _=>?_)
 exact hR.out _ _ _ o49.fin
 try simp only[c6,e25,Z]at q
 have p47:=o30.b1
 clear o29 r27 p25 e25 c6
 simp [gz, *]
 (focus repeat' first|refine ga ?_|(refine gb ?_;try simp[gz, *])|refine gk fun _ _=>?_)
 obtain ⟨l16,S45,h16,q⟩:=bo2 q
 refine o30.call (ih _ _ (by omega)) h16 fun k47 u51 u52 v26 e45 o50 r48=>?_
 try simp only[e45,Z]at q
 have p48:=o50.b1
 clear o30 r28 p47 h16
 simp [gz, *]
 (focus repeat' first|refine ga ?_|(refine gb ?_;try simp[gz, *])|refine gk fun _ _=>?_)
 refine o50.add 27 t.pos x1 0 [v26] (fun k48 u53 u54 v27 S46 e46 o51 r49=>?_)
 try simp only[e46,Z]at q
 have p49:=o51.b1
 clear o50 r48 p48 e46 e45
 simp [gz, *]
 (focus repeat' first|refine ga ?_|(refine gb ?_;try simp[gz, *])|refine gk fun _ _=>?_)
 refine o51.must [59] fun k49 S47 e47 o52 r50=>?_
 try simp only[e47,Z]at q
 have p50:=o52.b1
 clear o51 r49 p49 e47
 simp [gz, *]
 (focus repeat' first|refine ga ?_|(refine gb ?_;try simp[gz, *])|refine gk fun _ _=>?_)
 refine o52.eat [59] (fun c10 k50 o53 r51=>?_) fun c10 k50 S48 e48 z6 o53 r51=>?_
 try simp only[c10,Z]at q
 have p51:=o53.b1
 clear o52 r50 p50 c10
 simp [gz, *]
 (focus repeat' first|refine ga ?_|(refine gb ?_;try simp[gz, *])|refine gk fun _ _=>?_)
 obtain ⟨l17,S49,h17,q⟩:=bo2 q
 refine o53.call (ih _ _ (by omega)) h17 fun k51 u55 u56 v28 e49 o54 r52=>?_
 try simp only[e49,Z]at q
 have p52:=o54.b1
 clear o53 r51 p51 h17
 simp [gz, *]
 (focus repeat' first|refine ga ?_|(refine gb ?_;try simp[gz, *])|refine gk fun _ _=>?_)
 refine o54.must [59] fun k52 S50 e50 o55 r53=>?_
 try simp only[e50,Z]at q
 have p53:=o55.b1
 clear o54 r52 p52 e50
 simp [gz, *]
 (focus repeat' first|refine ga ?_|(refine gb ?_;try simp[gz, *])|refine gk fun _ _=>?_)
 cases c11:isL T [41] S50
 try simp only[c11,Z]at q
 refine o55.is [41] ?_
 simp [gz, *]
 (focus repeat' first|refine ga ?_|(refine gb ?_;try simp[gz, *])|refine gk fun _ _=>?_)
 obtain ⟨l18,S51,h18,q⟩:=bo2 q
 refine o55.call (ih _ _ (by omega)) h18 fun k53 u57 u58 v29 e51 o56 r54=>?_
 try simp only[e51,Z]at q
 have p54:=o56.b1
 clear o55 r53 p53 h18 e49
 simp [gz, *]
 (focus repeat' first|refine ga ?_|(refine gb ?_;try simp[gz, *])|refine gk fun _ _=>?_)
 refine o56.must [41] fun k54 S52 e52 o57 r55=>?_
 try simp only[e52,Z]at q
 have p55:=o57.b1
 clear o56 r54 p54 e52
 simp [gz, *]
 (focus repeat' first|refine ga ?_|(refine gb ?_;try simp[gz, *])|refine gk fun _ _=>?_)
 obtain ⟨l19,S53,h19,q⟩:=bo2 q
 refine o57.call (ih _ _ (by omega)) h19 fun k55 u59 u60 v30 e53 o58 r56=>?_
 try simp only[e53,Z]at q
 have p56:=o58.b1
 clear o57 r55 p55 h19 e51
 simp [gz, *]
 (focus repeat' first|refine ga ?_|(refine gb ?_;try simp[gz, *])|refine gk fun _ _=>?_)
 refine o58.add 32 at_ [] 0 [v27, v28, v29, v30] (fun k56 u61 u62 v31 S54 e54 o59 r57=>?_)
 try simp only[e54,Z]at q
 have p57:=o59.b1
 clear o58 r56 p56 e54 e53
 obtain ⟨rfl,rfl⟩:=fi q
 simp [gz, *]
 (focus repeat' first|refine ga ?_|(refine gb ?_;try simp[gz, *])|refine gk fun _ _=>?_)
 exact hR.out _ _ _ o59.fin
 try simp only[c11,Z]at q
 refine o55.is [41] ?_
 simp [gz, *]
 (focus repeat' first|refine ga ?_|(refine gb ?_;try simp[gz, *])|refine gk fun _ _=>?_)
 refine o55.must [41] fun k57 S55 e55 o60 r58=>?_
 try simp only[e55,Z]at q
 have p58:=o60.b1
 clear o55 r53 p53 e55
 simp [gz, *]
 (focus repeat' first|refine ga ?_|(refine gb ?_;try simp[gz, *])|refine gk fun _ _=>?_)
 obtain ⟨l20,S56,h20,q⟩:=bo2 q
 refine o60.call (ih _ _ (by omega)) h20 fun k58 u63 u64 v32 e56 o61 r59=>?_
 try simp only[e56,Z]at q
 have p59:=o61.b1
 clear o60 r58 p58 h20 e49
 simp [gz, *]
 (focus repeat' first|refine ga ?_|(refine gb ?_;try simp[gz, *])|refine gk fun _ _=>?_)
 refine o61.add 32 at_ [] 0 [v27, v28, -1, v32] (fun k59 u65 u66 v33 S57 e57 o62 r60=>?_)
 try simp only[e57,Z]at q
 have p60:=o62.b1
 clear o61 r59 p59 e57 e56
 obtain ⟨rfl,rfl⟩:=fi q
 simp [gz, *]
 (focus repeat' first|refine ga ?_|(refine gb ?_;try simp[gz, *])|refine gk fun _ _=>?_)
 exact hR.out _ _ _ o62.fin
 try simp only[c10,e48,Z]at q
 have p61:=o53.b1
 clear o52 r50 p50 e48 c10
 simp [gz, *]
 (focus repeat' first|refine ga ?_|(refine gb ?_;try simp[gz, *])|refine gk fun _ _=>?_)
 cases c12:isL T [41] S48
 try simp only[c12,Z]at q
 refine o53.is [41] ?_
 simp [gz, *]
 (focus repeat' first|refine ga ?_|(refine gb ?_;try simp[gz, *])|refine gk fun _ _=>?_)
 obtain ⟨l21,S58,h21,q⟩:=bo2 q
 refine o53.call (ih _ _ (by omega)) h21 fun k60 u67 u68 v34 e58 o63 r61=>?_
 try simp only[e58,Z]at q
 have p62:=o63.b1
 clear o53 r51 p61 h21
 simp [gz, *]
 (focus repeat' first|refine ga ?_|(refine gb ?_;try simp[gz, *])|refine gk fun _ _=>?_)
 refine o63.must [41] fun k61 S59 e59 o64 r62=>?_
 try simp only[e59,Z]at q
 have p63:=o64.b1
 clear o63 r61 p62 e59
 simp [gz, *]
 (focus repeat' first|refine ga ?_|(refine gb ?_;try simp[gz, *])|refine gk fun _ _=>?_)
 obtain ⟨l22,S60,h22,q⟩:=bo2 q
 refine o64.call (ih _ _ (by omega)) h22 fun k62 u69 u70 v35 e60 o65 r63=>?_
 try simp only[e60,Z]at q
 have p64:=o65.b1
 clear o64 r62 p63 h22 e58
 simp [gz, *]
 (focus repeat' first|refine ga ?_|(refine gb ?_;try simp[gz, *])|refine gk fun _ _=>?_)
 refine o65.add 32 at_ [] 0 [v27, -1, v34, v35] (fun k63 u71 u72 v36 S61 e61 o66 r64=>?_)
 try simp only[e61,Z]at q
 have p65:=o66.b1
 clear o65 r63 p64 e61 e60
 obtain ⟨rfl,rfl⟩:=fi q
 simp [gz, *]
 (focus repeat' first|refine ga ?_|(refine gb ?_;try simp[gz, *])|refine gk fun _ _=>?_)
 exact hR.out _ _ _ o66.fin
 try simp only[c12,Z]at q
 refine o53.is [41] ?_
 simp [gz, *]
 (focus repeat' first|refine ga ?_|(refine gb ?_;try simp[gz, *])|refine gk fun _ _=>?_)
 refine o53.must [41] fun k64 S62 e62 o67 r65=>?_
 try simp only[e62,Z]at q
 have p66:=o67.b1
 clear o53 r51 p61 e62
 simp [gz, *]
 (focus repeat' first|refine ga ?_|(refine gb ?_;try simp[gz, *])|refine gk fun _ _=>?_)
 obtain ⟨l23,S63,h23,q⟩:=bo2 q
 refine o67.call (ih _ _ (by omega)) h23 fun k65 u73 u74 v37 e63 o68 r66=>?_
 try simp only[e63,Z]at q
 have p67:=o68.b1
 clear o67 r65 p66 h23
 simp [gz, *]
 (focus repeat' first|refine ga ?_|(refine gb ?_;try simp[gz, *])|refine gk fun _ _=>?_)
 refine o68.add 32 at_ [] 0 [v27, -1, -1, v37] (fun k66 u75 u76 v38 S64 e64 o69 r67=>?_)
 try simp only[e64,Z]at q
 have p68:=o69.b1
 clear o68 r66 p67 e64 e63
 obtain ⟨rfl,rfl⟩:=fi q
 simp [gz, *]
 (focus repeat' first|refine ga ?_|(refine gb ?_;try simp[gz, *])|refine gk fun _ _=>?_)
 exact hR.out _ _ _ o69.fin
 try simp only[c1,e2,Z]at q
 have p69:=o4.b1
 clear o3 r3 p1 e2 c1
 simp [gz, *]
 (focus repeat' first|refine ga ?_|(refine gb ?_;try simp[gz, *])|refine gk fun _ _=>?_)
 refine o4.eat [59] (fun c13 k67 o70 r68=>?_) fun c13 k67 S65 e65 z7 o70 r68=>?_
 try simp only[c13,Z]at q
 have p70:=o70.b1
 clear o4 r4 p69 c13
 simp [gz, *]
 (focus repeat' first|refine ga ?_|(refine gb ?_;try simp[gz, *])|refine gk fun _ _=>?_)
 obtain ⟨l24,S66,h24,q⟩:=bo2 q
 refine o70.call (ih _ _ (by omega)) h24 fun k68 u77 u78 v39 e66 o71 r69=>?_
 try simp only[e66,Z]at q
 have p71:=o71.b1
 clear o70 r68 p70 h24
 simp [gz, *]
 (focus repeat' first|refine ga ?_|(refine gb ?_;try simp[gz, *])|refine gk fun _ _=>?_)
 refine o71.must [59] fun k69 S67 e67 o72 r70=>?_
 try simp only[e67,Z]at q
 have p72:=o72.b1
 clear o71 r69 p71 e67
 simp [gz, *]
 (focus repeat' first|refine ga ?_|(refine gb ?_;try simp[gz, *])|refine gk fun _ _=>?_)
 cases c14:isL T [41] S67
 try simp only[c14,Z]at q
 refine o72.is [41] ?_
 simp [gz, *]
 (focus repeat' first|refine ga ?_|(refine gb ?_;try simp[gz, *])|refine gk fun _ _=>?_)
 obtain ⟨l25,S68,h25,q⟩:=bo2 q
 refine o72.call (ih _ _ (by omega)) h25 fun k70 u79 u80 v40 e68 o73 r71=>?_
 try simp only[e68,Z]at q
 have p73:=o73.b1
 clear o72 r70 p72 h25 e66
 simp [gz, *]
 (focus repeat' first|refine ga ?_|(refine gb ?_;try simp[gz, *])|refine gk fun _ _=>?_)
 refine o73.must [41] fun k71 S69 e69 o74 r72=>?_
 try simp only[e69,Z]at q
 have p74:=o74.b1
 clear o73 r71 p73 e69
 simp [gz, *]
 (focus repeat' first|refine ga ?_|(refine gb ?_;try simp[gz, *])|refine gk fun _ _=>?_)
 obtain ⟨l26,S70,h26,q⟩:=bo2 q
 refine o74.call (ih _ _ (by omega)) h26 fun k72 u81 u82 v41 e70 o75 r73=>?_
 try simp only[e70,Z]at q
 have p75:=o75.b1
 clear o74 r72 p74 h26 e68
 simp [gz, *]
 (focus repeat' first|refine ga ?_|(refine gb ?_;try simp[gz, *])|refine gk fun _ _=>?_)
 refine o75.add 32 at_ [] 0 [-1, v39, v40, v41] (fun k73 u83 u84 v42 S71 e71 o76 r74=>?_)
 try simp only[e71,Z]at q
 have p76:=o76.b1
 clear o75 r73 p75 e71 e70
 obtain ⟨rfl,rfl⟩:=fi q
 simp [gz, *]
 (focus repeat' first|refine ga ?_|(refine gb ?_;try simp[gz, *])|refine gk fun _ _=>?_)
 exact hR.out _ _ _ o76.fin
 try simp only[c14,Z]at q
 refine o72.is [41] ?_
 simp [gz, *]
 (focus repeat' first|refine ga ?_|(refine gb ?_;try simp[gz, *])|refine gk fun _ _=>?_)
 refine o72.must [41] fun k74 S72 e72 o77 r75=>?_
 try simp only[e72,Z]at q
 have p77:=o77.b1
 clear o72 r70 p72 e72
 simp [gz, *]
 (focus repeat' first|refine ga ?_|(refine gb ?_;try simp[gz, *])|refine gk fun _ _=>?_)
 obtain ⟨l27,S73,h27,q⟩:=bo2 q
 refine o77.call (ih _ _ (by omega)) h27 fun k75 u85 u86 v43 e73 o78 r76=>?_
 try simp only[e73,Z]at q
 have p78:=o78.b1
 clear o77 r75 p77 h27 e66
 simp [gz, *]
 (focus repeat' first|refine ga ?_|(refine gb ?_;try simp[gz, *])|refine gk fun _ _=>?_)
 refine o78.add 32 at_ [] 0 [-1, v39, -1, v43] (fun k76 u87 u88 v44 S74 e74 o79 r77=>?_)
 try simp only[e74,Z]at q
 have p79:=o79.b1
 clear o78 r76 p78 e74 e73
 obtain ⟨rfl,rfl⟩:=fi q
 simp [gz, *]
 (focus repeat' first|refine ga ?_|(refine gb ?_;try simp[gz, *])|refine gk fun _ _=>?_)
 exact hR.out _ _ _ o79.fin
 try simp only[c13,e65,Z]at q
 have p80:=o70.b1
 clear o4 r4 p69 e65 c13
 simp [gz, *]
 (focus repeat' first|refine ga ?_|(refine gb ?_;try simp[gz, *])|refine gk fun _ _=>?_)
 cases c15:isL T [41] S65
 try simp only[c15,Z]at q
 refine o70.is [41] ?_
 simp [gz, *]
 (focus repeat' first|refine ga ?_|(refine gb ?_;try simp[gz, *])|refine gk fun _ _=>?_)
 obtain ⟨l28,S75,h28,q⟩:=bo2 q
 refine o70.call (ih _ _ (by omega)) h28 fun k77 u89 u90 v45 e75 o80 r78=>?_
 try simp only[e75,Z]at q
 have p81:=o80.b1
 clear o70 r68 p80 h28
 simp [gz, *]
 (focus repeat' first|refine ga ?_|(refine gb ?_;try simp[gz, *])|refine gk fun _ _=>?_)
 refine o80.must [41] fun k78 S76 e76 o81 r79=>?_
 try simp only[e76,Z]at q
 have p82:=o81.b1
 clear o80 r78 p81 e76
 simp [gz, *]
 (focus repeat' first|refine ga ?_|(refine gb ?_;try simp[gz, *])|refine gk fun _ _=>?_)
 obtain ⟨l29,S77,h29,q⟩:=bo2 q
 refine o81.call (ih _ _ (by omega)) h29 fun k79 u91 u92 v46 e77 o82 r80=>?_
 try simp only[e77,Z]at q
 have p83:=o82.b1
 clear o81 r79 p82 h29 e75
 simp [gz, *]
 (focus repeat' first|refine ga ?_|(refine gb ?_;try simp[gz, *])|refine gk fun _ _=>?_)
 refine o82.add 32 at_ [] 0 [-1, -1, v45, v46] (fun k80 u93 u94 v47 S78 e78 o83 r81=>?_)
 try simp only[e78,Z]at q
 have p84:=o83.b1
 clear o82 r80 p83 e78 e77
 obtain ⟨rfl,rfl⟩:=fi q
 simp [gz, *]
 (focus repeat' first|refine ga ?_|(refine gb ?_;try simp[gz, *])|refine gk fun _ _=>?_)
 exact hR.out _ _ _ o83.fin
 try simp only[c15,Z]at q
 refine o70.is [41] ?_
 simp [gz, *]
 (focus repeat' first|refine ga ?_|(refine gb ?_;try simp[gz, *])|refine gk fun _ _=>?_)
 refine o70.must [41] fun k81 S79 e79 o84 r82=>?_
 try simp only[e79,Z]at q
 have p85:=o84.b1
 clear o70 r68 p80 e79
 simp [gz, *]
 (focus repeat' first|refine ga ?_|(refine gb ?_;try simp[gz, *])|refine gk fun _ _=>?_)
 obtain ⟨l30,S80,h30,q⟩:=bo2 q
 refine o84.call (ih _ _ (by omega)) h30 fun k82 u95 u96 v48 e80 o85 r83=>?_
 try simp only[e80,Z]at q
 have p86:=o85.b1
 clear o84 r82 p85 h30
 simp [gz, *]
 (focus repeat' first|refine ga ?_|(refine gb ?_;try simp[gz, *])|refine gk fun _ _=>?_)
 refine o85.add 32 at_ [] 0 [-1, -1, -1, v48] (fun k83 u97 u98 v49 S81 e81 o86 r84=>?_)
 try simp only[e81,Z]at q
 have p87:=o86.b1
 clear o85 r83 p86 e81 e80
 obtain ⟨rfl,rfl⟩:=fi q
 simp [gz, *]
 (focus repeat' first|refine ga ?_|(refine gb ?_;try simp[gz, *])|refine gk fun _ _=>?_)
 exact hR.out _ _ _ o86.fin
end Go.Proofs.YtcbgpjlcfkkdlaaGreatDoor

namespace Go.Proofs.YtcbgpjlcfkkdlaaGreatDoor
open Go Go.AL Go.Proofs
theorem primary_w (T : List Tk) (tt : Tok) (n : Nat) (hn : n ≤ 1000000) (ih : ∀ m op, m ≤ n → Meth T tt m op) : Meth T tt (n + 1) .primary := by
 refine Meth.of fun S l S' q r t1 t2 B h o R hR=>?_
 simp only[run,Z]at q
 obtain ⟨t,ht_t⟩:∃ x,Sh (peekL T S=x):=⟨_,⟨rfl⟩⟩
 try simp only[ht_t.out,Z]at q
 refine acalls_of Tryz.func155 rfl Tryz.ntmps155 (congrArg Array.toList Tryz.results155) fun Q hQ => ?_
 have r1:=o.own.blk
 (focus repeat' first|refine ga ?_|(refine gb ?_;try simp[gz, *])|refine gk fun _ _=>?_)
 refine o.peek ht_t ?_
 simp [gz, *]
 intro b3 zb3
 obtain ⟨n_r_b3,n_b3_r⟩:=o.ne zb3
 have yb3:=o.y zb3
 have o1:=o.new zb3 (.cells (tkRow t))
 clear o zb3
 try simp [gz, *]
 cases d1:decide (t.kind = 1)
 try simp only[ef d1,d1,Z]at q
 cases d2:decide (t.kind = 3)
 try simp only[ef d2,d2,Z]at q
 cases d3:decide (t.kind = 4)
 try simp only[ef d3,d3,Z]at q
 (focus repeat' first|refine ga ?_|(refine gb ?_;try simp[gz, *])|refine gk fun _ _=>?_)
 refine o1.settle fun k1 o2 r2=>?_
 have p1:=o2.b1
 clear o1 r1
 refine o2.eat [110, 117, 108, 108] (fun c1 k2 o3 r3=>?_) fun c1 k2 S1 e1 z1 o3 r3=>?_
 try simp only[c1,Z]at q
 have p2:=o3.b1
 clear o2 r2 p1 c1
 simp [gz, *]
 (focus repeat' first|refine ga ?_|(refine gb ?_;try simp[gz, *])|refine gk fun _ _=>?_)
 refine o3.eat [116, 114, 117, 101] (fun c2 k3 o4 r4=>?_) fun c2 k3 S2 e2 z2 o4 r4=>?_
 try simp only[c2,Z]at q
 have p3:=o4.b1
 clear o3 r3 p2 c2
 simp [gz, *]
 (focus repeat' first|refine ga ?_|(refine gb ?_;try simp[gz, *])|refine gk fun _ _=>?_)
 refine o4.eat [102, 97, 108, 115, 101] (fun c3 k4 o5 r5=>?_) fun c3 k4 S3 e3 z3 o5 r5=>?_
 try simp only[c3,Z]at q
 have p4:=o5.b1
 clear o4 r4 p3 c3
 simp [gz, *]
 (focus repeat' first|refine ga ?_|(refine gb ?_;try simp[gz, *])|refine gk fun _ _=>?_)
 refine o5.eat [116, 104, 105, 115] (fun c4 k5 o6 r6=>?_) fun c4 k5 S4 e4 z4 o6 r6=>?_
 try simp only[c4,Z]at q
 have p5:=o6.b1
 clear o5 r5 p4 c4
 simp [gz, *]
 (focus repeat' first|refine ga ?_|(refine gb ?_;try simp[gz, *])|refine gk fun _ _=>?_)
 refine o6.eat [58, 58] (fun c5 k6 o7 r7=>?_) fun c5 k6 S5 e5 z5 o7 r7=>?_
 try simp only[c5,Z]at q
 have p6:=o7.b1
 clear o6 r6 p5 c5
 simp [gz, *]
 (focus repeat' first|refine ga ?_|(refine gb ?_;try simp[gz, *])|refine gk fun _ _=>?_)
 refine o7.eat [98, 97, 115, 101] (fun c6 k7 o8 r8=>?_) fun c6 k7 S6 e6 z6 o8 r8=>?_
 try simp only[c6,Z]at q
 have p7:=o8.b1
 clear o7 r7 p6 c6
 simp [gz, *]
 (focus repeat' first|refine ga ?_|(refine gb ?_;try simp[gz, *])|refine gk fun _ _=>?_)
 refine o8.eat [40] (fun c7 k8 o9 r9=>?_) fun c7 k8 S7 e7 z7 o9 r9=>?_
 try simp only[c7,Z]at q
 have p8:=o9.b1
 clear o8 r8 p7 c7
 simp [gz, *]
 (focus repeat' first|refine ga ?_|(refine gb ?_;try simp[gz, *])|refine gk fun _ _=>?_)
 refine o9.eat [91] (fun c8 k9 o10 r10=>?_) fun c8 k9 S8 e8 z8 o10 r10=>?_
 try simp only[c8,Z]at q
 have p9:=o10.b1
 clear o9 r9 p8 c8
 simp [gz, *]
 (focus repeat' first|refine ga ?_|(refine gb ?_;try simp[gz, *])|refine gk fun _ _=>?_)
 cases c9:isL T [123] S
 try simp only[c9,Z]at q
 refine o10.is [123] ?_
 simp [gz, *]
 (focus repeat' first|refine ga ?_|(refine gb ?_;try simp[gz, *])|refine gk fun _ _=>?_)
 cases c10:isL T [102, 117, 110, 99, 116, 105, 111, 110] S
 try simp only[c10,Z]at q
 refine o10.is [102, 117, 110, 99, 116, 105, 111, 110] ?_
 simp [gz, *]
 (focus repeat' first|refine ga ?_|(refine gb ?_;try simp[gz, *])|refine gk fun _ _=>?_)
 cases c11:isL T [99, 108, 97, 115, 115] S
 try simp only[c11,Z]at q
 refine o10.is [99, 108, 97, 115, 115] ?_
 simp [gz, *]
 (focus repeat' first|refine ga ?_|(refine gb ?_;try simp[gz, *])|refine gk fun _ _=>?_)
 refine o10.wrong 5 fun k10 S9 e9 o11 r11=>?_
 try simp only[e9,Z]at q
 have p10:=o11.b1
 clear o10 r10 p9 e9
 obtain ⟨rfl,rfl⟩:=fi q
 simp [gz, *]
 (focus repeat' first|refine ga ?_|(refine gb ?_;try simp[gz, *])|refine gk fun _ _=>?_)
 exact hR.out _ _ _ o11.fin
 try simp only[c11,Z]at q
 refine o10.is [99, 108, 97, 115, 115] ?_
 simp [gz, *]
 (focus repeat' first|refine ga ?_|(refine gb ?_;try simp[gz, *])|refine gk fun _ _=>?_)
 refine o10.tail (ih _ _ (by omega)) q fun k11 u1 u2 o12 r12=>?_
 have p11:=o12.b1
 clear o10 r10 p9
 simp [gz, *]
 (focus repeat' first|refine ga ?_|(refine gb ?_;try simp[gz, *])|refine gk fun _ _=>?_)
 exact hR.out _ _ _ o12.fin
 try simp only[c10,Z]at q
 refine o10.is [102, 117, 110, 99, 116, 105, 111, 110] ?_
 simp [gz, *]
 (focus repeat' first|refine ga ?_|(refine gb ?_;try simp[gz, *])|refine gk fun _ _=>?_)
 refine o10.tail (ih _ _ (by omega)) q fun k12 u3 u4 o13 r13=>?_
 have p12:=o13.b1
 clear o10 r10 p9
 simp [gz, *]
 (focus repeat' first|refine ga ?_|(refine gb ?_;try simp[gz, *])|refine gk fun _ _=>?_)
 exact hR.out _ _ _ o13.fin
 try simp only[c9,Z]at q
 refine o10.is [123] ?_
 simp [gz, *]
 (focus repeat' first|refine ga ?_|(refine gb ?_;try simp[gz, *])|refine gk fun _ _=>?_)
 refine o10.tail (ih _ _ (by omega)) q fun k13 u5 u6 o14 r14=>?_
 have p13:=o14.b1
 clear o10 r10 p9
 simp [gz, *]
 (focus repeat' first|refine ga ?_|(refine gb ?_;try simp[gz, *])|refine gk fun _ _=>?_)
 exact hR.out _ _ _ o14.fin
 try simp only[c8,e8,Z]at q
 have p14:=o10.b1
 clear o9 r9 p8 e8 c8
 simp [gz, *]
 (focus repeat' first|refine ga ?_|(refine gb ?_;try simp[gz, *])|refine gk fun _ _=>?_)
 have o15:=(o10.minus yb3)
 refine awp_region_draw [b3] [(0,true),(1,true),(2,true),(3,true),(4,false),(5,false)] [6] follows (by kernel_rfl) rfl (by kernel_rfl) ?_; simp [gz, *]
 clear o10
 (focus repeat' first|refine ga ?_|(refine gb ?_;try simp[gz, *])|refine gk fun _ _=>?_)
 obtain ⟨l1,S10,h1,q⟩:=bo2 q
 refine o15.sm (ih _ _ (by omega)) h1 fun k14 u7 u8 le1 o16 r15=>?_
 try simp only[Z]at q
 clear o15 h1
 simp [gz, *]
 intro hn1
 rw [show (k14.plus [b3] k9).minus [b3]=k14 from minus_of_none (by simp[hn1])]
 clear hn1
 refine o16.add 18 t.pos [] 0 l1 (fun k15 u9 u10 v1 S11 e10 o17 r16=>?_) (hl:=(by omega))
 try simp only[e10,Z]at q
 clear o16 r15 e10
 simp [gz, *]
 intro hn2
 rw [show k15.plus [b3] (k14.plus [b3] k9)=_ from plus_one (x:=.cells (tkRow t)) (by simp[*])]
 have o18:=o17.new hn2 (.cells (tkRow t))
 clear o17 r10 p14
 obtain ⟨rfl,rfl⟩:=fi q
 (focus repeat' first|refine ga ?_|(refine gb ?_;try simp[gz, *])|refine gk fun _ _=>?_)
 exact hR.out _ _ _ o18.fin
 try simp only[c7,e7,Z]at q
 have p15:=o9.b1
 clear o8 r8 p7 e7 c7
 simp [gz, *]
 (focus repeat' first|refine ga ?_|(refine gb ?_;try simp[gz, *])|refine gk fun _ _=>?_)
 obtain ⟨l2,S12,h2,q⟩:=bo2 q
 refine o9.call (ih _ _ (by omega)) h2 fun k16 u11 u12 v2 e11 o19 r17=>?_
 try simp only[e11,Z]at q
 have p16:=o19.b1
 clear o9 r9 p15 h2
 simp [gz, *]
 (focus repeat' first|refine ga ?_|(refine gb ?_;try simp[gz, *])|refine gk fun _ _=>?_)
 refine o19.must [41] fun k17 S13 e12 o20 r18=>?_
 try simp only[e12,Z]at q
 have p17:=o20.b1
 clear o19 r17 p16 e12
 obtain ⟨rfl,rfl⟩:=fi q
 subst e11
 simp [gz, *]
 (focus repeat' first|refine ga ?_|(refine gb ?_;try simp[gz, *])|refine gk fun _ _=>?_)
 exact hR.out _ _ _ o20.fin
 try simp only[c6,e6,Z]at q
 have p18:=o8.b1
 clear o7 r7 p6 e6 c6
 simp [gz, *]
 (focus repeat' first|refine ga ?_|(refine gb ?_;try simp[gz, *])|refine gk fun _ _=>?_)
 refine o8.must [46] fun k18 S14 e13 o21 r19=>?_
 try simp only[e13,Z]at q
 have p19:=o21.b1
 clear o8 r8 p18 e13
 simp [gz, *]
 (focus repeat' first|refine ga ?_|(refine gb ?_;try simp[gz, *])|refine gk fun _ _=>?_)
 refine o21.eat [99, 111, 110, 115, 116, 114, 117, 99, 116, 111, 114] (fun c12 k19 o22 r20=>?_) fun c12 k19 S15 e14 z9 o22 r20=>?_
 try simp only[c12,Z]at q
 have p20:=o22.b1
 clear o21 r19 p19 c12
 simp [gz, *]
 (focus repeat' first|refine ga ?_|(refine gb ?_;try simp[gz, *])|refine gk fun _ _=>?_)
 have o23:=(o22.minus yb3)
 refine awp_region_draw [b3] [(0,true),(1,true),(2,true),(3,true),(4,false),(5,false)] [6] follows (by kernel_rfl) rfl (by kernel_rfl) ?_; simp [gz, *]
 clear o22
 (focus repeat' first|refine ga ?_|(refine gb ?_;try simp[gz, *])|refine gk fun _ _=>?_)
 refine o23.name fun k20 x1 S16 e15 o24 r21=>?_
 try simp only[e15,Z]at q
 clear o23 e15
 simp [gz, *]
 intro hn3
 rw [show (k20.plus [b3] k19).minus [b3]=k20 from minus_of_none (by simp[hn3])]
 clear hn3
 refine o24.add 16 t.pos x1 0 [] (fun k21 u13 u14 v3 S17 e16 o25 r22=>?_)
 try simp only[e16,Z]at q
 clear o24 r21 e16
 simp [gz, *]
 intro hn4
 rw [show k21.plus [b3] (k20.plus [b3] k19)=_ from plus_one (x:=.cells (tkRow t)) (by simp[*])]
 have o26:=o25.new hn4 (.cells (tkRow t))
 clear o25 r20 p20
 obtain ⟨rfl,rfl⟩:=fi q
 (focus repeat' first|refine ga ?_|(refine gb ?_;try simp[gz, *])|refine gk fun _ _=>?_)
 exact hR.out _ _ _ o26.fin
 try simp only[c12,e14,Z]at q
 have p21:=o22.b1
 clear o21 r19 p19 e14 c12
 simp [gz, *]
 (focus repeat' first|refine ga ?_|(refine gb ?_;try simp[gz, *])|refine gk fun _ _=>?_)
 refine o22.add 16 t.pos [99, 111, 110, 115, 116, 114, 117, 99, 116, 111, 114] 0 [] (fun k22 u15 u16 v4 S18 e17 o27 r23=>?_)
 try simp only[e17,Z]at q
 have p22:=o27.b1
 clear o22 r20 p21 e17
 obtain ⟨rfl,rfl⟩:=fi q
 simp [gz, *]
 (focus repeat' first|refine ga ?_|(refine gb ?_;try simp[gz, *])|refine gk fun _ _=>?_)
 exact hR.out _ _ _ o27.fin
 try simp only[c5,e5,Z]at q
 have p23:=o7.b1
 clear o6 r6 p5 e5 c5
 simp [gz, *]
 (focus repeat' first|refine ga ?_|(refine gb ?_;try simp[gz, *])|refine gk fun _ _=>?_)
 have o28:=(o7.minus yb3)
 refine awp_region_draw [b3] [(0,true),(1,true),(2,true),(3,true),(4,false),(5,false)] [6] follows (by kernel_rfl) rfl (by kernel_rfl) ?_; simp [gz, *]
 clear o7
 (focus repeat' first|refine ga ?_|(refine gb ?_;try simp[gz, *])|refine gk fun _ _=>?_)
 refine o28.name fun k23 x2 S19 e18 o29 r24=>?_
 try simp only[e18,Z]at q
 clear o28 e18
 simp [gz, *]
 intro hn5
 rw [show (k23.plus [b3] k6).minus [b3]=k23 from minus_of_none (by simp[hn5])]
 clear hn5
 refine o29.add 8 t.pos x2 0 [] (fun k24 u17 u18 v5 S20 e19 o30 r25=>?_)
 try simp only[e19,Z]at q
 clear o29 r24 e19
 simp [gz, *]
 intro hn6
 rw [show k24.plus [b3] (k23.plus [b3] k6)=_ from plus_one (x:=.cells (tkRow t)) (by simp[*])]
 have o31:=o30.new hn6 (.cells (tkRow t))
 clear o30 r7 p23
 obtain ⟨rfl,rfl⟩:=fi q
 (focus repeat' first|refine ga ?_|(refine gb ?_;try simp[gz, *])|refine gk fun _ _=>?_)
 exact hR.out _ _ _ o31.fin
 try simp only[c4,e4,Z]at q
 have p24:=o6.b1
 clear o5 r5 p4 e4 c4
 simp [gz, *]
 (focus repeat' first|refine ga ?_|(refine gb ?_;try simp[gz, *])|refine gk fun _ _=>?_)
 refine o6.add 7 t.pos [] 0 [] (fun k25 u19 u20 v6 S21 e20 o32 r26=>?_)
 try simp only[e20,Z]at q
 have p25:=o32.b1
 clear o6 r6 p24 e20
 obtain ⟨rfl,rfl⟩:=fi q
 simp [gz, *]
 (focus repeat' first|refine ga ?_|(refine gb ?_;try simp[gz, *])|refine gk fun _ _=>?_)
 exact hR.out _ _ _ o32.fin
 try simp only[c3,e3,Z]at q
 have p26:=o5.b1
 clear o4 r4 p3 e3 c3
 simp [gz, *]
 (focus repeat' first|refine ga ?_|(refine gb ?_;try simp[gz, *])|refine gk fun _ _=>?_)
 refine o5.add 3 t.pos [] 0 [] (fun k26 u21 u22 v7 S22 e21 o33 r27=>?_)
 try simp only[e21,Z]at q
 have p27:=o33.b1
 clear o5 r5 p26 e21
 obtain ⟨rfl,rfl⟩:=fi q
 simp [gz, *]
 (focus repeat' first|refine ga ?_|(refine gb ?_;try simp[gz, *])|refine gk fun _ _=>?_)
 exact hR.out _ _ _ o33.fin
 try simp only[c2,e2,Z]at q
 have p28:=o4.b1
 clear o3 r3 p2 e2 c2
 simp [gz, *]
 (focus repeat' first|refine ga ?_|(refine gb ?_;try simp[gz, *])|refine gk fun _ _=>?_)
 refine o4.add 2 t.pos [] 0 [] (fun k27 u23 u24 v8 S23 e22 o34 r28=>?_)
 try simp only[e22,Z]at q
 have p29:=o34.b1
 clear o4 r4 p28 e22
 obtain ⟨rfl,rfl⟩:=fi q
 simp [gz, *]
 (focus repeat' first|refine ga ?_|(refine gb ?_;try simp[gz, *])|refine gk fun _ _=>?_)
 exact hR.out _ _ _ o34.fin
 try simp only[c1,e1,Z]at q
 have p30:=o3.b1
 clear o2 r2 p1 e1 c1
 simp [gz, *]
 (focus repeat' first|refine ga ?_|(refine gb ?_;try simp[gz, *])|refine gk fun _ _=>?_)
 refine o3.add 1 t.pos [] 0 [] (fun k28 u25 u26 v9 S24 e23 o35 r29=>?_)
 try simp only[e23,Z]at q
 have p31:=o35.b1
 clear o3 r3 p30 e23
 obtain ⟨rfl,rfl⟩:=fi q
 simp [gz, *]
 (focus repeat' first|refine ga ?_|(refine gb ?_;try simp[gz, *])|refine gk fun _ _=>?_)
 exact hR.out _ _ _ o35.fin
 try simp only[et d3,d3,Z]at q
 have w1:=o1.good.rd.w1
 (focus repeat' first|refine ga ?_|(refine gb ?_;try simp[gz, *])|refine gk fun _ _=>?_)
 have o36:=o1.stepped (kk ht_t d3)
 clear o1
 refine o36.settle fun k29 o37 r30=>?_
 have p32:=o37.b1
 clear o36 r1 w1
 refine o37.add 5 t.pos t.text 0 [] (fun k30 u27 u28 v10 S25 e24 o38 r31=>?_)
 try simp only[e24,Z]at q
 have p33:=o38.b1
 clear o37 r30 p32 e24
 obtain ⟨rfl,rfl⟩:=fi q
 simp [gz, *]
 (focus repeat' first|refine ga ?_|(refine gb ?_;try simp[gz, *])|refine gk fun _ _=>?_)
 exact hR.out _ _ _ o38.fin
 try simp only[et d2,d2,Z]at q
 have w2:=o1.good.rd.w1
 (focus repeat' first|refine ga ?_|(refine gb ?_;try simp[gz, *])|refine gk fun _ _=>?_)
 have o39:=o1.stepped (kk ht_t d2)
 clear o1
 refine o39.settle fun k31 o40 r32=>?_
 have p34:=o40.b1
 clear o39 r1 w2
 refine o40.add 4 t.pos [] t.num [] (fun k32 u29 u30 v11 S26 e25 o41 r33=>?_)
 try simp only[e25,Z]at q
 have p35:=o41.b1
 clear o40 r32 p34 e25
 obtain ⟨rfl,rfl⟩:=fi q
 simp [gz, *]
 (focus repeat' first|refine ga ?_|(refine gb ?_;try simp[gz, *])|refine gk fun _ _=>?_)
 exact hR.out _ _ _ o41.fin
 try simp only[et d1,d1,Z]at q
 have w3:=o1.good.rd.w1
 (focus repeat' first|refine ga ?_|(refine gb ?_;try simp[gz, *])|refine gk fun _ _=>?_)
 have o42:=o1.stepped (kk ht_t d1)
 clear o1
 refine o42.settle fun k33 o43 r34=>?_
 have p36:=o43.b1
 clear o42 r1 w3
 refine o43.add 6 t.pos t.text 0 [] (fun k34 u31 u32 v12 S27 e26 o44 r35=>?_)
 try simp only[e26,Z]at q
 have p37:=o44.b1
 clear o43 r34 p36 e26
 obtain ⟨rfl,rfl⟩:=fi q
 simp [gz, *]
 (focus repeat' first|refine ga ?_|(refine gb ?_;try simp[gz, *])|refine gk fun _ _=>?_)
 exact hR.out _ _ _ o44.fin
end Go.Proofs.YtcbgpjlcfkkdlaaGreatDoor

