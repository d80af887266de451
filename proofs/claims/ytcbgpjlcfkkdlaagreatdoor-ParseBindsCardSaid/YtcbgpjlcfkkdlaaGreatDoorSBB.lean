import Derived.Test.YtcbgpjlcfkkdlaaGreatDoorSAT
set_option linter.unusedSimpArgs false
set_option linter.unusedVariables false
set_option maxRecDepth 100000
set_option maxHeartbeats 16000000
namespace Go.Proofs.YtcbgpjlcfkkdlaaGreatDoor
open Go Go.AL Go.Proofs
theorem control_w (T : List Tk) (tt : Tok) (n : Nat) (t : Tk) (ih : ∀ m op, m ≤ n → Meth T tt m op) : Meth T tt (n + 1) (.control t) := by
 refine Meth.of fun S l S' q r t1 t2 B h o R hR=>?_
 simp only[run,Z]at q
 refine acalls_of Tryz.func79 rfl Tryz.ntmps79 (congrArg Array.toList Tryz.results79) fun Q hQ => ?_
 have r1:=o.own.blk
 (focus repeat' first|refine ga ?_|(refine gb ?_;try simp[gz, *])|refine gk fun _ _=>?_|refine gc ?_ ?_|exact gr _|refine gi fun _=>?_|(refine gn ?_ ?_;focus(intros;simp[*];done)))
 intro b3 zb3
 obtain ⟨n_r_b3,n_b3_r⟩:=o.ne zb3
 have yb3:=o.y zb3
 have o1:=o.new zb3 (.cells (tkRow t))
 clear o zb3
 try simp [gz, *]
 cases d1:decide (t.text = [105, 102])
 try simp only[ef d1,d1,Z]at q
 cases d2:decide (t.text = [119, 104, 105, 108, 101])
 try simp only[ef d2,d2,Z]at q
 cases d3:decide (t.text = [100, 111])
 try simp only[ef d3,d3,Z]at q
 cases d4:decide (t.text = [102, 111, 114])
 try simp only[ef d4,d4,Z]at q
 cases d5:decide (t.text = [102, 111, 114, 101, 97, 99, 104])
 try simp only[ef d5,d5,Z]at q
 cases d6:decide (t.text = [115, 119, 105, 116, 99, 104])
 try simp only[ef d6,d6,Z]at q
 (focus repeat' first|refine ga ?_|(refine gb ?_;try simp[gz, *])|refine gk fun _ _=>?_|refine gc ?_ ?_|exact gr _|refine gi fun _=>?_|(refine gn ?_ ?_;focus(intros;simp[*];done)))
 refine o1.settle fun k1 o2 r2=>?_
 have p1:=o2.b1
 clear o1 r1
 obtain ⟨l1,S1,h1,q⟩:=bo2 q
 refine o2.call (ih _ _ (by omega)) h1 fun k2 u1 u2 v1 e1 o3 r3=>?_
 try simp only[e1,Z]at q
 have p2:=o3.b1
 clear o2 r2 p1 h1
 simp [gz, *]
 (focus repeat' first|refine ga ?_|(refine gb ?_;try simp[gz, *])|refine gk fun _ _=>?_|refine gc ?_ ?_|exact gr _|refine gi fun _=>?_|(refine gn ?_ ?_;focus(intros;simp[*];done)))
 refine o3.must [99, 97, 116, 99, 104] fun k3 S2 e2 o4 r4=>?_
 try simp only[e2,Z]at q
 have p3:=o4.b1
 clear o3 r3 p2 e2
 simp [gz, *]
 (focus repeat' first|refine ga ?_|(refine gb ?_;try simp[gz, *])|refine gk fun _ _=>?_|refine gc ?_ ?_|exact gr _|refine gi fun _=>?_|(refine gn ?_ ?_;focus(intros;simp[*];done)))
 refine o4.must [40] fun k4 S3 e3 o5 r5=>?_
 try simp only[e3,Z]at q
 have p4:=o5.b1
 clear o4 r4 p3 e3
 simp [gz, *]
 (focus repeat' first|refine ga ?_|(refine gb ?_;try simp[gz, *])|refine gk fun _ _=>?_|refine gc ?_ ?_|exact gr _|refine gi fun _=>?_|(refine gn ?_ ?_;focus(intros;simp[*];done)))
 refine o5.name fun k5 x1 S4 e4 o6 r6=>?_
 try simp only[e4,Z]at q
 have p5:=o6.b1
 clear o5 r5 p4 e4
 simp [gz, *]
 (focus repeat' first|refine ga ?_|(refine gb ?_;try simp[gz, *])|refine gk fun _ _=>?_|refine gc ?_ ?_|exact gr _|refine gi fun _=>?_|(refine gn ?_ ?_;focus(intros;simp[*];done)))
 refine o6.must [41] fun k6 S5 e5 o7 r7=>?_
 try simp only[e5,Z]at q
 have p6:=o7.b1
 clear o6 r6 p5 e5
 simp [gz, *]
 (focus repeat' first|refine ga ?_|(refine gb ?_;try simp[gz, *])|refine gk fun _ _=>?_|refine gc ?_ ?_|exact gr _|refine gi fun _=>?_|(refine gn ?_ ?_;focus(intros;simp[*];done)))
 obtain ⟨l2,S6,h2,q⟩:=bo2 q
 refine o7.call (ih _ _ (by omega)) h2 fun k7 u3 u4 v2 e6 o8 r8=>?_
 try simp only[e6,Z]at q
 have p7:=o8.b1
 clear o7 r7 p6 h2 e1
 simp [gz, *]
 (focus repeat' first|refine ga ?_|(refine gb ?_;try simp[gz, *])|refine gk fun _ _=>?_|refine gc ?_ ?_|exact gr _|refine gi fun _=>?_|(refine gn ?_ ?_;focus(intros;simp[*];done)))
 refine o8.add 40 t.pos x1 0 [v1, v2] (fun k8 u5 u6 v3 S7 e7 o9 r9=>?_)
 try simp only[e7,Z]at q
 have p8:=o9.b1
 clear o8 r8 p7 e7 e6
 obtain ⟨rfl,rfl⟩:=fi q
 simp [gz, *]
 (focus repeat' first|refine ga ?_|(refine gb ?_;try simp[gz, *])|refine gk fun _ _=>?_|refine gc ?_ ?_|exact gr _|refine gi fun _=>?_|(refine gn ?_ ?_;focus(intros;simp[*];done)))
 exact hR.out _ _ _ o9.fin
 try simp only[et d6,d6,Z]at q
 (focus repeat' first|refine ga ?_|(refine gb ?_;try simp[gz, *])|refine gk fun _ _=>?_|refine gc ?_ ?_|exact gr _|refine gi fun _=>?_|(refine gn ?_ ?_;focus(intros;simp[*];done)))
 refine o1.settle fun k9 o10 r10=>?_
 have p9:=o10.b1
 clear o1 r1
 refine o10.tail (ih _ _ (by omega)) q fun k10 u7 u8 o11 r11=>?_
 have p10:=o11.b1
 clear o10 r10 p9
 simp [gz, *]
 (focus repeat' first|refine ga ?_|(refine gb ?_;try simp[gz, *])|refine gk fun _ _=>?_|refine gc ?_ ?_|exact gr _|refine gi fun _=>?_|(refine gn ?_ ?_;focus(intros;simp[*];done)))
 exact hR.out _ _ _ o11.fin
 try simp only[et d5,d5,Z]at q
 (focus repeat' first|refine ga ?_|(refine gb ?_;try simp[gz, *])|refine gk fun _ _=>?_|refine gc ?_ ?_|exact gr _|refine gi fun _=>?_|(refine gn ?_ ?_;focus(intros;simp[*];done)))
 refine o1.settle fun k11 o12 r12=>?_
 have p11:=o12.b1
 clear o1 r1
 refine o12.tail (ih _ _ (by omega)) q fun k12 u9 u10 o13 r13=>?_
 have p12:=o13.b1
 clear o12 r12 p11
 simp [gz, *]
 (focus repeat' first|refine ga ?_|(refine gb ?_;try simp[gz, *])|refine gk fun _ _=>?_|refine gc ?_ ?_|exact gr _|refine gi fun _=>?_|(refine gn ?_ ?_;focus(intros;simp[*];done)))
 exact hR.out _ _ _ o13.fin
 try simp only[et d4,d4,Z]at q
 (focus repeat' first|refine ga ?_|(refine gb ?_;try simp[gz, *])|refine gk fun _ _=>?_|refine gc ?_ ?_|exact gr _|refine gi fun _=>?_|(refine gn ?_ ?_;focus(intros;simp[*];done)))
 refine o1.settle fun k13 o14 r14=>?_
 have p13:=o14.b1
 clear o1 r1
 refine o14.tail (ih _ _ (by omega)) q fun k14 u11 u12 o15 r15=>?_
 have p14:=o15.b1
 clear o14 r14 p13
 simp [gz, *]
 (focus repeat' first|refine ga ?_|(refine gb ?_;try simp[gz, *])|refine gk fun _ _=>?_|refine gc ?_ ?_|exact gr _|refine gi fun _=>?_|(refine gn ?_ ?_;focus(intros;simp[*];done)))
 exact hR.out _ _ _ o15.fin
 try simp only[et d3,d3,Z]at q
 (focus repeat' first|refine ga ?_|(refine gb ?_;try simp[gz, *])|refine gk fun _ _=>?_|refine gc ?_ ?_|exact gr _|refine gi fun _=>?_|(refine gn ?_ ?_;focus(intros;simp[*];done)))
 refine o1.settle fun k15 o16 r16=>?_
 have p15:=o16.b1
 clear o1 r1
 obtain ⟨l3,S8,h3,q⟩:=bo2 q
 refine o16.call (ih _ _ (by omega)) h3 fun k16 u13 u14 v4 e8 o17 r17=>?_
 try simp only[e8,Z]at q
 have p16:=o17.b1
 clear o16 r16 p15 h3
 simp [gz, *]
 (focus repeat' first|refine ga ?_|(refine gb ?_;try simp[gz, *])|refine gk fun _ _=>?_|refine gc ?_ ?_|exact gr _|refine gi fun _=>?_|(refine gn ?_ ?_;focus(intros;simp[*];done)))
 refine o17.must [119, 104, 105, 108, 101] fun k17 S9 e9 o18 r18=>?_
 try simp only[e9,Z]at q
 have p17:=o18.b1
 clear o17 r17 p16 e9
 simp [gz, *]
 (focus repeat' first|refine ga ?_|(refine gb ?_;try simp[gz, *])|refine gk fun _ _=>?_|refine gc ?_ ?_|exact gr _|refine gi fun _=>?_|(refine gn ?_ ?_;focus(intros;simp[*];done)))
 obtain ⟨l4,S10,h4,q⟩:=bo2 q
 refine o18.call (ih _ _ (by omega)) h4 fun k18 u15 u16 v5 e10 o19 r19=>?_
 try simp only[e10,Z]at q
 have p18:=o19.b1
 clear o18 r18 p17 h4 e8
 simp [gz, *]
 (focus repeat' first|refine ga ?_|(refine gb ?_;try simp[gz, *])|refine gk fun _ _=>?_|refine gc ?_ ?_|exact gr _|refine gi fun _=>?_|(refine gn ?_ ?_;focus(intros;simp[*];done)))
 refine o19.add 31 t.pos [] 0 [v4, v5] (fun k19 u17 u18 v6 S11 e11 o20 r20=>?_)
 try simp only[e11,Z]at q
 have p19:=o20.b1
 clear o19 r19 p18 e11 e10
 simp [gz, *]
 (focus repeat' first|refine ga ?_|(refine gb ?_;try simp[gz, *])|refine gk fun _ _=>?_|refine gc ?_ ?_|exact gr _|refine gi fun _=>?_|(refine gn ?_ ?_;focus(intros;simp[*];done)))
 refine o20.fend fun k20 S12 e12 o21 r21=>?_
 try simp only[e12,Z]at q
 have p20:=o21.b1
 clear o20 r20 p19 e12
 obtain ⟨rfl,rfl⟩:=fi q
 simp [gz, *]
 (focus repeat' first|refine ga ?_|(refine gb ?_;try simp[gz, *])|refine gk fun _ _=>?_|refine gc ?_ ?_|exact gr _|refine gi fun _=>?_|(refine gn ?_ ?_;focus(intros;simp[*];done)))
 exact hR.out _ _ _ o21.fin
 try simp only[et d2,d2,Z]at q
 (focus repeat' first|refine ga ?_|(refine gb ?_;try simp[gz, *])|refine gk fun _ _=>?_|refine gc ?_ ?_|exact gr _|refine gi fun _=>?_|(refine gn ?_ ?_;focus(intros;simp[*];done)))
 refine o1.settle fun k21 o22 r22=>?_
 have p21:=o22.b1
 clear o1 r1
 obtain ⟨l5,S13,h5,q⟩:=bo2 q
 refine o22.call (ih _ _ (by omega)) h5 fun k22 u19 u20 v7 e13 o23 r23=>?_
 try simp only[e13,Z]at q
 have p22:=o23.b1
 clear o22 r22 p21 h5
 simp [gz, *]
 (focus repeat' first|refine ga ?_|(refine gb ?_;try simp[gz, *])|refine gk fun _ _=>?_|refine gc ?_ ?_|exact gr _|refine gi fun _=>?_|(refine gn ?_ ?_;focus(intros;simp[*];done)))
 obtain ⟨l6,S14,h6,q⟩:=bo2 q
 refine o23.call (ih _ _ (by omega)) h6 fun k23 u21 u22 v8 e14 o24 r24=>?_
 try simp only[e14,Z]at q
 have p23:=o24.b1
 clear o23 r23 p22 h6 e13
 simp [gz, *]
 (focus repeat' first|refine ga ?_|(refine gb ?_;try simp[gz, *])|refine gk fun _ _=>?_|refine gc ?_ ?_|exact gr _|refine gi fun _=>?_|(refine gn ?_ ?_;focus(intros;simp[*];done)))
 refine o24.add 30 t.pos [] 0 [v7, v8] (fun k24 u23 u24 v9 S15 e15 o25 r25=>?_)
 try simp only[e15,Z]at q
 have p24:=o25.b1
 clear o24 r24 p23 e15 e14
 obtain ⟨rfl,rfl⟩:=fi q
 simp [gz, *]
 (focus repeat' first|refine ga ?_|(refine gb ?_;try simp[gz, *])|refine gk fun _ _=>?_|refine gc ?_ ?_|exact gr _|refine gi fun _=>?_|(refine gn ?_ ?_;focus(intros;simp[*];done)))
 exact hR.out _ _ _ o25.fin
 try simp only[et d1,d1,Z]at q
 (focus repeat' first|refine ga ?_|(refine gb ?_;try simp[gz, *])|refine gk fun _ _=>?_|refine gc ?_ ?_|exact gr _|refine gi fun _=>?_|(refine gn ?_ ?_;focus(intros;simp[*];done)))
 refine o1.settle fun k25 o26 r26=>?_
 have p25:=o26.b1
 clear o1 r1
 obtain ⟨l7,S16,h7,q⟩:=bo2 q
 refine o26.call (ih _ _ (by omega)) h7 fun k26 u25 u26 v10 e16 o27 r27=>?_
 try simp only[e16,Z]at q
 have p26:=o27.b1
 clear o26 r26 p25 h7
 simp [gz, *]
 (focus repeat' first|refine ga ?_|(refine gb ?_;try simp[gz, *])|refine gk fun _ _=>?_|refine gc ?_ ?_|exact gr _|refine gi fun _=>?_|(refine gn ?_ ?_;focus(intros;simp[*];done)))
 obtain ⟨l8,S17,h8,q⟩:=bo2 q
 refine o27.call (ih _ _ (by omega)) h8 fun k27 u27 u28 v11 e17 o28 r28=>?_
 try simp only[e17,Z]at q
 have p27:=o28.b1
 clear o27 r27 p26 h8 e16
 simp [gz, *]
 (focus repeat' first|refine ga ?_|(refine gb ?_;try simp[gz, *])|refine gk fun _ _=>?_|refine gc ?_ ?_|exact gr _|refine gi fun _=>?_|(refine gn ?_ ?_;focus(intros;simp[*];done)))
 refine o28.eat [101, 108, 115, 101] (fun c1 k28 o29 r29=>?_) fun c1 k28 S18 e18 z1 o29 r29=>?_
 try simp only[c1,Z]at q
 have p28:=o29.b1
 clear o28 r28 p27 c1
 simp [gz, *]
 (focus repeat' first|refine ga ?_|(refine gb ?_;try simp[gz, *])|refine gk fun _ _=>?_|refine gc ?_ ?_|exact gr _|refine gi fun _=>?_|(refine gn ?_ ?_;focus(intros;simp[*];done)))
 refine o29.add 29 t.pos [] 0 [v10, v11, -1] (fun k29 u29 u30 v12 S19 e19 o30 r30=>?_)
 try simp only[e19,Z]at q
 have p29:=o30.b1
 clear o29 r29 p28 e19 e17
 obtain ⟨rfl,rfl⟩:=fi q
 simp [gz, *]
 (focus repeat' first|refine ga ?_|(refine gb ?_;try simp[gz, *])|refine gk fun _ _=>?_|refine gc ?_ ?_|exact gr _|refine gi fun _=>?_|(refine gn ?_ ?_;focus(intros;simp[*];done)))
 exact hR.out _ _ _ o30.fin
 try simp only[c1,e18,Z]at q
 have p30:=o29.b1
 clear o28 r28 p27 e18 c1
 obtain ⟨u,ht_u⟩:∃ x,Sh (peekL T S18=x):=⟨_,⟨rfl⟩⟩
 try simp only[ht_u.out,Z]at q
 simp [gz, *]
 (focus repeat' first|refine ga ?_|(refine gb ?_;try simp[gz, *])|refine gk fun _ _=>?_|refine gc ?_ ?_|exact gr _|refine gi fun _=>?_|(refine gn ?_ ?_;focus(intros;simp[*];done)))
 refine o29.peek ht_u ?_
 simp [gz, *]
 intro b5 zb5
 obtain ⟨n_r_b5,n_b5_r⟩:=o29.ne zb5
 obtain ⟨n_b3_b5,n_b5_b3⟩:=ne2 p30 zb5
 have yb5:=o29.y zb5
 have o31:=o29.new zb5 (.cells (tkRow u))
 clear o29 zb5
 try simp [gz, *]
 (focus repeat' first|refine ga ?_|(refine gb ?_;try simp[gz, *])|refine gk fun _ _=>?_|refine gc ?_ ?_|exact gr _|refine gi fun _=>?_|(refine gn ?_ ?_;focus(intros;simp[*];done)))
 refine o31.settle fun k30 o32 r31=>?_
 have p31:=o32.b1
 have p32:=o32.b2 n_b3_b5
 clear o31 r29 p30
 refine o32.eat [105, 102] (fun c2 k31 o33 r32=>?_) fun c2 k31 S20 e20 z2 o33 r32=>?_
 try simp only[c2,Z]at q
 have p33:=o33.b1
 have p34:=o33.b2 n_b3_b5
 clear o32 r31 p31 p32 c2
 simp [gz, *]
 (focus repeat' first|refine ga ?_|(refine gb ?_;try simp[gz, *])|refine gk fun _ _=>?_|refine gc ?_ ?_|exact gr _|refine gi fun _=>?_|(refine gn ?_ ?_;focus(intros;simp[*];done)))
 obtain ⟨l9,S21,h9,q⟩:=bo2 q
 refine o33.call (ih _ _ (by omega)) h9 fun k32 u31 u32 v13 e21 o34 r33=>?_
 try simp only[e21,Z]at q
 have p35:=o34.b1
 have p36:=o34.b2 n_b3_b5
 clear o33 r32 p33 p34 h9 e17
 simp [gz, *]
 (focus repeat' first|refine ga ?_|(refine gb ?_;try simp[gz, *])|refine gk fun _ _=>?_|refine gc ?_ ?_|exact gr _|refine gi fun _=>?_|(refine gn ?_ ?_;focus(intros;simp[*];done)))
 refine o34.add 29 t.pos [] 0 [v10, v11, v13] (fun k33 u33 u34 v14 S22 e22 o35 r34=>?_)
 try simp only[e22,Z]at q
 have p37:=o35.b1
 have p38:=o35.b2 n_b3_b5
 clear o34 r33 p35 p36 e22 e21
 obtain ⟨rfl,rfl⟩:=fi q
 simp [gz, *]
 (focus repeat' first|refine ga ?_|(refine gb ?_;try simp[gz, *])|refine gk fun _ _=>?_|refine gc ?_ ?_|exact gr _|refine gi fun _=>?_|(refine gn ?_ ?_;focus(intros;simp[*];done)))
 exact hR.out _ _ _ o35.fin
 try simp only[c2,e20,Z]at q
 have p39:=o33.b1
 have p40:=o33.b2 n_b3_b5
 clear o32 r31 p31 p32 e20 c2
 simp [gz, *]
 (focus repeat' first|refine ga ?_|(refine gb ?_;try simp[gz, *])|refine gk fun _ _=>?_|refine gc ?_ ?_|exact gr _|refine gi fun _=>?_|(refine gn ?_ ?_;focus(intros;simp[*];done)))
 refine o33.down fun k34 S23 e23 o36 r35=>?_
 try simp only[e23,Z]at q
 have p41:=o36.b1
 have p42:=o36.b2 n_b3_b5
 clear o33 r32 p39 p40 e23
 simp [gz, *]
 (focus repeat' first|refine ga ?_|(refine gb ?_;try simp[gz, *])|refine gk fun _ _=>?_|refine gc ?_ ?_|exact gr _|refine gi fun _=>?_|(refine gn ?_ ?_;focus(intros;simp[*];done)))
 obtain ⟨l10,S24,h10,q⟩:=bo2 q
 refine o36.call (ih _ _ (by omega)) h10 fun k35 u35 u36 v15 e24 o37 r36=>?_
 try simp only[e24,Z]at q
 have p43:=o37.b1
 have p44:=o37.b2 n_b3_b5
 clear o36 r35 p41 p42 h10 e17
 simp [gz, *]
 (focus repeat' first|refine ga ?_|(refine gb ?_;try simp[gz, *])|refine gk fun _ _=>?_|refine gc ?_ ?_|exact gr _|refine gi fun _=>?_|(refine gn ?_ ?_;focus(intros;simp[*];done)))
 refine o37.up fun k36 S25 e25 o38 r37=>?_
 try simp only[e25,Z]at q
 have p45:=o38.b1
 have p46:=o38.b2 n_b3_b5
 clear o37 r36 p43 p44 e25
 simp [gz, *]
 (focus repeat' first|refine ga ?_|(refine gb ?_;try simp[gz, *])|refine gk fun _ _=>?_|refine gc ?_ ?_|exact gr _|refine gi fun _=>?_|(refine gn ?_ ?_;focus(intros;simp[*];done)))
 refine o38.add 29 t.pos [] 0 [v10, v11, v15] (fun k37 u37 u38 v16 S26 e26 o39 r38=>?_)
 try simp only[e26,Z]at q
 have p47:=o39.b1
 have p48:=o39.b2 n_b3_b5
 clear o38 r37 p45 p46 e26 e24
 obtain ⟨rfl,rfl⟩:=fi q
 simp [gz, *]
 (focus repeat' first|refine ga ?_|(refine gb ?_;try simp[gz, *])|refine gk fun _ _=>?_|refine gc ?_ ?_|exact gr _|refine gi fun _=>?_|(refine gn ?_ ?_;focus(intros;simp[*];done)))
 exact hR.out _ _ _ o39.fin
end Go.Proofs.YtcbgpjlcfkkdlaaGreatDoor

namespace Go.Proofs.YtcbgpjlcfkkdlaaGreatDoor
open Go Go.AL Go.Proofs
theorem foreach_w (T : List Tk) (tt : Tok) (n : Nat) (hs : Short T) (at_ : Int) (ih : ∀ m op, m ≤ n → Meth T tt m op) : Meth T tt (n + 1) (.foreach at_) := by
 refine Meth.of fun S l S' q r t1 t2 B h o R hR=>?_
 simp only[run,Z]at q
 replace hs := Shut.mk hs
 refine acalls_of Tryz.func118 rfl Tryz.ntmps118 (congrArg Array.toList Tryz.results118) fun Q hQ => ?_
 have r1:=o.own.blk
 (focus repeat' first|refine ga ?_|(refine gb ?_;try simp[gz, *])|refine gk fun _ _=>?_|refine gc ?_ ?_|exact gr _|refine gi fun _=>?_|(refine gn ?_ ?_;focus(intros;simp[*];done)))
 refine o.must [40] fun k1 S1 e1 o1 r2=>?_
 try simp only[e1,Z]at q
 clear o r1 e1
 simp [gz, *]
 (focus repeat' first|refine ga ?_|(refine gb ?_;try simp[gz, *])|refine gk fun _ _=>?_|refine gc ?_ ?_|exact gr _|refine gi fun _=>?_|(refine gn ?_ ?_;focus(intros;simp[*];done)))
 refine o1.name fun k2 x1 S2 e2 o2 r3=>?_
 try simp only[e2,Z]at q
 have lx1:=nlen hs.out e2
 clear o1 r2 e2
 simp [gz, *]
 (focus repeat' first|refine ga ?_|(refine gb ?_;try simp[gz, *])|refine gk fun _ _=>?_|refine gc ?_ ?_|exact gr _|refine gi fun _=>?_|(refine gn ?_ ?_;focus(intros;simp[*];done)))
 refine o2.eat [44] (fun c1 k3 o3 r4=>?_) fun c1 k3 S3 e3 z1 o3 r4=>?_
 try simp only[c1,Z]at q
 clear o2 r3 c1
 cases d1 : decide (x1 = [])
 have d1P := of_decide_eq_false d1
 try simp only[eq_false (fun e : [] = x1 => d1P e.symm),d1,Z]at q
 clear d1P
 simp [gz, *]
 (focus repeat' first|refine ga ?_|(refine gb ?_;try simp[gz, *])|refine gk fun _ _=>?_|refine gc ?_ ?_|exact gr _|refine gi fun _=>?_|(refine gn ?_ ?_;focus(intros;simp[*];done)))
 refine o3.must [105, 110] fun k4 S4 e4 o4 r5=>?_
 try simp only[e4,Z]at q
 clear o3 r4 e4
 simp [gz, *]
 (focus repeat' first|refine ga ?_|(refine gb ?_;try simp[gz, *])|refine gk fun _ _=>?_|refine gc ?_ ?_|exact gr _|refine gi fun _=>?_|(refine gn ?_ ?_;focus(intros;simp[*];done)))
 obtain ⟨l1,S5,h1,q⟩:=bo2 q
 refine o4.call (ih _ _ (by omega)) h1 fun k5 u1 u2 v1 e5 o5 r6=>?_
 try simp only[e5,Z]at q
 clear o4 r5 h1
 simp [gz, *]
 (focus repeat' first|refine ga ?_|(refine gb ?_;try simp[gz, *])|refine gk fun _ _=>?_|refine gc ?_ ?_|exact gr _|refine gi fun _=>?_|(refine gn ?_ ?_;focus(intros;simp[*];done)))
 refine o5.must [41] fun k6 S6 e6 o6 r7=>?_
 try simp only[e6,Z]at q
 clear o5 r6 e6
 simp [gz, *]
 (focus repeat' first|refine ga ?_|(refine gb ?_;try simp[gz, *])|refine gk fun _ _=>?_|refine gc ?_ ?_|exact gr _|refine gi fun _=>?_|(refine gn ?_ ?_;focus(intros;simp[*];done)))
 obtain ⟨l2,S7,h2,q⟩:=bo2 q
 refine o6.call (ih _ _ (by omega)) h2 fun k7 u3 u4 v2 e7 o7 r8=>?_
 try simp only[e7,Z]at q
 clear o6 r7 h2 e5
 simp [gz, *]
 (focus repeat' first|refine ga ?_|(refine gb ?_;try simp[gz, *])|refine gk fun _ _=>?_|refine gc ?_ ?_|exact gr _|refine gi fun _=>?_|(refine gn ?_ ?_;focus(intros;simp[*];done)))
 refine o7.add 33 at_ ([] ++ [9] ++ x1) 0 [v1, v2] (fun k8 u5 u6 v3 S8 e8 o8 r9=>?_)
 try simp only[e8,Z]at q
 clear o7 r8 e8 e7
 obtain ⟨rfl,rfl⟩:=fi q
 simp [gz, *]
 (focus repeat' first|refine ga ?_|(refine gb ?_;try simp[gz, *])|refine gk fun _ _=>?_|refine gc ?_ ?_|exact gr _|refine gi fun _=>?_|(refine gn ?_ ?_;focus(intros;simp[*];done)))
 exact hR.out _ _ _ o8.fin
 have d1P := of_decide_eq_true d1
 clear d1
 simp only [d1P, if_true] at q
 obtain ⟨vv, hvv⟩ : ∃ x, x1 = x := ⟨_, rfl⟩
 simp [gz, *]
 (focus repeat' first|refine ga ?_|(refine gb ?_;try simp[gz, *])|refine gk fun _ _=>?_|refine gc ?_ ?_|exact gr _|refine gi fun _=>?_|(refine gn ?_ ?_;focus(intros;simp[*];done)))
 refine o3.wrong 4 fun k9 S9 e9 o9 r10=>?_
 try simp only[e9,Z]at q
 clear o3 r4 e9
 simp [gz, *]
 (focus repeat' first|refine ga ?_|(refine gb ?_;try simp[gz, *])|refine gk fun _ _=>?_|refine gc ?_ ?_|exact gr _|refine gi fun _=>?_|(refine gn ?_ ?_;focus(intros;simp[*];done)))
 refine o9.must [105, 110] fun k10 S10 e10 o10 r11=>?_
 try simp only[e10,Z]at q
 clear o9 r10 e10
 simp [gz, *]
 (focus repeat' first|refine ga ?_|(refine gb ?_;try simp[gz, *])|refine gk fun _ _=>?_|refine gc ?_ ?_|exact gr _|refine gi fun _=>?_|(refine gn ?_ ?_;focus(intros;simp[*];done)))
 obtain ⟨l3,S11,h3,q⟩:=bo2 q
 refine o10.call (ih _ _ (by omega)) h3 fun k11 u7 u8 v4 e11 o11 r12=>?_
 try simp only[e11,Z]at q
 clear o10 r11 h3
 simp [gz, *]
 (focus repeat' first|refine ga ?_|(refine gb ?_;try simp[gz, *])|refine gk fun _ _=>?_|refine gc ?_ ?_|exact gr _|refine gi fun _=>?_|(refine gn ?_ ?_;focus(intros;simp[*];done)))
 refine o11.must [41] fun k12 S12 e12 o12 r13=>?_
 try simp only[e12,Z]at q
 clear o11 r12 e12
 simp [gz, *]
 (focus repeat' first|refine ga ?_|(refine gb ?_;try simp[gz, *])|refine gk fun _ _=>?_|refine gc ?_ ?_|exact gr _|refine gi fun _=>?_|(refine gn ?_ ?_;focus(intros;simp[*];done)))
 obtain ⟨l4,S13,h4,q⟩:=bo2 q
 refine o12.call (ih _ _ (by omega)) h4 fun k13 u9 u10 v5 e13 o13 r14=>?_
 try simp only[e13,Z]at q
 clear o12 r13 h4 e11
 simp [gz, *]
 (focus repeat' first|refine ga ?_|(refine gb ?_;try simp[gz, *])|refine gk fun _ _=>?_|refine gc ?_ ?_|exact gr _|refine gi fun _=>?_|(refine gn ?_ ?_;focus(intros;simp[*];done)))
 refine o13.add 33 at_ ([] ++ [9] ++ []) 0 [v4, v5] (fun k14 u11 u12 v6 S14 e14 o14 r15=>?_)
 try simp only[e14,Z]at q
 clear o13 r14 e14 e13
 obtain ⟨rfl,rfl⟩:=fi q
 simp [gz, *]
 (focus repeat' first|refine ga ?_|(refine gb ?_;try simp[gz, *])|refine gk fun _ _=>?_|refine gc ?_ ?_|exact gr _|refine gi fun _=>?_|(refine gn ?_ ?_;focus(intros;simp[*];done)))
 exact hR.out _ _ _ o14.fin
 try simp only[c1,e3,Z]at q
 clear o2 r3 e3 c1
 simp [gz, *]
 (focus repeat' first|refine ga ?_|(refine gb ?_;try simp[gz, *])|refine gk fun _ _=>?_|refine gc ?_ ?_|exact gr _|refine gi fun _=>?_|(refine gn ?_ ?_;focus(intros;simp[*];done)))
 refine o3.name fun k15 x2 S15 e15 o15 r16=>?_
 try simp only[e15,Z]at q
 have lx2:=nlen hs.out e15
 clear o3 r4 e15
 cases d2:decide (x1 = x2)
 try simp only[ef d2,d2,Z]at q
 simp [gz, *]
 (focus repeat' first|refine ga ?_|(refine gb ?_;try simp[gz, *])|refine gk fun _ _=>?_|refine gc ?_ ?_|exact gr _|refine gi fun _=>?_|(refine gn ?_ ?_;focus(intros;simp[*];done)))
 refine o15.must [105, 110] fun k16 S16 e16 o16 r17=>?_
 try simp only[e16,Z]at q
 clear o15 r16 e16
 simp [gz, *]
 (focus repeat' first|refine ga ?_|(refine gb ?_;try simp[gz, *])|refine gk fun _ _=>?_|refine gc ?_ ?_|exact gr _|refine gi fun _=>?_|(refine gn ?_ ?_;focus(intros;simp[*];done)))
 obtain ⟨l5,S17,h5,q⟩:=bo2 q
 refine o16.call (ih _ _ (by omega)) h5 fun k17 u13 u14 v7 e17 o17 r18=>?_
 try simp only[e17,Z]at q
 clear o16 r17 h5
 simp [gz, *]
 (focus repeat' first|refine ga ?_|(refine gb ?_;try simp[gz, *])|refine gk fun _ _=>?_|refine gc ?_ ?_|exact gr _|refine gi fun _=>?_|(refine gn ?_ ?_;focus(intros;simp[*];done)))
 refine o17.must [41] fun k18 S18 e18 o18 r19=>?_
 try simp only[e18,Z]at q
 clear o17 r18 e18
 simp [gz, *]
 (focus repeat' first|refine ga ?_|(refine gb ?_;try simp[gz, *])|refine gk fun _ _=>?_|refine gc ?_ ?_|exact gr _|refine gi fun _=>?_|(refine gn ?_ ?_;focus(intros;simp[*];done)))
 obtain ⟨l6,S19,h6,q⟩:=bo2 q
 refine o18.call (ih _ _ (by omega)) h6 fun k19 u15 u16 v8 e19 o19 r20=>?_
 try simp only[e19,Z]at q
 clear o18 r19 h6 e17
 simp [gz, *]
 (focus repeat' first|refine ga ?_|(refine gb ?_;try simp[gz, *])|refine gk fun _ _=>?_|refine gc ?_ ?_|exact gr _|refine gi fun _=>?_|(refine gn ?_ ?_;focus(intros;simp[*];done)))
 refine o19.add 33 at_ (x1 ++ [9] ++ x2) 0 [v7, v8] (fun k20 u17 u18 v9 S20 e20 o20 r21=>?_)
 try simp only[e20,Z]at q
 clear o19 r20 e20 e19
 obtain ⟨rfl,rfl⟩:=fi q
 simp [gz, *]
 (focus repeat' first|refine ga ?_|(refine gb ?_;try simp[gz, *])|refine gk fun _ _=>?_|refine gc ?_ ?_|exact gr _|refine gi fun _=>?_|(refine gn ?_ ?_;focus(intros;simp[*];done)))
 exact hR.out _ _ _ o20.fin
 try simp only[et d2,d2,Z]at q
 simp [gz, *]
 (focus repeat' first|refine ga ?_|(refine gb ?_;try simp[gz, *])|refine gk fun _ _=>?_|refine gc ?_ ?_|exact gr _|refine gi fun _=>?_|(refine gn ?_ ?_;focus(intros;simp[*];done)))
 refine o15.wrong 4 fun k21 S21 e21 o21 r22=>?_
 try simp only[e21,Z]at q
 clear o15 r16 e21
 simp [gz, *]
 (focus repeat' first|refine ga ?_|(refine gb ?_;try simp[gz, *])|refine gk fun _ _=>?_|refine gc ?_ ?_|exact gr _|refine gi fun _=>?_|(refine gn ?_ ?_;focus(intros;simp[*];done)))
 refine o21.must [105, 110] fun k22 S22 e22 o22 r23=>?_
 try simp only[e22,Z]at q
 clear o21 r22 e22
 simp [gz, *]
 (focus repeat' first|refine ga ?_|(refine gb ?_;try simp[gz, *])|refine gk fun _ _=>?_|refine gc ?_ ?_|exact gr _|refine gi fun _=>?_|(refine gn ?_ ?_;focus(intros;simp[*];done)))
 obtain ⟨l7,S23,h7,q⟩:=bo2 q
 refine o22.call (ih _ _ (by omega)) h7 fun k23 u19 u20 v10 e23 o23 r24=>?_
 try simp only[e23,Z]at q
 clear o22 r23 h7
 simp [gz, *]
 (focus repeat' first|refine ga ?_|(refine gb ?_;try simp[gz, *])|refine gk fun _ _=>?_|refine gc ?_ ?_|exact gr _|refine gi fun _=>?_|(refine gn ?_ ?_;focus(intros;simp[*];done)))
 refine o23.must [41] fun k24 S24 e24 o24 r25=>?_
 try simp only[e24,Z]at q
 clear o23 r24 e24
 simp [gz, *]
 (focus repeat' first|refine ga ?_|(refine gb ?_;try simp[gz, *])|refine gk fun _ _=>?_|refine gc ?_ ?_|exact gr _|refine gi fun _=>?_|(refine gn ?_ ?_;focus(intros;simp[*];done)))
 obtain ⟨l8,S25,h8,q⟩:=bo2 q
 refine o24.call (ih _ _ (by omega)) h8 fun k25 u21 u22 v11 e25 o25 r26=>?_
 try simp only[e25,Z]at q
 clear o24 r25 h8 e23
 simp [gz, *]
 (focus repeat' first|refine ga ?_|(refine gb ?_;try simp[gz, *])|refine gk fun _ _=>?_|refine gc ?_ ?_|exact gr _|refine gi fun _=>?_|(refine gn ?_ ?_;focus(intros;simp[*];done)))
 refine o25.add 33 at_ (x1 ++ [9] ++ x2) 0 [v10, v11] (fun k26 u23 u24 v12 S26 e26 o26 r27=>?_)
 try simp only[e26,Z]at q
 clear o25 r26 e26 e25
 obtain ⟨rfl,rfl⟩:=fi q
 simp [gz, *]
 (focus repeat' first|refine ga ?_|(refine gb ?_;try simp[gz, *])|refine gk fun _ _=>?_|refine gc ?_ ?_|exact gr _|refine gi fun _=>?_|(refine gn ?_ ?_;focus(intros;simp[*];done)))
 exact hR.out _ _ _ o26.fin
end Go.Proofs.YtcbgpjlcfkkdlaaGreatDoor

