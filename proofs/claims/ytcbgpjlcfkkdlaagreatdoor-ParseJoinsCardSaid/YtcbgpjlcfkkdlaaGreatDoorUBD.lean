import Derived.Test.YtcbgpjlcfkkdlaaGreatDoorUAX
set_option linter.unusedSimpArgs false
set_option linter.unusedVariables false
set_option maxRecDepth 100000
set_option maxHeartbeats 16000000
namespace Go.Proofs.YtcbgpjlcfkkdlaaGreatDoor
open Go Go.AL Go.Proofs
theorem enum_w (T : List Tk) (tt : Tok) (n : Nat) (hn : n ≤ 1000000) (at_ : Int) (ih : ∀ m op, m ≤ n → Meth T tt m op) : Meth T tt (n + 1) (.enum at_) := by
 refine Meth.of fun S l S' q r t1 t2 B h o R hR=>?_
 simp only[run,Z]at q
 refine acalls_of Tryz.func86 rfl Tryz.ntmps86 (congrArg Array.toList Tryz.results86) fun Q hQ => ?_
 have r1:=o.own.blk
 (focus repeat' first|refine ga ?_|(refine gb ?_;try simp[gz, *])|refine gk fun _ _=>?_)
 refine o.name fun k1 x1 S1 e1 o1 r2=>?_
 try simp only[e1,Z]at q
 clear o r1 e1
 simp [gz, *]
 (focus repeat' first|refine ga ?_|(refine gb ?_;try simp[gz, *])|refine gk fun _ _=>?_)
 refine o1.must [123] fun k2 S2 e2 o2 r3=>?_
 try simp only[e2,Z]at q
 clear o1 r2 e2
 simp [gz, *]
 (focus repeat' first|refine ga ?_|(refine gb ?_;try simp[gz, *])|refine gk fun _ _=>?_)
 obtain ⟨l1,S3,h1,qo1⟩:=bo2 q
 clear q
 refine awp_loop_h [6,7,8,9,10,11,16,17,18,19,20,21,22,23,24,25,26,27,28,29,30,31,32,33,34,35,36,37,38,39,40,41,42,43,44,45,46,47,48,49,50,51,52,53,54,55,56,57,58,59,60,61,62,63] (fun m x g=>∃ (a:Nat) (Sq:St) (kids:List Int) (v : Int) (w1 w2 tk:Tok),a ≤ n ∧ m=a ∧ Sh (run T a (.enumLoop v kids) Sq=some (l1,S3)) ∧ Cur B (Heap.bk B tk) g T tt S Sq r w1 w2 (kids) ∧ Lf B B tk ∧ kids.length+2*a ≤ 2*n+0 ∧ x 6=.list 1 (ints kids) tk ∧ x 7 = .int .i64 v) n
  ⟨n,_,[],0,t1,t2,.nil,by omega,rfl,h1,Cur.wk o2,o2.lf,by first|(simp;done)|(simp;omega),rfl,rfl⟩ fun m x g hI K hK=>?_
 clear o2 h1 r3
 obtain ⟨a,Sq,kids,v,w1,w2,tk,hq,rfl,q,o3,lf1,hkl,hx,hx0⟩:=hI
 obtain ⟨p,rfl⟩:=run_pos q
 simp only[run,Z]at q
 have r4:=o3.own.blk
 by_cases hgo:Sq.fc=0 ∧ isL T [125] Sq=false
 have hfd:=decide_eq_true hgo.1
 have hil0:=hgo.2
 rw [if_pos hgo]at q
 clear hgo
 refine awp_eqs (s' := [_,_,_,_,_,_,x 6,x 7,x 8,x 9,x 10,x 11,_,_,_,_,x 16,x 17,x 18,x 19,x 20,x 21,x 22,x 23,x 24,x 25,x 26,x 27,x 28,x 29,x 30,x 31,x 32,x 33,x 34,x 35,x 36,x 37,x 38,x 39,x 40,x 41,x 42,x 43,x 44,x 45,x 46,x 47,x 48,x 49,x 50,x 51,x 52,x 53,x 54,x 55,x 56,x 57,x 58,x 59,x 60,x 61,x 62,x 63,_,_,_,_,_,_,_]) rfl ?_
 (focus repeat' first|refine ga ?_|(refine gb ?_;try simp[gz, *])|refine gk fun _ _=>?_)
 refine o3.ok ?_
 simp [gz, *]
 (focus repeat' first|refine ga ?_|(refine gb ?_;try simp[gz, *])|refine gk fun _ _=>?_)
 refine o3.is [125] ?_
 simp [gz, *]
 (focus repeat' first|refine ga ?_|(refine gb ?_;try simp[gz, *])|refine gk fun _ _=>?_)
 clear hfd hil0
 obtain ⟨t,ht_t⟩:∃ x,Sh (peekL T Sq=x):=⟨_,⟨rfl⟩⟩
 try simp only[ht_t.out,Z]at q
 refine o3.peek ht_t ?_
 simp [gz, *]
 intro b8 zb8
 obtain ⟨n_r_b8,n_b8_r⟩:=o3.ne zb8
 have yb8:=o3.y zb8
 have o4:=o3.new zb8 (.cells (tkRow t))
 clear o3 zb8
 try simp [gz, *]
 (focus repeat' first|refine ga ?_|(refine gb ?_;try simp[gz, *])|refine gk fun _ _=>?_)
 refine o4.settle fun k3 o5 r5=>?_
 have p1:=o5.b1
 clear o4 r4
 refine o5.name fun k4 x2 S4 e3 o6 r6=>?_
 try simp only[e3,Z]at q
 have p2:=o6.b1
 clear o5 r5 p1 e3
 simp [gz, *]
 (focus repeat' first|refine ga ?_|(refine gb ?_;try simp[gz, *])|refine gk fun _ _=>?_)
 refine o6.eat [61] (fun c1 k5 o7 r7=>?_) fun c1 k5 S5 e4 z1 o7 r7=>?_
 try simp only[c1,Z]at q
 have p3:=o7.b1
 clear o6 r6 p2 c1
 simp [gz, *]
 (focus repeat' first|refine ga ?_|(refine gb ?_;try simp[gz, *])|refine gk fun _ _=>?_)
 refine o7.add 25 t.pos x2 v [] (fun k6 u1 u2 v1 S6 e5 o8 r8=>?_)
 try simp only[e5,Z]at q
 have p4:=o8.b1
 clear o7 r7 p3 e5
 simp [gz, *]
 (focus repeat' first|refine ga ?_|(refine gb ?_;try simp[gz, *])|refine gk fun _ _=>?_)
 have o9:=(o8.drop yb8)
 clear o8
 refine .inl ⟨o9.tin lf1,fun ab1 ak1 ae1 hb=>?_⟩
 obtain ⟨o10,lf2⟩:=o9.grow lf1 (k:=ak1) (e:=ae1) hb
 generalize (tk.rid k6).set ab1 (.spare ak1 ae1)=k7 at o10 ⊢
 clear hb o9 r8 p4
 have r9:=o10.own.blk
 simp [gz, *]
 (focus repeat' first|refine ga ?_|(refine gb ?_;try simp[gz, *])|refine gk fun _ _=>?_)
 refine NumAdd_c v 1 _ _ ?_
 simp [gz, *]
 (focus repeat' first|refine ga ?_|(refine gb ?_;try simp[gz, *])|refine gk fun _ _=>?_)
 refine o10.eat [44] (fun c2 k8 o11 r10=>?_) fun c2 k8 S7 e6 z2 o11 r10=>?_
 try simp only[c2,Z]at q
 clear o10 r9 c2
 obtain ⟨rfl,rfl⟩:=fi q
 clear q
 have q:=qo1
 simp only[Z]at q
 simp [gz, *]
 (focus repeat' first|refine ga ?_|(refine gb ?_;try simp[gz, *])|refine gk fun _ _=>?_)
 refine o11.must [125] fun k9 S8 e7 o12 r11=>?_
 try simp only[e7,Z]at q
 clear o11 r10 e7
 simp [gz, *]
 (focus repeat' first|refine ga ?_|(refine gb ?_;try simp[gz, *])|refine gk fun _ _=>?_)
 refine o12.add 42 at_ x1 0 (kids ++ [v1]) (fun k10 u3 u4 v2 S9 e8 o13 r12=>?_) (hl:=(by simp;omega))
 try simp only[e8,Z]at q
 clear o12 r11 e8
 obtain ⟨rfl,rfl⟩:=fi q
 simp [gz, *]
 (focus repeat' first|refine ga ?_|(refine gb ?_;try simp[gz, *])|refine gk fun _ _=>?_)
 exact hR.out _ _ _ o13.fin
 try simp only[c2,e6,Z]at q
 clear o10 r9 e6 c2
 simp [gz, *]
 (focus repeat' first|refine ga ?_|(refine gb ?_;try simp[gz, *])|refine gk fun _ _=>?_)
 exact ⟨by kernel_rfl,rfl,p,_,by omega,Sub.refl _,p,_,kids ++ [v1],(IntKind.i64.wrap (v + 1)),u1,u2,(Tok.own ab1 ak1 ae1),by omega,rfl,q,Cur.wk o11,lf2,by simp;omega,by first|rfl|simp,rfl⟩
 try simp only[c1,e4,Z]at q
 have p5:=o7.b1
 clear o6 r6 p2 e4 c1
 simp [gz, *]
 (focus repeat' first|refine ga ?_|(refine gb ?_;try simp[gz, *])|refine gk fun _ _=>?_)
 refine o7.eat [45] (fun c3 k11 o14 r13=>?_) fun c3 k11 S10 e9 z3 o14 r13=>?_
 try simp only[c3,Z]at q
 have p6:=o14.b1
 clear o7 r7 p5 c3
 obtain ⟨u,ht_u⟩:∃ x,Sh (peekL T S5=x):=⟨_,⟨rfl⟩⟩
 try simp only[ht_u.out,Z]at q
 simp [gz, *]
 (focus repeat' first|refine ga ?_|(refine gb ?_;try simp[gz, *])|refine gk fun _ _=>?_)
 refine o14.peek ht_u ?_
 simp [gz, *]
 intro b11 zb11
 obtain ⟨n_r_b11,n_b11_r⟩:=o14.ne zb11
 obtain ⟨n_b8_b11,n_b11_b8⟩:=ne2 p6 zb11
 have yb11:=o14.y zb11
 have o15:=o14.new zb11 (.cells (tkRow u))
 clear o14 zb11
 try simp [gz, *]
 cases d1:decide (u.kind = 3)
 try simp only[ef d1,d1,Z]at q
 (focus repeat' first|refine ga ?_|(refine gb ?_;try simp[gz, *])|refine gk fun _ _=>?_)
 refine o15.settle fun k12 o16 r14=>?_
 have p7:=o16.b1
 have p8:=o16.b2 n_b8_b11
 clear o15 r13 p6
 have gw:=goes_wrong_step o16.good z1.out 5 (by decide)
 refine o16.wrong 5 fun k13 S11 e10 o17 r15=>?_
 rw [e10]at gw
 try simp only[e10,Z]at q
 have p9:=o17.b1
 have p10:=o17.b2 n_b8_b11
 clear o16 r14 p7 p8 e10
 have w1:=o17.good.rd.w1
 simp [gz, *]
 (focus repeat' first|refine ga ?_|(refine gb ?_;try simp[gz, *])|refine gk fun _ _=>?_)
 have o18:=o17.put (gw)
 clear o17
 refine o18.settle fun k14 o19 r16=>?_
 have p11:=o19.b1
 have p12:=o19.b2 n_b8_b11
 clear o18 r15 p9 p10
 refine o19.add 25 t.pos x2 u.num [] (fun k15 u5 u6 v3 S12 e11 o20 r17=>?_)
 try simp only[e11,Z]at q
 have p13:=o20.b1
 have p14:=o20.b2 n_b8_b11
 clear o19 r16 p11 p12 e11
 simp [gz, *]
 (focus repeat' first|refine ga ?_|(refine gb ?_;try simp[gz, *])|refine gk fun _ _=>?_)
 have o21:=((o20.drop yb11).drop yb8)
 clear o20
 refine .inl ⟨o21.tin lf1,fun ab2 ak2 ae2 hb=>?_⟩
 obtain ⟨o22,lf3⟩:=o21.grow lf1 (k:=ak2) (e:=ae2) hb
 generalize (tk.rid k15).set ab2 (.spare ak2 ae2)=k16 at o22 ⊢
 clear hb o21 r17 p13 p14
 have r18:=o22.own.blk
 simp [gz, *]
 (focus repeat' first|refine ga ?_|(refine gb ?_;try simp[gz, *])|refine gk fun _ _=>?_)
 refine NumAdd_c u.num 1 _ _ ?_
 simp [gz, *]
 (focus repeat' first|refine ga ?_|(refine gb ?_;try simp[gz, *])|refine gk fun _ _=>?_)
 refine o22.eat [44] (fun c4 k17 o23 r19=>?_) fun c4 k17 S13 e12 z4 o23 r19=>?_
 try simp only[c4,Z]at q
 clear o22 r18 c4
 obtain ⟨rfl,rfl⟩:=fi q
 clear q
 have q:=qo1
 simp only[Z]at q
 simp [gz, *]
 (focus repeat' first|refine ga ?_|(refine gb ?_;try simp[gz, *])|refine gk fun _ _=>?_)
 refine o23.must [125] fun k18 S14 e13 o24 r20=>?_
 try simp only[e13,Z]at q
 clear o23 r19 e13
 simp [gz, *]
 (focus repeat' first|refine ga ?_|(refine gb ?_;try simp[gz, *])|refine gk fun _ _=>?_)
 refine o24.add 42 at_ x1 0 (kids ++ [v3]) (fun k19 u7 u8 v4 S15 e14 o25 r21=>?_) (hl:=(by simp;omega))
 try simp only[e14,Z]at q
 clear o24 r20 e14
 obtain ⟨rfl,rfl⟩:=fi q
 simp [gz, *]
 (focus repeat' first|refine ga ?_|(refine gb ?_;try simp[gz, *])|refine gk fun _ _=>?_)
 exact hR.out _ _ _ o25.fin
 try simp only[c4,e12,Z]at q
 clear o22 r18 e12 c4
 simp [gz, *]
 (focus repeat' first|refine ga ?_|(refine gb ?_;try simp[gz, *])|refine gk fun _ _=>?_)
 exact ⟨by kernel_rfl,rfl,p,_,by omega,Sub.refl _,p,_,kids ++ [v3],(IntKind.i64.wrap (u.num + 1)),u5,u6,(Tok.own ab2 ak2 ae2),by omega,rfl,q,Cur.wk o23,lf3,by simp;omega,by first|rfl|simp,rfl⟩
 try simp only[et d1,d1,Z]at q
 have w2:=o15.good.rd.w1
 (focus repeat' first|refine ga ?_|(refine gb ?_;try simp[gz, *])|refine gk fun _ _=>?_)
 have o26:=o15.stepped (kk ht_u d1)
 clear o15
 refine o26.settle fun k20 o27 r22=>?_
 have p15:=o27.b1
 have p16:=o27.b2 n_b8_b11
 clear o26 r13 p6 w2
 refine o27.add 25 t.pos x2 u.num [] (fun k21 u9 u10 v5 S16 e15 o28 r23=>?_)
 try simp only[e15,Z]at q
 have p17:=o28.b1
 have p18:=o28.b2 n_b8_b11
 clear o27 r22 p15 p16 e15
 simp [gz, *]
 (focus repeat' first|refine ga ?_|(refine gb ?_;try simp[gz, *])|refine gk fun _ _=>?_)
 have o29:=((o28.drop yb11).drop yb8)
 clear o28
 refine .inl ⟨o29.tin lf1,fun ab3 ak3 ae3 hb=>?_⟩
 obtain ⟨o30,lf4⟩:=o29.grow lf1 (k:=ak3) (e:=ae3) hb
 generalize (tk.rid k21).set ab3 (.spare ak3 ae3)=k22 at o30 ⊢
 clear hb o29 r23 p17 p18
 have r24:=o30.own.blk
 simp [gz, *]
 (focus repeat' first|refine ga ?_|(refine gb ?_;try simp[gz, *])|refine gk fun _ _=>?_)
 refine NumAdd_c u.num 1 _ _ ?_
 simp [gz, *]
 (focus repeat' first|refine ga ?_|(refine gb ?_;try simp[gz, *])|refine gk fun _ _=>?_)
 refine o30.eat [44] (fun c5 k23 o31 r25=>?_) fun c5 k23 S17 e16 z5 o31 r25=>?_
 try simp only[c5,Z]at q
 clear o30 r24 c5
 obtain ⟨rfl,rfl⟩:=fi q
 clear q
 have q:=qo1
 simp only[Z]at q
 simp [gz, *]
 (focus repeat' first|refine ga ?_|(refine gb ?_;try simp[gz, *])|refine gk fun _ _=>?_)
 refine o31.must [125] fun k24 S18 e17 o32 r26=>?_
 try simp only[e17,Z]at q
 clear o31 r25 e17
 simp [gz, *]
 (focus repeat' first|refine ga ?_|(refine gb ?_;try simp[gz, *])|refine gk fun _ _=>?_)
 refine o32.add 42 at_ x1 0 (kids ++ [v5]) (fun k25 u11 u12 v6 S19 e18 o33 r27=>?_) (hl:=(by simp;omega))
 try simp only[e18,Z]at q
 clear o32 r26 e18
 obtain ⟨rfl,rfl⟩:=fi q
 simp [gz, *]
 (focus repeat' first|refine ga ?_|(refine gb ?_;try simp[gz, *])|refine gk fun _ _=>?_)
 exact hR.out _ _ _ o33.fin
 try simp only[c5,e16,Z]at q
 clear o30 r24 e16 c5
 simp [gz, *]
 (focus repeat' first|refine ga ?_|(refine gb ?_;try simp[gz, *])|refine gk fun _ _=>?_)
 exact ⟨by kernel_rfl,rfl,p,_,by omega,Sub.refl _,p,_,kids ++ [v5],(IntKind.i64.wrap (u.num + 1)),u9,u10,(Tok.own ab3 ak3 ae3),by omega,rfl,q,Cur.wk o31,lf4,by simp;omega,by first|rfl|simp,rfl⟩
 try simp only[c3,e9,Z]at q
 have p19:=o14.b1
 clear o7 r7 p5 e9 c3
 obtain ⟨u,ht_u⟩:∃ x,Sh (peekL T S10=x):=⟨_,⟨rfl⟩⟩
 try simp only[ht_u.out,Z]at q
 simp [gz, *]
 (focus repeat' first|refine ga ?_|(refine gb ?_;try simp[gz, *])|refine gk fun _ _=>?_)
 refine o14.peek ht_u ?_
 simp [gz, *]
 intro b11 zb11
 obtain ⟨n_r_b11,n_b11_r⟩:=o14.ne zb11
 obtain ⟨n_b8_b11,n_b11_b8⟩:=ne2 p19 zb11
 have yb11:=o14.y zb11
 have o34:=o14.new zb11 (.cells (tkRow u))
 clear o14 zb11
 try simp [gz, *]
 cases d2:decide (u.kind = 3)
 try simp only[ef d2,d2,Z]at q
 (focus repeat' first|refine ga ?_|(refine gb ?_;try simp[gz, *])|refine gk fun _ _=>?_)
 refine o34.settle fun k26 o35 r28=>?_
 have p20:=o35.b1
 have p21:=o35.b2 n_b8_b11
 clear o34 r13 p19
 have gw:=goes_wrong_step o35.good z3.out 5 (by decide)
 refine o35.wrong 5 fun k27 S20 e19 o36 r29=>?_
 rw [e19]at gw
 try simp only[e19,Z]at q
 have p22:=o36.b1
 have p23:=o36.b2 n_b8_b11
 clear o35 r28 p20 p21 e19
 have w3:=o36.good.rd.w1
 simp [gz, *]
 (focus repeat' first|refine ga ?_|(refine gb ?_;try simp[gz, *])|refine gk fun _ _=>?_)
 have o37:=o36.put (gw)
 clear o36
 refine o37.settle fun k28 o38 r30=>?_
 have p24:=o38.b1
 have p25:=o38.b2 n_b8_b11
 clear o37 r29 p22 p23
 refine Neg_c u.num _ _ ?_
 simp [gz, *]
 (focus repeat' first|refine ga ?_|(refine gb ?_;try simp[gz, *])|refine gk fun _ _=>?_)
 refine o38.add 25 t.pos x2 (IntKind.i64.wrap (-u.num)) [] (fun k29 u13 u14 v7 S21 e20 o39 r31=>?_)
 try simp only[e20,Z]at q
 have p26:=o39.b1
 have p27:=o39.b2 n_b8_b11
 clear o38 r30 p24 p25 e20
 simp [gz, *]
 (focus repeat' first|refine ga ?_|(refine gb ?_;try simp[gz, *])|refine gk fun _ _=>?_)
 have o40:=((o39.drop yb11).drop yb8)
 clear o39
 refine .inl ⟨o40.tin lf1,fun ab4 ak4 ae4 hb=>?_⟩
 obtain ⟨o41,lf5⟩:=o40.grow lf1 (k:=ak4) (e:=ae4) hb
 generalize (tk.rid k29).set ab4 (.spare ak4 ae4)=k30 at o41 ⊢
 clear hb o40 r31 p26 p27
 have r32:=o41.own.blk
 simp [gz, *]
 (focus repeat' first|refine ga ?_|(refine gb ?_;try simp[gz, *])|refine gk fun _ _=>?_)
 refine NumAdd_c (IntKind.i64.wrap (-u.num)) 1 _ _ ?_
 simp [gz, *]
 (focus repeat' first|refine ga ?_|(refine gb ?_;try simp[gz, *])|refine gk fun _ _=>?_)
 refine o41.eat [44] (fun c6 k31 o42 r33=>?_) fun c6 k31 S22 e21 z6 o42 r33=>?_
 try simp only[c6,Z]at q
 clear o41 r32 c6
 obtain ⟨rfl,rfl⟩:=fi q
 clear q
 have q:=qo1
 simp only[Z]at q
 simp [gz, *]
 (focus repeat' first|refine ga ?_|(refine gb ?_;try simp[gz, *])|refine gk fun _ _=>?_)
 refine o42.must [125] fun k32 S23 e22 o43 r34=>?_
 try simp only[e22,Z]at q
 clear o42 r33 e22
 simp [gz, *]
 (focus repeat' first|refine ga ?_|(refine gb ?_;try simp[gz, *])|refine gk fun _ _=>?_)
 refine o43.add 42 at_ x1 0 (kids ++ [v7]) (fun k33 u15 u16 v8 S24 e23 o44 r35=>?_) (hl:=(by simp;omega))
 try simp only[e23,Z]at q
 clear o43 r34 e23
 obtain ⟨rfl,rfl⟩:=fi q
 simp [gz, *]
 (focus repeat' first|refine ga ?_|(refine gb ?_;try simp[gz, *])|refine gk fun _ _=>?_)
 exact hR.out _ _ _ o44.fin
 try simp only[c6,e21,Z]at q
 clear o41 r32 e21 c6
 simp [gz, *]
 (focus repeat' first|refine ga ?_|(refine gb ?_;try simp[gz, *])|refine gk fun _ _=>?_)
 exact ⟨by kernel_rfl,rfl,p,_,by omega,Sub.refl _,p,_,kids ++ [v7],(IntKind.i64.wrap ((IntKind.i64.wrap (-u.num)) + 1)),u13,u14,(Tok.own ab4 ak4 ae4),by omega,rfl,q,Cur.wk o42,lf5,by simp;omega,by first|rfl|simp,rfl⟩
 try simp only[et d2,d2,Z]at q
 have w4:=o34.good.rd.w1
 (focus repeat' first|refine ga ?_|(refine gb ?_;try simp[gz, *])|refine gk fun _ _=>?_)
 have o45:=o34.stepped (kk ht_u d2)
 clear o34
 refine o45.settle fun k34 o46 r36=>?_
 have p28:=o46.b1
 have p29:=o46.b2 n_b8_b11
 clear o45 r13 p19 w4
 refine Neg_c u.num _ _ ?_
 simp [gz, *]
 (focus repeat' first|refine ga ?_|(refine gb ?_;try simp[gz, *])|refine gk fun _ _=>?_)
 refine o46.add 25 t.pos x2 (IntKind.i64.wrap (-u.num)) [] (fun k35 u17 u18 v9 S25 e24 o47 r37=>?_)
 try simp only[e24,Z]at q
 have p30:=o47.b1
 have p31:=o47.b2 n_b8_b11
 clear o46 r36 p28 p29 e24
 simp [gz, *]
 (focus repeat' first|refine ga ?_|(refine gb ?_;try simp[gz, *])|refine gk fun _ _=>?_)
 have o48:=((o47.drop yb11).drop yb8)
 clear o47
 refine .inl ⟨o48.tin lf1,fun ab5 ak5 ae5 hb=>?_⟩
 obtain ⟨o49,lf6⟩:=o48.grow lf1 (k:=ak5) (e:=ae5) hb
 generalize (tk.rid k35).set ab5 (.spare ak5 ae5)=k36 at o49 ⊢
 clear hb o48 r37 p30 p31
 have r38:=o49.own.blk
 simp [gz, *]
 (focus repeat' first|refine ga ?_|(refine gb ?_;try simp[gz, *])|refine gk fun _ _=>?_)
 refine NumAdd_c (IntKind.i64.wrap (-u.num)) 1 _ _ ?_
 simp [gz, *]
 (focus repeat' first|refine ga ?_|(refine gb ?_;try simp[gz, *])|refine gk fun _ _=>?_)
 refine o49.eat [44] (fun c7 k37 o50 r39=>?_) fun c7 k37 S26 e25 z7 o50 r39=>?_
 try simp only[c7,Z]at q
 clear o49 r38 c7
 obtain ⟨rfl,rfl⟩:=fi q
 clear q
 have q:=qo1
 simp only[Z]at q
 simp [gz, *]
 (focus repeat' first|refine ga ?_|(refine gb ?_;try simp[gz, *])|refine gk fun _ _=>?_)
 refine o50.must [125] fun k38 S27 e26 o51 r40=>?_
 try simp only[e26,Z]at q
 clear o50 r39 e26
 simp [gz, *]
 (focus repeat' first|refine ga ?_|(refine gb ?_;try simp[gz, *])|refine gk fun _ _=>?_)
 refine o51.add 42 at_ x1 0 (kids ++ [v9]) (fun k39 u19 u20 v10 S28 e27 o52 r41=>?_) (hl:=(by simp;omega))
 try simp only[e27,Z]at q
 clear o51 r40 e27
 obtain ⟨rfl,rfl⟩:=fi q
 simp [gz, *]
 (focus repeat' first|refine ga ?_|(refine gb ?_;try simp[gz, *])|refine gk fun _ _=>?_)
 exact hR.out _ _ _ o52.fin
 try simp only[c7,e25,Z]at q
 clear o49 r38 e25 c7
 simp [gz, *]
 (focus repeat' first|refine ga ?_|(refine gb ?_;try simp[gz, *])|refine gk fun _ _=>?_)
 exact ⟨by kernel_rfl,rfl,p,_,by omega,Sub.refl _,p,_,kids ++ [v9],(IntKind.i64.wrap ((IntKind.i64.wrap (-u.num)) + 1)),u17,u18,(Tok.own ab5 ak5 ae5),by omega,rfl,q,Cur.wk o50,lf6,by simp;omega,by first|rfl|simp,rfl⟩
 rw [if_neg hgo]at q
 obtain ⟨rfl,rfl⟩:=fi q
 clear q
 have q:=qo1
 simp only[Z]at q
 cases hfd:decide (Sq.fc=0)
 clear hgo
 refine awp_eqs (s' := [_,_,_,_,_,_,x 6,x 7,x 8,x 9,x 10,x 11,_,_,_,_,x 16,x 17,x 18,x 19,x 20,x 21,x 22,x 23,x 24,x 25,x 26,x 27,x 28,x 29,x 30,x 31,x 32,x 33,x 34,x 35,x 36,x 37,x 38,x 39,x 40,x 41,x 42,x 43,x 44,x 45,x 46,x 47,x 48,x 49,x 50,x 51,x 52,x 53,x 54,x 55,x 56,x 57,x 58,x 59,x 60,x 61,x 62,x 63,_,_,_,_,_,_,_]) rfl ?_
 (focus repeat' first|refine ga ?_|(refine gb ?_;try simp[gz, *])|refine gk fun _ _=>?_)
 refine o3.ok ?_
 simp [gz, *]
 (focus repeat' first|refine ga ?_|(refine gb ?_;try simp[gz, *])|refine gk fun _ _=>?_)
 refine o3.must [125] fun k40 S29 e28 o53 r42=>?_
 try simp only[e28,Z]at q
 clear o3 r4 e28
 simp [gz, *]
 (focus repeat' first|refine ga ?_|(refine gb ?_;try simp[gz, *])|refine gk fun _ _=>?_)
 refine o53.add 42 at_ x1 0 kids (fun k41 u21 u22 v11 S30 e29 o54 r43=>?_) (hl:=(by omega))
 try simp only[e29,Z]at q
 clear o53 r42 e29
 obtain ⟨rfl,rfl⟩:=fi q
 simp [gz, *]
 (focus repeat' first|refine ga ?_|(refine gb ?_;try simp[gz, *])|refine gk fun _ _=>?_)
 exact hR.out _ _ _ o54.fin
 have hil0:isL T [125] Sq=true:=by
  cases e:isL T [125] Sq
  · exact absurd ⟨of_decide_eq_true hfd,e⟩ hgo
  · rfl
 clear hgo
 refine awp_eqs (s' := [_,_,_,_,_,_,x 6,x 7,x 8,x 9,x 10,x 11,_,_,_,_,x 16,x 17,x 18,x 19,x 20,x 21,x 22,x 23,x 24,x 25,x 26,x 27,x 28,x 29,x 30,x 31,x 32,x 33,x 34,x 35,x 36,x 37,x 38,x 39,x 40,x 41,x 42,x 43,x 44,x 45,x 46,x 47,x 48,x 49,x 50,x 51,x 52,x 53,x 54,x 55,x 56,x 57,x 58,x 59,x 60,x 61,x 62,x 63,_,_,_,_,_,_,_]) rfl ?_
 (focus repeat' first|refine ga ?_|(refine gb ?_;try simp[gz, *])|refine gk fun _ _=>?_)
 refine o3.ok ?_
 simp [gz, *]
 (focus repeat' first|refine ga ?_|(refine gb ?_;try simp[gz, *])|refine gk fun _ _=>?_)
 refine o3.is [125] ?_
 simp [gz, *]
 (focus repeat' first|refine ga ?_|(refine gb ?_;try simp[gz, *])|refine gk fun _ _=>?_)
 refine o3.must [125] fun k42 S31 e30 o55 r44=>?_
 try simp only[e30,Z]at q
 clear o3 r4 e30
 simp [gz, *]
 (focus repeat' first|refine ga ?_|(refine gb ?_;try simp[gz, *])|refine gk fun _ _=>?_)
 refine o55.add 42 at_ x1 0 kids (fun k43 u23 u24 v12 S32 e31 o56 r45=>?_) (hl:=(by omega))
 try simp only[e31,Z]at q
 clear o55 r44 e31
 obtain ⟨rfl,rfl⟩:=fi q
 simp [gz, *]
 (focus repeat' first|refine ga ?_|(refine gb ?_;try simp[gz, *])|refine gk fun _ _=>?_)
 exact hR.out _ _ _ o56.fin
end Go.Proofs.YtcbgpjlcfkkdlaaGreatDoor

namespace Go.Proofs.YtcbgpjlcfkkdlaaGreatDoor
open Go Go.AL Go.Proofs
theorem params_w (T : List Tk) (tt : Tok) (n : Nat) (hn : n ≤ 1000000) (at_ : Int) (name : List UInt8) (ih : ∀ m op, m ≤ n → Meth T tt m op) : Meth T tt (n + 1) (.params at_ name) := by
 refine Meth.of fun S l S' q r t1 t2 B h o R hR=>?_
 simp only[run,Z]at q
 refine acalls_ofD Tryz.func145 rfl Tryz.ntmps145 (congrArg Array.toList Tryz.results145) fun Q hQ => ?_
 have r1:=o.own.blk
 (focus repeat' first|refine ga ?_|(refine gb ?_;try simp[gz, *])|refine gk fun _ _=>?_)
 refine o.down fun k1 S1 e1 o1 r2=>?_
 try simp only[e1,Z]at q
 clear o r1 e1
 simp [gz, *]
 (focus repeat' first|refine ga ?_|(refine gb ?_;try simp[gz, *])|refine gk fun _ _=>?_)
 refine o1.must [40] fun k2 S2 e2 o2 r3=>?_
 try simp only[e2,Z]at q
 clear o1 r2 e2
 simp [gz, *]
 (focus repeat' first|refine ga ?_|(refine gb ?_;try simp[gz, *])|refine gk fun _ _=>?_)
 obtain ⟨l1,S3,h1,qo1⟩:=bo2 q
 clear q
 refine awp_loop_h [7,8,9,10,17,18,19,20,21,22,23,24,25,26,27,28,29,30,31,32,33,34,35,36,37,38,39,40,41,42,43,44] (fun m x g=>∃ (a:Nat) (Sq:St) (kids:List Int) (w1 w2 tk:Tok),a ≤ n ∧ m=a ∧ Sh (run T a (.paramsLoop kids) Sq=some (l1,S3)) ∧ Cur B (Heap.bk B tk) g T tt S Sq r w1 w2 (kids) ∧ Lf B B tk ∧ kids.length+2*a ≤ 2*n+0 ∧ x 7=.list 1 (ints kids) tk) n
  ⟨n,_,[],t1,t2,.nil,by omega,rfl,h1,Cur.wk o2,o2.lf,by first|(simp;done)|(simp;omega),rfl⟩ fun m x g hI K hK=>?_
 clear o2 h1 r3
 obtain ⟨a,Sq,kids,w1,w2,tk,hq,rfl,q,o3,lf1,hkl,hx⟩:=hI
 obtain ⟨p,rfl⟩:=run_pos q
 simp only[run,Z]at q
 have r4:=o3.own.blk
 by_cases hgo:Sq.fc=0 ∧ isL T [41] Sq=false
 have hfd:=decide_eq_true hgo.1
 have hil0:=hgo.2
 rw [if_pos hgo]at q
 clear hgo
 refine awp_eqs (s' := [_,_,_,_,_,_,_,x 7,x 8,x 9,x 10,_,_,_,_,_,_,x 17,x 18,x 19,x 20,x 21,x 22,x 23,x 24,x 25,x 26,x 27,x 28,x 29,x 30,x 31,x 32,x 33,x 34,x 35,x 36,x 37,x 38,x 39,x 40,x 41,x 42,x 43,x 44,_,_,_,_,_,_,_,_,_,_,_,_,_,_]) rfl ?_
 (focus repeat' first|refine ga ?_|(refine gb ?_;try simp[gz, *])|refine gk fun _ _=>?_)
 refine o3.ok ?_
 simp [gz, *]
 (focus repeat' first|refine ga ?_|(refine gb ?_;try simp[gz, *])|refine gk fun _ _=>?_)
 refine o3.is [41] ?_
 simp [gz, *]
 (focus repeat' first|refine ga ?_|(refine gb ?_;try simp[gz, *])|refine gk fun _ _=>?_)
 clear hfd hil0
 obtain ⟨t,ht_t⟩:∃ x,Sh (peekL T Sq=x):=⟨_,⟨rfl⟩⟩
 try simp only[ht_t.out,Z]at q
 refine o3.peek ht_t ?_
 simp [gz, *]
 intro b8 zb8
 obtain ⟨n_r_b8,n_b8_r⟩:=o3.ne zb8
 have yb8:=o3.y zb8
 have o4:=o3.new zb8 (.cells (tkRow t))
 clear o3 zb8
 try simp [gz, *]
 (focus repeat' first|refine ga ?_|(refine gb ?_;try simp[gz, *])|refine gk fun _ _=>?_)
 refine o4.settle fun k3 o5 r5=>?_
 have p1:=o5.b1
 clear o4 r4
 refine o5.name fun k4 x1 S4 e3 o6 r6=>?_
 try simp only[e3,Z]at q
 have p2:=o6.b1
 clear o5 r5 p1 e3
 simp [gz, *]
 (focus repeat' first|refine ga ?_|(refine gb ?_;try simp[gz, *])|refine gk fun _ _=>?_)
 refine o6.eat [61] (fun c1 k5 o7 r7=>?_) fun c1 k5 S5 e4 z1 o7 r7=>?_
 try simp only[c1,Z]at q
 have p3:=o7.b1
 clear o6 r6 p2 c1
 simp [gz, *]
 (focus repeat' first|refine ga ?_|(refine gb ?_;try simp[gz, *])|refine gk fun _ _=>?_)
 refine o7.add 22 t.pos x1 0 [-1] (fun k6 u1 u2 v1 S6 e5 o8 r8=>?_)
 try simp only[e5,Z]at q
 have p4:=o8.b1
 clear o7 r7 p3 e5
 simp [gz, *]
 (focus repeat' first|refine ga ?_|(refine gb ?_;try simp[gz, *])|refine gk fun _ _=>?_)
 have o9:=(o8.drop yb8)
 clear o8
 refine .inl ⟨o9.tin lf1,fun ab1 ak1 ae1 hb=>?_⟩
 obtain ⟨o10,lf2⟩:=o9.grow lf1 (k:=ak1) (e:=ae1) hb
 generalize (tk.rid k6).set ab1 (.spare ak1 ae1)=k7 at o10 ⊢
 clear hb o9 r8 p4
 have r9:=o10.own.blk
 simp [gz, *]
 (focus repeat' first|refine ga ?_|(refine gb ?_;try simp[gz, *])|refine gk fun _ _=>?_)
 refine o10.eat [44] (fun c2 k8 o11 r10=>?_) fun c2 k8 S7 e6 z2 o11 r10=>?_
 try simp only[c2,Z]at q
 clear o10 r9 c2
 obtain ⟨rfl,rfl⟩:=fi q
 clear q
 have q:=qo1
 simp only[Z]at q
 simp [gz, *]
 (focus repeat' first|refine ga ?_|(refine gb ?_;try simp[gz, *])|refine gk fun _ _=>?_)
 refine o11.must [41] fun k9 S8 e7 o12 r11=>?_
 try simp only[e7,Z]at q
 clear o11 r10 e7
 simp [gz, *]
 (focus repeat' first|refine ga ?_|(refine gb ?_;try simp[gz, *])|refine gk fun _ _=>?_)
 obtain ⟨l2,S9,h2,q⟩:=bo2 q
 refine o12.call (ih _ _ (by omega)) h2 fun k10 u3 u4 v2 e8 o13 r12=>?_
 try simp only[e8,Z]at q
 clear o12 r11 h2
 simp [gz, *]
 (focus repeat' first|refine ga ?_|(refine gb ?_;try simp[gz, *])|refine gk fun _ _=>?_)
 refine .inl ⟨o13.tin lf2,fun ab2 ak2 ae2 hb=>?_⟩
 obtain ⟨o15,lf3⟩:=o13.grow lf2 (k:=ak2) (e:=ae2) hb
 generalize ((Tok.own ab1 ak1 ae1).rid k10).set ab2 (.spare ak2 ae2)=k11 at o15 ⊢
 clear hb o13 r12
 have r13:=o15.own.blk
 simp [gz, *]
 (focus repeat' first|refine ga ?_|(refine gb ?_;try simp[gz, *])|refine gk fun _ _=>?_)
 refine o15.add 20 at_ name (((kids ++ [v1]).length : Nat) : Int) ((kids ++ [v1]) ++ [v2]) (fun k12 u5 u6 v3 S10 e9 o16 r14=>?_) (hl:=(by simp;omega))
 try simp only[e9,Z]at q
 clear o15 r13 e9 e8
 obtain ⟨rfl,rfl⟩:=fi q
 simp [gz, *]
 (focus repeat' first|refine ga ?_|(refine gb ?_;try simp[gz, *])|refine gk fun _ _=>?_)
 refine o16.upd fun k13 o17=>?_
 exact hR.out _ _ _ o17.fin
 try simp only[c2,e6,Z]at q
 clear o10 r9 e6 c2
 simp [gz, *]
 (focus repeat' first|refine ga ?_|(refine gb ?_;try simp[gz, *])|refine gk fun _ _=>?_)
 exact ⟨by kernel_rfl,rfl,p,_,by omega,Sub.refl _,p,_,kids ++ [v1],u1,u2,(Tok.own ab1 ak1 ae1),by omega,rfl,q,Cur.wk o11,lf2,by simp;omega,by first|rfl|simp⟩
 try simp only[c1,e4,Z]at q
 have p5:=o7.b1
 clear o6 r6 p2 e4 c1
 simp [gz, *]
 (focus repeat' first|refine ga ?_|(refine gb ?_;try simp[gz, *])|refine gk fun _ _=>?_)
 obtain ⟨l3,S11,h3,q⟩:=bo2 q
 refine o7.call (ih _ _ (by omega)) h3 fun k14 u7 u8 v4 e10 o18 r15=>?_
 try simp only[e10,Z]at q
 have p6:=o18.b1
 clear o7 r7 p5 h3
 simp [gz, *]
 (focus repeat' first|refine ga ?_|(refine gb ?_;try simp[gz, *])|refine gk fun _ _=>?_)
 refine o18.add 22 t.pos x1 0 [v4] (fun k15 u9 u10 v5 S12 e11 o19 r16=>?_)
 try simp only[e11,Z]at q
 have p7:=o19.b1
 clear o18 r15 p6 e11 e10
 simp [gz, *]
 (focus repeat' first|refine ga ?_|(refine gb ?_;try simp[gz, *])|refine gk fun _ _=>?_)
 have o20:=(o19.drop yb8)
 clear o19
 refine .inl ⟨o20.tin lf1,fun ab3 ak3 ae3 hb=>?_⟩
 obtain ⟨o21,lf4⟩:=o20.grow lf1 (k:=ak3) (e:=ae3) hb
 generalize (tk.rid k15).set ab3 (.spare ak3 ae3)=k16 at o21 ⊢
 clear hb o20 r16 p7
 have r17:=o21.own.blk
 simp [gz, *]
 (focus repeat' first|refine ga ?_|(refine gb ?_;try simp[gz, *])|refine gk fun _ _=>?_)
 refine o21.eat [44] (fun c3 k17 o22 r18=>?_) fun c3 k17 S13 e12 z3 o22 r18=>?_
 try simp only[c3,Z]at q
 clear o21 r17 c3
 obtain ⟨rfl,rfl⟩:=fi q
 clear q
 have q:=qo1
 simp only[Z]at q
 simp [gz, *]
 (focus repeat' first|refine ga ?_|(refine gb ?_;try simp[gz, *])|refine gk fun _ _=>?_)
 refine o22.must [41] fun k18 S14 e13 o23 r19=>?_
 try simp only[e13,Z]at q
 clear o22 r18 e13
 simp [gz, *]
 (focus repeat' first|refine ga ?_|(refine gb ?_;try simp[gz, *])|refine gk fun _ _=>?_)
 obtain ⟨l4,S15,h4,q⟩:=bo2 q
 refine o23.call (ih _ _ (by omega)) h4 fun k19 u11 u12 v6 e14 o24 r20=>?_
 try simp only[e14,Z]at q
 clear o23 r19 h4
 simp [gz, *]
 (focus repeat' first|refine ga ?_|(refine gb ?_;try simp[gz, *])|refine gk fun _ _=>?_)
 refine .inl ⟨o24.tin lf4,fun ab4 ak4 ae4 hb=>?_⟩
 obtain ⟨o26,lf5⟩:=o24.grow lf4 (k:=ak4) (e:=ae4) hb
 generalize ((Tok.own ab3 ak3 ae3).rid k19).set ab4 (.spare ak4 ae4)=k20 at o26 ⊢
 clear hb o24 r20
 have r21:=o26.own.blk
 simp [gz, *]
 (focus repeat' first|refine ga ?_|(refine gb ?_;try simp[gz, *])|refine gk fun _ _=>?_)
 refine o26.add 20 at_ name (((kids ++ [v5]).length : Nat) : Int) ((kids ++ [v5]) ++ [v6]) (fun k21 u13 u14 v7 S16 e15 o27 r22=>?_) (hl:=(by simp;omega))
 try simp only[e15,Z]at q
 clear o26 r21 e15 e14
 obtain ⟨rfl,rfl⟩:=fi q
 simp [gz, *]
 (focus repeat' first|refine ga ?_|(refine gb ?_;try simp[gz, *])|refine gk fun _ _=>?_)
 refine o27.upd fun k22 o28=>?_
 exact hR.out _ _ _ o28.fin
 try simp only[c3,e12,Z]at q
 clear o21 r17 e12 c3
 simp [gz, *]
 (focus repeat' first|refine ga ?_|(refine gb ?_;try simp[gz, *])|refine gk fun _ _=>?_)
 exact ⟨by kernel_rfl,rfl,p,_,by omega,Sub.refl _,p,_,kids ++ [v5],u9,u10,(Tok.own ab3 ak3 ae3),by omega,rfl,q,Cur.wk o22,lf4,by simp;omega,by first|rfl|simp⟩
 rw [if_neg hgo]at q
 obtain ⟨rfl,rfl⟩:=fi q
 clear q
 have q:=qo1
 simp only[Z]at q
 cases hfd:decide (Sq.fc=0)
 clear hgo
 refine awp_eqs (s' := [_,_,_,_,_,_,_,x 7,x 8,x 9,x 10,_,_,_,_,_,_,x 17,x 18,x 19,x 20,x 21,x 22,x 23,x 24,x 25,x 26,x 27,x 28,x 29,x 30,x 31,x 32,x 33,x 34,x 35,x 36,x 37,x 38,x 39,x 40,x 41,x 42,x 43,x 44,_,_,_,_,_,_,_,_,_,_,_,_,_,_]) rfl ?_
 (focus repeat' first|refine ga ?_|(refine gb ?_;try simp[gz, *])|refine gk fun _ _=>?_)
 refine o3.ok ?_
 simp [gz, *]
 (focus repeat' first|refine ga ?_|(refine gb ?_;try simp[gz, *])|refine gk fun _ _=>?_)
 refine o3.must [41] fun k23 S17 e16 o29 r23=>?_
 try simp only[e16,Z]at q
 clear o3 r4 e16
 simp [gz, *]
 (focus repeat' first|refine ga ?_|(refine gb ?_;try simp[gz, *])|refine gk fun _ _=>?_)
 obtain ⟨l5,S18,h5,q⟩:=bo2 q
 refine o29.call (ih _ _ (by omega)) h5 fun k24 u15 u16 v8 e17 o30 r24=>?_
 try simp only[e17,Z]at q
 clear o29 r23 h5
 simp [gz, *]
 (focus repeat' first|refine ga ?_|(refine gb ?_;try simp[gz, *])|refine gk fun _ _=>?_)
 refine .inl ⟨o30.tin lf1,fun ab5 ak5 ae5 hb=>?_⟩
 obtain ⟨o32,lf6⟩:=o30.grow lf1 (k:=ak5) (e:=ae5) hb
 generalize (tk.rid k24).set ab5 (.spare ak5 ae5)=k25 at o32 ⊢
 clear hb o30 r24
 have r25:=o32.own.blk
 simp [gz, *]
 (focus repeat' first|refine ga ?_|(refine gb ?_;try simp[gz, *])|refine gk fun _ _=>?_)
 refine o32.add 20 at_ name ((kids.length : Nat) : Int) (kids ++ [v8]) (fun k26 u17 u18 v9 S19 e18 o33 r26=>?_) (hl:=(by simp;omega))
 try simp only[e18,Z]at q
 clear o32 r25 e18 e17
 obtain ⟨rfl,rfl⟩:=fi q
 simp [gz, *]
 (focus repeat' first|refine ga ?_|(refine gb ?_;try simp[gz, *])|refine gk fun _ _=>?_)
 refine o33.upd fun k27 o34=>?_
 exact hR.out _ _ _ o34.fin
 have hil0:isL T [41] Sq=true:=by
  cases e:isL T [41] Sq
  · exact absurd ⟨of_decide_eq_true hfd,e⟩ hgo
  · rfl
 clear hgo
 refine awp_eqs (s' := [_,_,_,_,_,_,_,x 7,x 8,x 9,x 10,_,_,_,_,_,_,x 17,x 18,x 19,x 20,x 21,x 22,x 23,x 24,x 25,x 26,x 27,x 28,x 29,x 30,x 31,x 32,x 33,x 34,x 35,x 36,x 37,x 38,x 39,x 40,x 41,x 42,x 43,x 44,_,_,_,_,_,_,_,_,_,_,_,_,_,_]) rfl ?_
 (focus repeat' first|refine ga ?_|(refine gb ?_;try simp[gz, *])|refine gk fun _ _=>?_)
 refine o3.ok ?_
 simp [gz, *]
 (focus repeat' first|refine ga ?_|(refine gb ?_;try simp[gz, *])|refine gk fun _ _=>?_)
 refine o3.is [41] ?_
 simp [gz, *]
 (focus repeat' first|refine ga ?_|(refine gb ?_;try simp[gz, *])|refine gk fun _ _=>?_)
 refine o3.must [41] fun k28 S20 e19 o35 r27=>?_
 try simp only[e19,Z]at q
 clear o3 r4 e19
 simp [gz, *]
 (focus repeat' first|refine ga ?_|(refine gb ?_;try simp[gz, *])|refine gk fun _ _=>?_)
 obtain ⟨l6,S21,h6,q⟩:=bo2 q
 refine o35.call (ih _ _ (by omega)) h6 fun k29 u19 u20 v10 e20 o36 r28=>?_
 try simp only[e20,Z]at q
 clear o35 r27 h6
 simp [gz, *]
 (focus repeat' first|refine ga ?_|(refine gb ?_;try simp[gz, *])|refine gk fun _ _=>?_)
 refine .inl ⟨o36.tin lf1,fun ab6 ak6 ae6 hb=>?_⟩
 obtain ⟨o38,lf7⟩:=o36.grow lf1 (k:=ak6) (e:=ae6) hb
 generalize (tk.rid k29).set ab6 (.spare ak6 ae6)=k30 at o38 ⊢
 clear hb o36 r28
 have r29:=o38.own.blk
 simp [gz, *]
 (focus repeat' first|refine ga ?_|(refine gb ?_;try simp[gz, *])|refine gk fun _ _=>?_)
 refine o38.add 20 at_ name ((kids.length : Nat) : Int) (kids ++ [v10]) (fun k31 u21 u22 v11 S22 e21 o39 r30=>?_) (hl:=(by simp;omega))
 try simp only[e21,Z]at q
 clear o38 r29 e21 e20
 obtain ⟨rfl,rfl⟩:=fi q
 simp [gz, *]
 (focus repeat' first|refine ga ?_|(refine gb ?_;try simp[gz, *])|refine gk fun _ _=>?_)
 refine o39.upd fun k32 o40=>?_
 exact hR.out _ _ _ o40.fin
end Go.Proofs.YtcbgpjlcfkkdlaaGreatDoor

