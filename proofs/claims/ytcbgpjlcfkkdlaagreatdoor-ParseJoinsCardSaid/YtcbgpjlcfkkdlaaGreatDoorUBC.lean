import Derived.Test.YtcbgpjlcfkkdlaaGreatDoorUAX
set_option linter.unusedSimpArgs false
set_option linter.unusedVariables false
set_option maxRecDepth 100000
set_option maxHeartbeats 16000000
namespace Go.Proofs.YtcbgpjlcfkkdlaaGreatDoor
open Go Go.AL Go.Proofs
theorem unary_w (T : List Tk) (tt : Tok) (n : Nat) (ih : ∀ m op, m ≤ n → Meth T tt m op) : Meth T tt (n + 1) .unary := by
 refine Meth.of fun S l S' q r t1 t2 B h o R hR=>?_
 simp only[run,Z]at q
 obtain ⟨t,ht_t⟩:∃ x,Sh (peekL T S=x):=⟨_,⟨rfl⟩⟩
 try simp only[ht_t.out,Z]at q
 refine acalls_ofD Tryz.func147 rfl Tryz.ntmps147 (congrArg Array.toList Tryz.results147) fun Q hQ => ?_
 have r1:=o.own.blk
 (focus repeat' first|refine ga ?_|(refine gb ?_;try simp[gz, *])|refine gk fun _ _=>?_)
 refine o.peek ht_t ?_
 simp [gz, *]
 intro b3 zb3
 obtain ⟨n_r_b3,n_b3_r⟩:=o.ne zb3
 have yb3:=o.y zb3
 have o1:=o.new zb3 (.cells (tkRow t))
 clear o zb3
 try simp [gz, *]
 cases d1:decide (t.kind = 5)
 try simp only[ef d1,d1,Z]at q
 cases d2:decide (t.kind = 2)
 try simp only[ef d2,d2,Z]at q
 (focus repeat' first|refine ga ?_|(refine gb ?_;try simp[gz, *])|refine gk fun _ _=>?_)
 refine o1.settle fun k1 o2 r2=>?_
 have p1:=o2.b1
 clear o1 r1
 refine o2.tail (ih _ _ (by omega)) q fun k2 u1 u2 o3 r3=>?_
 have p2:=o3.b1
 clear o2 r2 p1
 simp [gz, *]
 (focus repeat' first|refine ga ?_|(refine gb ?_;try simp[gz, *])|refine gk fun _ _=>?_)
 exact hR.out _ _ _ o3.fin
 try simp only[et d2,d2,Z]at q
 cases hst:isStep t.text
 try simp only[hst,Z]at q
 cases hun:isUnary t.text
 try simp only[hun,Z]at q
 (focus repeat' first|refine ga ?_|(refine gb ?_;try simp[gz, *])|refine gk fun _ _=>?_)
 refine o1.settle fun k3 o4 r4=>?_
 have p3:=o4.b1
 clear o1 r1
 refine Unary_c t.text _ o4.i0 _ ?_
 rw [isUnary_eq,hun]
 simp [gz, *]
 (focus repeat' first|refine ga ?_|(refine gb ?_;try simp[gz, *])|refine gk fun _ _=>?_)
 refine Step_c t.text _ o4.i0 _ ?_
 rw [isStep_eq,hst]
 simp [gz, *]
 (focus repeat' first|refine ga ?_|(refine gb ?_;try simp[gz, *])|refine gk fun _ _=>?_)
 refine o4.tail (ih _ _ (by omega)) q fun k4 u3 u4 o5 r5=>?_
 have p4:=o5.b1
 clear o4 r4 p3
 simp [gz, *]
 (focus repeat' first|refine ga ?_|(refine gb ?_;try simp[gz, *])|refine gk fun _ _=>?_)
 exact hR.out _ _ _ o5.fin
 try simp only[hun,Z]at q
 (focus repeat' first|refine ga ?_|(refine gb ?_;try simp[gz, *])|refine gk fun _ _=>?_)
 refine o1.settle fun k5 o6 r6=>?_
 have p5:=o6.b1
 clear o1 r1
 refine Unary_c t.text _ o6.i0 _ ?_
 rw [isUnary_eq,hun]
 have h6:=kk ht_t d2
 have gd1:=goes_down_step o6.good h6
 simp [gz, *]
 (focus repeat' first|refine ga ?_|(refine gb ?_;try simp[gz, *])|refine gk fun _ _=>?_)
 refine o6.down fun k6 S1 e1 o7 r7=>?_
 rw [e1]at gd1
 try simp only[e1,Z]at q
 have p6:=o7.b1
 clear o6 r6 p5 e1
 have w1:=o7.good.rd.w1
 simp [gz, *]
 (focus repeat' first|refine ga ?_|(refine gb ?_;try simp[gz, *])|refine gk fun _ _=>?_)
 have o8:=o7.put (gd1)
 clear o7
 obtain ⟨u,ht_u⟩:∃ x,Sh (peekL T (stepL S1)=x):=⟨_,⟨rfl⟩⟩
 try simp only[ht_u.out,Z]at q
 refine o8.settle fun k7 o9 r8=>?_
 have p7:=o9.b1
 clear o8 r7 p6
 refine o9.peek ht_u ?_
 simp [gz, *]
 intro b4 zb4
 obtain ⟨n_r_b4,n_b4_r⟩:=o9.ne zb4
 obtain ⟨n_b3_b4,n_b4_b3⟩:=ne2 p7 zb4
 have yb4:=o9.y zb4
 have o10:=o9.new zb4 (.cells (tkRow u))
 clear o9 zb4
 try simp [gz, *]
 (focus repeat' first|refine ga ?_|(refine gb ?_;try simp[gz, *])|refine gk fun _ _=>?_)
 refine o10.settle fun k8 o11 r9=>?_
 have p8:=o11.b1
 have p9:=o11.b2 n_b3_b4
 clear o10 r8 p7
 obtain ⟨l1,S2,h1,q⟩:=bo2 q
 refine o11.call (ih _ _ (by omega)) h1 fun k9 u5 u6 v1 e2 o12 r10=>?_
 try simp only[e2,Z]at q
 have p10:=o12.b1
 have p11:=o12.b2 n_b3_b4
 clear o11 r9 p8 p9 h1
 cases d3:decide (t.text = [100, 101, 108, 101, 116, 101])
 try simp only[ef d3,d3,Z]at q
 simp [gz, *]
 (focus repeat' first|refine ga ?_|(refine gb ?_;try simp[gz, *])|refine gk fun _ _=>?_)
 refine Step_c t.text _ o12.i0 _ ?_
 rw [isStep_eq,hst]
 simp [gz, *]
 (focus repeat' first|refine ga ?_|(refine gb ?_;try simp[gz, *])|refine gk fun _ _=>?_)
 refine Step_c t.text _ o12.i0 _ ?_
 rw [isStep_eq,hst]
 simp [gz, *]
 (focus repeat' first|refine ga ?_|(refine gb ?_;try simp[gz, *])|refine gk fun _ _=>?_)
 refine o12.add 9 t.pos t.text 0 [v1] (fun k10 u7 u8 v2 S3 e3 o13 r11=>?_)
 try simp only[e3,Z]at q
 have p12:=o13.b1
 have p13:=o13.b2 n_b3_b4
 clear o12 r10 p10 p11 e3 e2
 obtain ⟨rfl,rfl⟩:=fi q
 simp [gz, *]
 (focus repeat' first|refine ga ?_|(refine gb ?_;try simp[gz, *])|refine gk fun _ _=>?_)
 refine o13.upd fun k11 o14=>?_
 exact hR.out _ _ _ o14.fin
 try simp only[et d3,d3,Z]at q
 simp [gz, *]
 (focus repeat' first|refine ga ?_|(refine gb ?_;try simp[gz, *])|refine gk fun _ _=>?_)
 cases d4:decide (S2.fc = 0)
 try simp only[ef d4,d4,Z]at q
 refine o12.ok ?_
 simp [gz, *]
 (focus repeat' first|refine ga ?_|(refine gb ?_;try simp[gz, *])|refine gk fun _ _=>?_)
 refine Step_c t.text _ o12.i0 _ ?_
 rw [isStep_eq,hst]
 simp [gz, *]
 (focus repeat' first|refine ga ?_|(refine gb ?_;try simp[gz, *])|refine gk fun _ _=>?_)
 refine o12.add 9 t.pos t.text 0 [v1] (fun k12 u9 u10 v3 S4 e4 o15 r12=>?_)
 try simp only[e4,Z]at q
 have p14:=o15.b1
 have p15:=o15.b2 n_b3_b4
 clear o12 r10 p10 p11 e4 e2
 obtain ⟨rfl,rfl⟩:=fi q
 simp [gz, *]
 (focus repeat' first|refine ga ?_|(refine gb ?_;try simp[gz, *])|refine gk fun _ _=>?_)
 refine o15.upd fun k13 o16=>?_
 exact hR.out _ _ _ o16.fin
 try simp only[et d4,d4,Z]at q
 refine o12.ok ?_
 simp [gz, *]
 (focus repeat' first|refine ga ?_|(refine gb ?_;try simp[gz, *])|refine gk fun _ _=>?_)
 cases d5:isTarget (kindL S2 v1)
 try simp only[d5,Z]at q
 refine o12.kind v1 ?_
 simp [gz, *]
 (focus repeat' first|refine ga ?_|(refine gb ?_;try simp[gz, *])|refine gk fun _ _=>?_)
 refine target_k d5 ?_
 simp [gz, *]
 (focus repeat' first|refine ga ?_|(refine gb ?_;try simp[gz, *])|refine gk fun _ _=>?_)
 have o17:=o12.put (goes_fault o12.good 30 u.pos (by decide))
 clear o12
 obtain ⟨rfl,rfl⟩:=fi q
 subst e2
 refine o17.upd fun k14 o18=>?_
 exact hR.out _ _ _ o18.fin
 try simp only[d5,Z]at q
 refine o12.kind v1 ?_
 simp [gz, *]
 (focus repeat' first|refine ga ?_|(refine gb ?_;try simp[gz, *])|refine gk fun _ _=>?_)
 refine target_k d5 ?_
 simp [gz, *]
 (focus repeat' first|refine ga ?_|(refine gb ?_;try simp[gz, *])|refine gk fun _ _=>?_)
 refine Step_c t.text _ o12.i0 _ ?_
 rw [isStep_eq,hst]
 simp [gz, *]
 (focus repeat' first|refine ga ?_|(refine gb ?_;try simp[gz, *])|refine gk fun _ _=>?_)
 refine o12.add 9 t.pos t.text 0 [v1] (fun k15 u11 u12 v4 S5 e5 o19 r13=>?_)
 try simp only[e5,Z]at q
 have p16:=o19.b1
 have p17:=o19.b2 n_b3_b4
 clear o12 r10 p10 p11 e5 e2
 obtain ⟨rfl,rfl⟩:=fi q
 simp [gz, *]
 (focus repeat' first|refine ga ?_|(refine gb ?_;try simp[gz, *])|refine gk fun _ _=>?_)
 refine o19.upd fun k16 o20=>?_
 exact hR.out _ _ _ o20.fin
 have hun:=(step_not hst).1
 have hdl:=(step_not hst).2
 try simp only[hst,hun,Z]at q
 (focus repeat' first|refine ga ?_|(refine gb ?_;try simp[gz, *])|refine gk fun _ _=>?_)
 refine o1.settle fun k17 o21 r14=>?_
 have p18:=o21.b1
 clear o1 r1
 refine Unary_c t.text _ o21.i0 _ ?_
 rw [isUnary_eq,hun]
 simp [gz, *]
 (focus repeat' first|refine ga ?_|(refine gb ?_;try simp[gz, *])|refine gk fun _ _=>?_)
 refine Step_c t.text _ o21.i0 _ ?_
 rw [isStep_eq,hst]
 have h6:=kk ht_t d2
 have gd1:=goes_down_step o21.good h6
 simp [gz, *]
 (focus repeat' first|refine ga ?_|(refine gb ?_;try simp[gz, *])|refine gk fun _ _=>?_)
 refine o21.down fun k18 S6 e6 o22 r15=>?_
 rw [e6]at gd1
 try simp only[e6,Z]at q
 have p19:=o22.b1
 clear o21 r14 p18 e6
 have w1:=o22.good.rd.w1
 simp [gz, *]
 (focus repeat' first|refine ga ?_|(refine gb ?_;try simp[gz, *])|refine gk fun _ _=>?_)
 have o23:=o22.put (gd1)
 clear o22
 obtain ⟨u,ht_u⟩:∃ x,Sh (peekL T (stepL S6)=x):=⟨_,⟨rfl⟩⟩
 try simp only[ht_u.out,Z]at q
 refine o23.settle fun k19 o24 r16=>?_
 have p20:=o24.b1
 clear o23 r15 p19
 refine o24.peek ht_u ?_
 simp [gz, *]
 intro b4 zb4
 obtain ⟨n_r_b4,n_b4_r⟩:=o24.ne zb4
 obtain ⟨n_b3_b4,n_b4_b3⟩:=ne2 p20 zb4
 have yb4:=o24.y zb4
 have o25:=o24.new zb4 (.cells (tkRow u))
 clear o24 zb4
 try simp [gz, *]
 (focus repeat' first|refine ga ?_|(refine gb ?_;try simp[gz, *])|refine gk fun _ _=>?_)
 refine o25.settle fun k20 o26 r17=>?_
 have p21:=o26.b1
 have p22:=o26.b2 n_b3_b4
 clear o25 r16 p20
 obtain ⟨l2,S7,h2,q⟩:=bo2 q
 refine o26.call (ih _ _ (by omega)) h2 fun k21 u13 u14 v5 e7 o27 r18=>?_
 try simp only[e7,Z]at q
 have p23:=o27.b1
 have p24:=o27.b2 n_b3_b4
 clear o26 r17 p21 p22 h2
 try simp only[hst,Z]at q
 simp [gz, *]
 (focus repeat' first|refine ga ?_|(refine gb ?_;try simp[gz, *])|refine gk fun _ _=>?_)
 refine Step_c t.text _ o27.i0 _ ?_
 rw [isStep_eq,hst]
 simp [gz, *]
 (focus repeat' first|refine ga ?_|(refine gb ?_;try simp[gz, *])|refine gk fun _ _=>?_)
 cases d6:decide (S7.fc = 0)
 try simp only[ef d6,d6,Z]at q
 refine o27.ok ?_
 simp [gz, *]
 (focus repeat' first|refine ga ?_|(refine gb ?_;try simp[gz, *])|refine gk fun _ _=>?_)
 refine Step_c t.text _ o27.i0 _ ?_
 rw [isStep_eq,hst]
 simp [gz, *]
 (focus repeat' first|refine ga ?_|(refine gb ?_;try simp[gz, *])|refine gk fun _ _=>?_)
 refine o27.add 13 t.pos t.text 0 [v5] (fun k22 u15 u16 v6 S8 e8 o28 r19=>?_)
 try simp only[e8,Z]at q
 have p25:=o28.b1
 have p26:=o28.b2 n_b3_b4
 clear o27 r18 p23 p24 e8 e7
 obtain ⟨rfl,rfl⟩:=fi q
 simp [gz, *]
 (focus repeat' first|refine ga ?_|(refine gb ?_;try simp[gz, *])|refine gk fun _ _=>?_)
 refine o28.upd fun k23 o29=>?_
 exact hR.out _ _ _ o29.fin
 try simp only[et d6,d6,Z]at q
 refine o27.ok ?_
 simp [gz, *]
 (focus repeat' first|refine ga ?_|(refine gb ?_;try simp[gz, *])|refine gk fun _ _=>?_)
 cases d7:isTarget (kindL S7 v5)
 try simp only[d7,Z]at q
 refine o27.kind v5 ?_
 simp [gz, *]
 (focus repeat' first|refine ga ?_|(refine gb ?_;try simp[gz, *])|refine gk fun _ _=>?_)
 refine target_k d7 ?_
 simp [gz, *]
 (focus repeat' first|refine ga ?_|(refine gb ?_;try simp[gz, *])|refine gk fun _ _=>?_)
 have o30:=o27.put (goes_fault o27.good 30 u.pos (by decide))
 clear o27
 obtain ⟨rfl,rfl⟩:=fi q
 subst e7
 refine o30.upd fun k24 o31=>?_
 exact hR.out _ _ _ o31.fin
 try simp only[d7,Z]at q
 refine o27.kind v5 ?_
 simp [gz, *]
 (focus repeat' first|refine ga ?_|(refine gb ?_;try simp[gz, *])|refine gk fun _ _=>?_)
 refine target_k d7 ?_
 simp [gz, *]
 (focus repeat' first|refine ga ?_|(refine gb ?_;try simp[gz, *])|refine gk fun _ _=>?_)
 refine Step_c t.text _ o27.i0 _ ?_
 rw [isStep_eq,hst]
 simp [gz, *]
 (focus repeat' first|refine ga ?_|(refine gb ?_;try simp[gz, *])|refine gk fun _ _=>?_)
 refine o27.add 13 t.pos t.text 0 [v5] (fun k25 u17 u18 v7 S9 e9 o32 r20=>?_)
 try simp only[e9,Z]at q
 have p27:=o32.b1
 have p28:=o32.b2 n_b3_b4
 clear o27 r18 p23 p24 e9 e7
 obtain ⟨rfl,rfl⟩:=fi q
 simp [gz, *]
 (focus repeat' first|refine ga ?_|(refine gb ?_;try simp[gz, *])|refine gk fun _ _=>?_)
 refine o32.upd fun k26 o33=>?_
 exact hR.out _ _ _ o33.fin
 try simp only[et d1,d1,Z]at q
 cases hst:isStep t.text
 try simp only[hst,Z]at q
 cases hun:isUnary t.text
 try simp only[hun,Z]at q
 (focus repeat' first|refine ga ?_|(refine gb ?_;try simp[gz, *])|refine gk fun _ _=>?_)
 refine o1.settle fun k27 o34 r21=>?_
 have p29:=o34.b1
 clear o1 r1
 refine Unary_c t.text _ o34.i0 _ ?_
 rw [isUnary_eq,hun]
 simp [gz, *]
 (focus repeat' first|refine ga ?_|(refine gb ?_;try simp[gz, *])|refine gk fun _ _=>?_)
 refine Step_c t.text _ o34.i0 _ ?_
 rw [isStep_eq,hst]
 simp [gz, *]
 (focus repeat' first|refine ga ?_|(refine gb ?_;try simp[gz, *])|refine gk fun _ _=>?_)
 refine o34.tail (ih _ _ (by omega)) q fun k28 u19 u20 o35 r22=>?_
 have p30:=o35.b1
 clear o34 r21 p29
 simp [gz, *]
 (focus repeat' first|refine ga ?_|(refine gb ?_;try simp[gz, *])|refine gk fun _ _=>?_)
 exact hR.out _ _ _ o35.fin
 try simp only[hun,Z]at q
 (focus repeat' first|refine ga ?_|(refine gb ?_;try simp[gz, *])|refine gk fun _ _=>?_)
 refine o1.settle fun k29 o36 r23=>?_
 have p31:=o36.b1
 clear o1 r1
 refine Unary_c t.text _ o36.i0 _ ?_
 rw [isUnary_eq,hun]
 have h6:=kk ht_t d1
 have gd1:=goes_down_step o36.good h6
 simp [gz, *]
 (focus repeat' first|refine ga ?_|(refine gb ?_;try simp[gz, *])|refine gk fun _ _=>?_)
 refine o36.down fun k30 S10 e10 o37 r24=>?_
 rw [e10]at gd1
 try simp only[e10,Z]at q
 have p32:=o37.b1
 clear o36 r23 p31 e10
 have w1:=o37.good.rd.w1
 simp [gz, *]
 (focus repeat' first|refine ga ?_|(refine gb ?_;try simp[gz, *])|refine gk fun _ _=>?_)
 have o38:=o37.put (gd1)
 clear o37
 obtain ⟨u,ht_u⟩:∃ x,Sh (peekL T (stepL S10)=x):=⟨_,⟨rfl⟩⟩
 try simp only[ht_u.out,Z]at q
 refine o38.settle fun k31 o39 r25=>?_
 have p33:=o39.b1
 clear o38 r24 p32
 refine o39.peek ht_u ?_
 simp [gz, *]
 intro b4 zb4
 obtain ⟨n_r_b4,n_b4_r⟩:=o39.ne zb4
 obtain ⟨n_b3_b4,n_b4_b3⟩:=ne2 p33 zb4
 have yb4:=o39.y zb4
 have o40:=o39.new zb4 (.cells (tkRow u))
 clear o39 zb4
 try simp [gz, *]
 (focus repeat' first|refine ga ?_|(refine gb ?_;try simp[gz, *])|refine gk fun _ _=>?_)
 refine o40.settle fun k32 o41 r26=>?_
 have p34:=o41.b1
 have p35:=o41.b2 n_b3_b4
 clear o40 r25 p33
 obtain ⟨l3,S11,h3,q⟩:=bo2 q
 refine o41.call (ih _ _ (by omega)) h3 fun k33 u21 u22 v8 e11 o42 r27=>?_
 try simp only[e11,Z]at q
 have p36:=o42.b1
 have p37:=o42.b2 n_b3_b4
 clear o41 r26 p34 p35 h3
 cases d8:decide (t.text = [100, 101, 108, 101, 116, 101])
 try simp only[ef d8,d8,Z]at q
 simp [gz, *]
 (focus repeat' first|refine ga ?_|(refine gb ?_;try simp[gz, *])|refine gk fun _ _=>?_)
 refine Step_c t.text _ o42.i0 _ ?_
 rw [isStep_eq,hst]
 simp [gz, *]
 (focus repeat' first|refine ga ?_|(refine gb ?_;try simp[gz, *])|refine gk fun _ _=>?_)
 refine Step_c t.text _ o42.i0 _ ?_
 rw [isStep_eq,hst]
 simp [gz, *]
 (focus repeat' first|refine ga ?_|(refine gb ?_;try simp[gz, *])|refine gk fun _ _=>?_)
 refine o42.add 9 t.pos t.text 0 [v8] (fun k34 u23 u24 v9 S12 e12 o43 r28=>?_)
 try simp only[e12,Z]at q
 have p38:=o43.b1
 have p39:=o43.b2 n_b3_b4
 clear o42 r27 p36 p37 e12 e11
 obtain ⟨rfl,rfl⟩:=fi q
 simp [gz, *]
 (focus repeat' first|refine ga ?_|(refine gb ?_;try simp[gz, *])|refine gk fun _ _=>?_)
 refine o43.upd fun k35 o44=>?_
 exact hR.out _ _ _ o44.fin
 try simp only[et d8,d8,Z]at q
 simp [gz, *]
 (focus repeat' first|refine ga ?_|(refine gb ?_;try simp[gz, *])|refine gk fun _ _=>?_)
 cases d9:decide (S11.fc = 0)
 try simp only[ef d9,d9,Z]at q
 refine o42.ok ?_
 simp [gz, *]
 (focus repeat' first|refine ga ?_|(refine gb ?_;try simp[gz, *])|refine gk fun _ _=>?_)
 refine Step_c t.text _ o42.i0 _ ?_
 rw [isStep_eq,hst]
 simp [gz, *]
 (focus repeat' first|refine ga ?_|(refine gb ?_;try simp[gz, *])|refine gk fun _ _=>?_)
 refine o42.add 9 t.pos t.text 0 [v8] (fun k36 u25 u26 v10 S13 e13 o45 r29=>?_)
 try simp only[e13,Z]at q
 have p40:=o45.b1
 have p41:=o45.b2 n_b3_b4
 clear o42 r27 p36 p37 e13 e11
 obtain ⟨rfl,rfl⟩:=fi q
 simp [gz, *]
 (focus repeat' first|refine ga ?_|(refine gb ?_;try simp[gz, *])|refine gk fun _ _=>?_)
 refine o45.upd fun k37 o46=>?_
 exact hR.out _ _ _ o46.fin
 try simp only[et d9,d9,Z]at q
 refine o42.ok ?_
 simp [gz, *]
 (focus repeat' first|refine ga ?_|(refine gb ?_;try simp[gz, *])|refine gk fun _ _=>?_)
 cases d10:isTarget (kindL S11 v8)
 try simp only[d10,Z]at q
 refine o42.kind v8 ?_
 simp [gz, *]
 (focus repeat' first|refine ga ?_|(refine gb ?_;try simp[gz, *])|refine gk fun _ _=>?_)
 refine target_k d10 ?_
 simp [gz, *]
 (focus repeat' first|refine ga ?_|(refine gb ?_;try simp[gz, *])|refine gk fun _ _=>?_)
 have o47:=o42.put (goes_fault o42.good 30 u.pos (by decide))
 clear o42
 obtain ⟨rfl,rfl⟩:=fi q
 subst e11
 refine o47.upd fun k38 o48=>?_
 exact hR.out _ _ _ o48.fin
 try simp only[d10,Z]at q
 refine o42.kind v8 ?_
 simp [gz, *]
 (focus repeat' first|refine ga ?_|(refine gb ?_;try simp[gz, *])|refine gk fun _ _=>?_)
 refine target_k d10 ?_
 simp [gz, *]
 (focus repeat' first|refine ga ?_|(refine gb ?_;try simp[gz, *])|refine gk fun _ _=>?_)
 refine Step_c t.text _ o42.i0 _ ?_
 rw [isStep_eq,hst]
 simp [gz, *]
 (focus repeat' first|refine ga ?_|(refine gb ?_;try simp[gz, *])|refine gk fun _ _=>?_)
 refine o42.add 9 t.pos t.text 0 [v8] (fun k39 u27 u28 v11 S14 e14 o49 r30=>?_)
 try simp only[e14,Z]at q
 have p42:=o49.b1
 have p43:=o49.b2 n_b3_b4
 clear o42 r27 p36 p37 e14 e11
 obtain ⟨rfl,rfl⟩:=fi q
 simp [gz, *]
 (focus repeat' first|refine ga ?_|(refine gb ?_;try simp[gz, *])|refine gk fun _ _=>?_)
 refine o49.upd fun k40 o50=>?_
 exact hR.out _ _ _ o50.fin
 have hun:=(step_not hst).1
 have hdl:=(step_not hst).2
 try simp only[hst,hun,Z]at q
 (focus repeat' first|refine ga ?_|(refine gb ?_;try simp[gz, *])|refine gk fun _ _=>?_)
 refine o1.settle fun k41 o51 r31=>?_
 have p44:=o51.b1
 clear o1 r1
 refine Unary_c t.text _ o51.i0 _ ?_
 rw [isUnary_eq,hun]
 simp [gz, *]
 (focus repeat' first|refine ga ?_|(refine gb ?_;try simp[gz, *])|refine gk fun _ _=>?_)
 refine Step_c t.text _ o51.i0 _ ?_
 rw [isStep_eq,hst]
 have h6:=kk ht_t d1
 have gd1:=goes_down_step o51.good h6
 simp [gz, *]
 (focus repeat' first|refine ga ?_|(refine gb ?_;try simp[gz, *])|refine gk fun _ _=>?_)
 refine o51.down fun k42 S15 e15 o52 r32=>?_
 rw [e15]at gd1
 try simp only[e15,Z]at q
 have p45:=o52.b1
 clear o51 r31 p44 e15
 have w1:=o52.good.rd.w1
 simp [gz, *]
 (focus repeat' first|refine ga ?_|(refine gb ?_;try simp[gz, *])|refine gk fun _ _=>?_)
 have o53:=o52.put (gd1)
 clear o52
 obtain ⟨u,ht_u⟩:∃ x,Sh (peekL T (stepL S15)=x):=⟨_,⟨rfl⟩⟩
 try simp only[ht_u.out,Z]at q
 refine o53.settle fun k43 o54 r33=>?_
 have p46:=o54.b1
 clear o53 r32 p45
 refine o54.peek ht_u ?_
 simp [gz, *]
 intro b4 zb4
 obtain ⟨n_r_b4,n_b4_r⟩:=o54.ne zb4
 obtain ⟨n_b3_b4,n_b4_b3⟩:=ne2 p46 zb4
 have yb4:=o54.y zb4
 have o55:=o54.new zb4 (.cells (tkRow u))
 clear o54 zb4
 try simp [gz, *]
 (focus repeat' first|refine ga ?_|(refine gb ?_;try simp[gz, *])|refine gk fun _ _=>?_)
 refine o55.settle fun k44 o56 r34=>?_
 have p47:=o56.b1
 have p48:=o56.b2 n_b3_b4
 clear o55 r33 p46
 obtain ⟨l4,S16,h4,q⟩:=bo2 q
 refine o56.call (ih _ _ (by omega)) h4 fun k45 u29 u30 v12 e16 o57 r35=>?_
 try simp only[e16,Z]at q
 have p49:=o57.b1
 have p50:=o57.b2 n_b3_b4
 clear o56 r34 p47 p48 h4
 try simp only[hst,Z]at q
 simp [gz, *]
 (focus repeat' first|refine ga ?_|(refine gb ?_;try simp[gz, *])|refine gk fun _ _=>?_)
 refine Step_c t.text _ o57.i0 _ ?_
 rw [isStep_eq,hst]
 simp [gz, *]
 (focus repeat' first|refine ga ?_|(refine gb ?_;try simp[gz, *])|refine gk fun _ _=>?_)
 cases d11:decide (S16.fc = 0)
 try simp only[ef d11,d11,Z]at q
 refine o57.ok ?_
 simp [gz, *]
 (focus repeat' first|refine ga ?_|(refine gb ?_;try simp[gz, *])|refine gk fun _ _=>?_)
 refine Step_c t.text _ o57.i0 _ ?_
 rw [isStep_eq,hst]
 simp [gz, *]
 (focus repeat' first|refine ga ?_|(refine gb ?_;try simp[gz, *])|refine gk fun _ _=>?_)
 refine o57.add 13 t.pos t.text 0 [v12] (fun k46 u31 u32 v13 S17 e17 o58 r36=>?_)
 try simp only[e17,Z]at q
 have p51:=o58.b1
 have p52:=o58.b2 n_b3_b4
 clear o57 r35 p49 p50 e17 e16
 obtain ⟨rfl,rfl⟩:=fi q
 simp [gz, *]
 (focus repeat' first|refine ga ?_|(refine gb ?_;try simp[gz, *])|refine gk fun _ _=>?_)
 refine o58.upd fun k47 o59=>?_
 exact hR.out _ _ _ o59.fin
 try simp only[et d11,d11,Z]at q
 refine o57.ok ?_
 simp [gz, *]
 (focus repeat' first|refine ga ?_|(refine gb ?_;try simp[gz, *])|refine gk fun _ _=>?_)
 cases d12:isTarget (kindL S16 v12)
 try simp only[d12,Z]at q
 refine o57.kind v12 ?_
 simp [gz, *]
 (focus repeat' first|refine ga ?_|(refine gb ?_;try simp[gz, *])|refine gk fun _ _=>?_)
 refine target_k d12 ?_
 simp [gz, *]
 (focus repeat' first|refine ga ?_|(refine gb ?_;try simp[gz, *])|refine gk fun _ _=>?_)
 have o60:=o57.put (goes_fault o57.good 30 u.pos (by decide))
 clear o57
 obtain ⟨rfl,rfl⟩:=fi q
 subst e16
 refine o60.upd fun k48 o61=>?_
 exact hR.out _ _ _ o61.fin
 try simp only[d12,Z]at q
 refine o57.kind v12 ?_
 simp [gz, *]
 (focus repeat' first|refine ga ?_|(refine gb ?_;try simp[gz, *])|refine gk fun _ _=>?_)
 refine target_k d12 ?_
 simp [gz, *]
 (focus repeat' first|refine ga ?_|(refine gb ?_;try simp[gz, *])|refine gk fun _ _=>?_)
 refine Step_c t.text _ o57.i0 _ ?_
 rw [isStep_eq,hst]
 simp [gz, *]
 (focus repeat' first|refine ga ?_|(refine gb ?_;try simp[gz, *])|refine gk fun _ _=>?_)
 refine o57.add 13 t.pos t.text 0 [v12] (fun k49 u33 u34 v14 S18 e18 o62 r37=>?_)
 try simp only[e18,Z]at q
 have p53:=o62.b1
 have p54:=o62.b2 n_b3_b4
 clear o57 r35 p49 p50 e18 e16
 obtain ⟨rfl,rfl⟩:=fi q
 simp [gz, *]
 (focus repeat' first|refine ga ?_|(refine gb ?_;try simp[gz, *])|refine gk fun _ _=>?_)
 refine o62.upd fun k50 o63=>?_
 exact hR.out _ _ _ o63.fin
end Go.Proofs.YtcbgpjlcfkkdlaaGreatDoor

namespace Go.Proofs.YtcbgpjlcfkkdlaaGreatDoor
open Go Go.AL Go.Proofs
theorem binary_w (T : List Tk) (tt : Tok) (n : Nat) (level : Int) (ih : ∀ m op, m ≤ n → Meth T tt m op) : Meth T tt (n + 1) (.binary level) := by
 refine Meth.of fun S l S' q r t1 t2 B h o R hR=>?_
 simp only[run,Z]at q
 cases d1:decide (level = 10)
 try simp only[ef d1,d1,Z]at q
 obtain ⟨a,ht_a⟩:∃ x,Sh (peekL T S=x):=⟨_,⟨rfl⟩⟩
 try simp only[ht_a.out,Z]at q
 refine acalls_of Tryz.func124 rfl Tryz.ntmps124 (congrArg Array.toList Tryz.results124) fun Q hQ => ?_
 have r1:=o.own.blk
 (focus repeat' first|refine ga ?_|(refine gb ?_;try simp[gz, *])|refine gk fun _ _=>?_)
 refine o.peek ht_a ?_
 simp [gz, *]
 (focus repeat' first|refine ga ?_|(refine gb ?_;try simp[gz, *])|refine gk fun _ _=>?_)
 obtain ⟨l1,S1,h1,q⟩:=bo2 q
 refine o.call (ih _ _ (by omega)) h1 fun k1 u1 u2 v1 e1 o1 r2=>?_
 try simp only[e1,Z]at q
 clear o r1 h1
 simp [gz, *]
 (focus repeat' first|refine ga ?_|(refine gb ?_;try simp[gz, *])|refine gk fun _ _=>?_)
 refine awp_loop_h [6,7,19,20,21,22,23,24,25,26,27,28,29,30,31,32,33,34,35,36,37,38,39,40,41,42,43,44,45,46,47,48,49,50,51,52,53,54,55] (fun m x g=>∃ (aq:Nat) (Sq:St) (i:Int) (w1 w2:Tok),aq ≤ n ∧ m=aq ∧ Sh (run T aq (.binLoop level a.pos i) Sq=some (l,S')) ∧ Cur B B g T tt S Sq r w1 w2 [i] ∧ x 6=.int .i64 i) n ⟨n,_,v1,u1,u2,by omega,rfl,q,Cur.wk o1,rfl⟩ fun m x g hI K hK=>?_
 clear o1 q r2
 obtain ⟨aq,Sq,i,w1,w2,hq,rfl,q,o2,hx⟩:=hI
 obtain ⟨p,rfl⟩:=run_pos q
 simp only[run,Z]at q
 have r3:=o2.own.blk
 by_cases hgo:Sq.fc=0
 have hfd:=decide_eq_true hgo
 rw [if_pos hgo]at q
 clear hgo
 refine awp_eqs (s' := [_,_,_,_,_,_,x 6,x 7,_,_,_,_,_,_,_,_,_,_,_,x 19,x 20,x 21,x 22,x 23,x 24,x 25,x 26,x 27,x 28,x 29,x 30,x 31,x 32,x 33,x 34,x 35,x 36,x 37,x 38,x 39,x 40,x 41,x 42,x 43,x 44,x 45,x 46,x 47,x 48,x 49,x 50,x 51,x 52,x 53,x 54,x 55,_]) rfl ?_
 (focus repeat' first|refine ga ?_|(refine gb ?_;try simp[gz, *])|refine gk fun _ _=>?_)
 refine o2.ok ?_
 simp [gz, *]
 (focus repeat' first|refine ga ?_|(refine gb ?_;try simp[gz, *])|refine gk fun _ _=>?_)
 clear hfd
 obtain ⟨t,ht_t⟩:∃ x,Sh (peekL T Sq=x):=⟨_,⟨rfl⟩⟩
 try simp only[ht_t.out,Z]at q
 refine o2.peek ht_t ?_
 simp [gz, *]
 intro b7 zb7
 obtain ⟨n_r_b7,n_b7_r⟩:=o2.ne zb7
 have yb7:=o2.y zb7
 have o3:=o2.new zb7 (.cells (tkRow t))
 clear o2 zb7
 try simp [gz, *]
 cases d2:decide (t.kind = 5)
 try simp only[ef d2,d2,Z]at q
 cases d3:decide (t.kind = 2)
 try simp only[ef d3,d3,Z]at q
 obtain ⟨rfl,rfl⟩:=fi q
 subst e1
 (focus repeat' first|refine ga ?_|(refine gb ?_;try simp[gz, *])|refine gk fun _ _=>?_)
 exact hR.out _ _ _ o3.fin
 try simp only[et d3,d3,Z]at q
 cases d4:decide (levelW t.text = level)
 try simp only[ef d4,d4,Z]at q
 (focus repeat' first|refine ga ?_|(refine gb ?_;try simp[gz, *])|refine gk fun _ _=>?_)
 refine o3.settle fun k2 o4 r4=>?_
 have p1:=o4.b1
 clear o3 r3
 refine Level_c t.text _ o4.i0 _ ?_
 rw [level_eq]
 obtain ⟨rfl,rfl⟩:=fi q
 subst e1
 simp [gz, *]
 (focus repeat' first|refine ga ?_|(refine gb ?_;try simp[gz, *])|refine gk fun _ _=>?_)
 exact hR.out _ _ _ o4.fin
 try simp only[et d4,d4,Z]at q
 (focus repeat' first|refine ga ?_|(refine gb ?_;try simp[gz, *])|refine gk fun _ _=>?_)
 refine o3.settle fun k3 o5 r5=>?_
 have p2:=o5.b1
 clear o3 r3
 refine Level_c t.text _ o5.i0 _ ?_
 rw [level_eq]
 have w1:=o5.good.rd.w1
 simp [gz, *]
 (focus repeat' first|refine ga ?_|(refine gb ?_;try simp[gz, *])|refine gk fun _ _=>?_)
 have o6:=o5.stepped (kk ht_t d3)
 clear o5
 refine o6.settleA fun k4 o7 r6=>?_
 have p3:=o7.b1
 clear o6 r5 p2 w1
 have o8:=(o7.minus yb7)
 refine awp_region_draw [b7] [(0,true),(1,true),(2,true),(3,true),(4,true),(5,true),(6,true),(7,true),(8,false),(9,false),(10,false)] [11] follows (by kernel_rfl) rfl (by kernel_rfl) ?_; simp [gz, *]
 clear o7
 (focus repeat' first|refine ga ?_|(refine gb ?_;try simp[gz, *])|refine gk fun _ _=>?_)
 obtain ⟨l2,S2,h2,q⟩:=bo2 q
 refine o8.call (ih _ _ (by omega)) h2 fun k5 u3 u4 v2 e2 o9 r7=>?_
 try simp only[e2,Z]at q
 clear o8 h2 e1
 simp [gz, *]
 intro hn1
 rw [show (k5.plus [b7] k4).minus [b7]=k5 from minus_of_none (by simp[hn1])]
 clear hn1
 refine o9.add 10 a.pos t.text 0 [i, v2] (fun k6 u5 u6 v3 S3 e3 o10 r8=>?_)
 try simp only[e3,Z]at q
 clear o9 r7 e3 e2
 simp [gz, *]
 intro hn2
 rw [show k6.plus [b7] (k5.plus [b7] k4)=_ from plus_one (x:=.cells (tkRow t)) (by simp[*])]
 have o11:=o10.new hn2 (.cells (tkRow t))
 clear o10 r6 p3
 (focus repeat' first|refine ga ?_|(refine gb ?_;try simp[gz, *])|refine gk fun _ _=>?_)
 exact ⟨by kernel_rfl,rfl,p,_,by omega,Sub.refl _,p,_,v3,u5,u6,by omega,rfl,q,Cur.wk (o11.drop yb7),by first|rfl|simp⟩
 try simp only[et d2,d2,Z]at q
 cases d5:decide (levelW t.text = level)
 try simp only[ef d5,d5,Z]at q
 (focus repeat' first|refine ga ?_|(refine gb ?_;try simp[gz, *])|refine gk fun _ _=>?_)
 refine o3.settle fun k7 o12 r9=>?_
 have p4:=o12.b1
 clear o3 r3
 refine Level_c t.text _ o12.i0 _ ?_
 rw [level_eq]
 obtain ⟨rfl,rfl⟩:=fi q
 subst e1
 simp [gz, *]
 (focus repeat' first|refine ga ?_|(refine gb ?_;try simp[gz, *])|refine gk fun _ _=>?_)
 exact hR.out _ _ _ o12.fin
 try simp only[et d5,d5,Z]at q
 (focus repeat' first|refine ga ?_|(refine gb ?_;try simp[gz, *])|refine gk fun _ _=>?_)
 refine o3.settle fun k8 o13 r10=>?_
 have p5:=o13.b1
 clear o3 r3
 refine Level_c t.text _ o13.i0 _ ?_
 rw [level_eq]
 have w2:=o13.good.rd.w1
 simp [gz, *]
 (focus repeat' first|refine ga ?_|(refine gb ?_;try simp[gz, *])|refine gk fun _ _=>?_)
 have o14:=o13.stepped (kk ht_t d2)
 clear o13
 refine o14.settleA fun k9 o15 r11=>?_
 have p6:=o15.b1
 clear o14 r10 p5 w2
 have o16:=(o15.minus yb7)
 refine awp_region_draw [b7] [(0,true),(1,true),(2,true),(3,true),(4,true),(5,true),(6,true),(7,true),(8,false),(9,false),(10,false)] [11] follows (by kernel_rfl) rfl (by kernel_rfl) ?_; simp [gz, *]
 clear o15
 (focus repeat' first|refine ga ?_|(refine gb ?_;try simp[gz, *])|refine gk fun _ _=>?_)
 obtain ⟨l3,S4,h3,q⟩:=bo2 q
 refine o16.call (ih _ _ (by omega)) h3 fun k10 u7 u8 v4 e4 o17 r12=>?_
 try simp only[e4,Z]at q
 clear o16 h3 e1
 simp [gz, *]
 intro hn3
 rw [show (k10.plus [b7] k9).minus [b7]=k10 from minus_of_none (by simp[hn3])]
 clear hn3
 refine o17.add 10 a.pos t.text 0 [i, v4] (fun k11 u9 u10 v5 S5 e5 o18 r13=>?_)
 try simp only[e5,Z]at q
 clear o17 r12 e5 e4
 simp [gz, *]
 intro hn4
 rw [show k11.plus [b7] (k10.plus [b7] k9)=_ from plus_one (x:=.cells (tkRow t)) (by simp[*])]
 have o19:=o18.new hn4 (.cells (tkRow t))
 clear o18 r11 p6
 (focus repeat' first|refine ga ?_|(refine gb ?_;try simp[gz, *])|refine gk fun _ _=>?_)
 exact ⟨by kernel_rfl,rfl,p,_,by omega,Sub.refl _,p,_,v5,u9,u10,by omega,rfl,q,Cur.wk (o19.drop yb7),by first|rfl|simp⟩
 have hfd:=decide_eq_false hgo
 rw [if_neg hgo]at q
 clear hgo
 refine awp_eqs (s' := [_,_,_,_,_,_,x 6,x 7,_,_,_,_,_,_,_,_,_,_,_,x 19,x 20,x 21,x 22,x 23,x 24,x 25,x 26,x 27,x 28,x 29,x 30,x 31,x 32,x 33,x 34,x 35,x 36,x 37,x 38,x 39,x 40,x 41,x 42,x 43,x 44,x 45,x 46,x 47,x 48,x 49,x 50,x 51,x 52,x 53,x 54,x 55,_]) rfl ?_
 (focus repeat' first|refine ga ?_|(refine gb ?_;try simp[gz, *])|refine gk fun _ _=>?_)
 refine o2.ok ?_
 obtain ⟨rfl,rfl⟩:=fi q
 subst e1
 simp [gz, *]
 (focus repeat' first|refine ga ?_|(refine gb ?_;try simp[gz, *])|refine gk fun _ _=>?_)
 exact hR.out _ _ _ o2.fin
 try simp only[et d1,d1,Z]at q
 refine acalls_of Tryz.func124 rfl Tryz.ntmps124 (congrArg Array.toList Tryz.results124) fun Q hQ => ?_
 have r14:=o.own.blk
 (focus repeat' first|refine ga ?_|(refine gb ?_;try simp[gz, *])|refine gk fun _ _=>?_)
 refine o.tail (ih _ _ (by omega)) q fun k12 u11 u12 o20 r15=>?_
 clear o r14
 simp [gz, *]
 (focus repeat' first|refine ga ?_|(refine gb ?_;try simp[gz, *])|refine gk fun _ _=>?_)
 exact hR.out _ _ _ o20.fin
end Go.Proofs.YtcbgpjlcfkkdlaaGreatDoor

namespace Go.Proofs.YtcbgpjlcfkkdlaaGreatDoor
open Go Go.AL Go.Proofs
theorem postfix_w (T : List Tk) (tt : Tok) (n : Nat) (hn : n ≤ 1000000) (ih : ∀ m op, m ≤ n → Meth T tt m op) : Meth T tt (n + 1) .postf := by
 refine Meth.of fun S l S' q r t1 t2 B h o R hR=>?_
 simp only[run,Z]at q
 obtain ⟨a,ht_a⟩:∃ x,Sh (peekL T S=x):=⟨_,⟨rfl⟩⟩
 try simp only[ht_a.out,Z]at q
 refine acalls_of Tryz.func153 rfl Tryz.ntmps153 (congrArg Array.toList Tryz.results153) fun Q hQ => ?_
 have r1:=o.own.blk
 (focus repeat' first|refine ga ?_|(refine gb ?_;try simp[gz, *])|refine gk fun _ _=>?_)
 refine o.peek ht_a ?_
 simp [gz, *]
 (focus repeat' first|refine ga ?_|(refine gb ?_;try simp[gz, *])|refine gk fun _ _=>?_)
 obtain ⟨l1,S1,h1,q⟩:=bo2 q
 refine o.call (ih _ _ (by omega)) h1 fun k1 u1 u2 v1 e1 o1 r2=>?_
 try simp only[e1,Z]at q
 clear o r1 h1
 simp [gz, *]
 (focus repeat' first|refine ga ?_|(refine gb ?_;try simp[gz, *])|refine gk fun _ _=>?_)
 refine awp_loop_h [2,4,5,6,12,13,14,15,16,17,18,19,20,21,22,23,24,25,26,27,28,29,30,31,32,33,34,35,36,37,38,39,40,41,42,43,44,45,46,47,48,49,50,51,52,53,54,55,56,57,58,59,60,61,62,63,64,65,66,67,68,69,70,71,72,73,74,75,76,77,78,79,80,81,82,83,84,85,86,87,88,89,90,91,92,93,94,95,96,97,98,99,100,101,102,103,104,105,106,107,108,109,110,111,112,113,114,115,116,117] (fun m x g=>∃ (aq:Nat) (Sq:St) (i:Int) (w1 w2:Tok),aq ≤ n ∧ m=aq ∧ Sh (run T aq (.postLoop a.pos i) Sq=some (l,S')) ∧ Cur B B g T tt S Sq r w1 w2 [i] ∧ x 4=.int .i64 i) n ⟨n,_,v1,u1,u2,by omega,rfl,q,Cur.wk o1,rfl⟩ fun m x g hI K hK=>?_
 clear o1 q r2
 obtain ⟨aq,Sq,i,w1,w2,hq,rfl,q,o2,hx⟩:=hI
 obtain ⟨p,rfl⟩:=run_pos q
 simp only[run,Z]at q
 have r3:=o2.own.blk
 by_cases hgo:Sq.fc=0
 have hfd:=decide_eq_true hgo
 rw [if_pos hgo]at q
 clear hgo
 refine awp_eqs (s' := [_,_,x 2,_,x 4,x 5,x 6,_,_,_,_,_,x 12,x 13,x 14,x 15,x 16,x 17,x 18,x 19,x 20,x 21,x 22,x 23,x 24,x 25,x 26,x 27,x 28,x 29,x 30,x 31,x 32,x 33,x 34,x 35,x 36,x 37,x 38,x 39,x 40,x 41,x 42,x 43,x 44,x 45,x 46,x 47,x 48,x 49,x 50,x 51,x 52,x 53,x 54,x 55,x 56,x 57,x 58,x 59,x 60,x 61,x 62,x 63,x 64,x 65,x 66,x 67,x 68,x 69,x 70,x 71,x 72,x 73,x 74,x 75,x 76,x 77,x 78,x 79,x 80,x 81,x 82,x 83,x 84,x 85,x 86,x 87,x 88,x 89,x 90,x 91,x 92,x 93,x 94,x 95,x 96,x 97,x 98,x 99,x 100,x 101,x 102,x 103,x 104,x 105,x 106,x 107,x 108,x 109,x 110,x 111,x 112,x 113,x 114,x 115,x 116,x 117,_]) rfl ?_
 (focus repeat' first|refine ga ?_|(refine gb ?_;try simp[gz, *])|refine gk fun _ _=>?_)
 refine o2.ok ?_
 simp [gz, *]
 (focus repeat' first|refine ga ?_|(refine gb ?_;try simp[gz, *])|refine gk fun _ _=>?_)
 clear hfd
 obtain ⟨t,ht_t⟩:∃ x,Sh (peekL T Sq=x):=⟨_,⟨rfl⟩⟩
 try simp only[ht_t.out,Z]at q
 refine o2.peek ht_t ?_
 simp [gz, *]
 intro b5 zb5
 obtain ⟨n_r_b5,n_b5_r⟩:=o2.ne zb5
 have yb5:=o2.y zb5
 have o3:=o2.new zb5 (.cells (tkRow t))
 clear o2 zb5
 try simp [gz, *]
 (focus repeat' first|refine ga ?_|(refine gb ?_;try simp[gz, *])|refine gk fun _ _=>?_)
 refine o3.settle fun k2 o4 r4=>?_
 have p1:=o4.b1
 clear o3 r3
 cases hln:t.line
 try simp only[hln,Z]at q
 cases c1:isL T [46] Sq
 try simp only[c1,Z]at q
 refine o4.is [46] ?_
 simp [gz, *]
 (focus repeat' first|refine ga ?_|(refine gb ?_;try simp[gz, *])|refine gk fun _ _=>?_)
 cases c2:isL T [91] Sq
 try simp only[c2,Z]at q
 refine o4.is [91] ?_
 simp [gz, *]
 (focus repeat' first|refine ga ?_|(refine gb ?_;try simp[gz, *])|refine gk fun _ _=>?_)
 cases c3:isL T [40] Sq
 try simp only[c3,Z]at q
 refine o4.is [40] ?_
 cases d1:decide (t.kind = 5)
 try simp only[ef d1,d1,Z]at q
 obtain ⟨rfl,rfl⟩:=fi q
 subst e1
 simp [gz, *]
 (focus repeat' first|refine ga ?_|(refine gb ?_;try simp[gz, *])|refine gk fun _ _=>?_)
 exact hR.out _ _ _ o4.fin
 try simp only[et d1,d1,Z]at q
 cases hst:isStep t.text
 try simp only[hst,Z]at q
 simp [gz, *]
 (focus repeat' first|refine ga ?_|(refine gb ?_;try simp[gz, *])|refine gk fun _ _=>?_)
 refine Step_c t.text _ o4.i0 _ ?_
 rw [isStep_eq,hst]
 obtain ⟨rfl,rfl⟩:=fi q
 subst e1
 simp [gz, *]
 (focus repeat' first|refine ga ?_|(refine gb ?_;try simp[gz, *])|refine gk fun _ _=>?_)
 exact hR.out _ _ _ o4.fin
 try simp only[hst,Z]at q
 simp [gz, *]
 (focus repeat' first|refine ga ?_|(refine gb ?_;try simp[gz, *])|refine gk fun _ _=>?_)
 refine Step_c t.text _ o4.i0 _ ?_
 rw [isStep_eq,hst]
 simp [gz, *]
 (focus repeat' first|refine ga ?_|(refine gb ?_;try simp[gz, *])|refine gk fun _ _=>?_)
 cases d2:isTarget (kindL Sq i)
 try simp only[d2,Z]at q
 refine o4.kind i ?_
 simp [gz, *]
 (focus repeat' first|refine ga ?_|(refine gb ?_;try simp[gz, *])|refine gk fun _ _=>?_)
 refine target_k d2 ?_
 simp [gz, *]
 (focus repeat' first|refine ga ?_|(refine gb ?_;try simp[gz, *])|refine gk fun _ _=>?_)
 refine o4.wrong 30 fun k3 S2 e2 o5 r5=>?_
 try simp only[e2,Z]at q
 have p2:=o5.b1
 clear o4 r4 p1 e2
 obtain ⟨rfl,rfl⟩:=fi q
 subst e1
 simp [gz, *]
 (focus repeat' first|refine ga ?_|(refine gb ?_;try simp[gz, *])|refine gk fun _ _=>?_)
 exact hR.out _ _ _ o5.fin
 try simp only[d2,Z]at q
 refine o4.kind i ?_
 simp [gz, *]
 (focus repeat' first|refine ga ?_|(refine gb ?_;try simp[gz, *])|refine gk fun _ _=>?_)
 refine target_k d2 ?_
 have w1:=o4.good.rd.w1
 simp [gz, *]
 (focus repeat' first|refine ga ?_|(refine gb ?_;try simp[gz, *])|refine gk fun _ _=>?_)
 have o6:=o4.stepped (kk ht_t d1)
 clear o4
 refine o6.settle fun k4 o7 r6=>?_
 have p3:=o7.b1
 clear o6 r4 p1 w1
 refine o7.add 13 a.pos t.text 1 [i] (fun k5 u3 u4 v2 S3 e3 o8 r7=>?_)
 try simp only[e3,Z]at q
 have p4:=o8.b1
 clear o7 r6 p3 e3 e1
 obtain ⟨rfl,rfl⟩:=fi q
 simp [gz, *]
 (focus repeat' first|refine ga ?_|(refine gb ?_;try simp[gz, *])|refine gk fun _ _=>?_)
 exact hR.out _ _ _ o8.fin
 try simp only[c3,Z]at q
 refine o4.is [40] ?_
 have w2:=o4.good.rd.w1
 simp [gz, *]
 (focus repeat' first|refine ga ?_|(refine gb ?_;try simp[gz, *])|refine gk fun _ _=>?_)
 have o9:=o4.stepped (isL_kind c3)
 clear o4
 refine o9.settle fun k6 o10 r8=>?_
 have p5:=o10.b1
 clear o9 r4 p1 w2
 obtain ⟨l2,S4,h2,q⟩:=bo2 q
 refine o10.sm (ih _ _ (by omega)) h2 fun k7 u5 u6 le1 o11 r9=>?_
 try simp only[Z]at q
 have p6:=o11.b1
 clear o10 r8 p5 h2
 rcases l2 with _|⟨c0,cs⟩
 try simp only[Z]at q
 simp [gz, *]
 (focus repeat' first|refine ga ?_|(refine gb ?_;try simp[gz, *])|refine gk fun _ _=>?_)
 refine o11.add 17 a.pos [] 0 [i] (fun k8 u7 u8 v3 S5 e4 o12 r10=>?_)
 try simp only[e4,Z]at q
 have p7:=o12.b1
 clear o11 r9 p6 e4 e1
 simp [gz, *]
 (focus repeat' first|refine ga ?_|(refine gb ?_;try simp[gz, *])|refine gk fun _ _=>?_)
 exact ⟨by kernel_rfl,rfl,p,_,by omega,Sub.refl _,p,_,v3,u7,u8,by omega,rfl,q,Cur.wk (o12.drop yb5),by first|rfl|simp⟩
 simp only [List.length_cons] at le1
 simp [gz, *]
 refine ⟨by omega,by omega,.inl fun b k e hb=>?_⟩
 have o13:=o11.spare (b:=b) (k:=k) (e:=e) (by rcases hb with hb|⟨_,_,hb⟩; exact hb; cases hb)
 clear hb o11
 simp [gz, *]
 (focus repeat' first|refine ga ?_|(refine gb ?_;try simp[gz, *])|refine gk fun _ _=>?_)
 refine o13.settle fun k9 o14 r11=>?_
 have p8:=o14.b1
 clear o13 r9 p6
 refine o14.add 17 a.pos [] 0 (i :: c0 :: cs) (fun k10 u9 u10 v4 S6 e5 o15 r12=>?_) (hl:=(by simp only [List.length_cons] at *; omega))
 try simp only[e5,Z]at q
 have p9:=o15.b1
 clear o14 r11 p8 e5 e1
 simp [gz, *]
 (focus repeat' first|refine ga ?_|(refine gb ?_;try simp[gz, *])|refine gk fun _ _=>?_)
 exact ⟨by kernel_rfl,rfl,p,_,by omega,Sub.refl _,p,_,v4,u9,u10,by omega,rfl,q,Cur.wk (o15.drop yb5),by first|rfl|simp⟩
 try simp only[c2,Z]at q
 refine o4.is [91] ?_
 have w3:=o4.good.rd.w1
 simp [gz, *]
 (focus repeat' first|refine ga ?_|(refine gb ?_;try simp[gz, *])|refine gk fun _ _=>?_)
 have o16:=o4.stepped (isL_kind c2)
 clear o4
 refine o16.settle fun k11 o17 r13=>?_
 have p10:=o17.b1
 clear o16 r4 p1 w3
 obtain ⟨l3,S7,h3,q⟩:=bo2 q
 refine o17.call (ih _ _ (by omega)) h3 fun k12 u11 u12 v5 e6 o18 r14=>?_
 try simp only[e6,Z]at q
 have p11:=o18.b1
 clear o17 r13 p10 h3 e1
 simp [gz, *]
 (focus repeat' first|refine ga ?_|(refine gb ?_;try simp[gz, *])|refine gk fun _ _=>?_)
 refine o18.must [93] fun k13 S8 e7 o19 r15=>?_
 try simp only[e7,Z]at q
 have p12:=o19.b1
 clear o18 r14 p11 e7
 simp [gz, *]
 (focus repeat' first|refine ga ?_|(refine gb ?_;try simp[gz, *])|refine gk fun _ _=>?_)
 refine o19.add 14 a.pos [] 0 [i, v5] (fun k14 u13 u14 v6 S9 e8 o20 r16=>?_)
 try simp only[e8,Z]at q
 have p13:=o20.b1
 clear o19 r15 p12 e8 e6
 simp [gz, *]
 (focus repeat' first|refine ga ?_|(refine gb ?_;try simp[gz, *])|refine gk fun _ _=>?_)
 exact ⟨by kernel_rfl,rfl,p,_,by omega,Sub.refl _,p,_,v6,u13,u14,by omega,rfl,q,Cur.wk (o20.drop yb5),by first|rfl|simp⟩
 try simp only[c1,Z]at q
 refine o4.is [46] ?_
 have w4:=o4.good.rd.w1
 simp [gz, *]
 (focus repeat' first|refine ga ?_|(refine gb ?_;try simp[gz, *])|refine gk fun _ _=>?_)
 have o21:=o4.stepped (isL_kind c1)
 clear o4
 refine o21.settle fun k15 o22 r17=>?_
 have p14:=o22.b1
 clear o21 r4 p1 w4
 refine o22.name fun k16 x1 S10 e9 o23 r18=>?_
 try simp only[e9,Z]at q
 have p15:=o23.b1
 clear o22 r17 p14 e9
 simp [gz, *]
 (focus repeat' first|refine ga ?_|(refine gb ?_;try simp[gz, *])|refine gk fun _ _=>?_)
 refine o23.add 15 a.pos x1 0 [i] (fun k17 u15 u16 v7 S11 e10 o24 r19=>?_)
 try simp only[e10,Z]at q
 have p16:=o24.b1
 clear o23 r18 p15 e10 e1
 simp [gz, *]
 (focus repeat' first|refine ga ?_|(refine gb ?_;try simp[gz, *])|refine gk fun _ _=>?_)
 exact ⟨by kernel_rfl,rfl,p,_,by omega,Sub.refl _,p,_,v7,u15,u16,by omega,rfl,q,Cur.wk (o24.drop yb5),by first|rfl|simp⟩
 try simp only[hln,Z]at q
 cases c4:isL T [46] Sq
 try simp only[c4,Z]at q
 refine o4.is [46] ?_
 simp [gz, *]
 (focus repeat' first|refine ga ?_|(refine gb ?_;try simp[gz, *])|refine gk fun _ _=>?_)
 cases c5:isL T [91] Sq
 try simp only[c5,Z]at q
 refine o4.is [91] ?_
 simp [gz, *]
 (focus repeat' first|refine ga ?_|(refine gb ?_;try simp[gz, *])|refine gk fun _ _=>?_)
 cases c6:isL T [40] Sq
 try simp only[c6,Z]at q
 refine o4.is [40] ?_
 cases d3:decide (t.kind = 5)
 try simp only[ef d3,d3,Z]at q
 obtain ⟨rfl,rfl⟩:=fi q
 subst e1
 simp [gz, *]
 (focus repeat' first|refine ga ?_|(refine gb ?_;try simp[gz, *])|refine gk fun _ _=>?_)
 exact hR.out _ _ _ o4.fin
 try simp only[et d3,d3,Z]at q
 cases hst:isStep t.text
 try simp only[hst,Z]at q
 simp [gz, *]
 (focus repeat' first|refine ga ?_|(refine gb ?_;try simp[gz, *])|refine gk fun _ _=>?_)
 refine Step_c t.text _ o4.i0 _ ?_
 rw [isStep_eq,hst]
 obtain ⟨rfl,rfl⟩:=fi q
 subst e1
 simp [gz, *]
 (focus repeat' first|refine ga ?_|(refine gb ?_;try simp[gz, *])|refine gk fun _ _=>?_)
 exact hR.out _ _ _ o4.fin
 try simp only[hst,Z]at q
 simp [gz, *]
 (focus repeat' first|refine ga ?_|(refine gb ?_;try simp[gz, *])|refine gk fun _ _=>?_)
 refine Step_c t.text _ o4.i0 _ ?_
 rw [isStep_eq,hst]
 obtain ⟨rfl,rfl⟩:=fi q
 subst e1
 simp [gz, *]
 (focus repeat' first|refine ga ?_|(refine gb ?_;try simp[gz, *])|refine gk fun _ _=>?_)
 exact hR.out _ _ _ o4.fin
 try simp only[c6,Z]at q
 refine o4.is [40] ?_
 cases d4:decide (t.kind = 5)
 try simp only[ef d4,d4,Z]at q
 obtain ⟨rfl,rfl⟩:=fi q
 subst e1
 simp [gz, *]
 (focus repeat' first|refine ga ?_|(refine gb ?_;try simp[gz, *])|refine gk fun _ _=>?_)
 exact hR.out _ _ _ o4.fin
 try simp only[et d4,d4,Z]at q
 cases hst:isStep t.text
 try simp only[hst,Z]at q
 simp [gz, *]
 (focus repeat' first|refine ga ?_|(refine gb ?_;try simp[gz, *])|refine gk fun _ _=>?_)
 refine Step_c t.text _ o4.i0 _ ?_
 rw [isStep_eq,hst]
 obtain ⟨rfl,rfl⟩:=fi q
 subst e1
 simp [gz, *]
 (focus repeat' first|refine ga ?_|(refine gb ?_;try simp[gz, *])|refine gk fun _ _=>?_)
 exact hR.out _ _ _ o4.fin
 try simp only[hst,Z]at q
 simp [gz, *]
 (focus repeat' first|refine ga ?_|(refine gb ?_;try simp[gz, *])|refine gk fun _ _=>?_)
 refine Step_c t.text _ o4.i0 _ ?_
 rw [isStep_eq,hst]
 obtain ⟨rfl,rfl⟩:=fi q
 subst e1
 simp [gz, *]
 (focus repeat' first|refine ga ?_|(refine gb ?_;try simp[gz, *])|refine gk fun _ _=>?_)
 exact hR.out _ _ _ o4.fin
 try simp only[c5,Z]at q
 refine o4.is [91] ?_
 simp [gz, *]
 (focus repeat' first|refine ga ?_|(refine gb ?_;try simp[gz, *])|refine gk fun _ _=>?_)
 cases c7:isL T [40] Sq
 try simp only[c7,Z]at q
 refine o4.is [40] ?_
 cases d5:decide (t.kind = 5)
 try simp only[ef d5,d5,Z]at q
 obtain ⟨rfl,rfl⟩:=fi q
 subst e1
 simp [gz, *]
 (focus repeat' first|refine ga ?_|(refine gb ?_;try simp[gz, *])|refine gk fun _ _=>?_)
 exact hR.out _ _ _ o4.fin
 try simp only[et d5,d5,Z]at q
 cases hst:isStep t.text
 try simp only[hst,Z]at q
 simp [gz, *]
 (focus repeat' first|refine ga ?_|(refine gb ?_;try simp[gz, *])|refine gk fun _ _=>?_)
 refine Step_c t.text _ o4.i0 _ ?_
 rw [isStep_eq,hst]
 obtain ⟨rfl,rfl⟩:=fi q
 subst e1
 simp [gz, *]
 (focus repeat' first|refine ga ?_|(refine gb ?_;try simp[gz, *])|refine gk fun _ _=>?_)
 exact hR.out _ _ _ o4.fin
 try simp only[hst,Z]at q
 simp [gz, *]
 (focus repeat' first|refine ga ?_|(refine gb ?_;try simp[gz, *])|refine gk fun _ _=>?_)
 refine Step_c t.text _ o4.i0 _ ?_
 rw [isStep_eq,hst]
 obtain ⟨rfl,rfl⟩:=fi q
 subst e1
 simp [gz, *]
 (focus repeat' first|refine ga ?_|(refine gb ?_;try simp[gz, *])|refine gk fun _ _=>?_)
 exact hR.out _ _ _ o4.fin
 try simp only[c7,Z]at q
 refine o4.is [40] ?_
 cases d6:decide (t.kind = 5)
 try simp only[ef d6,d6,Z]at q
 obtain ⟨rfl,rfl⟩:=fi q
 subst e1
 simp [gz, *]
 (focus repeat' first|refine ga ?_|(refine gb ?_;try simp[gz, *])|refine gk fun _ _=>?_)
 exact hR.out _ _ _ o4.fin
 try simp only[et d6,d6,Z]at q
 cases hst:isStep t.text
 try simp only[hst,Z]at q
 simp [gz, *]
 (focus repeat' first|refine ga ?_|(refine gb ?_;try simp[gz, *])|refine gk fun _ _=>?_)
 refine Step_c t.text _ o4.i0 _ ?_
 rw [isStep_eq,hst]
 obtain ⟨rfl,rfl⟩:=fi q
 subst e1
 simp [gz, *]
 (focus repeat' first|refine ga ?_|(refine gb ?_;try simp[gz, *])|refine gk fun _ _=>?_)
 exact hR.out _ _ _ o4.fin
 try simp only[hst,Z]at q
 simp [gz, *]
 (focus repeat' first|refine ga ?_|(refine gb ?_;try simp[gz, *])|refine gk fun _ _=>?_)
 refine Step_c t.text _ o4.i0 _ ?_
 rw [isStep_eq,hst]
 obtain ⟨rfl,rfl⟩:=fi q
 subst e1
 simp [gz, *]
 (focus repeat' first|refine ga ?_|(refine gb ?_;try simp[gz, *])|refine gk fun _ _=>?_)
 exact hR.out _ _ _ o4.fin
 try simp only[c4,Z]at q
 refine o4.is [46] ?_
 have w5:=o4.good.rd.w1
 simp [gz, *]
 (focus repeat' first|refine ga ?_|(refine gb ?_;try simp[gz, *])|refine gk fun _ _=>?_)
 have o25:=o4.stepped (isL_kind c4)
 clear o4
 refine o25.settle fun k18 o26 r20=>?_
 have p17:=o26.b1
 clear o25 r4 p1 w5
 refine o26.name fun k19 x2 S12 e11 o27 r21=>?_
 try simp only[e11,Z]at q
 have p18:=o27.b1
 clear o26 r20 p17 e11
 simp [gz, *]
 (focus repeat' first|refine ga ?_|(refine gb ?_;try simp[gz, *])|refine gk fun _ _=>?_)
 refine o27.add 15 a.pos x2 0 [i] (fun k20 u17 u18 v8 S13 e12 o28 r22=>?_)
 try simp only[e12,Z]at q
 have p19:=o28.b1
 clear o27 r21 p18 e12 e1
 simp [gz, *]
 (focus repeat' first|refine ga ?_|(refine gb ?_;try simp[gz, *])|refine gk fun _ _=>?_)
 exact ⟨by kernel_rfl,rfl,p,_,by omega,Sub.refl _,p,_,v8,u17,u18,by omega,rfl,q,Cur.wk (o28.drop yb5),by first|rfl|simp⟩
 have hfd:=decide_eq_false hgo
 rw [if_neg hgo]at q
 clear hgo
 refine awp_eqs (s' := [_,_,x 2,_,x 4,x 5,x 6,_,_,_,_,_,x 12,x 13,x 14,x 15,x 16,x 17,x 18,x 19,x 20,x 21,x 22,x 23,x 24,x 25,x 26,x 27,x 28,x 29,x 30,x 31,x 32,x 33,x 34,x 35,x 36,x 37,x 38,x 39,x 40,x 41,x 42,x 43,x 44,x 45,x 46,x 47,x 48,x 49,x 50,x 51,x 52,x 53,x 54,x 55,x 56,x 57,x 58,x 59,x 60,x 61,x 62,x 63,x 64,x 65,x 66,x 67,x 68,x 69,x 70,x 71,x 72,x 73,x 74,x 75,x 76,x 77,x 78,x 79,x 80,x 81,x 82,x 83,x 84,x 85,x 86,x 87,x 88,x 89,x 90,x 91,x 92,x 93,x 94,x 95,x 96,x 97,x 98,x 99,x 100,x 101,x 102,x 103,x 104,x 105,x 106,x 107,x 108,x 109,x 110,x 111,x 112,x 113,x 114,x 115,x 116,x 117,_]) rfl ?_
 (focus repeat' first|refine ga ?_|(refine gb ?_;try simp[gz, *])|refine gk fun _ _=>?_)
 refine o2.ok ?_
 obtain ⟨rfl,rfl⟩:=fi q
 subst e1
 simp [gz, *]
 (focus repeat' first|refine ga ?_|(refine gb ?_;try simp[gz, *])|refine gk fun _ _=>?_)
 exact hR.out _ _ _ o2.fin
end Go.Proofs.YtcbgpjlcfkkdlaaGreatDoor

namespace Go.Proofs.YtcbgpjlcfkkdlaaGreatDoor
open Go Go.AL Go.Proofs
theorem member_w (T : List Tk) (tt : Tok) (n : Nat) (ih : ∀ m op, m ≤ n → Meth T tt m op) : Meth T tt (n + 1) .member := by
 refine Meth.of fun S l S' q r t1 t2 B h o R hR=>?_
 simp only[run,Z]at q
 obtain ⟨t,ht_t⟩:∃ x,Sh (peekL T S=x):=⟨_,⟨rfl⟩⟩
 try simp only[ht_t.out,Z]at q
 refine acalls_of Tryz.func146 rfl Tryz.ntmps146 (congrArg Array.toList Tryz.results146) fun Q hQ => ?_
 have r1:=o.own.blk
 (focus repeat' first|refine ga ?_|(refine gb ?_;try simp[gz, *])|refine gk fun _ _=>?_)
 refine o.peek ht_t ?_
 simp [gz, *]
 intro b4 zb4
 obtain ⟨n_r_b4,n_b4_r⟩:=o.ne zb4
 have yb4:=o.y zb4
 have o1:=o.new zb4 (.cells (tkRow t))
 clear o zb4
 try simp [gz, *]
 (focus repeat' first|refine ga ?_|(refine gb ?_;try simp[gz, *])|refine gk fun _ _=>?_)
 refine o1.settle fun k1 o2 r2=>?_
 have p1:=o2.b1
 clear o1 r1
 cases c1:isL T [102, 117, 110, 99, 116, 105, 111, 110] S
 try simp only[c1,Z]at q
 refine o2.is [102, 117, 110, 99, 116, 105, 111, 110] ?_
 simp [gz, *]
 (focus repeat' first|refine ga ?_|(refine gb ?_;try simp[gz, *])|refine gk fun _ _=>?_)
 refine o2.eat [91] (fun c2 k2 o3 r3=>?_) fun c2 k2 S1 e1 z1 o3 r3=>?_
 try simp only[c2,Z]at q
 have p2:=o3.b1
 clear o2 r2 p1 c2
 simp [gz, *]
 (focus repeat' first|refine ga ?_|(refine gb ?_;try simp[gz, *])|refine gk fun _ _=>?_)
 have o4:=(o3.minus yb4)
 refine awp_region_draw [b4] [(0,true),(1,true),(2,true),(3,true),(4,false),(5,false)] [6] follows (by kernel_rfl) rfl (by kernel_rfl) ?_; simp [gz, *]
 clear o3
 (focus repeat' first|refine ga ?_|(refine gb ?_;try simp[gz, *])|refine gk fun _ _=>?_)
 refine o4.name fun k3 x1 S2 e2 o5 r4=>?_
 try simp only[e2,Z]at q
 clear o4 e2
 simp [gz, *]
 intro hn1
 rw [show (k3.plus [b4] k2).minus [b4]=k3 from minus_of_none (by simp[hn1])]
 clear hn1
 refine o5.add 5 t.pos x1 0 [] (fun k4 u1 u2 v1 S3 e3 o6 r5=>?_)
 try simp only[e3,Z]at q
 clear o5 r4 e3
 simp [gz, *]
 intro hn2
 rw [show k4.plus [b4] (k3.plus [b4] k2)=_ from plus_one (x:=.cells (tkRow t)) (by simp[*])]
 have o7:=o6.new hn2 (.cells (tkRow t))
 clear o6 r3 p2
 (focus repeat' first|refine ga ?_|(refine gb ?_;try simp[gz, *])|refine gk fun _ _=>?_)
 refine o7.settle fun k5 o8 r6=>?_
 have p3:=o8.b1
 clear o7 r5
 refine o8.must [61] fun k6 S4 e4 o9 r7=>?_
 try simp only[e4,Z]at q
 have p4:=o9.b1
 clear o8 r6 p3 e4
 simp [gz, *]
 (focus repeat' first|refine ga ?_|(refine gb ?_;try simp[gz, *])|refine gk fun _ _=>?_)
 obtain ⟨l1,S5,h1,q⟩:=bo2 q
 refine o9.call (ih _ _ (by omega)) h1 fun k7 u3 u4 v2 e5 o10 r8=>?_
 try simp only[e5,Z]at q
 have p5:=o10.b1
 clear o9 r7 p4 h1
 obtain ⟨rfl,rfl⟩:=fi q
 subst e5
 simp [gz, *]
 (focus repeat' first|refine ga ?_|(refine gb ?_;try simp[gz, *])|refine gk fun _ _=>?_)
 exact hR.out _ _ _ o10.fin
 try simp only[c2,e1,Z]at q
 have p6:=o3.b1
 clear o2 r2 p1 e1 c2
 simp [gz, *]
 (focus repeat' first|refine ga ?_|(refine gb ?_;try simp[gz, *])|refine gk fun _ _=>?_)
 obtain ⟨l2,S6,h2,q⟩:=bo2 q
 refine o3.call (ih _ _ (by omega)) h2 fun k8 u5 u6 v3 e6 o11 r9=>?_
 try simp only[e6,Z]at q
 have p7:=o11.b1
 clear o3 r3 p6 h2
 simp [gz, *]
 (focus repeat' first|refine ga ?_|(refine gb ?_;try simp[gz, *])|refine gk fun _ _=>?_)
 refine o11.must [93] fun k9 S7 e7 o12 r10=>?_
 try simp only[e7,Z]at q
 have p8:=o12.b1
 clear o11 r9 p7 e7
 simp [gz, *]
 (focus repeat' first|refine ga ?_|(refine gb ?_;try simp[gz, *])|refine gk fun _ _=>?_)
 refine o12.must [61] fun k10 S8 e8 o13 r11=>?_
 try simp only[e8,Z]at q
 have p9:=o13.b1
 clear o12 r10 p8 e8
 simp [gz, *]
 (focus repeat' first|refine ga ?_|(refine gb ?_;try simp[gz, *])|refine gk fun _ _=>?_)
 obtain ⟨l3,S9,h3,q⟩:=bo2 q
 refine o13.call (ih _ _ (by omega)) h3 fun k11 u7 u8 v4 e9 o14 r12=>?_
 try simp only[e9,Z]at q
 have p10:=o14.b1
 clear o13 r11 p9 h3 e6
 obtain ⟨rfl,rfl⟩:=fi q
 subst e9
 simp [gz, *]
 (focus repeat' first|refine ga ?_|(refine gb ?_;try simp[gz, *])|refine gk fun _ _=>?_)
 exact hR.out _ _ _ o14.fin
 try simp only[c1,Z]at q
 refine o2.is [102, 117, 110, 99, 116, 105, 111, 110] ?_
 obtain ⟨nt,hnt,⟨lt1,hnt2⟩,hnt3,w1⟩:=nextk o2.good (isL_kind c1)
 have lt1l:=o2.good.rd.len
 try simp only[hnt3,Z]at q
 simp [gz, *]
 (focus repeat' first|refine ga ?_|(refine gb ?_;try simp[gz, *])|refine gk fun _ _=>?_)
 refine awp_region_draw [r] [(0,true),(1,true),(2,true),(3,true),(4,true),(5,true),(6,true),(7,true),(8,true),(9,true),(10,true),(11,false)] [12] follows (by kernel_rfl) rfl (by kernel_rfl) ?_; simp [gz, *]
 (focus repeat' first|refine ga ?_|(refine gb ?_;try simp[gz, *])|refine gk fun _ _=>?_)
 intro b5 hb5
 simp [gz, *]
 intro n_r_b5
 have n_b5_r:¬ b5=r:=fun e=>n_r_b5 e.symm
 have zn:k1 b5=none:=by
   have h1:=hb5
   simp only [Fresh,Heap.minus_get]at h1
   simpa [n_b5_r] using h1
 clear hb5
 obtain ⟨n_b4_b5,n_b5_b4⟩:=ne2 p1 zn
 have hp:(((k1.minus [r]).set b5 (.cells [.int .i64 0,.int .i64 0,.str [],.int .i64 0,.bool false])).plus [r] k1).set b5 (.cells (tkRow nt))=k1.set b5 (.cells (tkRow nt)):=by
   funext c
   by_cases e1:c=b5
   · subst e1; simp [gz]
   · by_cases e2:c=r
     · subst e2; simp [gz,e1]
     · simp [gz,e1,e2]
 have yb5:=o2.y zn
 have o15:=o2.new zn (.cells (tkRow nt))
 simp [gz, *]
 try rw [hp]
 clear hp o2 zn
 cases d1:decide (nt.kind = 1)
 try simp only[ef d1,d1,Z]at q
 have w2:=o15.good.rd.w1
 (focus repeat' first|refine ga ?_|(refine gb ?_;try simp[gz, *])|refine gk fun _ _=>?_)
 have o16:=o15.stepped (isL_kind c1)
 clear o15
 refine o16.settle fun k12 o17 r13=>?_
 have p11:=o17.b1
 have p12:=o17.b2 n_b4_b5
 clear o16 r2 p1 w2
 refine o17.wrong 5 fun k13 S10 e10 o18 r14=>?_
 try simp only[e10,Z]at q
 have p13:=o18.b1
 have p14:=o18.b2 n_b4_b5
 clear o17 r13 p11 p12 e10
 obtain ⟨rfl,rfl⟩:=fi q
 simp [gz, *]
 (focus repeat' first|refine ga ?_|(refine gb ?_;try simp[gz, *])|refine gk fun _ _=>?_)
 exact hR.out _ _ _ o18.fin
 try simp only[et d1,d1,Z]at q
 (focus repeat' first|refine ga ?_|(refine gb ?_;try simp[gz, *])|refine gk fun _ _=>?_)
 refine o15.settle fun k14 o19 r15=>?_
 have p15:=o19.b1
 have p16:=o19.b2 n_b4_b5
 clear o15 r2 p1
 refine o19.add 5 nt.pos nt.text 0 [] (fun k15 u9 u10 v5 S11 e11 o20 r16=>?_)
 try simp only[e11,Z]at q
 have p17:=o20.b1
 have p18:=o20.b2 n_b4_b5
 clear o19 r15 p15 p16 e11
 simp [gz, *]
 (focus repeat' first|refine ga ?_|(refine gb ?_;try simp[gz, *])|refine gk fun _ _=>?_)
 obtain ⟨l4,S12,h4,q⟩:=bo2 q
 refine o20.call (ih _ _ (by omega)) h4 fun k16 u11 u12 v6 e12 o21 r17=>?_
 try simp only[e12,Z]at q
 have p19:=o21.b1
 have p20:=o21.b2 n_b4_b5
 clear o20 r16 p17 p18 h4
 obtain ⟨rfl,rfl⟩:=fi q
 subst e12
 simp [gz, *]
 (focus repeat' first|refine ga ?_|(refine gb ?_;try simp[gz, *])|refine gk fun _ _=>?_)
 exact hR.out _ _ _ o21.fin
end Go.Proofs.YtcbgpjlcfkkdlaaGreatDoor

namespace Go.Proofs.YtcbgpjlcfkkdlaaGreatDoor
open Go Go.AL Go.Proofs
theorem table_w (T : List Tk) (tt : Tok) (n : Nat) (hn : n ≤ 1000000) (ih : ∀ m op, m ≤ n → Meth T tt m op) : Meth T tt (n + 1) .table := by
 refine Meth.of fun S l S' q r t1 t2 B h o R hR=>?_
 simp only[run,Z]at q
 obtain ⟨a,ht_a⟩:∃ x,Sh (peekL T S=x):=⟨_,⟨rfl⟩⟩
 try simp only[ht_a.out,Z]at q
 refine acalls_of Tryz.func158 rfl Tryz.ntmps158 (congrArg Array.toList Tryz.results158) fun Q hQ => ?_
 have r1:=o.own.blk
 (focus repeat' first|refine ga ?_|(refine gb ?_;try simp[gz, *])|refine gk fun _ _=>?_)
 refine o.peek ht_a ?_
 simp [gz, *]
 (focus repeat' first|refine ga ?_|(refine gb ?_;try simp[gz, *])|refine gk fun _ _=>?_)
 refine o.must [123] fun k1 S1 e1 o1 r2=>?_
 try simp only[e1,Z]at q
 clear o r1 e1
 simp [gz, *]
 (focus repeat' first|refine ga ?_|(refine gb ?_;try simp[gz, *])|refine gk fun _ _=>?_)
 obtain ⟨l1,S2,h1,qo1⟩:=bo2 q
 clear q
 refine awp_loop_h [4,5,6,12,13,14,15,16,17,18,19,20,21,22,23,24,25,26,27,28,29,30,31] (fun m x g=>∃ (a:Nat) (Sq:St) (kids:List Int) (w1 w2 tk:Tok),a ≤ n ∧ m=a ∧ Sh (run T a (.tableLoop kids) Sq=some (l1,S2)) ∧ Cur B (Heap.bk B tk) g T tt S Sq r w1 w2 (kids) ∧ Lf B B tk ∧ kids.length+2*a ≤ 2*n+0 ∧ x 4=.list 1 (ints kids) tk) n
  ⟨n,_,[],t1,t2,.nil,by omega,rfl,h1,Cur.wk o1,o1.lf,by first|(simp;done)|(simp;omega),rfl⟩ fun m x g hI K hK=>?_
 clear o1 h1 r2
 obtain ⟨a,Sq,kids,w1,w2,tk,hq,rfl,q,o2,lf1,hkl,hx⟩:=hI
 obtain ⟨p,rfl⟩:=run_pos q
 simp only[run,Z]at q
 have r3:=o2.own.blk
 by_cases hgo:Sq.fc=0 ∧ isL T [125] Sq=false
 have hfd:=decide_eq_true hgo.1
 have hil0:=hgo.2
 rw [if_pos hgo]at q
 clear hgo
 refine awp_eqs (s' := [_,_,_,_,x 4,x 5,x 6,_,_,_,_,_,x 12,x 13,x 14,x 15,x 16,x 17,x 18,x 19,x 20,x 21,x 22,x 23,x 24,x 25,x 26,x 27,x 28,x 29,x 30,x 31,_,_,_,_,_,_]) rfl ?_
 (focus repeat' first|refine ga ?_|(refine gb ?_;try simp[gz, *])|refine gk fun _ _=>?_)
 refine o2.ok ?_
 simp [gz, *]
 (focus repeat' first|refine ga ?_|(refine gb ?_;try simp[gz, *])|refine gk fun _ _=>?_)
 refine o2.is [125] ?_
 simp [gz, *]
 (focus repeat' first|refine ga ?_|(refine gb ?_;try simp[gz, *])|refine gk fun _ _=>?_)
 clear hfd hil0
 obtain ⟨l2,S3,h2,q⟩:=bo2 q
 refine o2.mem (ih _ _ (by omega)) h2 fun k2 u1 u2 v1 v2 e2 e3 o3 r4=>?_
 try simp only[e2,e3,Z]at q
 clear o2 r3 e2 e3 h2
 simp [gz, *]
 (focus repeat' first|refine ga ?_|(refine gb ?_;try simp[gz, *])|refine gk fun _ _=>?_)
 refine .inl ⟨o3.tin lf1,fun ab1 ak1 ae1 hb=>?_⟩
 obtain ⟨o5,lf2⟩:=o3.grow lf1 (k:=ak1) (e:=ae1) hb
 generalize (tk.rid k2).set ab1 (.spare ak1 ae1)=k3 at o5 ⊢
 clear hb o3 r4
 have r5:=o5.own.blk
 simp [gz, *]
 (focus repeat' first|refine ga ?_|(refine gb ?_;try simp[gz, *])|refine gk fun _ _=>?_)
 refine o5.eat [44] (fun c1 k4 o6 r6=>?_) fun c1 k4 S4 e4 z1 o6 r6=>?_
 try simp only[c1,Z]at q
 clear o5 r5 c1
 obtain ⟨rfl,rfl⟩:=fi q
 clear q
 have q:=qo1
 simp only[Z]at q
 simp [gz, *]
 (focus repeat' first|refine ga ?_|(refine gb ?_;try simp[gz, *])|refine gk fun _ _=>?_)
 refine o6.must [125] fun k5 S5 e5 o7 r7=>?_
 try simp only[e5,Z]at q
 clear o6 r6 e5
 simp [gz, *]
 (focus repeat' first|refine ga ?_|(refine gb ?_;try simp[gz, *])|refine gk fun _ _=>?_)
 refine o7.add 19 a.pos [] 0 (kids ++ [v1, v2]) (fun k6 u3 u4 v3 S6 e6 o8 r8=>?_) (hl:=(by simp only [List.length_append, List.length_cons, List.length_nil]; omega))
 try simp only[e6,Z]at q
 clear o7 r7 e6
 obtain ⟨rfl,rfl⟩:=fi q
 simp [gz, *]
 (focus repeat' first|refine ga ?_|(refine gb ?_;try simp[gz, *])|refine gk fun _ _=>?_)
 exact hR.out _ _ _ o8.fin
 try simp only[c1,e4,Z]at q
 clear o5 r5 e4 c1
 simp [gz, *]
 (focus repeat' first|refine ga ?_|(refine gb ?_;try simp[gz, *])|refine gk fun _ _=>?_)
 exact ⟨by kernel_rfl,rfl,p,_,by omega,Sub.refl _,p,_,kids ++ [v1, v2],u1,u2,(Tok.own ab1 ak1 ae1),by omega,rfl,q,Cur.wk o6,lf2,by simp;omega,by first|rfl|simp⟩
 rw [if_neg hgo]at q
 obtain ⟨rfl,rfl⟩:=fi q
 clear q
 have q:=qo1
 simp only[Z]at q
 cases hfd:decide (Sq.fc=0)
 clear hgo
 refine awp_eqs (s' := [_,_,_,_,x 4,x 5,x 6,_,_,_,_,_,x 12,x 13,x 14,x 15,x 16,x 17,x 18,x 19,x 20,x 21,x 22,x 23,x 24,x 25,x 26,x 27,x 28,x 29,x 30,x 31,_,_,_,_,_,_]) rfl ?_
 (focus repeat' first|refine ga ?_|(refine gb ?_;try simp[gz, *])|refine gk fun _ _=>?_)
 refine o2.ok ?_
 simp [gz, *]
 (focus repeat' first|refine ga ?_|(refine gb ?_;try simp[gz, *])|refine gk fun _ _=>?_)
 refine o2.must [125] fun k7 S7 e7 o9 r9=>?_
 try simp only[e7,Z]at q
 clear o2 r3 e7
 simp [gz, *]
 (focus repeat' first|refine ga ?_|(refine gb ?_;try simp[gz, *])|refine gk fun _ _=>?_)
 refine o9.add 19 a.pos [] 0 kids (fun k8 u5 u6 v4 S8 e8 o10 r10=>?_) (hl:=(by omega))
 try simp only[e8,Z]at q
 clear o9 r9 e8
 obtain ⟨rfl,rfl⟩:=fi q
 simp [gz, *]
 (focus repeat' first|refine ga ?_|(refine gb ?_;try simp[gz, *])|refine gk fun _ _=>?_)
 exact hR.out _ _ _ o10.fin
 have hil0:isL T [125] Sq=true:=by
  cases e:isL T [125] Sq
  · exact absurd ⟨of_decide_eq_true hfd,e⟩ hgo
  · rfl
 clear hgo
 refine awp_eqs (s' := [_,_,_,_,x 4,x 5,x 6,_,_,_,_,_,x 12,x 13,x 14,x 15,x 16,x 17,x 18,x 19,x 20,x 21,x 22,x 23,x 24,x 25,x 26,x 27,x 28,x 29,x 30,x 31,_,_,_,_,_,_]) rfl ?_
 (focus repeat' first|refine ga ?_|(refine gb ?_;try simp[gz, *])|refine gk fun _ _=>?_)
 refine o2.ok ?_
 simp [gz, *]
 (focus repeat' first|refine ga ?_|(refine gb ?_;try simp[gz, *])|refine gk fun _ _=>?_)
 refine o2.is [125] ?_
 simp [gz, *]
 (focus repeat' first|refine ga ?_|(refine gb ?_;try simp[gz, *])|refine gk fun _ _=>?_)
 refine o2.must [125] fun k9 S9 e9 o11 r11=>?_
 try simp only[e9,Z]at q
 clear o2 r3 e9
 simp [gz, *]
 (focus repeat' first|refine ga ?_|(refine gb ?_;try simp[gz, *])|refine gk fun _ _=>?_)
 refine o11.add 19 a.pos [] 0 kids (fun k10 u7 u8 v5 S10 e10 o12 r12=>?_) (hl:=(by omega))
 try simp only[e10,Z]at q
 clear o11 r11 e10
 obtain ⟨rfl,rfl⟩:=fi q
 simp [gz, *]
 (focus repeat' first|refine ga ?_|(refine gb ?_;try simp[gz, *])|refine gk fun _ _=>?_)
 exact hR.out _ _ _ o12.fin
end Go.Proofs.YtcbgpjlcfkkdlaaGreatDoor

