import Derived.Test.YtcbgpjlcfkkdlaaGreatDoorUAX
set_option linter.unusedSimpArgs false
set_option linter.unusedVariables false
set_option maxRecDepth 100000
set_option maxHeartbeats 16000000
namespace Go.Proofs.YtcbgpjlcfkkdlaaGreatDoor
open Go Go.AL Go.Proofs
theorem class_w (T : List Tk) (tt : Tok) (n : Nat) (hn : n ≤ 1000000) (ih : ∀ m op, m ≤ n → Meth T tt m op) : Meth T tt (n + 1) .clas := by
 refine Meth.of fun S l S' q r t1 t2 B h o R hR=>?_
 simp only[run,Z]at q
 refine acalls_ofD Tryz.func121 rfl Tryz.ntmps121 (congrArg Array.toList Tryz.results121) fun Q hQ => ?_
 have r1:=o.own.blk
 (focus repeat' first|refine ga ?_|(refine gb ?_;try simp[gz, *])|refine gk fun _ _=>?_)
 refine o.down fun k1 S1 e1 o1 r2=>?_
 try simp only[e1,Z]at q
 clear o r1 e1
 obtain ⟨a,ht_a⟩:∃ x,Sh (peekL T S1=x):=⟨_,⟨rfl⟩⟩
 try simp only[ht_a.out,Z]at q
 simp [gz, *]
 (focus repeat' first|refine ga ?_|(refine gb ?_;try simp[gz, *])|refine gk fun _ _=>?_)
 refine o1.peek ht_a ?_
 simp [gz, *]
 (focus repeat' first|refine ga ?_|(refine gb ?_;try simp[gz, *])|refine gk fun _ _=>?_)
 refine o1.must [99, 108, 97, 115, 115] fun k2 S2 e2 o2 r3=>?_
 try simp only[e2,Z]at q
 clear o1 r2 e2
 obtain ⟨nk,ht_nk⟩:∃ x,Sh (peekL T S2=x):=⟨_,⟨rfl⟩⟩
 try simp only[ht_nk.out,Z]at q
 cases d1:decide (nk.kind = 1)
 try simp only[ef d1,d1,Z]at q
 simp [gz, *]
 (focus repeat' first|refine ga ?_|(refine gb ?_;try simp[gz, *])|refine gk fun _ _=>?_)
 refine o2.peek ht_nk ?_
 cases c1:isL T [101, 120, 116, 101, 110, 100, 115] S2
 try simp only[c1,Z]at q
 simp [gz, *]
 (focus repeat' first|refine ga ?_|(refine gb ?_;try simp[gz, *])|refine gk fun _ _=>?_)
 refine o2.eatF c1 fun k3 o3 r4=>?_
 clear o2 r3
 simp [gz, *]
 (focus repeat' first|refine ga ?_|(refine gb ?_;try simp[gz, *])|refine gk fun _ _=>?_)
 refine o3.must [123] fun k4 S3 e3 o4 r5=>?_
 try simp only[e3,Z]at q
 clear o3 r4 e3
 simp [gz, *]
 (focus repeat' first|refine ga ?_|(refine gb ?_;try simp[gz, *])|refine gk fun _ _=>?_)
 obtain ⟨l1,S4,h1,qo1⟩:=bo2 q
 clear q
 refine awp_loop_h [5,6,7,8,32,33,34,35,36,37,38,39,40,41,42,43,44,45,46,47,48,49,50,51,52,53,54,55,56,57,58,59,60,61,62,63,64,65,66,67] (fun m x g=>∃ (a:Nat) (Sq:St) (kids:List Int) (w1 w2 tk:Tok),a ≤ n ∧ m=a ∧ Sh (run T a (.classLoop kids) Sq=some (l1,S4)) ∧ Cur B (Heap.bk B tk) g T tt S Sq r w1 w2 (kids) ∧ Lf B B tk ∧ kids.length+2*a ≤ 2*n+2 ∧ x 5=.list 1 (ints kids) tk) n
  ⟨n,_,[-1],t1,t2,.full,by omega,rfl,h1,Cur.wk o4,o4.lf,by first|(simp;done)|(simp;omega),rfl⟩ fun m x g hI K hK=>?_
 clear o4 h1 r5
 obtain ⟨a,Sq,kids,w1,w2,tk,hq,rfl,q,o5,lf1,hkl,hx⟩:=hI
 obtain ⟨p,rfl⟩:=run_pos q
 simp only[run,Z]at q
 have r6:=o5.own.blk
 by_cases hgo:Sq.fc=0 ∧ isL T [125] Sq=false
 have hfd:=decide_eq_true hgo.1
 have hil0:=hgo.2
 rw [if_pos hgo]at q
 clear hgo
 refine awp_eqs (s' := [_,_,_,_,_,x 5,x 6,x 7,x 8,_,_,_,_,_,_,_,_,_,_,_,_,_,_,_,_,_,_,_,_,_,_,_,x 32,x 33,x 34,x 35,x 36,x 37,x 38,x 39,x 40,x 41,x 42,x 43,x 44,x 45,x 46,x 47,x 48,x 49,x 50,x 51,x 52,x 53,x 54,x 55,x 56,x 57,x 58,x 59,x 60,x 61,x 62,x 63,x 64,x 65,x 66,x 67,_,_,_,_,_,_,_]) rfl ?_
 (focus repeat' first|refine ga ?_|(refine gb ?_;try simp[gz, *])|refine gk fun _ _=>?_)
 refine o5.ok ?_
 simp [gz, *]
 (focus repeat' first|refine ga ?_|(refine gb ?_;try simp[gz, *])|refine gk fun _ _=>?_)
 refine o5.is [125] ?_
 simp [gz, *]
 (focus repeat' first|refine ga ?_|(refine gb ?_;try simp[gz, *])|refine gk fun _ _=>?_)
 clear hfd hil0
 obtain ⟨t,ht_t⟩:∃ x,Sh (peekL T Sq=x):=⟨_,⟨rfl⟩⟩
 try simp only[ht_t.out,Z]at q
 refine o5.peek ht_t ?_
 simp [gz, *]
 intro b6 zb6
 obtain ⟨n_r_b6,n_b6_r⟩:=o5.ne zb6
 have yb6:=o5.y zb6
 have o6:=o5.new zb6 (.cells (tkRow t))
 clear o5 zb6
 try simp [gz, *]
 (focus repeat' first|refine ga ?_|(refine gb ?_;try simp[gz, *])|refine gk fun _ _=>?_)
 refine o6.settle fun k5 o7 r7=>?_
 have p1:=o7.b1
 clear o6 r6
 refine o7.eat [99, 111, 110, 115, 116, 114, 117, 99, 116, 111, 114] (fun c2 k6 o8 r8=>?_) fun c2 k6 S5 e4 z1 o8 r8=>?_
 try simp only[c2,Z]at q
 have p2:=o8.b1
 clear o7 r7 p1 c2
 simp [gz, *]
 (focus repeat' first|refine ga ?_|(refine gb ?_;try simp[gz, *])|refine gk fun _ _=>?_)
 obtain ⟨l2,S6,h2,q⟩:=bo2 q
 refine o8.mem (ih _ _ (by omega)) h2 fun k7 u1 u2 v1 v2 e5 e6 o9 r9=>?_
 try simp only[e5,e6,Z]at q
 have p3:=o9.b1
 clear o8 r8 p2 e5 e6 h2
 simp [gz, *]
 (focus repeat' first|refine ga ?_|(refine gb ?_;try simp[gz, *])|refine gk fun _ _=>?_)
 refine o9.add 23 t.pos [] 0 [v1, v2] (fun k8 u3 u4 v3 S7 e7 o10 r10=>?_)
 try simp only[e7,Z]at q
 have p4:=o10.b1
 clear o9 r9 p3 e7
 simp [gz, *]
 (focus repeat' first|refine ga ?_|(refine gb ?_;try simp[gz, *])|refine gk fun _ _=>?_)
 have o11:=(o10.drop yb6)
 clear o10
 refine .inl ⟨o11.tin lf1,fun ab1 ak1 ae1 hb=>?_⟩
 obtain ⟨o12,lf2⟩:=o11.grow lf1 (k:=ak1) (e:=ae1) hb
 generalize (tk.rid k8).set ab1 (.spare ak1 ae1)=k9 at o12 ⊢
 clear hb o11 r10 p4
 have r11:=o12.own.blk
 simp [gz, *]
 (focus repeat' first|refine ga ?_|(refine gb ?_;try simp[gz, *])|refine gk fun _ _=>?_)
 refine o12.eat [59] (fun c3 k10 o13 r12=>?_) fun c3 k10 S8 e8 z2 o13 r12=>?_
 try simp only[c3,Z]at q
 clear o12 r11 c3
 simp [gz, *]
 (focus repeat' first|refine ga ?_|(refine gb ?_;try simp[gz, *])|refine gk fun _ _=>?_)
 exact ⟨by kernel_rfl,rfl,p,_,by omega,Sub.refl _,p,_,kids ++ [v3],u3,u4,(Tok.own ab1 ak1 ae1),by omega,rfl,q,Cur.wk o13,lf2,by simp;omega,by first|rfl|simp⟩
 try simp only[c3,e8,Z]at q
 clear o12 r11 e8 c3
 simp [gz, *]
 (focus repeat' first|refine ga ?_|(refine gb ?_;try simp[gz, *])|refine gk fun _ _=>?_)
 exact ⟨by kernel_rfl,rfl,p,_,by omega,Sub.refl _,p,_,kids ++ [v3],u3,u4,(Tok.own ab1 ak1 ae1),by omega,rfl,q,Cur.wk o13,lf2,by simp;omega,by first|rfl|simp⟩
 try simp only[c2,e4,Z]at q
 have p5:=o8.b1
 clear o7 r7 p1 e4 c2
 simp [gz, *]
 (focus repeat' first|refine ga ?_|(refine gb ?_;try simp[gz, *])|refine gk fun _ _=>?_)
 refine o8.add 5 t.pos [99, 111, 110, 115, 116, 114, 117, 99, 116, 111, 114] 0 [] (fun k11 u5 u6 v4 S9 e9 o14 r13=>?_)
 try simp only[e9,Z]at q
 have p6:=o14.b1
 clear o8 r8 p5 e9
 simp [gz, *]
 (focus repeat' first|refine ga ?_|(refine gb ?_;try simp[gz, *])|refine gk fun _ _=>?_)
 obtain ⟨l3,S10,h3,q⟩:=bo2 q
 refine o14.call (ih _ _ (by omega)) h3 fun k12 u7 u8 v5 e10 o15 r14=>?_
 try simp only[e10,Z]at q
 have p7:=o15.b1
 clear o14 r13 p6 h3
 simp [gz, *]
 (focus repeat' first|refine ga ?_|(refine gb ?_;try simp[gz, *])|refine gk fun _ _=>?_)
 refine o15.add 23 t.pos [] 0 [v4, v5] (fun k13 u9 u10 v6 S11 e11 o16 r15=>?_)
 try simp only[e11,Z]at q
 have p8:=o16.b1
 clear o15 r14 p7 e11 e10
 simp [gz, *]
 (focus repeat' first|refine ga ?_|(refine gb ?_;try simp[gz, *])|refine gk fun _ _=>?_)
 have o17:=(o16.drop yb6)
 clear o16
 refine .inl ⟨o17.tin lf1,fun ab2 ak2 ae2 hb=>?_⟩
 obtain ⟨o18,lf3⟩:=o17.grow lf1 (k:=ak2) (e:=ae2) hb
 generalize (tk.rid k13).set ab2 (.spare ak2 ae2)=k14 at o18 ⊢
 clear hb o17 r15 p8
 have r16:=o18.own.blk
 simp [gz, *]
 (focus repeat' first|refine ga ?_|(refine gb ?_;try simp[gz, *])|refine gk fun _ _=>?_)
 refine o18.eat [59] (fun c4 k15 o19 r17=>?_) fun c4 k15 S12 e12 z3 o19 r17=>?_
 try simp only[c4,Z]at q
 clear o18 r16 c4
 simp [gz, *]
 (focus repeat' first|refine ga ?_|(refine gb ?_;try simp[gz, *])|refine gk fun _ _=>?_)
 exact ⟨by kernel_rfl,rfl,p,_,by omega,Sub.refl _,p,_,kids ++ [v6],u9,u10,(Tok.own ab2 ak2 ae2),by omega,rfl,q,Cur.wk o19,lf3,by simp;omega,by first|rfl|simp⟩
 try simp only[c4,e12,Z]at q
 clear o18 r16 e12 c4
 simp [gz, *]
 (focus repeat' first|refine ga ?_|(refine gb ?_;try simp[gz, *])|refine gk fun _ _=>?_)
 exact ⟨by kernel_rfl,rfl,p,_,by omega,Sub.refl _,p,_,kids ++ [v6],u9,u10,(Tok.own ab2 ak2 ae2),by omega,rfl,q,Cur.wk o19,lf3,by simp;omega,by first|rfl|simp⟩
 rw [if_neg hgo]at q
 obtain ⟨rfl,rfl⟩:=fi q
 clear q
 have q:=qo1
 simp only[Z]at q
 cases hfd:decide (Sq.fc=0)
 clear hgo
 refine awp_eqs (s' := [_,_,_,_,_,x 5,x 6,x 7,x 8,_,_,_,_,_,_,_,_,_,_,_,_,_,_,_,_,_,_,_,_,_,_,_,x 32,x 33,x 34,x 35,x 36,x 37,x 38,x 39,x 40,x 41,x 42,x 43,x 44,x 45,x 46,x 47,x 48,x 49,x 50,x 51,x 52,x 53,x 54,x 55,x 56,x 57,x 58,x 59,x 60,x 61,x 62,x 63,x 64,x 65,x 66,x 67,_,_,_,_,_,_,_]) rfl ?_
 (focus repeat' first|refine ga ?_|(refine gb ?_;try simp[gz, *])|refine gk fun _ _=>?_)
 refine o5.ok ?_
 simp [gz, *]
 (focus repeat' first|refine ga ?_|(refine gb ?_;try simp[gz, *])|refine gk fun _ _=>?_)
 refine o5.must [125] fun k16 S13 e13 o20 r18=>?_
 try simp only[e13,Z]at q
 clear o5 r6 e13
 simp [gz, *]
 (focus repeat' first|refine ga ?_|(refine gb ?_;try simp[gz, *])|refine gk fun _ _=>?_)
 refine o20.add 21 a.pos [] 0 kids (fun k17 u11 u12 v7 S14 e14 o21 r19=>?_) (hl:=(by omega))
 try simp only[e14,Z]at q
 clear o20 r18 e14
 obtain ⟨rfl,rfl⟩:=fi q
 simp [gz, *]
 (focus repeat' first|refine ga ?_|(refine gb ?_;try simp[gz, *])|refine gk fun _ _=>?_)
 refine o21.upd fun k18 o22=>?_
 exact hR.out _ _ _ o22.fin
 have hil0:isL T [125] Sq=true:=by
  cases e:isL T [125] Sq
  · exact absurd ⟨of_decide_eq_true hfd,e⟩ hgo
  · rfl
 clear hgo
 refine awp_eqs (s' := [_,_,_,_,_,x 5,x 6,x 7,x 8,_,_,_,_,_,_,_,_,_,_,_,_,_,_,_,_,_,_,_,_,_,_,_,x 32,x 33,x 34,x 35,x 36,x 37,x 38,x 39,x 40,x 41,x 42,x 43,x 44,x 45,x 46,x 47,x 48,x 49,x 50,x 51,x 52,x 53,x 54,x 55,x 56,x 57,x 58,x 59,x 60,x 61,x 62,x 63,x 64,x 65,x 66,x 67,_,_,_,_,_,_,_]) rfl ?_
 (focus repeat' first|refine ga ?_|(refine gb ?_;try simp[gz, *])|refine gk fun _ _=>?_)
 refine o5.ok ?_
 simp [gz, *]
 (focus repeat' first|refine ga ?_|(refine gb ?_;try simp[gz, *])|refine gk fun _ _=>?_)
 refine o5.is [125] ?_
 simp [gz, *]
 (focus repeat' first|refine ga ?_|(refine gb ?_;try simp[gz, *])|refine gk fun _ _=>?_)
 refine o5.must [125] fun k19 S15 e15 o23 r20=>?_
 try simp only[e15,Z]at q
 clear o5 r6 e15
 simp [gz, *]
 (focus repeat' first|refine ga ?_|(refine gb ?_;try simp[gz, *])|refine gk fun _ _=>?_)
 refine o23.add 21 a.pos [] 0 kids (fun k20 u13 u14 v8 S16 e16 o24 r21=>?_) (hl:=(by omega))
 try simp only[e16,Z]at q
 clear o23 r20 e16
 obtain ⟨rfl,rfl⟩:=fi q
 simp [gz, *]
 (focus repeat' first|refine ga ?_|(refine gb ?_;try simp[gz, *])|refine gk fun _ _=>?_)
 refine o24.upd fun k21 o25=>?_
 exact hR.out _ _ _ o25.fin
 try simp only[c1,Z]at q
 simp [gz, *]
 (focus repeat' first|refine ga ?_|(refine awp_ret ?_; try simp[gz, *])|(refine awp_skip ?_; try simp[gz, *])|(refine awp_exit ?_; try simp[gz, *])|(refine KeepQ.go (by assumption) ?_; try simp[gz, *])|(refine awp_cond' ?_; try simp[gz, *])|refine gk fun _ _=>?_|refine gc ?_ ?_|exact gr _|refine gi fun _=>?_|(refine gn ?_ ?_;focus(intros;simp[*];done)))
 refine awp_region_lit rfl rfl rfl ?_
 simp [gz, *]
 intro b5 zb5
 obtain ⟨n_r_b5,n_b5_r⟩:=o2.ne zb5
 have yb5:=o2.y zb5
 have o26:=o2.new zb5 (.cells ([.int .i64 (-1)]))
 clear o2 zb5
 try simp [gz, *]
 (focus repeat' first|refine ga ?_|(refine gb ?_;try simp[gz, *])|refine gk fun _ _=>?_)
 refine o26.settle fun k22 o27 r22=>?_
 have p9:=o27.b1
 clear o26 r3
 refine o27.eatT c1 fun k23 S17 e17 z4 o28 r23=>?_
 try simp only[e17,Z]at q
 have p10:=o28.b1
 clear o27 r22 p9 e17
 simp [gz, *]
 (focus repeat' first|refine ga ?_|(refine gb ?_;try simp[gz, *])|refine gk fun _ _=>?_)
 obtain ⟨l4,S18,h4,q⟩:=bo2 q
 refine o28.call (ih _ _ (by omega)) h4 fun k24 u15 u16 v9 e18 o29 r24=>?_
 try simp only[e18,Z]at q
 have p11:=o29.b1
 clear o28 r23 p10 h4
 simp [gz, *]
 (focus repeat' first|refine ga ?_|(refine gb ?_;try simp[gz, *])|refine gk fun _ _=>?_)
 have o30:=o29.setB yb5 (.cells ([.int .i64 v9]))
 clear o29
 refine o30.settle fun k25 o31 r25=>?_
 have p12:=o31.b1
 clear o30 r24 p11
 refine o31.must [123] fun k26 S19 e19 o32 r26=>?_
 try simp only[e19,Z]at q
 have p13:=o32.b1
 clear o31 r25 p12 e19
 simp [gz, *]
 (focus repeat' first|refine ga ?_|(refine gb ?_;try simp[gz, *])|refine gk fun _ _=>?_)
 refine awp_view 5 (x := .arr b5 0 1 1) rfl (View.freeze (len := 1) (cap := 1) (off := 0) (sz := 1) (t := .full) p13 (by simp) (by omega) (Or.inr ⟨rfl, rfl⟩)) ?_
 have o33:=o32.del yb5
 clear o32
 refine o33.settleA fun k27 o34 r27=>?_
 clear o33 r26 p13
 obtain ⟨l5,S20,h5,qo2⟩:=bo2 q
 clear q
 refine awp_loop_h [5,6,7,8,32,33,34,35,36,37,38,39,40,41,42,43,44,45,46,47,48,49,50,51,52,53,54,55,56,57,58,59,60,61,62,63,64,65,66,67] (fun m x g=>∃ (a:Nat) (Sq:St) (kids:List Int) (w1 w2 tk:Tok),a ≤ n ∧ m=a ∧ Sh (run T a (.classLoop kids) Sq=some (l5,S20)) ∧ Cur B (Heap.bk B tk) g T tt S Sq r w1 w2 (kids) ∧ Lf B B tk ∧ kids.length+2*a ≤ 2*n+2 ∧ x 5=.list 1 (ints kids) tk) n
  ⟨n,_,[v9],u15,u16,.full,by omega,rfl,h5,Cur.wk o34,o34.lf,by first|(simp;done)|(simp;omega),rfl⟩ fun m x g hI K hK=>?_
 clear o34 h5 r27
 obtain ⟨a,Sq,kids,w1,w2,tk,hq,rfl,q,o35,lf4,hkl,hx⟩:=hI
 obtain ⟨p,rfl⟩:=run_pos q
 simp only[run,Z]at q
 have r28:=o35.own.blk
 by_cases hgo:Sq.fc=0 ∧ isL T [125] Sq=false
 have hfd:=decide_eq_true hgo.1
 have hil0:=hgo.2
 rw [if_pos hgo]at q
 clear hgo
 refine awp_eqs (s' := [_,_,_,_,_,x 5,x 6,x 7,x 8,_,_,_,_,_,_,_,_,_,_,_,_,_,_,_,_,_,_,_,_,_,_,_,x 32,x 33,x 34,x 35,x 36,x 37,x 38,x 39,x 40,x 41,x 42,x 43,x 44,x 45,x 46,x 47,x 48,x 49,x 50,x 51,x 52,x 53,x 54,x 55,x 56,x 57,x 58,x 59,x 60,x 61,x 62,x 63,x 64,x 65,x 66,x 67,_,_,_,_,_,_,_]) rfl ?_
 (focus repeat' first|refine ga ?_|(refine gb ?_;try simp[gz, *])|refine gk fun _ _=>?_)
 refine o35.ok ?_
 simp [gz, *]
 (focus repeat' first|refine ga ?_|(refine gb ?_;try simp[gz, *])|refine gk fun _ _=>?_)
 refine o35.is [125] ?_
 simp [gz, *]
 (focus repeat' first|refine ga ?_|(refine gb ?_;try simp[gz, *])|refine gk fun _ _=>?_)
 clear hfd hil0
 obtain ⟨t,ht_t⟩:∃ x,Sh (peekL T Sq=x):=⟨_,⟨rfl⟩⟩
 try simp only[ht_t.out,Z]at q
 refine o35.peek ht_t ?_
 simp [gz, *]
 intro b6 zb6
 obtain ⟨n_r_b6,n_b6_r⟩:=o35.ne zb6
 have yb6:=o35.y zb6
 have o36:=o35.new zb6 (.cells (tkRow t))
 clear o35 zb6
 try simp [gz, *]
 (focus repeat' first|refine ga ?_|(refine gb ?_;try simp[gz, *])|refine gk fun _ _=>?_)
 refine o36.settle fun k28 o37 r29=>?_
 have p14:=o37.b1
 clear o36 r28
 refine o37.eat [99, 111, 110, 115, 116, 114, 117, 99, 116, 111, 114] (fun c5 k29 o38 r30=>?_) fun c5 k29 S21 e20 z5 o38 r30=>?_
 try simp only[c5,Z]at q
 have p15:=o38.b1
 clear o37 r29 p14 c5
 simp [gz, *]
 (focus repeat' first|refine ga ?_|(refine gb ?_;try simp[gz, *])|refine gk fun _ _=>?_)
 obtain ⟨l6,S22,h6,q⟩:=bo2 q
 refine o38.mem (ih _ _ (by omega)) h6 fun k30 u17 u18 v10 v11 e21 e22 o39 r31=>?_
 try simp only[e21,e22,Z]at q
 have p16:=o39.b1
 clear o38 r30 p15 e21 e22 h6
 simp [gz, *]
 (focus repeat' first|refine ga ?_|(refine gb ?_;try simp[gz, *])|refine gk fun _ _=>?_)
 refine o39.add 23 t.pos [] 0 [v10, v11] (fun k31 u19 u20 v12 S23 e23 o40 r32=>?_)
 try simp only[e23,Z]at q
 have p17:=o40.b1
 clear o39 r31 p16 e23 e18
 simp [gz, *]
 (focus repeat' first|refine ga ?_|(refine gb ?_;try simp[gz, *])|refine gk fun _ _=>?_)
 have o41:=(o40.drop yb6)
 clear o40
 refine .inl ⟨o41.tin lf4,fun ab3 ak3 ae3 hb=>?_⟩
 obtain ⟨o42,lf5⟩:=o41.grow lf4 (k:=ak3) (e:=ae3) hb
 generalize (tk.rid k31).set ab3 (.spare ak3 ae3)=k32 at o42 ⊢
 clear hb o41 r32 p17
 have r33:=o42.own.blk
 simp [gz, *]
 (focus repeat' first|refine ga ?_|(refine gb ?_;try simp[gz, *])|refine gk fun _ _=>?_)
 refine o42.eat [59] (fun c6 k33 o43 r34=>?_) fun c6 k33 S24 e24 z6 o43 r34=>?_
 try simp only[c6,Z]at q
 clear o42 r33 c6
 simp [gz, *]
 (focus repeat' first|refine ga ?_|(refine gb ?_;try simp[gz, *])|refine gk fun _ _=>?_)
 exact ⟨by kernel_rfl,rfl,p,_,by omega,Sub.refl _,p,_,kids ++ [v12],u19,u20,(Tok.own ab3 ak3 ae3),by omega,rfl,q,Cur.wk o43,lf5,by simp;omega,by first|rfl|simp⟩
 try simp only[c6,e24,Z]at q
 clear o42 r33 e24 c6
 simp [gz, *]
 (focus repeat' first|refine ga ?_|(refine gb ?_;try simp[gz, *])|refine gk fun _ _=>?_)
 exact ⟨by kernel_rfl,rfl,p,_,by omega,Sub.refl _,p,_,kids ++ [v12],u19,u20,(Tok.own ab3 ak3 ae3),by omega,rfl,q,Cur.wk o43,lf5,by simp;omega,by first|rfl|simp⟩
 try simp only[c5,e20,Z]at q
 have p18:=o38.b1
 clear o37 r29 p14 e20 c5
 simp [gz, *]
 (focus repeat' first|refine ga ?_|(refine gb ?_;try simp[gz, *])|refine gk fun _ _=>?_)
 refine o38.add 5 t.pos [99, 111, 110, 115, 116, 114, 117, 99, 116, 111, 114] 0 [] (fun k34 u21 u22 v13 S25 e25 o44 r35=>?_)
 try simp only[e25,Z]at q
 have p19:=o44.b1
 clear o38 r30 p18 e25 e18
 simp [gz, *]
 (focus repeat' first|refine ga ?_|(refine gb ?_;try simp[gz, *])|refine gk fun _ _=>?_)
 obtain ⟨l7,S26,h7,q⟩:=bo2 q
 refine o44.call (ih _ _ (by omega)) h7 fun k35 u23 u24 v14 e26 o45 r36=>?_
 try simp only[e26,Z]at q
 have p20:=o45.b1
 clear o44 r35 p19 h7
 simp [gz, *]
 (focus repeat' first|refine ga ?_|(refine gb ?_;try simp[gz, *])|refine gk fun _ _=>?_)
 refine o45.add 23 t.pos [] 0 [v13, v14] (fun k36 u25 u26 v15 S27 e27 o46 r37=>?_)
 try simp only[e27,Z]at q
 have p21:=o46.b1
 clear o45 r36 p20 e27 e26
 simp [gz, *]
 (focus repeat' first|refine ga ?_|(refine gb ?_;try simp[gz, *])|refine gk fun _ _=>?_)
 have o47:=(o46.drop yb6)
 clear o46
 refine .inl ⟨o47.tin lf4,fun ab4 ak4 ae4 hb=>?_⟩
 obtain ⟨o48,lf6⟩:=o47.grow lf4 (k:=ak4) (e:=ae4) hb
 generalize (tk.rid k36).set ab4 (.spare ak4 ae4)=k37 at o48 ⊢
 clear hb o47 r37 p21
 have r38:=o48.own.blk
 simp [gz, *]
 (focus repeat' first|refine ga ?_|(refine gb ?_;try simp[gz, *])|refine gk fun _ _=>?_)
 refine o48.eat [59] (fun c7 k38 o49 r39=>?_) fun c7 k38 S28 e28 z7 o49 r39=>?_
 try simp only[c7,Z]at q
 clear o48 r38 c7
 simp [gz, *]
 (focus repeat' first|refine ga ?_|(refine gb ?_;try simp[gz, *])|refine gk fun _ _=>?_)
 exact ⟨by kernel_rfl,rfl,p,_,by omega,Sub.refl _,p,_,kids ++ [v15],u25,u26,(Tok.own ab4 ak4 ae4),by omega,rfl,q,Cur.wk o49,lf6,by simp;omega,by first|rfl|simp⟩
 try simp only[c7,e28,Z]at q
 clear o48 r38 e28 c7
 simp [gz, *]
 (focus repeat' first|refine ga ?_|(refine gb ?_;try simp[gz, *])|refine gk fun _ _=>?_)
 exact ⟨by kernel_rfl,rfl,p,_,by omega,Sub.refl _,p,_,kids ++ [v15],u25,u26,(Tok.own ab4 ak4 ae4),by omega,rfl,q,Cur.wk o49,lf6,by simp;omega,by first|rfl|simp⟩
 rw [if_neg hgo]at q
 obtain ⟨rfl,rfl⟩:=fi q
 clear q
 have q:=qo2
 simp only[Z]at q
 cases hfd:decide (Sq.fc=0)
 clear hgo
 refine awp_eqs (s' := [_,_,_,_,_,x 5,x 6,x 7,x 8,_,_,_,_,_,_,_,_,_,_,_,_,_,_,_,_,_,_,_,_,_,_,_,x 32,x 33,x 34,x 35,x 36,x 37,x 38,x 39,x 40,x 41,x 42,x 43,x 44,x 45,x 46,x 47,x 48,x 49,x 50,x 51,x 52,x 53,x 54,x 55,x 56,x 57,x 58,x 59,x 60,x 61,x 62,x 63,x 64,x 65,x 66,x 67,_,_,_,_,_,_,_]) rfl ?_
 (focus repeat' first|refine ga ?_|(refine gb ?_;try simp[gz, *])|refine gk fun _ _=>?_)
 refine o35.ok ?_
 simp [gz, *]
 (focus repeat' first|refine ga ?_|(refine gb ?_;try simp[gz, *])|refine gk fun _ _=>?_)
 refine o35.must [125] fun k39 S29 e29 o50 r40=>?_
 try simp only[e29,Z]at q
 clear o35 r28 e29
 simp [gz, *]
 (focus repeat' first|refine ga ?_|(refine gb ?_;try simp[gz, *])|refine gk fun _ _=>?_)
 refine o50.add 21 a.pos [] 0 kids (fun k40 u27 u28 v16 S30 e30 o51 r41=>?_) (hl:=(by omega))
 try simp only[e30,Z]at q
 clear o50 r40 e30 e18
 obtain ⟨rfl,rfl⟩:=fi q
 simp [gz, *]
 (focus repeat' first|refine ga ?_|(refine gb ?_;try simp[gz, *])|refine gk fun _ _=>?_)
 refine o51.upd fun k41 o52=>?_
 exact hR.out _ _ _ o52.fin
 have hil0:isL T [125] Sq=true:=by
  cases e:isL T [125] Sq
  · exact absurd ⟨of_decide_eq_true hfd,e⟩ hgo
  · rfl
 clear hgo
 refine awp_eqs (s' := [_,_,_,_,_,x 5,x 6,x 7,x 8,_,_,_,_,_,_,_,_,_,_,_,_,_,_,_,_,_,_,_,_,_,_,_,x 32,x 33,x 34,x 35,x 36,x 37,x 38,x 39,x 40,x 41,x 42,x 43,x 44,x 45,x 46,x 47,x 48,x 49,x 50,x 51,x 52,x 53,x 54,x 55,x 56,x 57,x 58,x 59,x 60,x 61,x 62,x 63,x 64,x 65,x 66,x 67,_,_,_,_,_,_,_]) rfl ?_
 (focus repeat' first|refine ga ?_|(refine gb ?_;try simp[gz, *])|refine gk fun _ _=>?_)
 refine o35.ok ?_
 simp [gz, *]
 (focus repeat' first|refine ga ?_|(refine gb ?_;try simp[gz, *])|refine gk fun _ _=>?_)
 refine o35.is [125] ?_
 simp [gz, *]
 (focus repeat' first|refine ga ?_|(refine gb ?_;try simp[gz, *])|refine gk fun _ _=>?_)
 refine o35.must [125] fun k42 S31 e31 o53 r42=>?_
 try simp only[e31,Z]at q
 clear o35 r28 e31
 simp [gz, *]
 (focus repeat' first|refine ga ?_|(refine gb ?_;try simp[gz, *])|refine gk fun _ _=>?_)
 refine o53.add 21 a.pos [] 0 kids (fun k43 u29 u30 v17 S32 e32 o54 r43=>?_) (hl:=(by omega))
 try simp only[e32,Z]at q
 clear o53 r42 e32 e18
 obtain ⟨rfl,rfl⟩:=fi q
 simp [gz, *]
 (focus repeat' first|refine ga ?_|(refine gb ?_;try simp[gz, *])|refine gk fun _ _=>?_)
 refine o54.upd fun k44 o55=>?_
 exact hR.out _ _ _ o55.fin
 try simp only[et d1,d1,Z]at q
 simp [gz, *]
 (focus repeat' first|refine ga ?_|(refine gb ?_;try simp[gz, *])|refine gk fun _ _=>?_)
 refine o2.peek ht_nk ?_
 simp [gz, *]
 (focus repeat' first|refine ga ?_|(refine gb ?_;try simp[gz, *])|refine gk fun _ _=>?_)
 refine o2.name fun k45 x1 S33 e33 o56 r44=>?_
 try simp only[e33,Z]at q
 clear o2 r3 e33
 cases c8:isL T [101, 120, 116, 101, 110, 100, 115] S33
 try simp only[c8,Z]at q
 simp [gz, *]
 (focus repeat' first|refine ga ?_|(refine gb ?_;try simp[gz, *])|refine gk fun _ _=>?_)
 refine o56.eatF c8 fun k46 o57 r45=>?_
 clear o56 r44
 simp [gz, *]
 (focus repeat' first|refine ga ?_|(refine gb ?_;try simp[gz, *])|refine gk fun _ _=>?_)
 refine o57.must [123] fun k47 S34 e34 o58 r46=>?_
 try simp only[e34,Z]at q
 clear o57 r45 e34
 simp [gz, *]
 (focus repeat' first|refine ga ?_|(refine gb ?_;try simp[gz, *])|refine gk fun _ _=>?_)
 obtain ⟨l8,S35,h8,qo3⟩:=bo2 q
 clear q
 refine awp_loop_h [5,6,7,8,32,33,34,35,36,37,38,39,40,41,42,43,44,45,46,47,48,49,50,51,52,53,54,55,56,57,58,59,60,61,62,63,64,65,66,67] (fun m x g=>∃ (a:Nat) (Sq:St) (kids:List Int) (w1 w2 tk:Tok),a ≤ n ∧ m=a ∧ Sh (run T a (.classLoop kids) Sq=some (l8,S35)) ∧ Cur B (Heap.bk B tk) g T tt S Sq r w1 w2 (kids) ∧ Lf B B tk ∧ kids.length+2*a ≤ 2*n+2 ∧ x 5=.list 1 (ints kids) tk) n
  ⟨n,_,[-1],t1,t2,.full,by omega,rfl,h8,Cur.wk o58,o58.lf,by first|(simp;done)|(simp;omega),rfl⟩ fun m x g hI K hK=>?_
 clear o58 h8 r46
 obtain ⟨a,Sq,kids,w1,w2,tk,hq,rfl,q,o59,lf7,hkl,hx⟩:=hI
 obtain ⟨p,rfl⟩:=run_pos q
 simp only[run,Z]at q
 have r47:=o59.own.blk
 by_cases hgo:Sq.fc=0 ∧ isL T [125] Sq=false
 have hfd:=decide_eq_true hgo.1
 have hil0:=hgo.2
 rw [if_pos hgo]at q
 clear hgo
 refine awp_eqs (s' := [_,_,_,_,_,x 5,x 6,x 7,x 8,_,_,_,_,_,_,_,_,_,_,_,_,_,_,_,_,_,_,_,_,_,_,_,x 32,x 33,x 34,x 35,x 36,x 37,x 38,x 39,x 40,x 41,x 42,x 43,x 44,x 45,x 46,x 47,x 48,x 49,x 50,x 51,x 52,x 53,x 54,x 55,x 56,x 57,x 58,x 59,x 60,x 61,x 62,x 63,x 64,x 65,x 66,x 67,_,_,_,_,_,_,_]) rfl ?_
 (focus repeat' first|refine ga ?_|(refine gb ?_;try simp[gz, *])|refine gk fun _ _=>?_)
 refine o59.ok ?_
 simp [gz, *]
 (focus repeat' first|refine ga ?_|(refine gb ?_;try simp[gz, *])|refine gk fun _ _=>?_)
 refine o59.is [125] ?_
 simp [gz, *]
 (focus repeat' first|refine ga ?_|(refine gb ?_;try simp[gz, *])|refine gk fun _ _=>?_)
 clear hfd hil0
 obtain ⟨t,ht_t⟩:∃ x,Sh (peekL T Sq=x):=⟨_,⟨rfl⟩⟩
 try simp only[ht_t.out,Z]at q
 refine o59.peek ht_t ?_
 simp [gz, *]
 intro b6 zb6
 obtain ⟨n_r_b6,n_b6_r⟩:=o59.ne zb6
 have yb6:=o59.y zb6
 have o60:=o59.new zb6 (.cells (tkRow t))
 clear o59 zb6
 try simp [gz, *]
 (focus repeat' first|refine ga ?_|(refine gb ?_;try simp[gz, *])|refine gk fun _ _=>?_)
 refine o60.settle fun k48 o61 r48=>?_
 have p22:=o61.b1
 clear o60 r47
 refine o61.eat [99, 111, 110, 115, 116, 114, 117, 99, 116, 111, 114] (fun c9 k49 o62 r49=>?_) fun c9 k49 S36 e35 z8 o62 r49=>?_
 try simp only[c9,Z]at q
 have p23:=o62.b1
 clear o61 r48 p22 c9
 simp [gz, *]
 (focus repeat' first|refine ga ?_|(refine gb ?_;try simp[gz, *])|refine gk fun _ _=>?_)
 obtain ⟨l9,S37,h9,q⟩:=bo2 q
 refine o62.mem (ih _ _ (by omega)) h9 fun k50 u31 u32 v18 v19 e36 e37 o63 r50=>?_
 try simp only[e36,e37,Z]at q
 have p24:=o63.b1
 clear o62 r49 p23 e36 e37 h9
 simp [gz, *]
 (focus repeat' first|refine ga ?_|(refine gb ?_;try simp[gz, *])|refine gk fun _ _=>?_)
 refine o63.add 23 t.pos [] 0 [v18, v19] (fun k51 u33 u34 v20 S38 e38 o64 r51=>?_)
 try simp only[e38,Z]at q
 have p25:=o64.b1
 clear o63 r50 p24 e38
 simp [gz, *]
 (focus repeat' first|refine ga ?_|(refine gb ?_;try simp[gz, *])|refine gk fun _ _=>?_)
 have o65:=(o64.drop yb6)
 clear o64
 refine .inl ⟨o65.tin lf7,fun ab5 ak5 ae5 hb=>?_⟩
 obtain ⟨o66,lf8⟩:=o65.grow lf7 (k:=ak5) (e:=ae5) hb
 generalize (tk.rid k51).set ab5 (.spare ak5 ae5)=k52 at o66 ⊢
 clear hb o65 r51 p25
 have r52:=o66.own.blk
 simp [gz, *]
 (focus repeat' first|refine ga ?_|(refine gb ?_;try simp[gz, *])|refine gk fun _ _=>?_)
 refine o66.eat [59] (fun c10 k53 o67 r53=>?_) fun c10 k53 S39 e39 z9 o67 r53=>?_
 try simp only[c10,Z]at q
 clear o66 r52 c10
 simp [gz, *]
 (focus repeat' first|refine ga ?_|(refine gb ?_;try simp[gz, *])|refine gk fun _ _=>?_)
 exact ⟨by kernel_rfl,rfl,p,_,by omega,Sub.refl _,p,_,kids ++ [v20],u33,u34,(Tok.own ab5 ak5 ae5),by omega,rfl,q,Cur.wk o67,lf8,by simp;omega,by first|rfl|simp⟩
 try simp only[c10,e39,Z]at q
 clear o66 r52 e39 c10
 simp [gz, *]
 (focus repeat' first|refine ga ?_|(refine gb ?_;try simp[gz, *])|refine gk fun _ _=>?_)
 exact ⟨by kernel_rfl,rfl,p,_,by omega,Sub.refl _,p,_,kids ++ [v20],u33,u34,(Tok.own ab5 ak5 ae5),by omega,rfl,q,Cur.wk o67,lf8,by simp;omega,by first|rfl|simp⟩
 try simp only[c9,e35,Z]at q
 have p26:=o62.b1
 clear o61 r48 p22 e35 c9
 simp [gz, *]
 (focus repeat' first|refine ga ?_|(refine gb ?_;try simp[gz, *])|refine gk fun _ _=>?_)
 refine o62.add 5 t.pos [99, 111, 110, 115, 116, 114, 117, 99, 116, 111, 114] 0 [] (fun k54 u35 u36 v21 S40 e40 o68 r54=>?_)
 try simp only[e40,Z]at q
 have p27:=o68.b1
 clear o62 r49 p26 e40
 simp [gz, *]
 (focus repeat' first|refine ga ?_|(refine gb ?_;try simp[gz, *])|refine gk fun _ _=>?_)
 obtain ⟨l10,S41,h10,q⟩:=bo2 q
 refine o68.call (ih _ _ (by omega)) h10 fun k55 u37 u38 v22 e41 o69 r55=>?_
 try simp only[e41,Z]at q
 have p28:=o69.b1
 clear o68 r54 p27 h10
 simp [gz, *]
 (focus repeat' first|refine ga ?_|(refine gb ?_;try simp[gz, *])|refine gk fun _ _=>?_)
 refine o69.add 23 t.pos [] 0 [v21, v22] (fun k56 u39 u40 v23 S42 e42 o70 r56=>?_)
 try simp only[e42,Z]at q
 have p29:=o70.b1
 clear o69 r55 p28 e42 e41
 simp [gz, *]
 (focus repeat' first|refine ga ?_|(refine gb ?_;try simp[gz, *])|refine gk fun _ _=>?_)
 have o71:=(o70.drop yb6)
 clear o70
 refine .inl ⟨o71.tin lf7,fun ab6 ak6 ae6 hb=>?_⟩
 obtain ⟨o72,lf9⟩:=o71.grow lf7 (k:=ak6) (e:=ae6) hb
 generalize (tk.rid k56).set ab6 (.spare ak6 ae6)=k57 at o72 ⊢
 clear hb o71 r56 p29
 have r57:=o72.own.blk
 simp [gz, *]
 (focus repeat' first|refine ga ?_|(refine gb ?_;try simp[gz, *])|refine gk fun _ _=>?_)
 refine o72.eat [59] (fun c11 k58 o73 r58=>?_) fun c11 k58 S43 e43 z10 o73 r58=>?_
 try simp only[c11,Z]at q
 clear o72 r57 c11
 simp [gz, *]
 (focus repeat' first|refine ga ?_|(refine gb ?_;try simp[gz, *])|refine gk fun _ _=>?_)
 exact ⟨by kernel_rfl,rfl,p,_,by omega,Sub.refl _,p,_,kids ++ [v23],u39,u40,(Tok.own ab6 ak6 ae6),by omega,rfl,q,Cur.wk o73,lf9,by simp;omega,by first|rfl|simp⟩
 try simp only[c11,e43,Z]at q
 clear o72 r57 e43 c11
 simp [gz, *]
 (focus repeat' first|refine ga ?_|(refine gb ?_;try simp[gz, *])|refine gk fun _ _=>?_)
 exact ⟨by kernel_rfl,rfl,p,_,by omega,Sub.refl _,p,_,kids ++ [v23],u39,u40,(Tok.own ab6 ak6 ae6),by omega,rfl,q,Cur.wk o73,lf9,by simp;omega,by first|rfl|simp⟩
 rw [if_neg hgo]at q
 obtain ⟨rfl,rfl⟩:=fi q
 clear q
 have q:=qo3
 simp only[Z]at q
 cases hfd:decide (Sq.fc=0)
 clear hgo
 refine awp_eqs (s' := [_,_,_,_,_,x 5,x 6,x 7,x 8,_,_,_,_,_,_,_,_,_,_,_,_,_,_,_,_,_,_,_,_,_,_,_,x 32,x 33,x 34,x 35,x 36,x 37,x 38,x 39,x 40,x 41,x 42,x 43,x 44,x 45,x 46,x 47,x 48,x 49,x 50,x 51,x 52,x 53,x 54,x 55,x 56,x 57,x 58,x 59,x 60,x 61,x 62,x 63,x 64,x 65,x 66,x 67,_,_,_,_,_,_,_]) rfl ?_
 (focus repeat' first|refine ga ?_|(refine gb ?_;try simp[gz, *])|refine gk fun _ _=>?_)
 refine o59.ok ?_
 simp [gz, *]
 (focus repeat' first|refine ga ?_|(refine gb ?_;try simp[gz, *])|refine gk fun _ _=>?_)
 refine o59.must [125] fun k59 S44 e44 o74 r59=>?_
 try simp only[e44,Z]at q
 clear o59 r47 e44
 simp [gz, *]
 (focus repeat' first|refine ga ?_|(refine gb ?_;try simp[gz, *])|refine gk fun _ _=>?_)
 refine o74.add 21 a.pos x1 0 kids (fun k60 u41 u42 v24 S45 e45 o75 r60=>?_) (hl:=(by omega))
 try simp only[e45,Z]at q
 clear o74 r59 e45
 obtain ⟨rfl,rfl⟩:=fi q
 simp [gz, *]
 (focus repeat' first|refine ga ?_|(refine gb ?_;try simp[gz, *])|refine gk fun _ _=>?_)
 refine o75.upd fun k61 o76=>?_
 exact hR.out _ _ _ o76.fin
 have hil0:isL T [125] Sq=true:=by
  cases e:isL T [125] Sq
  · exact absurd ⟨of_decide_eq_true hfd,e⟩ hgo
  · rfl
 clear hgo
 refine awp_eqs (s' := [_,_,_,_,_,x 5,x 6,x 7,x 8,_,_,_,_,_,_,_,_,_,_,_,_,_,_,_,_,_,_,_,_,_,_,_,x 32,x 33,x 34,x 35,x 36,x 37,x 38,x 39,x 40,x 41,x 42,x 43,x 44,x 45,x 46,x 47,x 48,x 49,x 50,x 51,x 52,x 53,x 54,x 55,x 56,x 57,x 58,x 59,x 60,x 61,x 62,x 63,x 64,x 65,x 66,x 67,_,_,_,_,_,_,_]) rfl ?_
 (focus repeat' first|refine ga ?_|(refine gb ?_;try simp[gz, *])|refine gk fun _ _=>?_)
 refine o59.ok ?_
 simp [gz, *]
 (focus repeat' first|refine ga ?_|(refine gb ?_;try simp[gz, *])|refine gk fun _ _=>?_)
 refine o59.is [125] ?_
 simp [gz, *]
 (focus repeat' first|refine ga ?_|(refine gb ?_;try simp[gz, *])|refine gk fun _ _=>?_)
 refine o59.must [125] fun k62 S46 e46 o77 r61=>?_
 try simp only[e46,Z]at q
 clear o59 r47 e46
 simp [gz, *]
 (focus repeat' first|refine ga ?_|(refine gb ?_;try simp[gz, *])|refine gk fun _ _=>?_)
 refine o77.add 21 a.pos x1 0 kids (fun k63 u43 u44 v25 S47 e47 o78 r62=>?_) (hl:=(by omega))
 try simp only[e47,Z]at q
 clear o77 r61 e47
 obtain ⟨rfl,rfl⟩:=fi q
 simp [gz, *]
 (focus repeat' first|refine ga ?_|(refine gb ?_;try simp[gz, *])|refine gk fun _ _=>?_)
 refine o78.upd fun k64 o79=>?_
 exact hR.out _ _ _ o79.fin
 try simp only[c8,Z]at q
 simp [gz, *]
 (focus repeat' first|refine ga ?_|(refine awp_ret ?_; try simp[gz, *])|(refine awp_skip ?_; try simp[gz, *])|(refine awp_exit ?_; try simp[gz, *])|(refine KeepQ.go (by assumption) ?_; try simp[gz, *])|(refine awp_cond' ?_; try simp[gz, *])|refine gk fun _ _=>?_|refine gc ?_ ?_|exact gr _|refine gi fun _=>?_|(refine gn ?_ ?_;focus(intros;simp[*];done)))
 refine awp_region_lit rfl rfl rfl ?_
 simp [gz, *]
 intro b5 zb5
 obtain ⟨n_r_b5,n_b5_r⟩:=o56.ne zb5
 have yb5:=o56.y zb5
 have o80:=o56.new zb5 (.cells ([.int .i64 (-1)]))
 clear o56 zb5
 try simp [gz, *]
 (focus repeat' first|refine ga ?_|(refine gb ?_;try simp[gz, *])|refine gk fun _ _=>?_)
 refine o80.settle fun k65 o81 r63=>?_
 have p30:=o81.b1
 clear o80 r44
 refine o81.eatT c8 fun k66 S48 e48 z11 o82 r64=>?_
 try simp only[e48,Z]at q
 have p31:=o82.b1
 clear o81 r63 p30 e48
 simp [gz, *]
 (focus repeat' first|refine ga ?_|(refine gb ?_;try simp[gz, *])|refine gk fun _ _=>?_)
 obtain ⟨l11,S49,h11,q⟩:=bo2 q
 refine o82.call (ih _ _ (by omega)) h11 fun k67 u45 u46 v26 e49 o83 r65=>?_
 try simp only[e49,Z]at q
 have p32:=o83.b1
 clear o82 r64 p31 h11
 simp [gz, *]
 (focus repeat' first|refine ga ?_|(refine gb ?_;try simp[gz, *])|refine gk fun _ _=>?_)
 have o84:=o83.setB yb5 (.cells ([.int .i64 v26]))
 clear o83
 refine o84.settle fun k68 o85 r66=>?_
 have p33:=o85.b1
 clear o84 r65 p32
 refine o85.must [123] fun k69 S50 e50 o86 r67=>?_
 try simp only[e50,Z]at q
 have p34:=o86.b1
 clear o85 r66 p33 e50
 simp [gz, *]
 (focus repeat' first|refine ga ?_|(refine gb ?_;try simp[gz, *])|refine gk fun _ _=>?_)
 refine awp_view 5 (x := .arr b5 0 1 1) rfl (View.freeze (len := 1) (cap := 1) (off := 0) (sz := 1) (t := .full) p34 (by simp) (by omega) (Or.inr ⟨rfl, rfl⟩)) ?_
 have o87:=o86.del yb5
 clear o86
 refine o87.settleA fun k70 o88 r68=>?_
 clear o87 r67 p34
 obtain ⟨l12,S51,h12,qo4⟩:=bo2 q
 clear q
 refine awp_loop_h [5,6,7,8,32,33,34,35,36,37,38,39,40,41,42,43,44,45,46,47,48,49,50,51,52,53,54,55,56,57,58,59,60,61,62,63,64,65,66,67] (fun m x g=>∃ (a:Nat) (Sq:St) (kids:List Int) (w1 w2 tk:Tok),a ≤ n ∧ m=a ∧ Sh (run T a (.classLoop kids) Sq=some (l12,S51)) ∧ Cur B (Heap.bk B tk) g T tt S Sq r w1 w2 (kids) ∧ Lf B B tk ∧ kids.length+2*a ≤ 2*n+2 ∧ x 5=.list 1 (ints kids) tk) n
  ⟨n,_,[v26],u45,u46,.full,by omega,rfl,h12,Cur.wk o88,o88.lf,by first|(simp;done)|(simp;omega),rfl⟩ fun m x g hI K hK=>?_
 clear o88 h12 r68
 obtain ⟨a,Sq,kids,w1,w2,tk,hq,rfl,q,o89,lf10,hkl,hx⟩:=hI
 obtain ⟨p,rfl⟩:=run_pos q
 simp only[run,Z]at q
 have r69:=o89.own.blk
 by_cases hgo:Sq.fc=0 ∧ isL T [125] Sq=false
 have hfd:=decide_eq_true hgo.1
 have hil0:=hgo.2
 rw [if_pos hgo]at q
 clear hgo
 refine awp_eqs (s' := [_,_,_,_,_,x 5,x 6,x 7,x 8,_,_,_,_,_,_,_,_,_,_,_,_,_,_,_,_,_,_,_,_,_,_,_,x 32,x 33,x 34,x 35,x 36,x 37,x 38,x 39,x 40,x 41,x 42,x 43,x 44,x 45,x 46,x 47,x 48,x 49,x 50,x 51,x 52,x 53,x 54,x 55,x 56,x 57,x 58,x 59,x 60,x 61,x 62,x 63,x 64,x 65,x 66,x 67,_,_,_,_,_,_,_]) rfl ?_
 (focus repeat' first|refine ga ?_|(refine gb ?_;try simp[gz, *])|refine gk fun _ _=>?_)
 refine o89.ok ?_
 simp [gz, *]
 (focus repeat' first|refine ga ?_|(refine gb ?_;try simp[gz, *])|refine gk fun _ _=>?_)
 refine o89.is [125] ?_
 simp [gz, *]
 (focus repeat' first|refine ga ?_|(refine gb ?_;try simp[gz, *])|refine gk fun _ _=>?_)
 clear hfd hil0
 obtain ⟨t,ht_t⟩:∃ x,Sh (peekL T Sq=x):=⟨_,⟨rfl⟩⟩
 try simp only[ht_t.out,Z]at q
 refine o89.peek ht_t ?_
 simp [gz, *]
 intro b6 zb6
 obtain ⟨n_r_b6,n_b6_r⟩:=o89.ne zb6
 have yb6:=o89.y zb6
 have o90:=o89.new zb6 (.cells (tkRow t))
 clear o89 zb6
 try simp [gz, *]
 (focus repeat' first|refine ga ?_|(refine gb ?_;try simp[gz, *])|refine gk fun _ _=>?_)
 refine o90.settle fun k71 o91 r70=>?_
 have p35:=o91.b1
 clear o90 r69
 refine o91.eat [99, 111, 110, 115, 116, 114, 117, 99, 116, 111, 114] (fun c12 k72 o92 r71=>?_) fun c12 k72 S52 e51 z12 o92 r71=>?_
 try simp only[c12,Z]at q
 have p36:=o92.b1
 clear o91 r70 p35 c12
 simp [gz, *]
 (focus repeat' first|refine ga ?_|(refine gb ?_;try simp[gz, *])|refine gk fun _ _=>?_)
 obtain ⟨l13,S53,h13,q⟩:=bo2 q
 refine o92.mem (ih _ _ (by omega)) h13 fun k73 u47 u48 v27 v28 e52 e53 o93 r72=>?_
 try simp only[e52,e53,Z]at q
 have p37:=o93.b1
 clear o92 r71 p36 e52 e53 h13
 simp [gz, *]
 (focus repeat' first|refine ga ?_|(refine gb ?_;try simp[gz, *])|refine gk fun _ _=>?_)
 refine o93.add 23 t.pos [] 0 [v27, v28] (fun k74 u49 u50 v29 S54 e54 o94 r73=>?_)
 try simp only[e54,Z]at q
 have p38:=o94.b1
 clear o93 r72 p37 e54 e49
 simp [gz, *]
 (focus repeat' first|refine ga ?_|(refine gb ?_;try simp[gz, *])|refine gk fun _ _=>?_)
 have o95:=(o94.drop yb6)
 clear o94
 refine .inl ⟨o95.tin lf10,fun ab7 ak7 ae7 hb=>?_⟩
 obtain ⟨o96,lf11⟩:=o95.grow lf10 (k:=ak7) (e:=ae7) hb
 generalize (tk.rid k74).set ab7 (.spare ak7 ae7)=k75 at o96 ⊢
 clear hb o95 r73 p38
 have r74:=o96.own.blk
 simp [gz, *]
 (focus repeat' first|refine ga ?_|(refine gb ?_;try simp[gz, *])|refine gk fun _ _=>?_)
 refine o96.eat [59] (fun c13 k76 o97 r75=>?_) fun c13 k76 S55 e55 z13 o97 r75=>?_
 try simp only[c13,Z]at q
 clear o96 r74 c13
 simp [gz, *]
 (focus repeat' first|refine ga ?_|(refine gb ?_;try simp[gz, *])|refine gk fun _ _=>?_)
 exact ⟨by kernel_rfl,rfl,p,_,by omega,Sub.refl _,p,_,kids ++ [v29],u49,u50,(Tok.own ab7 ak7 ae7),by omega,rfl,q,Cur.wk o97,lf11,by simp;omega,by first|rfl|simp⟩
 try simp only[c13,e55,Z]at q
 clear o96 r74 e55 c13
 simp [gz, *]
 (focus repeat' first|refine ga ?_|(refine gb ?_;try simp[gz, *])|refine gk fun _ _=>?_)
 exact ⟨by kernel_rfl,rfl,p,_,by omega,Sub.refl _,p,_,kids ++ [v29],u49,u50,(Tok.own ab7 ak7 ae7),by omega,rfl,q,Cur.wk o97,lf11,by simp;omega,by first|rfl|simp⟩
 try simp only[c12,e51,Z]at q
 have p39:=o92.b1
 clear o91 r70 p35 e51 c12
 simp [gz, *]
 (focus repeat' first|refine ga ?_|(refine gb ?_;try simp[gz, *])|refine gk fun _ _=>?_)
 refine o92.add 5 t.pos [99, 111, 110, 115, 116, 114, 117, 99, 116, 111, 114] 0 [] (fun k77 u51 u52 v30 S56 e56 o98 r76=>?_)
 try simp only[e56,Z]at q
 have p40:=o98.b1
 clear o92 r71 p39 e56 e49
 simp [gz, *]
 (focus repeat' first|refine ga ?_|(refine gb ?_;try simp[gz, *])|refine gk fun _ _=>?_)
 obtain ⟨l14,S57,h14,q⟩:=bo2 q
 refine o98.call (ih _ _ (by omega)) h14 fun k78 u53 u54 v31 e57 o99 r77=>?_
 try simp only[e57,Z]at q
 have p41:=o99.b1
 clear o98 r76 p40 h14
 simp [gz, *]
 (focus repeat' first|refine ga ?_|(refine gb ?_;try simp[gz, *])|refine gk fun _ _=>?_)
 refine o99.add 23 t.pos [] 0 [v30, v31] (fun k79 u55 u56 v32 S58 e58 o100 r78=>?_)
 try simp only[e58,Z]at q
 have p42:=o100.b1
 clear o99 r77 p41 e58 e57
 simp [gz, *]
 (focus repeat' first|refine ga ?_|(refine gb ?_;try simp[gz, *])|refine gk fun _ _=>?_)
 have o101:=(o100.drop yb6)
 clear o100
 refine .inl ⟨o101.tin lf10,fun ab8 ak8 ae8 hb=>?_⟩
 obtain ⟨o102,lf12⟩:=o101.grow lf10 (k:=ak8) (e:=ae8) hb
 generalize (tk.rid k79).set ab8 (.spare ak8 ae8)=k80 at o102 ⊢
 clear hb o101 r78 p42
 have r79:=o102.own.blk
 simp [gz, *]
 (focus repeat' first|refine ga ?_|(refine gb ?_;try simp[gz, *])|refine gk fun _ _=>?_)
 refine o102.eat [59] (fun c14 k81 o103 r80=>?_) fun c14 k81 S59 e59 z14 o103 r80=>?_
 try simp only[c14,Z]at q
 clear o102 r79 c14
 simp [gz, *]
 (focus repeat' first|refine ga ?_|(refine gb ?_;try simp[gz, *])|refine gk fun _ _=>?_)
 exact ⟨by kernel_rfl,rfl,p,_,by omega,Sub.refl _,p,_,kids ++ [v32],u55,u56,(Tok.own ab8 ak8 ae8),by omega,rfl,q,Cur.wk o103,lf12,by simp;omega,by first|rfl|simp⟩
 try simp only[c14,e59,Z]at q
 clear o102 r79 e59 c14
 simp [gz, *]
 (focus repeat' first|refine ga ?_|(refine gb ?_;try simp[gz, *])|refine gk fun _ _=>?_)
 exact ⟨by kernel_rfl,rfl,p,_,by omega,Sub.refl _,p,_,kids ++ [v32],u55,u56,(Tok.own ab8 ak8 ae8),by omega,rfl,q,Cur.wk o103,lf12,by simp;omega,by first|rfl|simp⟩
 rw [if_neg hgo]at q
 obtain ⟨rfl,rfl⟩:=fi q
 clear q
 have q:=qo4
 simp only[Z]at q
 cases hfd:decide (Sq.fc=0)
 clear hgo
 refine awp_eqs (s' := [_,_,_,_,_,x 5,x 6,x 7,x 8,_,_,_,_,_,_,_,_,_,_,_,_,_,_,_,_,_,_,_,_,_,_,_,x 32,x 33,x 34,x 35,x 36,x 37,x 38,x 39,x 40,x 41,x 42,x 43,x 44,x 45,x 46,x 47,x 48,x 49,x 50,x 51,x 52,x 53,x 54,x 55,x 56,x 57,x 58,x 59,x 60,x 61,x 62,x 63,x 64,x 65,x 66,x 67,_,_,_,_,_,_,_]) rfl ?_
 (focus repeat' first|refine ga ?_|(refine gb ?_;try simp[gz, *])|refine gk fun _ _=>?_)
 refine o89.ok ?_
 simp [gz, *]
 (focus repeat' first|refine ga ?_|(refine gb ?_;try simp[gz, *])|refine gk fun _ _=>?_)
 refine o89.must [125] fun k82 S60 e60 o104 r81=>?_
 try simp only[e60,Z]at q
 clear o89 r69 e60
 simp [gz, *]
 (focus repeat' first|refine ga ?_|(refine gb ?_;try simp[gz, *])|refine gk fun _ _=>?_)
 refine o104.add 21 a.pos x1 0 kids (fun k83 u57 u58 v33 S61 e61 o105 r82=>?_) (hl:=(by omega))
 try simp only[e61,Z]at q
 clear o104 r81 e61 e49
 obtain ⟨rfl,rfl⟩:=fi q
 simp [gz, *]
 (focus repeat' first|refine ga ?_|(refine gb ?_;try simp[gz, *])|refine gk fun _ _=>?_)
 refine o105.upd fun k84 o106=>?_
 exact hR.out _ _ _ o106.fin
 have hil0:isL T [125] Sq=true:=by
  cases e:isL T [125] Sq
  · exact absurd ⟨of_decide_eq_true hfd,e⟩ hgo
  · rfl
 clear hgo
 refine awp_eqs (s' := [_,_,_,_,_,x 5,x 6,x 7,x 8,_,_,_,_,_,_,_,_,_,_,_,_,_,_,_,_,_,_,_,_,_,_,_,x 32,x 33,x 34,x 35,x 36,x 37,x 38,x 39,x 40,x 41,x 42,x 43,x 44,x 45,x 46,x 47,x 48,x 49,x 50,x 51,x 52,x 53,x 54,x 55,x 56,x 57,x 58,x 59,x 60,x 61,x 62,x 63,x 64,x 65,x 66,x 67,_,_,_,_,_,_,_]) rfl ?_
 (focus repeat' first|refine ga ?_|(refine gb ?_;try simp[gz, *])|refine gk fun _ _=>?_)
 refine o89.ok ?_
 simp [gz, *]
 (focus repeat' first|refine ga ?_|(refine gb ?_;try simp[gz, *])|refine gk fun _ _=>?_)
 refine o89.is [125] ?_
 simp [gz, *]
 (focus repeat' first|refine ga ?_|(refine gb ?_;try simp[gz, *])|refine gk fun _ _=>?_)
 refine o89.must [125] fun k85 S62 e62 o107 r83=>?_
 try simp only[e62,Z]at q
 clear o89 r69 e62
 simp [gz, *]
 (focus repeat' first|refine ga ?_|(refine gb ?_;try simp[gz, *])|refine gk fun _ _=>?_)
 refine o107.add 21 a.pos x1 0 kids (fun k86 u59 u60 v34 S63 e63 o108 r84=>?_) (hl:=(by omega))
 try simp only[e63,Z]at q
 clear o107 r83 e63 e49
 obtain ⟨rfl,rfl⟩:=fi q
 simp [gz, *]
 (focus repeat' first|refine ga ?_|(refine gb ?_;try simp[gz, *])|refine gk fun _ _=>?_)
 refine o108.upd fun k87 o109=>?_
 exact hR.out _ _ _ o109.fin
end Go.Proofs.YtcbgpjlcfkkdlaaGreatDoor

