import Derived.Test.YtcbgpjlcfkkdlaaGreatDoorUAX
set_option linter.unusedSimpArgs false
set_option linter.unusedVariables false
set_option maxRecDepth 100000
set_option maxHeartbeats 16000000
namespace Go.Proofs.YtcbgpjlcfkkdlaaGreatDoor
open Go Go.AL Go.Proofs
theorem cases_w (T : List Tk) (tt : Tok) (n : Nat) (hn : n ≤ 1000000) (at_ : Int) (ih : ∀ m op, m ≤ n → Meth T tt m op) : Meth T tt (n + 1) (.cases at_) := by
 refine Meth.of fun S l S' q r t1 t2 B h o R hR=>?_
 simp only[run,Z]at q
 refine acalls_of Tryz.func119 rfl Tryz.ntmps119 (congrArg Array.toList Tryz.results119) fun Q hQ => ?_
 have r1:=o.own.blk
 (focus repeat' first|refine ga ?_|(refine gb ?_;try simp[gz, *])|refine gk fun _ _=>?_)
 obtain ⟨l1,S1,h1,q⟩:=bo2 q
 refine o.call (ih _ _ (by omega)) h1 fun k1 u1 u2 v1 e1 o1 r2=>?_
 try simp only[e1,Z]at q
 clear o r1 h1
 simp [gz, *]
 (focus repeat' first|refine ga ?_|(refine gb ?_;try simp[gz, *])|refine gk fun _ _=>?_)
 refine o1.must [123] fun k2 S2 e2 o2 r3=>?_
 try simp only[e2,Z]at q
 clear o1 r2 e2
 simp [gz, *]
 (focus repeat' first|refine ga ?_|(refine gb ?_;try simp[gz, *])|refine gk fun _ _=>?_)
 obtain ⟨l2,S3,h2,qo1⟩:=bo2 q
 clear q
 refine awp_loop_h [5,6,7,8,9,15,16,17,18,19,20,21,22,23,24,25,26,27,28,29,30,31,32,33,34,35,36,37,38,39,40,41,42,43,44,45,46,47,48,49,50,51,52,53,54,55,56,57,58,59,60,61,62,63,64,65,66,67,68,69,70,71] (fun m x g=>∃ (a:Nat) (Sq:St) (kids:List Int) (ot : Bool) (w1 w2 tk:Tok),a ≤ n ∧ m=a ∧ Sh (run T a (.casesLoop ot kids) Sq=some (l2,S3)) ∧ Cur B (Heap.bk B tk) g T tt S Sq r w1 w2 (kids) ∧ Lf B B tk ∧ kids.length+2*a ≤ 2*n+2 ∧ x 5=.list 1 (ints kids) tk ∧ x 6 = .bool ot) n
  ⟨n,_,[v1],false,u1,u2,.full,by omega,rfl,h2,Cur.wk o2,o2.lf,by first|(simp;done)|(simp;omega),rfl,rfl⟩ fun m x g hI K hK=>?_
 clear o2 h2 r3
 obtain ⟨a,Sq,kids,ot,w1,w2,tk,hq,rfl,q,o3,lf1,hkl,hx,hx0⟩:=hI
 obtain ⟨p,rfl⟩:=run_pos q
 simp only[run,Z]at q
 have r4:=o3.own.blk
 by_cases hgo:Sq.fc=0 ∧ isL T [125] Sq=false
 have hfd:=decide_eq_true hgo.1
 have hil0:=hgo.2
 rw [if_pos hgo]at q
 clear hgo
 refine awp_eqs (s' := [_,_,_,_,_,x 5,x 6,x 7,x 8,x 9,_,_,_,_,_,x 15,x 16,x 17,x 18,x 19,x 20,x 21,x 22,x 23,x 24,x 25,x 26,x 27,x 28,x 29,x 30,x 31,x 32,x 33,x 34,x 35,x 36,x 37,x 38,x 39,x 40,x 41,x 42,x 43,x 44,x 45,x 46,x 47,x 48,x 49,x 50,x 51,x 52,x 53,x 54,x 55,x 56,x 57,x 58,x 59,x 60,x 61,x 62,x 63,x 64,x 65,x 66,x 67,x 68,x 69,x 70,x 71,_,_,_,_,_,_]) rfl ?_
 (focus repeat' first|refine ga ?_|(refine gb ?_;try simp[gz, *])|refine gk fun _ _=>?_)
 refine o3.ok ?_
 simp [gz, *]
 (focus repeat' first|refine ga ?_|(refine gb ?_;try simp[gz, *])|refine gk fun _ _=>?_)
 refine o3.is [125] ?_
 simp [gz, *]
 (focus repeat' first|refine ga ?_|(refine gb ?_;try simp[gz, *])|refine gk fun _ _=>?_)
 clear hfd hil0
 obtain ⟨t,ht_t⟩:∃ x,Sh (peekL T Sq=x):=⟨_,⟨rfl⟩⟩
 try simp only[ht_t.out,Z]at q
 refine o3.peek ht_t ?_
 simp [gz, *]
 intro b7 zb7
 obtain ⟨n_r_b7,n_b7_r⟩:=o3.ne zb7
 have yb7:=o3.y zb7
 have o4:=o3.new zb7 (.cells (tkRow t))
 clear o3 zb7
 try simp [gz, *]
 (focus repeat' first|refine ga ?_|(refine gb ?_;try simp[gz, *])|refine gk fun _ _=>?_)
 refine o4.settle fun k3 o5 r5=>?_
 have p1:=o5.b1
 clear o4 r4
 refine o5.eat [99, 97, 115, 101] (fun c1 k4 o6 r6=>?_) fun c1 k4 S4 e3 z1 o6 r6=>?_
 try simp only[c1,Z]at q
 have p2:=o6.b1
 clear o5 r5 p1 c1
 cases ot
 try simp only[Z]at q
 simp [gz, *]
 (focus repeat' first|refine ga ?_|(refine gb ?_;try simp[gz, *])|refine gk fun _ _=>?_)
 refine o6.eat [100, 101, 102, 97, 117, 108, 116] (fun c2 k5 o7 r7=>?_) fun c2 k5 S5 e4 z2 o7 r7=>?_
 try simp only[c2,Z]at q
 have p3:=o7.b1
 clear o6 r6 p2 c2
 simp [gz, *]
 (focus repeat' first|refine ga ?_|(refine gb ?_;try simp[gz, *])|refine gk fun _ _=>?_)
 refine o7.wrong 5 fun k6 S6 e5 o8 r8=>?_
 try simp only[e5,Z]at q
 have p4:=o8.b1
 clear o7 r7 p3 e5
 simp [gz, *]
 (focus repeat' first|refine ga ?_|(refine gb ?_;try simp[gz, *])|refine gk fun _ _=>?_)
 refine o8.must [58] fun k7 S7 e6 o9 r9=>?_
 try simp only[e6,Z]at q
 have p5:=o9.b1
 clear o8 r8 p4 e6
 simp [gz, *]
 (focus repeat' first|refine ga ?_|(refine gb ?_;try simp[gz, *])|refine gk fun _ _=>?_)
 obtain ⟨l3,S8,h3,qo2⟩:=bo2 q
 clear q
 refine awp_loop_h [9,42,43,44,45,46,47,48,49,50,51,52,53,54,55,56,57,58,59,60,61,62,63] (fun m1 x1 g1=>∃ (a1:Nat) (Sq1:St) (kids1:List Int) (w11 w21 tk1:Tok),a1 ≤ p ∧ m1=a1 ∧ Sh (run T a1 (.caseLoop kids1) Sq1=some (l3,S8)) ∧ Cur B (Heap.bk ((Heap.bk B tk).set b7 (.cells (tkRow t))) tk1) g1 T tt S Sq1 r w11 w21 (kids1 ++ kids) ∧ Lf B ((Heap.bk B tk).set b7 (.cells (tkRow t))) tk1 ∧ kids1.length+2*a1 ≤ 2*p+2 ∧ x1 9=.list 1 (ints kids1) tk1) p
  ⟨p,_,[-1],w1,w2,.full,by omega,rfl,h3,Cur.wk o9,o9.lf,by first|(simp;done)|(simp;omega),rfl⟩ fun m1 x1 g1 hI K1 hK1=>?_
 clear o9 h3 r9 p5
 obtain ⟨a1,Sq1,kids1,w11,w21,tk1,hq1,rfl,q,o10,lf2,hkl1,hx1⟩:=hI
 obtain ⟨p1,rfl⟩:=run_pos q
 simp only[run,Z]at q
 have r10:=o10.own.blk
 by_cases hgo:Sq1.fc=0 ∧ isL T [125] Sq1=false ∧ isL T [99, 97, 115, 101] Sq1=false ∧ isL T [100, 101, 102, 97, 117, 108, 116] Sq1=false
 have hfd:=decide_eq_true hgo.1
 have hil0:=hgo.2.1
 have hil1:=hgo.2.2.1
 have hil2:=hgo.2.2.2
 rw [if_pos hgo]at q
 clear hgo
 refine awp_eqs (s' := [_,_,_,_,_,_,_,_,_,x1 9,_,_,_,_,_,_,_,_,_,_,_,_,_,_,_,_,_,_,_,_,_,_,_,_,_,_,_,_,_,_,_,_,x1 42,x1 43,x1 44,x1 45,x1 46,x1 47,x1 48,x1 49,x1 50,x1 51,x1 52,x1 53,x1 54,x1 55,x1 56,x1 57,x1 58,x1 59,x1 60,x1 61,x1 62,x1 63,_,_,_,_,_,_,_,_,_,_,_,_,_,_]) rfl ?_
 (focus repeat' first|refine ga ?_|(refine gb ?_;try simp[gz, *])|refine gk fun _ _=>?_)
 refine o10.ok ?_
 simp [gz, *]
 (focus repeat' first|refine ga ?_|(refine gb ?_;try simp[gz, *])|refine gk fun _ _=>?_)
 refine o10.is [125] ?_
 simp [gz, *]
 (focus repeat' first|refine ga ?_|(refine gb ?_;try simp[gz, *])|refine gk fun _ _=>?_)
 refine o10.is [99, 97, 115, 101] ?_
 simp [gz, *]
 (focus repeat' first|refine ga ?_|(refine gb ?_;try simp[gz, *])|refine gk fun _ _=>?_)
 refine o10.is [100, 101, 102, 97, 117, 108, 116] ?_
 simp [gz, *]
 (focus repeat' first|refine ga ?_|(refine gb ?_;try simp[gz, *])|refine gk fun _ _=>?_)
 clear hfd hil0 hil1 hil2
 obtain ⟨l4,S9,h4,q⟩:=bo2 q
 refine o10.call (ih _ _ (by omega)) h4 fun k8 u3 u4 v2 e7 o11 r11=>?_
 try simp only[e7,Z]at q
 clear o10 r10 h4 e1
 simp [gz, *]
 (focus repeat' first|refine ga ?_|(refine gb ?_;try simp[gz, *])|refine gk fun _ _=>?_)
 refine .inl ⟨o11.tin lf2,fun ab1 ak1 ae1 hb=>?_⟩
 obtain ⟨o13,lf3⟩:=o11.grow lf2 (k:=ak1) (e:=ae1) hb
 generalize (tk1.rid k8).set ab1 (.spare ak1 ae1)=k9 at o13 ⊢
 clear hb o11 r11
 have r12:=o13.own.blk
 simp [gz, *]
 (focus repeat' first|refine ga ?_|(refine gb ?_;try simp[gz, *])|refine gk fun _ _=>?_)
 exact ⟨by kernel_rfl,rfl,p1,_,by omega,Sub.refl _,p1,_,kids1 ++ [v2],u3,u4,(Tok.own ab1 ak1 ae1),by omega,rfl,q,Cur.wk o13,lf3,by simp;omega,by first|rfl|simp⟩
 rw [if_neg hgo]at q
 obtain ⟨rfl,rfl⟩:=fi q
 clear q
 have q:=qo2
 simp only[Z]at q
 cases hfd:decide (Sq1.fc=0)
 clear hgo
 refine awp_eqs (s' := [_,_,_,_,_,_,_,_,_,x1 9,_,_,_,_,_,_,_,_,_,_,_,_,_,_,_,_,_,_,_,_,_,_,_,_,_,_,_,_,_,_,_,_,x1 42,x1 43,x1 44,x1 45,x1 46,x1 47,x1 48,x1 49,x1 50,x1 51,x1 52,x1 53,x1 54,x1 55,x1 56,x1 57,x1 58,x1 59,x1 60,x1 61,x1 62,x1 63,_,_,_,_,_,_,_,_,_,_,_,_,_,_]) rfl ?_
 (focus repeat' first|refine ga ?_|(refine gb ?_;try simp[gz, *])|refine gk fun _ _=>?_)
 refine o10.ok ?_
 have o14:=o10.back lf2
 clear o10
 have p6:=o14.b1
 simp [gz, *]
 (focus repeat' first|refine ga ?_|(refine gb ?_;try simp[gz, *])|refine gk fun _ _=>?_)
 refine o14.add 24 t.pos [] 0 kids1 (fun k10 u5 u6 v3 S10 e8 o15 r13=>?_) (hl:=(by omega))
 try simp only[e8,Z]at q
 have p7:=o15.b1
 clear o14 r10 p6 e8 e1
 simp [gz, *]
 (focus repeat' first|refine ga ?_|(refine gb ?_;try simp[gz, *])|refine gk fun _ _=>?_)
 have o16:=(o15.drop yb7)
 clear o15
 refine .inl ⟨o16.tin lf1,fun ab2 ak2 ae2 hb=>?_⟩
 obtain ⟨o17,lf4⟩:=o16.grow lf1 (k:=ak2) (e:=ae2) hb
 generalize (tk.rid k10).set ab2 (.spare ak2 ae2)=k11 at o17 ⊢
 clear hb o16 r13 p7
 have r14:=o17.own.blk
 simp [gz, *]
 (focus repeat' first|refine ga ?_|(refine gb ?_;try simp[gz, *])|refine gk fun _ _=>?_)
 exact ⟨by kernel_rfl,rfl,p,_,by omega,Sub.refl _,p,_,kids ++ [v3],false,u5,u6,(Tok.own ab2 ak2 ae2),by omega,rfl,q,Cur.wk o17,lf4,by simp;omega,by first|rfl|simp,rfl⟩
 cases hil0:isL T [125] Sq1
 cases hil1:isL T [99, 97, 115, 101] Sq1
 have hil2:isL T [100, 101, 102, 97, 117, 108, 116] Sq1=true:=by
  cases e:isL T [100, 101, 102, 97, 117, 108, 116] Sq1
  · exact absurd ⟨of_decide_eq_true hfd,hil0,hil1,e⟩ hgo
  · rfl
 clear hgo
 refine awp_eqs (s' := [_,_,_,_,_,_,_,_,_,x1 9,_,_,_,_,_,_,_,_,_,_,_,_,_,_,_,_,_,_,_,_,_,_,_,_,_,_,_,_,_,_,_,_,x1 42,x1 43,x1 44,x1 45,x1 46,x1 47,x1 48,x1 49,x1 50,x1 51,x1 52,x1 53,x1 54,x1 55,x1 56,x1 57,x1 58,x1 59,x1 60,x1 61,x1 62,x1 63,_,_,_,_,_,_,_,_,_,_,_,_,_,_]) rfl ?_
 (focus repeat' first|refine ga ?_|(refine gb ?_;try simp[gz, *])|refine gk fun _ _=>?_)
 refine o10.ok ?_
 simp [gz, *]
 (focus repeat' first|refine ga ?_|(refine gb ?_;try simp[gz, *])|refine gk fun _ _=>?_)
 refine o10.is [125] ?_
 simp [gz, *]
 (focus repeat' first|refine ga ?_|(refine gb ?_;try simp[gz, *])|refine gk fun _ _=>?_)
 refine o10.is [99, 97, 115, 101] ?_
 simp [gz, *]
 (focus repeat' first|refine ga ?_|(refine gb ?_;try simp[gz, *])|refine gk fun _ _=>?_)
 refine o10.is [100, 101, 102, 97, 117, 108, 116] ?_
 have o18:=o10.back lf2
 clear o10
 have p8:=o18.b1
 simp [gz, *]
 (focus repeat' first|refine ga ?_|(refine gb ?_;try simp[gz, *])|refine gk fun _ _=>?_)
 refine o18.add 24 t.pos [] 0 kids1 (fun k12 u7 u8 v4 S11 e9 o19 r15=>?_) (hl:=(by omega))
 try simp only[e9,Z]at q
 have p9:=o19.b1
 clear o18 r10 p8 e9 e1
 simp [gz, *]
 (focus repeat' first|refine ga ?_|(refine gb ?_;try simp[gz, *])|refine gk fun _ _=>?_)
 have o20:=(o19.drop yb7)
 clear o19
 refine .inl ⟨o20.tin lf1,fun ab3 ak3 ae3 hb=>?_⟩
 obtain ⟨o21,lf5⟩:=o20.grow lf1 (k:=ak3) (e:=ae3) hb
 generalize (tk.rid k12).set ab3 (.spare ak3 ae3)=k13 at o21 ⊢
 clear hb o20 r15 p9
 have r16:=o21.own.blk
 simp [gz, *]
 (focus repeat' first|refine ga ?_|(refine gb ?_;try simp[gz, *])|refine gk fun _ _=>?_)
 exact ⟨by kernel_rfl,rfl,p,_,by omega,Sub.refl _,p,_,kids ++ [v4],false,u7,u8,(Tok.own ab3 ak3 ae3),by omega,rfl,q,Cur.wk o21,lf5,by simp;omega,by first|rfl|simp,rfl⟩
 clear hgo
 refine awp_eqs (s' := [_,_,_,_,_,_,_,_,_,x1 9,_,_,_,_,_,_,_,_,_,_,_,_,_,_,_,_,_,_,_,_,_,_,_,_,_,_,_,_,_,_,_,_,x1 42,x1 43,x1 44,x1 45,x1 46,x1 47,x1 48,x1 49,x1 50,x1 51,x1 52,x1 53,x1 54,x1 55,x1 56,x1 57,x1 58,x1 59,x1 60,x1 61,x1 62,x1 63,_,_,_,_,_,_,_,_,_,_,_,_,_,_]) rfl ?_
 (focus repeat' first|refine ga ?_|(refine gb ?_;try simp[gz, *])|refine gk fun _ _=>?_)
 refine o10.ok ?_
 simp [gz, *]
 (focus repeat' first|refine ga ?_|(refine gb ?_;try simp[gz, *])|refine gk fun _ _=>?_)
 refine o10.is [125] ?_
 simp [gz, *]
 (focus repeat' first|refine ga ?_|(refine gb ?_;try simp[gz, *])|refine gk fun _ _=>?_)
 refine o10.is [99, 97, 115, 101] ?_
 have o22:=o10.back lf2
 clear o10
 have p10:=o22.b1
 simp [gz, *]
 (focus repeat' first|refine ga ?_|(refine gb ?_;try simp[gz, *])|refine gk fun _ _=>?_)
 refine o22.add 24 t.pos [] 0 kids1 (fun k14 u9 u10 v5 S12 e10 o23 r17=>?_) (hl:=(by omega))
 try simp only[e10,Z]at q
 have p11:=o23.b1
 clear o22 r10 p10 e10 e1
 simp [gz, *]
 (focus repeat' first|refine ga ?_|(refine gb ?_;try simp[gz, *])|refine gk fun _ _=>?_)
 have o24:=(o23.drop yb7)
 clear o23
 refine .inl ⟨o24.tin lf1,fun ab4 ak4 ae4 hb=>?_⟩
 obtain ⟨o25,lf6⟩:=o24.grow lf1 (k:=ak4) (e:=ae4) hb
 generalize (tk.rid k14).set ab4 (.spare ak4 ae4)=k15 at o25 ⊢
 clear hb o24 r17 p11
 have r18:=o25.own.blk
 simp [gz, *]
 (focus repeat' first|refine ga ?_|(refine gb ?_;try simp[gz, *])|refine gk fun _ _=>?_)
 exact ⟨by kernel_rfl,rfl,p,_,by omega,Sub.refl _,p,_,kids ++ [v5],false,u9,u10,(Tok.own ab4 ak4 ae4),by omega,rfl,q,Cur.wk o25,lf6,by simp;omega,by first|rfl|simp,rfl⟩
 clear hgo
 refine awp_eqs (s' := [_,_,_,_,_,_,_,_,_,x1 9,_,_,_,_,_,_,_,_,_,_,_,_,_,_,_,_,_,_,_,_,_,_,_,_,_,_,_,_,_,_,_,_,x1 42,x1 43,x1 44,x1 45,x1 46,x1 47,x1 48,x1 49,x1 50,x1 51,x1 52,x1 53,x1 54,x1 55,x1 56,x1 57,x1 58,x1 59,x1 60,x1 61,x1 62,x1 63,_,_,_,_,_,_,_,_,_,_,_,_,_,_]) rfl ?_
 (focus repeat' first|refine ga ?_|(refine gb ?_;try simp[gz, *])|refine gk fun _ _=>?_)
 refine o10.ok ?_
 simp [gz, *]
 (focus repeat' first|refine ga ?_|(refine gb ?_;try simp[gz, *])|refine gk fun _ _=>?_)
 refine o10.is [125] ?_
 have o26:=o10.back lf2
 clear o10
 have p12:=o26.b1
 simp [gz, *]
 (focus repeat' first|refine ga ?_|(refine gb ?_;try simp[gz, *])|refine gk fun _ _=>?_)
 refine o26.add 24 t.pos [] 0 kids1 (fun k16 u11 u12 v6 S13 e11 o27 r19=>?_) (hl:=(by omega))
 try simp only[e11,Z]at q
 have p13:=o27.b1
 clear o26 r10 p12 e11 e1
 simp [gz, *]
 (focus repeat' first|refine ga ?_|(refine gb ?_;try simp[gz, *])|refine gk fun _ _=>?_)
 have o28:=(o27.drop yb7)
 clear o27
 refine .inl ⟨o28.tin lf1,fun ab5 ak5 ae5 hb=>?_⟩
 obtain ⟨o29,lf7⟩:=o28.grow lf1 (k:=ak5) (e:=ae5) hb
 generalize (tk.rid k16).set ab5 (.spare ak5 ae5)=k17 at o29 ⊢
 clear hb o28 r19 p13
 have r20:=o29.own.blk
 simp [gz, *]
 (focus repeat' first|refine ga ?_|(refine gb ?_;try simp[gz, *])|refine gk fun _ _=>?_)
 exact ⟨by kernel_rfl,rfl,p,_,by omega,Sub.refl _,p,_,kids ++ [v6],false,u11,u12,(Tok.own ab5 ak5 ae5),by omega,rfl,q,Cur.wk o29,lf7,by simp;omega,by first|rfl|simp,rfl⟩
 try simp only[c2,e4,Z]at q
 have p14:=o7.b1
 clear o6 r6 p2 e4 c2
 simp [gz, *]
 (focus repeat' first|refine ga ?_|(refine gb ?_;try simp[gz, *])|refine gk fun _ _=>?_)
 refine o7.must [58] fun k18 S14 e12 o30 r21=>?_
 try simp only[e12,Z]at q
 have p15:=o30.b1
 clear o7 r7 p14 e12
 simp [gz, *]
 (focus repeat' first|refine ga ?_|(refine gb ?_;try simp[gz, *])|refine gk fun _ _=>?_)
 obtain ⟨l5,S15,h5,qo3⟩:=bo2 q
 clear q
 refine awp_loop_h [9,42,43,44,45,46,47,48,49,50,51,52,53,54,55,56,57,58,59,60,61,62,63] (fun m1 x1 g1=>∃ (a1:Nat) (Sq1:St) (kids1:List Int) (w11 w21 tk1:Tok),a1 ≤ p ∧ m1=a1 ∧ Sh (run T a1 (.caseLoop kids1) Sq1=some (l5,S15)) ∧ Cur B (Heap.bk ((Heap.bk B tk).set b7 (.cells (tkRow t))) tk1) g1 T tt S Sq1 r w11 w21 (kids1 ++ kids) ∧ Lf B ((Heap.bk B tk).set b7 (.cells (tkRow t))) tk1 ∧ kids1.length+2*a1 ≤ 2*p+2 ∧ x1 9=.list 1 (ints kids1) tk1) p
  ⟨p,_,[-1],w1,w2,.full,by omega,rfl,h5,Cur.wk o30,o30.lf,by first|(simp;done)|(simp;omega),rfl⟩ fun m1 x1 g1 hI K1 hK1=>?_
 clear o30 h5 r21 p15
 obtain ⟨a1,Sq1,kids1,w11,w21,tk1,hq1,rfl,q,o31,lf8,hkl1,hx1⟩:=hI
 obtain ⟨p1,rfl⟩:=run_pos q
 simp only[run,Z]at q
 have r22:=o31.own.blk
 by_cases hgo:Sq1.fc=0 ∧ isL T [125] Sq1=false ∧ isL T [99, 97, 115, 101] Sq1=false ∧ isL T [100, 101, 102, 97, 117, 108, 116] Sq1=false
 have hfd:=decide_eq_true hgo.1
 have hil0:=hgo.2.1
 have hil1:=hgo.2.2.1
 have hil2:=hgo.2.2.2
 rw [if_pos hgo]at q
 clear hgo
 refine awp_eqs (s' := [_,_,_,_,_,_,_,_,_,x1 9,_,_,_,_,_,_,_,_,_,_,_,_,_,_,_,_,_,_,_,_,_,_,_,_,_,_,_,_,_,_,_,_,x1 42,x1 43,x1 44,x1 45,x1 46,x1 47,x1 48,x1 49,x1 50,x1 51,x1 52,x1 53,x1 54,x1 55,x1 56,x1 57,x1 58,x1 59,x1 60,x1 61,x1 62,x1 63,_,_,_,_,_,_,_,_,_,_,_,_,_,_]) rfl ?_
 (focus repeat' first|refine ga ?_|(refine gb ?_;try simp[gz, *])|refine gk fun _ _=>?_)
 refine o31.ok ?_
 simp [gz, *]
 (focus repeat' first|refine ga ?_|(refine gb ?_;try simp[gz, *])|refine gk fun _ _=>?_)
 refine o31.is [125] ?_
 simp [gz, *]
 (focus repeat' first|refine ga ?_|(refine gb ?_;try simp[gz, *])|refine gk fun _ _=>?_)
 refine o31.is [99, 97, 115, 101] ?_
 simp [gz, *]
 (focus repeat' first|refine ga ?_|(refine gb ?_;try simp[gz, *])|refine gk fun _ _=>?_)
 refine o31.is [100, 101, 102, 97, 117, 108, 116] ?_
 simp [gz, *]
 (focus repeat' first|refine ga ?_|(refine gb ?_;try simp[gz, *])|refine gk fun _ _=>?_)
 clear hfd hil0 hil1 hil2
 obtain ⟨l6,S16,h6,q⟩:=bo2 q
 refine o31.call (ih _ _ (by omega)) h6 fun k19 u13 u14 v7 e13 o32 r23=>?_
 try simp only[e13,Z]at q
 clear o31 r22 h6 e1
 simp [gz, *]
 (focus repeat' first|refine ga ?_|(refine gb ?_;try simp[gz, *])|refine gk fun _ _=>?_)
 refine .inl ⟨o32.tin lf8,fun ab6 ak6 ae6 hb=>?_⟩
 obtain ⟨o34,lf9⟩:=o32.grow lf8 (k:=ak6) (e:=ae6) hb
 generalize (tk1.rid k19).set ab6 (.spare ak6 ae6)=k20 at o34 ⊢
 clear hb o32 r23
 have r24:=o34.own.blk
 simp [gz, *]
 (focus repeat' first|refine ga ?_|(refine gb ?_;try simp[gz, *])|refine gk fun _ _=>?_)
 exact ⟨by kernel_rfl,rfl,p1,_,by omega,Sub.refl _,p1,_,kids1 ++ [v7],u13,u14,(Tok.own ab6 ak6 ae6),by omega,rfl,q,Cur.wk o34,lf9,by simp;omega,by first|rfl|simp⟩
 rw [if_neg hgo]at q
 obtain ⟨rfl,rfl⟩:=fi q
 clear q
 have q:=qo3
 simp only[Z]at q
 cases hfd:decide (Sq1.fc=0)
 clear hgo
 refine awp_eqs (s' := [_,_,_,_,_,_,_,_,_,x1 9,_,_,_,_,_,_,_,_,_,_,_,_,_,_,_,_,_,_,_,_,_,_,_,_,_,_,_,_,_,_,_,_,x1 42,x1 43,x1 44,x1 45,x1 46,x1 47,x1 48,x1 49,x1 50,x1 51,x1 52,x1 53,x1 54,x1 55,x1 56,x1 57,x1 58,x1 59,x1 60,x1 61,x1 62,x1 63,_,_,_,_,_,_,_,_,_,_,_,_,_,_]) rfl ?_
 (focus repeat' first|refine ga ?_|(refine gb ?_;try simp[gz, *])|refine gk fun _ _=>?_)
 refine o31.ok ?_
 have o35:=o31.back lf8
 clear o31
 have p16:=o35.b1
 simp [gz, *]
 (focus repeat' first|refine ga ?_|(refine gb ?_;try simp[gz, *])|refine gk fun _ _=>?_)
 refine o35.add 24 t.pos [] 0 kids1 (fun k21 u15 u16 v8 S17 e14 o36 r25=>?_) (hl:=(by omega))
 try simp only[e14,Z]at q
 have p17:=o36.b1
 clear o35 r22 p16 e14 e1
 simp [gz, *]
 (focus repeat' first|refine ga ?_|(refine gb ?_;try simp[gz, *])|refine gk fun _ _=>?_)
 have o37:=(o36.drop yb7)
 clear o36
 refine .inl ⟨o37.tin lf1,fun ab7 ak7 ae7 hb=>?_⟩
 obtain ⟨o38,lf10⟩:=o37.grow lf1 (k:=ak7) (e:=ae7) hb
 generalize (tk.rid k21).set ab7 (.spare ak7 ae7)=k22 at o38 ⊢
 clear hb o37 r25 p17
 have r26:=o38.own.blk
 simp [gz, *]
 (focus repeat' first|refine ga ?_|(refine gb ?_;try simp[gz, *])|refine gk fun _ _=>?_)
 exact ⟨by kernel_rfl,rfl,p,_,by omega,Sub.refl _,p,_,kids ++ [v8],true,u15,u16,(Tok.own ab7 ak7 ae7),by omega,rfl,q,Cur.wk o38,lf10,by simp;omega,by first|rfl|simp,rfl⟩
 cases hil0:isL T [125] Sq1
 cases hil1:isL T [99, 97, 115, 101] Sq1
 have hil2:isL T [100, 101, 102, 97, 117, 108, 116] Sq1=true:=by
  cases e:isL T [100, 101, 102, 97, 117, 108, 116] Sq1
  · exact absurd ⟨of_decide_eq_true hfd,hil0,hil1,e⟩ hgo
  · rfl
 clear hgo
 refine awp_eqs (s' := [_,_,_,_,_,_,_,_,_,x1 9,_,_,_,_,_,_,_,_,_,_,_,_,_,_,_,_,_,_,_,_,_,_,_,_,_,_,_,_,_,_,_,_,x1 42,x1 43,x1 44,x1 45,x1 46,x1 47,x1 48,x1 49,x1 50,x1 51,x1 52,x1 53,x1 54,x1 55,x1 56,x1 57,x1 58,x1 59,x1 60,x1 61,x1 62,x1 63,_,_,_,_,_,_,_,_,_,_,_,_,_,_]) rfl ?_
 (focus repeat' first|refine ga ?_|(refine gb ?_;try simp[gz, *])|refine gk fun _ _=>?_)
 refine o31.ok ?_
 simp [gz, *]
 (focus repeat' first|refine ga ?_|(refine gb ?_;try simp[gz, *])|refine gk fun _ _=>?_)
 refine o31.is [125] ?_
 simp [gz, *]
 (focus repeat' first|refine ga ?_|(refine gb ?_;try simp[gz, *])|refine gk fun _ _=>?_)
 refine o31.is [99, 97, 115, 101] ?_
 simp [gz, *]
 (focus repeat' first|refine ga ?_|(refine gb ?_;try simp[gz, *])|refine gk fun _ _=>?_)
 refine o31.is [100, 101, 102, 97, 117, 108, 116] ?_
 have o39:=o31.back lf8
 clear o31
 have p18:=o39.b1
 simp [gz, *]
 (focus repeat' first|refine ga ?_|(refine gb ?_;try simp[gz, *])|refine gk fun _ _=>?_)
 refine o39.add 24 t.pos [] 0 kids1 (fun k23 u17 u18 v9 S18 e15 o40 r27=>?_) (hl:=(by omega))
 try simp only[e15,Z]at q
 have p19:=o40.b1
 clear o39 r22 p18 e15 e1
 simp [gz, *]
 (focus repeat' first|refine ga ?_|(refine gb ?_;try simp[gz, *])|refine gk fun _ _=>?_)
 have o41:=(o40.drop yb7)
 clear o40
 refine .inl ⟨o41.tin lf1,fun ab8 ak8 ae8 hb=>?_⟩
 obtain ⟨o42,lf11⟩:=o41.grow lf1 (k:=ak8) (e:=ae8) hb
 generalize (tk.rid k23).set ab8 (.spare ak8 ae8)=k24 at o42 ⊢
 clear hb o41 r27 p19
 have r28:=o42.own.blk
 simp [gz, *]
 (focus repeat' first|refine ga ?_|(refine gb ?_;try simp[gz, *])|refine gk fun _ _=>?_)
 exact ⟨by kernel_rfl,rfl,p,_,by omega,Sub.refl _,p,_,kids ++ [v9],true,u17,u18,(Tok.own ab8 ak8 ae8),by omega,rfl,q,Cur.wk o42,lf11,by simp;omega,by first|rfl|simp,rfl⟩
 clear hgo
 refine awp_eqs (s' := [_,_,_,_,_,_,_,_,_,x1 9,_,_,_,_,_,_,_,_,_,_,_,_,_,_,_,_,_,_,_,_,_,_,_,_,_,_,_,_,_,_,_,_,x1 42,x1 43,x1 44,x1 45,x1 46,x1 47,x1 48,x1 49,x1 50,x1 51,x1 52,x1 53,x1 54,x1 55,x1 56,x1 57,x1 58,x1 59,x1 60,x1 61,x1 62,x1 63,_,_,_,_,_,_,_,_,_,_,_,_,_,_]) rfl ?_
 (focus repeat' first|refine ga ?_|(refine gb ?_;try simp[gz, *])|refine gk fun _ _=>?_)
 refine o31.ok ?_
 simp [gz, *]
 (focus repeat' first|refine ga ?_|(refine gb ?_;try simp[gz, *])|refine gk fun _ _=>?_)
 refine o31.is [125] ?_
 simp [gz, *]
 (focus repeat' first|refine ga ?_|(refine gb ?_;try simp[gz, *])|refine gk fun _ _=>?_)
 refine o31.is [99, 97, 115, 101] ?_
 have o43:=o31.back lf8
 clear o31
 have p20:=o43.b1
 simp [gz, *]
 (focus repeat' first|refine ga ?_|(refine gb ?_;try simp[gz, *])|refine gk fun _ _=>?_)
 refine o43.add 24 t.pos [] 0 kids1 (fun k25 u19 u20 v10 S19 e16 o44 r29=>?_) (hl:=(by omega))
 try simp only[e16,Z]at q
 have p21:=o44.b1
 clear o43 r22 p20 e16 e1
 simp [gz, *]
 (focus repeat' first|refine ga ?_|(refine gb ?_;try simp[gz, *])|refine gk fun _ _=>?_)
 have o45:=(o44.drop yb7)
 clear o44
 refine .inl ⟨o45.tin lf1,fun ab9 ak9 ae9 hb=>?_⟩
 obtain ⟨o46,lf12⟩:=o45.grow lf1 (k:=ak9) (e:=ae9) hb
 generalize (tk.rid k25).set ab9 (.spare ak9 ae9)=k26 at o46 ⊢
 clear hb o45 r29 p21
 have r30:=o46.own.blk
 simp [gz, *]
 (focus repeat' first|refine ga ?_|(refine gb ?_;try simp[gz, *])|refine gk fun _ _=>?_)
 exact ⟨by kernel_rfl,rfl,p,_,by omega,Sub.refl _,p,_,kids ++ [v10],true,u19,u20,(Tok.own ab9 ak9 ae9),by omega,rfl,q,Cur.wk o46,lf12,by simp;omega,by first|rfl|simp,rfl⟩
 clear hgo
 refine awp_eqs (s' := [_,_,_,_,_,_,_,_,_,x1 9,_,_,_,_,_,_,_,_,_,_,_,_,_,_,_,_,_,_,_,_,_,_,_,_,_,_,_,_,_,_,_,_,x1 42,x1 43,x1 44,x1 45,x1 46,x1 47,x1 48,x1 49,x1 50,x1 51,x1 52,x1 53,x1 54,x1 55,x1 56,x1 57,x1 58,x1 59,x1 60,x1 61,x1 62,x1 63,_,_,_,_,_,_,_,_,_,_,_,_,_,_]) rfl ?_
 (focus repeat' first|refine ga ?_|(refine gb ?_;try simp[gz, *])|refine gk fun _ _=>?_)
 refine o31.ok ?_
 simp [gz, *]
 (focus repeat' first|refine ga ?_|(refine gb ?_;try simp[gz, *])|refine gk fun _ _=>?_)
 refine o31.is [125] ?_
 have o47:=o31.back lf8
 clear o31
 have p22:=o47.b1
 simp [gz, *]
 (focus repeat' first|refine ga ?_|(refine gb ?_;try simp[gz, *])|refine gk fun _ _=>?_)
 refine o47.add 24 t.pos [] 0 kids1 (fun k27 u21 u22 v11 S20 e17 o48 r31=>?_) (hl:=(by omega))
 try simp only[e17,Z]at q
 have p23:=o48.b1
 clear o47 r22 p22 e17 e1
 simp [gz, *]
 (focus repeat' first|refine ga ?_|(refine gb ?_;try simp[gz, *])|refine gk fun _ _=>?_)
 have o49:=(o48.drop yb7)
 clear o48
 refine .inl ⟨o49.tin lf1,fun ab10 ak10 ae10 hb=>?_⟩
 obtain ⟨o50,lf13⟩:=o49.grow lf1 (k:=ak10) (e:=ae10) hb
 generalize (tk.rid k27).set ab10 (.spare ak10 ae10)=k28 at o50 ⊢
 clear hb o49 r31 p23
 have r32:=o50.own.blk
 simp [gz, *]
 (focus repeat' first|refine ga ?_|(refine gb ?_;try simp[gz, *])|refine gk fun _ _=>?_)
 exact ⟨by kernel_rfl,rfl,p,_,by omega,Sub.refl _,p,_,kids ++ [v11],true,u21,u22,(Tok.own ab10 ak10 ae10),by omega,rfl,q,Cur.wk o50,lf13,by simp;omega,by first|rfl|simp,rfl⟩
 try simp only[Z]at q
 simp [gz, *]
 (focus repeat' first|refine ga ?_|(refine gb ?_;try simp[gz, *])|refine gk fun _ _=>?_)
 refine o6.wrong 5 fun k29 S21 e18 o51 r33=>?_
 try simp only[e18,Z]at q
 have p24:=o51.b1
 clear o6 r6 p2 e18
 simp [gz, *]
 (focus repeat' first|refine ga ?_|(refine gb ?_;try simp[gz, *])|refine gk fun _ _=>?_)
 refine o51.must [58] fun k30 S22 e19 o52 r34=>?_
 try simp only[e19,Z]at q
 have p25:=o52.b1
 clear o51 r33 p24 e19
 simp [gz, *]
 (focus repeat' first|refine ga ?_|(refine gb ?_;try simp[gz, *])|refine gk fun _ _=>?_)
 obtain ⟨l7,S23,h7,qo4⟩:=bo2 q
 clear q
 refine awp_loop_h [9,42,43,44,45,46,47,48,49,50,51,52,53,54,55,56,57,58,59,60,61,62,63] (fun m1 x1 g1=>∃ (a1:Nat) (Sq1:St) (kids1:List Int) (w11 w21 tk1:Tok),a1 ≤ p ∧ m1=a1 ∧ Sh (run T a1 (.caseLoop kids1) Sq1=some (l7,S23)) ∧ Cur B (Heap.bk ((Heap.bk B tk).set b7 (.cells (tkRow t))) tk1) g1 T tt S Sq1 r w11 w21 (kids1 ++ kids) ∧ Lf B ((Heap.bk B tk).set b7 (.cells (tkRow t))) tk1 ∧ kids1.length+2*a1 ≤ 2*p+2 ∧ x1 9=.list 1 (ints kids1) tk1) p
  ⟨p,_,[-1],w1,w2,.full,by omega,rfl,h7,Cur.wk o52,o52.lf,by first|(simp;done)|(simp;omega),rfl⟩ fun m1 x1 g1 hI K1 hK1=>?_
 clear o52 h7 r34 p25
 obtain ⟨a1,Sq1,kids1,w11,w21,tk1,hq1,rfl,q,o53,lf14,hkl1,hx1⟩:=hI
 obtain ⟨p1,rfl⟩:=run_pos q
 simp only[run,Z]at q
 have r35:=o53.own.blk
 by_cases hgo:Sq1.fc=0 ∧ isL T [125] Sq1=false ∧ isL T [99, 97, 115, 101] Sq1=false ∧ isL T [100, 101, 102, 97, 117, 108, 116] Sq1=false
 have hfd:=decide_eq_true hgo.1
 have hil0:=hgo.2.1
 have hil1:=hgo.2.2.1
 have hil2:=hgo.2.2.2
 rw [if_pos hgo]at q
 clear hgo
 refine awp_eqs (s' := [_,_,_,_,_,_,_,_,_,x1 9,_,_,_,_,_,_,_,_,_,_,_,_,_,_,_,_,_,_,_,_,_,_,_,_,_,_,_,_,_,_,_,_,x1 42,x1 43,x1 44,x1 45,x1 46,x1 47,x1 48,x1 49,x1 50,x1 51,x1 52,x1 53,x1 54,x1 55,x1 56,x1 57,x1 58,x1 59,x1 60,x1 61,x1 62,x1 63,_,_,_,_,_,_,_,_,_,_,_,_,_,_]) rfl ?_
 (focus repeat' first|refine ga ?_|(refine gb ?_;try simp[gz, *])|refine gk fun _ _=>?_)
 refine o53.ok ?_
 simp [gz, *]
 (focus repeat' first|refine ga ?_|(refine gb ?_;try simp[gz, *])|refine gk fun _ _=>?_)
 refine o53.is [125] ?_
 simp [gz, *]
 (focus repeat' first|refine ga ?_|(refine gb ?_;try simp[gz, *])|refine gk fun _ _=>?_)
 refine o53.is [99, 97, 115, 101] ?_
 simp [gz, *]
 (focus repeat' first|refine ga ?_|(refine gb ?_;try simp[gz, *])|refine gk fun _ _=>?_)
 refine o53.is [100, 101, 102, 97, 117, 108, 116] ?_
 simp [gz, *]
 (focus repeat' first|refine ga ?_|(refine gb ?_;try simp[gz, *])|refine gk fun _ _=>?_)
 clear hfd hil0 hil1 hil2
 obtain ⟨l8,S24,h8,q⟩:=bo2 q
 refine o53.call (ih _ _ (by omega)) h8 fun k31 u23 u24 v12 e20 o54 r36=>?_
 try simp only[e20,Z]at q
 clear o53 r35 h8 e1
 simp [gz, *]
 (focus repeat' first|refine ga ?_|(refine gb ?_;try simp[gz, *])|refine gk fun _ _=>?_)
 refine .inl ⟨o54.tin lf14,fun ab11 ak11 ae11 hb=>?_⟩
 obtain ⟨o56,lf15⟩:=o54.grow lf14 (k:=ak11) (e:=ae11) hb
 generalize (tk1.rid k31).set ab11 (.spare ak11 ae11)=k32 at o56 ⊢
 clear hb o54 r36
 have r37:=o56.own.blk
 simp [gz, *]
 (focus repeat' first|refine ga ?_|(refine gb ?_;try simp[gz, *])|refine gk fun _ _=>?_)
 exact ⟨by kernel_rfl,rfl,p1,_,by omega,Sub.refl _,p1,_,kids1 ++ [v12],u23,u24,(Tok.own ab11 ak11 ae11),by omega,rfl,q,Cur.wk o56,lf15,by simp;omega,by first|rfl|simp⟩
 rw [if_neg hgo]at q
 obtain ⟨rfl,rfl⟩:=fi q
 clear q
 have q:=qo4
 simp only[Z]at q
 cases hfd:decide (Sq1.fc=0)
 clear hgo
 refine awp_eqs (s' := [_,_,_,_,_,_,_,_,_,x1 9,_,_,_,_,_,_,_,_,_,_,_,_,_,_,_,_,_,_,_,_,_,_,_,_,_,_,_,_,_,_,_,_,x1 42,x1 43,x1 44,x1 45,x1 46,x1 47,x1 48,x1 49,x1 50,x1 51,x1 52,x1 53,x1 54,x1 55,x1 56,x1 57,x1 58,x1 59,x1 60,x1 61,x1 62,x1 63,_,_,_,_,_,_,_,_,_,_,_,_,_,_]) rfl ?_
 (focus repeat' first|refine ga ?_|(refine gb ?_;try simp[gz, *])|refine gk fun _ _=>?_)
 refine o53.ok ?_
 have o57:=o53.back lf14
 clear o53
 have p26:=o57.b1
 simp [gz, *]
 (focus repeat' first|refine ga ?_|(refine gb ?_;try simp[gz, *])|refine gk fun _ _=>?_)
 refine o57.add 24 t.pos [] 0 kids1 (fun k33 u25 u26 v13 S25 e21 o58 r38=>?_) (hl:=(by omega))
 try simp only[e21,Z]at q
 have p27:=o58.b1
 clear o57 r35 p26 e21 e1
 simp [gz, *]
 (focus repeat' first|refine ga ?_|(refine gb ?_;try simp[gz, *])|refine gk fun _ _=>?_)
 have o59:=(o58.drop yb7)
 clear o58
 refine .inl ⟨o59.tin lf1,fun ab12 ak12 ae12 hb=>?_⟩
 obtain ⟨o60,lf16⟩:=o59.grow lf1 (k:=ak12) (e:=ae12) hb
 generalize (tk.rid k33).set ab12 (.spare ak12 ae12)=k34 at o60 ⊢
 clear hb o59 r38 p27
 have r39:=o60.own.blk
 simp [gz, *]
 (focus repeat' first|refine ga ?_|(refine gb ?_;try simp[gz, *])|refine gk fun _ _=>?_)
 exact ⟨by kernel_rfl,rfl,p,_,by omega,Sub.refl _,p,_,kids ++ [v13],true,u25,u26,(Tok.own ab12 ak12 ae12),by omega,rfl,q,Cur.wk o60,lf16,by simp;omega,by first|rfl|simp,rfl⟩
 cases hil0:isL T [125] Sq1
 cases hil1:isL T [99, 97, 115, 101] Sq1
 have hil2:isL T [100, 101, 102, 97, 117, 108, 116] Sq1=true:=by
  cases e:isL T [100, 101, 102, 97, 117, 108, 116] Sq1
  · exact absurd ⟨of_decide_eq_true hfd,hil0,hil1,e⟩ hgo
  · rfl
 clear hgo
 refine awp_eqs (s' := [_,_,_,_,_,_,_,_,_,x1 9,_,_,_,_,_,_,_,_,_,_,_,_,_,_,_,_,_,_,_,_,_,_,_,_,_,_,_,_,_,_,_,_,x1 42,x1 43,x1 44,x1 45,x1 46,x1 47,x1 48,x1 49,x1 50,x1 51,x1 52,x1 53,x1 54,x1 55,x1 56,x1 57,x1 58,x1 59,x1 60,x1 61,x1 62,x1 63,_,_,_,_,_,_,_,_,_,_,_,_,_,_]) rfl ?_
 (focus repeat' first|refine ga ?_|(refine gb ?_;try simp[gz, *])|refine gk fun _ _=>?_)
 refine o53.ok ?_
 simp [gz, *]
 (focus repeat' first|refine ga ?_|(refine gb ?_;try simp[gz, *])|refine gk fun _ _=>?_)
 refine o53.is [125] ?_
 simp [gz, *]
 (focus repeat' first|refine ga ?_|(refine gb ?_;try simp[gz, *])|refine gk fun _ _=>?_)
 refine o53.is [99, 97, 115, 101] ?_
 simp [gz, *]
 (focus repeat' first|refine ga ?_|(refine gb ?_;try simp[gz, *])|refine gk fun _ _=>?_)
 refine o53.is [100, 101, 102, 97, 117, 108, 116] ?_
 have o61:=o53.back lf14
 clear o53
 have p28:=o61.b1
 simp [gz, *]
 (focus repeat' first|refine ga ?_|(refine gb ?_;try simp[gz, *])|refine gk fun _ _=>?_)
 refine o61.add 24 t.pos [] 0 kids1 (fun k35 u27 u28 v14 S26 e22 o62 r40=>?_) (hl:=(by omega))
 try simp only[e22,Z]at q
 have p29:=o62.b1
 clear o61 r35 p28 e22 e1
 simp [gz, *]
 (focus repeat' first|refine ga ?_|(refine gb ?_;try simp[gz, *])|refine gk fun _ _=>?_)
 have o63:=(o62.drop yb7)
 clear o62
 refine .inl ⟨o63.tin lf1,fun ab13 ak13 ae13 hb=>?_⟩
 obtain ⟨o64,lf17⟩:=o63.grow lf1 (k:=ak13) (e:=ae13) hb
 generalize (tk.rid k35).set ab13 (.spare ak13 ae13)=k36 at o64 ⊢
 clear hb o63 r40 p29
 have r41:=o64.own.blk
 simp [gz, *]
 (focus repeat' first|refine ga ?_|(refine gb ?_;try simp[gz, *])|refine gk fun _ _=>?_)
 exact ⟨by kernel_rfl,rfl,p,_,by omega,Sub.refl _,p,_,kids ++ [v14],true,u27,u28,(Tok.own ab13 ak13 ae13),by omega,rfl,q,Cur.wk o64,lf17,by simp;omega,by first|rfl|simp,rfl⟩
 clear hgo
 refine awp_eqs (s' := [_,_,_,_,_,_,_,_,_,x1 9,_,_,_,_,_,_,_,_,_,_,_,_,_,_,_,_,_,_,_,_,_,_,_,_,_,_,_,_,_,_,_,_,x1 42,x1 43,x1 44,x1 45,x1 46,x1 47,x1 48,x1 49,x1 50,x1 51,x1 52,x1 53,x1 54,x1 55,x1 56,x1 57,x1 58,x1 59,x1 60,x1 61,x1 62,x1 63,_,_,_,_,_,_,_,_,_,_,_,_,_,_]) rfl ?_
 (focus repeat' first|refine ga ?_|(refine gb ?_;try simp[gz, *])|refine gk fun _ _=>?_)
 refine o53.ok ?_
 simp [gz, *]
 (focus repeat' first|refine ga ?_|(refine gb ?_;try simp[gz, *])|refine gk fun _ _=>?_)
 refine o53.is [125] ?_
 simp [gz, *]
 (focus repeat' first|refine ga ?_|(refine gb ?_;try simp[gz, *])|refine gk fun _ _=>?_)
 refine o53.is [99, 97, 115, 101] ?_
 have o65:=o53.back lf14
 clear o53
 have p30:=o65.b1
 simp [gz, *]
 (focus repeat' first|refine ga ?_|(refine gb ?_;try simp[gz, *])|refine gk fun _ _=>?_)
 refine o65.add 24 t.pos [] 0 kids1 (fun k37 u29 u30 v15 S27 e23 o66 r42=>?_) (hl:=(by omega))
 try simp only[e23,Z]at q
 have p31:=o66.b1
 clear o65 r35 p30 e23 e1
 simp [gz, *]
 (focus repeat' first|refine ga ?_|(refine gb ?_;try simp[gz, *])|refine gk fun _ _=>?_)
 have o67:=(o66.drop yb7)
 clear o66
 refine .inl ⟨o67.tin lf1,fun ab14 ak14 ae14 hb=>?_⟩
 obtain ⟨o68,lf18⟩:=o67.grow lf1 (k:=ak14) (e:=ae14) hb
 generalize (tk.rid k37).set ab14 (.spare ak14 ae14)=k38 at o68 ⊢
 clear hb o67 r42 p31
 have r43:=o68.own.blk
 simp [gz, *]
 (focus repeat' first|refine ga ?_|(refine gb ?_;try simp[gz, *])|refine gk fun _ _=>?_)
 exact ⟨by kernel_rfl,rfl,p,_,by omega,Sub.refl _,p,_,kids ++ [v15],true,u29,u30,(Tok.own ab14 ak14 ae14),by omega,rfl,q,Cur.wk o68,lf18,by simp;omega,by first|rfl|simp,rfl⟩
 clear hgo
 refine awp_eqs (s' := [_,_,_,_,_,_,_,_,_,x1 9,_,_,_,_,_,_,_,_,_,_,_,_,_,_,_,_,_,_,_,_,_,_,_,_,_,_,_,_,_,_,_,_,x1 42,x1 43,x1 44,x1 45,x1 46,x1 47,x1 48,x1 49,x1 50,x1 51,x1 52,x1 53,x1 54,x1 55,x1 56,x1 57,x1 58,x1 59,x1 60,x1 61,x1 62,x1 63,_,_,_,_,_,_,_,_,_,_,_,_,_,_]) rfl ?_
 (focus repeat' first|refine ga ?_|(refine gb ?_;try simp[gz, *])|refine gk fun _ _=>?_)
 refine o53.ok ?_
 simp [gz, *]
 (focus repeat' first|refine ga ?_|(refine gb ?_;try simp[gz, *])|refine gk fun _ _=>?_)
 refine o53.is [125] ?_
 have o69:=o53.back lf14
 clear o53
 have p32:=o69.b1
 simp [gz, *]
 (focus repeat' first|refine ga ?_|(refine gb ?_;try simp[gz, *])|refine gk fun _ _=>?_)
 refine o69.add 24 t.pos [] 0 kids1 (fun k39 u31 u32 v16 S28 e24 o70 r44=>?_) (hl:=(by omega))
 try simp only[e24,Z]at q
 have p33:=o70.b1
 clear o69 r35 p32 e24 e1
 simp [gz, *]
 (focus repeat' first|refine ga ?_|(refine gb ?_;try simp[gz, *])|refine gk fun _ _=>?_)
 have o71:=(o70.drop yb7)
 clear o70
 refine .inl ⟨o71.tin lf1,fun ab15 ak15 ae15 hb=>?_⟩
 obtain ⟨o72,lf19⟩:=o71.grow lf1 (k:=ak15) (e:=ae15) hb
 generalize (tk.rid k39).set ab15 (.spare ak15 ae15)=k40 at o72 ⊢
 clear hb o71 r44 p33
 have r45:=o72.own.blk
 simp [gz, *]
 (focus repeat' first|refine ga ?_|(refine gb ?_;try simp[gz, *])|refine gk fun _ _=>?_)
 exact ⟨by kernel_rfl,rfl,p,_,by omega,Sub.refl _,p,_,kids ++ [v16],true,u31,u32,(Tok.own ab15 ak15 ae15),by omega,rfl,q,Cur.wk o72,lf19,by simp;omega,by first|rfl|simp,rfl⟩
 try simp only[c1,e3,Z]at q
 have p34:=o6.b1
 clear o5 r5 p1 e3 c1
 simp [gz, *]
 (focus repeat' first|refine ga ?_|(refine gb ?_;try simp[gz, *])|refine gk fun _ _=>?_)
 obtain ⟨l9,S29,h9,q⟩:=bo2 q
 refine o6.call (ih _ _ (by omega)) h9 fun k41 u33 u34 v17 e25 o73 r46=>?_
 try simp only[e25,Z]at q
 have p35:=o73.b1
 clear o6 r6 p34 h9 e1
 simp [gz, *]
 (focus repeat' first|refine ga ?_|(refine gb ?_;try simp[gz, *])|refine gk fun _ _=>?_)
 refine o73.must [58] fun k42 S30 e26 o74 r47=>?_
 try simp only[e26,Z]at q
 have p36:=o74.b1
 clear o73 r46 p35 e26
 simp [gz, *]
 (focus repeat' first|refine ga ?_|(refine gb ?_;try simp[gz, *])|refine gk fun _ _=>?_)
 obtain ⟨l10,S31,h10,qo5⟩:=bo2 q
 clear q
 refine awp_loop_h [9,42,43,44,45,46,47,48,49,50,51,52,53,54,55,56,57,58,59,60,61,62,63] (fun m1 x1 g1=>∃ (a1:Nat) (Sq1:St) (kids1:List Int) (w11 w21 tk1:Tok),a1 ≤ p ∧ m1=a1 ∧ Sh (run T a1 (.caseLoop kids1) Sq1=some (l10,S31)) ∧ Cur B (Heap.bk ((Heap.bk B tk).set b7 (.cells (tkRow t))) tk1) g1 T tt S Sq1 r w11 w21 (kids1 ++ kids) ∧ Lf B ((Heap.bk B tk).set b7 (.cells (tkRow t))) tk1 ∧ kids1.length+2*a1 ≤ 2*p+2 ∧ x1 9=.list 1 (ints kids1) tk1) p
  ⟨p,_,[v17],u33,u34,.full,by omega,rfl,h10,Cur.wk o74,o74.lf,by first|(simp;done)|(simp;omega),rfl⟩ fun m1 x1 g1 hI K1 hK1=>?_
 clear o74 h10 r47 p36
 obtain ⟨a1,Sq1,kids1,w11,w21,tk1,hq1,rfl,q,o75,lf20,hkl1,hx1⟩:=hI
 obtain ⟨p1,rfl⟩:=run_pos q
 simp only[run,Z]at q
 have r48:=o75.own.blk
 by_cases hgo:Sq1.fc=0 ∧ isL T [125] Sq1=false ∧ isL T [99, 97, 115, 101] Sq1=false ∧ isL T [100, 101, 102, 97, 117, 108, 116] Sq1=false
 have hfd:=decide_eq_true hgo.1
 have hil0:=hgo.2.1
 have hil1:=hgo.2.2.1
 have hil2:=hgo.2.2.2
 rw [if_pos hgo]at q
 clear hgo
 refine awp_eqs (s' := [_,_,_,_,_,_,_,_,_,x1 9,_,_,_,_,_,_,_,_,_,_,_,_,_,_,_,_,_,_,_,_,_,_,_,_,_,_,_,_,_,_,_,_,x1 42,x1 43,x1 44,x1 45,x1 46,x1 47,x1 48,x1 49,x1 50,x1 51,x1 52,x1 53,x1 54,x1 55,x1 56,x1 57,x1 58,x1 59,x1 60,x1 61,x1 62,x1 63,_,_,_,_,_,_,_,_,_,_,_,_,_,_]) rfl ?_
 (focus repeat' first|refine ga ?_|(refine gb ?_;try simp[gz, *])|refine gk fun _ _=>?_)
 refine o75.ok ?_
 simp [gz, *]
 (focus repeat' first|refine ga ?_|(refine gb ?_;try simp[gz, *])|refine gk fun _ _=>?_)
 refine o75.is [125] ?_
 simp [gz, *]
 (focus repeat' first|refine ga ?_|(refine gb ?_;try simp[gz, *])|refine gk fun _ _=>?_)
 refine o75.is [99, 97, 115, 101] ?_
 simp [gz, *]
 (focus repeat' first|refine ga ?_|(refine gb ?_;try simp[gz, *])|refine gk fun _ _=>?_)
 refine o75.is [100, 101, 102, 97, 117, 108, 116] ?_
 simp [gz, *]
 (focus repeat' first|refine ga ?_|(refine gb ?_;try simp[gz, *])|refine gk fun _ _=>?_)
 clear hfd hil0 hil1 hil2
 obtain ⟨l11,S32,h11,q⟩:=bo2 q
 refine o75.call (ih _ _ (by omega)) h11 fun k43 u35 u36 v18 e27 o76 r49=>?_
 try simp only[e27,Z]at q
 clear o75 r48 h11 e25
 simp [gz, *]
 (focus repeat' first|refine ga ?_|(refine gb ?_;try simp[gz, *])|refine gk fun _ _=>?_)
 refine .inl ⟨o76.tin lf20,fun ab16 ak16 ae16 hb=>?_⟩
 obtain ⟨o78,lf21⟩:=o76.grow lf20 (k:=ak16) (e:=ae16) hb
 generalize (tk1.rid k43).set ab16 (.spare ak16 ae16)=k44 at o78 ⊢
 clear hb o76 r49
 have r50:=o78.own.blk
 simp [gz, *]
 (focus repeat' first|refine ga ?_|(refine gb ?_;try simp[gz, *])|refine gk fun _ _=>?_)
 exact ⟨by kernel_rfl,rfl,p1,_,by omega,Sub.refl _,p1,_,kids1 ++ [v18],u35,u36,(Tok.own ab16 ak16 ae16),by omega,rfl,q,Cur.wk o78,lf21,by simp;omega,by first|rfl|simp⟩
 rw [if_neg hgo]at q
 obtain ⟨rfl,rfl⟩:=fi q
 clear q
 have q:=qo5
 simp only[Z]at q
 cases hfd:decide (Sq1.fc=0)
 clear hgo
 refine awp_eqs (s' := [_,_,_,_,_,_,_,_,_,x1 9,_,_,_,_,_,_,_,_,_,_,_,_,_,_,_,_,_,_,_,_,_,_,_,_,_,_,_,_,_,_,_,_,x1 42,x1 43,x1 44,x1 45,x1 46,x1 47,x1 48,x1 49,x1 50,x1 51,x1 52,x1 53,x1 54,x1 55,x1 56,x1 57,x1 58,x1 59,x1 60,x1 61,x1 62,x1 63,_,_,_,_,_,_,_,_,_,_,_,_,_,_]) rfl ?_
 (focus repeat' first|refine ga ?_|(refine gb ?_;try simp[gz, *])|refine gk fun _ _=>?_)
 refine o75.ok ?_
 have o79:=o75.back lf20
 clear o75
 have p37:=o79.b1
 simp [gz, *]
 (focus repeat' first|refine ga ?_|(refine gb ?_;try simp[gz, *])|refine gk fun _ _=>?_)
 refine o79.add 24 t.pos [] 0 kids1 (fun k45 u37 u38 v19 S33 e28 o80 r51=>?_) (hl:=(by omega))
 try simp only[e28,Z]at q
 have p38:=o80.b1
 clear o79 r48 p37 e28 e25
 simp [gz, *]
 (focus repeat' first|refine ga ?_|(refine gb ?_;try simp[gz, *])|refine gk fun _ _=>?_)
 have o81:=(o80.drop yb7)
 clear o80
 refine .inl ⟨o81.tin lf1,fun ab17 ak17 ae17 hb=>?_⟩
 obtain ⟨o82,lf22⟩:=o81.grow lf1 (k:=ak17) (e:=ae17) hb
 generalize (tk.rid k45).set ab17 (.spare ak17 ae17)=k46 at o82 ⊢
 clear hb o81 r51 p38
 have r52:=o82.own.blk
 simp [gz, *]
 (focus repeat' first|refine ga ?_|(refine gb ?_;try simp[gz, *])|refine gk fun _ _=>?_)
 exact ⟨by kernel_rfl,rfl,p,_,by omega,Sub.refl _,p,_,kids ++ [v19],ot,u37,u38,(Tok.own ab17 ak17 ae17),by omega,rfl,q,Cur.wk o82,lf22,by simp;omega,by first|rfl|simp,rfl⟩
 cases hil0:isL T [125] Sq1
 cases hil1:isL T [99, 97, 115, 101] Sq1
 have hil2:isL T [100, 101, 102, 97, 117, 108, 116] Sq1=true:=by
  cases e:isL T [100, 101, 102, 97, 117, 108, 116] Sq1
  · exact absurd ⟨of_decide_eq_true hfd,hil0,hil1,e⟩ hgo
  · rfl
 clear hgo
 refine awp_eqs (s' := [_,_,_,_,_,_,_,_,_,x1 9,_,_,_,_,_,_,_,_,_,_,_,_,_,_,_,_,_,_,_,_,_,_,_,_,_,_,_,_,_,_,_,_,x1 42,x1 43,x1 44,x1 45,x1 46,x1 47,x1 48,x1 49,x1 50,x1 51,x1 52,x1 53,x1 54,x1 55,x1 56,x1 57,x1 58,x1 59,x1 60,x1 61,x1 62,x1 63,_,_,_,_,_,_,_,_,_,_,_,_,_,_]) rfl ?_
 (focus repeat' first|refine ga ?_|(refine gb ?_;try simp[gz, *])|refine gk fun _ _=>?_)
 refine o75.ok ?_
 simp [gz, *]
 (focus repeat' first|refine ga ?_|(refine gb ?_;try simp[gz, *])|refine gk fun _ _=>?_)
 refine o75.is [125] ?_
 simp [gz, *]
 (focus repeat' first|refine ga ?_|(refine gb ?_;try simp[gz, *])|refine gk fun _ _=>?_)
 refine o75.is [99, 97, 115, 101] ?_
 simp [gz, *]
 (focus repeat' first|refine ga ?_|(refine gb ?_;try simp[gz, *])|refine gk fun _ _=>?_)
 refine o75.is [100, 101, 102, 97, 117, 108, 116] ?_
 have o83:=o75.back lf20
 clear o75
 have p39:=o83.b1
 simp [gz, *]
 (focus repeat' first|refine ga ?_|(refine gb ?_;try simp[gz, *])|refine gk fun _ _=>?_)
 refine o83.add 24 t.pos [] 0 kids1 (fun k47 u39 u40 v20 S34 e29 o84 r53=>?_) (hl:=(by omega))
 try simp only[e29,Z]at q
 have p40:=o84.b1
 clear o83 r48 p39 e29 e25
 simp [gz, *]
 (focus repeat' first|refine ga ?_|(refine gb ?_;try simp[gz, *])|refine gk fun _ _=>?_)
 have o85:=(o84.drop yb7)
 clear o84
 refine .inl ⟨o85.tin lf1,fun ab18 ak18 ae18 hb=>?_⟩
 obtain ⟨o86,lf23⟩:=o85.grow lf1 (k:=ak18) (e:=ae18) hb
 generalize (tk.rid k47).set ab18 (.spare ak18 ae18)=k48 at o86 ⊢
 clear hb o85 r53 p40
 have r54:=o86.own.blk
 simp [gz, *]
 (focus repeat' first|refine ga ?_|(refine gb ?_;try simp[gz, *])|refine gk fun _ _=>?_)
 exact ⟨by kernel_rfl,rfl,p,_,by omega,Sub.refl _,p,_,kids ++ [v20],ot,u39,u40,(Tok.own ab18 ak18 ae18),by omega,rfl,q,Cur.wk o86,lf23,by simp;omega,by first|rfl|simp,rfl⟩
 clear hgo
 refine awp_eqs (s' := [_,_,_,_,_,_,_,_,_,x1 9,_,_,_,_,_,_,_,_,_,_,_,_,_,_,_,_,_,_,_,_,_,_,_,_,_,_,_,_,_,_,_,_,x1 42,x1 43,x1 44,x1 45,x1 46,x1 47,x1 48,x1 49,x1 50,x1 51,x1 52,x1 53,x1 54,x1 55,x1 56,x1 57,x1 58,x1 59,x1 60,x1 61,x1 62,x1 63,_,_,_,_,_,_,_,_,_,_,_,_,_,_]) rfl ?_
 (focus repeat' first|refine ga ?_|(refine gb ?_;try simp[gz, *])|refine gk fun _ _=>?_)
 refine o75.ok ?_
 simp [gz, *]
 (focus repeat' first|refine ga ?_|(refine gb ?_;try simp[gz, *])|refine gk fun _ _=>?_)
 refine o75.is [125] ?_
 simp [gz, *]
 (focus repeat' first|refine ga ?_|(refine gb ?_;try simp[gz, *])|refine gk fun _ _=>?_)
 refine o75.is [99, 97, 115, 101] ?_
 have o87:=o75.back lf20
 clear o75
 have p41:=o87.b1
 simp [gz, *]
 (focus repeat' first|refine ga ?_|(refine gb ?_;try simp[gz, *])|refine gk fun _ _=>?_)
 refine o87.add 24 t.pos [] 0 kids1 (fun k49 u41 u42 v21 S35 e30 o88 r55=>?_) (hl:=(by omega))
 try simp only[e30,Z]at q
 have p42:=o88.b1
 clear o87 r48 p41 e30 e25
 simp [gz, *]
 (focus repeat' first|refine ga ?_|(refine gb ?_;try simp[gz, *])|refine gk fun _ _=>?_)
 have o89:=(o88.drop yb7)
 clear o88
 refine .inl ⟨o89.tin lf1,fun ab19 ak19 ae19 hb=>?_⟩
 obtain ⟨o90,lf24⟩:=o89.grow lf1 (k:=ak19) (e:=ae19) hb
 generalize (tk.rid k49).set ab19 (.spare ak19 ae19)=k50 at o90 ⊢
 clear hb o89 r55 p42
 have r56:=o90.own.blk
 simp [gz, *]
 (focus repeat' first|refine ga ?_|(refine gb ?_;try simp[gz, *])|refine gk fun _ _=>?_)
 exact ⟨by kernel_rfl,rfl,p,_,by omega,Sub.refl _,p,_,kids ++ [v21],ot,u41,u42,(Tok.own ab19 ak19 ae19),by omega,rfl,q,Cur.wk o90,lf24,by simp;omega,by first|rfl|simp,rfl⟩
 clear hgo
 refine awp_eqs (s' := [_,_,_,_,_,_,_,_,_,x1 9,_,_,_,_,_,_,_,_,_,_,_,_,_,_,_,_,_,_,_,_,_,_,_,_,_,_,_,_,_,_,_,_,x1 42,x1 43,x1 44,x1 45,x1 46,x1 47,x1 48,x1 49,x1 50,x1 51,x1 52,x1 53,x1 54,x1 55,x1 56,x1 57,x1 58,x1 59,x1 60,x1 61,x1 62,x1 63,_,_,_,_,_,_,_,_,_,_,_,_,_,_]) rfl ?_
 (focus repeat' first|refine ga ?_|(refine gb ?_;try simp[gz, *])|refine gk fun _ _=>?_)
 refine o75.ok ?_
 simp [gz, *]
 (focus repeat' first|refine ga ?_|(refine gb ?_;try simp[gz, *])|refine gk fun _ _=>?_)
 refine o75.is [125] ?_
 have o91:=o75.back lf20
 clear o75
 have p43:=o91.b1
 simp [gz, *]
 (focus repeat' first|refine ga ?_|(refine gb ?_;try simp[gz, *])|refine gk fun _ _=>?_)
 refine o91.add 24 t.pos [] 0 kids1 (fun k51 u43 u44 v22 S36 e31 o92 r57=>?_) (hl:=(by omega))
 try simp only[e31,Z]at q
 have p44:=o92.b1
 clear o91 r48 p43 e31 e25
 simp [gz, *]
 (focus repeat' first|refine ga ?_|(refine gb ?_;try simp[gz, *])|refine gk fun _ _=>?_)
 have o93:=(o92.drop yb7)
 clear o92
 refine .inl ⟨o93.tin lf1,fun ab20 ak20 ae20 hb=>?_⟩
 obtain ⟨o94,lf25⟩:=o93.grow lf1 (k:=ak20) (e:=ae20) hb
 generalize (tk.rid k51).set ab20 (.spare ak20 ae20)=k52 at o94 ⊢
 clear hb o93 r57 p44
 have r58:=o94.own.blk
 simp [gz, *]
 (focus repeat' first|refine ga ?_|(refine gb ?_;try simp[gz, *])|refine gk fun _ _=>?_)
 exact ⟨by kernel_rfl,rfl,p,_,by omega,Sub.refl _,p,_,kids ++ [v22],ot,u43,u44,(Tok.own ab20 ak20 ae20),by omega,rfl,q,Cur.wk o94,lf25,by simp;omega,by first|rfl|simp,rfl⟩
 rw [if_neg hgo]at q
 obtain ⟨rfl,rfl⟩:=fi q
 clear q
 have q:=qo1
 simp only[Z]at q
 cases hfd:decide (Sq.fc=0)
 clear hgo
 refine awp_eqs (s' := [_,_,_,_,_,x 5,x 6,x 7,x 8,x 9,_,_,_,_,_,x 15,x 16,x 17,x 18,x 19,x 20,x 21,x 22,x 23,x 24,x 25,x 26,x 27,x 28,x 29,x 30,x 31,x 32,x 33,x 34,x 35,x 36,x 37,x 38,x 39,x 40,x 41,x 42,x 43,x 44,x 45,x 46,x 47,x 48,x 49,x 50,x 51,x 52,x 53,x 54,x 55,x 56,x 57,x 58,x 59,x 60,x 61,x 62,x 63,x 64,x 65,x 66,x 67,x 68,x 69,x 70,x 71,_,_,_,_,_,_]) rfl ?_
 (focus repeat' first|refine ga ?_|(refine gb ?_;try simp[gz, *])|refine gk fun _ _=>?_)
 refine o3.ok ?_
 simp [gz, *]
 (focus repeat' first|refine ga ?_|(refine gb ?_;try simp[gz, *])|refine gk fun _ _=>?_)
 refine o3.must [125] fun k53 S37 e32 o95 r59=>?_
 try simp only[e32,Z]at q
 clear o3 r4 e32
 simp [gz, *]
 (focus repeat' first|refine ga ?_|(refine gb ?_;try simp[gz, *])|refine gk fun _ _=>?_)
 refine o95.add 34 at_ [] 0 kids (fun k54 u45 u46 v23 S38 e33 o96 r60=>?_) (hl:=(by omega))
 try simp only[e33,Z]at q
 clear o95 r59 e33 e1
 obtain ⟨rfl,rfl⟩:=fi q
 simp [gz, *]
 (focus repeat' first|refine ga ?_|(refine gb ?_;try simp[gz, *])|refine gk fun _ _=>?_)
 exact hR.out _ _ _ o96.fin
 have hil0:isL T [125] Sq=true:=by
  cases e:isL T [125] Sq
  · exact absurd ⟨of_decide_eq_true hfd,e⟩ hgo
  · rfl
 clear hgo
 refine awp_eqs (s' := [_,_,_,_,_,x 5,x 6,x 7,x 8,x 9,_,_,_,_,_,x 15,x 16,x 17,x 18,x 19,x 20,x 21,x 22,x 23,x 24,x 25,x 26,x 27,x 28,x 29,x 30,x 31,x 32,x 33,x 34,x 35,x 36,x 37,x 38,x 39,x 40,x 41,x 42,x 43,x 44,x 45,x 46,x 47,x 48,x 49,x 50,x 51,x 52,x 53,x 54,x 55,x 56,x 57,x 58,x 59,x 60,x 61,x 62,x 63,x 64,x 65,x 66,x 67,x 68,x 69,x 70,x 71,_,_,_,_,_,_]) rfl ?_
 (focus repeat' first|refine ga ?_|(refine gb ?_;try simp[gz, *])|refine gk fun _ _=>?_)
 refine o3.ok ?_
 simp [gz, *]
 (focus repeat' first|refine ga ?_|(refine gb ?_;try simp[gz, *])|refine gk fun _ _=>?_)
 refine o3.is [125] ?_
 simp [gz, *]
 (focus repeat' first|refine ga ?_|(refine gb ?_;try simp[gz, *])|refine gk fun _ _=>?_)
 refine o3.must [125] fun k55 S39 e34 o97 r61=>?_
 try simp only[e34,Z]at q
 clear o3 r4 e34
 simp [gz, *]
 (focus repeat' first|refine ga ?_|(refine gb ?_;try simp[gz, *])|refine gk fun _ _=>?_)
 refine o97.add 34 at_ [] 0 kids (fun k56 u47 u48 v24 S40 e35 o98 r62=>?_) (hl:=(by omega))
 try simp only[e35,Z]at q
 clear o97 r61 e35 e1
 obtain ⟨rfl,rfl⟩:=fi q
 simp [gz, *]
 (focus repeat' first|refine ga ?_|(refine gb ?_;try simp[gz, *])|refine gk fun _ _=>?_)
 exact hR.out _ _ _ o98.fin
end Go.Proofs.YtcbgpjlcfkkdlaaGreatDoor

namespace Go.Proofs.YtcbgpjlcfkkdlaaGreatDoor
open Go Go.AL Go.Proofs
theorem paren_w (T : List Tk) (tt : Tok) (n : Nat) (ih : ∀ m op, m ≤ n → Meth T tt m op) : Meth T tt (n + 1) .paren := by
 refine Meth.of fun S l S' q r t1 t2 B h o R hR=>?_
 simp only[run,Z]at q
 refine acalls_of Tryz.func115 rfl Tryz.ntmps115 (congrArg Array.toList Tryz.results115) fun Q hQ => ?_
 have r1:=o.own.blk
 (focus repeat' first|refine ga ?_|(refine gb ?_;try simp[gz, *])|refine gk fun _ _=>?_)
 refine o.must [40] fun k1 S1 e1 o1 r2=>?_
 try simp only[e1,Z]at q
 clear o r1 e1
 simp [gz, *]
 (focus repeat' first|refine ga ?_|(refine gb ?_;try simp[gz, *])|refine gk fun _ _=>?_)
 obtain ⟨l1,S2,h1,q⟩:=bo2 q
 refine o1.call (ih _ _ (by omega)) h1 fun k2 u1 u2 v1 e2 o2 r3=>?_
 try simp only[e2,Z]at q
 clear o1 r2 h1
 simp [gz, *]
 (focus repeat' first|refine ga ?_|(refine gb ?_;try simp[gz, *])|refine gk fun _ _=>?_)
 refine o2.must [41] fun k3 S3 e3 o3 r4=>?_
 try simp only[e3,Z]at q
 clear o2 r3 e3
 obtain ⟨rfl,rfl⟩:=fi q
 subst e2
 simp [gz, *]
 (focus repeat' first|refine ga ?_|(refine gb ?_;try simp[gz, *])|refine gk fun _ _=>?_)
 exact hR.out _ _ _ o3.fin
end Go.Proofs.YtcbgpjlcfkkdlaaGreatDoor

namespace Go.Proofs.YtcbgpjlcfkkdlaaGreatDoor
open Go Go.AL Go.Proofs
theorem block_w (T : List Tk) (tt : Tok) (n : Nat) (hn : n ≤ 1000000) (ih : ∀ m op, m ≤ n → Meth T tt m op) : Meth T tt (n + 1) .block := by
 refine Meth.of fun S l S' q r t1 t2 B h o R hR=>?_
 simp only[run,Z]at q
 obtain ⟨a,ht_a⟩:∃ x,Sh (peekL T S=x):=⟨_,⟨rfl⟩⟩
 try simp only[ht_a.out,Z]at q
 refine acalls_of Tryz.func47 rfl Tryz.ntmps47 (congrArg Array.toList Tryz.results47) fun Q hQ => ?_
 have r1:=o.own.blk
 (focus repeat' first|refine ga ?_|(refine gb ?_;try simp[gz, *])|refine gk fun _ _=>?_)
 refine o.peek ht_a ?_
 simp [gz, *]
 (focus repeat' first|refine ga ?_|(refine gb ?_;try simp[gz, *])|refine gk fun _ _=>?_)
 refine o.must [123] fun k1 S1 e1 o1 r2=>?_
 try simp only[e1,Z]at q
 clear o r1 e1
 simp [gz, *]
 (focus repeat' first|refine ga ?_|(refine gb ?_;try simp[gz, *])|refine gk fun _ _=>?_)
 obtain ⟨l1,S2,h1,qo1⟩:=bo2 q
 clear q
 refine awp_loop_h [4,10,11,12,13,14,15,16,17,18,19,20,21] (fun m x g=>∃ (a:Nat) (Sq:St) (kids:List Int) (w1 w2 tk:Tok),a ≤ n ∧ m=a ∧ Sh (run T a (.blockLoop kids) Sq=some (l1,S2)) ∧ Cur B (Heap.bk B tk) g T tt S Sq r w1 w2 (kids) ∧ Lf B B tk ∧ kids.length+2*a ≤ 2*n+0 ∧ x 4=.list 1 (ints kids) tk) n
  ⟨n,_,[],t1,t2,.nil,by omega,rfl,h1,Cur.wk o1,o1.lf,by first|(simp;done)|(simp;omega),rfl⟩ fun m x g hI K hK=>?_
 clear o1 h1 r2
 obtain ⟨a,Sq,kids,w1,w2,tk,hq,rfl,q,o2,lf1,hkl,hx⟩:=hI
 obtain ⟨p,rfl⟩:=run_pos q
 simp only[run,Z]at q
 have r3:=o2.own.blk
 by_cases hgo:Sq.fc=0 ∧ isL T [125] Sq=false
 have hfd:=decide_eq_true hgo.1
 have hil0:=hgo.2
 rw [if_pos hgo]at q
 clear hgo
 refine awp_eqs (s' := [_,_,_,_,x 4,_,_,_,_,_,x 10,x 11,x 12,x 13,x 14,x 15,x 16,x 17,x 18,x 19,x 20,x 21,_,_,_,_,_,_]) rfl ?_
 (focus repeat' first|refine ga ?_|(refine gb ?_;try simp[gz, *])|refine gk fun _ _=>?_)
 refine o2.ok ?_
 simp [gz, *]
 (focus repeat' first|refine ga ?_|(refine gb ?_;try simp[gz, *])|refine gk fun _ _=>?_)
 refine o2.is [125] ?_
 simp [gz, *]
 (focus repeat' first|refine ga ?_|(refine gb ?_;try simp[gz, *])|refine gk fun _ _=>?_)
 clear hfd hil0
 obtain ⟨l2,S3,h2,q⟩:=bo2 q
 refine o2.call (ih _ _ (by omega)) h2 fun k2 u1 u2 v1 e2 o3 r4=>?_
 try simp only[e2,Z]at q
 clear o2 r3 h2
 simp [gz, *]
 (focus repeat' first|refine ga ?_|(refine gb ?_;try simp[gz, *])|refine gk fun _ _=>?_)
 refine .inl ⟨o3.tin lf1,fun ab1 ak1 ae1 hb=>?_⟩
 obtain ⟨o5,lf2⟩:=o3.grow lf1 (k:=ak1) (e:=ae1) hb
 generalize (tk.rid k2).set ab1 (.spare ak1 ae1)=k3 at o5 ⊢
 clear hb o3 r4
 have r5:=o5.own.blk
 simp [gz, *]
 (focus repeat' first|refine ga ?_|(refine gb ?_;try simp[gz, *])|refine gk fun _ _=>?_)
 exact ⟨by kernel_rfl,rfl,p,_,by omega,Sub.refl _,p,_,kids ++ [v1],u1,u2,(Tok.own ab1 ak1 ae1),by omega,rfl,q,Cur.wk o5,lf2,by simp;omega,by first|rfl|simp⟩
 rw [if_neg hgo]at q
 obtain ⟨rfl,rfl⟩:=fi q
 clear q
 have q:=qo1
 simp only[Z]at q
 cases hfd:decide (Sq.fc=0)
 clear hgo
 refine awp_eqs (s' := [_,_,_,_,x 4,_,_,_,_,_,x 10,x 11,x 12,x 13,x 14,x 15,x 16,x 17,x 18,x 19,x 20,x 21,_,_,_,_,_,_]) rfl ?_
 (focus repeat' first|refine ga ?_|(refine gb ?_;try simp[gz, *])|refine gk fun _ _=>?_)
 refine o2.ok ?_
 simp [gz, *]
 (focus repeat' first|refine ga ?_|(refine gb ?_;try simp[gz, *])|refine gk fun _ _=>?_)
 refine o2.must [125] fun k4 S4 e3 o6 r6=>?_
 try simp only[e3,Z]at q
 clear o2 r3 e3
 simp [gz, *]
 (focus repeat' first|refine ga ?_|(refine gb ?_;try simp[gz, *])|refine gk fun _ _=>?_)
 refine o6.add 26 a.pos [] 0 kids (fun k5 u3 u4 v2 S5 e4 o7 r7=>?_) (hl:=(by omega))
 try simp only[e4,Z]at q
 clear o6 r6 e4
 obtain ⟨rfl,rfl⟩:=fi q
 simp [gz, *]
 (focus repeat' first|refine ga ?_|(refine gb ?_;try simp[gz, *])|refine gk fun _ _=>?_)
 exact hR.out _ _ _ o7.fin
 have hil0:isL T [125] Sq=true:=by
  cases e:isL T [125] Sq
  · exact absurd ⟨of_decide_eq_true hfd,e⟩ hgo
  · rfl
 clear hgo
 refine awp_eqs (s' := [_,_,_,_,x 4,_,_,_,_,_,x 10,x 11,x 12,x 13,x 14,x 15,x 16,x 17,x 18,x 19,x 20,x 21,_,_,_,_,_,_]) rfl ?_
 (focus repeat' first|refine ga ?_|(refine gb ?_;try simp[gz, *])|refine gk fun _ _=>?_)
 refine o2.ok ?_
 simp [gz, *]
 (focus repeat' first|refine ga ?_|(refine gb ?_;try simp[gz, *])|refine gk fun _ _=>?_)
 refine o2.is [125] ?_
 simp [gz, *]
 (focus repeat' first|refine ga ?_|(refine gb ?_;try simp[gz, *])|refine gk fun _ _=>?_)
 refine o2.must [125] fun k6 S6 e5 o8 r8=>?_
 try simp only[e5,Z]at q
 clear o2 r3 e5
 simp [gz, *]
 (focus repeat' first|refine ga ?_|(refine gb ?_;try simp[gz, *])|refine gk fun _ _=>?_)
 refine o8.add 26 a.pos [] 0 kids (fun k7 u5 u6 v3 S7 e6 o9 r9=>?_) (hl:=(by omega))
 try simp only[e6,Z]at q
 clear o8 r8 e6
 obtain ⟨rfl,rfl⟩:=fi q
 simp [gz, *]
 (focus repeat' first|refine ga ?_|(refine gb ?_;try simp[gz, *])|refine gk fun _ _=>?_)
 exact hR.out _ _ _ o9.fin
end Go.Proofs.YtcbgpjlcfkkdlaaGreatDoor

namespace Go.Proofs.YtcbgpjlcfkkdlaaGreatDoor
open Go Go.AL Go.Proofs
theorem expr_w (T : List Tk) (tt : Tok) (n : Nat) (ih : ∀ m op, m ≤ n → Meth T tt m op) : Meth T tt (n + 1) .expr := by
 refine Meth.of fun S l S' q r t1 t2 B h o R hR=>?_
 simp only[run,Z]at q
 refine acalls_ofD Tryz.func49 rfl Tryz.ntmps49 (congrArg Array.toList Tryz.results49) fun Q hQ => ?_
 have r1:=o.own.blk
 (focus repeat' first|refine ga ?_|(refine gb ?_;try simp[gz, *])|refine gk fun _ _=>?_)
 refine o.down fun k1 S1 e1 o1 r2=>?_
 try simp only[e1,Z]at q
 clear o r1 e1
 simp [gz, *]
 (focus repeat' first|refine ga ?_|(refine gb ?_;try simp[gz, *])|refine gk fun _ _=>?_)
 cases d1:decide (S1.fc = 0)
 try simp only[ef d1,d1,Z]at q
 refine o1.ok ?_
 obtain ⟨rfl,rfl⟩:=fi q
 simp [gz, *]
 (focus repeat' first|refine ga ?_|(refine gb ?_;try simp[gz, *])|refine gk fun _ _=>?_)
 refine o1.upd fun k2 o2=>?_
 exact hR.out _ _ _ o2.fin
 try simp only[et d1,d1,Z]at q
 refine o1.ok ?_
 obtain ⟨a,ht_a⟩:∃ x,Sh (peekL T S1=x):=⟨_,⟨rfl⟩⟩
 try simp only[ht_a.out,Z]at q
 simp [gz, *]
 (focus repeat' first|refine ga ?_|(refine gb ?_;try simp[gz, *])|refine gk fun _ _=>?_)
 refine o1.peek ht_a ?_
 simp [gz, *]
 (focus repeat' first|refine ga ?_|(refine gb ?_;try simp[gz, *])|refine gk fun _ _=>?_)
 obtain ⟨l1,S2,h1,q⟩:=bo2 q
 refine o1.call (ih _ _ (by omega)) h1 fun k3 u1 u2 v1 e2 o3 r3=>?_
 try simp only[e2,Z]at q
 clear o1 r2 h1
 obtain ⟨t,ht_t⟩:∃ x,Sh (peekL T S2=x):=⟨_,⟨rfl⟩⟩
 try simp only[ht_t.out,Z]at q
 simp [gz, *]
 (focus repeat' first|refine ga ?_|(refine gb ?_;try simp[gz, *])|refine gk fun _ _=>?_)
 refine o3.peek ht_t ?_
 simp [gz, *]
 intro b5 zb5
 obtain ⟨n_r_b5,n_b5_r⟩:=o3.ne zb5
 have yb5:=o3.y zb5
 have o4:=o3.new zb5 (.cells (tkRow t))
 clear o3 zb5
 try simp [gz, *]
 cases d2:decide (t.kind = 5)
 try simp only[ef d2,d2,Z]at q
 obtain ⟨rfl,rfl⟩:=fi q
 subst e2
 (focus repeat' first|refine ga ?_|(refine gb ?_;try simp[gz, *])|refine gk fun _ _=>?_)
 refine o4.upd fun k4 o5=>?_
 exact hR.out _ _ _ o5.fin
 try simp only[et d2,d2,Z]at q
 cases hta:isAssign t.text
 try simp only[hta,Z]at q
 (focus repeat' first|refine ga ?_|(refine gb ?_;try simp[gz, *])|refine gk fun _ _=>?_)
 refine o4.settle fun k5 o6 r4=>?_
 have p1:=o6.b1
 clear o4 r3
 refine Assign_c t.text _ o6.i0 _ ?_
 rw [isAssign_eq,hta]
 obtain ⟨rfl,rfl⟩:=fi q
 subst e2
 simp [gz, *]
 (focus repeat' first|refine ga ?_|(refine gb ?_;try simp[gz, *])|refine gk fun _ _=>?_)
 refine o6.upd fun k6 o7=>?_
 exact hR.out _ _ _ o7.fin
 try simp only[hta,Z]at q
 (focus repeat' first|refine ga ?_|(refine gb ?_;try simp[gz, *])|refine gk fun _ _=>?_)
 refine o4.settle fun k7 o8 r5=>?_
 have p2:=o8.b1
 clear o4 r3
 refine Assign_c t.text _ o8.i0 _ ?_
 rw [isAssign_eq,hta]
 simp [gz, *]
 (focus repeat' first|refine ga ?_|(refine gb ?_;try simp[gz, *])|refine gk fun _ _=>?_)
 cases d3:isTarget (kindL S2 v1)
 try simp only[d3,Z]at q
 refine o8.kind v1 ?_
 simp [gz, *]
 (focus repeat' first|refine ga ?_|(refine gb ?_;try simp[gz, *])|refine gk fun _ _=>?_)
 refine target_k d3 ?_
 simp [gz, *]
 (focus repeat' first|refine ga ?_|(refine gb ?_;try simp[gz, *])|refine gk fun _ _=>?_)
 refine o8.wrong 30 fun k8 S3 e3 o9 r6=>?_
 try simp only[e3,Z]at q
 have p3:=o9.b1
 clear o8 r5 p2 e3
 obtain ⟨rfl,rfl⟩:=fi q
 subst e2
 simp [gz, *]
 (focus repeat' first|refine ga ?_|(refine gb ?_;try simp[gz, *])|refine gk fun _ _=>?_)
 refine o9.upd fun k9 o10=>?_
 exact hR.out _ _ _ o10.fin
 try simp only[d3,Z]at q
 refine o8.kind v1 ?_
 simp [gz, *]
 (focus repeat' first|refine ga ?_|(refine gb ?_;try simp[gz, *])|refine gk fun _ _=>?_)
 refine target_k d3 ?_
 have w1:=o8.good.rd.w1
 simp [gz, *]
 (focus repeat' first|refine ga ?_|(refine gb ?_;try simp[gz, *])|refine gk fun _ _=>?_)
 have o11:=o8.stepped (kk ht_t d2)
 clear o8
 refine o11.settleA fun k10 o12 r7=>?_
 have p4:=o12.b1
 clear o11 r5 p2 w1
 have o13:=(o12.minus yb5)
 refine awp_region_draw [b5] [(0,true),(1,true),(2,true),(3,true),(4,true),(5,true),(6,false),(7,false),(8,false)] [9] follows (by kernel_rfl) rfl (by kernel_rfl) ?_; simp [gz, *]
 clear o12
 (focus repeat' first|refine ga ?_|(refine gb ?_;try simp[gz, *])|refine gk fun _ _=>?_)
 obtain ⟨l2,S4,h2,q⟩:=bo2 q
 refine o13.call (ih _ _ (by omega)) h2 fun k11 u3 u4 v2 e4 o14 r8=>?_
 try simp only[e4,Z]at q
 clear o13 h2 e2
 simp [gz, *]
 intro hn1
 rw [show (k11.plus [b5] k10).minus [b5]=k11 from minus_of_none (by simp[hn1])]
 clear hn1
 refine o14.add 12 a.pos t.text 0 [v1, v2] (fun k12 u5 u6 v3 S5 e5 o15 r9=>?_)
 try simp only[e5,Z]at q
 clear o14 r8 e5 e4
 simp [gz, *]
 intro hn2
 rw [show k12.plus [b5] (k11.plus [b5] k10)=_ from plus_one (x:=.cells (tkRow t)) (by simp[*])]
 have o16:=o15.new hn2 (.cells (tkRow t))
 clear o15 r7 p4
 obtain ⟨rfl,rfl⟩:=fi q
 (focus repeat' first|refine ga ?_|(refine gb ?_;try simp[gz, *])|refine gk fun _ _=>?_)
 refine o16.upd fun k13 o17=>?_
 exact hR.out _ _ _ o17.fin
end Go.Proofs.YtcbgpjlcfkkdlaaGreatDoor

namespace Go.Proofs.YtcbgpjlcfkkdlaaGreatDoor
open Go Go.AL Go.Proofs
theorem body_w (T : List Tk) (tt : Tok) (n : Nat) (ih : ∀ m op, m ≤ n → Meth T tt m op) : Meth T tt (n + 1) .body := by
 refine Meth.of fun S l S' q r t1 t2 B h o R hR=>?_
 simp only[run,Z]at q
 refine acalls_of Tryz.func116 rfl Tryz.ntmps116 (congrArg Array.toList Tryz.results116) fun Q hQ => ?_
 have r1:=o.own.blk
 (focus repeat' first|refine ga ?_|(refine gb ?_;try simp[gz, *])|refine gk fun _ _=>?_)
 cases c1:isL T [123] S
 try simp only[c1,Z]at q
 refine o.is [123] ?_
 obtain ⟨a,ht_a⟩:∃ x,Sh (peekL T S=x):=⟨_,⟨rfl⟩⟩
 try simp only[ht_a.out,Z]at q
 simp [gz, *]
 (focus repeat' first|refine ga ?_|(refine gb ?_;try simp[gz, *])|refine gk fun _ _=>?_)
 refine o.peek ht_a ?_
 simp [gz, *]
 (focus repeat' first|refine ga ?_|(refine gb ?_;try simp[gz, *])|refine gk fun _ _=>?_)
 obtain ⟨l1,S1,h1,q⟩:=bo2 q
 refine o.call (ih _ _ (by omega)) h1 fun k1 u1 u2 v1 e1 o1 r2=>?_
 try simp only[e1,Z]at q
 clear o r1 h1
 simp [gz, *]
 (focus repeat' first|refine ga ?_|(refine gb ?_;try simp[gz, *])|refine gk fun _ _=>?_)
 refine o1.add 26 a.pos [] 0 [v1] (fun k2 u3 u4 v2 S2 e2 o2 r3=>?_)
 try simp only[e2,Z]at q
 clear o1 r2 e2 e1
 obtain ⟨rfl,rfl⟩:=fi q
 simp [gz, *]
 (focus repeat' first|refine ga ?_|(refine gb ?_;try simp[gz, *])|refine gk fun _ _=>?_)
 exact hR.out _ _ _ o2.fin
 try simp only[c1,Z]at q
 refine o.is [123] ?_
 simp [gz, *]
 (focus repeat' first|refine ga ?_|(refine gb ?_;try simp[gz, *])|refine gk fun _ _=>?_)
 refine o.tail (ih _ _ (by omega)) q fun k3 u5 u6 o3 r4=>?_
 clear o r1
 simp [gz, *]
 (focus repeat' first|refine ga ?_|(refine gb ?_;try simp[gz, *])|refine gk fun _ _=>?_)
 exact hR.out _ _ _ o3.fin
end Go.Proofs.YtcbgpjlcfkkdlaaGreatDoor

