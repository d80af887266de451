import Derived.Test.YtcbgpjlcfkkdlaaGreatDoorUAX
import Derived.Test.YtcbgpjlcfkkdlaaGreatDoorUBA
import Derived.Test.YtcbgpjlcfkkdlaaGreatDoorUBB
import Derived.Test.YtcbgpjlcfkkdlaaGreatDoorUBC
import Derived.Test.YtcbgpjlcfkkdlaaGreatDoorUBD
import Derived.Test.YtcbgpjlcfkkdlaaGreatDoorUBE
import Derived.Test.YtcbgpjlcfkkdlaaGreatDoorUBF
import Derived.Test.YtcbgpjlcfkkdlaaGreatDoorUAW
import Derived.Test.YtcbgpjlcfkkdlaaGreatDoorUAR
set_option linter.unusedSimpArgs false
set_option linter.unusedVariables false
set_option maxRecDepth 100000
set_option maxHeartbeats 16000000
namespace Go.Proofs.YtcbgpjlcfkkdlaaGreatDoor
open Go Go.AL Go.Proofs
theorem function_w (T : List Tk) (tt : Tok) (n : Nat) (ih : ∀ m op, m ≤ n → Meth T tt m op) : Meth T tt (n + 1) .function := by
 refine Meth.of fun S l S' q r t1 t2 B h o R hR=>?_
 simp only[run,Z]at q
 obtain ⟨a,ht_a⟩:∃ x,Sh (peekL T S=x):=⟨_,⟨rfl⟩⟩
 try simp only[ht_a.out,Z]at q
 refine acalls_of Tryz.func120 rfl Tryz.ntmps120 (congrArg Array.toList Tryz.results120) fun Q hQ => ?_
 have r1:=o.own.blk
 (focus repeat' first|refine ga ?_|(refine gb ?_;try simp[gz, *])|refine gk fun _ _=>?_)
 refine o.peek ht_a ?_
 simp [gz, *]
 (focus repeat' first|refine ga ?_|(refine gb ?_;try simp[gz, *])|refine gk fun _ _=>?_)
 refine o.must [102, 117, 110, 99, 116, 105, 111, 110] fun k1 S1 e1 o1 r2=>?_
 try simp only[e1,Z]at q
 clear o r1 e1
 obtain ⟨u,ht_u⟩:∃ x,Sh (peekL T S1=x):=⟨_,⟨rfl⟩⟩
 try simp only[ht_u.out,Z]at q
 simp [gz, *]
 (focus repeat' first|refine ga ?_|(refine gb ?_;try simp[gz, *])|refine gk fun _ _=>?_)
 refine o1.peek ht_u ?_
 cases d1:decide (u.kind = 1)
 try simp only[ef d1,d1,Z]at q
 simp [gz, *]
 (focus repeat' first|refine ga ?_|(refine gb ?_;try simp[gz, *])|refine gk fun _ _=>?_)
 refine o1.tail (ih _ _ (by omega)) q fun k2 u1 u2 o2 r3=>?_
 clear o1 r2
 simp [gz, *]
 (focus repeat' first|refine ga ?_|(refine gb ?_;try simp[gz, *])|refine gk fun _ _=>?_)
 exact hR.out _ _ _ o2.fin
 try simp only[et d1,d1,Z]at q
 simp [gz, *]
 (focus repeat' first|refine ga ?_|(refine gb ?_;try simp[gz, *])|refine gk fun _ _=>?_)
 refine o1.name fun k3 x1 S2 e2 o3 r4=>?_
 try simp only[e2,Z]at q
 clear o1 r2 e2
 simp [gz, *]
 (focus repeat' first|refine ga ?_|(refine gb ?_;try simp[gz, *])|refine gk fun _ _=>?_)
 refine o3.tail (ih _ _ (by omega)) q fun k4 u3 u4 o4 r5=>?_
 clear o3 r4
 simp [gz, *]
 (focus repeat' first|refine ga ?_|(refine gb ?_;try simp[gz, *])|refine gk fun _ _=>?_)
 exact hR.out _ _ _ o4.fin
end Go.Proofs.YtcbgpjlcfkkdlaaGreatDoor

namespace Go.Proofs.YtcbgpjlcfkkdlaaGreatDoor
open Go Go.AL Go.Proofs
theorem some_w (T : List Tk) (tt : Tok) (n : Nat) (hn : n ≤ 1000000) (stop : List UInt8) (ih : ∀ m op, m ≤ n → Meth T tt m op) : Meth T tt (n + 1) (.some stop) := by
 refine Meth.some fun S l S' q r t1 t2 B h o R hR=>?_
 simp only[run,Z]at q
 refine acalls_of Tryz.func156 rfl Tryz.ntmps156 (congrArg Array.toList Tryz.results156) fun Q hQ => ?_
 have r1:=o.own.blk
 (focus repeat' first|refine ga ?_|(refine gb ?_;try simp[gz, *])|refine gk fun _ _=>?_)
 obtain ⟨l1,S1,h1,qo1⟩:=bo2 q
 clear q
 refine awp_loop_h [5,6,7,8,9,10,11,12,13,14,15,16,17,18,19,20,21,22,23,24,25,26] (fun m x g=>∃ (a:Nat) (Sq:St) (kids:List Int) (w1 w2 tk:Tok),a ≤ n ∧ m=a ∧ Sh (run T a (.someLoop stop kids) Sq=some (l1,S1)) ∧ Cur B (Heap.bk B tk) g T tt S Sq r w1 w2 (kids) ∧ Lf B B tk ∧ kids.length+2*a ≤ 2*n+0 ∧ x 5=.list 1 (ints kids) tk) n
  ⟨n,_,[],t1,t2,.nil,by omega,rfl,h1,Cur.wk o,o.lf,by first|(simp;done)|(simp;omega),rfl⟩ fun m x g hI K hK=>?_
 clear o h1 r1
 obtain ⟨a,Sq,kids,w1,w2,tk,hq,rfl,q,o1,lf1,hkl,hx⟩:=hI
 obtain ⟨p,rfl⟩:=run_pos q
 simp only[run,Z]at q
 have r2:=o1.own.blk
 by_cases hgo:Sq.fc=0 ∧ isL T stop Sq=false
 have hfd:=decide_eq_true hgo.1
 have hil0:=hgo.2
 rw [if_pos hgo]at q
 clear hgo
 refine awp_eqs (s' := [_,_,_,_,_,x 5,x 6,x 7,x 8,x 9,x 10,x 11,x 12,x 13,x 14,x 15,x 16,x 17,x 18,x 19,x 20,x 21,x 22,x 23,x 24,x 25,x 26,_,_,_,_]) rfl ?_
 (focus repeat' first|refine ga ?_|(refine gb ?_;try simp[gz, *])|refine gk fun _ _=>?_)
 refine o1.ok ?_
 simp [gz, *]
 (focus repeat' first|refine ga ?_|(refine gb ?_;try simp[gz, *])|refine gk fun _ _=>?_)
 refine o1.is stop ?_
 simp [gz, *]
 (focus repeat' first|refine ga ?_|(refine gb ?_;try simp[gz, *])|refine gk fun _ _=>?_)
 clear hfd hil0
 obtain ⟨l2,S2,h2,q⟩:=bo2 q
 refine o1.call (ih _ _ (by omega)) h2 fun k1 u1 u2 v1 e1 o2 r3=>?_
 try simp only[e1,Z]at q
 clear o1 r2 h2
 simp [gz, *]
 (focus repeat' first|refine ga ?_|(refine gb ?_;try simp[gz, *])|refine gk fun _ _=>?_)
 refine .inl ⟨o2.tin lf1,fun ab1 ak1 ae1 hb=>?_⟩
 obtain ⟨o4,lf2⟩:=o2.grow lf1 (k:=ak1) (e:=ae1) hb
 generalize (tk.rid k1).set ab1 (.spare ak1 ae1)=k2 at o4 ⊢
 clear hb o2 r3
 have r4:=o4.own.blk
 simp [gz, *]
 (focus repeat' first|refine ga ?_|(refine gb ?_;try simp[gz, *])|refine gk fun _ _=>?_)
 refine o4.eat [44] (fun c1 k3 o5 r5=>?_) fun c1 k3 S3 e2 z1 o5 r5=>?_
 try simp only[c1,Z]at q
 clear o4 r4 c1
 obtain ⟨rfl,rfl⟩:=fi q
 clear q
 have q:=qo1
 simp only[Z]at q
 simp [gz, *]
 (focus repeat' first|refine ga ?_|(refine gb ?_;try simp[gz, *])|refine gk fun _ _=>?_)
 refine o5.must stop fun k4 S4 e3 o6 r6=>?_
 try simp only[e3,Z]at q
 clear o5 r5 e3
 obtain ⟨rfl,rfl⟩:=fi q
 subst e1
 simp [gz, *]
 (focus repeat' first|refine ga ?_|(refine gb ?_;try simp[gz, *])|refine gk fun _ _=>?_)
 have hz:=hR.out _ _ _ (Tok.own ab1 ak1 ae1) o6.fin
 first|exact hz|simpa [ints] using hz
 try simp only[c1,e2,Z]at q
 clear o4 r4 e2 c1
 simp [gz, *]
 (focus repeat' first|refine ga ?_|(refine gb ?_;try simp[gz, *])|refine gk fun _ _=>?_)
 cases c2:isL T stop S3
 try simp only[c2,Z]at q
 refine o5.is stop ?_
 simp [gz, *]
 (focus repeat' first|refine ga ?_|(refine gb ?_;try simp[gz, *])|refine gk fun _ _=>?_)
 exact ⟨by kernel_rfl,rfl,p,_,by omega,Sub.refl _,p,_,kids ++ [v1],u1,u2,(Tok.own ab1 ak1 ae1),by omega,rfl,q,Cur.wk o5,lf2,by simp;omega,by first|rfl|simp⟩
 try simp only[c2,Z]at q
 refine o5.is stop ?_
 simp [gz, *]
 (focus repeat' first|refine ga ?_|(refine gb ?_;try simp[gz, *])|refine gk fun _ _=>?_)
 refine o5.wrong 5 fun k5 S5 e4 o7 r7=>?_
 try simp only[e4,Z]at q
 clear o5 r5 e4
 simp [gz, *]
 (focus repeat' first|refine ga ?_|(refine gb ?_;try simp[gz, *])|refine gk fun _ _=>?_)
 exact ⟨by kernel_rfl,rfl,p,_,by omega,Sub.refl _,p,_,kids ++ [v1],u1,u2,(Tok.own ab1 ak1 ae1),by omega,rfl,q,Cur.wk o7,lf2,by simp;omega,by first|rfl|simp⟩
 rw [if_neg hgo]at q
 obtain ⟨rfl,rfl⟩:=fi q
 clear q
 have q:=qo1
 simp only[Z]at q
 cases hfd:decide (Sq.fc=0)
 clear hgo
 refine awp_eqs (s' := [_,_,_,_,_,x 5,x 6,x 7,x 8,x 9,x 10,x 11,x 12,x 13,x 14,x 15,x 16,x 17,x 18,x 19,x 20,x 21,x 22,x 23,x 24,x 25,x 26,_,_,_,_]) rfl ?_
 (focus repeat' first|refine ga ?_|(refine gb ?_;try simp[gz, *])|refine gk fun _ _=>?_)
 refine o1.ok ?_
 simp [gz, *]
 (focus repeat' first|refine ga ?_|(refine gb ?_;try simp[gz, *])|refine gk fun _ _=>?_)
 refine o1.must stop fun k6 S6 e5 o8 r8=>?_
 try simp only[e5,Z]at q
 clear o1 r2 e5
 obtain ⟨rfl,rfl⟩:=fi q
 simp [gz, *]
 (focus repeat' first|refine ga ?_|(refine gb ?_;try simp[gz, *])|refine gk fun _ _=>?_)
 have hz:=hR.out _ _ _ tk o8.fin
 first|exact hz|simpa [ints] using hz
 have hil0:isL T stop Sq=true:=by
  cases e:isL T stop Sq
  · exact absurd ⟨of_decide_eq_true hfd,e⟩ hgo
  · rfl
 clear hgo
 refine awp_eqs (s' := [_,_,_,_,_,x 5,x 6,x 7,x 8,x 9,x 10,x 11,x 12,x 13,x 14,x 15,x 16,x 17,x 18,x 19,x 20,x 21,x 22,x 23,x 24,x 25,x 26,_,_,_,_]) rfl ?_
 (focus repeat' first|refine ga ?_|(refine gb ?_;try simp[gz, *])|refine gk fun _ _=>?_)
 refine o1.ok ?_
 simp [gz, *]
 (focus repeat' first|refine ga ?_|(refine gb ?_;try simp[gz, *])|refine gk fun _ _=>?_)
 refine o1.is stop ?_
 simp [gz, *]
 (focus repeat' first|refine ga ?_|(refine gb ?_;try simp[gz, *])|refine gk fun _ _=>?_)
 refine o1.must stop fun k7 S7 e6 o9 r9=>?_
 try simp only[e6,Z]at q
 clear o1 r2 e6
 obtain ⟨rfl,rfl⟩:=fi q
 simp [gz, *]
 (focus repeat' first|refine ga ?_|(refine gb ?_;try simp[gz, *])|refine gk fun _ _=>?_)
 have hz:=hR.out _ _ _ tk o9.fin
 first|exact hz|simpa [ints] using hz
end Go.Proofs.YtcbgpjlcfkkdlaaGreatDoor

namespace Go.Proofs.YtcbgpjlcfkkdlaaGreatDoor
open Go Go.AL Go.Proofs
theorem cond_w (T : List Tk) (tt : Tok) (n : Nat) (at_ : Int) (ih : ∀ m op, m ≤ n → Meth T tt m op) : Meth T tt (n + 1) (.cond at_) := by
 refine Meth.of fun S l S' q r t1 t2 B h o R hR=>?_
 simp only[run,Z]at q
 refine acalls_ofD Tryz.func87 rfl Tryz.ntmps87 (congrArg Array.toList Tryz.results87) fun Q hQ => ?_
 have r1:=o.own.blk
 (focus repeat' first|refine ga ?_|(refine gb ?_;try simp[gz, *])|refine gk fun _ _=>?_)
 obtain ⟨l1,S1,h1,q⟩:=bo2 q
 refine o.call (ih _ _ (by omega)) h1 fun k1 u1 u2 v1 e1 o1 r2=>?_
 try simp only[e1,Z]at q
 clear o r1 h1
 simp [gz, *]
 (focus repeat' first|refine ga ?_|(refine gb ?_;try simp[gz, *])|refine gk fun _ _=>?_)
 refine o1.eat [63] (fun c1 k2 o2 r3=>?_) fun c1 k2 S2 e2 z1 o2 r3=>?_
 try simp only[c1,Z]at q
 clear o1 r2 c1
 obtain ⟨rfl,rfl⟩:=fi q
 subst e1
 simp [gz, *]
 (focus repeat' first|refine ga ?_|(refine gb ?_;try simp[gz, *])|refine gk fun _ _=>?_)
 exact hR.out _ _ _ o2.fin
 try simp only[c1,e2,Z]at q
 clear o1 r2 e2 c1
 simp [gz, *]
 (focus repeat' first|refine ga ?_|(refine gb ?_;try simp[gz, *])|refine gk fun _ _=>?_)
 obtain ⟨l2,S3,h2,q⟩:=bo2 q
 refine o2.call (ih _ _ (by omega)) h2 fun k3 u3 u4 v2 e3 o3 r4=>?_
 try simp only[e3,Z]at q
 clear o2 r3 h2 e1
 simp [gz, *]
 (focus repeat' first|refine ga ?_|(refine gb ?_;try simp[gz, *])|refine gk fun _ _=>?_)
 refine o3.must [58] fun k4 S4 e4 o4 r5=>?_
 try simp only[e4,Z]at q
 clear o3 r4 e4
 simp [gz, *]
 (focus repeat' first|refine ga ?_|(refine gb ?_;try simp[gz, *])|refine gk fun _ _=>?_)
 refine o4.down fun k5 S5 e5 o5 r6=>?_
 try simp only[e5,Z]at q
 clear o4 r5 e5
 obtain ⟨u,ht_u⟩:∃ x,Sh (peekL T S5=x):=⟨_,⟨rfl⟩⟩
 try simp only[ht_u.out,Z]at q
 simp [gz, *]
 (focus repeat' first|refine ga ?_|(refine gb ?_;try simp[gz, *])|refine gk fun _ _=>?_)
 refine o5.peek ht_u ?_
 simp [gz, *]
 (focus repeat' first|refine ga ?_|(refine gb ?_;try simp[gz, *])|refine gk fun _ _=>?_)
 obtain ⟨l3,S6,h3,q⟩:=bo2 q
 refine o5.call (ih _ _ (by omega)) h3 fun k6 u5 u6 v3 e6 o6 r7=>?_
 try simp only[e6,Z]at q
 clear o5 r6 h3 e3
 simp [gz, *]
 (focus repeat' first|refine ga ?_|(refine gb ?_;try simp[gz, *])|refine gk fun _ _=>?_)
 refine o6.add 11 at_ [] 0 [v1, v2, v3] (fun k7 u7 u8 v4 S7 e7 o7 r8=>?_)
 try simp only[e7,Z]at q
 clear o6 r7 e7 e6
 obtain ⟨rfl,rfl⟩:=fi q
 simp [gz, *]
 (focus repeat' first|refine ga ?_|(refine gb ?_;try simp[gz, *])|refine gk fun _ _=>?_)
 refine o7.upd fun k8 o8=>?_
 exact hR.out _ _ _ o8.fin
end Go.Proofs.YtcbgpjlcfkkdlaaGreatDoor

namespace Go.Proofs.YtcbgpjlcfkkdlaaGreatDoor
open Go Go.AL Go.Proofs
theorem named_w (T : List Tk) (tt : Tok) (n : Nat) (t : Tk) (ih : ∀ m op, m ≤ n → Meth T tt m op) : Meth T tt (n + 1) (.named t) := by
 refine Meth.of fun S l S' q r t1 t2 B h o R hR=>?_
 simp only[run,Z]at q
 by_cases h6:S.fc=0 ∧ S.idx+1 < T.length
 try simp only[if_pos h6,Z]at q
 have hlt:=h6.2
 have hTl:=o.good.rd.len
 obtain ⟨nt,hnt⟩:∃ x,T[S.idx+1]?=some x:=⟨_,List.getElem?_eq_getElem hlt⟩
 have hnt2:=(List.getElem?_eq_some_iff.1 hnt).2
 have hnt3:T.getD (S.idx+1) default=nt:=by simp [List.getD,hnt]
 have w1:IntKind.i64.wrap ((S.idx:Int)+1)=((S.idx+1:Nat):Int):=by rw [w64 (by omega) (by omega)]; omega
 try simp only[hnt3,Z]at q
 refine acalls_of Tryz.func82 rfl Tryz.ntmps82 (congrArg Array.toList Tryz.results82) fun Q hQ => ?_
 have r1:=o.own.blk
 (focus repeat' first|refine ga ?_|(refine gb ?_;try simp[gz, *])|refine gk fun _ _=>?_)
 intro b3 zb3
 obtain ⟨n_r_b3,n_b3_r⟩:=o.ne zb3
 have yb3:=o.y zb3
 have o1:=o.new zb3 (.cells (tkRow t))
 clear o zb3
 try simp [gz, *]
 (focus repeat' first|refine ga ?_|(refine gb ?_;try simp[gz, *])|refine gk fun _ _=>?_)
 refine o1.settleA fun k1 o2 r2=>?_
 have p1:=o2.b1
 clear o1 r1
 refine awp_region_quiet follows (by kernel_rfl) ?_; simp [gz, *]
 (focus repeat' first|refine ga ?_|(refine gb ?_;try simp[gz, *])|refine gk fun _ _=>?_)
 refine o2.add 7 t.pos [] 0 [] (fun k2 u1 u2 v1 S1 e1 o3 r3=>?_)
 try simp only[e1,Z]at q
 have p2:=o3.b1
 clear o2 r2 p1 e1
 simp [gz, *]
 (focus repeat' first|refine ga ?_|(refine gb ?_;try simp[gz, *])|refine gk fun _ _=>?_)
 refine o3.add 15 t.pos nt.text 0 [v1] (fun k3 u3 u4 v2 S2 e2 o4 r4=>?_)
 try simp only[e2,Z]at q
 have p3:=o4.b1
 clear o3 r3 p2 e2
 cases d1:decide (t.text = [102, 117, 110, 99, 116, 105, 111, 110])
 try simp only[ef d1,d1,Z]at q
 simp [gz, *]
 (focus repeat' first|refine ga ?_|(refine gb ?_;try simp[gz, *])|refine gk fun _ _=>?_)
 obtain ⟨l1,S3,h1,q⟩:=bo2 q
 refine o4.call (ih _ _ (by omega)) h1 fun k4 u5 u6 v3 e3 o5 r5=>?_
 try simp only[e3,Z]at q
 have p4:=o5.b1
 clear o4 r4 p3 h1
 simp [gz, *]
 (focus repeat' first|refine ga ?_|(refine gb ?_;try simp[gz, *])|refine gk fun _ _=>?_)
 refine o5.add 12 t.pos [60, 45] 0 [v2, v3] (fun k5 u7 u8 v4 S4 e4 o6 r6=>?_)
 try simp only[e4,Z]at q
 have p5:=o6.b1
 clear o5 r5 p4 e4 e3
 simp [gz, *]
 (focus repeat' first|refine ga ?_|(refine gb ?_;try simp[gz, *])|refine gk fun _ _=>?_)
 refine o6.add 28 t.pos [] 0 [v4] (fun k6 u9 u10 v5 S5 e5 o7 r7=>?_)
 try simp only[e5,Z]at q
 have p6:=o7.b1
 clear o6 r6 p5 e5
 obtain ⟨rfl,rfl⟩:=fi q
 simp [gz, *]
 (focus repeat' first|refine ga ?_|(refine gb ?_;try simp[gz, *])|refine gk fun _ _=>?_)
 exact hR.out _ _ _ o7.fin
 try simp only[et d1,d1,Z]at q
 simp [gz, *]
 (focus repeat' first|refine ga ?_|(refine gb ?_;try simp[gz, *])|refine gk fun _ _=>?_)
 obtain ⟨l2,S6,h2,q⟩:=bo2 q
 refine o4.call (ih _ _ (by omega)) h2 fun k7 u11 u12 v6 e6 o8 r8=>?_
 try simp only[e6,Z]at q
 have p7:=o8.b1
 clear o4 r4 p3 h2
 simp [gz, *]
 (focus repeat' first|refine ga ?_|(refine gb ?_;try simp[gz, *])|refine gk fun _ _=>?_)
 refine o8.add 12 t.pos [60, 45] 0 [v2, v6] (fun k8 u13 u14 v7 S7 e7 o9 r9=>?_)
 try simp only[e7,Z]at q
 have p8:=o9.b1
 clear o8 r8 p7 e7 e6
 simp [gz, *]
 (focus repeat' first|refine ga ?_|(refine gb ?_;try simp[gz, *])|refine gk fun _ _=>?_)
 refine o9.add 28 t.pos [] 0 [v7] (fun k9 u15 u16 v8 S8 e8 o10 r10=>?_)
 try simp only[e8,Z]at q
 have p9:=o10.b1
 clear o9 r9 p8 e8
 obtain ⟨rfl,rfl⟩:=fi q
 simp [gz, *]
 (focus repeat' first|refine ga ?_|(refine gb ?_;try simp[gz, *])|refine gk fun _ _=>?_)
 exact hR.out _ _ _ o10.fin
 rw [if_neg h6]at q
 cases q.out
end Go.Proofs.YtcbgpjlcfkkdlaaGreatDoor

namespace Go.Proofs.YtcbgpjlcfkkdlaaGreatDoor
open Go Go.AL Go.Proofs
theorem meth_all (T : List Tk) (tt : Tok) (hs : Short T) : ∀ n, n ≤ 1000000 → ∀ m op, m ≤ n → Meth T tt m op
 | 0, _ => fun m op hm => by
   obtain rfl : m = 0 := by omega
   intro f mk _ S l S' q
   have hr := q.out
   simp [run] at hr
 | n + 1, hn => fun m op hm => by
  have ih := meth_all T tt hs n (by omega)
  have hn' : n ≤ 1000000 := by omega
  by_cases e : m ≤ n
  ·exact ih m op e
  ·obtain rfl : m = n + 1 := by omega
   cases op with
   | stmt => exact stmt_w T tt n ih
   | word t => exact word_w T tt n t ih
   | named t => exact named_w T tt n t ih
   | locl a => exact local_w T tt n a ih
   | literal => exact literal_w T tt n ih
   | enum a => exact enum_w T tt n hn' a ih
   | block => exact block_w T tt n hn' ih
   | body => exact body_w T tt n ih
   | control t => exact control_w T tt n t ih
   | paren => exact paren_w T tt n ih
   | loop a => exact loop_w T tt n a ih
   | foreach a => exact foreach_w T tt n hs a ih
   | cases a => exact cases_w T tt n hn' a ih
   | expr => exact expr_w T tt n ih
   | cond a => exact cond_w T tt n a ih
   | binary v => exact binary_w T tt n v ih
   | unary => exact unary_w T tt n ih
   | postf => exact postfix_w T tt n hn' ih
   | some x => exact some_w T tt n hn' x ih
   | primary => exact primary_w T tt n hn' ih
   | member => exact member_w T tt n ih
   | table => exact table_w T tt n hn' ih
   | function => exact function_w T tt n ih
   | params a x => exact params_w T tt n hn' a x ih
   | clas => exact class_w T tt n hn' ih
   | _ => intro f mk hf; cases hf
end Go.Proofs.YtcbgpjlcfkkdlaaGreatDoor

namespace Go.Proofs.YtcbgpjlcfkkdlaaGreatDoor
open Go Go.AL Go.Proofs
abbrev S00 : St := ⟨0, 0, [], [], 0, 0⟩
def fuel0 : Nat := 200000
def parseT (s : List UInt8) : List Nd × Int × Int := match scanT s with
 | .inr f => ([], f.1, f.2)
 | .inl T => match run T fuel0 (.top []) S00 with
  | none => ([], 0, 0)
  | some (kids, S1) =>
   if (addL T 26 0 [] 0 kids S1).2.fc = 0 then
    (if (checkL (addL T 26 0 [] 0 kids S1).2.nodes).1 = 0 then ((addL T 26 0 [] 0 kids S1).2.nodes, 0, 0) else ([], (checkL (addL T 26 0 [] 0 kids S1).2.nodes).1, s.length))
   else ([], (addL T 26 0 [] 0 kids S1).2.fc, (addL T 26 0 [] 0 kids S1).2.fa)
def parseAV (z : List Nd × Int × Int) : AV := .tup [if z.2.1 = 0 then treeAV z.1 .no else .agg [.list 5 [] .nil], .agg [.int .i64 z.2.1, .int .i64 z.2.2]]
theorem add_nodes (T : List Tk) (kind pos : Int) (x : List UInt8) (n : Int) (kids : List Int) (S : St) : (addL T kind pos x n kids S).2.fc = 0 → ¬ (addL T kind pos x n kids S).2.nodes = [] := by
 unfold addL
 split
 ·split
  ·intro h
   rename_i hf _
   have : (wrongL T 2 S).fc = 2 := by unfold wrongL; rw [if_pos hf]
   rw [show (wrongL T 2 S).fc = 2 from this] at h
   exact absurd h (by decide)
  ·intro _
   simp only
   split
   ·show ¬ (wrongL T 6 _).nodes = []
    rw [(wrongL_deep T 6 _).2]
    simp
   ·simp
 ·rename_i hf
  intro h
  exact absurd h hf
theorem Parse_c (s : List UInt8) (hs : s.length ≤ 3300) (h : Heap) (h0 : h 0 = some .gint) (R : AV → Heap → Prop) (hR : R (parseAV (parseT s)) h) : ACalls Tryz.prog 9 [.str s] h R := by
 refine ACalls.pure ?_ hR
 clear hR
 obtain ⟨z, hz⟩ : ∃ z, parseT s = z := ⟨_, rfl⟩
 rw [hz]
 have hsc := scan_ok s (by omega) (s.length + 1) 0 false [] (by omega) (by omega) (by simp) (by simp)
 unfold parseT at hz
 obtain ⟨r, hr⟩ : ∃ r, scanT s = r := ⟨_, rfl⟩
 have hr2 : scanR s (s.length + 1) 0 false [] = r := hr
 rw [hr2] at hsc
 rw [hr] at hz
 clear hr2
 replace hsc := Shut.mk hsc
 replace hz := Shut.mk hz
 refine acalls_of Tryz.func9 rfl Tryz.ntmps9 (congrArg Array.toList Tryz.results9) fun Q hQ => ?_
 (focus repeat' first|refine ga ?_|(refine gb ?_;try simp[gz, *])|refine gk fun _ _=>?_)
 intro b2 hb2; simp only [Fresh, Heap.set_none] at hb2; try simp [gz, *]
 (focus repeat' first|refine ga ?_|(refine gb ?_;try simp[gz, *])|refine gk fun _ _=>?_)
 intro b3 hb3
 simp only [Fresh, Heap.set_none] at hb3
 obtain ⟨n3', n3, hb3⟩ := hb3
 try simp [Heap.set_get, *]
 (focus repeat' first|refine ga ?_|(refine gb ?_;try simp[gz, *])|refine gk fun _ _=>?_)
 refine Scan_c s (by omega) _ (gint_set (by rw [Heap.set_other _ _ _ _ n3]; exact hb3) (gint_set hb2 h0)) _ ?_
 rw [hr]
 clear hr
 cases r with
 | inr f =>
  replace hz := hz.out
  simp only at hz
  have hf := hsc.out.2 f rfl
  subst hz
  simp only [scanAV]
  simp [gz, *]
  (focus repeat' first|refine ga ?_|(refine gb ?_;try simp[gz, *])|refine gk fun _ _=>?_)
  intro b5 hb5
  simp only [Fresh, Heap.set_none] at hb5
  obtain ⟨n53', n53, n52', n52, hb5⟩ := hb5
  try simp [Heap.set_get, *]
  (focus repeat' first|refine ga ?_|(refine gb ?_;try simp[gz, *])|refine gk fun _ _=>?_)
  refine awp_region_stores [b5] [0] [(1,true),(2,false)] [3] follows (by kernel_rfl) rfl (by kernel_rfl) ?_; simp [Heap.set_get, Heap.plus_set, evc_nil, evc_cons, estep, *]
  (focus repeat' first|refine ga ?_|(refine gb ?_;try simp[gz, *])|refine gk fun _ _=>?_|refine gc ?_ ?_|exact gr _|refine gi fun _=>?_|(refine gn ?_ ?_;focus(intros;simp[*];done)))
  refine ⟨_, ⟨?_, _, rfl, ?_, _, rfl, rfl⟩, ?_, ?_⟩ <;> first | (simp [aresult, parseAV, Heap.set_get, *]; done) | ((repeat (first | exact Sub.refl _ | refine Sub.loc ?_ (by simp [*]) _)); done)
 | inl T =>
  obtain ⟨hT1, hT2, T0, te, hT3, hT4, hT5⟩ := hsc.out.1 T rfl
  have hG : Good T S00 := ⟨⟨fun _ => by rw [hT3]; simp, Nat.zero_le _, by omega, by rw [hT3]; simp, Nat.zero_le _, by rw [hT3]; simp [List.getD, hT4]⟩, rfl⟩
  have hTk : Toks T := ⟨fun t ht => (hT1 t ht).short, fun t ht => (hT1 t ht).num⟩
  have hnd : need T (.top []) S00 ≤ fuel0 := by
   unfold need
   rw [if_pos rfl]
   simp only [rank, fuel0]
   omega
  obtain ⟨kids0, S1, hrun, hzt, hkl0⟩ := term_all T hTk fuel0 (by decide) (.top []) S00 hG InK.nil trivial hnd
  have hkp := hzt.kp
  have hgo : Goes T S00 S1 ∧ InK S1 kids0 := ⟨⟨hzt.good, hzt.len⟩, hzt.ink⟩
  clear hzt
  have hFine : Fine T S1 := hkp.fine ⟨fun n hn => (by cases hn), fun q => absurd rfl q⟩
  have hkl1 : kids0.length ≤ 2 * fuel0 + 2 := by simpa [argK, loopK] using hkl0
  clear hT1 hT3 hT4 hT5 hnd hkl0 hkp hsc
  replace hz := hz.out
  simp only [hrun] at hz
  replace hz := Shut.mk hz
  replace hrun := Shut.mk hrun
  replace hFine := Shut.mk hFine
  replace hgo := Shut.mk hgo
  simp only [scanAV]
  simp [gz, *]
  (focus repeat' first|refine ga ?_|(refine gb ?_;try simp[gz, *])|refine gk fun _ _=>?_)
  intro b5 hb5
  simp only [Fresh, Heap.set_none] at hb5
  obtain ⟨n53', n53, n52', n52, hb5⟩ := hb5
  try simp [Heap.set_get, *]
  (focus repeat' first|refine ga ?_|(refine gb ?_;try simp[gz, *])|refine gk fun _ _=>?_)
  intro b6 hb6
  simp only [Fresh, Heap.set_none] at hb6
  obtain ⟨n65', n65, n63', n63, n62', n62, hb6⟩ := hb6
  obtain ⟨Bp, hBp⟩ : ∃ x, ((h.set b2 (.cells [.list 5 [] .nil])).set b3 (.cells Z28)).set b5 (.cells Z28) = x := ⟨_, rfl⟩
  have hB2 : Bp b2 = some (.cells [.list 5 [] .nil]) := by rw [← hBp, Heap.set_other _ _ _ _ n52', Heap.set_other _ _ _ _ n3', Heap.set_same]
  have hB3 : Bp b3 = some (.cells Z28) := by rw [← hBp, Heap.set_other _ _ _ _ n53', Heap.set_same]
  have hB5 : Bp b5 = some (.cells Z28) := by rw [← hBp, Heap.set_same]
  have hB6 : Bp b6 = none := by rw [← hBp, Heap.set_other _ _ _ _ n65, Heap.set_other _ _ _ _ n63, Heap.set_other _ _ _ _ n62]; exact hb6
  have hsB : AL.Sub h Bp := by rw [← hBp]; exact (((Sub.refl h).loc hb2 _).loc hb3 _).loc hb5 _
  have h0p : Bp 0 = some .gint := hsB _ _ h0
  have hb2o : h b2 = none := hb2
  have hb3o : h b3 = none := hb3
  have hb5o : h b5 = none := hb5
  have ho : Own Bp (Bp.set b6 (.cells (rdRow T .no S00 .nil .nil))) T .no S00 b6 .nil .nil := ⟨(Sub.refl Bp).loc hB6 _, hB6, Heap.set_same _ _ _, trivial, trivial, fun _ _ _ e => (by cases e), fun _ _ _ e => (by cases e), fun _ _ _ _ _ e => (by cases e)⟩
  try simp [Heap.set_get, *]
  (focus repeat' first|refine ga ?_|(refine gb ?_;try simp[gz, *])|refine gk fun _ _=>?_)
  refine awp_loop_h [7,22,23,24,25,26,27,28,29,30,31,32,33,34] (fun m x g => ∃ (q : Nat) (Sq : St) (kids : List Int) (u1 u2 tk : Tok), q ≤ fuel0 ∧ m = q ∧ run T q (.top kids) Sq = some (kids0, S1) ∧ Goes T S00 Sq ∧ InK Sq kids ∧ x 7 = .list 1 (ints kids) tk ∧ TokIn g tk ∧ (∀ b k e, tk = .own b k e → Bp b = none) ∧ kids.length + q ≤ fuel0 ∧ Own (Heap.bk Bp tk) g T .no Sq b6 u1 u2) fuel0
   ⟨fuel0, S00, [], .nil, .nil, .nil, Nat.le_refl _, rfl, hrun.out, .refl hG, InK.nil, by simp, trivial, (fun _ _ _ e => by cases e), by simp, by first | exact ho | (simp [hBp]; exact ho)⟩ (fun m x g hI K hK => ?_)
  clear ho hrun
  obtain ⟨q, Sq, kids, u1, u2, tk, hq, rfl, hrq, gq, hin, hx, htk, htf, hkl, oq⟩ := hI
  obtain ⟨p, rfl⟩ : ∃ p, m = p + 1 := by
   cases m with
   | zero => simp [run] at hrq
   | succ p => exact ⟨p, rfl⟩
  simp only [run] at hrq
  have hf0 : fuel0 ≤ 200000 := Nat.le_refl _
  have h0q : (Heap.bk Bp tk) 0 = some .gint := bk_sub htf _ _ h0p
  have hno : tk ≠ .no := fun e => by subst e; exact htk.elim
  have hr := oq.blk
  have hBs := Shut.mk (bk_sub htf)
  replace htf := Shut.mk htf
  replace oq := Shut.mk oq
  obtain ⟨t, ht⟩ : ∃ t, peekL T Sq = t := ⟨_, rfl⟩
  rw [ht] at hrq
  by_cases hgo2 : Sq.fc = 0 ∧ ¬ t.kind = 6
  ·rw [if_pos hgo2, Option.bind_eq_some_iff] at hrq
   obtain ⟨⟨l2, S2⟩, hs2, hrest⟩ := hrq
   have hfd : decide (Sq.fc = 0) = true := by simp [hgo2.1]
   have hk6 : ¬ t.kind = 6 := hgo2.2
   clear hgo2
   replace hs2 := Shut.mk hs2
   replace hrest := Shut.mk hrest
   replace hin := Shut.mk hin
   refine awp_eqs (s' := [_,_,_,_,_,_,_,x 7,_,_,_,_,_,_,_,_,_,_,_,_,_,_,x 22,x 23,x 24,x 25,x 26,x 27,x 28,x 29,x 30,x 31,x 32,x 33,x 34,_,_,_,_,_,_,_,_,_,_,_,_,_,_,_,_,_,_,_,_,_,_,_,_,_,_,_,_,_]) rfl ?_
   (focus repeat' first|refine ga ?_|(refine gb ?_;try simp[gz, *])|refine gk fun _ _=>?_)
   refine ok_c T .no Sq u1 u2 b6 _ hr _ ?_
   rw [hfd]
   clear hfd
   simp [gz, *]
   (focus repeat' first|refine ga ?_|(refine gb ?_;try simp[gz, *])|refine gk fun _ _=>?_)
   refine peek_c T .no Sq u1 u2 b6 gq.good.rd _ hr _ ?_
   rw [ht]
   clear ht
   simp [gz, *]
   (focus repeat' first|refine ga ?_|(refine gb ?_;try simp[gz, *])|refine gk fun _ _=>?_)
   refine meth_all T .no hTk.short fuel0 (by decide) p .stmt (by omega) _ _ rfl _ _ _ ⟨hs2.out⟩ b6 u1 u2 (Heap.bk Bp tk) _ ⟨oq.out, Sub.refl _, h0q, gq.good, Nat.le_refl _, fun _ h => by cases h⟩ _ ⟨fun k2 v1 v2 oc => ?_⟩
   have o2 := oc.own
   have gs : Goes T Sq S2 := ⟨oc.good, oc.len⟩
   have hi2 : InK S2 [fst0 l2] := oc.ink
   clear oc
   clear hr oq
   rw [show resOf .stmt l2 = .int .i64 (fst0 l2) from rfl]
   have ht2 := tokIn_bk o2.sub hno
   have hr2 := o2.blk
   simp [gz, *]
   (focus repeat' first|refine ga ?_|(refine gb ?_;try simp[gz, *])|refine gk fun _ _=>?_)
   refine .inl ⟨ht2, fun b k e hb => ?_⟩
   obtain ⟨o3, hBb⟩ := o2.growK (k := k) (e := e) htf.out hb
   obtain ⟨HG, hHG⟩ : ∃ HG, (tk.rid k2).set b (.spare k e) = HG := ⟨_, rfl⟩
   rw [hHG] at o3 ⊢
   have hgb : HG b = some (.spare k e) := by rw [← hHG, Heap.set_same]
   clear hb hHG ht2 o2 hr2
   replace o3 := Shut.mk o3
   simp [gz, *]
   (focus repeat' first|refine ga ?_|(refine gb ?_;try simp[gz, *])|refine gk fun _ _=>?_)
   refine ⟨by kernel_rfl, rfl, p, HG, by omega, Sub.refl _, p, S2, kids ++ [fst0 l2], v1, v2, .own b k e, by omega, rfl, hrest.out, gq.trans gs, (hin.out.mono gs.len).append hi2, by simp, hgb, fun b' k' e' q1 => by injection q1 with q1; subst q1; exact hBb, by simp only [List.length_append, List.length_singleton]; omega, o3.out⟩
  ·rw [if_neg hgo2] at hrq
   simp only [Option.some.injEq, Prod.mk.injEq] at hrq
   obtain ⟨rfl, rfl⟩ := hrq
   have hkk := Shut.mk (InK.kids gq.good (l := kids) hin)
   have hkl2 : kids.length ≤ 281474976710 := by have : fuel0 = 200000 := rfl; omega
   obtain ⟨gad, -⟩ := goes_add gq.good 26 0 [] 0 kids
   have hFin : Fine T (addL T 26 0 [] 0 kids Sq).2 := (kp_add gq.good 26 0 [] 0 kids (by simp) (by decide) hkl2).fine hFine.out
   have hnl2 := gad.good.rd.nl
   have hne2 : (addL T 26 0 [] 0 kids Sq).2.fc = 0 → ¬ (addL T 26 0 [] 0 kids Sq).2.nodes = [] := add_nodes T 26 0 [] 0 kids Sq
   obtain ⟨a, ha⟩ : ∃ a, addL T 26 0 [] 0 kids Sq = a := ⟨_, rfl⟩
   rw [ha] at hFin hnl2 hne2 hz
   have hFin := hFin.1
   replace hFin := Shut.mk hFin
   replace hne2 := Shut.mk hne2
   have hq2 : (Heap.bk Bp tk) b2 = some (.cells [.list 5 [] .nil]) := hBs.out _ _ hB2
   have hq3 : (Heap.bk Bp tk) b3 = some (.cells Z28) := hBs.out _ _ hB3
   have hq5 : (Heap.bk Bp tk) b5 = some (.cells Z28) := hBs.out _ _ hB5
   have hsQ := Shut.mk (hsB.trans hBs.out)
   clear hin hgo
   cases hfd : decide (Sq.fc = 0)
   ·refine awp_eqs (s' := [_,_,_,_,_,_,_,x 7,_,_,_,_,_,_,_,_,_,_,_,_,_,_,x 22,x 23,x 24,x 25,x 26,x 27,x 28,x 29,x 30,x 31,x 32,x 33,x 34,_,_,_,_,_,_,_,_,_,_,_,_,_,_,_,_,_,_,_,_,_,_,_,_,_,_,_,_,_]) rfl ?_
    (focus repeat' first|refine ga ?_|(refine gb ?_;try simp[gz, *])|refine gk fun _ _=>?_)
    refine ok_c T .no Sq u1 u2 b6 _ hr _ ?_
    rw [hfd]
    clear hfd hgo2
    simp [gz, *]
    (focus repeat' first|refine ga ?_|(refine gb ?_;try simp[gz, *])|refine gk fun _ _=>?_)
    refine ACalls.weak (ys := [.ptr b6 0, .int .i64 26, .int .i64 0, .str [], .int .i64 0, .list 1 (ints kids) .no]) (.cons (Weak.refl _) (.cons (Weak.refl _) (.cons (Weak.refl _) (.cons (Weak.refl _) (.cons (Weak.refl _) (.cons (Weak.toks (by first | rfl | simp)) .nil)))))) ?_
    refine add_c 26 0 [] 0 kids T .no Sq u1 u2 b6 gq.good.rd gq.good.dl hkk.out hkl2 (Heap.bk Bp tk) _ oq.out _ (fun k3 w1 w2 o3 => ?_)
    rw [ha] at o3 ⊢
    clear oq hr
    have hr := o3.blk
    have hk2 := o3.sub _ _ hq2
    have hk3 := o3.sub _ _ hq3
    have hk5 := o3.sub _ _ hq5
    have hsF : AL.Sub h k3 := hsQ.out.trans o3.sub
    have h0k := o3.sub _ _ h0q
    have hr2 := hr
    clear ha
    simp [gz, *]
    (focus repeat' first|refine ga ?_|(refine gb ?_;try simp[gz, *])|refine gk fun _ _=>?_)
    refine ok_c T .no a.2 w1 w2 b6 _ hr2 _ ?_
    by_cases hfa : a.2.fc = 0
    ·have hfd : decide (a.2.fc = 0) = true := decide_eq_true hfa
     rw [hfd]
     replace hz := hz.out
     rw [if_pos hfa] at hz
     obtain ⟨nodes, hnn⟩ : ∃ x, a.2.nodes = x := ⟨_, rfl⟩
     rw [hnn] at hz hFin hne2 hnl2
     simp [gz, *]
     (focus repeat' first|refine ga ?_|(refine gb ?_;try simp[gz, *])|refine gk fun _ _=>?_)
     refine btree_c T .no a.2 w1 w2 b6 nodes hnn (fun n hn => (hFin.out n hn).1) (fun n hn => (hFin.out n hn).2) hnl2 (hne2.out hfa) _ h0k hr2 _ ?_
     by_cases hck : (checkL nodes).1 = 0
     ·rw [if_pos hck] at hz ⊢
      subst hz
      simp [gz, *]
      (focus repeat' first|refine ga ?_|(refine gb ?_;try simp[gz, *])|refine gk fun _ _=>?_)
      intro b8 hb8
      simp only [Fresh] at hb8
      have n82 := ne_of_fresh hk2 hb8
      have n83 := ne_of_fresh hk3 hb8
      have n85 := ne_of_fresh hk5 hb8
      have n86 := ne_of_fresh hr2 hb8
      have m82 : ¬ b8 = b2 := fun e => n82 e.symm
      have m83 : ¬ b8 = b3 := fun e => n83 e.symm
      have m85 : ¬ b8 = b5 := fun e => n85 e.symm
      have hn8 : h b8 = none := by
       cases e : h b8 with
       | none => rfl
       | some y => rw [hsF _ _ e] at hb8; cases hb8
      try simp [Heap.set_get, *]
      (focus repeat' first|refine ga ?_|(refine gb ?_;try simp[gz, *])|refine gk fun _ _=>?_|refine gc ?_ ?_|exact gr _|refine gi fun _=>?_|(refine gn ?_ ?_;focus(intros;simp[*];done)))
      refine ⟨_, ⟨?_, _, rfl, ?_, _, rfl, rfl⟩, ?_, ?_⟩
      ·simp [Heap.set_get, *]
      ·simp [Heap.set_get, *]
      ·simp [aresult, parseAV, treeAV, Heap.set_get, *]
      ·exact (((hsF.loc hn8 _).loc hb5o _).loc hb2o _).loc hb3o _
     ·rw [if_neg hck] at hz ⊢
      subst hz
      simp [gz, *]
      (focus repeat' first|refine ga ?_|(refine gb ?_;try simp[gz, *])|refine gk fun _ _=>?_)
      intro b8 hb8
      simp only [Fresh] at hb8
      have n82 := ne_of_fresh hk2 hb8
      have n83 := ne_of_fresh hk3 hb8
      have n85 := ne_of_fresh hk5 hb8
      have n86 := ne_of_fresh hr2 hb8
      have m82 : ¬ b8 = b2 := fun e => n82 e.symm
      have m83 : ¬ b8 = b3 := fun e => n83 e.symm
      have m85 : ¬ b8 = b5 := fun e => n85 e.symm
      have hn8 : h b8 = none := by
       cases e : h b8 with
       | none => rfl
       | some y => rw [hsF _ _ e] at hb8; cases hb8
      try simp [Heap.set_get, *]
      (focus repeat' first|refine ga ?_|(refine gb ?_;try simp[gz, *])|refine gk fun _ _=>?_)
      refine awp_region_stores [b5] [0,1,3] [(2,true),(4,true),(5,true),(6,false)] [7] follows (by kernel_rfl) rfl (by kernel_rfl) ?_; simp [Heap.set_get, Heap.plus_set, evc_nil, evc_cons, estep, *]
      (focus repeat' first|refine ga ?_|(refine gb ?_;try simp[gz, *])|refine gk fun _ _=>?_|refine gc ?_ ?_|exact gr _|refine gi fun _=>?_|(refine gn ?_ ?_;focus(intros;simp[*];done)))
      refine ⟨_, ⟨?_, _, rfl, ?_, _, rfl, rfl⟩, ?_, ?_⟩
      ·simp [Heap.set_get, *]
      ·simp [Heap.set_get, *]
      ·simp [aresult, parseAV, treeAV, Heap.set_get, *]
      ·exact (((hsF.loc hn8 _).loc hb5o _).loc hb2o _).loc hb3o _
    ·have hfd : decide (a.2.fc = 0) = false := decide_eq_false hfa
     rw [hfd]
     replace hz := hz.out
     rw [if_neg hfa] at hz
     subst hz
     simp [gz, *]
     (focus repeat' first|refine ga ?_|(refine gb ?_;try simp[gz, *])|refine gk fun _ _=>?_)
     refine awp_region_stores [b6] [0,1,2,3] [(4,true),(5,false)] [6] follows (by kernel_rfl) rfl (by kernel_rfl) ?_; simp [Heap.set_get, Heap.plus_set, evc_nil, evc_cons, estep, *]
     (focus repeat' first|refine ga ?_|(refine gb ?_;try simp[gz, *])|refine gk fun _ _=>?_|refine gc ?_ ?_|exact gr _|refine gi fun _=>?_|(refine gn ?_ ?_;focus(intros;simp[*];done)))
     replace hsF := Shut.mk ((hsF.loc hb2o (.cells [.list 5 [] .nil])).loc hb3o (.cells [.int .i64 a.2.fc, .int .i64 a.2.fa]))
     refine ⟨_, ⟨?_, _, rfl, ?_, _, rfl, rfl⟩, ?_, ?_⟩ <;> first | (simp [aresult, parseAV, Heap.set_get, *]; done) | exact hsF.out
   ·have hk6 : t.kind = 6 := by
     by_cases e : t.kind = 6
     ·exact e
     ·exact absurd ⟨of_decide_eq_true hfd, e⟩ hgo2
    clear hgo2
    refine awp_eqs (s' := [_,_,_,_,_,_,_,x 7,_,_,_,_,_,_,_,_,_,_,_,_,_,_,x 22,x 23,x 24,x 25,x 26,x 27,x 28,x 29,x 30,x 31,x 32,x 33,x 34,_,_,_,_,_,_,_,_,_,_,_,_,_,_,_,_,_,_,_,_,_,_,_,_,_,_,_,_,_]) rfl ?_
    (focus repeat' first|refine ga ?_|(refine gb ?_;try simp[gz, *])|refine gk fun _ _=>?_)
    refine ok_c T .no Sq u1 u2 b6 _ hr _ ?_
    rw [hfd]
    clear hfd
    simp [gz, *]
    (focus repeat' first|refine ga ?_|(refine gb ?_;try simp[gz, *])|refine gk fun _ _=>?_)
    refine peek_c T .no Sq u1 u2 b6 gq.good.rd _ hr _ ?_
    rw [ht]
    clear ht
    simp [gz, *]
    (focus repeat' first|refine ga ?_|(refine gb ?_;try simp[gz, *])|refine gk fun _ _=>?_)
    refine ACalls.weak (ys := [.ptr b6 0, .int .i64 26, .int .i64 0, .str [], .int .i64 0, .list 1 (ints kids) .no]) (.cons (Weak.refl _) (.cons (Weak.refl _) (.cons (Weak.refl _) (.cons (Weak.refl _) (.cons (Weak.refl _) (.cons (Weak.toks (by first | rfl | simp)) .nil)))))) ?_
    refine add_c 26 0 [] 0 kids T .no Sq u1 u2 b6 gq.good.rd gq.good.dl hkk.out hkl2 (Heap.bk Bp tk) _ oq.out _ (fun k3 w1 w2 o3 => ?_)
    rw [ha] at o3 ⊢
    clear oq hr
    have hr := o3.blk
    have hk2 := o3.sub _ _ hq2
    have hk3 := o3.sub _ _ hq3
    have hk5 := o3.sub _ _ hq5
    have hsF : AL.Sub h k3 := hsQ.out.trans o3.sub
    have h0k := o3.sub _ _ h0q
    have hr2 := hr
    clear ha
    simp [gz, *]
    (focus repeat' first|refine ga ?_|(refine gb ?_;try simp[gz, *])|refine gk fun _ _=>?_)
    refine ok_c T .no a.2 w1 w2 b6 _ hr2 _ ?_
    by_cases hfa : a.2.fc = 0
    ·have hfd : decide (a.2.fc = 0) = true := decide_eq_true hfa
     rw [hfd]
     replace hz := hz.out
     rw [if_pos hfa] at hz
     obtain ⟨nodes, hnn⟩ : ∃ x, a.2.nodes = x := ⟨_, rfl⟩
     rw [hnn] at hz hFin hne2 hnl2
     simp [gz, *]
     (focus repeat' first|refine ga ?_|(refine gb ?_;try simp[gz, *])|refine gk fun _ _=>?_)
     refine btree_c T .no a.2 w1 w2 b6 nodes hnn (fun n hn => (hFin.out n hn).1) (fun n hn => (hFin.out n hn).2) hnl2 (hne2.out hfa) _ h0k hr2 _ ?_
     by_cases hck : (checkL nodes).1 = 0
     ·rw [if_pos hck] at hz ⊢
      subst hz
      simp [gz, *]
      (focus repeat' first|refine ga ?_|(refine gb ?_;try simp[gz, *])|refine gk fun _ _=>?_)
      intro b8 hb8
      simp only [Fresh] at hb8
      have n82 := ne_of_fresh hk2 hb8
      have n83 := ne_of_fresh hk3 hb8
      have n85 := ne_of_fresh hk5 hb8
      have n86 := ne_of_fresh hr2 hb8
      have m82 : ¬ b8 = b2 := fun e => n82 e.symm
      have m83 : ¬ b8 = b3 := fun e => n83 e.symm
      have m85 : ¬ b8 = b5 := fun e => n85 e.symm
      have hn8 : h b8 = none := by
       cases e : h b8 with
       | none => rfl
       | some y => rw [hsF _ _ e] at hb8; cases hb8
      try simp [Heap.set_get, *]
      (focus repeat' first|refine ga ?_|(refine gb ?_;try simp[gz, *])|refine gk fun _ _=>?_|refine gc ?_ ?_|exact gr _|refine gi fun _=>?_|(refine gn ?_ ?_;focus(intros;simp[*];done)))
      refine ⟨_, ⟨?_, _, rfl, ?_, _, rfl, rfl⟩, ?_, ?_⟩
      ·simp [Heap.set_get, *]
      ·simp [Heap.set_get, *]
      ·simp [aresult, parseAV, treeAV, Heap.set_get, *]
      ·exact (((hsF.loc hn8 _).loc hb5o _).loc hb2o _).loc hb3o _
     ·rw [if_neg hck] at hz ⊢
      subst hz
      simp [gz, *]
      (focus repeat' first|refine ga ?_|(refine gb ?_;try simp[gz, *])|refine gk fun _ _=>?_)
      intro b8 hb8
      simp only [Fresh] at hb8
      have n82 := ne_of_fresh hk2 hb8
      have n83 := ne_of_fresh hk3 hb8
      have n85 := ne_of_fresh hk5 hb8
      have n86 := ne_of_fresh hr2 hb8
      have m82 : ¬ b8 = b2 := fun e => n82 e.symm
      have m83 : ¬ b8 = b3 := fun e => n83 e.symm
      have m85 : ¬ b8 = b5 := fun e => n85 e.symm
      have hn8 : h b8 = none := by
       cases e : h b8 with
       | none => rfl
       | some y => rw [hsF _ _ e] at hb8; cases hb8
      try simp [Heap.set_get, *]
      (focus repeat' first|refine ga ?_|(refine gb ?_;try simp[gz, *])|refine gk fun _ _=>?_)
      refine awp_region_stores [b5] [0,1,3] [(2,true),(4,true),(5,true),(6,false)] [7] follows (by kernel_rfl) rfl (by kernel_rfl) ?_; simp [Heap.set_get, Heap.plus_set, evc_nil, evc_cons, estep, *]
      (focus repeat' first|refine ga ?_|(refine gb ?_;try simp[gz, *])|refine gk fun _ _=>?_|refine gc ?_ ?_|exact gr _|refine gi fun _=>?_|(refine gn ?_ ?_;focus(intros;simp[*];done)))
      refine ⟨_, ⟨?_, _, rfl, ?_, _, rfl, rfl⟩, ?_, ?_⟩
      ·simp [Heap.set_get, *]
      ·simp [Heap.set_get, *]
      ·simp [aresult, parseAV, treeAV, Heap.set_get, *]
      ·exact (((hsF.loc hn8 _).loc hb5o _).loc hb2o _).loc hb3o _
    ·have hfd : decide (a.2.fc = 0) = false := decide_eq_false hfa
     rw [hfd]
     replace hz := hz.out
     rw [if_neg hfa] at hz
     subst hz
     simp [gz, *]
     (focus repeat' first|refine ga ?_|(refine gb ?_;try simp[gz, *])|refine gk fun _ _=>?_)
     refine awp_region_stores [b6] [0,1,2,3] [(4,true),(5,false)] [6] follows (by kernel_rfl) rfl (by kernel_rfl) ?_; simp [Heap.set_get, Heap.plus_set, evc_nil, evc_cons, estep, *]
     (focus repeat' first|refine ga ?_|(refine gb ?_;try simp[gz, *])|refine gk fun _ _=>?_|refine gc ?_ ?_|exact gr _|refine gi fun _=>?_|(refine gn ?_ ?_;focus(intros;simp[*];done)))
     replace hsF := Shut.mk ((hsF.loc hb2o (.cells [.list 5 [] .nil])).loc hb3o (.cells [.int .i64 a.2.fc, .int .i64 a.2.fa]))
     refine ⟨_, ⟨?_, _, rfl, ?_, _, rfl, rfl⟩, ?_, ?_⟩ <;> first | (simp [aresult, parseAV, Heap.set_get, *]; done) | exact hsF.out
end Go.Proofs.YtcbgpjlcfkkdlaaGreatDoor

namespace Go.Proofs.YtcbgpjlcfkkdlaaGreatDoor
open Go Go.AL Go.Proofs
theorem kidLoop_code (i : Nat) : ∀ (ks : List Int) (o : List Bool) (d : List Int) (c : Int), kidLoop i ks o d = .inl c → ¬ c = 0
 | [], _, _, _, h => by simp [kidLoop] at h
 | k :: ks, o, d, c, h => by
  simp only [kidLoop] at h
  split at h
  ·injection h with h; subst h; decide
  ·split at h
   ·exact kidLoop_code i ks _ _ c h
   ·split at h
    ·injection h with h; subst h; decide
    ·exact kidLoop_code i ks _ _ c h
theorem runG_zero (form : Nd → Bool) (good : List Nd → Nd → Bool) (nodes : List Nd) : ∀ (ns : List Nd) (i : Nat) (o : List Bool) (d : List Int), (runG form good nodes ns i o d).1 = 0 → (runG form good nodes ns i o d).2 = 0
 | [], i, o, d => by
  simp only [runG]
  unfold lastL
  split
  ·intro h; exact absurd (show (30 : Int) = 0 from h) (by decide)
  ·split
   ·intro h; exact absurd (show (3 : Int) = 0 from h) (by decide)
   ·intro _; rfl
 | n :: ns, i, o, d => by
  simp only [runG]
  split
  ·intro h; exact absurd (show (5 : Int) = 0 from h) (by decide)
  ·split
   ·rename_i c hc
    intro h; exact absurd h (kidLoop_code _ _ _ _ _ hc)
   ·split
    ·intro h; exact absurd (show (30 : Int) = 0 from h) (by decide)
    ·split
     ·intro h; exact absurd (show (6 : Int) = 0 from h) (by decide)
     ·exact runG_zero form good nodes ns _ _ _
theorem check_zero (nodes : List Nd) (h : (checkL nodes).1 = 0) : checkL nodes = ((0 : Int), (0 : Int)) := by
 refine Prod.ext h ?_
 revert h
 unfold checkL checkG
 split
 ·intro h; exact absurd (show (2 : Int) = 0 from h) (by decide)
 ·exact runG_zero _ _ _ _ _ _ _
structure ParseOk (s : List UInt8) : Prop where
 bad : ∀ f, scanT s = .inr f → ¬ f.1 = 0 ∧ parseT s = ([], f.1, f.2)
 good : (parseT s).2.1 = 0 → (parseT s).2.2 = 0 ∧ (∀ n ∈ (parseT s).1, NdOk n ∧ n.kids.length ≤ 281474976710) ∧ (parseT s).1.length ≤ 131072 ∧ checkL (parseT s).1 = ((0 : Int), (0 : Int))
 fault : ∀ T, scanT s = .inl T → ¬ (parseT s).2.1 = 0 → (parseT s).1 = [] ∧ ∃ t ∈ T, t.pos = (parseT s).2.2
theorem parse_ok (s : List UInt8) (hs : s.length ≤ 3300) : ParseOk s := by
 have hsc := scan_ok s (by omega) (s.length + 1) 0 false [] (by omega) (by omega) (by simp) (by simp)
 have hr2 : scanR s (s.length + 1) 0 false [] = scanT s := rfl
 rw [hr2] at hsc
 clear hr2
 cases hr : scanT s with
 | inr f =>
  rw [hr] at hsc
  have hf := hsc.2 f rfl
  have hp : parseT s = ([], f.1, f.2) := by unfold parseT; rw [hr]
  refine ⟨fun f' e => ?_, fun h => ?_, fun T e => by rw [hr] at e; cases e⟩
  ·rw [hr] at e; injection e with e; subst e; exact ⟨hf, hp⟩
  ·rw [hp] at h; exact absurd h hf
 | inl T =>
  rw [hr] at hsc
  obtain ⟨hT1, hT2, T0, te, hT3, hT4, hT5⟩ := hsc.1 T rfl
  have hG : Good T S00 := ⟨⟨fun _ => by rw [hT3]; simp, Nat.zero_le _, by omega, by rw [hT3]; simp, Nat.zero_le _, by rw [hT3]; simp [List.getD, hT4]⟩, rfl⟩
  have hTk : Toks T := ⟨fun t ht => (hT1 t ht).short, fun t ht => (hT1 t ht).num⟩
  have hnd : need T (.top []) S00 ≤ fuel0 := by
   unfold need
   rw [if_pos rfl]
   simp only [rank, fuel0]
   omega
  obtain ⟨kids0, S1, hrun, hzt, hkl0⟩ := term_all T hTk fuel0 (by decide) (.top []) S00 hG InK.nil trivial hnd
  have hkp := hzt.kp
  have hgo : Goes T S00 S1 ∧ InK S1 kids0 := ⟨⟨hzt.good, hzt.len⟩, hzt.ink⟩
  clear hzt
  have hFine : Fine T S1 := hkp.fine ⟨fun n hn => (by cases hn), fun q => absurd rfl q⟩
  have hkl1 : kids0.length ≤ 2 * fuel0 + 2 := by simpa [argK, loopK] using hkl0
  have hkl2 : kids0.length ≤ 281474976710 := by have : fuel0 = 200000 := rfl; omega
  have hFin : Fine T (addL T 26 0 [] 0 kids0 S1).2 := (kp_add hgo.1.good 26 0 [] 0 kids0 (by simp) (by decide) hkl2).fine hFine
  have hnl := (goes_add hgo.1.good 26 0 [] 0 kids0).1.good.rd.nl
  have hp : parseT s = if (addL T 26 0 [] 0 kids0 S1).2.fc = 0 then
    (if (checkL (addL T 26 0 [] 0 kids0 S1).2.nodes).1 = 0 then ((addL T 26 0 [] 0 kids0 S1).2.nodes, (0 : Int), (0 : Int)) else ([], (checkL (addL T 26 0 [] 0 kids0 S1).2.nodes).1, (s.length : Int)))
   else ([], (addL T 26 0 [] 0 kids0 S1).2.fc, (addL T 26 0 [] 0 kids0 S1).2.fa) := by
   unfold parseT
   rw [hr]
   simp only [hrun]
  obtain ⟨a, ha⟩ : ∃ a, (addL T 26 0 [] 0 kids0 S1).2 = a := ⟨_, rfl⟩
  rw [ha] at hFin hnl hp
  refine ⟨fun f e => (by rw [hr] at e; cases e), ?_, fun T' e => ?_⟩
  ·rw [hp]
   split
   ·split
    ·rename_i hc
     intro _
     exact ⟨rfl, fun n hn => hFin.1 n hn, hnl, check_zero _ hc⟩
    ·rename_i hc
     intro h; exact absurd h hc
   ·rename_i hc
    intro h; exact absurd h hc
  ·rw [hr] at e
   injection e with e
   subst e
   rw [hp]
   split
   ·split
    ·intro h; exact absurd rfl h
    ·intro _
     refine ⟨rfl, te, by rw [hT3]; simp, hT5⟩
   ·rename_i hc
    intro _
    exact ⟨rfl, hFin.2 hc⟩
end Go.Proofs.YtcbgpjlcfkkdlaaGreatDoor

namespace Go.Proofs.YtcbgpjlcfkkdlaaGreatDoor
open Go Go.AL Go.Proofs
theorem getD_set' {α : Type} (l : List α) (k : Nat) (v w : α) (i : Nat) (hk : k < l.length) : (l.set k v).getD i w = if i = k then v else l.getD i w := by
 rw [List.getD_eq_getElem?_getD, List.getElem?_set]
 by_cases e : k = i
 ·subst e; rw [if_pos rfl, if_pos hk, if_pos rfl]; rfl
 ·rw [if_neg e, if_neg (show ¬ i = k from fun q => e q.symm), List.getD_eq_getElem?_getD]
def Win (off len : Nat) (nx nz : List Nd) : Prop := ∀ j, j < len → ∃ x y, nx[j]? = some x ∧ nz[off + j]? = some y ∧ NdR (off : Int) x y
section
variable {off len : Nat} {nx nz : List Nd}
theorem shi_pos {K v : Int} (h : 0 ≤ v) : shi K v = v + K := by unfold shi; rw [if_pos h]
theorem win_at (w : Win off len nx nz) {k : Int} (h0 : 0 ≤ k) (hk : k < len) : ∃ x y, nx[k.toNat]? = some x ∧ nz[(shi off k).toNat]? = some y ∧ NdR (off : Int) x y := by
 obtain ⟨x, y, h1, h2, h3⟩ := w k.toNat (by omega)
 refine ⟨x, y, h1, ?_, h3⟩
 rw [shi_pos h0, ← h2]
 congr 1
 omega
theorem win_kind (w : Win off len nx nz) {k : Int} (h0 : 0 ≤ k) (hk : k < len) : kindAt nz (shi off k) = kindAt nx k := by
 obtain ⟨x, y, h1, h2, h3⟩ := win_at w h0 hk
 unfold kindAt
 rw [h1, h2]
 exact h3.kind
theorem win_default (w : Win off len nx nz) {k : Int} (hk : k < len) : isDefault nz (shi off k) = isDefault nx k := by
 unfold isDefault
 by_cases h0 : 0 ≤ k
 ·rw [win_kind w h0 hk]
  obtain ⟨x, y, h1, h2, h3⟩ := win_at w h0 hk
  have e : (firstKid nz (shi off k) = -1) ↔ (firstKid nx k = -1) := by
   unfold firstKid
   rw [h1, h2]
   simp only [Option.map_some, Option.getD_some, h3.kids]
   cases x.kids with
   | nil => simp
   | cons a l =>
    simp only [List.map_cons, List.headD_cons]
    unfold shi
    split <;> omega
  rw [decide_eq_true h0, decide_eq_true ((shi_sign (K := off) k).2 h0)]
  congr 1
  exact decide_eq_decide.2 e
 ·rw [decide_eq_false h0, decide_eq_false (fun q => h0 ((shi_sign (K := off) k).1 q))]
  simp
theorem form_sim {K : Int} {a b : Nd} (h : NdR K a b) (hf : formL a = true) : formL b = true := by
 simp only [formL, Bool.and_eq_true, decide_eq_true_eq] at hf ⊢
 rw [h.kind, h.text, h.num]
 exact ⟨⟨hf.1.1, h.pos⟩, hf.2⟩
theorem kidFine_sim (w : Win off len nx nz) {k v : Int} (hk : k < len) (hm : -1 ≤ k) (hf : kidFine nx k v = true) : kidFine nz (shi off k) v = true := by
 unfold kidFine at hf ⊢
 by_cases h0 : 0 ≤ k
 ·rw [if_neg (by omega)] at hf
  rw [if_neg (by rw [shi_pos h0]; omega), win_kind w h0 hk, decide_eq_true ((shi_sign (K := off) k).2 h0)]
  rw [decide_eq_true h0] at hf
  exact hf
 ·have e : k = -1 := by omega
  subst e
  rw [shi_neg]
  split at hf
  ·rename_i h; rw [if_pos h]
  ·simp at hf
theorem kids_sim (w : Win off len nx nz) {a b : Nd} (h : NdR (off : Int) a b) (hk : ∀ k ∈ a.kids, -1 ≤ k ∧ k < len) (hg : kidsL nx a = true) : kidsL nz b = true := by
 have hl : b.kids.length = a.kids.length := by rw [h.kids, List.length_map]
 have hget : ∀ i (q : i < b.kids.length), b.kids[i] = shi off (a.kids[i]'(by omega)) := fun i q => by simp only [h.kids, List.getElem_map]
 unfold kidsL at hg ⊢
 rw [h.kind]
 split at hg
 ·rename_i h20
  rw [if_pos h20]
  unfold funcKidsL at hg ⊢
  rw [h.num]
  simp only [Bool.and_eq_true, decide_eq_true_eq] at hg ⊢
  refine ⟨⟨hg.1.1, by rw [hl]; exact hg.1.2⟩, fun i q => ?_⟩
  obtain ⟨g1, g2⟩ := hg.2 i (by omega)
  have hb := hk _ (List.getElem_mem (h := show i < a.kids.length by omega))
  rw [hget i q, win_kind w g1 hb.2]
  refine ⟨(shi_sign (K := off) _).2 g1, ?_⟩
  unfold wantF at g2 ⊢
  rw [hl]
  exact g2
 ·rename_i h20
  rw [if_neg h20, h.text]
  simp only [Bool.and_eq_true, decide_eq_true_eq] at hg ⊢
  obtain ⟨⟨g1, g2⟩, g3⟩ := hg
  refine ⟨⟨by rw [hl]; exact g1, fun i q => ?_⟩, ?_⟩
  ·rw [hget i q]
   have hb := hk _ (List.getElem_mem (h := show i < a.kids.length by omega))
   have := g2 i (by omega)
   unfold wantAt at this ⊢
   rw [h.kind, h.text]
   exact kidFine_sim w hb.2 hb.1 this
  ·rw [h.kids, List.countP_map]
   have e : a.kids.countP (isDefault nz ∘ shi off) = a.kids.countP (isDefault nx) := List.countP_congr fun k hm => by
    show isDefault nz (shi off k) = true ↔ _
    rw [win_default w (hk k hm).2]
   omega
end
theorem kl_range {i : Nat} : ∀ {ks : List Int} {o : List Bool} {d : List Int} {r : List Bool × List Int}, kidLoop i ks o d = .inr r → ∀ k ∈ ks, -1 ≤ k ∧ k < i
 | [], _, _, _, _, _, h => by cases h
 | k :: ks, o, d, r, h, x, hx => by
  simp only [kidLoop] at h
  split at h
  ·cases h
  ·rcases List.mem_cons.1 hx with e | e
   ·subst e; omega
   ·split at h
    ·exact kl_range h x e
    ·split at h
     ·cases h
     ·exact kl_range h x e
theorem kl_append {i : Nat} (b : List Int) : ∀ (a : List Int) {o o1 : List Bool} {d d1 : List Int}, kidLoop i a o d = .inr (o1, d1) → kidLoop i (a ++ b) o d = kidLoop i b o1 d1
 | [], _, _, _, _, h => by simp only [kidLoop, Sum.inr.injEq, Prod.mk.injEq] at h; rw [List.nil_append, h.1, h.2]
 | k :: ks, o, o1, d, d1, h => by
  simp only [kidLoop, List.cons_append] at h ⊢
  split at h
  ·cases h
  ·rename_i h1
   rw [if_neg h1]
   split at h
   ·rename_i h2; rw [if_pos h2]; exact kl_append b ks h
   ·rename_i h2
    rw [if_neg h2]
    split at h
    ·cases h
    ·rename_i h3; rw [if_neg h3]; exact kl_append b ks h
theorem kl_mono {i : Nat} : ∀ {ks : List Int} {o o1 : List Bool} {d d1 : List Int}, kidLoop i ks o d = .inr (o1, d1) → i < d.length → d.getD i 0 ≤ d1.getD i 0
 | [], _, _, _, _, h, _ => by simp only [kidLoop, Sum.inr.injEq, Prod.mk.injEq] at h; rw [h.2]; exact Int.le_refl _
 | k :: ks, o, o1, d, d1, h, hi => by
  simp only [kidLoop] at h
  split at h
  ·cases h
  ·split at h
   ·exact kl_mono h hi
   ·split at h
    ·cases h
    ·have := kl_mono h (by rw [List.length_set]; exact hi)
     rw [getD_set' _ _ _ _ _ hi, if_pos rfl] at this
     omega
structure KR (off i i' : Nat) (o o1 o' o1' : List Bool) (d d1 d' d1' : List Int) : Prop where
 ol : o1.length = o.length
 dl : d1.length = d.length
 ol' : o1'.length = o'.length
 dl' : d1'.length = d'.length
 oo : ∀ j, j < i → o1'.getD (off + j) false = o1.getD j false
 ox : ∀ j, i ≤ j → o1.getD j false = o.getD j false
 oz : ∀ j, ¬ (off ≤ j ∧ j < off + i) → o1'.getD j false = o'.getD j false
 dx : ∀ j, ¬ j = i → d1.getD j 0 = d.getD j 0
 dz : ∀ j, ¬ j = i' → d1'.getD j 0 = d'.getD j 0
 dm : d1'.getD i' 0 ≤ 200
 de : d'.getD i' 0 = d.getD i 0 → d1'.getD i' 0 = d1.getD i 0
theorem kl_sim {off i i' : Nat} (hii : off + i ≤ i') : ∀ {ks : List Int} {o o1 o' : List Bool} {d d1 d' : List Int}, kidLoop i ks o d = .inr (o1, d1) → i ≤ o.length → off + i ≤ o'.length → i < d.length → i' < d'.length →
  (∀ j, j < i → o'.getD (off + j) false = o.getD j false) → (∀ j, j < i → d'.getD (off + j) 0 = d.getD j 0) → d1.getD i 0 ≤ 200 → d'.getD i' 0 ≤ 200 →
  ∃ o1' d1', kidLoop i' (ks.map (shi off)) o' d' = .inr (o1', d1') ∧ KR off i i' o o1 o' o1' d d1 d' d1'
 | [], o, o1, o', d, d1, d', h, _, _, _, _, ho, _, _, hm => by
  simp only [kidLoop, Sum.inr.injEq, Prod.mk.injEq] at h
  obtain ⟨rfl, rfl⟩ := h
  exact ⟨o', d', rfl, rfl, rfl, rfl, rfl, ho, fun _ _ => rfl, fun _ _ => rfl, fun _ _ => rfl, fun _ _ => rfl, hm, id⟩
 | k :: ks, o, o1, o', d, d1, d', h, h1, h2, h3, h4, ho, hd, hb, hm => by
  simp only [kidLoop] at h
  split at h
  ·cases h
  ·rename_i hr
   split at h
   ·rename_i hk
    obtain ⟨o1', d1', e, r⟩ := kl_sim hii h h1 h2 h3 h4 ho hd hb hm
    have e1 : shi off k = k := by unfold shi; rw [if_neg (by omega)]
    refine ⟨o1', d1', ?_, r⟩
    simp only [List.map_cons, kidLoop]
    rw [e1, if_neg (by omega), if_pos hk]
    exact e
   ·rename_i hk
    split at h
    ·cases h
    ·rename_i hno
     have hki : k.toNat < i := by omega
     have e1 : shi off k = k + off := shi_pos (by omega)
     have e2 : (k + (off : Int)).toNat = off + k.toNat := by omega
     have hmx := kl_mono h (by rw [List.length_set]; exact h3)
     rw [getD_set' _ _ _ _ _ h3, if_pos rfl] at hmx
     obtain ⟨o1', d1', e, r⟩ := kl_sim (o' := o'.set (off + k.toNat) true) (d' := d'.set i' (max (d'.getD i' 0) (d'.getD (off + k.toNat) 0 + 1))) hii h (by rw [List.length_set]; exact h1) (by rw [List.length_set]; exact h2) (by rw [List.length_set]; exact h3) (by rw [List.length_set]; exact h4)
      (fun j hj => by
       rw [getD_set' _ _ _ _ _ (by omega), getD_set' _ _ _ _ _ (by omega), ho j hj]
       by_cases q : j = k.toNat
       ·rw [if_pos q, if_pos (by omega)]
       ·rw [if_neg q, if_neg (by omega)])
      (fun j hj => by
       rw [getD_set' _ _ _ _ _ h3, getD_set' _ _ _ _ _ h4, if_neg (by omega), if_neg (by omega)]
       exact hd j hj) hb
      (by rw [getD_set' _ _ _ _ _ h4, if_pos rfl, hd _ hki]; omega)
     refine ⟨o1', d1', ?_, ?_⟩
     ·simp only [List.map_cons, kidLoop]
      rw [e1, if_neg (by omega), if_neg (by omega), e2, if_neg (by rw [ho _ hki]; exact hno)]
      exact e
     ·refine ⟨by rw [r.ol, List.length_set], by rw [r.dl, List.length_set], by rw [r.ol', List.length_set], by rw [r.dl', List.length_set], r.oo, fun j hj => ?_, fun j hj => ?_, fun j hj => ?_, fun j hj => ?_, r.dm, fun q => r.de ?_⟩
      ·rw [r.ox j hj, getD_set' _ _ _ _ _ (by omega), if_neg (by omega)]
      ·rw [r.oz j hj, getD_set' _ _ _ _ _ (by omega), if_neg (by omega)]
      ·rw [r.dx j hj, getD_set' _ _ _ _ _ h3, if_neg hj]
      ·rw [r.dz j hj, getD_set' _ _ _ _ _ h4, if_neg hj]
      ·rw [getD_set' _ _ _ _ _ h4, getD_set' _ _ _ _ _ h3, if_pos rfl, if_pos rfl, q, hd _ hki]
structure SR (off i lx lz : Nat) (f : Nat → Bool) (g : Nat → Int) (o o' : List Bool) (d d' : List Int) : Prop where
 ol : o.length = lx
 dl : d.length = lx
 ol' : o'.length = lz
 dl' : d'.length = lz
 oo : ∀ j, j < i → o'.getD (off + j) false = o.getD j false
 dd : ∀ j, j < i → d'.getD (off + j) 0 = d.getD j 0
 od : ∀ j, i ≤ j → o.getD j false = false
 zd : ∀ j, i ≤ j → d.getD j 0 = 0
 od' : ∀ j, off + i ≤ j → o'.getD j false = false
 zd' : ∀ j, off + i ≤ j → d'.getD j 0 = 0
 fr : ∀ j, j < off → o'.getD j false = f j
 gr : ∀ j, j < off → d'.getD j 0 = g j
theorem run_cons {form : Nd → Bool} {good : List Nd → Nd → Bool} {nodes ns : List Nd} {n : Nd} {i : Nat} {o o1 : List Bool} {d d1 : List Int} (hf : form n = true) (hk : kidLoop i n.kids o d = .inr (o1, d1)) (hg : good nodes n = true) (hd : d1.getD i 0 ≤ 200) : runG form good nodes (n :: ns) i o d = runG form good nodes ns (i + 1) o1 d1 := by
 simp only [runG]
 rw [if_neg (by rw [hf]; decide), hk]
 simp only
 rw [if_neg (by rw [hg]; decide), if_neg (by omega)]
theorem run_inv {form : Nd → Bool} {good : List Nd → Nd → Bool} {nodes ns : List Nd} {n : Nd} {i : Nat} {o : List Bool} {d : List Int} (h : runG form good nodes (n :: ns) i o d = (0, 0)) : ∃ o1 d1, form n = true ∧ kidLoop i n.kids o d = .inr (o1, d1) ∧ good nodes n = true ∧ d1.getD i 0 ≤ 200 ∧ runG form good nodes ns (i + 1) o1 d1 = (0, 0) := by
 simp only [runG] at h
 split at h
 ·exact absurd (show (5 : Int) = 0 from congrArg Prod.fst h) (by decide)
 ·rename_i hf
  split at h
  ·rename_i c hc; exact absurd (congrArg Prod.fst h) (kidLoop_code _ _ _ _ _ hc)
  ·rename_i o1 d1 hk
   split at h
   ·exact absurd (show (30 : Int) = 0 from congrArg Prod.fst h) (by decide)
   ·rename_i hg
    split at h
    ·exact absurd (show (6 : Int) = 0 from congrArg Prod.fst h) (by decide)
    ·rename_i hd
     exact ⟨o1, d1, by simpa using hf, hk, by simpa using hg, by omega, h⟩
theorem seg {off p lx lz : Nat} {f : Nat → Bool} {g : Nat → Int} {nx nz : List Nd} (w : Win off p nx nz) (hlx : p < lx) (hlz : off + p ≤ lz) (rx rz : List Nd) : ∀ (ns ns' : List Nd) (i : Nat) (o o' : List Bool) (d d' : List Int), NdsR off ns ns' → i + ns.length ≤ p → SR off i lx lz f g o o' d d' →
  runG formL kidsL nx (ns ++ rx) i o d = (0, 0) → ∃ o1 o1' d1 d1', SR off (i + ns.length) lx lz f g o1 o1' d1 d1' ∧ runG formL kidsL nx rx (i + ns.length) o1 d1 = (0, 0) ∧ runG formL kidsL nz (ns' ++ rz) (off + i) o' d' = runG formL kidsL nz rz (off + (i + ns.length)) o1' d1'
 | [], ns', i, o, o', d, d', hn, hp, s, h => by
  have e : ns' = [] := List.length_eq_zero_iff.1 hn.1
  subst e
  exact ⟨o, o', d, d', s, h, rfl⟩
 | n :: ns, [], i, o, o', d, d', hn, hp, s, h => by have := hn.1; simp at this
 | n :: ns, n' :: ns', i, o, o', d, d', hn, hp, s, h => by
  have hnn : NdR off n n' := hn.2 0 n n' rfl rfl
  simp only [List.length_cons] at hp
  obtain ⟨o1, d1, hf, hk, hg, hd, hr⟩ := run_inv (ns := ns ++ rx) h
  have hz := s.zd' (off + i) (Nat.le_refl _)
  obtain ⟨o1', d1', hk', r⟩ := kl_sim (off := off) (i' := off + i) (Nat.le_refl _) hk (by rw [s.ol]; omega) (by rw [s.ol']; omega) (by rw [s.dl]; omega) (by rw [s.dl']; omega) s.oo s.dd hd (by rw [hz]; decide)
  rw [← hnn.kids] at hk'
  have hg' : kidsL nz n' = true := kids_sim w hnn (fun k hm => by have := kl_range hk k hm; omega) hg
  have s1 : SR off (i + 1) lx lz f g o1 o1' d1 d1' := by
   refine ⟨by rw [r.ol, s.ol], by rw [r.dl, s.dl], by rw [r.ol', s.ol'], by rw [r.dl', s.dl'], fun j hj => ?_, fun j hj => ?_, fun j hj => ?_, fun j hj => ?_, fun j hj => ?_, fun j hj => ?_, fun j hj => ?_, fun j hj => ?_⟩
   ·by_cases q : j < i
    ·exact r.oo j q
    ·rw [r.oz _ (by omega), r.ox _ (by omega), s.od' _ (by omega), s.od _ (by omega)]
   ·by_cases q : j < i
    ·rw [r.dz _ (by omega), r.dx _ (by omega)]; exact s.dd j q
    ·have e : j = i := by omega
     subst e
     exact r.de (by rw [hz, s.zd _ (Nat.le_refl _)])
   ·rw [r.ox _ (by omega)]; exact s.od _ (by omega)
   ·rw [r.dx _ (by omega)]; exact s.zd _ (by omega)
   ·rw [r.oz _ (by omega)]; exact s.od' _ (by omega)
   ·rw [r.dz _ (by omega)]; exact s.zd' _ (by omega)
   ·rw [r.oz _ (by omega)]; exact s.fr j hj
   ·rw [r.dz _ (by omega)]; exact s.gr j hj
  obtain ⟨o2, o2', d2, d2', q1, q2, q3⟩ := seg w hlx hlz rx rz ns ns' (i + 1) o1 o1' d1 d1' ⟨by have := hn.1; simpa using this, fun j x y hx hy => hn.2 (j + 1) x y hx hy⟩ (by omega) s1 hr
  have e : i + (n :: ns).length = i + 1 + ns.length := by simp only [List.length_cons]; omega
  rw [e]
  refine ⟨o2, o2', d2, d2', q1, q2, ?_⟩
  rw [← q3]
  exact run_cons (form_sim hnn hf) hk' hg' r.dm
end Go.Proofs.YtcbgpjlcfkkdlaaGreatDoor

