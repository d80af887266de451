import Derived.Test.YtcbgpjlcfkkdlaaGreatDoorSAT
import Derived.Test.YtcbgpjlcfkkdlaaGreatDoorSBA
import Derived.Test.YtcbgpjlcfkkdlaaGreatDoorSBB
import Derived.Test.YtcbgpjlcfkkdlaaGreatDoorSBC
import Derived.Test.YtcbgpjlcfkkdlaaGreatDoorSBD
import Derived.Test.YtcbgpjlcfkkdlaaGreatDoorSBE
import Derived.Test.YtcbgpjlcfkkdlaaGreatDoorSBF
import Derived.Test.YtcbgpjlcfkkdlaaGreatDoorSBG
set_option linter.unusedSimpArgs false
set_option linter.unusedVariables false
set_option maxRecDepth 100000
set_option maxHeartbeats 16000000
namespace Go.Proofs.YtcbgpjlcfkkdlaaGreatDoor
open Go Go.AL Go.Proofs
theorem paren_w (T : List Tk) (tt : Tok) (n : Nat) (ih : ∀ m op, m ≤ n → Meth T tt m op) : Meth T tt (n + 1) .paren := by
 refine Meth.of fun S l S' q r t1 t2 B h o R hR=>?_
 simp only[run,Z]at q
 refine acalls_of Tryz.func115 rfl Tryz.ntmps115 (congrArg Array.toList Tryz.results115) fun Q hQ => ?_
 have r1:=o.own.blk
 (focus repeat' first|refine ga ?_|(refine gb ?_;try simp[gz, *])|refine gk fun _ _=>?_|refine gc ?_ ?_|exact gr _|refine gi fun _=>?_|(refine gn ?_ ?_;focus(intros;simp[*];done)))
 refine o.must [40] fun k1 S1 e1 o1 r2=>?_
 try simp only[e1,Z]at q
 clear o r1 e1
 simp [gz, *]
 (focus repeat' first|refine ga ?_|(refine gb ?_;try simp[gz, *])|refine gk fun _ _=>?_|refine gc ?_ ?_|exact gr _|refine gi fun _=>?_|(refine gn ?_ ?_;focus(intros;simp[*];done)))
 obtain ⟨l1,S2,h1,q⟩:=bo2 q
 refine o1.call (ih _ _ (by omega)) h1 fun k2 u1 u2 v1 e2 o2 r3=>?_
 try simp only[e2,Z]at q
 clear o1 r2 h1
 simp [gz, *]
 (focus repeat' first|refine ga ?_|(refine gb ?_;try simp[gz, *])|refine gk fun _ _=>?_|refine gc ?_ ?_|exact gr _|refine gi fun _=>?_|(refine gn ?_ ?_;focus(intros;simp[*];done)))
 refine o2.must [41] fun k3 S3 e3 o3 r4=>?_
 try simp only[e3,Z]at q
 clear o2 r3 e3
 obtain ⟨rfl,rfl⟩:=fi q
 subst e2
 simp [gz, *]
 (focus repeat' first|refine ga ?_|(refine gb ?_;try simp[gz, *])|refine gk fun _ _=>?_|refine gc ?_ ?_|exact gr _|refine gi fun _=>?_|(refine gn ?_ ?_;focus(intros;simp[*];done)))
 exact hR.out _ _ _ o3.fin
end Go.Proofs.YtcbgpjlcfkkdlaaGreatDoor

namespace Go.Proofs.YtcbgpjlcfkkdlaaGreatDoor
open Go Go.AL Go.Proofs
theorem block_w (T : List Tk) (tt : Tok) (n : Nat) (hn : n ≤ 1000000) (ih : ∀ m op, m ≤ n → Meth T tt m op) : Meth T tt (n + 1) .block := by
 refine Meth.of fun S l S' q r t1 t2 B h o R hR=>?_
 simp only[run,Z]at q
 obtain ⟨a,ht_a⟩:∃ x,Sh (peekL T S=x):=⟨_,⟨rfl⟩⟩
 try simp only[ht_a.out,Z]at q
 refine acalls_of Tryz.func47 rfl Tryz.ntmps47 (congrArg Array.toList Tryz.results47) fun Q hQ => ?_
 have r1:=o.own.blk
 (focus repeat' first|refine ga ?_|(refine gb ?_;try simp[gz, *])|refine gk fun _ _=>?_|refine gc ?_ ?_|exact gr _|refine gi fun _=>?_|(refine gn ?_ ?_;focus(intros;simp[*];done)))
 refine o.peek ht_a ?_
 simp [gz, *]
 (focus repeat' first|refine ga ?_|(refine gb ?_;try simp[gz, *])|refine gk fun _ _=>?_|refine gc ?_ ?_|exact gr _|refine gi fun _=>?_|(refine gn ?_ ?_;focus(intros;simp[*];done)))
 refine o.must [123] fun k1 S1 e1 o1 r2=>?_
 try simp only[e1,Z]at q
 clear o r1 e1
 simp [gz, *]
 (focus repeat' first|refine ga ?_|(refine gb ?_;try simp[gz, *])|refine gk fun _ _=>?_|refine gc ?_ ?_|exact gr _|refine gi fun _=>?_|(refine gn ?_ ?_;focus(intros;simp[*];done)))
 obtain ⟨l1,S2,h1,qo1⟩:=bo2 q
 clear q
 refine awp_loop_h [4,10,11,12,13,14,15,16,17,18,19,20,21] (fun m x g=>∃ (a:Nat) (Sq:St) (kids:List Int) (w1 w2 tk:Tok),a ≤ n ∧ m=a ∧ Sh (run T a (.blockLoop kids) Sq=some (l1,S2)) ∧ Cur B (Heap.bk B tk) g T tt S Sq r w1 w2 (kids) ∧ Lf B B tk ∧ kids.length+2*a ≤ 2*n+0 ∧ x 4=.list 1 (ints kids) tk) n
  ⟨n,_,[],t1,t2,.nil,by omega,rfl,h1,Cur.wk o1,o1.lf,by first|(simp;done)|(simp;omega),rfl⟩ fun m x g hI K hK=>?_
 clear o1 h1 r2
 obtain ⟨a,Sq,kids,w1,w2,tk,hq,rfl,q,o2,lf1,hkl,hx⟩:=hI
 obtain ⟨p,rfl⟩:=run_pos q
 simp only[run,Z]at q
 have r3:=o2.own.blk
 by_cases hgo:Sq.fc=0 ∧ isL T [125] Sq=false
 have hfd:=decide_eq_true hgo.1
 have hil0:=hgo.2
 rw [if_pos hgo]at q
 clear hgo
 refine awp_eqs (s' := [_,_,_,_,x 4,_,_,_,_,_,x 10,x 11,x 12,x 13,x 14,x 15,x 16,x 17,x 18,x 19,x 20,x 21,_,_,_,_,_,_]) rfl ?_
 (focus repeat' first|refine ga ?_|(refine gb ?_;try simp[gz, *])|refine gk fun _ _=>?_|refine gc ?_ ?_|exact gr _|refine gi fun _=>?_|(refine gn ?_ ?_;focus(intros;simp[*];done)))
 refine o2.ok ?_
 simp [gz, *]
 (focus repeat' first|refine ga ?_|(refine gb ?_;try simp[gz, *])|refine gk fun _ _=>?_|refine gc ?_ ?_|exact gr _|refine gi fun _=>?_|(refine gn ?_ ?_;focus(intros;simp[*];done)))
 refine o2.is [125] ?_
 simp [gz, *]
 (focus repeat' first|refine ga ?_|(refine gb ?_;try simp[gz, *])|refine gk fun _ _=>?_|refine gc ?_ ?_|exact gr _|refine gi fun _=>?_|(refine gn ?_ ?_;focus(intros;simp[*];done)))
 clear hfd hil0
 obtain ⟨l2,S3,h2,q⟩:=bo2 q
 refine o2.call (ih _ _ (by omega)) h2 fun k2 u1 u2 v1 e2 o3 r4=>?_
 try simp only[e2,Z]at q
 clear o2 r3 h2
 simp [gz, *]
 (focus repeat' first|refine ga ?_|(refine gb ?_;try simp[gz, *])|refine gk fun _ _=>?_|refine gc ?_ ?_|exact gr _|refine gi fun _=>?_|(refine gn ?_ ?_;focus(intros;simp[*];done)))
 refine .inl ⟨o3.tin lf1,fun ab1 ak1 ae1 hb=>?_⟩
 obtain ⟨o5,lf2⟩:=o3.grow lf1 (k:=ak1) (e:=ae1) hb
 generalize (tk.rid k2).set ab1 (.spare ak1 ae1)=k3 at o5 ⊢
 clear hb o3 r4
 have r5:=o5.own.blk
 simp [gz, *]
 (focus repeat' first|refine ga ?_|(refine gb ?_;try simp[gz, *])|refine gk fun _ _=>?_|refine gc ?_ ?_|exact gr _|refine gi fun _=>?_|(refine gn ?_ ?_;focus(intros;simp[*];done)))
 exact ⟨by kernel_rfl,rfl,p,_,by omega,Sub.refl _,p,_,kids ++ [v1],u1,u2,(Tok.own ab1 ak1 ae1),by omega,rfl,q,Cur.wk o5,lf2,by simp;omega,by first|rfl|simp⟩
 rw [if_neg hgo]at q
 obtain ⟨rfl,rfl⟩:=fi q
 clear q
 have q:=qo1
 simp only[Z]at q
 cases hfd:decide (Sq.fc=0)
 clear hgo
 refine awp_eqs (s' := [_,_,_,_,x 4,_,_,_,_,_,x 10,x 11,x 12,x 13,x 14,x 15,x 16,x 17,x 18,x 19,x 20,x 21,_,_,_,_,_,_]) rfl ?_
 (focus repeat' first|refine ga ?_|(refine gb ?_;try simp[gz, *])|refine gk fun _ _=>?_|refine gc ?_ ?_|exact gr _|refine gi fun _=>?_|(refine gn ?_ ?_;focus(intros;simp[*];done)))
 refine o2.ok ?_
 simp [gz, *]
 (focus repeat' first|refine ga ?_|(refine gb ?_;try simp[gz, *])|refine gk fun _ _=>?_|refine gc ?_ ?_|exact gr _|refine gi fun _=>?_|(refine gn ?_ ?_;focus(intros;simp[*];done)))
 refine o2.must [125] fun k4 S4 e3 o6 r6=>?_
 try simp only[e3,Z]at q
 clear o2 r3 e3
 simp [gz, *]
 (focus repeat' first|refine ga ?_|(refine gb ?_;try simp[gz, *])|refine gk fun _ _=>?_|refine gc ?_ ?_|exact gr _|refine gi fun _=>?_|(refine gn ?_ ?_;focus(intros;simp[*];done)))
 refine o6.add 26 a.pos [] 0 kids (fun k5 u3 u4 v2 S5 e4 o7 r7=>?_) (hl:=(by omega))
 try simp only[e4,Z]at q
 clear o6 r6 e4
 obtain ⟨rfl,rfl⟩:=fi q
 simp [gz, *]
 (focus repeat' first|refine ga ?_|(refine gb ?_;try simp[gz, *])|refine gk fun _ _=>?_|refine gc ?_ ?_|exact gr _|refine gi fun _=>?_|(refine gn ?_ ?_;focus(intros;simp[*];done)))
 exact hR.out _ _ _ o7.fin
 have hil0:isL T [125] Sq=true:=by
  cases e:isL T [125] Sq
  · exact absurd ⟨of_decide_eq_true hfd,e⟩ hgo
  · rfl
 clear hgo
 refine awp_eqs (s' := [_,_,_,_,x 4,_,_,_,_,_,x 10,x 11,x 12,x 13,x 14,x 15,x 16,x 17,x 18,x 19,x 20,x 21,_,_,_,_,_,_]) rfl ?_
 (focus repeat' first|refine ga ?_|(refine gb ?_;try simp[gz, *])|refine gk fun _ _=>?_|refine gc ?_ ?_|exact gr _|refine gi fun _=>?_|(refine gn ?_ ?_;focus(intros;simp[*];done)))
 refine o2.ok ?_
 simp [gz, *]
 (focus repeat' first|refine ga ?_|(refine gb ?_;try simp[gz, *])|refine gk fun _ _=>?_|refine gc ?_ ?_|exact gr _|refine gi fun _=>?_|(refine gn ?_ ?_;focus(intros;simp[*];done)))
 refine o2.is [125] ?_
 simp [gz, *]
 (focus repeat' first|refine ga ?_|(refine gb ?_;try simp[gz, *])|refine gk fun _ _=>?_|refine gc ?_ ?_|exact gr _|refine gi fun _=>?_|(refine gn ?_ ?_;focus(intros;simp[*];done)))
 refine o2.must [125] fun k6 S6 e5 o8 r8=>?_
 try simp only[e5,Z]at q
 clear o2 r3 e5
 simp [gz, *]
 (focus repeat' first|refine ga ?_|(refine gb ?_;try simp[gz, *])|refine gk fun _ _=>?_|refine gc ?_ ?_|exact gr _|refine gi fun _=>?_|(refine gn ?_ ?_;focus(intros;simp[*];done)))
 refine o8.add 26 a.pos [] 0 kids (fun k7 u5 u6 v3 S7 e6 o9 r9=>?_) (hl:=(by omega))
 try simp only[e6,Z]at q
 clear o8 r8 e6
 obtain ⟨rfl,rfl⟩:=fi q
 simp [gz, *]
 (focus repeat' first|refine ga ?_|(refine gb ?_;try simp[gz, *])|refine gk fun _ _=>?_|refine gc ?_ ?_|exact gr _|refine gi fun _=>?_|(refine gn ?_ ?_;focus(intros;simp[*];done)))
 exact hR.out _ _ _ o9.fin
end Go.Proofs.YtcbgpjlcfkkdlaaGreatDoor

namespace Go.Proofs.YtcbgpjlcfkkdlaaGreatDoor
open Go Go.AL Go.Proofs
theorem expr_w (T : List Tk) (tt : Tok) (n : Nat) (ih : ∀ m op, m ≤ n → Meth T tt m op) : Meth T tt (n + 1) .expr := by
 refine Meth.of fun S l S' q r t1 t2 B h o R hR=>?_
 simp only[run,Z]at q
 refine acalls_ofD Tryz.func49 rfl Tryz.ntmps49 (congrArg Array.toList Tryz.results49) fun Q hQ => ?_
 have r1:=o.own.blk
 (focus repeat' first|refine ga ?_|(refine gb ?_;try simp[gz, *])|refine gk fun _ _=>?_|refine gc ?_ ?_|exact gr _|refine gi fun _=>?_|(refine gn ?_ ?_;focus(intros;simp[*];done)))
 refine o.down fun k1 S1 e1 o1 r2=>?_
 try simp only[e1,Z]at q
 clear o r1 e1
 simp [gz, *]
 (focus repeat' first|refine ga ?_|(refine gb ?_;try simp[gz, *])|refine gk fun _ _=>?_|refine gc ?_ ?_|exact gr _|refine gi fun _=>?_|(refine gn ?_ ?_;focus(intros;simp[*];done)))
 cases d1:decide (S1.fc = 0)
 try simp only[ef d1,d1,Z]at q
 refine o1.ok ?_
 obtain ⟨rfl,rfl⟩:=fi q
 simp [gz, *]
 (focus repeat' first|refine ga ?_|(refine gb ?_;try simp[gz, *])|refine gk fun _ _=>?_|refine gc ?_ ?_|exact gr _|refine gi fun _=>?_|(refine gn ?_ ?_;focus(intros;simp[*];done)))
 refine o1.upd fun k2 o2=>?_
 exact hR.out _ _ _ o2.fin
 try simp only[et d1,d1,Z]at q
 refine o1.ok ?_
 obtain ⟨a,ht_a⟩:∃ x,Sh (peekL T S1=x):=⟨_,⟨rfl⟩⟩
 try simp only[ht_a.out,Z]at q
 simp [gz, *]
 (focus repeat' first|refine ga ?_|(refine gb ?_;try simp[gz, *])|refine gk fun _ _=>?_|refine gc ?_ ?_|exact gr _|refine gi fun _=>?_|(refine gn ?_ ?_;focus(intros;simp[*];done)))
 refine o1.peek ht_a ?_
 simp [gz, *]
 (focus repeat' first|refine ga ?_|(refine gb ?_;try simp[gz, *])|refine gk fun _ _=>?_|refine gc ?_ ?_|exact gr _|refine gi fun _=>?_|(refine gn ?_ ?_;focus(intros;simp[*];done)))
 obtain ⟨l1,S2,h1,q⟩:=bo2 q
 refine o1.call (ih _ _ (by omega)) h1 fun k3 u1 u2 v1 e2 o3 r3=>?_
 try simp only[e2,Z]at q
 clear o1 r2 h1
 obtain ⟨t,ht_t⟩:∃ x,Sh (peekL T S2=x):=⟨_,⟨rfl⟩⟩
 try simp only[ht_t.out,Z]at q
 simp [gz, *]
 (focus repeat' first|refine ga ?_|(refine gb ?_;try simp[gz, *])|refine gk fun _ _=>?_|refine gc ?_ ?_|exact gr _|refine gi fun _=>?_|(refine gn ?_ ?_;focus(intros;simp[*];done)))
 refine o3.peek ht_t ?_
 simp [gz, *]
 intro b5 zb5
 obtain ⟨n_r_b5,n_b5_r⟩:=o3.ne zb5
 have yb5:=o3.y zb5
 have o4:=o3.new zb5 (.cells (tkRow t))
 clear o3 zb5
 try simp [gz, *]
 cases d2:decide (t.kind = 5)
 try simp only[ef d2,d2,Z]at q
 obtain ⟨rfl,rfl⟩:=fi q
 subst e2
 (focus repeat' first|refine ga ?_|(refine gb ?_;try simp[gz, *])|refine gk fun _ _=>?_|refine gc ?_ ?_|exact gr _|refine gi fun _=>?_|(refine gn ?_ ?_;focus(intros;simp[*];done)))
 refine o4.upd fun k4 o5=>?_
 exact hR.out _ _ _ o5.fin
 try simp only[et d2,d2,Z]at q
 cases hta:isAssign t.text
 try simp only[hta,Z]at q
 (focus repeat' first|refine ga ?_|(refine gb ?_;try simp[gz, *])|refine gk fun _ _=>?_|refine gc ?_ ?_|exact gr _|refine gi fun _=>?_|(refine gn ?_ ?_;focus(intros;simp[*];done)))
 refine o4.settle fun k5 o6 r4=>?_
 have p1:=o6.b1
 clear o4 r3
 refine Assign_c t.text _ o6.i0 _ ?_
 rw [isAssign_eq,hta]
 obtain ⟨rfl,rfl⟩:=fi q
 subst e2
 simp [gz, *]
 (focus repeat' first|refine ga ?_|(refine gb ?_;try simp[gz, *])|refine gk fun _ _=>?_|refine gc ?_ ?_|exact gr _|refine gi fun _=>?_|(refine gn ?_ ?_;focus(intros;simp[*];done)))
 refine o6.upd fun k6 o7=>?_
 exact hR.out _ _ _ o7.fin
 try simp only[hta,Z]at q
 (focus repeat' first|refine ga ?_|(refine gb ?_;try simp[gz, *])|refine gk fun _ _=>?_|refine gc ?_ ?_|exact gr _|refine gi fun _=>?_|(refine gn ?_ ?_;focus(intros;simp[*];done)))
 refine o4.settle fun k7 o8 r5=>?_
 have p2:=o8.b1
 clear o4 r3
 refine Assign_c t.text _ o8.i0 _ ?_
 rw [isAssign_eq,hta]
 simp [gz, *]
 (focus repeat' first|refine ga ?_|(refine gb ?_;try simp[gz, *])|refine gk fun _ _=>?_|refine gc ?_ ?_|exact gr _|refine gi fun _=>?_|(refine gn ?_ ?_;focus(intros;simp[*];done)))
 cases d3:isTarget (kindL S2 v1)
 try simp only[d3,Z]at q
 refine o8.kind v1 ?_
 simp [gz, *]
 (focus repeat' first|refine ga ?_|(refine gb ?_;try simp[gz, *])|refine gk fun _ _=>?_|refine gc ?_ ?_|exact gr _|refine gi fun _=>?_|(refine gn ?_ ?_;focus(intros;simp[*];done)))
 refine target_k d3 ?_
 simp [gz, *]
 (focus repeat' first|refine ga ?_|(refine gb ?_;try simp[gz, *])|refine gk fun _ _=>?_|refine gc ?_ ?_|exact gr _|refine gi fun _=>?_|(refine gn ?_ ?_;focus(intros;simp[*];done)))
 refine o8.wrong 30 fun k8 S3 e3 o9 r6=>?_
 try simp only[e3,Z]at q
 have p3:=o9.b1
 clear o8 r5 p2 e3
 obtain ⟨rfl,rfl⟩:=fi q
 subst e2
 simp [gz, *]
 (focus repeat' first|refine ga ?_|(refine gb ?_;try simp[gz, *])|refine gk fun _ _=>?_|refine gc ?_ ?_|exact gr _|refine gi fun _=>?_|(refine gn ?_ ?_;focus(intros;simp[*];done)))
 refine o9.upd fun k9 o10=>?_
 exact hR.out _ _ _ o10.fin
 try simp only[d3,Z]at q
 refine o8.kind v1 ?_
 simp [gz, *]
 (focus repeat' first|refine ga ?_|(refine gb ?_;try simp[gz, *])|refine gk fun _ _=>?_|refine gc ?_ ?_|exact gr _|refine gi fun _=>?_|(refine gn ?_ ?_;focus(intros;simp[*];done)))
 refine target_k d3 ?_
 have w1:=o8.good.rd.w1
 simp [gz, *]
 (focus repeat' first|refine ga ?_|(refine gb ?_;try simp[gz, *])|refine gk fun _ _=>?_|refine gc ?_ ?_|exact gr _|refine gi fun _=>?_|(refine gn ?_ ?_;focus(intros;simp[*];done)))
 have o11:=o8.stepped (kk ht_t d2)
 clear o8
 refine o11.settleA fun k10 o12 r7=>?_
 have p4:=o12.b1
 clear o11 r5 p2 w1
 have o13:=(o12.minus yb5)
 refine awp_region_draw [b5] [(0,true),(1,true),(2,true),(3,true),(4,true),(5,true),(6,false),(7,false),(8,false)] [9] follows (by kernel_rfl) rfl (by kernel_rfl) ?_; simp [gz, *]
 clear o12
 (focus repeat' first|refine ga ?_|(refine gb ?_;try simp[gz, *])|refine gk fun _ _=>?_|refine gc ?_ ?_|exact gr _|refine gi fun _=>?_|(refine gn ?_ ?_;focus(intros;simp[*];done)))
 obtain ⟨l2,S4,h2,q⟩:=bo2 q
 refine o13.call (ih _ _ (by omega)) h2 fun k11 u3 u4 v2 e4 o14 r8=>?_
 try simp only[e4,Z]at q
 clear o13 h2 e2
 simp [gz, *]
 intro hn1
 rw [show (k11.plus [b5] k10).minus [b5]=k11 from minus_of_none (by simp[hn1])]
 clear hn1
 refine o14.add 12 a.pos t.text 0 [v1, v2] (fun k12 u5 u6 v3 S5 e5 o15 r9=>?_)
 try simp only[e5,Z]at q
 clear o14 r8 e5 e4
 simp [gz, *]
 intro hn2
 rw [show k12.plus [b5] (k11.plus [b5] k10)=_ from plus_one (x:=.cells (tkRow t)) (by simp[*])]
 have o16:=o15.new hn2 (.cells (tkRow t))
 clear o15 r7 p4
 obtain ⟨rfl,rfl⟩:=fi q
 (focus repeat' first|refine ga ?_|(refine gb ?_;try simp[gz, *])|refine gk fun _ _=>?_|refine gc ?_ ?_|exact gr _|refine gi fun _=>?_|(refine gn ?_ ?_;focus(intros;simp[*];done)))
 refine o16.upd fun k13 o17=>?_
 exact hR.out _ _ _ o17.fin
end Go.Proofs.YtcbgpjlcfkkdlaaGreatDoor

namespace Go.Proofs.YtcbgpjlcfkkdlaaGreatDoor
open Go Go.AL Go.Proofs
theorem body_w (T : List Tk) (tt : Tok) (n : Nat) (ih : ∀ m op, m ≤ n → Meth T tt m op) : Meth T tt (n + 1) .body := by
 refine Meth.of fun S l S' q r t1 t2 B h o R hR=>?_
 simp only[run,Z]at q
 refine acalls_of Tryz.func116 rfl Tryz.ntmps116 (congrArg Array.toList Tryz.results116) fun Q hQ => ?_
 have r1:=o.own.blk
 (focus repeat' first|refine ga ?_|(refine gb ?_;try simp[gz, *])|refine gk fun _ _=>?_|refine gc ?_ ?_|exact gr _|refine gi fun _=>?_|(refine gn ?_ ?_;focus(intros;simp[*];done)))
 cases c1:isL T [123] S
 try simp only[c1,Z]at q
 refine o.is [123] ?_
 obtain ⟨a,ht_a⟩:∃ x,Sh (peekL T S=x):=⟨_,⟨rfl⟩⟩
 try simp only[ht_a.out,Z]at q
 simp [gz, *]
 (focus repeat' first|refine ga ?_|(refine gb ?_;try simp[gz, *])|refine gk fun _ _=>?_|refine gc ?_ ?_|exact gr _|refine gi fun _=>?_|(refine gn ?_ ?_;focus(intros;simp[*];done)))
 refine o.peek ht_a ?_
 simp [gz, *]
 (focus repeat' first|refine ga ?_|(refine gb ?_;try simp[gz, *])|refine gk fun _ _=>?_|refine gc ?_ ?_|exact gr _|refine gi fun _=>?_|(refine gn ?_ ?_;focus(intros;simp[*];done)))
 obtain ⟨l1,S1,h1,q⟩:=bo2 q
 refine o.call (ih _ _ (by omega)) h1 fun k1 u1 u2 v1 e1 o1 r2=>?_
 try simp only[e1,Z]at q
 clear o r1 h1
 simp [gz, *]
 (focus repeat' first|refine ga ?_|(refine gb ?_;try simp[gz, *])|refine gk fun _ _=>?_|refine gc ?_ ?_|exact gr _|refine gi fun _=>?_|(refine gn ?_ ?_;focus(intros;simp[*];done)))
 refine o1.add 26 a.pos [] 0 [v1] (fun k2 u3 u4 v2 S2 e2 o2 r3=>?_)
 try simp only[e2,Z]at q
 clear o1 r2 e2 e1
 obtain ⟨rfl,rfl⟩:=fi q
 simp [gz, *]
 (focus repeat' first|refine ga ?_|(refine gb ?_;try simp[gz, *])|refine gk fun _ _=>?_|refine gc ?_ ?_|exact gr _|refine gi fun _=>?_|(refine gn ?_ ?_;focus(intros;simp[*];done)))
 exact hR.out _ _ _ o2.fin
 try simp only[c1,Z]at q
 refine o.is [123] ?_
 simp [gz, *]
 (focus repeat' first|refine ga ?_|(refine gb ?_;try simp[gz, *])|refine gk fun _ _=>?_|refine gc ?_ ?_|exact gr _|refine gi fun _=>?_|(refine gn ?_ ?_;focus(intros;simp[*];done)))
 refine o.tail (ih _ _ (by omega)) q fun k3 u5 u6 o3 r4=>?_
 clear o r1
 simp [gz, *]
 (focus repeat' first|refine ga ?_|(refine gb ?_;try simp[gz, *])|refine gk fun _ _=>?_|refine gc ?_ ?_|exact gr _|refine gi fun _=>?_|(refine gn ?_ ?_;focus(intros;simp[*];done)))
 exact hR.out _ _ _ o3.fin
end Go.Proofs.YtcbgpjlcfkkdlaaGreatDoor

namespace Go.Proofs.YtcbgpjlcfkkdlaaGreatDoor
open Go Go.AL Go.Proofs
theorem function_w (T : List Tk) (tt : Tok) (n : Nat) (ih : ∀ m op, m ≤ n → Meth T tt m op) : Meth T tt (n + 1) .function := by
 refine Meth.of fun S l S' q r t1 t2 B h o R hR=>?_
 simp only[run,Z]at q
 obtain ⟨a,ht_a⟩:∃ x,Sh (peekL T S=x):=⟨_,⟨rfl⟩⟩
 try simp only[ht_a.out,Z]at q
 refine acalls_of Tryz.func120 rfl Tryz.ntmps120 (congrArg Array.toList Tryz.results120) fun Q hQ => ?_
 have r1:=o.own.blk
 (focus repeat' first|refine ga ?_|(refine gb ?_;try simp[gz, *])|refine gk fun _ _=>?_|refine gc ?_ ?_|exact gr _|refine gi fun _=>?_|(refine gn ?_ ?_;focus(intros;simp[*];done)))
 refine o.peek ht_a ?_
 simp [gz, *]
 (focus repeat' first|refine ga ?_|(refine gb ?_;try simp[gz, *])|refine gk fun _ _=>?_|refine gc ?_ ?_|exact gr _|refine gi fun _=>?_|(refine gn ?_ ?_;focus(intros;simp[*];done)))
 refine o.must [102, 117, 110, 99, 116, 105, 111, 110] fun k1 S1 e1 o1 r2=>?_
 try simp only[e1,Z]at q
 clear o r1 e1
 obtain ⟨u,ht_u⟩:∃ x,Sh (peekL T S1=x):=⟨_,⟨rfl⟩⟩
 try simp only[ht_u.out,Z]at q
 simp [gz, *]
 (focus repeat' first|refine ga ?_|(refine gb ?_;try simp[gz, *])|refine gk fun _ _=>?_|refine gc ?_ ?_|exact gr _|refine gi fun _=>?_|(refine gn ?_ ?_;focus(intros;simp[*];done)))
 refine o1.peek ht_u ?_
 cases d1:decide (u.kind = 1)
 try simp only[ef d1,d1,Z]at q
 simp [gz, *]
 (focus repeat' first|refine ga ?_|(refine gb ?_;try simp[gz, *])|refine gk fun _ _=>?_|refine gc ?_ ?_|exact gr _|refine gi fun _=>?_|(refine gn ?_ ?_;focus(intros;simp[*];done)))
 refine o1.tail (ih _ _ (by omega)) q fun k2 u1 u2 o2 r3=>?_
 clear o1 r2
 simp [gz, *]
 (focus repeat' first|refine ga ?_|(refine gb ?_;try simp[gz, *])|refine gk fun _ _=>?_|refine gc ?_ ?_|exact gr _|refine gi fun _=>?_|(refine gn ?_ ?_;focus(intros;simp[*];done)))
 exact hR.out _ _ _ o2.fin
 try simp only[et d1,d1,Z]at q
 simp [gz, *]
 (focus repeat' first|refine ga ?_|(refine gb ?_;try simp[gz, *])|refine gk fun _ _=>?_|refine gc ?_ ?_|exact gr _|refine gi fun _=>?_|(refine gn ?_ ?_;focus(intros;simp[*];done)))
 refine o1.name fun k3 x1 S2 e2 o3 r4=>?_
 try simp only[e2,Z]at q
 clear o1 r2 e2
 simp [gz, *]
 (focus repeat' first|refine ga ?_|(refine gb ?_;try simp[gz, *])|refine gk fun _ _=>?_|refine gc ?_ ?_|exact gr _|refine gi fun _=>?_|(refine gn ?_ ?_;focus(intros;simp[*];done)))
 refine o3.tail (ih _ _ (by omega)) q fun k4 u3 u4 o4 r5=>?_
 clear o3 r4
 simp [gz, *]
 (focus repeat' first|refine ga ?_|(refine gb ?_;try simp[gz, *])|refine gk fun _ _=>?_|refine gc ?_ ?_|exact gr _|refine gi fun _=>?_|(refine gn ?_ ?_;focus(intros;simp[*];done)))
 exact hR.out _ _ _ o4.fin
end Go.Proofs.YtcbgpjlcfkkdlaaGreatDoor

namespace Go.Proofs.YtcbgpjlcfkkdlaaGreatDoor
open Go Go.AL Go.Proofs
theorem some_w (T : List Tk) (tt : Tok) (n : Nat) (hn : n ≤ 1000000) (stop : List UInt8) (ih : ∀ m op, m ≤ n → Meth T tt m op) : Meth T tt (n + 1) (.some stop) := by
 refine Meth.some fun S l S' q r t1 t2 B h o R hR=>?_
 simp only[run,Z]at q
 refine acalls_of Tryz.func156 rfl Tryz.ntmps156 (congrArg Array.toList Tryz.results156) fun Q hQ => ?_
 have r1:=o.own.blk
 (focus repeat' first|refine ga ?_|(refine gb ?_;try simp[gz, *])|refine gk fun _ _=>?_|refine gc ?_ ?_|exact gr _|refine gi fun _=>?_|(refine gn ?_ ?_;focus(intros;simp[*];done)))
 obtain ⟨l1,S1,h1,qo1⟩:=bo2 q
 clear q
 refine awp_loop_h [5,6,7,8,9,10,11,12,13,14,15,16,17,18,19,20,21,22,23,24,25,26] (fun m x g=>∃ (a:Nat) (Sq:St) (kids:List Int) (w1 w2 tk:Tok),a ≤ n ∧ m=a ∧ Sh (run T a (.someLoop stop kids) Sq=some (l1,S1)) ∧ Cur B (Heap.bk B tk) g T tt S Sq r w1 w2 (kids) ∧ Lf B B tk ∧ kids.length+2*a ≤ 2*n+0 ∧ x 5=.list 1 (ints kids) tk) n
  ⟨n,_,[],t1,t2,.nil,by omega,rfl,h1,Cur.wk o,o.lf,by first|(simp;done)|(simp;omega),rfl⟩ fun m x g hI K hK=>?_
 clear o h1 r1
 obtain ⟨a,Sq,kids,w1,w2,tk,hq,rfl,q,o1,lf1,hkl,hx⟩:=hI
 obtain ⟨p,rfl⟩:=run_pos q
 simp only[run,Z]at q
 have r2:=o1.own.blk
 by_cases hgo:Sq.fc=0 ∧ isL T stop Sq=false
 have hfd:=decide_eq_true hgo.1
 have hil0:=hgo.2
 rw [if_pos hgo]at q
 clear hgo
 refine awp_eqs (s' := [_,_,_,_,_,x 5,x 6,x 7,x 8,x 9,x 10,x 11,x 12,x 13,x 14,x 15,x 16,x 17,x 18,x 19,x 20,x 21,x 22,x 23,x 24,x 25,x 26,_,_,_,_]) rfl ?_
 (focus repeat' first|refine ga ?_|(refine gb ?_;try simp[gz, *])|refine gk fun _ _=>?_|refine gc ?_ ?_|exact gr _|refine gi fun _=>?_|(refine gn ?_ ?_;focus(intros;simp[*];done)))
 refine o1.ok ?_
 simp [gz, *]
 (focus repeat' first|refine ga ?_|(refine gb ?_;try simp[gz, *])|refine gk fun _ _=>?_|refine gc ?_ ?_|exact gr _|refine gi fun _=>?_|(refine gn ?_ ?_;focus(intros;simp[*];done)))
 refine o1.is stop ?_
 simp [gz, *]
 (focus repeat' first|refine ga ?_|(refine gb ?_;try simp[gz, *])|refine gk fun _ _=>?_|refine gc ?_ ?_|exact gr _|refine gi fun _=>?_|(refine gn ?_ ?_;focus(intros;simp[*];done)))
 clear hfd hil0
 obtain ⟨l2,S2,h2,q⟩:=bo2 q
 refine o1.call (ih _ _ (by omega)) h2 fun k1 u1 u2 v1 e1 o2 r3=>?_
 try simp only[e1,Z]at q
 clear o1 r2 h2
 simp [gz, *]
 (focus repeat' first|refine ga ?_|(refine gb ?_;try simp[gz, *])|refine gk fun _ _=>?_|refine gc ?_ ?_|exact gr _|refine gi fun _=>?_|(refine gn ?_ ?_;focus(intros;simp[*];done)))
 refine .inl ⟨o2.tin lf1,fun ab1 ak1 ae1 hb=>?_⟩
 obtain ⟨o4,lf2⟩:=o2.grow lf1 (k:=ak1) (e:=ae1) hb
 generalize (tk.rid k1).set ab1 (.spare ak1 ae1)=k2 at o4 ⊢
 clear hb o2 r3
 have r4:=o4.own.blk
 simp [gz, *]
 (focus repeat' first|refine ga ?_|(refine gb ?_;try simp[gz, *])|refine gk fun _ _=>?_|refine gc ?_ ?_|exact gr _|refine gi fun _=>?_|(refine gn ?_ ?_;focus(intros;simp[*];done)))
 refine o4.eat [44] (fun c1 k3 o5 r5=>?_) fun c1 k3 S3 e2 z1 o5 r5=>?_
 try simp only[c1,Z]at q
 clear o4 r4 c1
 obtain ⟨rfl,rfl⟩:=fi q
 clear q
 have q:=qo1
 simp only[Z]at q
 simp [gz, *]
 (focus repeat' first|refine ga ?_|(refine gb ?_;try simp[gz, *])|refine gk fun _ _=>?_|refine gc ?_ ?_|exact gr _|refine gi fun _=>?_|(refine gn ?_ ?_;focus(intros;simp[*];done)))
 refine o5.must stop fun k4 S4 e3 o6 r6=>?_
 try simp only[e3,Z]at q
 clear o5 r5 e3
 obtain ⟨rfl,rfl⟩:=fi q
 subst e1
 simp [gz, *]
 (focus repeat' first|refine ga ?_|(refine gb ?_;try simp[gz, *])|refine gk fun _ _=>?_|refine gc ?_ ?_|exact gr _|refine gi fun _=>?_|(refine gn ?_ ?_;focus(intros;simp[*];done)))
 have hz:=hR.out _ _ _ (Tok.own ab1 ak1 ae1) o6.fin
 first|exact hz|simpa [ints] using hz
 try simp only[c1,e2,Z]at q
 clear o4 r4 e2 c1
 simp [gz, *]
 (focus repeat' first|refine ga ?_|(refine gb ?_;try simp[gz, *])|refine gk fun _ _=>?_|refine gc ?_ ?_|exact gr _|refine gi fun _=>?_|(refine gn ?_ ?_;focus(intros;simp[*];done)))
 cases c2:isL T stop S3
 try simp only[c2,Z]at q
 refine o5.is stop ?_
 simp [gz, *]
 (focus repeat' first|refine ga ?_|(refine gb ?_;try simp[gz, *])|refine gk fun _ _=>?_|refine gc ?_ ?_|exact gr _|refine gi fun _=>?_|(refine gn ?_ ?_;focus(intros;simp[*];done)))
 exact ⟨by kernel_rfl,rfl,p,_,by omega,Sub.refl _,p,_,kids ++ [v1],u1,u2,(Tok.own ab1 ak1 ae1),by omega,rfl,q,Cur.wk o5,lf2,by simp;omega,by first|rfl|simp⟩
 try simp only[c2,Z]at q
 refine o5.is stop ?_
 simp [gz, *]
 (focus repeat' first|refine ga ?_|(refine gb ?_;try simp[gz, *])|refine gk fun _ _=>?_|refine gc ?_ ?_|exact gr _|refine gi fun _=>?_|(refine gn ?_ ?_;focus(intros;simp[*];done)))
 refine o5.wrong 5 fun k5 S5 e4 o7 r7=>?_
 try simp only[e4,Z]at q
 clear o5 r5 e4
 simp [gz, *]
 (focus repeat' first|refine ga ?_|(refine gb ?_;try simp[gz, *])|refine gk fun _ _=>?_|refine gc ?_ ?_|exact gr _|refine gi fun _=>?_|(refine gn ?_ ?_;focus(intros;simp[*];done)))
 exact ⟨by kernel_rfl,rfl,p,_,by omega,Sub.refl _,p,_,kids ++ [v1],u1,u2,(Tok.own ab1 ak1 ae1),by omega,rfl,q,Cur.wk o7,lf2,by simp;omega,by first|rfl|simp⟩
 rw [if_neg hgo]at q
 obtain ⟨rfl,rfl⟩:=fi q
 clear q
 have q:=qo1
 simp only[Z]at q
 cases hfd:decide (Sq.fc=0)
 clear hgo
 refine awp_eqs (s' := [_,_,_,_,_,x 5,x 6,x 7,x 8,x 9,x 10,x 11,x 12,x 13,x 14,x 15,x 16,x 17,x 18,x 19,x 20,x 21,x 22,x 23,x 24,x 25,x 26,_,_,_,_]) rfl ?_
 (focus repeat' first|refine ga ?_|(refine gb ?_;try simp[gz, *])|refine gk fun _ _=>?_|refine gc ?_ ?_|exact gr _|refine gi fun _=>?_|(refine gn ?_ ?_;focus(intros;simp[*];done)))
 refine o1.ok ?_
 simp [gz, *]
 (focus repeat' first|refine ga ?_|(refine gb ?_;try simp[gz, *])|refine gk fun _ _=>?_|refine gc ?_ ?_|exact gr _|refine gi fun _=>?_|(refine gn ?_ ?_;focus(intros;simp[*];done)))
 refine o1.must stop fun k6 S6 e5 o8 r8=>?_
 try simp only[e5,Z]at q
 clear o1 r2 e5
 obtain ⟨rfl,rfl⟩:=fi q
 simp [gz, *]
 (focus repeat' first|refine ga ?_|(refine gb ?_;try simp[gz, *])|refine gk fun _ _=>?_|refine gc ?_ ?_|exact gr _|refine gi fun _=>?_|(refine gn ?_ ?_;focus(intros;simp[*];done)))
 have hz:=hR.out _ _ _ tk o8.fin
 first|exact hz|simpa [ints] using hz
 have hil0:isL T stop Sq=true:=by
  cases e:isL T stop Sq
  · exact absurd ⟨of_decide_eq_true hfd,e⟩ hgo
  · rfl
 clear hgo
 refine awp_eqs (s' := [_,_,_,_,_,x 5,x 6,x 7,x 8,x 9,x 10,x 11,x 12,x 13,x 14,x 15,x 16,x 17,x 18,x 19,x 20,x 21,x 22,x 23,x 24,x 25,x 26,_,_,_,_]) rfl ?_
 (focus repeat' first|refine ga ?_|(refine gb ?_;try simp[gz, *])|refine gk fun _ _=>?_|refine gc ?_ ?_|exact gr _|refine gi fun _=>?_|(refine gn ?_ ?_;focus(intros;simp[*];done)))
 refine o1.ok ?_
 simp [gz, *]
 (focus repeat' first|refine ga ?_|(refine gb ?_;try simp[gz, *])|refine gk fun _ _=>?_|refine gc ?_ ?_|exact gr _|refine gi fun _=>?_|(refine gn ?_ ?_;focus(intros;simp[*];done)))
 refine o1.is stop ?_
 simp [gz, *]
 (focus repeat' first|refine ga ?_|(refine gb ?_;try simp[gz, *])|refine gk fun _ _=>?_|refine gc ?_ ?_|exact gr _|refine gi fun _=>?_|(refine gn ?_ ?_;focus(intros;simp[*];done)))
 refine o1.must stop fun k7 S7 e6 o9 r9=>?_
 try simp only[e6,Z]at q
 clear o1 r2 e6
 obtain ⟨rfl,rfl⟩:=fi q
 simp [gz, *]
 (focus repeat' first|refine ga ?_|(refine gb ?_;try simp[gz, *])|refine gk fun _ _=>?_|refine gc ?_ ?_|exact gr _|refine gi fun _=>?_|(refine gn ?_ ?_;focus(intros;simp[*];done)))
 have hz:=hR.out _ _ _ tk o9.fin
 first|exact hz|simpa [ints] using hz
end Go.Proofs.YtcbgpjlcfkkdlaaGreatDoor

namespace Go.Proofs.YtcbgpjlcfkkdlaaGreatDoor
open Go Go.AL Go.Proofs
theorem cond_w (T : List Tk) (tt : Tok) (n : Nat) (at_ : Int) (ih : ∀ m op, m ≤ n → Meth T tt m op) : Meth T tt (n + 1) (.cond at_) := by
 refine Meth.of fun S l S' q r t1 t2 B h o R hR=>?_
 simp only[run,Z]at q
 refine acalls_ofD Tryz.func87 rfl Tryz.ntmps87 (congrArg Array.toList Tryz.results87) fun Q hQ => ?_
 have r1:=o.own.blk
 (focus repeat' first|refine ga ?_|(refine gb ?_;try simp[gz, *])|refine gk fun _ _=>?_|refine gc ?_ ?_|exact gr _|refine gi fun _=>?_|(refine gn ?_ ?_;focus(intros;simp[*];done)))
 obtain ⟨l1,S1,h1,q⟩:=bo2 q
 refine o.call (ih _ _ (by omega)) h1 fun k1 u1 u2 v1 e1 o1 r2=>?_
 try simp only[e1,Z]at q
 clear o r1 h1
 simp [gz, *]
 (focus repeat' first|refine ga ?_|(refine gb ?_;try simp[gz, *])|refine gk fun _ _=>?_|refine gc ?_ ?_|exact gr _|refine gi fun _=>?_|(refine gn ?_ ?_;focus(intros;simp[*];done)))
 refine o1.eat [63] (fun c1 k2 o2 r3=>?_) fun c1 k2 S2 e2 z1 o2 r3=>?_
 try simp only[c1,Z]at q
 clear o1 r2 c1
 obtain ⟨rfl,rfl⟩:=fi q
 subst e1
 simp [gz, *]
 (focus repeat' first|refine ga ?_|(refine gb ?_;try simp[gz, *])|refine gk fun _ _=>?_|refine gc ?_ ?_|exact gr _|refine gi fun _=>?_|(refine gn ?_ ?_;focus(intros;simp[*];done)))
 exact hR.out _ _ _ o2.fin
 try simp only[c1,e2,Z]at q
 clear o1 r2 e2 c1
 simp [gz, *]
 (focus repeat' first|refine ga ?_|(refine gb ?_;try simp[gz, *])|refine gk fun _ _=>?_|refine gc ?_ ?_|exact gr _|refine gi fun _=>?_|(refine gn ?_ ?_;focus(intros;simp[*];done)))
 obtain ⟨l2,S3,h2,q⟩:=bo2 q
 refine o2.call (ih _ _ (by omega)) h2 fun k3 u3 u4 v2 e3 o3 r4=>?_
 try simp only[e3,Z]at q
 clear o2 r3 h2 e1
 simp [gz, *]
 (focus repeat' first|refine ga ?_|(refine gb ?_;try simp[gz, *])|refine gk fun _ _=>?_|refine gc ?_ ?_|exact gr _|refine gi fun _=>?_|(refine gn ?_ ?_;focus(intros;simp[*];done)))
 refine o3.must [58] fun k4 S4 e4 o4 r5=>?_
 try simp only[e4,Z]at q
 clear o3 r4 e4
 simp [gz, *]
 (focus repeat' first|refine ga ?_|(refine gb ?_;try simp[gz, *])|refine gk fun _ _=>?_|refine gc ?_ ?_|exact gr _|refine gi fun _=>?_|(refine gn ?_ ?_;focus(intros;simp[*];done)))
 refine o4.down fun k5 S5 e5 o5 r6=>?_
 try simp only[e5,Z]at q
 clear o4 r5 e5
 obtain ⟨u,ht_u⟩:∃ x,Sh (peekL T S5=x):=⟨_,⟨rfl⟩⟩
 try simp only[ht_u.out,Z]at q
 simp [gz, *]
 (focus repeat' first|refine ga ?_|(refine gb ?_;try simp[gz, *])|refine gk fun _ _=>?_|refine gc ?_ ?_|exact gr _|refine gi fun _=>?_|(refine gn ?_ ?_;focus(intros;simp[*];done)))
 refine o5.peek ht_u ?_
 simp [gz, *]
 (focus repeat' first|refine ga ?_|(refine gb ?_;try simp[gz, *])|refine gk fun _ _=>?_|refine gc ?_ ?_|exact gr _|refine gi fun _=>?_|(refine gn ?_ ?_;focus(intros;simp[*];done)))
 obtain ⟨l3,S6,h3,q⟩:=bo2 q
 refine o5.call (ih _ _ (by omega)) h3 fun k6 u5 u6 v3 e6 o6 r7=>?_
 try simp only[e6,Z]at q
 clear o5 r6 h3 e3
 simp [gz, *]
 (focus repeat' first|refine ga ?_|(refine gb ?_;try simp[gz, *])|refine gk fun _ _=>?_|refine gc ?_ ?_|exact gr _|refine gi fun _=>?_|(refine gn ?_ ?_;focus(intros;simp[*];done)))
 refine o6.add 11 at_ [] 0 [v1, v2, v3] (fun k7 u7 u8 v4 S7 e7 o7 r8=>?_)
 try simp only[e7,Z]at q
 clear o6 r7 e7 e6
 obtain ⟨rfl,rfl⟩:=fi q
 simp [gz, *]
 (focus repeat' first|refine ga ?_|(refine gb ?_;try simp[gz, *])|refine gk fun _ _=>?_|refine gc ?_ ?_|exact gr _|refine gi fun _=>?_|(refine gn ?_ ?_;focus(intros;simp[*];done)))
 refine o7.upd fun k8 o8=>?_
 exact hR.out _ _ _ o8.fin
end Go.Proofs.YtcbgpjlcfkkdlaaGreatDoor

namespace Go.Proofs.YtcbgpjlcfkkdlaaGreatDoor
open Go Go.AL Go.Proofs
theorem named_w (T : List Tk) (tt : Tok) (n : Nat) (t : Tk) (ih : ∀ m op, m ≤ n → Meth T tt m op) : Meth T tt (n + 1) (.named t) := by
 refine Meth.of fun S l S' q r t1 t2 B h o R hR=>?_
 simp only[run,Z]at q
 by_cases h6:S.fc=0 ∧ S.idx+1 < T.length
 try simp only[if_pos h6,Z]at q
 have hlt:=h6.2
 have hTl:=o.good.rd.len
 obtain ⟨nt,hnt⟩:∃ x,T[S.idx+1]?=some x:=⟨_,List.getElem?_eq_getElem hlt⟩
 have hnt2:=(List.getElem?_eq_some_iff.1 hnt).2
 have hnt3:T.getD (S.idx+1) default=nt:=by simp [List.getD,hnt]
 have w1:IntKind.i64.wrap ((S.idx:Int)+1)=((S.idx+1:Nat):Int):=by rw [w64 (by omega) (by omega)]; omega
 try simp only[hnt3,Z]at q
 refine acalls_of Tryz.func82 rfl Tryz.ntmps82 (congrArg Array.toList Tryz.results82) fun Q hQ => ?_
 have r1:=o.own.blk
 (focus repeat' first|refine ga ?_|(refine gb ?_;try simp[gz, *])|refine gk fun _ _=>?_|refine gc ?_ ?_|exact gr _|refine gi fun _=>?_|(refine gn ?_ ?_;focus(intros;simp[*];done)))
 intro b3 zb3
 obtain ⟨n_r_b3,n_b3_r⟩:=o.ne zb3
 have yb3:=o.y zb3
 have o1:=o.new zb3 (.cells (tkRow t))
 clear o zb3
 try simp [gz, *]
 (focus repeat' first|refine ga ?_|(refine gb ?_;try simp[gz, *])|refine gk fun _ _=>?_|refine gc ?_ ?_|exact gr _|refine gi fun _=>?_|(refine gn ?_ ?_;focus(intros;simp[*];done)))
 refine o1.settleA fun k1 o2 r2=>?_
 have p1:=o2.b1
 clear o1 r1
 refine awp_region_quiet follows (by kernel_rfl) ?_; simp [gz, *]
 (focus repeat' first|refine ga ?_|(refine gb ?_;try simp[gz, *])|refine gk fun _ _=>?_|refine gc ?_ ?_|exact gr _|refine gi fun _=>?_|(refine gn ?_ ?_;focus(intros;simp[*];done)))
 refine o2.add 7 t.pos [] 0 [] (fun k2 u1 u2 v1 S1 e1 o3 r3=>?_)
 try simp only[e1,Z]at q
 have p2:=o3.b1
 clear o2 r2 p1 e1
 simp [gz, *]
 (focus repeat' first|refine ga ?_|(refine gb ?_;try simp[gz, *])|refine gk fun _ _=>?_|refine gc ?_ ?_|exact gr _|refine gi fun _=>?_|(refine gn ?_ ?_;focus(intros;simp[*];done)))
 refine o3.add 15 t.pos nt.text 0 [v1] (fun k3 u3 u4 v2 S2 e2 o4 r4=>?_)
 try simp only[e2,Z]at q
 have p3:=o4.b1
 clear o3 r3 p2 e2
 cases d1:decide (t.text = [102, 117, 110, 99, 116, 105, 111, 110])
 try simp only[ef d1,d1,Z]at q
 simp [gz, *]
 (focus repeat' first|refine ga ?_|(refine gb ?_;try simp[gz, *])|refine gk fun _ _=>?_|refine gc ?_ ?_|exact gr _|refine gi fun _=>?_|(refine gn ?_ ?_;focus(intros;simp[*];done)))
 obtain ⟨l1,S3,h1,q⟩:=bo2 q
 refine o4.call (ih _ _ (by omega)) h1 fun k4 u5 u6 v3 e3 o5 r5=>?_
 try simp only[e3,Z]at q
 have p4:=o5.b1
 clear o4 r4 p3 h1
 simp [gz, *]
 (focus repeat' first|refine ga ?_|(refine gb ?_;try simp[gz, *])|refine gk fun _ _=>?_|refine gc ?_ ?_|exact gr _|refine gi fun _=>?_|(refine gn ?_ ?_;focus(intros;simp[*];done)))
 refine o5.add 12 t.pos [60, 45] 0 [v2, v3] (fun k5 u7 u8 v4 S4 e4 o6 r6=>?_)
 try simp only[e4,Z]at q
 have p5:=o6.b1
 clear o5 r5 p4 e4 e3
 simp [gz, *]
 (focus repeat' first|refine ga ?_|(refine gb ?_;try simp[gz, *])|refine gk fun _ _=>?_|refine gc ?_ ?_|exact gr _|refine gi fun _=>?_|(refine gn ?_ ?_;focus(intros;simp[*];done)))
 refine o6.add 28 t.pos [] 0 [v4] (fun k6 u9 u10 v5 S5 e5 o7 r7=>?_)
 try simp only[e5,Z]at q
 have p6:=o7.b1
 clear o6 r6 p5 e5
 obtain ⟨rfl,rfl⟩:=fi q
 simp [gz, *]
 (focus repeat' first|refine ga ?_|(refine gb ?_;try simp[gz, *])|refine gk fun _ _=>?_|refine gc ?_ ?_|exact gr _|refine gi fun _=>?_|(refine gn ?_ ?_;focus(intros;simp[*];done)))
 exact hR.out _ _ _ o7.fin
 try simp only[et d1,d1,Z]at q
 simp [gz, *]
 (focus repeat' first|refine ga ?_|(refine gb ?_;try simp[gz, *])|refine gk fun _ _=>?_|refine gc ?_ ?_|exact gr _|refine gi fun _=>?_|(refine gn ?_ ?_;focus(intros;simp[*];done)))
 obtain ⟨l2,S6,h2,q⟩:=bo2 q
 refine o4.call (ih _ _ (by omega)) h2 fun k7 u11 u12 v6 e6 o8 r8=>?_
 try simp only[e6,Z]at q
 have p7:=o8.b1
 clear o4 r4 p3 h2
 simp [gz, *]
 (focus repeat' first|refine ga ?_|(refine gb ?_;try simp[gz, *])|refine gk fun _ _=>?_|refine gc ?_ ?_|exact gr _|refine gi fun _=>?_|(refine gn ?_ ?_;focus(intros;simp[*];done)))
 refine o8.add 12 t.pos [60, 45] 0 [v2, v6] (fun k8 u13 u14 v7 S7 e7 o9 r9=>?_)
 try simp only[e7,Z]at q
 have p8:=o9.b1
 clear o8 r8 p7 e7 e6
 simp [gz, *]
 (focus repeat' first|refine ga ?_|(refine gb ?_;try simp[gz, *])|refine gk fun _ _=>?_|refine gc ?_ ?_|exact gr _|refine gi fun _=>?_|(refine gn ?_ ?_;focus(intros;simp[*];done)))
 refine o9.add 28 t.pos [] 0 [v7] (fun k9 u15 u16 v8 S8 e8 o10 r10=>?_)
 try simp only[e8,Z]at q
 have p9:=o10.b1
 clear o9 r9 p8 e8
 obtain ⟨rfl,rfl⟩:=fi q
 simp [gz, *]
 (focus repeat' first|refine ga ?_|(refine gb ?_;try simp[gz, *])|refine gk fun _ _=>?_|refine gc ?_ ?_|exact gr _|refine gi fun _=>?_|(refine gn ?_ ?_;focus(intros;simp[*];done)))
 exact hR.out _ _ _ o10.fin
 rw [if_neg h6]at q
 cases q.out
end Go.Proofs.YtcbgpjlcfkkdlaaGreatDoor

namespace Go.Proofs.YtcbgpjlcfkkdlaaGreatDoor
open Go Go.AL Go.Proofs
theorem meth_all (T : List Tk) (tt : Tok) (hs : Short T) : ∀ n, n ≤ 1000000 → ∀ m op, m ≤ n → Meth T tt m op
 | 0, _ => fun m op hm => by
   obtain rfl : m = 0 := by omega
   intro f mk _ S l S' q
   have hr := q.out
   simp [run] at hr
 | n + 1, hn => fun m op hm => by
  have ih := meth_all T tt hs n (by omega)
  have hn' : n ≤ 1000000 := by omega
  by_cases e : m ≤ n
  ·exact ih m op e
  ·obtain rfl : m = n + 1 := by omega
   cases op with
   | stmt => exact stmt_w T tt n ih
   | word t => exact word_w T tt n t ih
   | named t => exact named_w T tt n t ih
   | locl a => exact local_w T tt n a ih
   | literal => exact literal_w T tt n ih
   | enum a => exact enum_w T tt n hn' a ih
   | block => exact block_w T tt n hn' ih
   | body => exact body_w T tt n ih
   | control t => exact control_w T tt n t ih
   | paren => exact paren_w T tt n ih
   | loop a => exact loop_w T tt n a ih
   | foreach a => exact foreach_w T tt n hs a ih
   | cases a => exact cases_w T tt n hn' a ih
   | expr => exact expr_w T tt n ih
   | cond a => exact cond_w T tt n a ih
   | binary v => exact binary_w T tt n v ih
   | unary => exact unary_w T tt n ih
   | postf => exact postfix_w T tt n hn' ih
   | some x => exact some_w T tt n hn' x ih
   | primary => exact primary_w T tt n hn' ih
   | member => exact member_w T tt n ih
   | table => exact table_w T tt n hn' ih
   | function => exact function_w T tt n ih
   | params a x => exact params_w T tt n hn' a x ih
   | clas => exact class_w T tt n hn' ih
   | _ => intro f mk hf; cases hf
end Go.Proofs.YtcbgpjlcfkkdlaaGreatDoor

