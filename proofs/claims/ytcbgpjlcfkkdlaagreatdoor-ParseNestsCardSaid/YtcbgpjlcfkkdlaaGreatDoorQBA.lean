import Derived.Test.YtcbgpjlcfkkdlaaGreatDoorQAY
import Derived.Test.YtcbgpjlcfkkdlaaGreatDoorQAZ
import Derived.Test.YtcbgpjlcfkkdlaaGreatDoorQAX
set_option linter.unusedSimpArgs false
set_option linter.unusedVariables false
set_option maxRecDepth 100000
set_option maxHeartbeats 16000000
namespace Go.Proofs.YtcbgpjlcfkkdlaaGreatDoor
open Go Go.AL Go.Proofs
theorem unary_z (T : List Tk) (n : Nat) (hs : Toks T) (hn : n ≤ 1000000) (tm : Term T n) : ∀ S, Good T S → InK S (argK .unary) → ArgOk T .unary S → need T .unary S ≤ n + 1 → Zr T .unary (n + 1) S (run T (n + 1) .unary S) := by
 intro S hg hin ha hnd
 simp only[run,Z]
 simp only[ArgOk]at ha
 have z:Zt T S S 0 []:=Zt.start hg InK.nil
 obtain ⟨t,ht_t⟩:∃ x,Sh (peekL T S=x):=⟨_,⟨rfl⟩⟩
 try simp only[ht_t.out,Z]
 have hx_t:=tok_ok hs (peek_mem z.good ht_t.out)
 cases d1:decide (t.kind = 5)
 try simp only[ef d1,d1,Z]
 cases d2:decide (t.kind = 2)
 try simp only[ef d2,d2,Z]
 exact Zt.tail (z.call (op:=.postf) tm hnd)
 try simp only[et d2,d2,Z]
 cases hst:isStep t.text
 try simp only[hst,Z]
 cases hun:isUnary t.text
 try simp only[hun,Z]
 exact Zt.tail (z.call (op:=.postf) tm hnd)
 try simp only[hun,Z]
 have h0:=z.k0 (kk ht_t d2)
 have h6:=kk ht_t d2
 have gd1:=goes_down_step z.good h6
 have kd1:=kp_down_step z.good h6
 obtain ⟨S1,e1,z1⟩:=z.down
 try simp only[e1,Z]
 rw [e1]at gd1 kd1
 obtain ⟨S2,e2⟩:∃ x,stepL S1=x:=⟨_,rfl⟩
 rw [e2]at gd1 kd1
 have z2:=z1.go gd1 kd1
 try simp only[e2,Z]
 obtain ⟨u,ht_u⟩:∃ x,Sh (peekL T S2=x):=⟨_,⟨rfl⟩⟩
 try simp only[ht_u.out,Z]
 have hx_u:=tok_ok hs (peek_mem z2.good ht_u.out)
 have hu:=peek_mem z2.good ht_u.out
 obtain ⟨l1,S3,v1,h1,e3,hl1,z3⟩:=Zt.one 1 (z2.call (op:=.unary) tm hnd (.inr h0))
 try simp only[h1,e3,Z]
 cases d3:decide (t.text = [100, 101, 108, 101, 116, 101])
 try simp only[ef d3,d3,Z]
 obtain ⟨v2,S4,e4,z4⟩:=z3.add 9 t.pos t.text 0 [v1]
 try simp only[e4,Z]
 obtain ⟨S5,e5,z5⟩:=z4.up
 try simp only[e5,Z]
 exact z5.fin
 try simp only[et d3,d3,Z]
 cases d4:decide (S3.fc = 0)
 try simp only[ef d4,d4,Z]
 have z6:=z3.flt (of_decide_eq_false d4)
 obtain ⟨v3,S6,e6,z7⟩:=z6.add 9 t.pos t.text 0 [v1]
 try simp only[e6,Z]
 obtain ⟨S7,e7,z8⟩:=z7.up
 try simp only[e7,Z]
 exact z8.fin
 try simp only[et d4,d4,Z]
 cases d5:isTarget (kindL S3 v1)
 try simp only[d5,Z]
 have z9:=z3.go (goes_fault z3.good 30 u.pos (by decide)) (kp_fault z3.good 30 u.pos (by decide) ⟨u,hu,rfl⟩)
 try simp only[show ({ S3 with fc:=30,fa:=u.pos }:St)=faultL 30 u.pos S3 from rfl]
 obtain ⟨S8,e8,z10⟩:=z9.up
 try simp only[e8,Z]
 subst e3
 have hl:=hl1.out
 exact z10.fin
 try simp only[d5,Z]
 obtain ⟨v4,S9,e9,z11⟩:=z3.add 9 t.pos t.text 0 [v1]
 try simp only[e9,Z]
 obtain ⟨S10,e10,z12⟩:=z11.up
 try simp only[e10,Z]
 exact z12.fin
 have hun:=(step_not hst).1
 have hdl:=(step_not hst).2
 try simp only[hst,hun,Z]
 have h0:=z.k0 (kk ht_t d2)
 have h6:=kk ht_t d2
 have gd1:=goes_down_step z.good h6
 have kd1:=kp_down_step z.good h6
 obtain ⟨S11,e11,z13⟩:=z.down
 try simp only[e11,Z]
 rw [e11]at gd1 kd1
 obtain ⟨S12,e12⟩:∃ x,stepL S11=x:=⟨_,rfl⟩
 rw [e12]at gd1 kd1
 have z14:=z13.go gd1 kd1
 try simp only[e12,Z]
 obtain ⟨u,ht_u⟩:∃ x,Sh (peekL T S12=x):=⟨_,⟨rfl⟩⟩
 try simp only[ht_u.out,Z]
 have hx_u:=tok_ok hs (peek_mem z14.good ht_u.out)
 have hu:=peek_mem z14.good ht_u.out
 obtain ⟨l2,S13,v5,h2,e13,hl2,z15⟩:=Zt.one 1 (z14.call (op:=.unary) tm hnd (.inr h0))
 try simp only[h2,e13,Z]
 try simp only[hst,Z]
 cases d6:decide (S13.fc = 0)
 try simp only[ef d6,d6,Z]
 have z16:=z15.flt (of_decide_eq_false d6)
 obtain ⟨v6,S14,e14,z17⟩:=z16.add 13 t.pos t.text 0 [v5]
 try simp only[e14,Z]
 obtain ⟨S15,e15,z18⟩:=z17.up
 try simp only[e15,Z]
 exact z18.fin
 try simp only[et d6,d6,Z]
 cases d7:isTarget (kindL S13 v5)
 try simp only[d7,Z]
 have z19:=z15.go (goes_fault z15.good 30 u.pos (by decide)) (kp_fault z15.good 30 u.pos (by decide) ⟨u,hu,rfl⟩)
 try simp only[show ({ S13 with fc:=30,fa:=u.pos }:St)=faultL 30 u.pos S13 from rfl]
 obtain ⟨S16,e16,z20⟩:=z19.up
 try simp only[e16,Z]
 subst e13
 have hl:=hl2.out
 exact z20.fin
 try simp only[d7,Z]
 obtain ⟨v7,S17,e17,z21⟩:=z15.add 13 t.pos t.text 0 [v5]
 try simp only[e17,Z]
 obtain ⟨S18,e18,z22⟩:=z21.up
 try simp only[e18,Z]
 exact z22.fin
 try simp only[et d1,d1,Z]
 cases hst:isStep t.text
 try simp only[hst,Z]
 cases hun:isUnary t.text
 try simp only[hun,Z]
 exact Zt.tail (z.call (op:=.postf) tm hnd)
 try simp only[hun,Z]
 have h0:=z.k0 (kk ht_t d1)
 have h6:=kk ht_t d1
 have gd1:=goes_down_step z.good h6
 have kd1:=kp_down_step z.good h6
 obtain ⟨S19,e19,z23⟩:=z.down
 try simp only[e19,Z]
 rw [e19]at gd1 kd1
 obtain ⟨S20,e20⟩:∃ x,stepL S19=x:=⟨_,rfl⟩
 rw [e20]at gd1 kd1
 have z24:=z23.go gd1 kd1
 try simp only[e20,Z]
 obtain ⟨u,ht_u⟩:∃ x,Sh (peekL T S20=x):=⟨_,⟨rfl⟩⟩
 try simp only[ht_u.out,Z]
 have hx_u:=tok_ok hs (peek_mem z24.good ht_u.out)
 have hu:=peek_mem z24.good ht_u.out
 obtain ⟨l3,S21,v8,h3,e21,hl3,z25⟩:=Zt.one 1 (z24.call (op:=.unary) tm hnd (.inr h0))
 try simp only[h3,e21,Z]
 cases d8:decide (t.text = [100, 101, 108, 101, 116, 101])
 try simp only[ef d8,d8,Z]
 obtain ⟨v9,S22,e22,z26⟩:=z25.add 9 t.pos t.text 0 [v8]
 try simp only[e22,Z]
 obtain ⟨S23,e23,z27⟩:=z26.up
 try simp only[e23,Z]
 exact z27.fin
 try simp only[et d8,d8,Z]
 cases d9:decide (S21.fc = 0)
 try simp only[ef d9,d9,Z]
 have z28:=z25.flt (of_decide_eq_false d9)
 obtain ⟨v10,S24,e24,z29⟩:=z28.add 9 t.pos t.text 0 [v8]
 try simp only[e24,Z]
 obtain ⟨S25,e25,z30⟩:=z29.up
 try simp only[e25,Z]
 exact z30.fin
 try simp only[et d9,d9,Z]
 cases d10:isTarget (kindL S21 v8)
 try simp only[d10,Z]
 have z31:=z25.go (goes_fault z25.good 30 u.pos (by decide)) (kp_fault z25.good 30 u.pos (by decide) ⟨u,hu,rfl⟩)
 try simp only[show ({ S21 with fc:=30,fa:=u.pos }:St)=faultL 30 u.pos S21 from rfl]
 obtain ⟨S26,e26,z32⟩:=z31.up
 try simp only[e26,Z]
 subst e21
 have hl:=hl3.out
 exact z32.fin
 try simp only[d10,Z]
 obtain ⟨v11,S27,e27,z33⟩:=z25.add 9 t.pos t.text 0 [v8]
 try simp only[e27,Z]
 obtain ⟨S28,e28,z34⟩:=z33.up
 try simp only[e28,Z]
 exact z34.fin
 have hun:=(step_not hst).1
 have hdl:=(step_not hst).2
 try simp only[hst,hun,Z]
 have h0:=z.k0 (kk ht_t d1)
 have h6:=kk ht_t d1
 have gd1:=goes_down_step z.good h6
 have kd1:=kp_down_step z.good h6
 obtain ⟨S29,e29,z35⟩:=z.down
 try simp only[e29,Z]
 rw [e29]at gd1 kd1
 obtain ⟨S30,e30⟩:∃ x,stepL S29=x:=⟨_,rfl⟩
 rw [e30]at gd1 kd1
 have z36:=z35.go gd1 kd1
 try simp only[e30,Z]
 obtain ⟨u,ht_u⟩:∃ x,Sh (peekL T S30=x):=⟨_,⟨rfl⟩⟩
 try simp only[ht_u.out,Z]
 have hx_u:=tok_ok hs (peek_mem z36.good ht_u.out)
 have hu:=peek_mem z36.good ht_u.out
 obtain ⟨l4,S31,v12,h4,e31,hl4,z37⟩:=Zt.one 1 (z36.call (op:=.unary) tm hnd (.inr h0))
 try simp only[h4,e31,Z]
 try simp only[hst,Z]
 cases d11:decide (S31.fc = 0)
 try simp only[ef d11,d11,Z]
 have z38:=z37.flt (of_decide_eq_false d11)
 obtain ⟨v13,S32,e32,z39⟩:=z38.add 13 t.pos t.text 0 [v12]
 try simp only[e32,Z]
 obtain ⟨S33,e33,z40⟩:=z39.up
 try simp only[e33,Z]
 exact z40.fin
 try simp only[et d11,d11,Z]
 cases d12:isTarget (kindL S31 v12)
 try simp only[d12,Z]
 have z41:=z37.go (goes_fault z37.good 30 u.pos (by decide)) (kp_fault z37.good 30 u.pos (by decide) ⟨u,hu,rfl⟩)
 try simp only[show ({ S31 with fc:=30,fa:=u.pos }:St)=faultL 30 u.pos S31 from rfl]
 obtain ⟨S34,e34,z42⟩:=z41.up
 try simp only[e34,Z]
 subst e31
 have hl:=hl4.out
 exact z42.fin
 try simp only[d12,Z]
 obtain ⟨v14,S35,e35,z43⟩:=z37.add 13 t.pos t.text 0 [v12]
 try simp only[e35,Z]
 obtain ⟨S36,e36,z44⟩:=z43.up
 try simp only[e36,Z]
 exact z44.fin
theorem primary_z (T : List Tk) (n : Nat) (hs : Toks T) (hn : n ≤ 1000000) (tm : Term T n) : ∀ S, Good T S → InK S (argK .primary) → ArgOk T .primary S → need T .primary S ≤ n + 1 → Zr T .primary (n + 1) S (run T (n + 1) .primary S) := by
 intro S hg hin ha hnd
 simp only[run,Z]
 simp only[ArgOk]at ha
 have z:Zt T S S 0 []:=Zt.start hg InK.nil
 obtain ⟨t,ht_t⟩:∃ x,Sh (peekL T S=x):=⟨_,⟨rfl⟩⟩
 try simp only[ht_t.out,Z]
 have hx_t:=tok_ok hs (peek_mem z.good ht_t.out)
 cases d1:decide (t.kind = 1)
 try simp only[ef d1,d1,Z]
 cases d2:decide (t.kind = 3)
 try simp only[ef d2,d2,Z]
 cases d3:decide (t.kind = 4)
 try simp only[ef d3,d3,Z]
 cases c1:isL T [110, 117, 108, 108] S
 try simp only[c1,Z]
 cases c2:isL T [116, 114, 117, 101] S
 try simp only[c2,Z]
 cases c3:isL T [102, 97, 108, 115, 101] S
 try simp only[c3,Z]
 cases c4:isL T [116, 104, 105, 115] S
 try simp only[c4,Z]
 cases c5:isL T [58, 58] S
 try simp only[c5,Z]
 cases c6:isL T [98, 97, 115, 101] S
 try simp only[c6,Z]
 cases c7:isL T [40] S
 try simp only[c7,Z]
 cases c8:isL T [91] S
 try simp only[c8,Z]
 cases c9:isL T [123] S
 try simp only[c9,Z]
 cases c10:isL T [102, 117, 110, 99, 116, 105, 111, 110] S
 try simp only[c10,Z]
 cases c11:isL T [99, 108, 97, 115, 115] S
 try simp only[c11,Z]
 obtain ⟨S1,e1,z1⟩:=z.wrong 5
 try simp only[e1,Z]
 exact z1.fin
 try simp only[c11,Z]
 have h0:=z.k0 (isL_kind c11)
 exact Zt.tail (z.call (op:=.clas) tm hnd (.inr h0))
 try simp only[c10,Z]
 have h0:=z.k0 (isL_kind c10)
 exact Zt.tail (z.call (op:=.function) tm hnd (.inr h0))
 try simp only[c9,Z]
 have h0:=z.k0 (isL_kind c9)
 exact Zt.tail (z.call (op:=.table) tm hnd (.inr h0))
 have h0:=z.k0 (isL_kind c8)
 obtain ⟨S2,e2,hz1,z2⟩:=z.step (isL_kind c8)
 try simp only[c8,e2,Z]
 obtain ⟨l1,S3,h1,hl1,z3⟩:=Zt.lst (z2.call (op:=(.some [93])) tm hnd (.inr h0))
 simp only[argK,loopK,Option.getD_none,List.length_nil]at hl1
 try simp only[h1,Z]
 obtain ⟨v1,S4,e3,z4⟩:=z3.add 18 t.pos [] 0 l1
 try simp only[e3,Z]
 exact z4.fin
 have h0:=z.k0 (isL_kind c7)
 obtain ⟨S5,e4,hz2,z5⟩:=z.step (isL_kind c7)
 try simp only[c7,e4,Z]
 obtain ⟨l2,S6,v2,h2,e5,hl2,z6⟩:=Zt.one 1 (z5.call (op:=.expr) tm hnd (.inr h0))
 try simp only[h2,e5,Z]
 obtain ⟨S7,e6,z7⟩:=z6.must [41]
 try simp only[e6,Z]
 subst e5
 have hl:=hl2.out
 exact z7.fin
 have h0:=z.k0 (isL_kind c6)
 obtain ⟨S8,e7,hz3,z8⟩:=z.step (isL_kind c6)
 try simp only[c6,e7,Z]
 obtain ⟨S9,e8,z9⟩:=z8.must [46]
 try simp only[e8,Z]
 cases c12:isL T [99, 111, 110, 115, 116, 114, 117, 99, 116, 111, 114] S9
 try simp only[c12,Z]
 obtain ⟨x1,S10,e9,l3,z10⟩:=z9.name hs
 try simp only[e9,Z]
 obtain ⟨v3,S11,e10,z11⟩:=z10.add 16 t.pos x1 0 []
 try simp only[e10,Z]
 exact z11.fin
 obtain ⟨S12,e11,hz4,z12⟩:=z9.step (isL_kind c12)
 try simp only[c12,e11,Z]
 obtain ⟨v4,S13,e12,z13⟩:=z12.add 16 t.pos [99, 111, 110, 115, 116, 114, 117, 99, 116, 111, 114] 0 []
 try simp only[e12,Z]
 exact z13.fin
 have h0:=z.k0 (isL_kind c5)
 obtain ⟨S14,e13,hz5,z14⟩:=z.step (isL_kind c5)
 try simp only[c5,e13,Z]
 obtain ⟨x2,S15,e14,l4,z15⟩:=z14.name hs
 try simp only[e14,Z]
 obtain ⟨v5,S16,e15,z16⟩:=z15.add 8 t.pos x2 0 []
 try simp only[e15,Z]
 exact z16.fin
 have h0:=z.k0 (isL_kind c4)
 obtain ⟨S17,e16,hz6,z17⟩:=z.step (isL_kind c4)
 try simp only[c4,e16,Z]
 obtain ⟨v6,S18,e17,z18⟩:=z17.add 7 t.pos [] 0 []
 try simp only[e17,Z]
 exact z18.fin
 have h0:=z.k0 (isL_kind c3)
 obtain ⟨S19,e18,hz7,z19⟩:=z.step (isL_kind c3)
 try simp only[c3,e18,Z]
 obtain ⟨v7,S20,e19,z20⟩:=z19.add 3 t.pos [] 0 []
 try simp only[e19,Z]
 exact z20.fin
 have h0:=z.k0 (isL_kind c2)
 obtain ⟨S21,e20,hz8,z21⟩:=z.step (isL_kind c2)
 try simp only[c2,e20,Z]
 obtain ⟨v8,S22,e21,z22⟩:=z21.add 2 t.pos [] 0 []
 try simp only[e21,Z]
 exact z22.fin
 have h0:=z.k0 (isL_kind c1)
 obtain ⟨S23,e22,hz9,z23⟩:=z.step (isL_kind c1)
 try simp only[c1,e22,Z]
 obtain ⟨v9,S24,e23,z24⟩:=z23.add 1 t.pos [] 0 []
 try simp only[e23,Z]
 exact z24.fin
 try simp only[et d3,d3,Z]
 have h0:=z.k0 (kk ht_t d3)
 obtain ⟨S25,e24,hz10,z25⟩:=z.step (kk ht_t d3)
 try simp only[e24,Z]
 obtain ⟨v10,S26,e25,z26⟩:=z25.add 5 t.pos t.text 0 []
 try simp only[e25,Z]
 exact z26.fin
 try simp only[et d2,d2,Z]
 have h0:=z.k0 (kk ht_t d2)
 obtain ⟨S27,e26,hz11,z27⟩:=z.step (kk ht_t d2)
 try simp only[e26,Z]
 obtain ⟨v11,S28,e27,z28⟩:=z27.add 4 t.pos [] t.num []
 try simp only[e27,Z]
 exact z28.fin
 try simp only[et d1,d1,Z]
 have h0:=z.k0 (kk ht_t d1)
 obtain ⟨S29,e28,hz12,z29⟩:=z.step (kk ht_t d1)
 try simp only[e28,Z]
 obtain ⟨v12,S30,e29,z30⟩:=z29.add 6 t.pos t.text 0 []
 try simp only[e29,Z]
 exact z30.fin
theorem class_z (T : List Tk) (n : Nat) (hs : Toks T) (hn : n ≤ 1000000) (tm : Term T n) : ∀ S, Good T S → InK S (argK .clas) → ArgOk T .clas S → need T .clas S ≤ n + 1 → Zr T .clas (n + 1) S (run T (n + 1) .clas S) := by
 intro S hg hin ha hnd
 simp only[run,Z]
 simp only[ArgOk]at ha
 have z:Zt T S S 0 []:=Zt.start hg InK.nil
 obtain ⟨S1,e1,z1⟩:=z.down
 try simp only[e1,Z]
 obtain ⟨a,ht_a⟩:∃ x,Sh (peekL T S1=x):=⟨_,⟨rfl⟩⟩
 try simp only[ht_a.out,Z]
 have hx_a:=tok_ok hs (peek_mem z1.good ht_a.out)
 obtain ⟨S2,e2,z2⟩:=z1.must [99, 108, 97, 115, 115]
 try simp only[e2,Z]
 obtain ⟨nk,ht_nk⟩:∃ x,Sh (peekL T S2=x):=⟨_,⟨rfl⟩⟩
 try simp only[ht_nk.out,Z]
 have hx_nk:=tok_ok hs (peek_mem z2.good ht_nk.out)
 cases d1:decide (nk.kind = 1)
 try simp only[ef d1,d1,Z]
 cases c1:isL T [101, 120, 116, 101, 110, 100, 115] S2
 try simp only[c1,Z]
 obtain ⟨S3,e3,z3⟩:=z2.must [123]
 try simp only[e3,Z]
 obtain ⟨kids,S4,h1,hl1,z4⟩:=Zt.lst (z3.call (op:=(.classLoop [-1])) tm hnd)
 simp only[argK,loopK,Option.getD_some,List.length_cons,List.length_nil]at hl1
 try simp only[h1,Z]
 obtain ⟨S5,e4,z5⟩:=z4.must [125]
 try simp only[e4,Z]
 obtain ⟨v1,S6,e5,z6⟩:=z5.add 21 a.pos [] 0 kids
 try simp only[e5,Z]
 obtain ⟨S7,e6,z7⟩:=z6.up
 try simp only[e6,Z]
 exact z7.fin
 have h0:=z2.k0 (isL_kind c1)
 obtain ⟨S8,e7,hz1,z8⟩:=z2.step (isL_kind c1)
 try simp only[c1,e7,Z]
 obtain ⟨l2,S9,v2,h2,e8,hl2,z9⟩:=Zt.one 1 (z8.call (op:=.expr) tm hnd (.inr h0))
 try simp only[h2,e8,Z]
 obtain ⟨S10,e9,z10⟩:=z9.must [123]
 try simp only[e9,Z]
 obtain ⟨kids,S11,h3,hl3,z11⟩:=Zt.lst (z10.call (op:=(.classLoop [v2])) tm hnd (.inr h0))
 simp only[argK,loopK,Option.getD_some,List.length_cons,List.length_nil]at hl3
 try simp only[h3,Z]
 obtain ⟨S12,e10,z12⟩:=z11.must [125]
 try simp only[e10,Z]
 obtain ⟨v3,S13,e11,z13⟩:=z12.add 21 a.pos [] 0 kids
 try simp only[e11,Z]
 obtain ⟨S14,e12,z14⟩:=z13.up
 try simp only[e12,Z]
 exact z14.fin
 try simp only[et d1,d1,Z]
 obtain ⟨x1,S15,e13,l4,z15⟩:=z2.name hs
 try simp only[e13,Z]
 cases c2:isL T [101, 120, 116, 101, 110, 100, 115] S15
 try simp only[c2,Z]
 obtain ⟨S16,e14,z16⟩:=z15.must [123]
 try simp only[e14,Z]
 obtain ⟨kids,S17,h4,hl4,z17⟩:=Zt.lst (z16.call (op:=(.classLoop [-1])) tm hnd)
 simp only[argK,loopK,Option.getD_some,List.length_cons,List.length_nil]at hl4
 try simp only[h4,Z]
 obtain ⟨S18,e15,z18⟩:=z17.must [125]
 try simp only[e15,Z]
 obtain ⟨v4,S19,e16,z19⟩:=z18.add 21 a.pos x1 0 kids
 try simp only[e16,Z]
 obtain ⟨S20,e17,z20⟩:=z19.up
 try simp only[e17,Z]
 exact z20.fin
 have h0:=z15.k0 (isL_kind c2)
 obtain ⟨S21,e18,hz2,z21⟩:=z15.step (isL_kind c2)
 try simp only[c2,e18,Z]
 obtain ⟨l6,S22,v5,h5,e19,hl5,z22⟩:=Zt.one 1 (z21.call (op:=.expr) tm hnd (.inr h0))
 try simp only[h5,e19,Z]
 obtain ⟨S23,e20,z23⟩:=z22.must [123]
 try simp only[e20,Z]
 obtain ⟨kids,S24,h6,hl6,z24⟩:=Zt.lst (z23.call (op:=(.classLoop [v5])) tm hnd (.inr h0))
 simp only[argK,loopK,Option.getD_some,List.length_cons,List.length_nil]at hl6
 try simp only[h6,Z]
 obtain ⟨S25,e21,z25⟩:=z24.must [125]
 try simp only[e21,Z]
 obtain ⟨v6,S26,e22,z26⟩:=z25.add 21 a.pos x1 0 kids
 try simp only[e22,Z]
 obtain ⟨S27,e23,z27⟩:=z26.up
 try simp only[e23,Z]
 exact z27.fin
theorem stmt_z (T : List Tk) (n : Nat) (hs : Toks T) (hn : n ≤ 1000000) (tm : Term T n) : ∀ S, Good T S → InK S (argK .stmt) → ArgOk T .stmt S → need T .stmt S ≤ n + 1 → Zr T .stmt (n + 1) S (run T (n + 1) .stmt S) := by
 intro S hg hin ha hnd
 simp only[run,Z]
 simp only[ArgOk]at ha
 have z:Zt T S S 0 []:=Zt.start hg InK.nil
 obtain ⟨S1,e1,z1⟩:=z.down
 try simp only[e1,Z]
 obtain ⟨t,ht_t⟩:∃ x,Sh (peekL T S1=x):=⟨_,⟨rfl⟩⟩
 try simp only[ht_t.out,Z]
 have hx_t:=tok_ok hs (peek_mem z1.good ht_t.out)
 cases d1:decide (t.kind = 2)
 try simp only[ef d1,d1,Z]
 cases c1:isL T [123] S1
 try simp only[c1,Z]
 cases c2:isL T [59] S1
 try simp only[c2,Z]
 obtain ⟨l1,S2,v1,h1,e2,hl1,z2⟩:=Zt.one 1 (z1.call (op:=.expr) tm hnd)
 try simp only[h1,e2,Z]
 obtain ⟨v2,S3,e3,z3⟩:=z2.add 28 t.pos [] 0 [v1]
 try simp only[e3,Z]
 obtain ⟨S4,e4,z4⟩:=z3.fend
 try simp only[e4,Z]
 obtain ⟨S5,e5,z5⟩:=z4.up
 try simp only[e5,Z]
 exact z5.fin
 have h0:=z1.k0 (isL_kind c2)
 obtain ⟨S6,e6,hz1,z6⟩:=z1.step (isL_kind c2)
 try simp only[c2,e6,Z]
 obtain ⟨v3,S7,e7,z7⟩:=z6.add 43 t.pos [] 0 []
 try simp only[e7,Z]
 obtain ⟨S8,e8,z8⟩:=z7.up
 try simp only[e8,Z]
 exact z8.fin
 try simp only[c1,Z]
 have h0:=z1.k0 (isL_kind c1)
 obtain ⟨l2,S9,v4,h2,e9,hl2,z9⟩:=Zt.one 1 (z1.call (op:=.block) tm hnd (.inr h0))
 try simp only[h2,e9,Z]
 obtain ⟨S10,e10,z10⟩:=z9.up
 try simp only[e10,Z]
 subst e9
 have hl:=hl2.out
 exact z10.fin
 try simp only[et d1,d1,Z]
 have h0:=z1.k0 (kk ht_t d1)
 obtain ⟨l3,S11,h3,hl3,z11⟩:=z1.call (op:=(.word t)) tm hnd (.inr h0) (ha:=(kk ht_t d1))
 try simp only[h3,Z]
 cases d2:decide (l3.getD 1 0=1)
 try simp only[ef d2,d2,Z]
 rw [show resC (.word t) l3=0 from if_neg (of_decide_eq_false d2),show resA (.word t) l3=[] from if_neg (of_decide_eq_false d2)]at z11
 cases c3:isL T [123] S11
 try simp only[c3,Z]
 cases c4:isL T [59] S11
 try simp only[c4,Z]
 obtain ⟨l4,S12,v5,h4,e11,hl4,z14⟩:=Zt.one 1 (z11.call (op:=.expr) tm hnd (.inr h0))
 try simp only[h4,e11,Z]
 obtain ⟨v6,S13,e12,z15⟩:=z14.add 28 t.pos [] 0 [v5]
 try simp only[e12,Z]
 obtain ⟨S14,e13,z16⟩:=z15.fend
 try simp only[e13,Z]
 obtain ⟨S15,e14,z17⟩:=z16.up
 try simp only[e14,Z]
 exact z17.fin
 obtain ⟨S16,e15,hz2,z18⟩:=z11.step (isL_kind c4)
 try simp only[c4,e15,Z]
 obtain ⟨v7,S17,e16,z19⟩:=z18.add 43 t.pos [] 0 []
 try simp only[e16,Z]
 obtain ⟨S18,e17,z20⟩:=z19.up
 try simp only[e17,Z]
 exact z20.fin
 try simp only[c3,Z]
 obtain ⟨l5,S19,v8,h5,e18,hl5,z21⟩:=Zt.one 1 (z11.call (op:=.block) tm hnd (.inr h0))
 try simp only[h5,e18,Z]
 obtain ⟨S20,e19,z22⟩:=z21.up
 try simp only[e19,Z]
 subst e18
 have hl:=hl5.out
 exact z22.fin
 try simp only[et d2,d2,Z]
 rw [show resC (.word t) l3=1 from if_pos (of_decide_eq_true d2),show resA (.word t) l3=[fst0 l3] from if_pos (of_decide_eq_true d2)]at z11
 obtain ⟨S21,e20,z23⟩:=z11.up
 try simp only[e20,Z]
 exact z23.fin
theorem member_z (T : List Tk) (n : Nat) (hs : Toks T) (hn : n ≤ 1000000) (tm : Term T n) : ∀ S, Good T S → InK S (argK .member) → ArgOk T .member S → need T .member S ≤ n + 1 → Zr T .member (n + 1) S (run T (n + 1) .member S) := by
 intro S hg hin ha hnd
 simp only[run,Z]
 simp only[ArgOk]at ha
 have z:Zt T S S 0 []:=Zt.start hg InK.nil
 obtain ⟨t,ht_t⟩:∃ x,Sh (peekL T S=x):=⟨_,⟨rfl⟩⟩
 try simp only[ht_t.out,Z]
 have hx_t:=tok_ok hs (peek_mem z.good ht_t.out)
 cases c1:isL T [102, 117, 110, 99, 116, 105, 111, 110] S
 try simp only[c1,Z]
 cases c2:isL T [91] S
 try simp only[c2,Z]
 obtain ⟨x1,S1,e1,l1,z1⟩:=z.name hs
 try simp only[e1,Z]
 obtain ⟨v1,S2,e2,z2⟩:=z1.add 5 t.pos x1 0 []
 try simp only[e2,Z]
 obtain ⟨S3,e3,z3⟩:=z2.must [61]
 try simp only[e3,Z]
 obtain ⟨l2,S4,v2,h1,e4,hl1,z4⟩:=Zt.one 1 (z3.call (op:=.expr) tm hnd)
 try simp only[h1,e4,Z]
 subst e4
 have hl:=hl1.out
 exact z4.fin
 have h0:=z.k0 (isL_kind c2)
 obtain ⟨S5,e5,hz1,z5⟩:=z.step (isL_kind c2)
 try simp only[c2,e5,Z]
 obtain ⟨l3,S6,v3,h2,e6,hl2,z6⟩:=Zt.one 1 (z5.call (op:=.expr) tm hnd (.inr h0))
 try simp only[h2,e6,Z]
 obtain ⟨S7,e7,z7⟩:=z6.must [93]
 try simp only[e7,Z]
 obtain ⟨S8,e8,z8⟩:=z7.must [61]
 try simp only[e8,Z]
 obtain ⟨l4,S9,v4,h3,e9,hl3,z9⟩:=Zt.one 1 (z8.call (op:=.expr) tm hnd (.inr h0))
 try simp only[h3,e9,Z]
 subst e9
 have hl:=hl3.out
 exact z9.fin
 try simp only[c1,Z]
 have h0:=z.k0 (isL_kind c1)
 obtain ⟨nt,hnt,⟨lt,-⟩,hnt3,-⟩:=nextk z.good (isL_kind c1)
 have hx_nt:=tok_ok hs (List.mem_of_getElem? hnt)
 try simp only[hnt3,Z]
 cases d1:decide (nt.kind = 1)
 try simp only[ef d1,d1,Z]
 obtain ⟨S10,e10,hz2,z10⟩:=z.step (isL_kind c1)
 try simp only[e10,Z]
 obtain ⟨S11,e11,z11⟩:=z10.wrong 5
 try simp only[e11,Z]
 exact z11.fin
 try simp only[et d1,d1,Z]
 obtain ⟨v5,S12,e12,z12⟩:=z.add 5 nt.pos nt.text 0 []
 try simp only[e12,Z]
 obtain ⟨l5,S13,v6,h4,e13,hl4,z13⟩:=Zt.one 1 (z12.call (op:=.function) tm hnd (.inr h0))
 try simp only[h4,e13,Z]
 subst e13
 have hl:=hl4.out
 exact z13.fin
theorem binary_zl (T : List Tk) (n : Nat) (level : Int) (a : Tk) (i : Int) (hs : Toks T) (hn : n ≤ 1000000) (tm : Term T n) : ∀ Sq, Good T Sq → InK Sq (argK (.binLoop level a.pos i)) → ArgOk T (.binLoop level a.pos i) Sq → need T (.binLoop level a.pos i) Sq ≤ n + 1 → Zr T (.binLoop level a.pos i) (n + 1) Sq (run T (n + 1) (.binLoop level a.pos i) Sq) := by
 intro Sq hg hin ha hnd
 simp only[run,Z]
 simp only[ArgOk]at ha
 have z:Zt T Sq Sq 0 [i]:=Zt.start hg hin
 by_cases hgo:Sq.fc=0
 try simp only[if_pos hgo,Z]
 have h0:=z.h0 hgo
 obtain ⟨t,ht_t⟩:∃ x,Sh (peekL T Sq=x):=⟨_,⟨rfl⟩⟩
 try simp only[ht_t.out,Z]
 have hx_t:=tok_ok hs (peek_mem z.good ht_t.out)
 cases d2:decide (t.kind = 5)
 try simp only[ef d2,d2,Z]
 cases d3:decide (t.kind = 2)
 try simp only[ef d3,d3,Z]
 exact z.fin
 try simp only[et d3,d3,Z]
 cases d4:decide (levelW t.text = level)
 try simp only[ef d4,d4,Z]
 exact z.fin
 try simp only[et d4,d4,Z]
 obtain ⟨S2,e2,hz1,z2⟩:=z.step (kk ht_t d3)
 try simp only[e2,Z]
 obtain ⟨l2,S3,v2,h2,e3,hl2,z3⟩:=Zt.one 1 (z2.call (op:=(.binary (IntKind.i64.wrap (level + 1)))) tm hnd (.inr h0))
 try simp only[h2,e3,Z]
 obtain ⟨v3,S4,e4,z4⟩:=z3.add 10 a.pos t.text 0 [i, v2]
 try simp only[e4,Z]
 exact Zt.tail (z4.call (op:=(.binLoop level a.pos v3)) tm hnd (.inr h0))
 try simp only[et d2,d2,Z]
 cases d5:decide (levelW t.text = level)
 try simp only[ef d5,d5,Z]
 exact z.fin
 try simp only[et d5,d5,Z]
 obtain ⟨S5,e5,hz2,z5⟩:=z.step (kk ht_t d2)
 try simp only[e5,Z]
 obtain ⟨l3,S6,v4,h3,e6,hl3,z6⟩:=Zt.one 1 (z5.call (op:=(.binary (IntKind.i64.wrap (level + 1)))) tm hnd (.inr h0))
 try simp only[h3,e6,Z]
 obtain ⟨v5,S7,e7,z7⟩:=z6.add 10 a.pos t.text 0 [i, v4]
 try simp only[e7,Z]
 exact Zt.tail (z7.call (op:=(.binLoop level a.pos v5)) tm hnd (.inr h0))
 try simp only[if_neg hgo,Z]
 exact z.fin
theorem some_zl (T : List Tk) (n : Nat) (stop : List UInt8) (kids : List Int) (hs : Toks T) (hn : n ≤ 1000000) (tm : Term T n) : ∀ Sq, Good T Sq → InK Sq (argK (.someLoop stop kids)) → ArgOk T (.someLoop stop kids) Sq → need T (.someLoop stop kids) Sq ≤ n + 1 → Zr T (.someLoop stop kids) (n + 1) Sq (run T (n + 1) (.someLoop stop kids) Sq) := by
 intro Sq hg hin ha hnd
 simp only[run,Z]
 simp only[ArgOk]at ha
 have z:Zt T Sq Sq 0 kids:=Zt.start hg hin
 by_cases hgo:Sq.fc = 0 ∧ isL T stop Sq = false
 try simp only[if_pos hgo,Z]
 have h0:=z.h0 hgo.1
 obtain ⟨l1,S1,v1,h1,e1,hl1,z1⟩:=Zt.one 1 (z.call (op:=.expr) tm hnd (.inr h0))
 try simp only[h1,e1,Z]
 cases c1:isL T [44] S1
 try simp only[c1,Z]
 subst e1
 have hl:=hl1.out
 exact z1.fin
 obtain ⟨S3,e3,hz1,z3⟩:=z1.step (isL_kind c1)
 try simp only[c1,e3,Z]
 cases c2:isL T stop S3
 try simp only[c2,Z]
 exact Zt.tail (z3.call (op:=(.someLoop stop (kids ++ [v1]))) tm hnd (.inr h0))
 try simp only[c2,Z]
 obtain ⟨S4,e4,z4⟩:=z3.wrong 5
 try simp only[e4,Z]
 exact Zt.tail (z4.call (op:=(.someLoop stop (kids ++ [v1]))) tm hnd (.inr h0))
 try simp only[if_neg hgo,Z]
 exact z.fin
theorem params_z (T : List Tk) (n : Nat) (at_ : Int) (name : List UInt8) (hs : Toks T) (hn : n ≤ 1000000) (tm : Term T n) : ∀ S, Good T S → InK S (argK (.params at_ name)) → ArgOk T (.params at_ name) S → need T (.params at_ name) S ≤ n + 1 → Zr T (.params at_ name) (n + 1) S (run T (n + 1) (.params at_ name) S) := by
 intro S hg hin ha hnd
 simp only[run,Z]
 simp only[ArgOk]at ha
 have z:Zt T S S 0 []:=Zt.start hg InK.nil
 obtain ⟨S1,e1,z1⟩:=z.down
 try simp only[e1,Z]
 obtain ⟨S2,e2,z2⟩:=z1.must [40]
 try simp only[e2,Z]
 obtain ⟨kids,S3,h1,hl1,z3⟩:=Zt.lst (z2.call (op:=(.paramsLoop [])) tm hnd)
 simp only[argK,loopK,Option.getD_some,List.length_cons,List.length_nil]at hl1
 try simp only[h1,Z]
 obtain ⟨S4,e3,z4⟩:=z3.must [41]
 try simp only[e3,Z]
 obtain ⟨l2,S5,v1,h2,e4,hl2,z5⟩:=Zt.one 1 (z4.call (op:=.block) tm hnd)
 try simp only[h2,e4,Z]
 obtain ⟨v2,S6,e5,z6⟩:=z5.add 20 at_ name ((kids.length : Nat) : Int) (kids ++ [v1])
 try simp only[e5,Z]
 obtain ⟨S7,e6,z7⟩:=z6.up
 try simp only[e6,Z]
 exact z7.fin
theorem cases_z (T : List Tk) (n : Nat) (at_ : Int) (hs : Toks T) (hn : n ≤ 1000000) (tm : Term T n) : ∀ S, Good T S → InK S (argK (.cases at_)) → ArgOk T (.cases at_) S → need T (.cases at_) S ≤ n + 1 → Zr T (.cases at_) (n + 1) S (run T (n + 1) (.cases at_) S) := by
 intro S hg hin ha hnd
 simp only[run,Z]
 simp only[ArgOk]at ha
 have z:Zt T S S 0 []:=Zt.start hg InK.nil
 obtain ⟨l1,S1,v1,h1,e1,hl1,z1⟩:=Zt.one 0 (z.call (op:=.paren) tm hnd)
 try simp only[h1,e1,Z]
 obtain ⟨S2,e2,z2⟩:=z1.must [123]
 try simp only[e2,Z]
 obtain ⟨kids,S3,h2,hl2,z3⟩:=Zt.lst (z2.call (op:=(.casesLoop false [v1])) tm hnd)
 simp only[argK,loopK,Option.getD_some,List.length_cons,List.length_nil]at hl2
 try simp only[h2,Z]
 obtain ⟨S4,e3,z4⟩:=z3.must [125]
 try simp only[e3,Z]
 obtain ⟨v2,S5,e4,z5⟩:=z4.add 34 at_ [] 0 kids
 try simp only[e4,Z]
 exact z5.fin
theorem block_z (T : List Tk) (n : Nat) (hs : Toks T) (hn : n ≤ 1000000) (tm : Term T n) : ∀ S, Good T S → InK S (argK .block) → ArgOk T .block S → need T .block S ≤ n + 1 → Zr T .block (n + 1) S (run T (n + 1) .block S) := by
 intro S hg hin ha hnd
 simp only[run,Z]
 simp only[ArgOk]at ha
 have z:Zt T S S 0 []:=Zt.start hg InK.nil
 obtain ⟨a,ht_a⟩:∃ x,Sh (peekL T S=x):=⟨_,⟨rfl⟩⟩
 try simp only[ht_a.out,Z]
 have hx_a:=tok_ok hs (peek_mem z.good ht_a.out)
 obtain ⟨S1,e1,z1⟩:=z.must [123]
 try simp only[e1,Z]
 obtain ⟨kids,S2,h1,hl1,z2⟩:=Zt.lst (z1.call (op:=(.blockLoop [])) tm hnd)
 simp only[argK,loopK,Option.getD_some,List.length_cons,List.length_nil]at hl1
 try simp only[h1,Z]
 obtain ⟨S3,e2,z3⟩:=z2.must [125]
 try simp only[e2,Z]
 obtain ⟨v1,S4,e3,z4⟩:=z3.add 26 a.pos [] 0 kids
 try simp only[e3,Z]
 exact z4.fin
theorem top_zl (T : List Tk) (n : Nat) (kids : List Int) (hs : Toks T) (hn : n ≤ 1000000) (tm : Term T n) : ∀ Sq, Good T Sq → InK Sq (argK (.top kids)) → ArgOk T (.top kids) Sq → need T (.top kids) Sq ≤ n + 1 → Zr T (.top kids) (n + 1) Sq (run T (n + 1) (.top kids) Sq) := by
 intro Sq hg hin ha hnd
 simp only[run,Z]
 simp only[ArgOk]at ha
 have z:Zt T Sq Sq 0 kids:=Zt.start hg hin
 by_cases hgo:Sq.fc = 0 ∧ ¬ (peekL T Sq).kind = 6
 try simp only[if_pos hgo,Z]
 have h0:=z.h0 hgo.1
 obtain ⟨l1,S1,v1,h1,e1,hl1,z1⟩:=Zt.one 1 (z.call (op:=.stmt) tm hnd (.inr h0))
 try simp only[h1,e1,Z]
 exact Zt.tail (z1.call (op:=(.top (kids ++ [v1]))) tm hnd (.inr h0))
 try simp only[if_neg hgo,Z]
 exact z.fin
theorem some_z (T : List Tk) (n : Nat) (stop : List UInt8) (hs : Toks T) (hn : n ≤ 1000000) (tm : Term T n) : ∀ S, Good T S → InK S (argK (.some stop)) → ArgOk T (.some stop) S → need T (.some stop) S ≤ n + 1 → Zr T (.some stop) (n + 1) S (run T (n + 1) (.some stop) S) := by
 intro S hg hin ha hnd
 simp only[run,Z]
 simp only[ArgOk]at ha
 have z:Zt T S S 0 []:=Zt.start hg InK.nil
 obtain ⟨kids,S1,h1,hl1,z1⟩:=Zt.lst (z.call (op:=(.someLoop stop [])) tm hnd)
 simp only[argK,loopK,Option.getD_some,List.length_cons,List.length_nil]at hl1
 try simp only[h1,Z]
 obtain ⟨S2,e1,z2⟩:=z1.must stop
 try simp only[e1,Z]
 exact z2.fin
end Go.Proofs.YtcbgpjlcfkkdlaaGreatDoor

namespace Go.Proofs.YtcbgpjlcfkkdlaaGreatDoor
open Go Go.AL Go.Proofs
theorem term_all (T : List Tk) (hs : Toks T) : ∀ n, n ≤ 1000000 → Term T n
  | 0, _ => by
      intro op S hg _ ha hnd
      exfalso
      unfold need at hnd
      split at hnd
      · rename_i h
        have := hg.rd.pos h
        omega
      · have : 0 < rankF op := by
          cases op with
          | binary l =>
            simp only [ArgOk] at ha
            simp only [rankF]
            omega
          | _ => simp [rankF]
        omega
  | n + 1, hn => by
      have ih := term_all T hs n (by omega)
      have hn' : n ≤ 1000000 := by omega
      intro op S hg hin ha hnd
      cases op with
      | stmt => exact stmt_z T n hs hn' ih S hg hin ha hnd
      | word t => exact word_z T n t hs hn' ih S hg hin ha hnd
      | named t => exact named_z T n t hs hn' ih S hg hin ha hnd
      | locl a => exact local_z T n a hs hn' ih S hg hin ha hnd
      | literal => exact literal_z T n hs hn' ih S hg hin ha hnd
      | enum a => exact enum_z T n a hs hn' ih S hg hin ha hnd
      | block => exact block_z T n hs hn' ih S hg hin ha hnd
      | body => exact body_z T n hs hn' ih S hg hin ha hnd
      | control t => exact control_z T n t hs hn' ih S hg hin ha hnd
      | paren => exact paren_z T n hs hn' ih S hg hin ha hnd
      | loop a => exact loop_z T n a hs hn' ih S hg hin ha hnd
      | foreach a => exact foreach_z T n a hs hn' ih S hg hin ha hnd
      | cases a => exact cases_z T n a hs hn' ih S hg hin ha hnd
      | expr => exact expr_z T n hs hn' ih S hg hin ha hnd
      | cond a => exact cond_z T n a hs hn' ih S hg hin ha hnd
      | binary v => exact binary_z T n v hs hn' ih S hg hin ha hnd
      | unary => exact unary_z T n hs hn' ih S hg hin ha hnd
      | postf => exact postfix_z T n hs hn' ih S hg hin ha hnd
      | some x => exact some_z T n x hs hn' ih S hg hin ha hnd
      | primary => exact primary_z T n hs hn' ih S hg hin ha hnd
      | member => exact member_z T n hs hn' ih S hg hin ha hnd
      | table => exact table_z T n hs hn' ih S hg hin ha hnd
      | function => exact function_z T n hs hn' ih S hg hin ha hnd
      | params a x => exact params_z T n a x hs hn' ih S hg hin ha hnd
      | clas => exact class_z T n hs hn' ih S hg hin ha hnd
      | enumLoop v kids => exact enum_zl T n 0 v kids hs hn' ih S hg hin ha hnd
      | blockLoop kids => exact block_zl T n kids hs hn' ih S hg hin ha hnd
      | casesLoop ot kids => exact cases_zl T n 0 ot kids hs hn' ih S hg hin ha hnd
      | caseLoop kids => exact cases_zl1 T n 0 kids hs hn' ih S hg hin ha hnd
      | someLoop x kids => exact some_zl T n x kids hs hn' ih S hg hin ha hnd
      | tableLoop kids => exact table_zl T n kids hs hn' ih S hg hin ha hnd
      | paramsLoop kids => exact params_zl T n 0 [] kids hs hn' ih S hg hin ha hnd
      | classLoop kids => exact class_zl T n kids hs hn' ih S hg hin ha hnd
      | top kids => exact top_zl T n kids hs hn' ih S hg hin ha hnd
      | binLoop v a i => exact binary_zl T n v ⟨0, a, [], 0, false⟩ i hs hn' ih S hg hin ha hnd
      | postLoop a i => exact postfix_zl T n ⟨0, a, [], 0, false⟩ i hs hn' ih S hg hin ha hnd
end Go.Proofs.YtcbgpjlcfkkdlaaGreatDoor

namespace Go.Proofs.YtcbgpjlcfkkdlaaGreatDoor
open Go Go.AL Go.Proofs
structure TkFine (t : Tk) : Prop where
  short : t.text.length ≤ 1000000
  num : t.num ≤ 9223372036854775807
theorem parseR_le (s : List UInt8) (b : Nat) : (parseR s b).1 ≤ 9223372036854775807 := by
  unfold parseR
  simp only
  split
  · decide
  · split
    · decide
    · split
      · decide
      · split
        · exact wrap_le _
        · exact wrap_le _
theorem bitOr_le (a b : Int) : bitOr .i64 a b ≤ 9223372036854775807 := wrap_le _
theorem numbR_le (t : List UInt8) : (numbR t).1 ≤ 9223372036854775807 := by
  unfold numbR
  split
  · split
    · split
      · exact bitOr_le _ _
      · decide
    · exact parseR_le _ _
  · split
    · decide
    · exact parseR_le _ _
theorem next_fine (s : List UInt8) (hs : s.length ≤ 10000) (i : Nat) (hi : i < s.length) : (avTok (nextR s i).1).2.1.length ≤ 1000000 ∧ (avTok (nextR s i).1).2.2.1 ≤ 9223372036854775807 := by
  have hsp := spanW_len s i
  unfold nextR
  split
  · exact ⟨by show (spanW s i).length ≤ _; omega, by show (0 : Int) ≤ _; decide⟩
  · split
    · split
      · exact ⟨by show (spanW s i).length ≤ _; omega, numbR_le _⟩
      · exact ⟨by show 0 ≤ _; omega, by show (0 : Int) ≤ _; decide⟩
    · split
      · unfold strR
        split
        · exact ⟨by show 0 ≤ _; omega, by show (0 : Int) ≤ _; decide⟩
        · rename_i t ht
          have := rawR_len ht
          split
          · exact ⟨by show 0 ≤ _; omega, by show (0 : Int) ≤ _; decide⟩
          · rename_i x hx
            have h2 := unesR_len _ _ _ _ _ hx
            simp only [List.length_nil] at h2
            exact ⟨by show x.length ≤ _; omega, by show (0 : Int) ≤ _; decide⟩
      · split
        · unfold charR
          split
          · exact ⟨by show 0 ≤ _; omega, by show (0 : Int) ≤ _; decide⟩
          · rename_i t ht
            have := rawR_len ht
            split
            · exact ⟨by show 0 ≤ _; omega, by show (0 : Int) ≤ _; decide⟩
            · rename_i x hx
              split
              · refine ⟨?_, ?_⟩
                · show ([39] ++ t ++ [39]).length ≤ _
                  simp only [List.length_append, List.length_singleton]
                  omega
                · show ((x.getD 0 0).toNat : Int) ≤ _
                  have := (x.getD 0 0).toNat_lt
                  omega
              · exact ⟨by show 0 ≤ _; omega, by show (0 : Int) ≤ _; decide⟩
        · split
          · rename_i x hx
            have h1 := List.find?_some hx
            have h2 := hasPrefix_len (by simpa using h1)
            rw [List.length_drop] at h2
            exact ⟨by show x.length ≤ _; omega, by show (0 : Int) ≤ _; decide⟩
          · exact ⟨by show 0 ≤ _; omega, by show (0 : Int) ≤ _; decide⟩
theorem scan_ok (s : List UInt8) (hs : s.length ≤ 10000) : ∀ (n i : Nat) (b : Bool) (out : List Tk), s.length + 1 - i ≤ n → i ≤ s.length → out.length ≤ i → (∀ t ∈ out, TkFine t) →
    (∀ T, scanR s n i b out = .inl T → (∀ t ∈ T, TkFine t) ∧ T.length ≤ s.length + 1 ∧ ∃ T0 t, T = T0 ++ [t] ∧ t.kind = 6 ∧ t.pos = (s.length : Int)) ∧ (∀ f, scanR s n i b out = .inr f → ¬ f.1 = 0)
  | 0, i, b, out, h1, h2, _, _ => by omega
  | n + 1, i, b, out, h1, h2, h3, h4 => by
    have hg := gapR_le s (s.length - i) i b h2
    simp only [scanR]
    obtain ⟨g, hgg⟩ : ∃ g, gapR s (s.length - i) i b = g := ⟨_, rfl⟩
    rw [hgg] at hg ⊢
    obtain ⟨e, j, bb⟩ := g
    simp only at hg ⊢
    cases e with
    | some p => exact ⟨fun T h => (by cases h), fun f h => (by injection h with h; rw [← h]; exact (by decide : ¬ (5 : Int) = 0))⟩
    | none =>
      simp only
      by_cases hj : j = s.length
      · simp only [hj, if_true]
        refine ⟨fun T h => ?_, fun f h => (by cases h)⟩
        injection h with h
        subst h
        refine ⟨fun t ht => ?_, by simp only [List.length_append, List.length_singleton]; omega, out, _, rfl, rfl, rfl⟩
        rcases List.mem_append.1 ht with ht | ht
        · exact h4 t ht
        · rw [List.mem_singleton.1 ht]; exact ⟨by show 0 ≤ _; omega, by show (0 : Int) ≤ _; decide⟩
      · simp only [hj, if_false]
        by_cases ho : out.length = 65536
        · omega
        · simp only [ho, if_false]
          have hjl : j < s.length := by omega
          have hn := nextR_le s j hjl
          have hf := next_fine s hs j hjl
          by_cases hx : (avTok (nextR s j).1).2.2.2.1 = 0
          · simp only [hx, if_true]
            have hn2 := hn.2 hx
            refine scan_ok s hs n _ _ _ ?_ hn.1 ?_ fun t ht => ?_
            · omega
            · simp only [List.length_append, List.length_singleton]; omega
            rcases List.mem_append.1 ht with ht | ht
            · exact h4 t ht
            · rw [List.mem_singleton.1 ht]; exact ⟨hf.1, hf.2⟩
          · simp only [hx, if_false]
            exact ⟨fun T h => (by cases h), fun f h => by injection h with h; rw [← h]; exact hx⟩
end Go.Proofs.YtcbgpjlcfkkdlaaGreatDoor

namespace Go.Proofs.YtcbgpjlcfkkdlaaGreatDoor
open Go Go.AL Go.Proofs
theorem stmt_w (T : List Tk) (tt : Tok) (n : Nat) (ih : ∀ m op, m ≤ n → Meth T tt m op) : Meth T tt (n + 1) .stmt := by
 refine Meth.of fun S l S' q r t1 t2 B h o R hR=>?_
 simp only[run,Z]at q
 refine acalls_ofD Tryz.func22 rfl Tryz.ntmps22 (congrArg Array.toList Tryz.results22) fun Q hQ => ?_
 have r1:=o.own.blk
 (focus repeat' first|refine ga ?_|(refine gb ?_;try simp[gz, *])|refine gk fun _ _=>?_|refine gc ?_ ?_|exact gr _|refine gi fun _=>?_|(refine gn ?_ ?_;focus(intros;simp[*];done)))
 refine o.down fun k1 S1 e1 o1 r2=>?_
 try simp only[e1,Z]at q
 clear o r1 e1
 obtain ⟨t,ht_t⟩:∃ x,Sh (peekL T S1=x):=⟨_,⟨rfl⟩⟩
 try simp only[ht_t.out,Z]at q
 simp [gz, *]
 (focus repeat' first|refine ga ?_|(refine gb ?_;try simp[gz, *])|refine gk fun _ _=>?_|refine gc ?_ ?_|exact gr _|refine gi fun _=>?_|(refine gn ?_ ?_;focus(intros;simp[*];done)))
 refine o1.peek ht_t ?_
 simp [gz, *]
 intro b3 zb3
 obtain ⟨n_r_b3,n_b3_r⟩:=o1.ne zb3
 have yb3:=o1.y zb3
 have o2:=o1.new zb3 (.cells (tkRow t))
 clear o1 zb3
 try simp [gz, *]
 cases d1:decide (t.kind = 2)
 try simp only[ef d1,d1,Z]at q
 (focus repeat' first|refine ga ?_|(refine gb ?_;try simp[gz, *])|refine gk fun _ _=>?_|refine gc ?_ ?_|exact gr _|refine gi fun _=>?_|(refine gn ?_ ?_;focus(intros;simp[*];done)))
 refine o2.settle fun k2 o3 r3=>?_
 have p1:=o3.b1
 clear o2 r2
 cases c1:isL T [123] S1
 try simp only[c1,Z]at q
 refine o3.is [123] ?_
 simp [gz, *]
 (focus repeat' first|refine ga ?_|(refine gb ?_;try simp[gz, *])|refine gk fun _ _=>?_|refine gc ?_ ?_|exact gr _|refine gi fun _=>?_|(refine gn ?_ ?_;focus(intros;simp[*];done)))
 refine o3.eat [59] (fun c2 k3 o4 r4=>?_) fun c2 k3 S2 e2 z1 o4 r4=>?_
 try simp only[c2,Z]at q
 have p2:=o4.b1
 clear o3 r3 p1 c2
 simp [gz, *]
 (focus repeat' first|refine ga ?_|(refine gb ?_;try simp[gz, *])|refine gk fun _ _=>?_|refine gc ?_ ?_|exact gr _|refine gi fun _=>?_|(refine gn ?_ ?_;focus(intros;simp[*];done)))
 have o5:=(o4.minus yb3)
 refine awp_region_draw [b3] [(0, true), (1, true), (2, true), (3, true), (4, false), (5, false), (6, false)] [7] follows (by kernel_rfl) rfl (by kernel_rfl) ?_; simp [gz, *]
 clear o4
 (focus repeat' first|refine ga ?_|(refine gb ?_;try simp[gz, *])|refine gk fun _ _=>?_|refine gc ?_ ?_|exact gr _|refine gi fun _=>?_|(refine gn ?_ ?_;focus(intros;simp[*];done)))
 obtain ⟨l1,S3,h1,q⟩:=bo2 q
 refine o5.call (ih _ _ (by omega)) h1 fun k4 u1 u2 v1 e3 o6 r5=>?_
 try simp only[e3,Z]at q
 clear o5 h1
 simp [gz, *]
 intro hn1
 rw [show (k4.plus [b3] k3).minus [b3]=k4 from minus_of_none (by simp[hn1])]
 clear hn1
 refine o6.add 28 t.pos [] 0 [v1] (fun k5 u3 u4 v2 S4 e4 o7 r6=>?_)
 try simp only[e4,Z]at q
 clear o6 r5 e4 e3
 simp [gz, *]
 intro hn2
 rw [show k5.plus [b3] (k4.plus [b3] k3)=_ from plus_one (x:=.cells (tkRow t)) (by simp[*])]
 have o8:=o7.new hn2 (.cells (tkRow t))
 clear o7 r4 p2
 (focus repeat' first|refine ga ?_|(refine gb ?_;try simp[gz, *])|refine gk fun _ _=>?_|refine gc ?_ ?_|exact gr _|refine gi fun _=>?_|(refine gn ?_ ?_;focus(intros;simp[*];done)))
 refine o8.settle fun k6 o9 r7=>?_
 have p3:=o9.b1
 clear o8 r6
 refine o9.fend fun k7 S5 e5 o10 r8=>?_
 try simp only[e5,Z]at q
 have p4:=o10.b1
 clear o9 r7 p3 e5
 obtain ⟨rfl,rfl⟩:=fi q
 simp [gz, *]
 (focus repeat' first|refine ga ?_|(refine gb ?_;try simp[gz, *])|refine gk fun _ _=>?_|refine gc ?_ ?_|exact gr _|refine gi fun _=>?_|(refine gn ?_ ?_;focus(intros;simp[*];done)))
 refine o10.upd fun k8 o11=>?_
 exact hR.out _ _ _ o11.fin
 try simp only[c2,e2,Z]at q
 have p5:=o4.b1
 clear o3 r3 p1 e2 c2
 simp [gz, *]
 (focus repeat' first|refine ga ?_|(refine gb ?_;try simp[gz, *])|refine gk fun _ _=>?_|refine gc ?_ ?_|exact gr _|refine gi fun _=>?_|(refine gn ?_ ?_;focus(intros;simp[*];done)))
 refine o4.add 43 t.pos [] 0 [] (fun k9 u5 u6 v3 S6 e6 o12 r9=>?_)
 try simp only[e6,Z]at q
 have p6:=o12.b1
 clear o4 r4 p5 e6
 obtain ⟨rfl,rfl⟩:=fi q
 simp [gz, *]
 (focus repeat' first|refine ga ?_|(refine gb ?_;try simp[gz, *])|refine gk fun _ _=>?_|refine gc ?_ ?_|exact gr _|refine gi fun _=>?_|(refine gn ?_ ?_;focus(intros;simp[*];done)))
 refine o12.upd fun k10 o13=>?_
 exact hR.out _ _ _ o13.fin
 try simp only[c1,Z]at q
 refine o3.is [123] ?_
 simp [gz, *]
 (focus repeat' first|refine ga ?_|(refine gb ?_;try simp[gz, *])|refine gk fun _ _=>?_|refine gc ?_ ?_|exact gr _|refine gi fun _=>?_|(refine gn ?_ ?_;focus(intros;simp[*];done)))
 obtain ⟨l2,S7,h2,q⟩:=bo2 q
 refine o3.call (ih _ _ (by omega)) h2 fun k11 u7 u8 v4 e7 o14 r10=>?_
 try simp only[e7,Z]at q
 have p7:=o14.b1
 clear o3 r3 p1 h2
 obtain ⟨rfl,rfl⟩:=fi q
 subst e7
 simp [gz, *]
 (focus repeat' first|refine ga ?_|(refine gb ?_;try simp[gz, *])|refine gk fun _ _=>?_|refine gc ?_ ?_|exact gr _|refine gi fun _=>?_|(refine gn ?_ ?_;focus(intros;simp[*];done)))
 refine o14.upd fun k12 o15=>?_
 exact hR.out _ _ _ o15.fin
 try simp only[et d1,d1,Z]at q
 (focus repeat' first|refine ga ?_|(refine gb ?_;try simp[gz, *])|refine gk fun _ _=>?_|refine gc ?_ ?_|exact gr _|refine gi fun _=>?_|(refine gn ?_ ?_;focus(intros;simp[*];done)))
 refine o2.settle fun k13 o16 r11=>?_
 have p8:=o16.b1
 clear o2 r2
 obtain ⟨l3,S8,h3,q⟩:=bo2 q
 refine o16.at_ (ih _ (.word t) (by omega)) h3 fun k14 u9 u10 o17 r12=>?_
 have p9:=o17.b1
 clear o16 r11 p8 h3
 rw [show resOf (.word t) l3=.tup [.int .i64 (fst0 l3),.bool (decide (l3.getD 1 0=1))] from rfl]
 cases d2:decide (l3.getD 1 0 = 1)
 try simp only[ef d2,d2,Z]at q
 simp [gz, *]
 (focus repeat' first|refine ga ?_|(refine gb ?_;try simp[gz, *])|refine gk fun _ _=>?_|refine gc ?_ ?_|exact gr _|refine gi fun _=>?_|(refine gn ?_ ?_;focus(intros;simp[*];done)))
 cases c3:isL T [123] S8
 try simp only[c3,Z]at q
 refine o17.is [123] ?_
 simp [gz, *]
 (focus repeat' first|refine ga ?_|(refine gb ?_;try simp[gz, *])|refine gk fun _ _=>?_|refine gc ?_ ?_|exact gr _|refine gi fun _=>?_|(refine gn ?_ ?_;focus(intros;simp[*];done)))
 refine o17.eat [59] (fun c4 k15 o18 r13=>?_) fun c4 k15 S9 e8 z2 o18 r13=>?_
 try simp only[c4,Z]at q
 have p10:=o18.b1
 clear o17 r12 p9 c4
 simp [gz, *]
 (focus repeat' first|refine ga ?_|(refine gb ?_;try simp[gz, *])|refine gk fun _ _=>?_|refine gc ?_ ?_|exact gr _|refine gi fun _=>?_|(refine gn ?_ ?_;focus(intros;simp[*];done)))
 have o19:=(o18.minus yb3)
 refine awp_region_draw [b3] [(0, true), (1, true), (2, true), (3, true), (4, false), (5, false), (6, false)] [7] follows (by kernel_rfl) rfl (by kernel_rfl) ?_; simp [gz, *]
 clear o18
 (focus repeat' first|refine ga ?_|(refine gb ?_;try simp[gz, *])|refine gk fun _ _=>?_|refine gc ?_ ?_|exact gr _|refine gi fun _=>?_|(refine gn ?_ ?_;focus(intros;simp[*];done)))
 obtain ⟨l4,S10,h4,q⟩:=bo2 q
 refine o19.call (ih _ _ (by omega)) h4 fun k16 u11 u12 v5 e9 o20 r14=>?_
 try simp only[e9,Z]at q
 clear o19 h4
 simp [gz, *]
 intro hn3
 rw [show (k16.plus [b3] k15).minus [b3]=k16 from minus_of_none (by simp[hn3])]
 clear hn3
 refine o20.add 28 t.pos [] 0 [v5] (fun k17 u13 u14 v6 S11 e10 o21 r15=>?_)
 try simp only[e10,Z]at q
 clear o20 r14 e10 e9
 simp [gz, *]
 intro hn4
 rw [show k17.plus [b3] (k16.plus [b3] k15)=_ from plus_one (x:=.cells (tkRow t)) (by simp[*])]
 have o22:=o21.new hn4 (.cells (tkRow t))
 clear o21 r13 p10
 (focus repeat' first|refine ga ?_|(refine gb ?_;try simp[gz, *])|refine gk fun _ _=>?_|refine gc ?_ ?_|exact gr _|refine gi fun _=>?_|(refine gn ?_ ?_;focus(intros;simp[*];done)))
 refine o22.settle fun k18 o23 r16=>?_
 have p11:=o23.b1
 clear o22 r15
 refine o23.fend fun k19 S12 e11 o24 r17=>?_
 try simp only[e11,Z]at q
 have p12:=o24.b1
 clear o23 r16 p11 e11
 obtain ⟨rfl,rfl⟩:=fi q
 simp [gz, *]
 (focus repeat' first|refine ga ?_|(refine gb ?_;try simp[gz, *])|refine gk fun _ _=>?_|refine gc ?_ ?_|exact gr _|refine gi fun _=>?_|(refine gn ?_ ?_;focus(intros;simp[*];done)))
 refine o24.upd fun k20 o25=>?_
 exact hR.out _ _ _ o25.fin
 try simp only[c4,e8,Z]at q
 have p13:=o18.b1
 clear o17 r12 p9 e8 c4
 simp [gz, *]
 (focus repeat' first|refine ga ?_|(refine gb ?_;try simp[gz, *])|refine gk fun _ _=>?_|refine gc ?_ ?_|exact gr _|refine gi fun _=>?_|(refine gn ?_ ?_;focus(intros;simp[*];done)))
 refine o18.add 43 t.pos [] 0 [] (fun k21 u15 u16 v7 S13 e12 o26 r18=>?_)
 try simp only[e12,Z]at q
 have p14:=o26.b1
 clear o18 r13 p13 e12
 obtain ⟨rfl,rfl⟩:=fi q
 simp [gz, *]
 (focus repeat' first|refine ga ?_|(refine gb ?_;try simp[gz, *])|refine gk fun _ _=>?_|refine gc ?_ ?_|exact gr _|refine gi fun _=>?_|(refine gn ?_ ?_;focus(intros;simp[*];done)))
 refine o26.upd fun k22 o27=>?_
 exact hR.out _ _ _ o27.fin
 try simp only[c3,Z]at q
 refine o17.is [123] ?_
 simp [gz, *]
 (focus repeat' first|refine ga ?_|(refine gb ?_;try simp[gz, *])|refine gk fun _ _=>?_|refine gc ?_ ?_|exact gr _|refine gi fun _=>?_|(refine gn ?_ ?_;focus(intros;simp[*];done)))
 obtain ⟨l5,S14,h5,q⟩:=bo2 q
 refine o17.call (ih _ _ (by omega)) h5 fun k23 u17 u18 v8 e13 o28 r19=>?_
 try simp only[e13,Z]at q
 have p15:=o28.b1
 clear o17 r12 p9 h5
 obtain ⟨rfl,rfl⟩:=fi q
 subst e13
 simp [gz, *]
 (focus repeat' first|refine ga ?_|(refine gb ?_;try simp[gz, *])|refine gk fun _ _=>?_|refine gc ?_ ?_|exact gr _|refine gi fun _=>?_|(refine gn ?_ ?_;focus(intros;simp[*];done)))
 refine o28.upd fun k24 o29=>?_
 exact hR.out _ _ _ o29.fin
 try simp only[et d2,d2,Z]at q
 rw [show resK (.word t) l3=[fst0 l3] from if_pos (of_decide_eq_true d2)]at o17
 obtain ⟨rfl,rfl⟩:=fi q
 simp [gz, *]
 (focus repeat' first|refine ga ?_|(refine gb ?_;try simp[gz, *])|refine gk fun _ _=>?_|refine gc ?_ ?_|exact gr _|refine gi fun _=>?_|(refine gn ?_ ?_;focus(intros;simp[*];done)))
 refine o17.upd fun k25 o30=>?_
 exact hR.out _ _ _ o30.fin
end Go.Proofs.YtcbgpjlcfkkdlaaGreatDoor

namespace Go.Proofs.YtcbgpjlcfkkdlaaGreatDoor
open Go Go.AL Go.Proofs
theorem literal_w (T : List Tk) (tt : Tok) (n : Nat) (ih : ∀ m op, m ≤ n → Meth T tt m op) : Meth T tt (n + 1) .literal := by
 refine Meth.of fun S l S' q r t1 t2 B h o R hR=>?_
 simp only[run,Z]at q
 obtain ⟨t,ht_t⟩:∃ x,Sh (peekL T S=x):=⟨_,⟨rfl⟩⟩
 try simp only[ht_t.out,Z]at q
 refine acalls_of Tryz.func85 rfl Tryz.ntmps85 (congrArg Array.toList Tryz.results85) fun Q hQ => ?_
 have r1:=o.own.blk
 (focus repeat' first|refine ga ?_|(refine gb ?_;try simp[gz, *])|refine gk fun _ _=>?_|refine gc ?_ ?_|exact gr _|refine gi fun _=>?_|(refine gn ?_ ?_;focus(intros;simp[*];done)))
 refine o.peek ht_t ?_
 simp [gz, *]
 intro b3 zb3
 obtain ⟨n_r_b3,n_b3_r⟩:=o.ne zb3
 have yb3:=o.y zb3
 have o1:=o.new zb3 (.cells (tkRow t))
 clear o zb3
 try simp [gz, *]
 (focus repeat' first|refine ga ?_|(refine gb ?_;try simp[gz, *])|refine gk fun _ _=>?_|refine gc ?_ ?_|exact gr _|refine gi fun _=>?_|(refine gn ?_ ?_;focus(intros;simp[*];done)))
 refine o1.settle fun k1 o2 r2=>?_
 have p1:=o2.b1
 clear o1 r1
 refine o2.eat [45] (fun c1 k2 o3 r3=>?_) fun c1 k2 S1 e1 z1 o3 r3=>?_
 try simp only[c1,Z]at q
 have p2:=o3.b1
 clear o2 r2 p1 c1
 cases d1:decide (t.kind = 3)
 try simp only[ef d1,d1,Z]at q
 cases d2:decide (t.kind = 4)
 try simp only[ef d2,d2,Z]at q
 simp [gz, *]
 (focus repeat' first|refine ga ?_|(refine gb ?_;try simp[gz, *])|refine gk fun _ _=>?_|refine gc ?_ ?_|exact gr _|refine gi fun _=>?_|(refine gn ?_ ?_;focus(intros;simp[*];done)))
 refine o3.eat [110, 117, 108, 108] (fun c2 k3 o4 r4=>?_) fun c2 k3 S2 e2 z2 o4 r4=>?_
 try simp only[c2,Z]at q
 have p3:=o4.b1
 clear o3 r3 p2 c2
 simp [gz, *]
 (focus repeat' first|refine ga ?_|(refine gb ?_;try simp[gz, *])|refine gk fun _ _=>?_|refine gc ?_ ?_|exact gr _|refine gi fun _=>?_|(refine gn ?_ ?_;focus(intros;simp[*];done)))
 refine o4.eat [116, 114, 117, 101] (fun c3 k4 o5 r5=>?_) fun c3 k4 S3 e3 z3 o5 r5=>?_
 try simp only[c3,Z]at q
 have p4:=o5.b1
 clear o4 r4 p3 c3
 simp [gz, *]
 (focus repeat' first|refine ga ?_|(refine gb ?_;try simp[gz, *])|refine gk fun _ _=>?_|refine gc ?_ ?_|exact gr _|refine gi fun _=>?_|(refine gn ?_ ?_;focus(intros;simp[*];done)))
 refine o5.eat [102, 97, 108, 115, 101] (fun c4 k5 o6 r6=>?_) fun c4 k5 S4 e4 z4 o6 r6=>?_
 try simp only[c4,Z]at q
 have p5:=o6.b1
 clear o5 r5 p4 c4
 simp [gz, *]
 (focus repeat' first|refine ga ?_|(refine gb ?_;try simp[gz, *])|refine gk fun _ _=>?_|refine gc ?_ ?_|exact gr _|refine gi fun _=>?_|(refine gn ?_ ?_;focus(intros;simp[*];done)))
 refine o6.wrong 5 fun k6 S5 e5 o7 r7=>?_
 try simp only[e5,Z]at q
 have p6:=o7.b1
 clear o6 r6 p5 e5
 obtain ⟨rfl,rfl⟩:=fi q
 simp [gz, *]
 (focus repeat' first|refine ga ?_|(refine gb ?_;try simp[gz, *])|refine gk fun _ _=>?_|refine gc ?_ ?_|exact gr _|refine gi fun _=>?_|(refine gn ?_ ?_;focus(intros;simp[*];done)))
 exact hR.out _ _ _ o7.fin
 try simp only[c4,e4,Z]at q
 have p7:=o6.b1
 clear o5 r5 p4 e4 c4
 simp [gz, *]
 (focus repeat' first|refine ga ?_|(refine gb ?_;try simp[gz, *])|refine gk fun _ _=>?_|refine gc ?_ ?_|exact gr _|refine gi fun _=>?_|(refine gn ?_ ?_;focus(intros;simp[*];done)))
 refine o6.add 3 t.pos [] 0 [] (fun k7 u1 u2 v1 S6 e6 o8 r8=>?_)
 try simp only[e6,Z]at q
 have p8:=o8.b1
 clear o6 r6 p7 e6
 obtain ⟨rfl,rfl⟩:=fi q
 simp [gz, *]
 (focus repeat' first|refine ga ?_|(refine gb ?_;try simp[gz, *])|refine gk fun _ _=>?_|refine gc ?_ ?_|exact gr _|refine gi fun _=>?_|(refine gn ?_ ?_;focus(intros;simp[*];done)))
 exact hR.out _ _ _ o8.fin
 try simp only[c3,e3,Z]at q
 have p9:=o5.b1
 clear o4 r4 p3 e3 c3
 simp [gz, *]
 (focus repeat' first|refine ga ?_|(refine gb ?_;try simp[gz, *])|refine gk fun _ _=>?_|refine gc ?_ ?_|exact gr _|refine gi fun _=>?_|(refine gn ?_ ?_;focus(intros;simp[*];done)))
 refine o5.add 2 t.pos [] 0 [] (fun k8 u3 u4 v2 S7 e7 o9 r9=>?_)
 try simp only[e7,Z]at q
 have p10:=o9.b1
 clear o5 r5 p9 e7
 obtain ⟨rfl,rfl⟩:=fi q
 simp [gz, *]
 (focus repeat' first|refine ga ?_|(refine gb ?_;try simp[gz, *])|refine gk fun _ _=>?_|refine gc ?_ ?_|exact gr _|refine gi fun _=>?_|(refine gn ?_ ?_;focus(intros;simp[*];done)))
 exact hR.out _ _ _ o9.fin
 try simp only[c2,e2,Z]at q
 have p11:=o4.b1
 clear o3 r3 p2 e2 c2
 simp [gz, *]
 (focus repeat' first|refine ga ?_|(refine gb ?_;try simp[gz, *])|refine gk fun _ _=>?_|refine gc ?_ ?_|exact gr _|refine gi fun _=>?_|(refine gn ?_ ?_;focus(intros;simp[*];done)))
 refine o4.add 1 t.pos [] 0 [] (fun k9 u5 u6 v3 S8 e8 o10 r10=>?_)
 try simp only[e8,Z]at q
 have p12:=o10.b1
 clear o4 r4 p11 e8
 obtain ⟨rfl,rfl⟩:=fi q
 simp [gz, *]
 (focus repeat' first|refine ga ?_|(refine gb ?_;try simp[gz, *])|refine gk fun _ _=>?_|refine gc ?_ ?_|exact gr _|refine gi fun _=>?_|(refine gn ?_ ?_;focus(intros;simp[*];done)))
 exact hR.out _ _ _ o10.fin
 try simp only[et d2,d2,Z]at q
 have w1:=o3.good.rd.w1
 simp [gz, *]
 (focus repeat' first|refine ga ?_|(refine gb ?_;try simp[gz, *])|refine gk fun _ _=>?_|refine gc ?_ ?_|exact gr _|refine gi fun _=>?_|(refine gn ?_ ?_;focus(intros;simp[*];done)))
 have o11:=o3.stepped (kk ht_t d2)
 clear o3
 refine o11.settle fun k10 o12 r11=>?_
 have p13:=o12.b1
 clear o11 r3 p2 w1
 refine o12.add 5 t.pos t.text 0 [] (fun k11 u7 u8 v4 S9 e9 o13 r12=>?_)
 try simp only[e9,Z]at q
 have p14:=o13.b1
 clear o12 r11 p13 e9
 obtain ⟨rfl,rfl⟩:=fi q
 simp [gz, *]
 (focus repeat' first|refine ga ?_|(refine gb ?_;try simp[gz, *])|refine gk fun _ _=>?_|refine gc ?_ ?_|exact gr _|refine gi fun _=>?_|(refine gn ?_ ?_;focus(intros;simp[*];done)))
 exact hR.out _ _ _ o13.fin
 try simp only[et d1,d1,Z]at q
 have w2:=o3.good.rd.w1
 simp [gz, *]
 (focus repeat' first|refine ga ?_|(refine gb ?_;try simp[gz, *])|refine gk fun _ _=>?_|refine gc ?_ ?_|exact gr _|refine gi fun _=>?_|(refine gn ?_ ?_;focus(intros;simp[*];done)))
 have o14:=o3.stepped (kk ht_t d1)
 clear o3
 refine o14.settle fun k12 o15 r13=>?_
 have p15:=o15.b1
 clear o14 r3 p2 w2
 refine o15.add 4 t.pos [] t.num [] (fun k13 u9 u10 v5 S10 e10 o16 r14=>?_)
 try simp only[e10,Z]at q
 have p16:=o16.b1
 clear o15 r13 p15 e10
 obtain ⟨rfl,rfl⟩:=fi q
 simp [gz, *]
 (focus repeat' first|refine ga ?_|(refine gb ?_;try simp[gz, *])|refine gk fun _ _=>?_|refine gc ?_ ?_|exact gr _|refine gi fun _=>?_|(refine gn ?_ ?_;focus(intros;simp[*];done)))
 exact hR.out _ _ _ o16.fin
 try simp only[c1,e1,Z]at q
 have p17:=o3.b1
 clear o2 r2 p1 e1 c1
 obtain ⟨u,ht_u⟩:∃ x,Sh (peekL T S1=x):=⟨_,⟨rfl⟩⟩
 try simp only[ht_u.out,Z]at q
 cases d3:decide (u.kind = 3)
 try simp only[ef d3,d3,Z]at q
 simp [gz, *]
 (focus repeat' first|refine ga ?_|(refine gb ?_;try simp[gz, *])|refine gk fun _ _=>?_|refine gc ?_ ?_|exact gr _|refine gi fun _=>?_|(refine gn ?_ ?_;focus(intros;simp[*];done)))
 refine o3.peek ht_u ?_
 simp [gz, *]
 intro b4 zb4
 obtain ⟨n_r_b4,n_b4_r⟩:=o3.ne zb4
 obtain ⟨n_b3_b4,n_b4_b3⟩:=ne2 p17 zb4
 have yb4:=o3.y zb4
 have o17:=o3.new zb4 (.cells (tkRow u))
 clear o3 zb4
 try simp [gz, *]
 (focus repeat' first|refine ga ?_|(refine gb ?_;try simp[gz, *])|refine gk fun _ _=>?_|refine gc ?_ ?_|exact gr _|refine gi fun _=>?_|(refine gn ?_ ?_;focus(intros;simp[*];done)))
 refine o17.settle fun k14 o18 r15=>?_
 have p18:=o18.b1
 have p19:=o18.b2 n_b3_b4
 clear o17 r3 p17
 refine o18.wrong 5 fun k15 S11 e11 o19 r16=>?_
 try simp only[e11,Z]at q
 have p20:=o19.b1
 have p21:=o19.b2 n_b3_b4
 clear o18 r15 p18 p19 e11
 obtain ⟨rfl,rfl⟩:=fi q
 simp [gz, *]
 (focus repeat' first|refine ga ?_|(refine gb ?_;try simp[gz, *])|refine gk fun _ _=>?_|refine gc ?_ ?_|exact gr _|refine gi fun _=>?_|(refine gn ?_ ?_;focus(intros;simp[*];done)))
 exact hR.out _ _ _ o19.fin
 try simp only[et d3,d3,Z]at q
 simp [gz, *]
 (focus repeat' first|refine ga ?_|(refine gb ?_;try simp[gz, *])|refine gk fun _ _=>?_|refine gc ?_ ?_|exact gr _|refine gi fun _=>?_|(refine gn ?_ ?_;focus(intros;simp[*];done)))
 refine o3.peek ht_u ?_
 simp [gz, *]
 intro b4 zb4
 obtain ⟨n_r_b4,n_b4_r⟩:=o3.ne zb4
 obtain ⟨n_b3_b4,n_b4_b3⟩:=ne2 p17 zb4
 have yb4:=o3.y zb4
 have o20:=o3.new zb4 (.cells (tkRow u))
 clear o3 zb4
 try simp [gz, *]
 have w3:=o20.good.rd.w1
 (focus repeat' first|refine ga ?_|(refine gb ?_;try simp[gz, *])|refine gk fun _ _=>?_|refine gc ?_ ?_|exact gr _|refine gi fun _=>?_|(refine gn ?_ ?_;focus(intros;simp[*];done)))
 have o21:=o20.stepped (kk ht_u d3)
 clear o20
 refine o21.settleA fun k16 o22 r17=>?_
 have p22:=o22.b1
 have p23:=o22.b2 n_b3_b4
 clear o21 r3 p17 w3
 have o23:=minus_minus ▸ ((o22.minus yb4).minus yb3)
 refine awp_region_draw [b3,b4] [(0, true), (1, true), (2, true), (3, true), (4, true), (5, false), (6, false)] [7] follows (by kernel_rfl) rfl (by kernel_rfl) ?_; simp [gz, *]
 clear o22
 (focus repeat' first|refine ga ?_|(refine gb ?_;try simp[gz, *])|refine gk fun _ _=>?_|refine gc ?_ ?_|exact gr _|refine gi fun _=>?_|(refine gn ?_ ?_;focus(intros;simp[*];done)))
 refine Neg_c u.num _ _ ?_
 simp [gz, *]
 refine o23.add 4 t.pos [] (IntKind.i64.wrap (-u.num)) [] (fun k17 u11 u12 v6 S12 e12 o24 r18=>?_)
 try simp only[e12,Z]at q
 clear o23 e12
 simp [gz, *]
 intro hn1 hn2
 rw [show k17.plus [b3,b4] k16=_ from plus_two (x:=.cells (tkRow t)) (y:=.cells (tkRow u)) n_b3_b4 (by simp[*]) (by simp[*])]
 have o25:=(o24.new hn1 (.cells (tkRow t))).new (b:=b4) (by simp[gz, *]) (.cells (tkRow u))
 clear o24 r17 p22 p23
 obtain ⟨rfl,rfl⟩:=fi q
 (focus repeat' first|refine ga ?_|(refine gb ?_;try simp[gz, *])|refine gk fun _ _=>?_|refine gc ?_ ?_|exact gr _|refine gi fun _=>?_|(refine gn ?_ ?_;focus(intros;simp[*];done)))
 exact hR.out _ _ _ o25.fin
end Go.Proofs.YtcbgpjlcfkkdlaaGreatDoor

