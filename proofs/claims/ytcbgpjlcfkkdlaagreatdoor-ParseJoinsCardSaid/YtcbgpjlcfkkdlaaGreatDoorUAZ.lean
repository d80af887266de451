import Derived.Test.YtcbgpjlcfkkdlaaGreatDoorUAY
set_option linter.unusedSimpArgs false
set_option linter.unusedVariables false
set_option maxRecDepth 100000
set_option maxHeartbeats 16000000
namespace Go.Proofs.YtcbgpjlcfkkdlaaGreatDoor
open Go Go.AL Go.Proofs
theorem word_z (T : List Tk) (n : Nat) (t : Tk) (hs : Toks T) (hn : n ≤ 1000000) (tm : Term T n) : ∀ S, Good T S → InK S (argK (.word t)) → ArgOk T (.word t) S → need T (.word t) S ≤ n + 1 → Zr T (.word t) (n + 1) S (run T (n + 1) (.word t) S) := by
 intro S hg hin ha hnd
 simp only[run,Z]
 simp only[ArgOk]at ha
 have z:Zt T S S 0 []:=Zt.start hg InK.nil
 rw [if_neg ha]
 have h0:=z.k0 ha
 cases d1:decide (t.text = [105, 102])
 try simp only[ef d1,d1,Z]
 cases d2:decide (t.text = [119, 104, 105, 108, 101])
 try simp only[ef d2,d2,Z]
 cases d3:decide (t.text = [100, 111])
 try simp only[ef d3,d3,Z]
 cases d4:decide (t.text = [102, 111, 114])
 try simp only[ef d4,d4,Z]
 cases d5:decide (t.text = [102, 111, 114, 101, 97, 99, 104])
 try simp only[ef d5,d5,Z]
 cases d6:decide (t.text = [115, 119, 105, 116, 99, 104])
 try simp only[ef d6,d6,Z]
 cases d7:decide (t.text = [116, 114, 121])
 try simp only[ef d7,d7,Z]
 cases d8:decide (t.text = [108, 111, 99, 97, 108])
 try simp only[ef d8,d8,Z]
 cases d9:decide (t.text = [98, 114, 101, 97, 107])
 try simp only[ef d9,d9,Z]
 cases d10:decide (t.text = [99, 111, 110, 116, 105, 110, 117, 101])
 try simp only[ef d10,d10,Z]
 cases d11:decide (t.text = [114, 101, 116, 117, 114, 110])
 try simp only[ef d11,d11,Z]
 cases d12:decide (t.text = [121, 105, 101, 108, 100])
 try simp only[ef d12,d12,Z]
 cases d13:decide (t.text = [116, 104, 114, 111, 119])
 try simp only[ef d13,d13,Z]
 cases d14:decide (t.text = [102, 117, 110, 99, 116, 105, 111, 110])
 try simp only[ef d14,d14,Z]
 cases d15:decide (t.text = [99, 108, 97, 115, 115])
 try simp only[ef d15,d15,Z]
 cases d16:decide (t.text = [99, 111, 110, 115, 116])
 try simp only[ef d16,d16,Z]
 cases d17:decide (t.text = [101, 110, 117, 109])
 try simp only[ef d17,d17,Z]
 exact z.fin
 try simp only[et d17,d17,Z]
 obtain ⟨S1,e1,hz1,z1⟩:=z.step (ha)
 try simp only[e1,Z]
 obtain ⟨l1,S2,v1,h1,e2,hl1,z2⟩:=Zt.one 0 (z1.call (op:=(.enum t.pos)) tm hnd (.inr h0))
 try simp only[h1,e2,Z]
 subst e2
 have hl:=hl1.out
 exact z2.fin
 try simp only[et d16,d16,Z]
 obtain ⟨S3,e3,hz2,z3⟩:=z.step (ha)
 try simp only[e3,Z]
 obtain ⟨x1,S4,e4,l2,z4⟩:=z3.name hs
 try simp only[e4,Z]
 obtain ⟨S5,e5,z5⟩:=z4.must [61]
 try simp only[e5,Z]
 obtain ⟨l3,S6,v2,h2,e6,hl2,z6⟩:=Zt.one 0 (z5.call (op:=.literal) tm hnd (.inr h0))
 try simp only[h2,e6,Z]
 obtain ⟨v3,S7,e7,z7⟩:=z6.add 41 t.pos x1 0 [v2]
 try simp only[e7,Z]
 obtain ⟨S8,e8,z8⟩:=z7.fend
 try simp only[e8,Z]
 exact z8.fin
 try simp only[et d15,d15,Z]
 obtain ⟨nt,hnt,⟨lt,-⟩,hnt3,-⟩:=nextk z.good (ha)
 have hx_nt:=tok_ok hs (List.mem_of_getElem? hnt)
 try simp only[hnt3,Z]
 cases d18:decide (nt.kind = 1)
 try simp only[ef d18,d18,Z]
 exact z.fin
 try simp only[et d18,d18,Z]
 obtain ⟨l4,S9,v4,h3,e9,hl3,z9⟩:=Zt.one 1 (z.call (op:=(.named t)) tm hnd (.inr h0) (ha:=⟨(z.good.rd.step ha).1,lt⟩))
 try simp only[h3,e9,Z]
 subst e9
 have hl:=hl3.out
 exact z9.fin
 try simp only[et d14,d14,Z]
 obtain ⟨nt,hnt,⟨lt,-⟩,hnt3,-⟩:=nextk z.good (ha)
 have hx_nt:=tok_ok hs (List.mem_of_getElem? hnt)
 try simp only[hnt3,Z]
 cases d19:decide (nt.kind = 1)
 try simp only[ef d19,d19,Z]
 exact z.fin
 try simp only[et d19,d19,Z]
 obtain ⟨l5,S10,v5,h4,e10,hl4,z10⟩:=Zt.one 1 (z.call (op:=(.named t)) tm hnd (.inr h0) (ha:=⟨(z.good.rd.step ha).1,lt⟩))
 try simp only[h4,e10,Z]
 subst e10
 have hl:=hl4.out
 exact z10.fin
 try simp only[et d13,d13,Z]
 obtain ⟨S11,e11,hz3,z11⟩:=z.step (ha)
 try simp only[e11,Z]
 obtain ⟨l6,S12,v6,h5,e12,hl5,z12⟩:=Zt.one 1 (z11.call (op:=.expr) tm hnd (.inr h0))
 try simp only[h5,e12,Z]
 obtain ⟨v7,S13,e13,z13⟩:=z12.add 39 t.pos [] 0 [v6]
 try simp only[e13,Z]
 obtain ⟨S14,e14,z14⟩:=z13.fend
 try simp only[e14,Z]
 exact z14.fin
 try simp only[et d12,d12,Z]
 obtain ⟨S15,e15,hz4,z15⟩:=z.step (ha)
 try simp only[e15,Z]
 cases c1:endsL T S15
 try simp only[c1,Z]
 obtain ⟨l7,S16,v8,h6,e16,hl6,z16⟩:=Zt.one 1 (z15.call (op:=.expr) tm hnd (.inr h0))
 try simp only[h6,e16,Z]
 obtain ⟨v9,S17,e17,z17⟩:=z16.add 38 t.pos [] 0 [v8]
 try simp only[e17,Z]
 obtain ⟨S18,e18,z18⟩:=z17.fend
 try simp only[e18,Z]
 exact z18.fin
 try simp only[c1,Z]
 obtain ⟨v10,S19,e19,z19⟩:=z15.add 38 t.pos [] 0 [-1]
 try simp only[e19,Z]
 obtain ⟨S20,e20,z20⟩:=z19.fend
 try simp only[e20,Z]
 exact z20.fin
 try simp only[et d11,d11,Z]
 have x2 : decide (t.text = [121, 105, 101, 108, 100]) = false := decide_eq_false (by rw [of_decide_eq_true d11]; decide)
 try simp only[ef x2,x2,Z]
 obtain ⟨S21,e21,hz5,z21⟩:=z.step (ha)
 try simp only[e21,Z]
 cases c2:endsL T S21
 try simp only[c2,Z]
 obtain ⟨l8,S22,v11,h7,e22,hl7,z22⟩:=Zt.one 1 (z21.call (op:=.expr) tm hnd (.inr h0))
 try simp only[h7,e22,Z]
 obtain ⟨v12,S23,e23,z23⟩:=z22.add 37 t.pos [] 0 [v11]
 try simp only[e23,Z]
 obtain ⟨S24,e24,z24⟩:=z23.fend
 try simp only[e24,Z]
 exact z24.fin
 try simp only[c2,Z]
 obtain ⟨v13,S25,e25,z25⟩:=z21.add 37 t.pos [] 0 [-1]
 try simp only[e25,Z]
 obtain ⟨S26,e26,z26⟩:=z25.fend
 try simp only[e26,Z]
 exact z26.fin
 try simp only[et d10,d10,Z]
 obtain ⟨S27,e27,hz6,z27⟩:=z.step (ha)
 try simp only[e27,Z]
 obtain ⟨v14,S28,e28,z28⟩:=z27.add 36 t.pos [] 0 []
 try simp only[e28,Z]
 obtain ⟨S29,e29,z29⟩:=z28.fend
 try simp only[e29,Z]
 exact z29.fin
 try simp only[et d9,d9,Z]
 have x3 : decide (t.text = [99, 111, 110, 116, 105, 110, 117, 101]) = false := decide_eq_false (by rw [of_decide_eq_true d9]; decide)
 try simp only[ef x3,x3,Z]
 obtain ⟨S30,e30,hz7,z30⟩:=z.step (ha)
 try simp only[e30,Z]
 obtain ⟨v15,S31,e31,z31⟩:=z30.add 35 t.pos [] 0 []
 try simp only[e31,Z]
 obtain ⟨S32,e32,z32⟩:=z31.fend
 try simp only[e32,Z]
 exact z32.fin
 try simp only[et d8,d8,Z]
 obtain ⟨S33,e33,hz8,z33⟩:=z.step (ha)
 try simp only[e33,Z]
 obtain ⟨l9,S34,v16,h8,e34,hl8,z34⟩:=Zt.one 0 (z33.call (op:=(.locl t.pos)) tm hnd (.inr h0))
 try simp only[h8,e34,Z]
 subst e34
 have hl:=hl8.out
 exact z34.fin
 try simp only[et d7,d7,Z]
 obtain ⟨S35,e35,hz9,z35⟩:=z.step (ha)
 try simp only[e35,Z]
 obtain ⟨l10,S36,v17,h9,e36,hl9,z36⟩:=Zt.one 0 (z35.call (op:=(.control t)) tm hnd (.inr h0))
 try simp only[h9,e36,Z]
 subst e36
 have hl:=hl9.out
 exact z36.fin
 try simp only[et d6,d6,Z]
 obtain ⟨S37,e37,hz10,z37⟩:=z.step (ha)
 try simp only[e37,Z]
 obtain ⟨l11,S38,v18,h10,e38,hl10,z38⟩:=Zt.one 0 (z37.call (op:=(.control t)) tm hnd (.inr h0))
 try simp only[h10,e38,Z]
 subst e38
 have hl:=hl10.out
 exact z38.fin
 try simp only[et d5,d5,Z]
 obtain ⟨S39,e39,hz11,z39⟩:=z.step (ha)
 try simp only[e39,Z]
 obtain ⟨l12,S40,v19,h11,e40,hl11,z40⟩:=Zt.one 0 (z39.call (op:=(.control t)) tm hnd (.inr h0))
 try simp only[h11,e40,Z]
 subst e40
 have hl:=hl11.out
 exact z40.fin
 try simp only[et d4,d4,Z]
 obtain ⟨S41,e41,hz12,z41⟩:=z.step (ha)
 try simp only[e41,Z]
 obtain ⟨l13,S42,v20,h12,e42,hl12,z42⟩:=Zt.one 0 (z41.call (op:=(.control t)) tm hnd (.inr h0))
 try simp only[h12,e42,Z]
 subst e42
 have hl:=hl12.out
 exact z42.fin
 try simp only[et d3,d3,Z]
 obtain ⟨S43,e43,hz13,z43⟩:=z.step (ha)
 try simp only[e43,Z]
 obtain ⟨l14,S44,v21,h13,e44,hl13,z44⟩:=Zt.one 0 (z43.call (op:=(.control t)) tm hnd (.inr h0))
 try simp only[h13,e44,Z]
 subst e44
 have hl:=hl13.out
 exact z44.fin
 try simp only[et d2,d2,Z]
 obtain ⟨S45,e45,hz14,z45⟩:=z.step (ha)
 try simp only[e45,Z]
 obtain ⟨l15,S46,v22,h14,e46,hl14,z46⟩:=Zt.one 0 (z45.call (op:=(.control t)) tm hnd (.inr h0))
 try simp only[h14,e46,Z]
 subst e46
 have hl:=hl14.out
 exact z46.fin
 try simp only[et d1,d1,Z]
 obtain ⟨S47,e47,hz15,z47⟩:=z.step (ha)
 try simp only[e47,Z]
 obtain ⟨l16,S48,v23,h15,e48,hl15,z48⟩:=Zt.one 0 (z47.call (op:=(.control t)) tm hnd (.inr h0))
 try simp only[h15,e48,Z]
 subst e48
 have hl:=hl15.out
 exact z48.fin
theorem enum_zl (T : List Tk) (n : Nat) (at_ : Int) (v : Int) (kids : List Int) (hs : Toks T) (hn : n ≤ 1000000) (tm : Term T n) : ∀ Sq, Good T Sq → InK Sq (argK (.enumLoop v kids)) → ArgOk T (.enumLoop v kids) Sq → need T (.enumLoop v kids) Sq ≤ n + 1 → Zr T (.enumLoop v kids) (n + 1) Sq (run T (n + 1) (.enumLoop v kids) Sq) := by
 intro Sq hg hin ha hnd
 simp only[run,Z]
 simp only[ArgOk]at ha
 have z:Zt T Sq Sq 0 kids:=Zt.start hg hin
 by_cases hgo:Sq.fc = 0 ∧ isL T [125] Sq = false
 try simp only[if_pos hgo,Z]
 have h0:=z.h0 hgo.1
 obtain ⟨t,ht_t⟩:∃ x,Sh (peekL T Sq=x):=⟨_,⟨rfl⟩⟩
 try simp only[ht_t.out,Z]
 have hx_t:=tok_ok hs (peek_mem z.good ht_t.out)
 obtain ⟨x2,S3,e3,l2,z3⟩:=z.name hs
 try simp only[e3,Z]
 cases c1:isL T [61] S3
 try simp only[c1,Z]
 obtain ⟨v1,S4,e4,z4⟩:=z3.add 25 t.pos x2 v []
 try simp only[e4,Z]
 cases c2:isL T [44] S4
 try simp only[c2,Z]
 exact z4.fin
 obtain ⟨S5,e5,hz1,z5⟩:=z4.step (isL_kind c2)
 try simp only[c2,e5,Z]
 exact Zt.tail (z5.call (op:=(.enumLoop (IntKind.i64.wrap (v + 1)) (kids ++ [v1]))) tm hnd (.inr h0))
 obtain ⟨S6,e6,hz2,z6⟩:=z3.step (isL_kind c1)
 try simp only[c1,e6,Z]
 cases c3:isL T [45] S6
 try simp only[c3,Z]
 obtain ⟨u,ht_u⟩:∃ x,Sh (peekL T S6=x):=⟨_,⟨rfl⟩⟩
 try simp only[ht_u.out,Z]
 have hx_u:=tok_ok hs (peek_mem z6.good ht_u.out)
 cases d1:decide (u.kind = 3)
 try simp only[ef d1,d1,Z]
 have gw:=goes_wrong_step z6.good hz2.out 5 (by decide)
 have kw:=kp_wrong_step z6.good hz2.out 5 (by decide)
 obtain ⟨S7,e7,z7⟩:=z6.wrong 5
 try simp only[e7,Z]
 rw [e7]at gw kw
 obtain ⟨S8,e8⟩:∃ x,stepL S7=x:=⟨_,rfl⟩
 rw [e8]at gw kw
 have z8:=z7.go gw kw
 try simp only[e8,Z]
 obtain ⟨v2,S9,e9,z9⟩:=z8.add 25 t.pos x2 u.num []
 try simp only[e9,Z]
 cases c4:isL T [44] S9
 try simp only[c4,Z]
 exact z9.fin
 obtain ⟨S10,e10,hz3,z10⟩:=z9.step (isL_kind c4)
 try simp only[c4,e10,Z]
 exact Zt.tail (z10.call (op:=(.enumLoop (IntKind.i64.wrap (u.num + 1)) (kids ++ [v2]))) tm hnd (.inr h0))
 try simp only[et d1,d1,Z]
 obtain ⟨S11,e11,hz4,z11⟩:=z6.step (kk ht_u d1)
 try simp only[e11,Z]
 obtain ⟨v3,S12,e12,z12⟩:=z11.add 25 t.pos x2 u.num []
 try simp only[e12,Z]
 cases c5:isL T [44] S12
 try simp only[c5,Z]
 exact z12.fin
 obtain ⟨S13,e13,hz5,z13⟩:=z12.step (isL_kind c5)
 try simp only[c5,e13,Z]
 exact Zt.tail (z13.call (op:=(.enumLoop (IntKind.i64.wrap (u.num + 1)) (kids ++ [v3]))) tm hnd (.inr h0))
 obtain ⟨S14,e14,hz6,z14⟩:=z6.step (isL_kind c3)
 try simp only[c3,e14,Z]
 obtain ⟨u,ht_u⟩:∃ x,Sh (peekL T S14=x):=⟨_,⟨rfl⟩⟩
 try simp only[ht_u.out,Z]
 have hx_u:=tok_ok hs (peek_mem z14.good ht_u.out)
 cases d2:decide (u.kind = 3)
 try simp only[ef d2,d2,Z]
 have gw:=goes_wrong_step z14.good hz6.out 5 (by decide)
 have kw:=kp_wrong_step z14.good hz6.out 5 (by decide)
 obtain ⟨S15,e15,z15⟩:=z14.wrong 5
 try simp only[e15,Z]
 rw [e15]at gw kw
 obtain ⟨S16,e16⟩:∃ x,stepL S15=x:=⟨_,rfl⟩
 rw [e16]at gw kw
 have z16:=z15.go gw kw
 try simp only[e16,Z]
 obtain ⟨v4,S17,e17,z17⟩:=z16.add 25 t.pos x2 (IntKind.i64.wrap (-u.num)) []
 try simp only[e17,Z]
 cases c6:isL T [44] S17
 try simp only[c6,Z]
 exact z17.fin
 obtain ⟨S18,e18,hz7,z18⟩:=z17.step (isL_kind c6)
 try simp only[c6,e18,Z]
 exact Zt.tail (z18.call (op:=(.enumLoop (IntKind.i64.wrap ((IntKind.i64.wrap (-u.num)) + 1)) (kids ++ [v4]))) tm hnd (.inr h0))
 try simp only[et d2,d2,Z]
 obtain ⟨S19,e19,hz8,z19⟩:=z14.step (kk ht_u d2)
 try simp only[e19,Z]
 obtain ⟨v5,S20,e20,z20⟩:=z19.add 25 t.pos x2 (IntKind.i64.wrap (-u.num)) []
 try simp only[e20,Z]
 cases c7:isL T [44] S20
 try simp only[c7,Z]
 exact z20.fin
 obtain ⟨S21,e21,hz9,z21⟩:=z20.step (isL_kind c7)
 try simp only[c7,e21,Z]
 exact Zt.tail (z21.call (op:=(.enumLoop (IntKind.i64.wrap ((IntKind.i64.wrap (-u.num)) + 1)) (kids ++ [v5]))) tm hnd (.inr h0))
 try simp only[if_neg hgo,Z]
 exact z.fin
theorem control_z (T : List Tk) (n : Nat) (t : Tk) (hs : Toks T) (hn : n ≤ 1000000) (tm : Term T n) : ∀ S, Good T S → InK S (argK (.control t)) → ArgOk T (.control t) S → need T (.control t) S ≤ n + 1 → Zr T (.control t) (n + 1) S (run T (n + 1) (.control t) S) := by
 intro S hg hin ha hnd
 simp only[run,Z]
 simp only[ArgOk]at ha
 have z:Zt T S S 0 []:=Zt.start hg InK.nil
 cases d1:decide (t.text = [105, 102])
 try simp only[ef d1,d1,Z]
 cases d2:decide (t.text = [119, 104, 105, 108, 101])
 try simp only[ef d2,d2,Z]
 cases d3:decide (t.text = [100, 111])
 try simp only[ef d3,d3,Z]
 cases d4:decide (t.text = [102, 111, 114])
 try simp only[ef d4,d4,Z]
 cases d5:decide (t.text = [102, 111, 114, 101, 97, 99, 104])
 try simp only[ef d5,d5,Z]
 cases d6:decide (t.text = [115, 119, 105, 116, 99, 104])
 try simp only[ef d6,d6,Z]
 obtain ⟨l1,S1,v1,h1,e1,hl1,z1⟩:=Zt.one 0 (z.call (op:=.body) tm hnd)
 try simp only[h1,e1,Z]
 obtain ⟨S2,e2,z2⟩:=z1.must [99, 97, 116, 99, 104]
 try simp only[e2,Z]
 obtain ⟨S3,e3,z3⟩:=z2.must [40]
 try simp only[e3,Z]
 obtain ⟨x1,S4,e4,l2,z4⟩:=z3.name hs
 try simp only[e4,Z]
 obtain ⟨S5,e5,z5⟩:=z4.must [41]
 try simp only[e5,Z]
 obtain ⟨l3,S6,v2,h2,e6,hl2,z6⟩:=Zt.one 0 (z5.call (op:=.body) tm hnd)
 try simp only[h2,e6,Z]
 obtain ⟨v3,S7,e7,z7⟩:=z6.add 40 t.pos x1 0 [v1, v2]
 try simp only[e7,Z]
 exact z7.fin
 try simp only[et d6,d6,Z]
 exact Zt.tail (z.call (op:=(.cases t.pos)) tm hnd)
 try simp only[et d5,d5,Z]
 exact Zt.tail (z.call (op:=(.foreach t.pos)) tm hnd)
 try simp only[et d4,d4,Z]
 exact Zt.tail (z.call (op:=(.loop t.pos)) tm hnd)
 try simp only[et d3,d3,Z]
 obtain ⟨l4,S8,v4,h3,e8,hl3,z8⟩:=Zt.one 0 (z.call (op:=.body) tm hnd)
 try simp only[h3,e8,Z]
 obtain ⟨S9,e9,z9⟩:=z8.must [119, 104, 105, 108, 101]
 try simp only[e9,Z]
 obtain ⟨l5,S10,v5,h4,e10,hl4,z10⟩:=Zt.one 0 (z9.call (op:=.paren) tm hnd)
 try simp only[h4,e10,Z]
 obtain ⟨v6,S11,e11,z11⟩:=z10.add 31 t.pos [] 0 [v4, v5]
 try simp only[e11,Z]
 obtain ⟨S12,e12,z12⟩:=z11.fend
 try simp only[e12,Z]
 exact z12.fin
 try simp only[et d2,d2,Z]
 obtain ⟨l6,S13,v7,h5,e13,hl5,z13⟩:=Zt.one 0 (z.call (op:=.paren) tm hnd)
 try simp only[h5,e13,Z]
 obtain ⟨l7,S14,v8,h6,e14,hl6,z14⟩:=Zt.one 0 (z13.call (op:=.body) tm hnd)
 try simp only[h6,e14,Z]
 obtain ⟨v9,S15,e15,z15⟩:=z14.add 30 t.pos [] 0 [v7, v8]
 try simp only[e15,Z]
 exact z15.fin
 try simp only[et d1,d1,Z]
 obtain ⟨l8,S16,v10,h7,e16,hl7,z16⟩:=Zt.one 0 (z.call (op:=.paren) tm hnd)
 try simp only[h7,e16,Z]
 obtain ⟨l9,S17,v11,h8,e17,hl8,z17⟩:=Zt.one 0 (z16.call (op:=.body) tm hnd)
 try simp only[h8,e17,Z]
 cases c1:isL T [101, 108, 115, 101] S17
 try simp only[c1,Z]
 obtain ⟨v12,S18,e18,z18⟩:=z17.add 29 t.pos [] 0 [v10, v11, -1]
 try simp only[e18,Z]
 exact z18.fin
 have h0:=z17.k0 (isL_kind c1)
 obtain ⟨S19,e19,hz1,z19⟩:=z17.step (isL_kind c1)
 try simp only[c1,e19,Z]
 obtain ⟨u,ht_u⟩:∃ x,Sh (peekL T S19=x):=⟨_,⟨rfl⟩⟩
 try simp only[ht_u.out,Z]
 have hx_u:=tok_ok hs (peek_mem z19.good ht_u.out)
 cases c2:isL T [105, 102] S19
 try simp only[c2,Z]
 obtain ⟨l10,S20,v13,h9,e20,hl9,z20⟩:=Zt.one 0 (z19.call (op:=.body) tm hnd (.inr h0))
 try simp only[h9,e20,Z]
 obtain ⟨v14,S21,e21,z21⟩:=z20.add 29 t.pos [] 0 [v10, v11, v13]
 try simp only[e21,Z]
 exact z21.fin
 obtain ⟨S22,e22,hz2,z22⟩:=z19.step (isL_kind c2)
 try simp only[c2,e22,Z]
 obtain ⟨S23,e23,z23⟩:=z22.down
 try simp only[e23,Z]
 obtain ⟨l11,S24,v15,h10,e24,hl10,z24⟩:=Zt.one 0 (z23.call (op:=(.control u)) tm hnd (.inr h0))
 try simp only[h10,e24,Z]
 obtain ⟨S25,e25,z25⟩:=z24.up
 try simp only[e25,Z]
 obtain ⟨v16,S26,e26,z26⟩:=z25.add 29 t.pos [] 0 [v10, v11, v15]
 try simp only[e26,Z]
 exact z26.fin
theorem foreach_z (T : List Tk) (n : Nat) (at_ : Int) (hs : Toks T) (hn : n ≤ 1000000) (tm : Term T n) : ∀ S, Good T S → InK S (argK (.foreach at_)) → ArgOk T (.foreach at_) S → need T (.foreach at_) S ≤ n + 1 → Zr T (.foreach at_) (n + 1) S (run T (n + 1) (.foreach at_) S) := by
 intro S hg hin ha hnd
 simp only[run,Z]
 simp only[ArgOk]at ha
 have z:Zt T S S 0 []:=Zt.start hg InK.nil
 obtain ⟨S1,e1,z1⟩:=z.must [40]
 try simp only[e1,Z]
 obtain ⟨x1,S2,e2,l1,z2⟩:=z1.name hs
 try simp only[e2,Z]
 cases c1:isL T [44] S2
 try simp only[c1,Z]
 cases d1:decide ([]=x1)
 try simp only[ef d1,Z]
 obtain ⟨S3,e3,z3⟩:=z2.must [105, 110]
 try simp only[e3,Z]
 obtain ⟨l2,S4,v1,h1,e4,hl1,z4⟩:=Zt.one 1 (z3.call (op:=.expr) tm hnd)
 try simp only[h1,e4,Z]
 obtain ⟨S5,e5,z5⟩:=z4.must [41]
 try simp only[e5,Z]
 obtain ⟨l3,S6,v2,h2,e6,hl2,z6⟩:=Zt.one 0 (z5.call (op:=.body) tm hnd)
 try simp only[h2,e6,Z]
 obtain ⟨v3,S7,e7,z7⟩:=z6.add 33 at_ ([] ++ [9] ++ x1) 0 [v1, v2]
 try simp only[e7,Z]
 exact z7.fin
 try simp only[et d1,Z]
 obtain ⟨S8,e8,z8⟩:=z2.wrong 4
 try simp only[e8,Z]
 obtain ⟨S9,e9,z9⟩:=z8.must [105, 110]
 try simp only[e9,Z]
 obtain ⟨l4,S10,v4,h3,e10,hl3,z10⟩:=Zt.one 1 (z9.call (op:=.expr) tm hnd)
 try simp only[h3,e10,Z]
 obtain ⟨S11,e11,z11⟩:=z10.must [41]
 try simp only[e11,Z]
 obtain ⟨l5,S12,v5,h4,e12,hl4,z12⟩:=Zt.one 0 (z11.call (op:=.body) tm hnd)
 try simp only[h4,e12,Z]
 obtain ⟨v6,S13,e13,z13⟩:=z12.add 33 at_ ([] ++ [9] ++ x1) 0 [v4, v5]
 try simp only[e13,Z]
 exact z13.fin
 have h0:=z2.k0 (isL_kind c1)
 obtain ⟨S14,e14,hz1,z14⟩:=z2.step (isL_kind c1)
 try simp only[c1,e14,Z]
 obtain ⟨x2,S15,e15,l6,z15⟩:=z14.name hs
 try simp only[e15,Z]
 cases d2:decide (x1 = x2)
 try simp only[ef d2,d2,Z]
 obtain ⟨S16,e16,z16⟩:=z15.must [105, 110]
 try simp only[e16,Z]
 obtain ⟨l7,S17,v7,h5,e17,hl5,z17⟩:=Zt.one 1 (z16.call (op:=.expr) tm hnd (.inr h0))
 try simp only[h5,e17,Z]
 obtain ⟨S18,e18,z18⟩:=z17.must [41]
 try simp only[e18,Z]
 obtain ⟨l8,S19,v8,h6,e19,hl6,z19⟩:=Zt.one 0 (z18.call (op:=.body) tm hnd (.inr h0))
 try simp only[h6,e19,Z]
 obtain ⟨v9,S20,e20,z20⟩:=z19.add 33 at_ (x1 ++ [9] ++ x2) 0 [v7, v8]
 try simp only[e20,Z]
 exact z20.fin
 try simp only[et d2,d2,Z]
 obtain ⟨S21,e21,z21⟩:=z15.wrong 4
 try simp only[e21,Z]
 obtain ⟨S22,e22,z22⟩:=z21.must [105, 110]
 try simp only[e22,Z]
 obtain ⟨l9,S23,v10,h7,e23,hl7,z23⟩:=Zt.one 1 (z22.call (op:=.expr) tm hnd (.inr h0))
 try simp only[h7,e23,Z]
 obtain ⟨S24,e24,z24⟩:=z23.must [41]
 try simp only[e24,Z]
 obtain ⟨l10,S25,v11,h8,e25,hl8,z25⟩:=Zt.one 0 (z24.call (op:=.body) tm hnd (.inr h0))
 try simp only[h8,e25,Z]
 obtain ⟨v12,S26,e26,z26⟩:=z25.add 33 at_ (x1 ++ [9] ++ x2) 0 [v10, v11]
 try simp only[e26,Z]
 exact z26.fin
theorem class_zl (T : List Tk) (n : Nat) (kids : List Int) (hs : Toks T) (hn : n ≤ 1000000) (tm : Term T n) : ∀ Sq, Good T Sq → InK Sq (argK (.classLoop kids)) → ArgOk T (.classLoop kids) Sq → need T (.classLoop kids) Sq ≤ n + 1 → Zr T (.classLoop kids) (n + 1) Sq (run T (n + 1) (.classLoop kids) Sq) := by
 intro Sq hg hin ha hnd
 simp only[run,Z]
 simp only[ArgOk]at ha
 have z:Zt T Sq Sq 0 kids:=Zt.start hg hin
 by_cases hgo:Sq.fc = 0 ∧ isL T [125] Sq = false
 try simp only[if_pos hgo,Z]
 have h0:=z.h0 hgo.1
 obtain ⟨t,ht_t⟩:∃ x,Sh (peekL T Sq=x):=⟨_,⟨rfl⟩⟩
 try simp only[ht_t.out,Z]
 have hx_t:=tok_ok hs (peek_mem z.good ht_t.out)
 cases c2:isL T [99, 111, 110, 115, 116, 114, 117, 99, 116, 111, 114] Sq
 try simp only[c2,Z]
 obtain ⟨l1,S4,v1,v2,h1,e4,e5,z4⟩:=Zt.mem (z.call (op:=.member) tm hnd (.inr h0))
 try simp only[h1,e4,e5,Z]
 obtain ⟨v3,S5,e6,z5⟩:=z4.add 23 t.pos [] 0 [v1, v2]
 try simp only[e6,Z]
 cases c3:isL T [59] S5
 try simp only[c3,Z]
 exact Zt.tail (z5.call (op:=(.classLoop (kids ++ [v3]))) tm hnd (.inr h0))
 obtain ⟨S6,e7,hz1,z6⟩:=z5.step (isL_kind c3)
 try simp only[c3,e7,Z]
 exact Zt.tail (z6.call (op:=(.classLoop (kids ++ [v3]))) tm hnd (.inr h0))
 obtain ⟨S7,e8,hz2,z7⟩:=z.step (isL_kind c2)
 try simp only[c2,e8,Z]
 obtain ⟨v4,S8,e9,z8⟩:=z7.add 5 t.pos [99, 111, 110, 115, 116, 114, 117, 99, 116, 111, 114] 0 []
 try simp only[e9,Z]
 obtain ⟨l2,S9,v5,h2,e10,hl2,z9⟩:=Zt.one 0 (z8.call (op:=(.params t.pos [])) tm hnd (.inr h0))
 try simp only[h2,e10,Z]
 obtain ⟨v6,S10,e11,z10⟩:=z9.add 23 t.pos [] 0 [v4, v5]
 try simp only[e11,Z]
 cases c4:isL T [59] S10
 try simp only[c4,Z]
 exact Zt.tail (z10.call (op:=(.classLoop (kids ++ [v6]))) tm hnd (.inr h0))
 obtain ⟨S11,e12,hz3,z11⟩:=z10.step (isL_kind c4)
 try simp only[c4,e12,Z]
 exact Zt.tail (z11.call (op:=(.classLoop (kids ++ [v6]))) tm hnd (.inr h0))
 try simp only[if_neg hgo,Z]
 exact z.fin
theorem expr_z (T : List Tk) (n : Nat) (hs : Toks T) (hn : n ≤ 1000000) (tm : Term T n) : ∀ S, Good T S → InK S (argK .expr) → ArgOk T .expr S → need T .expr S ≤ n + 1 → Zr T .expr (n + 1) S (run T (n + 1) .expr S) := by
 intro S hg hin ha hnd
 simp only[run,Z]
 simp only[ArgOk]at ha
 have z:Zt T S S 0 []:=Zt.start hg InK.nil
 obtain ⟨S1,e1,z1⟩:=z.down
 try simp only[e1,Z]
 cases d1:decide (S1.fc = 0)
 try simp only[ef d1,d1,Z]
 have z2:=z1.flt (of_decide_eq_false d1)
 obtain ⟨S2,e2,z3⟩:=z2.up
 try simp only[e2,Z]
 exact z3.fin
 try simp only[et d1,d1,Z]
 have h0:=z1.h0 (of_decide_eq_true d1)
 obtain ⟨a,ht_a⟩:∃ x,Sh (peekL T S1=x):=⟨_,⟨rfl⟩⟩
 try simp only[ht_a.out,Z]
 have hx_a:=tok_ok hs (peek_mem z1.good ht_a.out)
 obtain ⟨l1,S3,v1,h1,e3,hl1,z4⟩:=Zt.one 1 (z1.call (op:=(.cond a.pos)) tm hnd (.inr h0))
 try simp only[h1,e3,Z]
 obtain ⟨t,ht_t⟩:∃ x,Sh (peekL T S3=x):=⟨_,⟨rfl⟩⟩
 try simp only[ht_t.out,Z]
 have hx_t:=tok_ok hs (peek_mem z4.good ht_t.out)
 cases d2:decide (t.kind = 5)
 try simp only[ef d2,d2,Z]
 obtain ⟨S4,e4,z5⟩:=z4.up
 try simp only[e4,Z]
 subst e3
 have hl:=hl1.out
 exact z5.fin
 try simp only[et d2,d2,Z]
 cases hta:isAssign t.text
 try simp only[hta,Z]
 obtain ⟨S5,e5,z6⟩:=z4.up
 try simp only[e5,Z]
 subst e3
 have hl:=hl1.out
 exact z6.fin
 try simp only[hta,Z]
 cases d3:isTarget (kindL S3 v1)
 try simp only[d3,Z]
 obtain ⟨S6,e6,z7⟩:=z4.wrong 30
 try simp only[e6,Z]
 obtain ⟨S7,e7,z8⟩:=z7.up
 try simp only[e7,Z]
 subst e3
 have hl:=hl1.out
 exact z8.fin
 try simp only[d3,Z]
 obtain ⟨S8,e8,hz1,z9⟩:=z4.step (kk ht_t d2)
 try simp only[e8,Z]
 obtain ⟨l2,S9,v2,h2,e9,hl2,z10⟩:=Zt.one 1 (z9.call (op:=.expr) tm hnd (.inr h0))
 try simp only[h2,e9,Z]
 obtain ⟨v3,S10,e10,z11⟩:=z10.add 12 a.pos t.text 0 [v1, v2]
 try simp only[e10,Z]
 obtain ⟨S11,e11,z12⟩:=z11.up
 try simp only[e11,Z]
 exact z12.fin
theorem cond_z (T : List Tk) (n : Nat) (at_ : Int) (hs : Toks T) (hn : n ≤ 1000000) (tm : Term T n) : ∀ S, Good T S → InK S (argK (.cond at_)) → ArgOk T (.cond at_) S → need T (.cond at_) S ≤ n + 1 → Zr T (.cond at_) (n + 1) S (run T (n + 1) (.cond at_) S) := by
 intro S hg hin ha hnd
 simp only[run,Z]
 simp only[ArgOk]at ha
 have z:Zt T S S 0 []:=Zt.start hg InK.nil
 obtain ⟨l1,S1,v1,h1,e1,hl1,z1⟩:=Zt.one 1 (z.call (op:=(.binary 0)) tm hnd)
 try simp only[h1,e1,Z]
 cases c1:isL T [63] S1
 try simp only[c1,Z]
 subst e1
 have hl:=hl1.out
 exact z1.fin
 have h0:=z1.k0 (isL_kind c1)
 obtain ⟨S2,e2,hz1,z2⟩:=z1.step (isL_kind c1)
 try simp only[c1,e2,Z]
 obtain ⟨l2,S3,v2,h2,e3,hl2,z3⟩:=Zt.one 1 (z2.call (op:=.expr) tm hnd (.inr h0))
 try simp only[h2,e3,Z]
 obtain ⟨S4,e4,z4⟩:=z3.must [58]
 try simp only[e4,Z]
 obtain ⟨S5,e5,z5⟩:=z4.down
 try simp only[e5,Z]
 obtain ⟨u,ht_u⟩:∃ x,Sh (peekL T S5=x):=⟨_,⟨rfl⟩⟩
 try simp only[ht_u.out,Z]
 have hx_u:=tok_ok hs (peek_mem z5.good ht_u.out)
 obtain ⟨l3,S6,v3,h3,e6,hl3,z6⟩:=Zt.one 1 (z5.call (op:=(.cond u.pos)) tm hnd (.inr h0))
 try simp only[h3,e6,Z]
 obtain ⟨v4,S7,e7,z7⟩:=z6.add 11 at_ [] 0 [v1, v2, v3]
 try simp only[e7,Z]
 obtain ⟨S8,e8,z8⟩:=z7.up
 try simp only[e8,Z]
 exact z8.fin
theorem function_z (T : List Tk) (n : Nat) (hs : Toks T) (hn : n ≤ 1000000) (tm : Term T n) : ∀ S, Good T S → InK S (argK .function) → ArgOk T .function S → need T .function S ≤ n + 1 → Zr T .function (n + 1) S (run T (n + 1) .function S) := by
 intro S hg hin ha hnd
 simp only[run,Z]
 simp only[ArgOk]at ha
 have z:Zt T S S 0 []:=Zt.start hg InK.nil
 obtain ⟨a,ht_a⟩:∃ x,Sh (peekL T S=x):=⟨_,⟨rfl⟩⟩
 try simp only[ht_a.out,Z]
 have hx_a:=tok_ok hs (peek_mem z.good ht_a.out)
 obtain ⟨S1,e1,z1⟩:=z.must [102, 117, 110, 99, 116, 105, 111, 110]
 try simp only[e1,Z]
 obtain ⟨u,ht_u⟩:∃ x,Sh (peekL T S1=x):=⟨_,⟨rfl⟩⟩
 try simp only[ht_u.out,Z]
 have hx_u:=tok_ok hs (peek_mem z1.good ht_u.out)
 cases d1:decide (u.kind = 1)
 try simp only[ef d1,d1,Z]
 exact Zt.tail (z1.call (op:=(.params a.pos [])) tm hnd)
 try simp only[et d1,d1,Z]
 obtain ⟨x1,S2,e2,l1,z2⟩:=z1.name hs
 try simp only[e2,Z]
 exact Zt.tail (z2.call (op:=(.params a.pos x1)) tm hnd)
theorem binary_z (T : List Tk) (n : Nat) (level : Int) (hs : Toks T) (hn : n ≤ 1000000) (tm : Term T n) : ∀ S, Good T S → InK S (argK (.binary level)) → ArgOk T (.binary level) S → need T (.binary level) S ≤ n + 1 → Zr T (.binary level) (n + 1) S (run T (n + 1) (.binary level) S) := by
 intro S hg hin ha hnd
 simp only[run,Z]
 simp only[ArgOk]at ha
 have z:Zt T S S 0 []:=Zt.start hg InK.nil
 cases d1:decide (level = 10)
 try simp only[ef d1,d1,Z]
 have hlv:=of_decide_eq_false d1
 obtain ⟨a,ht_a⟩:∃ x,Sh (peekL T S=x):=⟨_,⟨rfl⟩⟩
 try simp only[ht_a.out,Z]
 have hx_a:=tok_ok hs (peek_mem z.good ht_a.out)
 obtain ⟨l1,S1,v1,h1,e1,hl1,z1⟩:=Zt.one 1 (z.call (op:=(.binary (IntKind.i64.wrap (level + 1)))) tm hnd)
 try simp only[h1,e1,Z]
 exact Zt.tail (z1.call (op:=(.binLoop level a.pos v1)) tm hnd)
 try simp only[et d1,d1,Z]
 exact Zt.tail (z.call (op:=.unary) tm hnd)
theorem table_z (T : List Tk) (n : Nat) (hs : Toks T) (hn : n ≤ 1000000) (tm : Term T n) : ∀ S, Good T S → InK S (argK .table) → ArgOk T .table S → need T .table S ≤ n + 1 → Zr T .table (n + 1) S (run T (n + 1) .table S) := by
 intro S hg hin ha hnd
 simp only[run,Z]
 simp only[ArgOk]at ha
 have z:Zt T S S 0 []:=Zt.start hg InK.nil
 obtain ⟨a,ht_a⟩:∃ x,Sh (peekL T S=x):=⟨_,⟨rfl⟩⟩
 try simp only[ht_a.out,Z]
 have hx_a:=tok_ok hs (peek_mem z.good ht_a.out)
 obtain ⟨S1,e1,z1⟩:=z.must [123]
 try simp only[e1,Z]
 obtain ⟨kids,S2,h1,hl1,z2⟩:=Zt.lst (z1.call (op:=(.tableLoop [])) tm hnd)
 simp only[argK,loopK,Option.getD_some,List.length_cons,List.length_nil]at hl1
 try simp only[h1,Z]
 obtain ⟨S3,e2,z3⟩:=z2.must [125]
 try simp only[e2,Z]
 obtain ⟨v1,S4,e3,z4⟩:=z3.add 19 a.pos [] 0 kids
 try simp only[e3,Z]
 exact z4.fin
theorem block_zl (T : List Tk) (n : Nat) (kids : List Int) (hs : Toks T) (hn : n ≤ 1000000) (tm : Term T n) : ∀ Sq, Good T Sq → InK Sq (argK (.blockLoop kids)) → ArgOk T (.blockLoop kids) Sq → need T (.blockLoop kids) Sq ≤ n + 1 → Zr T (.blockLoop kids) (n + 1) Sq (run T (n + 1) (.blockLoop kids) Sq) := by
 intro Sq hg hin ha hnd
 simp only[run,Z]
 simp only[ArgOk]at ha
 have z:Zt T Sq Sq 0 kids:=Zt.start hg hin
 by_cases hgo:Sq.fc = 0 ∧ isL T [125] Sq = false
 try simp only[if_pos hgo,Z]
 have h0:=z.h0 hgo.1
 obtain ⟨l1,S2,v1,h1,e2,hl1,z2⟩:=Zt.one 1 (z.call (op:=.stmt) tm hnd (.inr h0))
 try simp only[h1,e2,Z]
 exact Zt.tail (z2.call (op:=(.blockLoop (kids ++ [v1]))) tm hnd (.inr h0))
 try simp only[if_neg hgo,Z]
 exact z.fin
theorem postfix_z (T : List Tk) (n : Nat) (hs : Toks T) (hn : n ≤ 1000000) (tm : Term T n) : ∀ S, Good T S → InK S (argK .postf) → ArgOk T .postf S → need T .postf S ≤ n + 1 → Zr T .postf (n + 1) S (run T (n + 1) .postf S) := by
 intro S hg hin ha hnd
 simp only[run,Z]
 simp only[ArgOk]at ha
 have z:Zt T S S 0 []:=Zt.start hg InK.nil
 obtain ⟨a,ht_a⟩:∃ x,Sh (peekL T S=x):=⟨_,⟨rfl⟩⟩
 try simp only[ht_a.out,Z]
 have hx_a:=tok_ok hs (peek_mem z.good ht_a.out)
 obtain ⟨l1,S1,v1,h1,e1,hl1,z1⟩:=Zt.one 1 (z.call (op:=.primary) tm hnd)
 try simp only[h1,e1,Z]
 exact Zt.tail (z1.call (op:=(.postLoop a.pos v1)) tm hnd)
end Go.Proofs.YtcbgpjlcfkkdlaaGreatDoor

namespace Go.Proofs.YtcbgpjlcfkkdlaaGreatDoor
open Go Go.AL Go.Proofs
theorem unary_z (T : List Tk) (n : Nat) (hs : Toks T) (hn : n ≤ 1000000) (tm : Term T n) : ∀ S, Good T S → InK S (argK .unary) → ArgOk T .unary S → need T .unary S ≤ n + 1 → Zr T .unary (n + 1) S (run T (n + 1) .unary S) := by
 intro S hg hin ha hnd
 simp only[run,Z]
 simp only[ArgOk]at ha
 have z:Zt T S S 0 []:=Zt.start hg InK.nil
 obtain ⟨t,ht_t⟩:∃ x,Sh (peekL T S=x):=⟨_,⟨rfl⟩⟩
 try simp only[ht_t.out,Z]
 have hx_t:=tok_ok hs (peek_mem z.good ht_t.out)
 cases d1:decide (t.kind = 5)
 try simp only[ef d1,d1,Z]
 cases d2:decide (t.kind = 2)
 try simp only[ef d2,d2,Z]
 exact Zt.tail (z.call (op:=.postf) tm hnd)
 try simp only[et d2,d2,Z]
 cases hst:isStep t.text
 try simp only[hst,Z]
 cases hun:isUnary t.text
 try simp only[hun,Z]
 exact Zt.tail (z.call (op:=.postf) tm hnd)
 try simp only[hun,Z]
 have h0:=z.k0 (kk ht_t d2)
 have h6:=kk ht_t d2
 have gd1:=goes_down_step z.good h6
 have kd1:=kp_down_step z.good h6
 obtain ⟨S1,e1,z1⟩:=z.down
 try simp only[e1,Z]
 rw [e1]at gd1 kd1
 obtain ⟨S2,e2⟩:∃ x,stepL S1=x:=⟨_,rfl⟩
 rw [e2]at gd1 kd1
 have z2:=z1.go gd1 kd1
 try simp only[e2,Z]
 obtain ⟨u,ht_u⟩:∃ x,Sh (peekL T S2=x):=⟨_,⟨rfl⟩⟩
 try simp only[ht_u.out,Z]
 have hx_u:=tok_ok hs (peek_mem z2.good ht_u.out)
 have hu:=peek_mem z2.good ht_u.out
 obtain ⟨l1,S3,v1,h1,e3,hl1,z3⟩:=Zt.one 1 (z2.call (op:=.unary) tm hnd (.inr h0))
 try simp only[h1,e3,Z]
 cases d3:decide (t.text = [100, 101, 108, 101, 116, 101])
 try simp only[ef d3,d3,Z]
 obtain ⟨v2,S4,e4,z4⟩:=z3.add 9 t.pos t.text 0 [v1]
 try simp only[e4,Z]
 obtain ⟨S5,e5,z5⟩:=z4.up
 try simp only[e5,Z]
 exact z5.fin
 try simp only[et d3,d3,Z]
 cases d4:decide (S3.fc = 0)
 try simp only[ef d4,d4,Z]
 have z6:=z3.flt (of_decide_eq_false d4)
 obtain ⟨v3,S6,e6,z7⟩:=z6.add 9 t.pos t.text 0 [v1]
 try simp only[e6,Z]
 obtain ⟨S7,e7,z8⟩:=z7.up
 try simp only[e7,Z]
 exact z8.fin
 try simp only[et d4,d4,Z]
 cases d5:isTarget (kindL S3 v1)
 try simp only[d5,Z]
 have z9:=z3.go (goes_fault z3.good 30 u.pos (by decide)) (kp_fault z3.good 30 u.pos (by decide) ⟨u,hu,rfl⟩)
 try simp only[show ({ S3 with fc:=30,fa:=u.pos }:St)=faultL 30 u.pos S3 from rfl]
 obtain ⟨S8,e8,z10⟩:=z9.up
 try simp only[e8,Z]
 subst e3
 have hl:=hl1.out
 exact z10.fin
 try simp only[d5,Z]
 obtain ⟨v4,S9,e9,z11⟩:=z3.add 9 t.pos t.text 0 [v1]
 try simp only[e9,Z]
 obtain ⟨S10,e10,z12⟩:=z11.up
 try simp only[e10,Z]
 exact z12.fin
 have hun:=(step_not hst).1
 have hdl:=(step_not hst).2
 try simp only[hst,hun,Z]
 have h0:=z.k0 (kk ht_t d2)
 have h6:=kk ht_t d2
 have gd1:=goes_down_step z.good h6
 have kd1:=kp_down_step z.good h6
 obtain ⟨S11,e11,z13⟩:=z.down
 try simp only[e11,Z]
 rw [e11]at gd1 kd1
 obtain ⟨S12,e12⟩:∃ x,stepL S11=x:=⟨_,rfl⟩
 rw [e12]at gd1 kd1
 have z14:=z13.go gd1 kd1
 try simp only[e12,Z]
 obtain ⟨u,ht_u⟩:∃ x,Sh (peekL T S12=x):=⟨_,⟨rfl⟩⟩
 try simp only[ht_u.out,Z]
 have hx_u:=tok_ok hs (peek_mem z14.good ht_u.out)
 have hu:=peek_mem z14.good ht_u.out
 obtain ⟨l2,S13,v5,h2,e13,hl2,z15⟩:=Zt.one 1 (z14.call (op:=.unary) tm hnd (.inr h0))
 try simp only[h2,e13,Z]
 try simp only[hst,Z]
 cases d6:decide (S13.fc = 0)
 try simp only[ef d6,d6,Z]
 have z16:=z15.flt (of_decide_eq_false d6)
 obtain ⟨v6,S14,e14,z17⟩:=z16.add 13 t.pos t.text 0 [v5]
 try simp only[e14,Z]
 obtain ⟨S15,e15,z18⟩:=z17.up
 try simp only[e15,Z]
 exact z18.fin
 try simp only[et d6,d6,Z]
 cases d7:isTarget (kindL S13 v5)
 try simp only[d7,Z]
 have z19:=z15.go (goes_fault z15.good 30 u.pos (by decide)) (kp_fault z15.good 30 u.pos (by decide) ⟨u,hu,rfl⟩)
 try simp only[show ({ S13 with fc:=30,fa:=u.pos }:St)=faultL 30 u.pos S13 from rfl]
 obtain ⟨S16,e16,z20⟩:=z19.up
 try simp only[e16,Z]
 subst e13
 have hl:=hl2.out
 exact z20.fin
 try simp only[d7,Z]
 obtain ⟨v7,S17,e17,z21⟩:=z15.add 13 t.pos t.text 0 [v5]
 try simp only[e17,Z]
 obtain ⟨S18,e18,z22⟩:=z21.up
 try simp only[e18,Z]
 exact z22.fin
 try simp only[et d1,d1,Z]
 cases hst:isStep t.text
 try simp only[hst,Z]
 cases hun:isUnary t.text
 try simp only[hun,Z]
 exact Zt.tail (z.call (op:=.postf) tm hnd)
 try simp only[hun,Z]
 have h0:=z.k0 (kk ht_t d1)
 have h6:=kk ht_t d1
 have gd1:=goes_down_step z.good h6
 have kd1:=kp_down_step z.good h6
 obtain ⟨S19,e19,z23⟩:=z.down
 try simp only[e19,Z]
 rw [e19]at gd1 kd1
 obtain ⟨S20,e20⟩:∃ x,stepL S19=x:=⟨_,rfl⟩
 rw [e20]at gd1 kd1
 have z24:=z23.go gd1 kd1
 try simp only[e20,Z]
 obtain ⟨u,ht_u⟩:∃ x,Sh (peekL T S20=x):=⟨_,⟨rfl⟩⟩
 try simp only[ht_u.out,Z]
 have hx_u:=tok_ok hs (peek_mem z24.good ht_u.out)
 have hu:=peek_mem z24.good ht_u.out
 obtain ⟨l3,S21,v8,h3,e21,hl3,z25⟩:=Zt.one 1 (z24.call (op:=.unary) tm hnd (.inr h0))
 try simp only[h3,e21,Z]
 cases d8:decide (t.text = [100, 101, 108, 101, 116, 101])
 try simp only[ef d8,d8,Z]
 obtain ⟨v9,S22,e22,z26⟩:=z25.add 9 t.pos t.text 0 [v8]
 try simp only[e22,Z]
 obtain ⟨S23,e23,z27⟩:=z26.up
 try simp only[e23,Z]
 exact z27.fin
 try simp only[et d8,d8,Z]
 cases d9:decide (S21.fc = 0)
 try simp only[ef d9,d9,Z]
 have z28:=z25.flt (of_decide_eq_false d9)
 obtain ⟨v10,S24,e24,z29⟩:=z28.add 9 t.pos t.text 0 [v8]
 try simp only[e24,Z]
 obtain ⟨S25,e25,z30⟩:=z29.up
 try simp only[e25,Z]
 exact z30.fin
 try simp only[et d9,d9,Z]
 cases d10:isTarget (kindL S21 v8)
 try simp only[d10,Z]
 have z31:=z25.go (goes_fault z25.good 30 u.pos (by decide)) (kp_fault z25.good 30 u.pos (by decide) ⟨u,hu,rfl⟩)
 try simp only[show ({ S21 with fc:=30,fa:=u.pos }:St)=faultL 30 u.pos S21 from rfl]
 obtain ⟨S26,e26,z32⟩:=z31.up
 try simp only[e26,Z]
 subst e21
 have hl:=hl3.out
 exact z32.fin
 try simp only[d10,Z]
 obtain ⟨v11,S27,e27,z33⟩:=z25.add 9 t.pos t.text 0 [v8]
 try simp only[e27,Z]
 obtain ⟨S28,e28,z34⟩:=z33.up
 try simp only[e28,Z]
 exact z34.fin
 have hun:=(step_not hst).1
 have hdl:=(step_not hst).2
 try simp only[hst,hun,Z]
 have h0:=z.k0 (kk ht_t d1)
 have h6:=kk ht_t d1
 have gd1:=goes_down_step z.good h6
 have kd1:=kp_down_step z.good h6
 obtain ⟨S29,e29,z35⟩:=z.down
 try simp only[e29,Z]
 rw [e29]at gd1 kd1
 obtain ⟨S30,e30⟩:∃ x,stepL S29=x:=⟨_,rfl⟩
 rw [e30]at gd1 kd1
 have z36:=z35.go gd1 kd1
 try simp only[e30,Z]
 obtain ⟨u,ht_u⟩:∃ x,Sh (peekL T S30=x):=⟨_,⟨rfl⟩⟩
 try simp only[ht_u.out,Z]
 have hx_u:=tok_ok hs (peek_mem z36.good ht_u.out)
 have hu:=peek_mem z36.good ht_u.out
 obtain ⟨l4,S31,v12,h4,e31,hl4,z37⟩:=Zt.one 1 (z36.call (op:=.unary) tm hnd (.inr h0))
 try simp only[h4,e31,Z]
 try simp only[hst,Z]
 cases d11:decide (S31.fc = 0)
 try simp only[ef d11,d11,Z]
 have z38:=z37.flt (of_decide_eq_false d11)
 obtain ⟨v13,S32,e32,z39⟩:=z38.add 13 t.pos t.text 0 [v12]
 try simp only[e32,Z]
 obtain ⟨S33,e33,z40⟩:=z39.up
 try simp only[e33,Z]
 exact z40.fin
 try simp only[et d11,d11,Z]
 cases d12:isTarget (kindL S31 v12)
 try simp only[d12,Z]
 have z41:=z37.go (goes_fault z37.good 30 u.pos (by decide)) (kp_fault z37.good 30 u.pos (by decide) ⟨u,hu,rfl⟩)
 try simp only[show ({ S31 with fc:=30,fa:=u.pos }:St)=faultL 30 u.pos S31 from rfl]
 obtain ⟨S34,e34,z42⟩:=z41.up
 try simp only[e34,Z]
 subst e31
 have hl:=hl4.out
 exact z42.fin
 try simp only[d12,Z]
 obtain ⟨v14,S35,e35,z43⟩:=z37.add 13 t.pos t.text 0 [v12]
 try simp only[e35,Z]
 obtain ⟨S36,e36,z44⟩:=z43.up
 try simp only[e36,Z]
 exact z44.fin
theorem primary_z (T : List Tk) (n : Nat) (hs : Toks T) (hn : n ≤ 1000000) (tm : Term T n) : ∀ S, Good T S → InK S (argK .primary) → ArgOk T .primary S → need T .primary S ≤ n + 1 → Zr T .primary (n + 1) S (run T (n + 1) .primary S) := by
 intro S hg hin ha hnd
 simp only[run,Z]
 simp only[ArgOk]at ha
 have z:Zt T S S 0 []:=Zt.start hg InK.nil
 obtain ⟨t,ht_t⟩:∃ x,Sh (peekL T S=x):=⟨_,⟨rfl⟩⟩
 try simp only[ht_t.out,Z]
 have hx_t:=tok_ok hs (peek_mem z.good ht_t.out)
 cases d1:decide (t.kind = 1)
 try simp only[ef d1,d1,Z]
 cases d2:decide (t.kind = 3)
 try simp only[ef d2,d2,Z]
 cases d3:decide (t.kind = 4)
 try simp only[ef d3,d3,Z]
 cases c1:isL T [110, 117, 108, 108] S
 try simp only[c1,Z]
 cases c2:isL T [116, 114, 117, 101] S
 try simp only[c2,Z]
 cases c3:isL T [102, 97, 108, 115, 101] S
 try simp only[c3,Z]
 cases c4:isL T [116, 104, 105, 115] S
 try simp only[c4,Z]
 cases c5:isL T [58, 58] S
 try simp only[c5,Z]
 cases c6:isL T [98, 97, 115, 101] S
 try simp only[c6,Z]
 cases c7:isL T [40] S
 try simp only[c7,Z]
 cases c8:isL T [91] S
 try simp only[c8,Z]
 cases c9:isL T [123] S
 try simp only[c9,Z]
 cases c10:isL T [102, 117, 110, 99, 116, 105, 111, 110] S
 try simp only[c10,Z]
 cases c11:isL T [99, 108, 97, 115, 115] S
 try simp only[c11,Z]
 obtain ⟨S1,e1,z1⟩:=z.wrong 5
 try simp only[e1,Z]
 exact z1.fin
 try simp only[c11,Z]
 have h0:=z.k0 (isL_kind c11)
 exact Zt.tail (z.call (op:=.clas) tm hnd (.inr h0))
 try simp only[c10,Z]
 have h0:=z.k0 (isL_kind c10)
 exact Zt.tail (z.call (op:=.function) tm hnd (.inr h0))
 try simp only[c9,Z]
 have h0:=z.k0 (isL_kind c9)
 exact Zt.tail (z.call (op:=.table) tm hnd (.inr h0))
 have h0:=z.k0 (isL_kind c8)
 obtain ⟨S2,e2,hz1,z2⟩:=z.step (isL_kind c8)
 try simp only[c8,e2,Z]
 obtain ⟨l1,S3,h1,hl1,z3⟩:=Zt.lst (z2.call (op:=(.some [93])) tm hnd (.inr h0))
 simp only[argK,loopK,Option.getD_none,List.length_nil]at hl1
 try simp only[h1,Z]
 obtain ⟨v1,S4,e3,z4⟩:=z3.add 18 t.pos [] 0 l1
 try simp only[e3,Z]
 exact z4.fin
 have h0:=z.k0 (isL_kind c7)
 obtain ⟨S5,e4,hz2,z5⟩:=z.step (isL_kind c7)
 try simp only[c7,e4,Z]
 obtain ⟨l2,S6,v2,h2,e5,hl2,z6⟩:=Zt.one 1 (z5.call (op:=.expr) tm hnd (.inr h0))
 try simp only[h2,e5,Z]
 obtain ⟨S7,e6,z7⟩:=z6.must [41]
 try simp only[e6,Z]
 subst e5
 have hl:=hl2.out
 exact z7.fin
 have h0:=z.k0 (isL_kind c6)
 obtain ⟨S8,e7,hz3,z8⟩:=z.step (isL_kind c6)
 try simp only[c6,e7,Z]
 obtain ⟨S9,e8,z9⟩:=z8.must [46]
 try simp only[e8,Z]
 cases c12:isL T [99, 111, 110, 115, 116, 114, 117, 99, 116, 111, 114] S9
 try simp only[c12,Z]
 obtain ⟨x1,S10,e9,l3,z10⟩:=z9.name hs
 try simp only[e9,Z]
 obtain ⟨v3,S11,e10,z11⟩:=z10.add 16 t.pos x1 0 []
 try simp only[e10,Z]
 exact z11.fin
 obtain ⟨S12,e11,hz4,z12⟩:=z9.step (isL_kind c12)
 try simp only[c12,e11,Z]
 obtain ⟨v4,S13,e12,z13⟩:=z12.add 16 t.pos [99, 111, 110, 115, 116, 114, 117, 99, 116, 111, 114] 0 []
 try simp only[e12,Z]
 exact z13.fin
 have h0:=z.k0 (isL_kind c5)
 obtain ⟨S14,e13,hz5,z14⟩:=z.step (isL_kind c5)
 try simp only[c5,e13,Z]
 obtain ⟨x2,S15,e14,l4,z15⟩:=z14.name hs
 try simp only[e14,Z]
 obtain ⟨v5,S16,e15,z16⟩:=z15.add 8 t.pos x2 0 []
 try simp only[e15,Z]
 exact z16.fin
 have h0:=z.k0 (isL_kind c4)
 obtain ⟨S17,e16,hz6,z17⟩:=z.step (isL_kind c4)
 try simp only[c4,e16,Z]
 obtain ⟨v6,S18,e17,z18⟩:=z17.add 7 t.pos [] 0 []
 try simp only[e17,Z]
 exact z18.fin
 have h0:=z.k0 (isL_kind c3)
 obtain ⟨S19,e18,hz7,z19⟩:=z.step (isL_kind c3)
 try simp only[c3,e18,Z]
 obtain ⟨v7,S20,e19,z20⟩:=z19.add 3 t.pos [] 0 []
 try simp only[e19,Z]
 exact z20.fin
 have h0:=z.k0 (isL_kind c2)
 obtain ⟨S21,e20,hz8,z21⟩:=z.step (isL_kind c2)
 try simp only[c2,e20,Z]
 obtain ⟨v8,S22,e21,z22⟩:=z21.add 2 t.pos [] 0 []
 try simp only[e21,Z]
 exact z22.fin
 have h0:=z.k0 (isL_kind c1)
 obtain ⟨S23,e22,hz9,z23⟩:=z.step (isL_kind c1)
 try simp only[c1,e22,Z]
 obtain ⟨v9,S24,e23,z24⟩:=z23.add 1 t.pos [] 0 []
 try simp only[e23,Z]
 exact z24.fin
 try simp only[et d3,d3,Z]
 have h0:=z.k0 (kk ht_t d3)
 obtain ⟨S25,e24,hz10,z25⟩:=z.step (kk ht_t d3)
 try simp only[e24,Z]
 obtain ⟨v10,S26,e25,z26⟩:=z25.add 5 t.pos t.text 0 []
 try simp only[e25,Z]
 exact z26.fin
 try simp only[et d2,d2,Z]
 have h0:=z.k0 (kk ht_t d2)
 obtain ⟨S27,e26,hz11,z27⟩:=z.step (kk ht_t d2)
 try simp only[e26,Z]
 obtain ⟨v11,S28,e27,z28⟩:=z27.add 4 t.pos [] t.num []
 try simp only[e27,Z]
 exact z28.fin
 try simp only[et d1,d1,Z]
 have h0:=z.k0 (kk ht_t d1)
 obtain ⟨S29,e28,hz12,z29⟩:=z.step (kk ht_t d1)
 try simp only[e28,Z]
 obtain ⟨v12,S30,e29,z30⟩:=z29.add 6 t.pos t.text 0 []
 try simp only[e29,Z]
 exact z30.fin
theorem class_z (T : List Tk) (n : Nat) (hs : Toks T) (hn : n ≤ 1000000) (tm : Term T n) : ∀ S, Good T S → InK S (argK .clas) → ArgOk T .clas S → need T .clas S ≤ n + 1 → Zr T .clas (n + 1) S (run T (n + 1) .clas S) := by
 intro S hg hin ha hnd
 simp only[run,Z]
 simp only[ArgOk]at ha
 have z:Zt T S S 0 []:=Zt.start hg InK.nil
 obtain ⟨S1,e1,z1⟩:=z.down
 try simp only[e1,Z]
 obtain ⟨a,ht_a⟩:∃ x,Sh (peekL T S1=x):=⟨_,⟨rfl⟩⟩
 try simp only[ht_a.out,Z]
 have hx_a:=tok_ok hs (peek_mem z1.good ht_a.out)
 obtain ⟨S2,e2,z2⟩:=z1.must [99, 108, 97, 115, 115]
 try simp only[e2,Z]
 obtain ⟨nk,ht_nk⟩:∃ x,Sh (peekL T S2=x):=⟨_,⟨rfl⟩⟩
 try simp only[ht_nk.out,Z]
 have hx_nk:=tok_ok hs (peek_mem z2.good ht_nk.out)
 cases d1:decide (nk.kind = 1)
 try simp only[ef d1,d1,Z]
 cases c1:isL T [101, 120, 116, 101, 110, 100, 115] S2
 try simp only[c1,Z]
 obtain ⟨S3,e3,z3⟩:=z2.must [123]
 try simp only[e3,Z]
 obtain ⟨kids,S4,h1,hl1,z4⟩:=Zt.lst (z3.call (op:=(.classLoop [-1])) tm hnd)
 simp only[argK,loopK,Option.getD_some,List.length_cons,List.length_nil]at hl1
 try simp only[h1,Z]
 obtain ⟨S5,e4,z5⟩:=z4.must [125]
 try simp only[e4,Z]
 obtain ⟨v1,S6,e5,z6⟩:=z5.add 21 a.pos [] 0 kids
 try simp only[e5,Z]
 obtain ⟨S7,e6,z7⟩:=z6.up
 try simp only[e6,Z]
 exact z7.fin
 have h0:=z2.k0 (isL_kind c1)
 obtain ⟨S8,e7,hz1,z8⟩:=z2.step (isL_kind c1)
 try simp only[c1,e7,Z]
 obtain ⟨l2,S9,v2,h2,e8,hl2,z9⟩:=Zt.one 1 (z8.call (op:=.expr) tm hnd (.inr h0))
 try simp only[h2,e8,Z]
 obtain ⟨S10,e9,z10⟩:=z9.must [123]
 try simp only[e9,Z]
 obtain ⟨kids,S11,h3,hl3,z11⟩:=Zt.lst (z10.call (op:=(.classLoop [v2])) tm hnd (.inr h0))
 simp only[argK,loopK,Option.getD_some,List.length_cons,List.length_nil]at hl3
 try simp only[h3,Z]
 obtain ⟨S12,e10,z12⟩:=z11.must [125]
 try simp only[e10,Z]
 obtain ⟨v3,S13,e11,z13⟩:=z12.add 21 a.pos [] 0 kids
 try simp only[e11,Z]
 obtain ⟨S14,e12,z14⟩:=z13.up
 try simp only[e12,Z]
 exact z14.fin
 try simp only[et d1,d1,Z]
 obtain ⟨x1,S15,e13,l4,z15⟩:=z2.name hs
 try simp only[e13,Z]
 cases c2:isL T [101, 120, 116, 101, 110, 100, 115] S15
 try simp only[c2,Z]
 obtain ⟨S16,e14,z16⟩:=z15.must [123]
 try simp only[e14,Z]
 obtain ⟨kids,S17,h4,hl4,z17⟩:=Zt.lst (z16.call (op:=(.classLoop [-1])) tm hnd)
 simp only[argK,loopK,Option.getD_some,List.length_cons,List.length_nil]at hl4
 try simp only[h4,Z]
 obtain ⟨S18,e15,z18⟩:=z17.must [125]
 try simp only[e15,Z]
 obtain ⟨v4,S19,e16,z19⟩:=z18.add 21 a.pos x1 0 kids
 try simp only[e16,Z]
 obtain ⟨S20,e17,z20⟩:=z19.up
 try simp only[e17,Z]
 exact z20.fin
 have h0:=z15.k0 (isL_kind c2)
 obtain ⟨S21,e18,hz2,z21⟩:=z15.step (isL_kind c2)
 try simp only[c2,e18,Z]
 obtain ⟨l6,S22,v5,h5,e19,hl5,z22⟩:=Zt.one 1 (z21.call (op:=.expr) tm hnd (.inr h0))
 try simp only[h5,e19,Z]
 obtain ⟨S23,e20,z23⟩:=z22.must [123]
 try simp only[e20,Z]
 obtain ⟨kids,S24,h6,hl6,z24⟩:=Zt.lst (z23.call (op:=(.classLoop [v5])) tm hnd (.inr h0))
 simp only[argK,loopK,Option.getD_some,List.length_cons,List.length_nil]at hl6
 try simp only[h6,Z]
 obtain ⟨S25,e21,z25⟩:=z24.must [125]
 try simp only[e21,Z]
 obtain ⟨v6,S26,e22,z26⟩:=z25.add 21 a.pos x1 0 kids
 try simp only[e22,Z]
 obtain ⟨S27,e23,z27⟩:=z26.up
 try simp only[e23,Z]
 exact z27.fin
theorem stmt_z (T : List Tk) (n : Nat) (hs : Toks T) (hn : n ≤ 1000000) (tm : Term T n) : ∀ S, Good T S → InK S (argK .stmt) → ArgOk T .stmt S → need T .stmt S ≤ n + 1 → Zr T .stmt (n + 1) S (run T (n + 1) .stmt S) := by
 intro S hg hin ha hnd
 simp only[run,Z]
 simp only[ArgOk]at ha
 have z:Zt T S S 0 []:=Zt.start hg InK.nil
 obtain ⟨S1,e1,z1⟩:=z.down
 try simp only[e1,Z]
 obtain ⟨t,ht_t⟩:∃ x,Sh (peekL T S1=x):=⟨_,⟨rfl⟩⟩
 try simp only[ht_t.out,Z]
 have hx_t:=tok_ok hs (peek_mem z1.good ht_t.out)
 cases d1:decide (t.kind = 2)
 try simp only[ef d1,d1,Z]
 cases c1:isL T [123] S1
 try simp only[c1,Z]
 cases c2:isL T [59] S1
 try simp only[c2,Z]
 obtain ⟨l1,S2,v1,h1,e2,hl1,z2⟩:=Zt.one 1 (z1.call (op:=.expr) tm hnd)
 try simp only[h1,e2,Z]
 obtain ⟨v2,S3,e3,z3⟩:=z2.add 28 t.pos [] 0 [v1]
 try simp only[e3,Z]
 obtain ⟨S4,e4,z4⟩:=z3.fend
 try simp only[e4,Z]
 obtain ⟨S5,e5,z5⟩:=z4.up
 try simp only[e5,Z]
 exact z5.fin
 have h0:=z1.k0 (isL_kind c2)
 obtain ⟨S6,e6,hz1,z6⟩:=z1.step (isL_kind c2)
 try simp only[c2,e6,Z]
 obtain ⟨v3,S7,e7,z7⟩:=z6.add 43 t.pos [] 0 []
 try simp only[e7,Z]
 obtain ⟨S8,e8,z8⟩:=z7.up
 try simp only[e8,Z]
 exact z8.fin
 try simp only[c1,Z]
 have h0:=z1.k0 (isL_kind c1)
 obtain ⟨l2,S9,v4,h2,e9,hl2,z9⟩:=Zt.one 1 (z1.call (op:=.block) tm hnd (.inr h0))
 try simp only[h2,e9,Z]
 obtain ⟨S10,e10,z10⟩:=z9.up
 try simp only[e10,Z]
 subst e9
 have hl:=hl2.out
 exact z10.fin
 try simp only[et d1,d1,Z]
 have h0:=z1.k0 (kk ht_t d1)
 obtain ⟨l3,S11,h3,hl3,z11⟩:=z1.call (op:=(.word t)) tm hnd (.inr h0) (ha:=(kk ht_t d1))
 try simp only[h3,Z]
 cases d2:decide (l3.getD 1 0=1)
 try simp only[ef d2,d2,Z]
 rw [show resC (.word t) l3=0 from if_neg (of_decide_eq_false d2),show resA (.word t) l3=[] from if_neg (of_decide_eq_false d2)]at z11
 cases c3:isL T [123] S11
 try simp only[c3,Z]
 cases c4:isL T [59] S11
 try simp only[c4,Z]
 obtain ⟨l4,S12,v5,h4,e11,hl4,z14⟩:=Zt.one 1 (z11.call (op:=.expr) tm hnd (.inr h0))
 try simp only[h4,e11,Z]
 obtain ⟨v6,S13,e12,z15⟩:=z14.add 28 t.pos [] 0 [v5]
 try simp only[e12,Z]
 obtain ⟨S14,e13,z16⟩:=z15.fend
 try simp only[e13,Z]
 obtain ⟨S15,e14,z17⟩:=z16.up
 try simp only[e14,Z]
 exact z17.fin
 obtain ⟨S16,e15,hz2,z18⟩:=z11.step (isL_kind c4)
 try simp only[c4,e15,Z]
 obtain ⟨v7,S17,e16,z19⟩:=z18.add 43 t.pos [] 0 []
 try simp only[e16,Z]
 obtain ⟨S18,e17,z20⟩:=z19.up
 try simp only[e17,Z]
 exact z20.fin
 try simp only[c3,Z]
 obtain ⟨l5,S19,v8,h5,e18,hl5,z21⟩:=Zt.one 1 (z11.call (op:=.block) tm hnd (.inr h0))
 try simp only[h5,e18,Z]
 obtain ⟨S20,e19,z22⟩:=z21.up
 try simp only[e19,Z]
 subst e18
 have hl:=hl5.out
 exact z22.fin
 try simp only[et d2,d2,Z]
 rw [show resC (.word t) l3=1 from if_pos (of_decide_eq_true d2),show resA (.word t) l3=[fst0 l3] from if_pos (of_decide_eq_true d2)]at z11
 obtain ⟨S21,e20,z23⟩:=z11.up
 try simp only[e20,Z]
 exact z23.fin
theorem member_z (T : List Tk) (n : Nat) (hs : Toks T) (hn : n ≤ 1000000) (tm : Term T n) : ∀ S, Good T S → InK S (argK .member) → ArgOk T .member S → need T .member S ≤ n + 1 → Zr T .member (n + 1) S (run T (n + 1) .member S) := by
 intro S hg hin ha hnd
 simp only[run,Z]
 simp only[ArgOk]at ha
 have z:Zt T S S 0 []:=Zt.start hg InK.nil
 obtain ⟨t,ht_t⟩:∃ x,Sh (peekL T S=x):=⟨_,⟨rfl⟩⟩
 try simp only[ht_t.out,Z]
 have hx_t:=tok_ok hs (peek_mem z.good ht_t.out)
 cases c1:isL T [102, 117, 110, 99, 116, 105, 111, 110] S
 try simp only[c1,Z]
 cases c2:isL T [91] S
 try simp only[c2,Z]
 obtain ⟨x1,S1,e1,l1,z1⟩:=z.name hs
 try simp only[e1,Z]
 obtain ⟨v1,S2,e2,z2⟩:=z1.add 5 t.pos x1 0 []
 try simp only[e2,Z]
 obtain ⟨S3,e3,z3⟩:=z2.must [61]
 try simp only[e3,Z]
 obtain ⟨l2,S4,v2,h1,e4,hl1,z4⟩:=Zt.one 1 (z3.call (op:=.expr) tm hnd)
 try simp only[h1,e4,Z]
 subst e4
 have hl:=hl1.out
 exact z4.fin
 have h0:=z.k0 (isL_kind c2)
 obtain ⟨S5,e5,hz1,z5⟩:=z.step (isL_kind c2)
 try simp only[c2,e5,Z]
 obtain ⟨l3,S6,v3,h2,e6,hl2,z6⟩:=Zt.one 1 (z5.call (op:=.expr) tm hnd (.inr h0))
 try simp only[h2,e6,Z]
 obtain ⟨S7,e7,z7⟩:=z6.must [93]
 try simp only[e7,Z]
 obtain ⟨S8,e8,z8⟩:=z7.must [61]
 try simp only[e8,Z]
 obtain ⟨l4,S9,v4,h3,e9,hl3,z9⟩:=Zt.one 1 (z8.call (op:=.expr) tm hnd (.inr h0))
 try simp only[h3,e9,Z]
 subst e9
 have hl:=hl3.out
 exact z9.fin
 try simp only[c1,Z]
 have h0:=z.k0 (isL_kind c1)
 obtain ⟨nt,hnt,⟨lt,-⟩,hnt3,-⟩:=nextk z.good (isL_kind c1)
 have hx_nt:=tok_ok hs (List.mem_of_getElem? hnt)
 try simp only[hnt3,Z]
 cases d1:decide (nt.kind = 1)
 try simp only[ef d1,d1,Z]
 obtain ⟨S10,e10,hz2,z10⟩:=z.step (isL_kind c1)
 try simp only[e10,Z]
 obtain ⟨S11,e11,z11⟩:=z10.wrong 5
 try simp only[e11,Z]
 exact z11.fin
 try simp only[et d1,d1,Z]
 obtain ⟨v5,S12,e12,z12⟩:=z.add 5 nt.pos nt.text 0 []
 try simp only[e12,Z]
 obtain ⟨l5,S13,v6,h4,e13,hl4,z13⟩:=Zt.one 1 (z12.call (op:=.function) tm hnd (.inr h0))
 try simp only[h4,e13,Z]
 subst e13
 have hl:=hl4.out
 exact z13.fin
theorem binary_zl (T : List Tk) (n : Nat) (level : Int) (a : Tk) (i : Int) (hs : Toks T) (hn : n ≤ 1000000) (tm : Term T n) : ∀ Sq, Good T Sq → InK Sq (argK (.binLoop level a.pos i)) → ArgOk T (.binLoop level a.pos i) Sq → need T (.binLoop level a.pos i) Sq ≤ n + 1 → Zr T (.binLoop level a.pos i) (n + 1) Sq (run T (n + 1) (.binLoop level a.pos i) Sq) := by
 intro Sq hg hin ha hnd
 simp only[run,Z]
 simp only[ArgOk]at ha
 have z:Zt T Sq Sq 0 [i]:=Zt.start hg hin
 by_cases hgo:Sq.fc=0
 try simp only[if_pos hgo,Z]
 have h0:=z.h0 hgo
 obtain ⟨t,ht_t⟩:∃ x,Sh (peekL T Sq=x):=⟨_,⟨rfl⟩⟩
 try simp only[ht_t.out,Z]
 have hx_t:=tok_ok hs (peek_mem z.good ht_t.out)
 cases d2:decide (t.kind = 5)
 try simp only[ef d2,d2,Z]
 cases d3:decide (t.kind = 2)
 try simp only[ef d3,d3,Z]
 exact z.fin
 try simp only[et d3,d3,Z]
 cases d4:decide (levelW t.text = level)
 try simp only[ef d4,d4,Z]
 exact z.fin
 try simp only[et d4,d4,Z]
 obtain ⟨S2,e2,hz1,z2⟩:=z.step (kk ht_t d3)
 try simp only[e2,Z]
 obtain ⟨l2,S3,v2,h2,e3,hl2,z3⟩:=Zt.one 1 (z2.call (op:=(.binary (IntKind.i64.wrap (level + 1)))) tm hnd (.inr h0))
 try simp only[h2,e3,Z]
 obtain ⟨v3,S4,e4,z4⟩:=z3.add 10 a.pos t.text 0 [i, v2]
 try simp only[e4,Z]
 exact Zt.tail (z4.call (op:=(.binLoop level a.pos v3)) tm hnd (.inr h0))
 try simp only[et d2,d2,Z]
 cases d5:decide (levelW t.text = level)
 try simp only[ef d5,d5,Z]
 exact z.fin
 try simp only[et d5,d5,Z]
 obtain ⟨S5,e5,hz2,z5⟩:=z.step (kk ht_t d2)
 try simp only[e5,Z]
 obtain ⟨l3,S6,v4,h3,e6,hl3,z6⟩:=Zt.one 1 (z5.call (op:=(.binary (IntKind.i64.wrap (level + 1)))) tm hnd (.inr h0))
 try simp only[h3,e6,Z]
 obtain ⟨v5,S7,e7,z7⟩:=z6.add 10 a.pos t.text 0 [i, v4]
 try simp only[e7,Z]
 exact Zt.tail (z7.call (op:=(.binLoop level a.pos v5)) tm hnd (.inr h0))
 try simp only[if_neg hgo,Z]
 exact z.fin
theorem some_zl (T : List Tk) (n : Nat) (stop : List UInt8) (kids : List Int) (hs : Toks T) (hn : n ≤ 1000000) (tm : Term T n) : ∀ Sq, Good T Sq → InK Sq (argK (.someLoop stop kids)) → ArgOk T (.someLoop stop kids) Sq → need T (.someLoop stop kids) Sq ≤ n + 1 → Zr T (.someLoop stop kids) (n + 1) Sq (run T (n + 1) (.someLoop stop kids) Sq) := by
 intro Sq hg hin ha hnd
 simp only[run,Z]
 simp only[ArgOk]at ha
 have z:Zt T Sq Sq 0 kids:=Zt.start hg hin
 by_cases hgo:Sq.fc = 0 ∧ isL T stop Sq = false
 try simp only[if_pos hgo,Z]
 have h0:=z.h0 hgo.1
 obtain ⟨l1,S1,v1,h1,e1,hl1,z1⟩:=Zt.one 1 (z.call (op:=.expr) tm hnd (.inr h0))
 try simp only[h1,e1,Z]
 cases c1:isL T [44] S1
 try simp only[c1,Z]
 subst e1
 have hl:=hl1.out
 exact z1.fin
 obtain ⟨S3,e3,hz1,z3⟩:=z1.step (isL_kind c1)
 try simp only[c1,e3,Z]
 cases c2:isL T stop S3
 try simp only[c2,Z]
 exact Zt.tail (z3.call (op:=(.someLoop stop (kids ++ [v1]))) tm hnd (.inr h0))
 try simp only[c2,Z]
 obtain ⟨S4,e4,z4⟩:=z3.wrong 5
 try simp only[e4,Z]
 exact Zt.tail (z4.call (op:=(.someLoop stop (kids ++ [v1]))) tm hnd (.inr h0))
 try simp only[if_neg hgo,Z]
 exact z.fin
theorem params_z (T : List Tk) (n : Nat) (at_ : Int) (name : List UInt8) (hs : Toks T) (hn : n ≤ 1000000) (tm : Term T n) : ∀ S, Good T S → InK S (argK (.params at_ name)) → ArgOk T (.params at_ name) S → need T (.params at_ name) S ≤ n + 1 → Zr T (.params at_ name) (n + 1) S (run T (n + 1) (.params at_ name) S) := by
 intro S hg hin ha hnd
 simp only[run,Z]
 simp only[ArgOk]at ha
 have z:Zt T S S 0 []:=Zt.start hg InK.nil
 obtain ⟨S1,e1,z1⟩:=z.down
 try simp only[e1,Z]
 obtain ⟨S2,e2,z2⟩:=z1.must [40]
 try simp only[e2,Z]
 obtain ⟨kids,S3,h1,hl1,z3⟩:=Zt.lst (z2.call (op:=(.paramsLoop [])) tm hnd)
 simp only[argK,loopK,Option.getD_some,List.length_cons,List.length_nil]at hl1
 try simp only[h1,Z]
 obtain ⟨S4,e3,z4⟩:=z3.must [41]
 try simp only[e3,Z]
 obtain ⟨l2,S5,v1,h2,e4,hl2,z5⟩:=Zt.one 1 (z4.call (op:=.block) tm hnd)
 try simp only[h2,e4,Z]
 obtain ⟨v2,S6,e5,z6⟩:=z5.add 20 at_ name ((kids.length : Nat) : Int) (kids ++ [v1])
 try simp only[e5,Z]
 obtain ⟨S7,e6,z7⟩:=z6.up
 try simp only[e6,Z]
 exact z7.fin
theorem cases_z (T : List Tk) (n : Nat) (at_ : Int) (hs : Toks T) (hn : n ≤ 1000000) (tm : Term T n) : ∀ S, Good T S → InK S (argK (.cases at_)) → ArgOk T (.cases at_) S → need T (.cases at_) S ≤ n + 1 → Zr T (.cases at_) (n + 1) S (run T (n + 1) (.cases at_) S) := by
 intro S hg hin ha hnd
 simp only[run,Z]
 simp only[ArgOk]at ha
 have z:Zt T S S 0 []:=Zt.start hg InK.nil
 obtain ⟨l1,S1,v1,h1,e1,hl1,z1⟩:=Zt.one 0 (z.call (op:=.paren) tm hnd)
 try simp only[h1,e1,Z]
 obtain ⟨S2,e2,z2⟩:=z1.must [123]
 try simp only[e2,Z]
 obtain ⟨kids,S3,h2,hl2,z3⟩:=Zt.lst (z2.call (op:=(.casesLoop false [v1])) tm hnd)
 simp only[argK,loopK,Option.getD_some,List.length_cons,List.length_nil]at hl2
 try simp only[h2,Z]
 obtain ⟨S4,e3,z4⟩:=z3.must [125]
 try simp only[e3,Z]
 obtain ⟨v2,S5,e4,z5⟩:=z4.add 34 at_ [] 0 kids
 try simp only[e4,Z]
 exact z5.fin
theorem block_z (T : List Tk) (n : Nat) (hs : Toks T) (hn : n ≤ 1000000) (tm : Term T n) : ∀ S, Good T S → InK S (argK .block) → ArgOk T .block S → need T .block S ≤ n + 1 → Zr T .block (n + 1) S (run T (n + 1) .block S) := by
 intro S hg hin ha hnd
 simp only[run,Z]
 simp only[ArgOk]at ha
 have z:Zt T S S 0 []:=Zt.start hg InK.nil
 obtain ⟨a,ht_a⟩:∃ x,Sh (peekL T S=x):=⟨_,⟨rfl⟩⟩
 try simp only[ht_a.out,Z]
 have hx_a:=tok_ok hs (peek_mem z.good ht_a.out)
 obtain ⟨S1,e1,z1⟩:=z.must [123]
 try simp only[e1,Z]
 obtain ⟨kids,S2,h1,hl1,z2⟩:=Zt.lst (z1.call (op:=(.blockLoop [])) tm hnd)
 simp only[argK,loopK,Option.getD_some,List.length_cons,List.length_nil]at hl1
 try simp only[h1,Z]
 obtain ⟨S3,e2,z3⟩:=z2.must [125]
 try simp only[e2,Z]
 obtain ⟨v1,S4,e3,z4⟩:=z3.add 26 a.pos [] 0 kids
 try simp only[e3,Z]
 exact z4.fin
theorem top_zl (T : List Tk) (n : Nat) (kids : List Int) (hs : Toks T) (hn : n ≤ 1000000) (tm : Term T n) : ∀ Sq, Good T Sq → InK Sq (argK (.top kids)) → ArgOk T (.top kids) Sq → need T (.top kids) Sq ≤ n + 1 → Zr T (.top kids) (n + 1) Sq (run T (n + 1) (.top kids) Sq) := by
 intro Sq hg hin ha hnd
 simp only[run,Z]
 simp only[ArgOk]at ha
 have z:Zt T Sq Sq 0 kids:=Zt.start hg hin
 by_cases hgo:Sq.fc = 0 ∧ ¬ (peekL T Sq).kind = 6
 try simp only[if_pos hgo,Z]
 have h0:=z.h0 hgo.1
 obtain ⟨l1,S1,v1,h1,e1,hl1,z1⟩:=Zt.one 1 (z.call (op:=.stmt) tm hnd (.inr h0))
 try simp only[h1,e1,Z]
 exact Zt.tail (z1.call (op:=(.top (kids ++ [v1]))) tm hnd (.inr h0))
 try simp only[if_neg hgo,Z]
 exact z.fin
theorem some_z (T : List Tk) (n : Nat) (stop : List UInt8) (hs : Toks T) (hn : n ≤ 1000000) (tm : Term T n) : ∀ S, Good T S → InK S (argK (.some stop)) → ArgOk T (.some stop) S → need T (.some stop) S ≤ n + 1 → Zr T (.some stop) (n + 1) S (run T (n + 1) (.some stop) S) := by
 intro S hg hin ha hnd
 simp only[run,Z]
 simp only[ArgOk]at ha
 have z:Zt T S S 0 []:=Zt.start hg InK.nil
 obtain ⟨kids,S1,h1,hl1,z1⟩:=Zt.lst (z.call (op:=(.someLoop stop [])) tm hnd)
 simp only[argK,loopK,Option.getD_some,List.length_cons,List.length_nil]at hl1
 try simp only[h1,Z]
 obtain ⟨S2,e1,z2⟩:=z1.must stop
 try simp only[e1,Z]
 exact z2.fin
end Go.Proofs.YtcbgpjlcfkkdlaaGreatDoor

namespace Go.Proofs.YtcbgpjlcfkkdlaaGreatDoor
open Go Go.AL Go.Proofs
theorem term_all (T : List Tk) (hs : Toks T) : ∀ n, n ≤ 1000000 → Term T n
 | 0, _ => by
   intro op S hg _ ha hnd
   exfalso
   unfold need at hnd
   split at hnd
   ·rename_i h
    have := hg.rd.pos h
    omega
   ·have : 0 < rankF op := by
     cases op with
     | binary l =>
      simp only [ArgOk] at ha
      simp only [rankF]
      omega
     | _ => simp [rankF]
    omega
 | n + 1, hn => by
   have ih := term_all T hs n (by omega)
   have hn' : n ≤ 1000000 := by omega
   intro op S hg hin ha hnd
   cases op with
   | stmt => exact stmt_z T n hs hn' ih S hg hin ha hnd
   | word t => exact word_z T n t hs hn' ih S hg hin ha hnd
   | named t => exact named_z T n t hs hn' ih S hg hin ha hnd
   | locl a => exact local_z T n a hs hn' ih S hg hin ha hnd
   | literal => exact literal_z T n hs hn' ih S hg hin ha hnd
   | enum a => exact enum_z T n a hs hn' ih S hg hin ha hnd
   | block => exact block_z T n hs hn' ih S hg hin ha hnd
   | body => exact body_z T n hs hn' ih S hg hin ha hnd
   | control t => exact control_z T n t hs hn' ih S hg hin ha hnd
   | paren => exact paren_z T n hs hn' ih S hg hin ha hnd
   | loop a => exact loop_z T n a hs hn' ih S hg hin ha hnd
   | foreach a => exact foreach_z T n a hs hn' ih S hg hin ha hnd
   | cases a => exact cases_z T n a hs hn' ih S hg hin ha hnd
   | expr => exact expr_z T n hs hn' ih S hg hin ha hnd
   | cond a => exact cond_z T n a hs hn' ih S hg hin ha hnd
   | binary v => exact binary_z T n v hs hn' ih S hg hin ha hnd
   | unary => exact unary_z T n hs hn' ih S hg hin ha hnd
   | postf => exact postfix_z T n hs hn' ih S hg hin ha hnd
   | some x => exact some_z T n x hs hn' ih S hg hin ha hnd
   | primary => exact primary_z T n hs hn' ih S hg hin ha hnd
   | member => exact member_z T n hs hn' ih S hg hin ha hnd
   | table => exact table_z T n hs hn' ih S hg hin ha hnd
   | function => exact function_z T n hs hn' ih S hg hin ha hnd
   | params a x => exact params_z T n a x hs hn' ih S hg hin ha hnd
   | clas => exact class_z T n hs hn' ih S hg hin ha hnd
   | enumLoop v kids => exact enum_zl T n 0 v kids hs hn' ih S hg hin ha hnd
   | blockLoop kids => exact block_zl T n kids hs hn' ih S hg hin ha hnd
   | casesLoop ot kids => exact cases_zl T n 0 ot kids hs hn' ih S hg hin ha hnd
   | caseLoop kids => exact cases_zl1 T n 0 kids hs hn' ih S hg hin ha hnd
   | someLoop x kids => exact some_zl T n x kids hs hn' ih S hg hin ha hnd
   | tableLoop kids => exact table_zl T n kids hs hn' ih S hg hin ha hnd
   | paramsLoop kids => exact params_zl T n 0 [] kids hs hn' ih S hg hin ha hnd
   | classLoop kids => exact class_zl T n kids hs hn' ih S hg hin ha hnd
   | top kids => exact top_zl T n kids hs hn' ih S hg hin ha hnd
   | binLoop v a i => exact binary_zl T n v ⟨0, a, [], 0, false⟩ i hs hn' ih S hg hin ha hnd
   | postLoop a i => exact postfix_zl T n ⟨0, a, [], 0, false⟩ i hs hn' ih S hg hin ha hnd
end Go.Proofs.YtcbgpjlcfkkdlaaGreatDoor

