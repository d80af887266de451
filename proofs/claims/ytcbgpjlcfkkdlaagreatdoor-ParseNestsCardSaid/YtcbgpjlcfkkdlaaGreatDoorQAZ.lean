import Derived.Test.YtcbgpjlcfkkdlaaGreatDoorQAY
set_option linter.unusedSimpArgs false
set_option linter.unusedVariables false
set_option maxRecDepth 100000
set_option maxHeartbeats 16000000
namespace Go.Proofs.YtcbgpjlcfkkdlaaGreatDoor
open Go Go.AL Go.Proofs
theorem loop_z (T : List Tk) (n : Nat) (at_ : Int) (hs : Toks T) (hn : n ≤ 1000000) (tm : Term T n) : ∀ S, Good T S → InK S (argK (.loop at_)) → ArgOk T (.loop at_) S → need T (.loop at_) S ≤ n + 1 → Zr T (.loop at_) (n + 1) S (run T (n + 1) (.loop at_) S) := by
 intro S hg hin ha hnd
 simp only[run,Z]
 simp only[ArgOk]at ha
 have z:Zt T S S 0 []:=Zt.start hg InK.nil
 obtain ⟨S1,e1,z1⟩:=z.must [40]
 try simp only[e1,Z]
 obtain ⟨t,ht_t⟩:∃ x,Sh (peekL T S1=x):=⟨_,⟨rfl⟩⟩
 try simp only[ht_t.out,Z]
 have hx_t:=tok_ok hs (peek_mem z1.good ht_t.out)
 cases c1:isL T [59] S1
 try simp only[c1,Z]
 cases c2:isL T [108, 111, 99, 97, 108] S1
 try simp only[c2,Z]
 obtain ⟨l1,S2,v1,h1,e2,hl1,z2⟩:=Zt.one 1 (z1.call (op:=.expr) tm hnd)
 try simp only[h1,e2,Z]
 obtain ⟨v2,S3,e3,z3⟩:=z2.add 28 t.pos [] 0 [v1]
 try simp only[e3,Z]
 obtain ⟨S4,e4,z4⟩:=z3.must [59]
 try simp only[e4,Z]
 cases c3:isL T [59] S4
 try simp only[c3,Z]
 obtain ⟨l2,S5,v3,h2,e5,hl2,z5⟩:=Zt.one 1 (z4.call (op:=.expr) tm hnd)
 try simp only[h2,e5,Z]
 obtain ⟨S6,e6,z6⟩:=z5.must [59]
 try simp only[e6,Z]
 cases c4:isL T [41] S6
 try simp only[c4,Z]
 obtain ⟨l3,S7,v4,h3,e7,hl3,z7⟩:=Zt.one 1 (z6.call (op:=.expr) tm hnd)
 try simp only[h3,e7,Z]
 obtain ⟨S8,e8,z8⟩:=z7.must [41]
 try simp only[e8,Z]
 obtain ⟨l4,S9,v5,h4,e9,hl4,z9⟩:=Zt.one 0 (z8.call (op:=.body) tm hnd)
 try simp only[h4,e9,Z]
 obtain ⟨v6,S10,e10,z10⟩:=z9.add 32 at_ [] 0 [v2, v3, v4, v5]
 try simp only[e10,Z]
 exact z10.fin
 try simp only[c4,Z]
 have h0:=z6.k0 (isL_kind c4)
 obtain ⟨S11,e11,z11⟩:=z6.must [41]
 try simp only[e11,Z]
 obtain ⟨l5,S12,v7,h5,e12,hl5,z12⟩:=Zt.one 0 (z11.call (op:=.body) tm hnd (.inr h0))
 try simp only[h5,e12,Z]
 obtain ⟨v8,S13,e13,z13⟩:=z12.add 32 at_ [] 0 [v2, v3, -1, v7]
 try simp only[e13,Z]
 exact z13.fin
 have h0:=z4.k0 (isL_kind c3)
 obtain ⟨S14,e14,hz1,z14⟩:=z4.step (isL_kind c3)
 try simp only[c3,e14,Z]
 cases c5:isL T [41] S14
 try simp only[c5,Z]
 obtain ⟨l6,S15,v9,h6,e15,hl6,z15⟩:=Zt.one 1 (z14.call (op:=.expr) tm hnd (.inr h0))
 try simp only[h6,e15,Z]
 obtain ⟨S16,e16,z16⟩:=z15.must [41]
 try simp only[e16,Z]
 obtain ⟨l7,S17,v10,h7,e17,hl7,z17⟩:=Zt.one 0 (z16.call (op:=.body) tm hnd (.inr h0))
 try simp only[h7,e17,Z]
 obtain ⟨v11,S18,e18,z18⟩:=z17.add 32 at_ [] 0 [v2, -1, v9, v10]
 try simp only[e18,Z]
 exact z18.fin
 try simp only[c5,Z]
 obtain ⟨S19,e19,z19⟩:=z14.must [41]
 try simp only[e19,Z]
 obtain ⟨l8,S20,v12,h8,e20,hl8,z20⟩:=Zt.one 0 (z19.call (op:=.body) tm hnd (.inr h0))
 try simp only[h8,e20,Z]
 obtain ⟨v13,S21,e21,z21⟩:=z20.add 32 at_ [] 0 [v2, -1, -1, v12]
 try simp only[e21,Z]
 exact z21.fin
 have h0:=z1.k0 (isL_kind c2)
 obtain ⟨S22,e22,hz2,z22⟩:=z1.step (isL_kind c2)
 try simp only[c2,e22,Z]
 obtain ⟨x1,S23,e23,l9,z23⟩:=z22.name hs
 try simp only[e23,Z]
 cases c6:isL T [61] S23
 try simp only[c6,Z]
 obtain ⟨v14,S24,e24,z24⟩:=z23.add 27 t.pos x1 0 [-1]
 try simp only[e24,Z]
 obtain ⟨S25,e25,z25⟩:=z24.must [59]
 try simp only[e25,Z]
 cases c7:isL T [59] S25
 try simp only[c7,Z]
 obtain ⟨l10,S26,v15,h9,e26,hl9,z26⟩:=Zt.one 1 (z25.call (op:=.expr) tm hnd (.inr h0))
 try simp only[h9,e26,Z]
 obtain ⟨S27,e27,z27⟩:=z26.must [59]
 try simp only[e27,Z]
 cases c8:isL T [41] S27
 try simp only[c8,Z]
 obtain ⟨l11,S28,v16,h10,e28,hl10,z28⟩:=Zt.one 1 (z27.call (op:=.expr) tm hnd (.inr h0))
 try simp only[h10,e28,Z]
 obtain ⟨S29,e29,z29⟩:=z28.must [41]
 try simp only[e29,Z]
 obtain ⟨l12,S30,v17,h11,e30,hl11,z30⟩:=Zt.one 0 (z29.call (op:=.body) tm hnd (.inr h0))
 try simp only[h11,e30,Z]
 obtain ⟨v18,S31,e31,z31⟩:=z30.add 32 at_ [] 0 [v14, v15, v16, v17]
 try simp only[e31,Z]
 exact z31.fin
 try simp only[c8,Z]
 obtain ⟨S32,e32,z32⟩:=z27.must [41]
 try simp only[e32,Z]
 obtain ⟨l13,S33,v19,h12,e33,hl12,z33⟩:=Zt.one 0 (z32.call (op:=.body) tm hnd (.inr h0))
 try simp only[h12,e33,Z]
 obtain ⟨v20,S34,e34,z34⟩:=z33.add 32 at_ [] 0 [v14, v15, -1, v19]
 try simp only[e34,Z]
 exact z34.fin
 obtain ⟨S35,e35,hz3,z35⟩:=z25.step (isL_kind c7)
 try simp only[c7,e35,Z]
 cases c9:isL T [41] S35
 try simp only[c9,Z]
 obtain ⟨l14,S36,v21,h13,e36,hl13,z36⟩:=Zt.one 1 (z35.call (op:=.expr) tm hnd (.inr h0))
 try simp only[h13,e36,Z]
 obtain ⟨S37,e37,z37⟩:=z36.must [41]
 try simp only[e37,Z]
 obtain ⟨l15,S38,v22,h14,e38,hl14,z38⟩:=Zt.one 0 (z37.call (op:=.body) tm hnd (.inr h0))
 try simp only[h14,e38,Z]
 obtain ⟨v23,S39,e39,z39⟩:=z38.add 32 at_ [] 0 [v14, -1, v21, v22]
 try simp only[e39,Z]
 exact z39.fin
 try simp only[c9,Z]
 obtain ⟨S40,e40,z40⟩:=z35.must [41]
 try simp only[e40,Z]
 obtain ⟨l16,S41,v24,h15,e41,hl15,z41⟩:=Zt.one 0 (z40.call (op:=.body) tm hnd (.inr h0))
 try simp only[h15,e41,Z]
 obtain ⟨v25,S42,e42,z42⟩:=z41.add 32 at_ [] 0 [v14, -1, -1, v24]
 try simp only[e42,Z]
 exact z42.fin
 obtain ⟨S43,e43,hz4,z43⟩:=z23.step (isL_kind c6)
 try simp only[c6,e43,Z]
 obtain ⟨l17,S44,v26,h16,e44,hl16,z44⟩:=Zt.one 1 (z43.call (op:=.expr) tm hnd (.inr h0))
 try simp only[h16,e44,Z]
 obtain ⟨v27,S45,e45,z45⟩:=z44.add 27 t.pos x1 0 [v26]
 try simp only[e45,Z]
 obtain ⟨S46,e46,z46⟩:=z45.must [59]
 try simp only[e46,Z]
 cases c10:isL T [59] S46
 try simp only[c10,Z]
 obtain ⟨l18,S47,v28,h17,e47,hl17,z47⟩:=Zt.one 1 (z46.call (op:=.expr) tm hnd (.inr h0))
 try simp only[h17,e47,Z]
 obtain ⟨S48,e48,z48⟩:=z47.must [59]
 try simp only[e48,Z]
 cases c11:isL T [41] S48
 try simp only[c11,Z]
 obtain ⟨l19,S49,v29,h18,e49,hl18,z49⟩:=Zt.one 1 (z48.call (op:=.expr) tm hnd (.inr h0))
 try simp only[h18,e49,Z]
 obtain ⟨S50,e50,z50⟩:=z49.must [41]
 try simp only[e50,Z]
 obtain ⟨l20,S51,v30,h19,e51,hl19,z51⟩:=Zt.one 0 (z50.call (op:=.body) tm hnd (.inr h0))
 try simp only[h19,e51,Z]
 obtain ⟨v31,S52,e52,z52⟩:=z51.add 32 at_ [] 0 [v27, v28, v29, v30]
 try simp only[e52,Z]
 exact z52.fin
 try simp only[c11,Z]
 obtain ⟨S53,e53,z53⟩:=z48.must [41]
 try simp only[e53,Z]
 obtain ⟨l21,S54,v32,h20,e54,hl20,z54⟩:=Zt.one 0 (z53.call (op:=.body) tm hnd (.inr h0))
 try simp only[h20,e54,Z]
 obtain ⟨v33,S55,e55,z55⟩:=z54.add 32 at_ [] 0 [v27, v28, -1, v32]
 try simp only[e55,Z]
 exact z55.fin
 obtain ⟨S56,e56,hz5,z56⟩:=z46.step (isL_kind c10)
 try simp only[c10,e56,Z]
 cases c12:isL T [41] S56
 try simp only[c12,Z]
 obtain ⟨l22,S57,v34,h21,e57,hl21,z57⟩:=Zt.one 1 (z56.call (op:=.expr) tm hnd (.inr h0))
 try simp only[h21,e57,Z]
 obtain ⟨S58,e58,z58⟩:=z57.must [41]
 try simp only[e58,Z]
 obtain ⟨l23,S59,v35,h22,e59,hl22,z59⟩:=Zt.one 0 (z58.call (op:=.body) tm hnd (.inr h0))
 try simp only[h22,e59,Z]
 obtain ⟨v36,S60,e60,z60⟩:=z59.add 32 at_ [] 0 [v27, -1, v34, v35]
 try simp only[e60,Z]
 exact z60.fin
 try simp only[c12,Z]
 obtain ⟨S61,e61,z61⟩:=z56.must [41]
 try simp only[e61,Z]
 obtain ⟨l24,S62,v37,h23,e62,hl23,z62⟩:=Zt.one 0 (z61.call (op:=.body) tm hnd (.inr h0))
 try simp only[h23,e62,Z]
 obtain ⟨v38,S63,e63,z63⟩:=z62.add 32 at_ [] 0 [v27, -1, -1, v37]
 try simp only[e63,Z]
 exact z63.fin
 have h0:=z1.k0 (isL_kind c1)
 obtain ⟨S64,e64,hz6,z64⟩:=z1.step (isL_kind c1)
 try simp only[c1,e64,Z]
 cases c13:isL T [59] S64
 try simp only[c13,Z]
 obtain ⟨l25,S65,v39,h24,e65,hl24,z65⟩:=Zt.one 1 (z64.call (op:=.expr) tm hnd (.inr h0))
 try simp only[h24,e65,Z]
 obtain ⟨S66,e66,z66⟩:=z65.must [59]
 try simp only[e66,Z]
 cases c14:isL T [41] S66
 try simp only[c14,Z]
 obtain ⟨l26,S67,v40,h25,e67,hl25,z67⟩:=Zt.one 1 (z66.call (op:=.expr) tm hnd (.inr h0))
 try simp only[h25,e67,Z]
 obtain ⟨S68,e68,z68⟩:=z67.must [41]
 try simp only[e68,Z]
 obtain ⟨l27,S69,v41,h26,e69,hl26,z69⟩:=Zt.one 0 (z68.call (op:=.body) tm hnd (.inr h0))
 try simp only[h26,e69,Z]
 obtain ⟨v42,S70,e70,z70⟩:=z69.add 32 at_ [] 0 [-1, v39, v40, v41]
 try simp only[e70,Z]
 exact z70.fin
 try simp only[c14,Z]
 obtain ⟨S71,e71,z71⟩:=z66.must [41]
 try simp only[e71,Z]
 obtain ⟨l28,S72,v43,h27,e72,hl27,z72⟩:=Zt.one 0 (z71.call (op:=.body) tm hnd (.inr h0))
 try simp only[h27,e72,Z]
 obtain ⟨v44,S73,e73,z73⟩:=z72.add 32 at_ [] 0 [-1, v39, -1, v43]
 try simp only[e73,Z]
 exact z73.fin
 obtain ⟨S74,e74,hz7,z74⟩:=z64.step (isL_kind c13)
 try simp only[c13,e74,Z]
 cases c15:isL T [41] S74
 try simp only[c15,Z]
 obtain ⟨l29,S75,v45,h28,e75,hl28,z75⟩:=Zt.one 1 (z74.call (op:=.expr) tm hnd (.inr h0))
 try simp only[h28,e75,Z]
 obtain ⟨S76,e76,z76⟩:=z75.must [41]
 try simp only[e76,Z]
 obtain ⟨l30,S77,v46,h29,e77,hl29,z77⟩:=Zt.one 0 (z76.call (op:=.body) tm hnd (.inr h0))
 try simp only[h29,e77,Z]
 obtain ⟨v47,S78,e78,z78⟩:=z77.add 32 at_ [] 0 [-1, -1, v45, v46]
 try simp only[e78,Z]
 exact z78.fin
 try simp only[c15,Z]
 obtain ⟨S79,e79,z79⟩:=z74.must [41]
 try simp only[e79,Z]
 obtain ⟨l31,S80,v48,h30,e80,hl30,z80⟩:=Zt.one 0 (z79.call (op:=.body) tm hnd (.inr h0))
 try simp only[h30,e80,Z]
 obtain ⟨v49,S81,e81,z81⟩:=z80.add 32 at_ [] 0 [-1, -1, -1, v48]
 try simp only[e81,Z]
 exact z81.fin
theorem postfix_zl (T : List Tk) (n : Nat) (a : Tk) (i : Int) (hs : Toks T) (hn : n ≤ 1000000) (tm : Term T n) : ∀ Sq, Good T Sq → InK Sq (argK (.postLoop a.pos i)) → ArgOk T (.postLoop a.pos i) Sq → need T (.postLoop a.pos i) Sq ≤ n + 1 → Zr T (.postLoop a.pos i) (n + 1) Sq (run T (n + 1) (.postLoop a.pos i) Sq) := by
 intro Sq hg hin ha hnd
 simp only[run,Z]
 simp only[ArgOk]at ha
 have z:Zt T Sq Sq 0 [i]:=Zt.start hg hin
 by_cases hgo:Sq.fc=0
 try simp only[if_pos hgo,Z]
 have h0:=z.h0 hgo
 obtain ⟨t,ht_t⟩:∃ x,Sh (peekL T Sq=x):=⟨_,⟨rfl⟩⟩
 try simp only[ht_t.out,Z]
 have hx_t:=tok_ok hs (peek_mem z.good ht_t.out)
 cases hln:t.line
 try simp only[hln,Z]
 cases c1:isL T [46] Sq
 try simp only[c1,Z]
 cases c2:isL T [91] Sq
 try simp only[c2,Z]
 cases c3:isL T [40] Sq
 try simp only[c3,Z]
 cases d1:decide (t.kind = 5)
 try simp only[ef d1,d1,Z]
 exact z.fin
 try simp only[et d1,d1,Z]
 cases hst:isStep t.text
 try simp only[hst,Z]
 exact z.fin
 try simp only[hst,Z]
 cases d2:isTarget (kindL Sq i)
 try simp only[d2,Z]
 obtain ⟨S2,e2,z2⟩:=z.wrong 30
 try simp only[e2,Z]
 exact z2.fin
 try simp only[d2,Z]
 obtain ⟨S3,e3,hz1,z3⟩:=z.step (kk ht_t d1)
 try simp only[e3,Z]
 obtain ⟨v2,S4,e4,z4⟩:=z3.add 13 a.pos t.text 1 [i]
 try simp only[e4,Z]
 exact z4.fin
 try simp only[c3,Z]
 obtain ⟨S5,e5,hz2,z5⟩:=z.step (isL_kind c3)
 try simp only[e5,Z]
 obtain ⟨l2,S6,h2,hl2,z6⟩:=Zt.lst (z5.call (op:=(.some [41])) tm hnd (.inr h0))
 simp only[argK,loopK,Option.getD_none,List.length_nil]at hl2
 try simp only[h2,Z]
 obtain ⟨v3,S7,e6,z7⟩:=z6.add 17 a.pos [] 0 (i :: l2)
 try simp only[e6,Z]
 exact Zt.tail (z7.call (op:=(.postLoop a.pos v3)) tm hnd (.inr h0))
 try simp only[c2,Z]
 obtain ⟨S8,e7,hz3,z8⟩:=z.step (isL_kind c2)
 try simp only[e7,Z]
 obtain ⟨l3,S9,v4,h3,e8,hl3,z9⟩:=Zt.one 1 (z8.call (op:=.expr) tm hnd (.inr h0))
 try simp only[h3,e8,Z]
 obtain ⟨S10,e9,z10⟩:=z9.must [93]
 try simp only[e9,Z]
 obtain ⟨v5,S11,e10,z11⟩:=z10.add 14 a.pos [] 0 [i, v4]
 try simp only[e10,Z]
 exact Zt.tail (z11.call (op:=(.postLoop a.pos v5)) tm hnd (.inr h0))
 try simp only[c1,Z]
 obtain ⟨S12,e11,hz4,z12⟩:=z.step (isL_kind c1)
 try simp only[e11,Z]
 obtain ⟨x1,S13,e12,l4,z13⟩:=z12.name hs
 try simp only[e12,Z]
 obtain ⟨v6,S14,e13,z14⟩:=z13.add 15 a.pos x1 0 [i]
 try simp only[e13,Z]
 exact Zt.tail (z14.call (op:=(.postLoop a.pos v6)) tm hnd (.inr h0))
 try simp only[hln,Z]
 cases c4:isL T [46] Sq
 try simp only[c4,Z]
 cases c5:isL T [91] Sq
 try simp only[c5,Z]
 cases c6:isL T [40] Sq
 try simp only[c6,Z]
 cases d3:decide (t.kind = 5)
 try simp only[ef d3,d3,Z]
 exact z.fin
 try simp only[et d3,d3,Z]
 cases hst:isStep t.text
 try simp only[hst,Z]
 exact z.fin
 try simp only[hst,Z]
 exact z.fin
 try simp only[c6,Z]
 cases d4:decide (t.kind = 5)
 try simp only[ef d4,d4,Z]
 exact z.fin
 try simp only[et d4,d4,Z]
 cases hst:isStep t.text
 try simp only[hst,Z]
 exact z.fin
 try simp only[hst,Z]
 exact z.fin
 try simp only[c5,Z]
 cases c7:isL T [40] Sq
 try simp only[c7,Z]
 cases d5:decide (t.kind = 5)
 try simp only[ef d5,d5,Z]
 exact z.fin
 try simp only[et d5,d5,Z]
 cases hst:isStep t.text
 try simp only[hst,Z]
 exact z.fin
 try simp only[hst,Z]
 exact z.fin
 try simp only[c7,Z]
 cases d6:decide (t.kind = 5)
 try simp only[ef d6,d6,Z]
 exact z.fin
 try simp only[et d6,d6,Z]
 cases hst:isStep t.text
 try simp only[hst,Z]
 exact z.fin
 try simp only[hst,Z]
 exact z.fin
 try simp only[c4,Z]
 obtain ⟨S15,e14,hz5,z15⟩:=z.step (isL_kind c4)
 try simp only[e14,Z]
 obtain ⟨x2,S16,e15,l5,z16⟩:=z15.name hs
 try simp only[e15,Z]
 obtain ⟨v7,S17,e16,z17⟩:=z16.add 15 a.pos x2 0 [i]
 try simp only[e16,Z]
 exact Zt.tail (z17.call (op:=(.postLoop a.pos v7)) tm hnd (.inr h0))
 try simp only[if_neg hgo,Z]
 exact z.fin
theorem cases_zl (T : List Tk) (n : Nat) (at_ : Int) (ot : Bool) (kids : List Int) (hs : Toks T) (hn : n ≤ 1000000) (tm : Term T n) : ∀ Sq, Good T Sq → InK Sq (argK (.casesLoop ot kids)) → ArgOk T (.casesLoop ot kids) Sq → need T (.casesLoop ot kids) Sq ≤ n + 1 → Zr T (.casesLoop ot kids) (n + 1) Sq (run T (n + 1) (.casesLoop ot kids) Sq) := by
 intro Sq hg hin ha hnd
 simp only[run,Z]
 simp only[ArgOk]at ha
 have z:Zt T Sq Sq 0 kids:=Zt.start hg hin
 by_cases hgo:Sq.fc = 0 ∧ isL T [125] Sq = false
 try simp only[if_pos hgo,Z]
 have h0:=z.h0 hgo.1
 obtain ⟨t,ht_t⟩:∃ x,Sh (peekL T Sq=x):=⟨_,⟨rfl⟩⟩
 try simp only[ht_t.out,Z]
 have hx_t:=tok_ok hs (peek_mem z.good ht_t.out)
 cases c1:isL T [99, 97, 115, 101] Sq
 try simp only[c1,Z]
 cases ot
 try simp only[Z]
 cases c2:isL T [100, 101, 102, 97, 117, 108, 116] Sq
 try simp only[c2,Z]
 obtain ⟨S3,e3,z3⟩:=z.wrong 5
 try simp only[e3,Z]
 obtain ⟨S4,e4,z4⟩:=z3.must [58]
 try simp only[e4,Z]
 obtain ⟨kids1,S5,h2,hl2,z5⟩:=Zt.lst (z4.call (op:=(.caseLoop [-1])) tm hnd (.inr h0))
 simp only[argK,loopK,Option.getD_some,List.length_cons,List.length_nil]at hl2
 try simp only[h2,Z]
 obtain ⟨v2,S6,e5,z6⟩:=z5.add 24 t.pos [] 0 kids1
 try simp only[e5,Z]
 exact Zt.tail (z6.call (op:=(.casesLoop false (kids ++ [v2]))) tm hnd (.inr h0))
 obtain ⟨S7,e6,hz1,z7⟩:=z.step (isL_kind c2)
 try simp only[c2,e6,Z]
 obtain ⟨S8,e7,z8⟩:=z7.must [58]
 try simp only[e7,Z]
 obtain ⟨kids1,S9,h3,hl3,z9⟩:=Zt.lst (z8.call (op:=(.caseLoop [-1])) tm hnd (.inr h0))
 simp only[argK,loopK,Option.getD_some,List.length_cons,List.length_nil]at hl3
 try simp only[h3,Z]
 obtain ⟨v3,S10,e8,z10⟩:=z9.add 24 t.pos [] 0 kids1
 try simp only[e8,Z]
 exact Zt.tail (z10.call (op:=(.casesLoop true (kids ++ [v3]))) tm hnd (.inr h0))
 try simp only[Z]
 obtain ⟨S11,e9,z11⟩:=z.wrong 5
 try simp only[e9,Z]
 obtain ⟨S12,e10,z12⟩:=z11.must [58]
 try simp only[e10,Z]
 obtain ⟨kids1,S13,h4,hl4,z13⟩:=Zt.lst (z12.call (op:=(.caseLoop [-1])) tm hnd (.inr h0))
 simp only[argK,loopK,Option.getD_some,List.length_cons,List.length_nil]at hl4
 try simp only[h4,Z]
 obtain ⟨v4,S14,e11,z14⟩:=z13.add 24 t.pos [] 0 kids1
 try simp only[e11,Z]
 exact Zt.tail (z14.call (op:=(.casesLoop true (kids ++ [v4]))) tm hnd (.inr h0))
 obtain ⟨S15,e12,hz2,z15⟩:=z.step (isL_kind c1)
 try simp only[c1,e12,Z]
 obtain ⟨l5,S16,v5,h5,e13,hl5,z16⟩:=Zt.one 1 (z15.call (op:=.expr) tm hnd (.inr h0))
 try simp only[h5,e13,Z]
 obtain ⟨S17,e14,z17⟩:=z16.must [58]
 try simp only[e14,Z]
 obtain ⟨kids1,S18,h6,hl6,z18⟩:=Zt.lst (z17.call (op:=(.caseLoop [v5])) tm hnd (.inr h0))
 simp only[argK,loopK,Option.getD_some,List.length_cons,List.length_nil]at hl6
 try simp only[h6,Z]
 obtain ⟨v6,S19,e15,z19⟩:=z18.add 24 t.pos [] 0 kids1
 try simp only[e15,Z]
 exact Zt.tail (z19.call (op:=(.casesLoop ot (kids ++ [v6]))) tm hnd (.inr h0))
 try simp only[if_neg hgo,Z]
 exact z.fin
theorem literal_z (T : List Tk) (n : Nat) (hs : Toks T) (hn : n ≤ 1000000) (tm : Term T n) : ∀ S, Good T S → InK S (argK .literal) → ArgOk T .literal S → need T .literal S ≤ n + 1 → Zr T .literal (n + 1) S (run T (n + 1) .literal S) := by
 intro S hg hin ha hnd
 simp only[run,Z]
 simp only[ArgOk]at ha
 have z:Zt T S S 0 []:=Zt.start hg InK.nil
 obtain ⟨t,ht_t⟩:∃ x,Sh (peekL T S=x):=⟨_,⟨rfl⟩⟩
 try simp only[ht_t.out,Z]
 have hx_t:=tok_ok hs (peek_mem z.good ht_t.out)
 cases c1:isL T [45] S
 try simp only[c1,Z]
 cases d1:decide (t.kind = 3)
 try simp only[ef d1,d1,Z]
 cases d2:decide (t.kind = 4)
 try simp only[ef d2,d2,Z]
 cases c2:isL T [110, 117, 108, 108] S
 try simp only[c2,Z]
 cases c3:isL T [116, 114, 117, 101] S
 try simp only[c3,Z]
 cases c4:isL T [102, 97, 108, 115, 101] S
 try simp only[c4,Z]
 obtain ⟨S1,e1,z1⟩:=z.wrong 5
 try simp only[e1,Z]
 exact z1.fin
 have h0:=z.k0 (isL_kind c4)
 obtain ⟨S2,e2,hz1,z2⟩:=z.step (isL_kind c4)
 try simp only[c4,e2,Z]
 obtain ⟨v1,S3,e3,z3⟩:=z2.add 3 t.pos [] 0 []
 try simp only[e3,Z]
 exact z3.fin
 have h0:=z.k0 (isL_kind c3)
 obtain ⟨S4,e4,hz2,z4⟩:=z.step (isL_kind c3)
 try simp only[c3,e4,Z]
 obtain ⟨v2,S5,e5,z5⟩:=z4.add 2 t.pos [] 0 []
 try simp only[e5,Z]
 exact z5.fin
 have h0:=z.k0 (isL_kind c2)
 obtain ⟨S6,e6,hz3,z6⟩:=z.step (isL_kind c2)
 try simp only[c2,e6,Z]
 obtain ⟨v3,S7,e7,z7⟩:=z6.add 1 t.pos [] 0 []
 try simp only[e7,Z]
 exact z7.fin
 try simp only[et d2,d2,Z]
 have h0:=z.k0 (kk ht_t d2)
 obtain ⟨S8,e8,hz4,z8⟩:=z.step (kk ht_t d2)
 try simp only[e8,Z]
 obtain ⟨v4,S9,e9,z9⟩:=z8.add 5 t.pos t.text 0 []
 try simp only[e9,Z]
 exact z9.fin
 try simp only[et d1,d1,Z]
 have h0:=z.k0 (kk ht_t d1)
 obtain ⟨S10,e10,hz5,z10⟩:=z.step (kk ht_t d1)
 try simp only[e10,Z]
 obtain ⟨v5,S11,e11,z11⟩:=z10.add 4 t.pos [] t.num []
 try simp only[e11,Z]
 exact z11.fin
 have h0:=z.k0 (isL_kind c1)
 obtain ⟨S12,e12,hz6,z12⟩:=z.step (isL_kind c1)
 try simp only[c1,e12,Z]
 obtain ⟨u,ht_u⟩:∃ x,Sh (peekL T S12=x):=⟨_,⟨rfl⟩⟩
 try simp only[ht_u.out,Z]
 have hx_u:=tok_ok hs (peek_mem z12.good ht_u.out)
 cases d3:decide (u.kind = 3)
 try simp only[ef d3,d3,Z]
 obtain ⟨S13,e13,z13⟩:=z12.wrong 5
 try simp only[e13,Z]
 exact z13.fin
 try simp only[et d3,d3,Z]
 obtain ⟨S14,e14,hz7,z14⟩:=z12.step (kk ht_u d3)
 try simp only[e14,Z]
 obtain ⟨v6,S15,e15,z15⟩:=z14.add 4 t.pos [] (IntKind.i64.wrap (-u.num)) []
 try simp only[e15,Z]
 exact z15.fin
theorem local_z (T : List Tk) (n : Nat) (at_ : Int) (hs : Toks T) (hn : n ≤ 1000000) (tm : Term T n) : ∀ S, Good T S → InK S (argK (.locl at_)) → ArgOk T (.locl at_) S → need T (.locl at_) S ≤ n + 1 → Zr T (.locl at_) (n + 1) S (run T (n + 1) (.locl at_) S) := by
 intro S hg hin ha hnd
 simp only[run,Z]
 simp only[ArgOk]at ha
 have z:Zt T S S 0 []:=Zt.start hg InK.nil
 cases c1:isL T [102, 117, 110, 99, 116, 105, 111, 110] S
 try simp only[c1,Z]
 obtain ⟨x1,S1,e1,l1,z1⟩:=z.name hs
 try simp only[e1,Z]
 cases c2:isL T [61] S1
 try simp only[c2,Z]
 obtain ⟨v1,S2,e2,z2⟩:=z1.add 27 at_ x1 0 [-1]
 try simp only[e2,Z]
 obtain ⟨S3,e3,z3⟩:=z2.fend
 try simp only[e3,Z]
 exact z3.fin
 have h0:=z1.k0 (isL_kind c2)
 obtain ⟨S4,e4,hz1,z4⟩:=z1.step (isL_kind c2)
 try simp only[c2,e4,Z]
 obtain ⟨l2,S5,v2,h1,e5,hl1,z5⟩:=Zt.one 1 (z4.call (op:=.expr) tm hnd (.inr h0))
 try simp only[h1,e5,Z]
 obtain ⟨v3,S6,e6,z6⟩:=z5.add 27 at_ x1 0 [v2]
 try simp only[e6,Z]
 obtain ⟨S7,e7,z7⟩:=z6.fend
 try simp only[e7,Z]
 exact z7.fin
 try simp only[c1,Z]
 have h0:=z.k0 (isL_kind c1)
 obtain ⟨nt,hnt,⟨lt,-⟩,hnt3,-⟩:=nextk z.good (isL_kind c1)
 have hx_nt:=tok_ok hs (List.mem_of_getElem? hnt)
 try simp only[hnt3,Z]
 cases d1:decide (nt.kind = 1)
 try simp only[ef d1,d1,Z]
 obtain ⟨S8,e8,hz2,z8⟩:=z.step (isL_kind c1)
 try simp only[e8,Z]
 obtain ⟨S9,e9,z9⟩:=z8.wrong 5
 try simp only[e9,Z]
 obtain ⟨mt,hmt⟩:∃ x,T.getD (min (S9.idx+1) (T.length-1)) default=x:=⟨_,rfl⟩
 have hx_mt:=hmt ▸ getD_short hs.short (min (S9.idx+1) (T.length-1))
 try simp only[hmt,Z]
 obtain ⟨l3,S10,v4,h2,e10,hl2,z10⟩:=Zt.one 1 (z9.call (op:=.function) tm hnd (.inr h0))
 try simp only[h2,e10,Z]
 obtain ⟨v5,S11,e11,z11⟩:=z10.add 27 at_ mt.text 0 [v4]
 try simp only[e11,Z]
 exact z11.fin
 try simp only[et d1,d1,Z]
 obtain ⟨mt,hmt⟩:∃ x,T.getD (min (S.idx+1) (T.length-1)) default=x:=⟨_,rfl⟩
 have hx_mt:=hmt ▸ getD_short hs.short (min (S.idx+1) (T.length-1))
 try simp only[hmt,Z]
 obtain ⟨l4,S12,v6,h3,e12,hl3,z12⟩:=Zt.one 1 (z.call (op:=.function) tm hnd (.inr h0))
 try simp only[h3,e12,Z]
 obtain ⟨v7,S13,e13,z13⟩:=z12.add 27 at_ mt.text 0 [v6]
 try simp only[e13,Z]
 exact z13.fin
theorem params_zl (T : List Tk) (n : Nat) (at_ : Int) (name : List UInt8) (kids : List Int) (hs : Toks T) (hn : n ≤ 1000000) (tm : Term T n) : ∀ Sq, Good T Sq → InK Sq (argK (.paramsLoop kids)) → ArgOk T (.paramsLoop kids) Sq → need T (.paramsLoop kids) Sq ≤ n + 1 → Zr T (.paramsLoop kids) (n + 1) Sq (run T (n + 1) (.paramsLoop kids) Sq) := by
 intro Sq hg hin ha hnd
 simp only[run,Z]
 simp only[ArgOk]at ha
 have z:Zt T Sq Sq 0 kids:=Zt.start hg hin
 by_cases hgo:Sq.fc = 0 ∧ isL T [41] Sq = false
 try simp only[if_pos hgo,Z]
 have h0:=z.h0 hgo.1
 obtain ⟨t,ht_t⟩:∃ x,Sh (peekL T Sq=x):=⟨_,⟨rfl⟩⟩
 try simp only[ht_t.out,Z]
 have hx_t:=tok_ok hs (peek_mem z.good ht_t.out)
 obtain ⟨x1,S3,e3,l1,z3⟩:=z.name hs
 try simp only[e3,Z]
 cases c1:isL T [61] S3
 try simp only[c1,Z]
 obtain ⟨v1,S4,e4,z4⟩:=z3.add 22 t.pos x1 0 [-1]
 try simp only[e4,Z]
 cases c2:isL T [44] S4
 try simp only[c2,Z]
 exact z4.fin
 obtain ⟨S8,e8,hz1,z8⟩:=z4.step (isL_kind c2)
 try simp only[c2,e8,Z]
 exact Zt.tail (z8.call (op:=(.paramsLoop (kids ++ [v1]))) tm hnd (.inr h0))
 obtain ⟨S9,e9,hz2,z9⟩:=z3.step (isL_kind c1)
 try simp only[c1,e9,Z]
 obtain ⟨l3,S10,v4,h2,e10,hl2,z10⟩:=Zt.one 1 (z9.call (op:=.expr) tm hnd (.inr h0))
 try simp only[h2,e10,Z]
 obtain ⟨v5,S11,e11,z11⟩:=z10.add 22 t.pos x1 0 [v4]
 try simp only[e11,Z]
 cases c3:isL T [44] S11
 try simp only[c3,Z]
 exact z11.fin
 obtain ⟨S15,e15,hz3,z15⟩:=z11.step (isL_kind c3)
 try simp only[c3,e15,Z]
 exact Zt.tail (z15.call (op:=(.paramsLoop (kids ++ [v5]))) tm hnd (.inr h0))
 try simp only[if_neg hgo,Z]
 exact z.fin
theorem named_z (T : List Tk) (n : Nat) (t : Tk) (hs : Toks T) (hn : n ≤ 1000000) (tm : Term T n) : ∀ S, Good T S → InK S (argK (.named t)) → ArgOk T (.named t) S → need T (.named t) S ≤ n + 1 → Zr T (.named t) (n + 1) S (run T (n + 1) (.named t) S) := by
 intro S hg hin ha hnd
 simp only[run,Z]
 simp only[ArgOk]at ha
 have z:Zt T S S 0 []:=Zt.start hg InK.nil
 try simp only[if_pos ha,Z]
 have h0:=z.h0 ha.1
 obtain ⟨nt,hnt⟩:∃ x,T[S.idx+1]?=some x:=⟨_,List.getElem?_eq_getElem ha.2⟩
 have hnt3:T.getD (S.idx+1) default=nt:=by simp [List.getD,hnt]
 have hx_nt:=tok_ok hs (List.mem_of_getElem? hnt)
 try simp only[hnt3,Z]
 obtain ⟨v1,S1,e1,z1⟩:=z.add 7 t.pos [] 0 []
 try simp only[e1,Z]
 obtain ⟨v2,S2,e2,z2⟩:=z1.add 15 t.pos nt.text 0 [v1]
 try simp only[e2,Z]
 cases d1:decide (t.text = [102, 117, 110, 99, 116, 105, 111, 110])
 try simp only[ef d1,d1,Z]
 obtain ⟨l1,S3,v3,h1,e3,hl1,z3⟩:=Zt.one 1 (z2.call (op:=.clas) tm hnd (.inr h0))
 try simp only[h1,e3,Z]
 obtain ⟨v4,S4,e4,z4⟩:=z3.add 12 t.pos [60, 45] 0 [v2, v3]
 try simp only[e4,Z]
 obtain ⟨v5,S5,e5,z5⟩:=z4.add 28 t.pos [] 0 [v4]
 try simp only[e5,Z]
 exact z5.fin
 try simp only[et d1,d1,Z]
 obtain ⟨l2,S6,v6,h2,e6,hl2,z6⟩:=Zt.one 1 (z2.call (op:=.function) tm hnd (.inr h0))
 try simp only[h2,e6,Z]
 obtain ⟨v7,S7,e7,z7⟩:=z6.add 12 t.pos [60, 45] 0 [v2, v6]
 try simp only[e7,Z]
 obtain ⟨v8,S8,e8,z8⟩:=z7.add 28 t.pos [] 0 [v7]
 try simp only[e8,Z]
 exact z8.fin
theorem table_zl (T : List Tk) (n : Nat) (kids : List Int) (hs : Toks T) (hn : n ≤ 1000000) (tm : Term T n) : ∀ Sq, Good T Sq → InK Sq (argK (.tableLoop kids)) → ArgOk T (.tableLoop kids) Sq → need T (.tableLoop kids) Sq ≤ n + 1 → Zr T (.tableLoop kids) (n + 1) Sq (run T (n + 1) (.tableLoop kids) Sq) := by
 intro Sq hg hin ha hnd
 simp only[run,Z]
 simp only[ArgOk]at ha
 have z:Zt T Sq Sq 0 kids:=Zt.start hg hin
 by_cases hgo:Sq.fc = 0 ∧ isL T [125] Sq = false
 try simp only[if_pos hgo,Z]
 have h0:=z.h0 hgo.1
 obtain ⟨l1,S2,v1,v2,h1,e2,e3,z2⟩:=Zt.mem (z.call (op:=.member) tm hnd (.inr h0))
 try simp only[h1,e2,e3,Z]
 cases c1:isL T [44] S2
 try simp only[c1,Z]
 exact z2.fin
 obtain ⟨S5,e6,hz1,z5⟩:=z2.step (isL_kind c1)
 try simp only[c1,e6,Z]
 exact Zt.tail (z5.call (op:=(.tableLoop (kids ++ [v1, v2]))) tm hnd (.inr h0))
 try simp only[if_neg hgo,Z]
 exact z.fin
theorem cases_zl1 (T : List Tk) (n : Nat) (at_ : Int) (kids1 : List Int) (hs : Toks T) (hn : n ≤ 1000000) (tm : Term T n) : ∀ Sq, Good T Sq → InK Sq (argK (.caseLoop kids1)) → ArgOk T (.caseLoop kids1) Sq → need T (.caseLoop kids1) Sq ≤ n + 1 → Zr T (.caseLoop kids1) (n + 1) Sq (run T (n + 1) (.caseLoop kids1) Sq) := by
 intro Sq hg hin ha hnd
 simp only[run,Z]
 simp only[ArgOk]at ha
 have z:Zt T Sq Sq 0 kids1:=Zt.start hg hin
 by_cases hgo:Sq.fc = 0 ∧ isL T [125] Sq = false ∧ isL T [99, 97, 115, 101] Sq = false ∧ isL T [100, 101, 102, 97, 117, 108, 116] Sq = false
 try simp only[if_pos hgo,Z]
 have h0:=z.h0 hgo.1
 obtain ⟨l2,S5,v2,h2,e5,hl2,z5⟩:=Zt.one 1 (z.call (op:=.stmt) tm hnd (.inr h0))
 try simp only[h2,e5,Z]
 exact Zt.tail (z5.call (op:=(.caseLoop (kids1 ++ [v2]))) tm hnd (.inr h0))
 try simp only[if_neg hgo,Z]
 exact z.fin
theorem enum_z (T : List Tk) (n : Nat) (at_ : Int) (hs : Toks T) (hn : n ≤ 1000000) (tm : Term T n) : ∀ S, Good T S → InK S (argK (.enum at_)) → ArgOk T (.enum at_) S → need T (.enum at_) S ≤ n + 1 → Zr T (.enum at_) (n + 1) S (run T (n + 1) (.enum at_) S) := by
 intro S hg hin ha hnd
 simp only[run,Z]
 simp only[ArgOk]at ha
 have z:Zt T S S 0 []:=Zt.start hg InK.nil
 obtain ⟨x1,S1,e1,l1,z1⟩:=z.name hs
 try simp only[e1,Z]
 obtain ⟨S2,e2,z2⟩:=z1.must [123]
 try simp only[e2,Z]
 obtain ⟨kids,S3,h1,hl1,z3⟩:=Zt.lst (z2.call (op:=(.enumLoop 0 [])) tm hnd)
 simp only[argK,loopK,Option.getD_some,List.length_cons,List.length_nil]at hl1
 try simp only[h1,Z]
 obtain ⟨S4,e3,z4⟩:=z3.must [125]
 try simp only[e3,Z]
 obtain ⟨v1,S5,e4,z5⟩:=z4.add 42 at_ x1 0 kids
 try simp only[e4,Z]
 exact z5.fin
theorem body_z (T : List Tk) (n : Nat) (hs : Toks T) (hn : n ≤ 1000000) (tm : Term T n) : ∀ S, Good T S → InK S (argK .body) → ArgOk T .body S → need T .body S ≤ n + 1 → Zr T .body (n + 1) S (run T (n + 1) .body S) := by
 intro S hg hin ha hnd
 simp only[run,Z]
 simp only[ArgOk]at ha
 have z:Zt T S S 0 []:=Zt.start hg InK.nil
 cases c1:isL T [123] S
 try simp only[c1,Z]
 obtain ⟨a,ht_a⟩:∃ x,Sh (peekL T S=x):=⟨_,⟨rfl⟩⟩
 try simp only[ht_a.out,Z]
 have hx_a:=tok_ok hs (peek_mem z.good ht_a.out)
 obtain ⟨l1,S1,v1,h1,e1,hl1,z1⟩:=Zt.one 1 (z.call (op:=.stmt) tm hnd)
 try simp only[h1,e1,Z]
 obtain ⟨v2,S2,e2,z2⟩:=z1.add 26 a.pos [] 0 [v1]
 try simp only[e2,Z]
 exact z2.fin
 try simp only[c1,Z]
 have h0:=z.k0 (isL_kind c1)
 exact Zt.tail (z.call (op:=.block) tm hnd (.inr h0))
theorem paren_z (T : List Tk) (n : Nat) (hs : Toks T) (hn : n ≤ 1000000) (tm : Term T n) : ∀ S, Good T S → InK S (argK .paren) → ArgOk T .paren S → need T .paren S ≤ n + 1 → Zr T .paren (n + 1) S (run T (n + 1) .paren S) := by
 intro S hg hin ha hnd
 simp only[run,Z]
 simp only[ArgOk]at ha
 have z:Zt T S S 0 []:=Zt.start hg InK.nil
 obtain ⟨S1,e1,z1⟩:=z.must [40]
 try simp only[e1,Z]
 obtain ⟨l1,S2,v1,h1,e2,hl1,z2⟩:=Zt.one 1 (z1.call (op:=.expr) tm hnd)
 try simp only[h1,e2,Z]
 obtain ⟨S3,e3,z3⟩:=z2.must [41]
 try simp only[e3,Z]
 subst e2
 have hl:=hl1.out
 exact z3.fin
end Go.Proofs.YtcbgpjlcfkkdlaaGreatDoor

namespace Go.Proofs.YtcbgpjlcfkkdlaaGreatDoor
open Go Go.AL Go.Proofs
theorem word_z (T : List Tk) (n : Nat) (t : Tk) (hs : Toks T) (hn : n ≤ 1000000) (tm : Term T n) : ∀ S, Good T S → InK S (argK (.word t)) → ArgOk T (.word t) S → need T (.word t) S ≤ n + 1 → Zr T (.word t) (n + 1) S (run T (n + 1) (.word t) S) := by
 intro S hg hin ha hnd
 simp only[run,Z]
 simp only[ArgOk]at ha
 have z:Zt T S S 0 []:=Zt.start hg InK.nil
 rw [if_neg ha]
 have h0:=z.k0 ha
 cases d1:decide (t.text = [105, 102])
 try simp only[ef d1,d1,Z]
 cases d2:decide (t.text = [119, 104, 105, 108, 101])
 try simp only[ef d2,d2,Z]
 cases d3:decide (t.text = [100, 111])
 try simp only[ef d3,d3,Z]
 cases d4:decide (t.text = [102, 111, 114])
 try simp only[ef d4,d4,Z]
 cases d5:decide (t.text = [102, 111, 114, 101, 97, 99, 104])
 try simp only[ef d5,d5,Z]
 cases d6:decide (t.text = [115, 119, 105, 116, 99, 104])
 try simp only[ef d6,d6,Z]
 cases d7:decide (t.text = [116, 114, 121])
 try simp only[ef d7,d7,Z]
 cases d8:decide (t.text = [108, 111, 99, 97, 108])
 try simp only[ef d8,d8,Z]
 cases d9:decide (t.text = [98, 114, 101, 97, 107])
 try simp only[ef d9,d9,Z]
 cases d10:decide (t.text = [99, 111, 110, 116, 105, 110, 117, 101])
 try simp only[ef d10,d10,Z]
 cases d11:decide (t.text = [114, 101, 116, 117, 114, 110])
 try simp only[ef d11,d11,Z]
 cases d12:decide (t.text = [121, 105, 101, 108, 100])
 try simp only[ef d12,d12,Z]
 cases d13:decide (t.text = [116, 104, 114, 111, 119])
 try simp only[ef d13,d13,Z]
 cases d14:decide (t.text = [102, 117, 110, 99, 116, 105, 111, 110])
 try simp only[ef d14,d14,Z]
 cases d15:decide (t.text = [99, 108, 97, 115, 115])
 try simp only[ef d15,d15,Z]
 cases d16:decide (t.text = [99, 111, 110, 115, 116])
 try simp only[ef d16,d16,Z]
 cases d17:decide (t.text = [101, 110, 117, 109])
 try simp only[ef d17,d17,Z]
 exact z.fin
 try simp only[et d17,d17,Z]
 obtain ⟨S1,e1,hz1,z1⟩:=z.step (ha)
 try simp only[e1,Z]
 obtain ⟨l1,S2,v1,h1,e2,hl1,z2⟩:=Zt.one 0 (z1.call (op:=(.enum t.pos)) tm hnd (.inr h0))
 try simp only[h1,e2,Z]
 subst e2
 have hl:=hl1.out
 exact z2.fin
 try simp only[et d16,d16,Z]
 obtain ⟨S3,e3,hz2,z3⟩:=z.step (ha)
 try simp only[e3,Z]
 obtain ⟨x1,S4,e4,l2,z4⟩:=z3.name hs
 try simp only[e4,Z]
 obtain ⟨S5,e5,z5⟩:=z4.must [61]
 try simp only[e5,Z]
 obtain ⟨l3,S6,v2,h2,e6,hl2,z6⟩:=Zt.one 0 (z5.call (op:=.literal) tm hnd (.inr h0))
 try simp only[h2,e6,Z]
 obtain ⟨v3,S7,e7,z7⟩:=z6.add 41 t.pos x1 0 [v2]
 try simp only[e7,Z]
 obtain ⟨S8,e8,z8⟩:=z7.fend
 try simp only[e8,Z]
 exact z8.fin
 try simp only[et d15,d15,Z]
 obtain ⟨nt,hnt,⟨lt,-⟩,hnt3,-⟩:=nextk z.good (ha)
 have hx_nt:=tok_ok hs (List.mem_of_getElem? hnt)
 try simp only[hnt3,Z]
 cases d18:decide (nt.kind = 1)
 try simp only[ef d18,d18,Z]
 exact z.fin
 try simp only[et d18,d18,Z]
 obtain ⟨l4,S9,v4,h3,e9,hl3,z9⟩:=Zt.one 1 (z.call (op:=(.named t)) tm hnd (.inr h0) (ha:=⟨(z.good.rd.step ha).1,lt⟩))
 try simp only[h3,e9,Z]
 subst e9
 have hl:=hl3.out
 exact z9.fin
 try simp only[et d14,d14,Z]
 obtain ⟨nt,hnt,⟨lt,-⟩,hnt3,-⟩:=nextk z.good (ha)
 have hx_nt:=tok_ok hs (List.mem_of_getElem? hnt)
 try simp only[hnt3,Z]
 cases d19:decide (nt.kind = 1)
 try simp only[ef d19,d19,Z]
 exact z.fin
 try simp only[et d19,d19,Z]
 obtain ⟨l5,S10,v5,h4,e10,hl4,z10⟩:=Zt.one 1 (z.call (op:=(.named t)) tm hnd (.inr h0) (ha:=⟨(z.good.rd.step ha).1,lt⟩))
 try simp only[h4,e10,Z]
 subst e10
 have hl:=hl4.out
 exact z10.fin
 try simp only[et d13,d13,Z]
 obtain ⟨S11,e11,hz3,z11⟩:=z.step (ha)
 try simp only[e11,Z]
 obtain ⟨l6,S12,v6,h5,e12,hl5,z12⟩:=Zt.one 1 (z11.call (op:=.expr) tm hnd (.inr h0))
 try simp only[h5,e12,Z]
 obtain ⟨v7,S13,e13,z13⟩:=z12.add 39 t.pos [] 0 [v6]
 try simp only[e13,Z]
 obtain ⟨S14,e14,z14⟩:=z13.fend
 try simp only[e14,Z]
 exact z14.fin
 try simp only[et d12,d12,Z]
 obtain ⟨S15,e15,hz4,z15⟩:=z.step (ha)
 try simp only[e15,Z]
 cases c1:endsL T S15
 try simp only[c1,Z]
 obtain ⟨l7,S16,v8,h6,e16,hl6,z16⟩:=Zt.one 1 (z15.call (op:=.expr) tm hnd (.inr h0))
 try simp only[h6,e16,Z]
 obtain ⟨v9,S17,e17,z17⟩:=z16.add 38 t.pos [] 0 [v8]
 try simp only[e17,Z]
 obtain ⟨S18,e18,z18⟩:=z17.fend
 try simp only[e18,Z]
 exact z18.fin
 try simp only[c1,Z]
 obtain ⟨v10,S19,e19,z19⟩:=z15.add 38 t.pos [] 0 [-1]
 try simp only[e19,Z]
 obtain ⟨S20,e20,z20⟩:=z19.fend
 try simp only[e20,Z]
 exact z20.fin
 try simp only[et d11,d11,Z]
 have x2 : decide (t.text = [121, 105, 101, 108, 100]) = false := decide_eq_false (by rw [of_decide_eq_true d11]; decide)
 try simp only[ef x2,x2,Z]
 obtain ⟨S21,e21,hz5,z21⟩:=z.step (ha)
 try simp only[e21,Z]
 cases c2:endsL T S21
 try simp only[c2,Z]
 obtain ⟨l8,S22,v11,h7,e22,hl7,z22⟩:=Zt.one 1 (z21.call (op:=.expr) tm hnd (.inr h0))
 try simp only[h7,e22,Z]
 obtain ⟨v12,S23,e23,z23⟩:=z22.add 37 t.pos [] 0 [v11]
 try simp only[e23,Z]
 obtain ⟨S24,e24,z24⟩:=z23.fend
 try simp only[e24,Z]
 exact z24.fin
 try simp only[c2,Z]
 obtain ⟨v13,S25,e25,z25⟩:=z21.add 37 t.pos [] 0 [-1]
 try simp only[e25,Z]
 obtain ⟨S26,e26,z26⟩:=z25.fend
 try simp only[e26,Z]
 exact z26.fin
 try simp only[et d10,d10,Z]
 obtain ⟨S27,e27,hz6,z27⟩:=z.step (ha)
 try simp only[e27,Z]
 obtain ⟨v14,S28,e28,z28⟩:=z27.add 36 t.pos [] 0 []
 try simp only[e28,Z]
 obtain ⟨S29,e29,z29⟩:=z28.fend
 try simp only[e29,Z]
 exact z29.fin
 try simp only[et d9,d9,Z]
 have x3 : decide (t.text = [99, 111, 110, 116, 105, 110, 117, 101]) = false := decide_eq_false (by rw [of_decide_eq_true d9]; decide)
 try simp only[ef x3,x3,Z]
 obtain ⟨S30,e30,hz7,z30⟩:=z.step (ha)
 try simp only[e30,Z]
 obtain ⟨v15,S31,e31,z31⟩:=z30.add 35 t.pos [] 0 []
 try simp only[e31,Z]
 obtain ⟨S32,e32,z32⟩:=z31.fend
 try simp only[e32,Z]
 exact z32.fin
 try simp only[et d8,d8,Z]
 obtain ⟨S33,e33,hz8,z33⟩:=z.step (ha)
 try simp only[e33,Z]
 obtain ⟨l9,S34,v16,h8,e34,hl8,z34⟩:=Zt.one 0 (z33.call (op:=(.locl t.pos)) tm hnd (.inr h0))
 try simp only[h8,e34,Z]
 subst e34
 have hl:=hl8.out
 exact z34.fin
 try simp only[et d7,d7,Z]
 obtain ⟨S35,e35,hz9,z35⟩:=z.step (ha)
 try simp only[e35,Z]
 obtain ⟨l10,S36,v17,h9,e36,hl9,z36⟩:=Zt.one 0 (z35.call (op:=(.control t)) tm hnd (.inr h0))
 try simp only[h9,e36,Z]
 subst e36
 have hl:=hl9.out
 exact z36.fin
 try simp only[et d6,d6,Z]
 obtain ⟨S37,e37,hz10,z37⟩:=z.step (ha)
 try simp only[e37,Z]
 obtain ⟨l11,S38,v18,h10,e38,hl10,z38⟩:=Zt.one 0 (z37.call (op:=(.control t)) tm hnd (.inr h0))
 try simp only[h10,e38,Z]
 subst e38
 have hl:=hl10.out
 exact z38.fin
 try simp only[et d5,d5,Z]
 obtain ⟨S39,e39,hz11,z39⟩:=z.step (ha)
 try simp only[e39,Z]
 obtain ⟨l12,S40,v19,h11,e40,hl11,z40⟩:=Zt.one 0 (z39.call (op:=(.control t)) tm hnd (.inr h0))
 try simp only[h11,e40,Z]
 subst e40
 have hl:=hl11.out
 exact z40.fin
 try simp only[et d4,d4,Z]
 obtain ⟨S41,e41,hz12,z41⟩:=z.step (ha)
 try simp only[e41,Z]
 obtain ⟨l13,S42,v20,h12,e42,hl12,z42⟩:=Zt.one 0 (z41.call (op:=(.control t)) tm hnd (.inr h0))
 try simp only[h12,e42,Z]
 subst e42
 have hl:=hl12.out
 exact z42.fin
 try simp only[et d3,d3,Z]
 obtain ⟨S43,e43,hz13,z43⟩:=z.step (ha)
 try simp only[e43,Z]
 obtain ⟨l14,S44,v21,h13,e44,hl13,z44⟩:=Zt.one 0 (z43.call (op:=(.control t)) tm hnd (.inr h0))
 try simp only[h13,e44,Z]
 subst e44
 have hl:=hl13.out
 exact z44.fin
 try simp only[et d2,d2,Z]
 obtain ⟨S45,e45,hz14,z45⟩:=z.step (ha)
 try simp only[e45,Z]
 obtain ⟨l15,S46,v22,h14,e46,hl14,z46⟩:=Zt.one 0 (z45.call (op:=(.control t)) tm hnd (.inr h0))
 try simp only[h14,e46,Z]
 subst e46
 have hl:=hl14.out
 exact z46.fin
 try simp only[et d1,d1,Z]
 obtain ⟨S47,e47,hz15,z47⟩:=z.step (ha)
 try simp only[e47,Z]
 obtain ⟨l16,S48,v23,h15,e48,hl15,z48⟩:=Zt.one 0 (z47.call (op:=(.control t)) tm hnd (.inr h0))
 try simp only[h15,e48,Z]
 subst e48
 have hl:=hl15.out
 exact z48.fin
theorem enum_zl (T : List Tk) (n : Nat) (at_ : Int) (v : Int) (kids : List Int) (hs : Toks T) (hn : n ≤ 1000000) (tm : Term T n) : ∀ Sq, Good T Sq → InK Sq (argK (.enumLoop v kids)) → ArgOk T (.enumLoop v kids) Sq → need T (.enumLoop v kids) Sq ≤ n + 1 → Zr T (.enumLoop v kids) (n + 1) Sq (run T (n + 1) (.enumLoop v kids) Sq) := by
 intro Sq hg hin ha hnd
 simp only[run,Z]
 simp only[ArgOk]at ha
 have z:Zt T Sq Sq 0 kids:=Zt.start hg hin
 by_cases hgo:Sq.fc = 0 ∧ isL T [125] Sq = false
 try simp only[if_pos hgo,Z]
 have h0:=z.h0 hgo.1
 obtain ⟨t,ht_t⟩:∃ x,Sh (peekL T Sq=x):=⟨_,⟨rfl⟩⟩
 try simp only[ht_t.out,Z]
 have hx_t:=tok_ok hs (peek_mem z.good ht_t.out)
 obtain ⟨x2,S3,e3,l2,z3⟩:=z.name hs
 try simp only[e3,Z]
 cases c1:isL T [61] S3
 try simp only[c1,Z]
 obtain ⟨v1,S4,e4,z4⟩:=z3.add 25 t.pos x2 v []
 try simp only[e4,Z]
 cases c2:isL T [44] S4
 try simp only[c2,Z]
 exact z4.fin
 obtain ⟨S5,e5,hz1,z5⟩:=z4.step (isL_kind c2)
 try simp only[c2,e5,Z]
 exact Zt.tail (z5.call (op:=(.enumLoop (IntKind.i64.wrap (v + 1)) (kids ++ [v1]))) tm hnd (.inr h0))
 obtain ⟨S6,e6,hz2,z6⟩:=z3.step (isL_kind c1)
 try simp only[c1,e6,Z]
 cases c3:isL T [45] S6
 try simp only[c3,Z]
 obtain ⟨u,ht_u⟩:∃ x,Sh (peekL T S6=x):=⟨_,⟨rfl⟩⟩
 try simp only[ht_u.out,Z]
 have hx_u:=tok_ok hs (peek_mem z6.good ht_u.out)
 cases d1:decide (u.kind = 3)
 try simp only[ef d1,d1,Z]
 have gw:=goes_wrong_step z6.good hz2.out 5 (by decide)
 have kw:=kp_wrong_step z6.good hz2.out 5 (by decide)
 obtain ⟨S7,e7,z7⟩:=z6.wrong 5
 try simp only[e7,Z]
 rw [e7]at gw kw
 obtain ⟨S8,e8⟩:∃ x,stepL S7=x:=⟨_,rfl⟩
 rw [e8]at gw kw
 have z8:=z7.go gw kw
 try simp only[e8,Z]
 obtain ⟨v2,S9,e9,z9⟩:=z8.add 25 t.pos x2 u.num []
 try simp only[e9,Z]
 cases c4:isL T [44] S9
 try simp only[c4,Z]
 exact z9.fin
 obtain ⟨S10,e10,hz3,z10⟩:=z9.step (isL_kind c4)
 try simp only[c4,e10,Z]
 exact Zt.tail (z10.call (op:=(.enumLoop (IntKind.i64.wrap (u.num + 1)) (kids ++ [v2]))) tm hnd (.inr h0))
 try simp only[et d1,d1,Z]
 obtain ⟨S11,e11,hz4,z11⟩:=z6.step (kk ht_u d1)
 try simp only[e11,Z]
 obtain ⟨v3,S12,e12,z12⟩:=z11.add 25 t.pos x2 u.num []
 try simp only[e12,Z]
 cases c5:isL T [44] S12
 try simp only[c5,Z]
 exact z12.fin
 obtain ⟨S13,e13,hz5,z13⟩:=z12.step (isL_kind c5)
 try simp only[c5,e13,Z]
 exact Zt.tail (z13.call (op:=(.enumLoop (IntKind.i64.wrap (u.num + 1)) (kids ++ [v3]))) tm hnd (.inr h0))
 obtain ⟨S14,e14,hz6,z14⟩:=z6.step (isL_kind c3)
 try simp only[c3,e14,Z]
 obtain ⟨u,ht_u⟩:∃ x,Sh (peekL T S14=x):=⟨_,⟨rfl⟩⟩
 try simp only[ht_u.out,Z]
 have hx_u:=tok_ok hs (peek_mem z14.good ht_u.out)
 cases d2:decide (u.kind = 3)
 try simp only[ef d2,d2,Z]
 have gw:=goes_wrong_step z14.good hz6.out 5 (by decide)
 have kw:=kp_wrong_step z14.good hz6.out 5 (by decide)
 obtain ⟨S15,e15,z15⟩:=z14.wrong 5
 try simp only[e15,Z]
 rw [e15]at gw kw
 obtain ⟨S16,e16⟩:∃ x,stepL S15=x:=⟨_,rfl⟩
 rw [e16]at gw kw
 have z16:=z15.go gw kw
 try simp only[e16,Z]
 obtain ⟨v4,S17,e17,z17⟩:=z16.add 25 t.pos x2 (IntKind.i64.wrap (-u.num)) []
 try simp only[e17,Z]
 cases c6:isL T [44] S17
 try simp only[c6,Z]
 exact z17.fin
 obtain ⟨S18,e18,hz7,z18⟩:=z17.step (isL_kind c6)
 try simp only[c6,e18,Z]
 exact Zt.tail (z18.call (op:=(.enumLoop (IntKind.i64.wrap ((IntKind.i64.wrap (-u.num)) + 1)) (kids ++ [v4]))) tm hnd (.inr h0))
 try simp only[et d2,d2,Z]
 obtain ⟨S19,e19,hz8,z19⟩:=z14.step (kk ht_u d2)
 try simp only[e19,Z]
 obtain ⟨v5,S20,e20,z20⟩:=z19.add 25 t.pos x2 (IntKind.i64.wrap (-u.num)) []
 try simp only[e20,Z]
 cases c7:isL T [44] S20
 try simp only[c7,Z]
 exact z20.fin
 obtain ⟨S21,e21,hz9,z21⟩:=z20.step (isL_kind c7)
 try simp only[c7,e21,Z]
 exact Zt.tail (z21.call (op:=(.enumLoop (IntKind.i64.wrap ((IntKind.i64.wrap (-u.num)) + 1)) (kids ++ [v5]))) tm hnd (.inr h0))
 try simp only[if_neg hgo,Z]
 exact z.fin
theorem control_z (T : List Tk) (n : Nat) (t : Tk) (hs : Toks T) (hn : n ≤ 1000000) (tm : Term T n) : ∀ S, Good T S → InK S (argK (.control t)) → ArgOk T (.control t) S → need T (.control t) S ≤ n + 1 → Zr T (.control t) (n + 1) S (run T (n + 1) (.control t) S) := by
 intro S hg hin ha hnd
 simp only[run,Z]
 simp only[ArgOk]at ha
 have z:Zt T S S 0 []:=Zt.start hg InK.nil
 cases d1:decide (t.text = [105, 102])
 try simp only[ef d1,d1,Z]
 cases d2:decide (t.text = [119, 104, 105, 108, 101])
 try simp only[ef d2,d2,Z]
 cases d3:decide (t.text = [100, 111])
 try simp only[ef d3,d3,Z]
 cases d4:decide (t.text = [102, 111, 114])
 try simp only[ef d4,d4,Z]
 cases d5:decide (t.text = [102, 111, 114, 101, 97, 99, 104])
 try simp only[ef d5,d5,Z]
 cases d6:decide (t.text = [115, 119, 105, 116, 99, 104])
 try simp only[ef d6,d6,Z]
 obtain ⟨l1,S1,v1,h1,e1,hl1,z1⟩:=Zt.one 0 (z.call (op:=.body) tm hnd)
 try simp only[h1,e1,Z]
 obtain ⟨S2,e2,z2⟩:=z1.must [99, 97, 116, 99, 104]
 try simp only[e2,Z]
 obtain ⟨S3,e3,z3⟩:=z2.must [40]
 try simp only[e3,Z]
 obtain ⟨x1,S4,e4,l2,z4⟩:=z3.name hs
 try simp only[e4,Z]
 obtain ⟨S5,e5,z5⟩:=z4.must [41]
 try simp only[e5,Z]
 obtain ⟨l3,S6,v2,h2,e6,hl2,z6⟩:=Zt.one 0 (z5.call (op:=.body) tm hnd)
 try simp only[h2,e6,Z]
 obtain ⟨v3,S7,e7,z7⟩:=z6.add 40 t.pos x1 0 [v1, v2]
 try simp only[e7,Z]
 exact z7.fin
 try simp only[et d6,d6,Z]
 exact Zt.tail (z.call (op:=(.cases t.pos)) tm hnd)
 try simp only[et d5,d5,Z]
 exact Zt.tail (z.call (op:=(.foreach t.pos)) tm hnd)
 try simp only[et d4,d4,Z]
 exact Zt.tail (z.call (op:=(.loop t.pos)) tm hnd)
 try simp only[et d3,d3,Z]
 obtain ⟨l4,S8,v4,h3,e8,hl3,z8⟩:=Zt.one 0 (z.call (op:=.body) tm hnd)
 try simp only[h3,e8,Z]
 obtain ⟨S9,e9,z9⟩:=z8.must [119, 104, 105, 108, 101]
 try simp only[e9,Z]
 obtain ⟨l5,S10,v5,h4,e10,hl4,z10⟩:=Zt.one 0 (z9.call (op:=.paren) tm hnd)
 try simp only[h4,e10,Z]
 obtain ⟨v6,S11,e11,z11⟩:=z10.add 31 t.pos [] 0 [v4, v5]
 try simp only[e11,Z]
 obtain ⟨S12,e12,z12⟩:=z11.fend
 try simp only[e12,Z]
 exact z12.fin
 try simp only[et d2,d2,Z]
 obtain ⟨l6,S13,v7,h5,e13,hl5,z13⟩:=Zt.one 0 (z.call (op:=.paren) tm hnd)
 try simp only[h5,e13,Z]
 obtain ⟨l7,S14,v8,h6,e14,hl6,z14⟩:=Zt.one 0 (z13.call (op:=.body) tm hnd)
 try simp only[h6,e14,Z]
 obtain ⟨v9,S15,e15,z15⟩:=z14.add 30 t.pos [] 0 [v7, v8]
 try simp only[e15,Z]
 exact z15.fin
 try simp only[et d1,d1,Z]
 obtain ⟨l8,S16,v10,h7,e16,hl7,z16⟩:=Zt.one 0 (z.call (op:=.paren) tm hnd)
 try simp only[h7,e16,Z]
 obtain ⟨l9,S17,v11,h8,e17,hl8,z17⟩:=Zt.one 0 (z16.call (op:=.body) tm hnd)
 try simp only[h8,e17,Z]
 cases c1:isL T [101, 108, 115, 101] S17
 try simp only[c1,Z]
 obtain ⟨v12,S18,e18,z18⟩:=z17.add 29 t.pos [] 0 [v10, v11, -1]
 try simp only[e18,Z]
 exact z18.fin
 have h0:=z17.k0 (isL_kind c1)
 obtain ⟨S19,e19,hz1,z19⟩:=z17.step (isL_kind c1)
 try simp only[c1,e19,Z]
 obtain ⟨u,ht_u⟩:∃ x,Sh (peekL T S19=x):=⟨_,⟨rfl⟩⟩
 try simp only[ht_u.out,Z]
 have hx_u:=tok_ok hs (peek_mem z19.good ht_u.out)
 cases c2:isL T [105, 102] S19
 try simp only[c2,Z]
 obtain ⟨l10,S20,v13,h9,e20,hl9,z20⟩:=Zt.one 0 (z19.call (op:=.body) tm hnd (.inr h0))
 try simp only[h9,e20,Z]
 obtain ⟨v14,S21,e21,z21⟩:=z20.add 29 t.pos [] 0 [v10, v11, v13]
 try simp only[e21,Z]
 exact z21.fin
 obtain ⟨S22,e22,hz2,z22⟩:=z19.step (isL_kind c2)
 try simp only[c2,e22,Z]
 obtain ⟨S23,e23,z23⟩:=z22.down
 try simp only[e23,Z]
 obtain ⟨l11,S24,v15,h10,e24,hl10,z24⟩:=Zt.one 0 (z23.call (op:=(.control u)) tm hnd (.inr h0))
 try simp only[h10,e24,Z]
 obtain ⟨S25,e25,z25⟩:=z24.up
 try simp only[e25,Z]
 obtain ⟨v16,S26,e26,z26⟩:=z25.add 29 t.pos [] 0 [v10, v11, v15]
 try simp only[e26,Z]
 exact z26.fin
theorem foreach_z (T : List Tk) (n : Nat) (at_ : Int) (hs : Toks T) (hn : n ≤ 1000000) (tm : Term T n) : ∀ S, Good T S → InK S (argK (.foreach at_)) → ArgOk T (.foreach at_) S → need T (.foreach at_) S ≤ n + 1 → Zr T (.foreach at_) (n + 1) S (run T (n + 1) (.foreach at_) S) := by
 intro S hg hin ha hnd
 simp only[run,Z]
 simp only[ArgOk]at ha
 have z:Zt T S S 0 []:=Zt.start hg InK.nil
 obtain ⟨S1,e1,z1⟩:=z.must [40]
 try simp only[e1,Z]
 obtain ⟨x1,S2,e2,l1,z2⟩:=z1.name hs
 try simp only[e2,Z]
 cases c1:isL T [44] S2
 try simp only[c1,Z]
 cases d1:decide ([]=x1)
 try simp only[ef d1,Z]
 obtain ⟨S3,e3,z3⟩:=z2.must [105, 110]
 try simp only[e3,Z]
 obtain ⟨l2,S4,v1,h1,e4,hl1,z4⟩:=Zt.one 1 (z3.call (op:=.expr) tm hnd)
 try simp only[h1,e4,Z]
 obtain ⟨S5,e5,z5⟩:=z4.must [41]
 try simp only[e5,Z]
 obtain ⟨l3,S6,v2,h2,e6,hl2,z6⟩:=Zt.one 0 (z5.call (op:=.body) tm hnd)
 try simp only[h2,e6,Z]
 obtain ⟨v3,S7,e7,z7⟩:=z6.add 33 at_ ([] ++ [9] ++ x1) 0 [v1, v2]
 try simp only[e7,Z]
 exact z7.fin
 try simp only[et d1,Z]
 obtain ⟨S8,e8,z8⟩:=z2.wrong 4
 try simp only[e8,Z]
 obtain ⟨S9,e9,z9⟩:=z8.must [105, 110]
 try simp only[e9,Z]
 obtain ⟨l4,S10,v4,h3,e10,hl3,z10⟩:=Zt.one 1 (z9.call (op:=.expr) tm hnd)
 try simp only[h3,e10,Z]
 obtain ⟨S11,e11,z11⟩:=z10.must [41]
 try simp only[e11,Z]
 obtain ⟨l5,S12,v5,h4,e12,hl4,z12⟩:=Zt.one 0 (z11.call (op:=.body) tm hnd)
 try simp only[h4,e12,Z]
 obtain ⟨v6,S13,e13,z13⟩:=z12.add 33 at_ ([] ++ [9] ++ x1) 0 [v4, v5]
 try simp only[e13,Z]
 exact z13.fin
 have h0:=z2.k0 (isL_kind c1)
 obtain ⟨S14,e14,hz1,z14⟩:=z2.step (isL_kind c1)
 try simp only[c1,e14,Z]
 obtain ⟨x2,S15,e15,l6,z15⟩:=z14.name hs
 try simp only[e15,Z]
 cases d2:decide (x1 = x2)
 try simp only[ef d2,d2,Z]
 obtain ⟨S16,e16,z16⟩:=z15.must [105, 110]
 try simp only[e16,Z]
 obtain ⟨l7,S17,v7,h5,e17,hl5,z17⟩:=Zt.one 1 (z16.call (op:=.expr) tm hnd (.inr h0))
 try simp only[h5,e17,Z]
 obtain ⟨S18,e18,z18⟩:=z17.must [41]
 try simp only[e18,Z]
 obtain ⟨l8,S19,v8,h6,e19,hl6,z19⟩:=Zt.one 0 (z18.call (op:=.body) tm hnd (.inr h0))
 try simp only[h6,e19,Z]
 obtain ⟨v9,S20,e20,z20⟩:=z19.add 33 at_ (x1 ++ [9] ++ x2) 0 [v7, v8]
 try simp only[e20,Z]
 exact z20.fin
 try simp only[et d2,d2,Z]
 obtain ⟨S21,e21,z21⟩:=z15.wrong 4
 try simp only[e21,Z]
 obtain ⟨S22,e22,z22⟩:=z21.must [105, 110]
 try simp only[e22,Z]
 obtain ⟨l9,S23,v10,h7,e23,hl7,z23⟩:=Zt.one 1 (z22.call (op:=.expr) tm hnd (.inr h0))
 try simp only[h7,e23,Z]
 obtain ⟨S24,e24,z24⟩:=z23.must [41]
 try simp only[e24,Z]
 obtain ⟨l10,S25,v11,h8,e25,hl8,z25⟩:=Zt.one 0 (z24.call (op:=.body) tm hnd (.inr h0))
 try simp only[h8,e25,Z]
 obtain ⟨v12,S26,e26,z26⟩:=z25.add 33 at_ (x1 ++ [9] ++ x2) 0 [v10, v11]
 try simp only[e26,Z]
 exact z26.fin
theorem class_zl (T : List Tk) (n : Nat) (kids : List Int) (hs : Toks T) (hn : n ≤ 1000000) (tm : Term T n) : ∀ Sq, Good T Sq → InK Sq (argK (.classLoop kids)) → ArgOk T (.classLoop kids) Sq → need T (.classLoop kids) Sq ≤ n + 1 → Zr T (.classLoop kids) (n + 1) Sq (run T (n + 1) (.classLoop kids) Sq) := by
 intro Sq hg hin ha hnd
 simp only[run,Z]
 simp only[ArgOk]at ha
 have z:Zt T Sq Sq 0 kids:=Zt.start hg hin
 by_cases hgo:Sq.fc = 0 ∧ isL T [125] Sq = false
 try simp only[if_pos hgo,Z]
 have h0:=z.h0 hgo.1
 obtain ⟨t,ht_t⟩:∃ x,Sh (peekL T Sq=x):=⟨_,⟨rfl⟩⟩
 try simp only[ht_t.out,Z]
 have hx_t:=tok_ok hs (peek_mem z.good ht_t.out)
 cases c2:isL T [99, 111, 110, 115, 116, 114, 117, 99, 116, 111, 114] Sq
 try simp only[c2,Z]
 obtain ⟨l1,S4,v1,v2,h1,e4,e5,z4⟩:=Zt.mem (z.call (op:=.member) tm hnd (.inr h0))
 try simp only[h1,e4,e5,Z]
 obtain ⟨v3,S5,e6,z5⟩:=z4.add 23 t.pos [] 0 [v1, v2]
 try simp only[e6,Z]
 cases c3:isL T [59] S5
 try simp only[c3,Z]
 exact Zt.tail (z5.call (op:=(.classLoop (kids ++ [v3]))) tm hnd (.inr h0))
 obtain ⟨S6,e7,hz1,z6⟩:=z5.step (isL_kind c3)
 try simp only[c3,e7,Z]
 exact Zt.tail (z6.call (op:=(.classLoop (kids ++ [v3]))) tm hnd (.inr h0))
 obtain ⟨S7,e8,hz2,z7⟩:=z.step (isL_kind c2)
 try simp only[c2,e8,Z]
 obtain ⟨v4,S8,e9,z8⟩:=z7.add 5 t.pos [99, 111, 110, 115, 116, 114, 117, 99, 116, 111, 114] 0 []
 try simp only[e9,Z]
 obtain ⟨l2,S9,v5,h2,e10,hl2,z9⟩:=Zt.one 0 (z8.call (op:=(.params t.pos [])) tm hnd (.inr h0))
 try simp only[h2,e10,Z]
 obtain ⟨v6,S10,e11,z10⟩:=z9.add 23 t.pos [] 0 [v4, v5]
 try simp only[e11,Z]
 cases c4:isL T [59] S10
 try simp only[c4,Z]
 exact Zt.tail (z10.call (op:=(.classLoop (kids ++ [v6]))) tm hnd (.inr h0))
 obtain ⟨S11,e12,hz3,z11⟩:=z10.step (isL_kind c4)
 try simp only[c4,e12,Z]
 exact Zt.tail (z11.call (op:=(.classLoop (kids ++ [v6]))) tm hnd (.inr h0))
 try simp only[if_neg hgo,Z]
 exact z.fin
theorem expr_z (T : List Tk) (n : Nat) (hs : Toks T) (hn : n ≤ 1000000) (tm : Term T n) : ∀ S, Good T S → InK S (argK .expr) → ArgOk T .expr S → need T .expr S ≤ n + 1 → Zr T .expr (n + 1) S (run T (n + 1) .expr S) := by
 intro S hg hin ha hnd
 simp only[run,Z]
 simp only[ArgOk]at ha
 have z:Zt T S S 0 []:=Zt.start hg InK.nil
 obtain ⟨S1,e1,z1⟩:=z.down
 try simp only[e1,Z]
 cases d1:decide (S1.fc = 0)
 try simp only[ef d1,d1,Z]
 have z2:=z1.flt (of_decide_eq_false d1)
 obtain ⟨S2,e2,z3⟩:=z2.up
 try simp only[e2,Z]
 exact z3.fin
 try simp only[et d1,d1,Z]
 have h0:=z1.h0 (of_decide_eq_true d1)
 obtain ⟨a,ht_a⟩:∃ x,Sh (peekL T S1=x):=⟨_,⟨rfl⟩⟩
 try simp only[ht_a.out,Z]
 have hx_a:=tok_ok hs (peek_mem z1.good ht_a.out)
 obtain ⟨l1,S3,v1,h1,e3,hl1,z4⟩:=Zt.one 1 (z1.call (op:=(.cond a.pos)) tm hnd (.inr h0))
 try simp only[h1,e3,Z]
 obtain ⟨t,ht_t⟩:∃ x,Sh (peekL T S3=x):=⟨_,⟨rfl⟩⟩
 try simp only[ht_t.out,Z]
 have hx_t:=tok_ok hs (peek_mem z4.good ht_t.out)
 cases d2:decide (t.kind = 5)
 try simp only[ef d2,d2,Z]
 obtain ⟨S4,e4,z5⟩:=z4.up
 try simp only[e4,Z]
 subst e3
 have hl:=hl1.out
 exact z5.fin
 try simp only[et d2,d2,Z]
 cases hta:isAssign t.text
 try simp only[hta,Z]
 obtain ⟨S5,e5,z6⟩:=z4.up
 try simp only[e5,Z]
 subst e3
 have hl:=hl1.out
 exact z6.fin
 try simp only[hta,Z]
 cases d3:isTarget (kindL S3 v1)
 try simp only[d3,Z]
 obtain ⟨S6,e6,z7⟩:=z4.wrong 30
 try simp only[e6,Z]
 obtain ⟨S7,e7,z8⟩:=z7.up
 try simp only[e7,Z]
 subst e3
 have hl:=hl1.out
 exact z8.fin
 try simp only[d3,Z]
 obtain ⟨S8,e8,hz1,z9⟩:=z4.step (kk ht_t d2)
 try simp only[e8,Z]
 obtain ⟨l2,S9,v2,h2,e9,hl2,z10⟩:=Zt.one 1 (z9.call (op:=.expr) tm hnd (.inr h0))
 try simp only[h2,e9,Z]
 obtain ⟨v3,S10,e10,z11⟩:=z10.add 12 a.pos t.text 0 [v1, v2]
 try simp only[e10,Z]
 obtain ⟨S11,e11,z12⟩:=z11.up
 try simp only[e11,Z]
 exact z12.fin
theorem cond_z (T : List Tk) (n : Nat) (at_ : Int) (hs : Toks T) (hn : n ≤ 1000000) (tm : Term T n) : ∀ S, Good T S → InK S (argK (.cond at_)) → ArgOk T (.cond at_) S → need T (.cond at_) S ≤ n + 1 → Zr T (.cond at_) (n + 1) S (run T (n + 1) (.cond at_) S) := by
 intro S hg hin ha hnd
 simp only[run,Z]
 simp only[ArgOk]at ha
 have z:Zt T S S 0 []:=Zt.start hg InK.nil
 obtain ⟨l1,S1,v1,h1,e1,hl1,z1⟩:=Zt.one 1 (z.call (op:=(.binary 0)) tm hnd)
 try simp only[h1,e1,Z]
 cases c1:isL T [63] S1
 try simp only[c1,Z]
 subst e1
 have hl:=hl1.out
 exact z1.fin
 have h0:=z1.k0 (isL_kind c1)
 obtain ⟨S2,e2,hz1,z2⟩:=z1.step (isL_kind c1)
 try simp only[c1,e2,Z]
 obtain ⟨l2,S3,v2,h2,e3,hl2,z3⟩:=Zt.one 1 (z2.call (op:=.expr) tm hnd (.inr h0))
 try simp only[h2,e3,Z]
 obtain ⟨S4,e4,z4⟩:=z3.must [58]
 try simp only[e4,Z]
 obtain ⟨S5,e5,z5⟩:=z4.down
 try simp only[e5,Z]
 obtain ⟨u,ht_u⟩:∃ x,Sh (peekL T S5=x):=⟨_,⟨rfl⟩⟩
 try simp only[ht_u.out,Z]
 have hx_u:=tok_ok hs (peek_mem z5.good ht_u.out)
 obtain ⟨l3,S6,v3,h3,e6,hl3,z6⟩:=Zt.one 1 (z5.call (op:=(.cond u.pos)) tm hnd (.inr h0))
 try simp only[h3,e6,Z]
 obtain ⟨v4,S7,e7,z7⟩:=z6.add 11 at_ [] 0 [v1, v2, v3]
 try simp only[e7,Z]
 obtain ⟨S8,e8,z8⟩:=z7.up
 try simp only[e8,Z]
 exact z8.fin
theorem function_z (T : List Tk) (n : Nat) (hs : Toks T) (hn : n ≤ 1000000) (tm : Term T n) : ∀ S, Good T S → InK S (argK .function) → ArgOk T .function S → need T .function S ≤ n + 1 → Zr T .function (n + 1) S (run T (n + 1) .function S) := by
 intro S hg hin ha hnd
 simp only[run,Z]
 simp only[ArgOk]at ha
 have z:Zt T S S 0 []:=Zt.start hg InK.nil
 obtain ⟨a,ht_a⟩:∃ x,Sh (peekL T S=x):=⟨_,⟨rfl⟩⟩
 try simp only[ht_a.out,Z]
 have hx_a:=tok_ok hs (peek_mem z.good ht_a.out)
 obtain ⟨S1,e1,z1⟩:=z.must [102, 117, 110, 99, 116, 105, 111, 110]
 try simp only[e1,Z]
 obtain ⟨u,ht_u⟩:∃ x,Sh (peekL T S1=x):=⟨_,⟨rfl⟩⟩
 try simp only[ht_u.out,Z]
 have hx_u:=tok_ok hs (peek_mem z1.good ht_u.out)
 cases d1:decide (u.kind = 1)
 try simp only[ef d1,d1,Z]
 exact Zt.tail (z1.call (op:=(.params a.pos [])) tm hnd)
 try simp only[et d1,d1,Z]
 obtain ⟨x1,S2,e2,l1,z2⟩:=z1.name hs
 try simp only[e2,Z]
 exact Zt.tail (z2.call (op:=(.params a.pos x1)) tm hnd)
theorem binary_z (T : List Tk) (n : Nat) (level : Int) (hs : Toks T) (hn : n ≤ 1000000) (tm : Term T n) : ∀ S, Good T S → InK S (argK (.binary level)) → ArgOk T (.binary level) S → need T (.binary level) S ≤ n + 1 → Zr T (.binary level) (n + 1) S (run T (n + 1) (.binary level) S) := by
 intro S hg hin ha hnd
 simp only[run,Z]
 simp only[ArgOk]at ha
 have z:Zt T S S 0 []:=Zt.start hg InK.nil
 cases d1:decide (level = 10)
 try simp only[ef d1,d1,Z]
 have hlv:=of_decide_eq_false d1
 obtain ⟨a,ht_a⟩:∃ x,Sh (peekL T S=x):=⟨_,⟨rfl⟩⟩
 try simp only[ht_a.out,Z]
 have hx_a:=tok_ok hs (peek_mem z.good ht_a.out)
 obtain ⟨l1,S1,v1,h1,e1,hl1,z1⟩:=Zt.one 1 (z.call (op:=(.binary (IntKind.i64.wrap (level + 1)))) tm hnd)
 try simp only[h1,e1,Z]
 exact Zt.tail (z1.call (op:=(.binLoop level a.pos v1)) tm hnd)
 try simp only[et d1,d1,Z]
 exact Zt.tail (z.call (op:=.unary) tm hnd)
theorem table_z (T : List Tk) (n : Nat) (hs : Toks T) (hn : n ≤ 1000000) (tm : Term T n) : ∀ S, Good T S → InK S (argK .table) → ArgOk T .table S → need T .table S ≤ n + 1 → Zr T .table (n + 1) S (run T (n + 1) .table S) := by
 intro S hg hin ha hnd
 simp only[run,Z]
 simp only[ArgOk]at ha
 have z:Zt T S S 0 []:=Zt.start hg InK.nil
 obtain ⟨a,ht_a⟩:∃ x,Sh (peekL T S=x):=⟨_,⟨rfl⟩⟩
 try simp only[ht_a.out,Z]
 have hx_a:=tok_ok hs (peek_mem z.good ht_a.out)
 obtain ⟨S1,e1,z1⟩:=z.must [123]
 try simp only[e1,Z]
 obtain ⟨kids,S2,h1,hl1,z2⟩:=Zt.lst (z1.call (op:=(.tableLoop [])) tm hnd)
 simp only[argK,loopK,Option.getD_some,List.length_cons,List.length_nil]at hl1
 try simp only[h1,Z]
 obtain ⟨S3,e2,z3⟩:=z2.must [125]
 try simp only[e2,Z]
 obtain ⟨v1,S4,e3,z4⟩:=z3.add 19 a.pos [] 0 kids
 try simp only[e3,Z]
 exact z4.fin
theorem block_zl (T : List Tk) (n : Nat) (kids : List Int) (hs : Toks T) (hn : n ≤ 1000000) (tm : Term T n) : ∀ Sq, Good T Sq → InK Sq (argK (.blockLoop kids)) → ArgOk T (.blockLoop kids) Sq → need T (.blockLoop kids) Sq ≤ n + 1 → Zr T (.blockLoop kids) (n + 1) Sq (run T (n + 1) (.blockLoop kids) Sq) := by
 intro Sq hg hin ha hnd
 simp only[run,Z]
 simp only[ArgOk]at ha
 have z:Zt T Sq Sq 0 kids:=Zt.start hg hin
 by_cases hgo:Sq.fc = 0 ∧ isL T [125] Sq = false
 try simp only[if_pos hgo,Z]
 have h0:=z.h0 hgo.1
 obtain ⟨l1,S2,v1,h1,e2,hl1,z2⟩:=Zt.one 1 (z.call (op:=.stmt) tm hnd (.inr h0))
 try simp only[h1,e2,Z]
 exact Zt.tail (z2.call (op:=(.blockLoop (kids ++ [v1]))) tm hnd (.inr h0))
 try simp only[if_neg hgo,Z]
 exact z.fin
theorem postfix_z (T : List Tk) (n : Nat) (hs : Toks T) (hn : n ≤ 1000000) (tm : Term T n) : ∀ S, Good T S → InK S (argK .postf) → ArgOk T .postf S → need T .postf S ≤ n + 1 → Zr T .postf (n + 1) S (run T (n + 1) .postf S) := by
 intro S hg hin ha hnd
 simp only[run,Z]
 simp only[ArgOk]at ha
 have z:Zt T S S 0 []:=Zt.start hg InK.nil
 obtain ⟨a,ht_a⟩:∃ x,Sh (peekL T S=x):=⟨_,⟨rfl⟩⟩
 try simp only[ht_a.out,Z]
 have hx_a:=tok_ok hs (peek_mem z.good ht_a.out)
 obtain ⟨l1,S1,v1,h1,e1,hl1,z1⟩:=Zt.one 1 (z.call (op:=.primary) tm hnd)
 try simp only[h1,e1,Z]
 exact Zt.tail (z1.call (op:=(.postLoop a.pos v1)) tm hnd)
end Go.Proofs.YtcbgpjlcfkkdlaaGreatDoor

