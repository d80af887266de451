import Derived.Test.YtcbgpjlcfkkdlaaGreatDoorSAP
import Derived.Test.YtcbgpjlcfkkdlaaGreatDoorSAH
import Derived.Test.YtcbgpjlcfkkdlaaGreatDoorSAI
import Derived.Test.YtcbgpjlcfkkdlaaGreatDoorSAJ
set_option linter.unusedSimpArgs false
set_option linter.unusedVariables false
set_option maxRecDepth 100000
set_option maxHeartbeats 16000000

namespace Go.Proofs.YtcbgpjlcfkkdlaaGreatDoor
open Go Go.AL Go.Proofs
structure Tk where
 kind : Int
 pos : Int
 text : List UInt8
 num : Int
 line : Bool
instance : Inhabited Tk := ⟨⟨6, 0, [], 0, false⟩⟩
structure St where
 idx : Nat
 nest : Int
 nodes : List Nd
 deep : List Int
 fc : Int
 fa : Int
def unaryW : List (List UInt8) := [[45], [33], [126], [116, 121, 112, 101, 111, 102], [99, 108, 111, 110, 101], [114, 101, 115, 117, 109, 101], [100, 101, 108, 101, 116, 101]]
def assignW : List (List UInt8) := [[61], [60, 45], [43, 61], [45, 61], [42, 61], [47, 61], [37, 61]]
def stepW : List (List UInt8) := [[43, 43], [45, 45]]
def levelsW : List (List (List UInt8)) := [[[124, 124]], [[38, 38]], [[124]], [[94]], [[38]], [[61, 61], [33, 61], [60, 61, 62]], [[60], [60, 61], [62], [62, 61], [105, 110], [105, 110, 115, 116, 97, 110, 99, 101, 111, 102]], [[60, 60], [62, 62], [62, 62, 62]], [[43], [45]], [[42], [47], [37]]]
def isUnary (x : List UInt8) : Bool := unaryW.contains x
def isAssign (x : List UInt8) : Bool := assignW.contains x
def isStep (x : List UInt8) : Bool := stepW.contains x
def levelW (x : List UInt8) : Int := match levelsW.findIdx? (fun l => l.contains x) with | some i => (i : Int) | none => -1
def isTarget (k : Int) : Bool := decide (k = 6) || decide (k = 8) || decide (k = 14) || decide (k = 15)
def signsW : List (List UInt8) := [[62, 62, 62], [60, 61, 62], [60, 45], [60, 60], [62, 62], [60, 61], [62, 61], [61, 61], [33, 61], [38, 38], [124, 124], [43, 43], [45, 45], [43, 61], [45, 61], [42, 61], [47, 61], [37, 61], [58, 58], [43], [45], [42], [47], [37], [61], [60], [62], [33], [126], [38], [124], [94], [63], [58], [59], [44], [46], [40], [41], [123], [125], [91], [93]]
def letterX (c : UInt8) : Bool := (decide (97 ≤ c) && decide (c ≤ 122)) || (decide (65 ≤ c) && decide (c ≤ 90)) || decide (c = 95)
def digitX (c : UInt8) : Bool := decide (48 ≤ c) && decide (c ≤ 57)
def wordX (c : UInt8) : Bool := letterX c || digitX c
section
variable (T : List Tk)
def peekL (S : St) : Tk := if S.fc = 0 then T.getD S.idx default else T.getD (T.length - 1) default
def wrongL (e : Int) (S : St) : St := if S.fc = 0 then { S with fc := e, fa := (peekL T S).pos } else S
def isL (x : List UInt8) (S : St) : Bool := (decide ((peekL T S).kind = 5) || decide ((peekL T S).kind = 2)) && decide ((peekL T S).text = x)
def stepL (S : St) : St := { S with idx := S.idx + 1 }
def eatL (x : List UInt8) (S : St) : Bool × St := if isL T x S then (true, stepL S) else (false, S)
def mustL (x : List UInt8) (S : St) : St := if isL T x S then stepL S else wrongL T 5 S
def nameR (S : St) : List UInt8 × St := if (peekL T S).kind = 1 then ((peekL T S).text, stepL S) else ([], wrongL T 5 S)
def deepOf (D : List Int) : List Int → Int → Int
 | [], d => d
 | k :: ks, d => deepOf D ks (if 0 ≤ k then max d (IntKind.i64.wrap (D.getD k.toNat 0 + 1)) else d)
def addL (kind pos : Int) (x : List UInt8) (n : Int) (kids : List Int) (S : St) : Int × St :=
 if S.fc = 0 then
  if S.nodes.length = 131072 then (-1, wrongL T 2 S)
  else
   let d := deepOf S.deep kids 0
   let S1 := { S with nodes := S.nodes ++ [⟨kind, pos, x, n, kids⟩] }
   let S2 := if d > 200 then wrongL T 6 S1 else S1
   ((S.nodes.length : Int), { S2 with deep := S2.deep ++ [d] })
 else (-1, S)
def kindL (S : St) (i : Int) : Int := if 0 ≤ i ∧ i < S.nodes.length then ((S.nodes[i.toNat]?).map Nd.kind).getD 0 else 0
def downL (S : St) : St := let S1 := { S with nest := IntKind.i64.wrap (S.nest + 1) }; if S1.nest > 60 then wrongL T 6 S1 else S1
def upL (S : St) : St := { S with nest := IntKind.i64.wrap (S.nest - 1) }
def endsL (S : St) : Bool := (peekL T S).line || decide ((peekL T S).kind = 6) || isL T [59] S || isL T [125] S || isL T [101, 108, 115, 101] S || isL T [99, 97, 116, 99, 104] S
def endL (S : St) : St := if isL T [59] S then stepL S else if endsL T S then S else wrongL T 5 S
end
inductive Op where
 | stmt | word (t : Tk) | named (t : Tk) | locl (at_ : Int) | literal | enum (at_ : Int) | enumLoop (n : Int) (kids : List Int) | block | blockLoop (kids : List Int) | body | control (t : Tk) | paren | loop (at_ : Int) | foreach (at_ : Int)
 | cases (at_ : Int) | casesLoop (other : Bool) (kids : List Int) | caseLoop (kids : List Int) | expr | cond (at_ : Int) | binary (level : Int) | binLoop (level at_ i : Int) | unary | postf | postLoop (at_ i : Int) | some (stop : List UInt8) | someLoop (stop : List UInt8) (kids : List Int)
 | primary | member | table | tableLoop (kids : List Int) | function | params (at_ : Int) (name : List UInt8) | paramsLoop (kids : List Int) | clas | classLoop (kids : List Int) | top (kids : List Int)
abbrev Res := List Int × St
def one (r : Int × St) : Option Res := some ([r.1], r.2)
def fst0 (l : List Int) : Int := l.headD 0
section
variable (T : List Tk)
def run : Nat → Op → St → Option Res
 | 0, _, _ => none
 | n + 1, op, S => match op with
  | .top kids => if S.fc = 0 ∧ ¬ (peekL T S).kind = 6 then (run n .stmt S).bind fun r => run n (.top (kids ++ [fst0 r.1])) r.2 else some (kids, S)
  | .stmt =>
   let S := downL T S
   let t := peekL T S
   let rest : St → Option Res := fun S =>
    if isL T [123] S then (run n .block S).map fun r => (r.1, upL r.2)
    else if isL T [59] S then (one (addL T 43 t.pos [] 0 [] (stepL S))).map fun r => (r.1, upL r.2)
    else (run n .expr S).bind fun r => (one (addL T 28 t.pos [] 0 [fst0 r.1] r.2)).map fun r => (r.1, upL (endL T r.2))
   if t.kind = 2 then (run n (.word t) S).bind fun r => if r.1.getD 1 0 = 1 then some ([fst0 r.1], upL r.2) else rest r.2
   else rest S
  | .word t => if (peekL T S).kind = 6 then none else
   let ok : Option Res → Option Res := fun r => r.map fun r => ([fst0 r.1, 1], r.2)
   if t.text = [105, 102] ∨ t.text = [119, 104, 105, 108, 101] ∨ t.text = [100, 111] ∨ t.text = [102, 111, 114] ∨ t.text = [102, 111, 114, 101, 97, 99, 104] ∨ t.text = [115, 119, 105, 116, 99, 104] ∨ t.text = [116, 114, 121] then ok (run n (.control t) (stepL S))
   else if t.text = [108, 111, 99, 97, 108] then ok (run n (.locl t.pos) (stepL S))
   else if t.text = [98, 114, 101, 97, 107] ∨ t.text = [99, 111, 110, 116, 105, 110, 117, 101] then
    let r := addL T (if t.text = [99, 111, 110, 116, 105, 110, 117, 101] then 36 else 35) t.pos [] 0 [] (stepL S)
    some ([r.1, 1], endL T r.2)
   else if t.text = [114, 101, 116, 117, 114, 110] ∨ t.text = [121, 105, 101, 108, 100] then
    let S1 := stepL S
    let e : Option Res := if endsL T S1 then some ([-1], S1) else run n .expr S1
    e.map fun r => let q := addL T (if t.text = [121, 105, 101, 108, 100] then 38 else 37) t.pos [] 0 [fst0 r.1] r.2; ([q.1, 1], endL T q.2)
   else if t.text = [116, 104, 114, 111, 119] then (run n .expr (stepL S)).map fun r => let q := addL T 39 t.pos [] 0 [fst0 r.1] r.2; ([q.1, 1], endL T q.2)
   else if t.text = [102, 117, 110, 99, 116, 105, 111, 110] ∨ t.text = [99, 108, 97, 115, 115] then (if (T.getD (S.idx + 1) default).kind = 1 then ok (run n (.named t) S) else some ([0, 0], S))
   else if t.text = [99, 111, 110, 115, 116] then
    let r := nameR T (stepL S)
    (run n .literal (mustL T [61] r.2)).map fun q => let z := addL T 41 t.pos r.1 0 [fst0 q.1] q.2; ([z.1, 1], endL T z.2)
   else if t.text = [101, 110, 117, 109] then ok (run n (.enum t.pos) (stepL S))
   else some ([0, 0], S)
  | .named t => if S.fc = 0 ∧ S.idx + 1 < T.length then
    let name := (T.getD (S.idx + 1) default).text
    let a := addL T 7 t.pos [] 0 [] S
    let b := addL T 15 t.pos name 0 [a.1] a.2
    (run n (if t.text = [102, 117, 110, 99, 116, 105, 111, 110] then .function else .clas) b.2).bind fun v =>
     let c := addL T 12 t.pos [60, 45] 0 [b.1, fst0 v.1] v.2
     one (addL T 28 t.pos [] 0 [c.1] c.2)
   else none
  | .locl at_ =>
   if isL T [102, 117, 110, 99, 116, 105, 111, 110] S then
    let S1 := if (T.getD (S.idx + 1) default).kind = 1 then S else wrongL T 5 (stepL S)
    let name := (T.getD (min (S1.idx + 1) (T.length - 1)) default).text
    (run n .function S1).bind fun v => one (addL T 27 at_ name 0 [fst0 v.1] v.2)
   else
    let r := nameR T S
    let e : Option Res := if isL T [61] r.2 then run n .expr (stepL r.2) else some ([-1], r.2)
    e.map fun q => let z := addL T 27 at_ r.1 0 [fst0 q.1] q.2; ([z.1], endL T z.2)
  | .literal =>
   let t := peekL T S
   if isL T [45] S then
    let S1 := stepL S
    let u := peekL T S1
    if u.kind = 3 then one (addL T 4 t.pos [] (IntKind.i64.wrap (-u.num)) [] (stepL S1)) else some ([-1], wrongL T 5 S1)
   else if t.kind = 3 then one (addL T 4 t.pos [] t.num [] (stepL S))
   else if t.kind = 4 then one (addL T 5 t.pos t.text 0 [] (stepL S))
   else if isL T [110, 117, 108, 108] S then one (addL T 1 t.pos [] 0 [] (stepL S))
   else if isL T [116, 114, 117, 101] S then one (addL T 2 t.pos [] 0 [] (stepL S))
   else if isL T [102, 97, 108, 115, 101] S then one (addL T 3 t.pos [] 0 [] (stepL S))
   else some ([-1], wrongL T 5 S)
  | .enum at_ =>
   let r := nameR T S
   (run n (.enumLoop 0 []) (mustL T [123] r.2)).bind fun q => one (addL T 42 at_ r.1 0 q.1 (mustL T [125] q.2))
  | .enumLoop v kids =>
   if S.fc = 0 ∧ isL T [125] S = false then
    let t := peekL T S
    let r := nameR T S
    let w : Int × St := if isL T [61] r.2 then
      let m := eatL T [45] (stepL r.2)
      let u := peekL T m.2
      let S2 := if u.kind = 3 then m.2 else wrongL T 5 m.2
      (if m.1 then IntKind.i64.wrap (-u.num) else u.num, stepL S2)
     else (v, r.2)
    let z := addL T 25 t.pos r.1 w.1 [] w.2
    let kids := kids ++ [z.1]
    if isL T [44] z.2 then run n (.enumLoop (IntKind.i64.wrap (w.1 + 1)) kids) (stepL z.2) else some (kids, z.2)
   else some (kids, S)
  | .block =>
   let at_ := (peekL T S).pos
   (run n (.blockLoop []) (mustL T [123] S)).bind fun r => one (addL T 26 at_ [] 0 r.1 (mustL T [125] r.2))
  | .blockLoop kids => if S.fc = 0 ∧ isL T [125] S = false then (run n .stmt S).bind fun r => run n (.blockLoop (kids ++ [fst0 r.1])) r.2 else some (kids, S)
  | .body => if isL T [123] S then run n .block S else let at_ := (peekL T S).pos; (run n .stmt S).bind fun r => one (addL T 26 at_ [] 0 [fst0 r.1] r.2)
  | .control t =>
   if t.text = [105, 102] then
    (run n .paren S).bind fun c => (run n .body c.2).bind fun b =>
     let e : Option Res := if isL T [101, 108, 115, 101] b.2 then
       let S1 := stepL b.2
       let u := peekL T S1
       if isL T [105, 102] S1 then (run n (.control u) (downL T (stepL S1))).map fun r => (r.1, upL r.2) else run n .body S1
      else some ([-1], b.2)
     e.bind fun o => one (addL T 29 t.pos [] 0 [fst0 c.1, fst0 b.1, fst0 o.1] o.2)
   else if t.text = [119, 104, 105, 108, 101] then (run n .paren S).bind fun c => (run n .body c.2).bind fun b => one (addL T 30 t.pos [] 0 [fst0 c.1, fst0 b.1] b.2)
   else if t.text = [100, 111] then (run n .body S).bind fun b => (run n .paren (mustL T [119, 104, 105, 108, 101] b.2)).map fun c => let z := addL T 31 t.pos [] 0 [fst0 b.1, fst0 c.1] c.2; ([z.1], endL T z.2)
   else if t.text = [102, 111, 114] then run n (.loop t.pos) S
   else if t.text = [102, 111, 114, 101, 97, 99, 104] then run n (.foreach t.pos) S
   else if t.text = [115, 119, 105, 116, 99, 104] then run n (.cases t.pos) S
   else (run n .body S).bind fun b =>
    let r := nameR T (mustL T [40] (mustL T [99, 97, 116, 99, 104] b.2))
    (run n .body (mustL T [41] r.2)).bind fun c => one (addL T 40 t.pos r.1 0 [fst0 b.1, fst0 c.1] c.2)
  | .paren => (run n .expr (mustL T [40] S)).map fun r => (r.1, mustL T [41] r.2)
  | .loop at_ =>
   let S0 := mustL T [40] S
   let t := peekL T S0
   let first : Option Res := if isL T [59] S0 then some ([-1], stepL S0) else
     let f : Option Res := if isL T [108, 111, 99, 97, 108] S0 then
       let r := nameR T (stepL S0)
       let e : Option Res := if isL T [61] r.2 then run n .expr (stepL r.2) else some ([-1], r.2)
       e.bind fun q => one (addL T 27 t.pos r.1 0 [fst0 q.1] q.2)
      else (run n .expr S0).bind fun r => one (addL T 28 t.pos [] 0 [fst0 r.1] r.2)
     f.map fun r => (r.1, mustL T [59] r.2)
   first.bind fun a =>
    let cond : Option Res := if isL T [59] a.2 then some ([-1], stepL a.2) else (run n .expr a.2).map fun r => (r.1, mustL T [59] r.2)
    cond.bind fun b =>
     let step : Option Res := if isL T [41] b.2 then some ([-1], b.2) else run n .expr b.2
     step.bind fun c => (run n .body (mustL T [41] c.2)).bind fun d => one (addL T 32 at_ [] 0 [fst0 a.1, fst0 b.1, fst0 c.1, fst0 d.1] d.2)
  | .foreach at_ =>
   let r := nameR T (mustL T [40] S)
   let kv : List UInt8 × List UInt8 × St := if isL T [44] r.2 then let q := nameR T (stepL r.2); (r.1, q.1, q.2) else ([], r.1, r.2)
   let S1 := if kv.1 = kv.2.1 then wrongL T 4 kv.2.2 else kv.2.2
   (run n .expr (mustL T [105, 110] S1)).bind fun e => (run n .body (mustL T [41] e.2)).bind fun b => one (addL T 33 at_ (kv.1 ++ [9] ++ kv.2.1) 0 [fst0 e.1, fst0 b.1] b.2)
  | .cases at_ => (run n .paren S).bind fun p => (run n (.casesLoop false [fst0 p.1]) (mustL T [123] p.2)).bind fun r => one (addL T 34 at_ [] 0 r.1 (mustL T [125] r.2))
  | .casesLoop other kids =>
   if S.fc = 0 ∧ isL T [125] S = false then
    let t := peekL T S
    let k : Option (Bool × Res) := if isL T [99, 97, 115, 101] S then (run n .expr (stepL S)).map fun r => (other, r)
     else if other = false ∧ isL T [100, 101, 102, 97, 117, 108, 116] S = true then some (true, [-1], stepL S) else some (other, [-1], wrongL T 5 S)
    k.bind fun k => (run n (.caseLoop [fst0 k.2.1]) (mustL T [58] k.2.2)).bind fun r =>
     let z := addL T 24 t.pos [] 0 r.1 r.2
     run n (.casesLoop k.1 (kids ++ [z.1])) z.2
   else some (kids, S)
  | .caseLoop kids => if S.fc = 0 ∧ isL T [125] S = false ∧ isL T [99, 97, 115, 101] S = false ∧ isL T [100, 101, 102, 97, 117, 108, 116] S = false then (run n .stmt S).bind fun r => run n (.caseLoop (kids ++ [fst0 r.1])) r.2 else some (kids, S)
  | .expr =>
   let S := downL T S
   if S.fc = 0 then
    let at_ := (peekL T S).pos
    (run n (.cond at_) S).bind fun r =>
     let t := peekL T r.2
     if t.kind = 5 ∧ isAssign t.text = true then
      if isTarget (kindL r.2 (fst0 r.1)) = true then (run n .expr (stepL r.2)).bind fun q => (one (addL T 12 at_ t.text 0 [fst0 r.1, fst0 q.1] q.2)).map fun r => (r.1, upL r.2)
      else some (r.1, upL (wrongL T 30 r.2))
     else some (r.1, upL r.2)
   else some ([-1], upL S)
  | .cond at_ =>
   (run n (.binary 0) S).bind fun r => if isL T [63] r.2 then
     (run n .expr (stepL r.2)).bind fun a =>
      let S1 := downL T (mustL T [58] a.2)
      (run n (.cond (peekL T S1).pos) S1).bind fun b => (one (addL T 11 at_ [] 0 [fst0 r.1, fst0 a.1, fst0 b.1] b.2)).map fun r => (r.1, upL r.2)
    else some r
  | .binary level =>
   if level = 10 then run n .unary S
   else
    let at_ := (peekL T S).pos
    (run n (.binary (IntKind.i64.wrap (level + 1))) S).bind fun r => run n (.binLoop level at_ (fst0 r.1)) r.2
  | .binLoop level at_ i =>
   if S.fc = 0 then
    let t := peekL T S
    if (t.kind = 5 ∨ t.kind = 2) ∧ levelW t.text = level then
     (run n (.binary (IntKind.i64.wrap (level + 1))) (stepL S)).bind fun r => let z := addL T 10 at_ t.text 0 [i, fst0 r.1] r.2; run n (.binLoop level at_ z.1) z.2
    else some ([i], S)
   else some ([i], S)
  | .unary =>
   let t := peekL T S
   if (t.kind = 5 ∨ t.kind = 2) ∧ (isUnary t.text = true ∨ isStep t.text = true) then
    let S1 := stepL (downL T S)
    let inner := peekL T S1
    (run n .unary S1).bind fun r =>
     if (t.text = [100, 101, 108, 101, 116, 101] ∨ isStep t.text = true) ∧ r.2.fc = 0 ∧ isTarget (kindL r.2 (fst0 r.1)) = false then some (r.1, upL { r.2 with fc := 30, fa := inner.pos })
     else (one (addL T (if isStep t.text = true then 13 else 9) t.pos t.text 0 [fst0 r.1] r.2)).map fun r => (r.1, upL r.2)
   else run n .postf S
  | .postf =>
   let at_ := (peekL T S).pos
   (run n .primary S).bind fun r => run n (.postLoop at_ (fst0 r.1)) r.2
  | .postLoop at_ i =>
   if S.fc = 0 then
    let t := peekL T S
    if isL T [46] S then let r := nameR T (stepL S); let z := addL T 15 at_ r.1 0 [i] r.2; run n (.postLoop at_ z.1) z.2
    else if isL T [91] S = true ∧ t.line = false then
     (run n .expr (stepL S)).bind fun r => let z := addL T 14 at_ [] 0 [i, fst0 r.1] (mustL T [93] r.2); run n (.postLoop at_ z.1) z.2
    else if isL T [40] S = true ∧ t.line = false then
     (run n (.some [41]) (stepL S)).bind fun r => let z := addL T 17 at_ [] 0 (i :: r.1) r.2; run n (.postLoop at_ z.1) z.2
    else if t.kind = 5 ∧ isStep t.text = true ∧ t.line = false then
     if isTarget (kindL S i) = true then one (addL T 13 at_ t.text 1 [i] (stepL S)) else some ([i], wrongL T 30 S)
    else some ([i], S)
   else some ([i], S)
  | .some stop => (run n (.someLoop stop []) S).map fun r => (r.1, mustL T stop r.2)
  | .someLoop stop kids =>
   if S.fc = 0 ∧ isL T stop S = false then
    (run n .expr S).bind fun r =>
     let kids := kids ++ [fst0 r.1]
     if isL T [44] r.2 then let S1 := stepL r.2; run n (.someLoop stop kids) (if isL T stop S1 then wrongL T 5 S1 else S1) else some (kids, r.2)
   else some (kids, S)
  | .primary =>
   let t := peekL T S
   if t.kind = 1 then one (addL T 6 t.pos t.text 0 [] (stepL S))
   else if t.kind = 3 then one (addL T 4 t.pos [] t.num [] (stepL S))
   else if t.kind = 4 then one (addL T 5 t.pos t.text 0 [] (stepL S))
   else if isL T [110, 117, 108, 108] S then one (addL T 1 t.pos [] 0 [] (stepL S))
   else if isL T [116, 114, 117, 101] S then one (addL T 2 t.pos [] 0 [] (stepL S))
   else if isL T [102, 97, 108, 115, 101] S then one (addL T 3 t.pos [] 0 [] (stepL S))
   else if isL T [116, 104, 105, 115] S then one (addL T 7 t.pos [] 0 [] (stepL S))
   else if isL T [58, 58] S then let r := nameR T (stepL S); one (addL T 8 t.pos r.1 0 [] r.2)
   else if isL T [98, 97, 115, 101] S then
    let S1 := mustL T [46] (stepL S)
    if isL T [99, 111, 110, 115, 116, 114, 117, 99, 116, 111, 114] S1 then one (addL T 16 t.pos [99, 111, 110, 115, 116, 114, 117, 99, 116, 111, 114] 0 [] (stepL S1)) else let r := nameR T S1; one (addL T 16 t.pos r.1 0 [] r.2)
   else if isL T [40] S then (run n .expr (stepL S)).map fun r => (r.1, mustL T [41] r.2)
   else if isL T [91] S then (run n (.some [93]) (stepL S)).bind fun r => one (addL T 18 t.pos [] 0 r.1 r.2)
   else if isL T [123] S then run n .table S
   else if isL T [102, 117, 110, 99, 116, 105, 111, 110] S then run n .function S
   else if isL T [99, 108, 97, 115, 115] S then run n .clas S
   else some ([-1], wrongL T 5 S)
  | .member =>
   let t := peekL T S
   if isL T [102, 117, 110, 99, 116, 105, 111, 110] S then
    let name := T.getD (S.idx + 1) default
    if name.kind = 1 then let k := addL T 5 name.pos name.text 0 [] S; (run n .function k.2).map fun v => ([k.1, fst0 v.1], v.2)
    else some ([-1, -1], wrongL T 5 (stepL S))
   else if isL T [91] S then
    (run n .expr (stepL S)).bind fun k => (run n .expr (mustL T [61] (mustL T [93] k.2))).map fun v => ([fst0 k.1, fst0 v.1], v.2)
   else
    let r := nameR T S
    let k := addL T 5 t.pos r.1 0 [] r.2
    (run n .expr (mustL T [61] k.2)).map fun v => ([k.1, fst0 v.1], v.2)
  | .table =>
   let at_ := (peekL T S).pos
   (run n (.tableLoop []) (mustL T [123] S)).bind fun r => one (addL T 19 at_ [] 0 r.1 (mustL T [125] r.2))
  | .tableLoop kids =>
   if S.fc = 0 ∧ isL T [125] S = false then
    (run n .member S).bind fun r =>
     let kids := kids ++ [fst0 r.1, r.1.getD 1 0]
     if isL T [44] r.2 then run n (.tableLoop kids) (stepL r.2) else some (kids, r.2)
   else some (kids, S)
  | .function =>
   let at_ := (peekL T S).pos
   let S1 := mustL T [102, 117, 110, 99, 116, 105, 111, 110] S
   let r := if (peekL T S1).kind = 1 then nameR T S1 else ([], S1)
   run n (.params at_ r.1) r.2
  | .params at_ name =>
   let S1 := mustL T [40] (downL T S)
   (run n (.paramsLoop []) S1).bind fun r => (run n .block (mustL T [41] r.2)).bind fun b => (one (addL T 20 at_ name r.1.length (r.1 ++ [fst0 b.1]) b.2)).map fun r => (r.1, upL r.2)
  | .paramsLoop kids =>
   if S.fc = 0 ∧ isL T [41] S = false then
    let t := peekL T S
    let r := nameR T S
    let e : Option Res := if isL T [61] r.2 then run n .expr (stepL r.2) else some ([-1], r.2)
    e.bind fun q =>
     let z := addL T 22 t.pos r.1 0 [fst0 q.1] q.2
     let kids := kids ++ [z.1]
     if isL T [44] z.2 then run n (.paramsLoop kids) (stepL z.2) else some (kids, z.2)
   else some (kids, S)
  | .clas =>
   let S0 := downL T S
   let at_ := (peekL T S0).pos
   let S1 := mustL T [99, 108, 97, 115, 115] S0
   let r := if (peekL T S1).kind = 1 then nameR T S1 else ([], S1)
   let e : Option Res := if isL T [101, 120, 116, 101, 110, 100, 115] r.2 then run n .expr (stepL r.2) else some ([-1], r.2)
   e.bind fun x => (run n (.classLoop [fst0 x.1]) (mustL T [123] x.2)).bind fun q => (one (addL T 21 at_ r.1 0 q.1 (mustL T [125] q.2))).map fun r => (r.1, upL r.2)
  | .classLoop kids =>
   if S.fc = 0 ∧ isL T [125] S = false then
    let t := peekL T S
    let kv : Option Res := if isL T [99, 111, 110, 115, 116, 114, 117, 99, 116, 111, 114] S then
      let k := addL T 5 t.pos [99, 111, 110, 115, 116, 114, 117, 99, 116, 111, 114] 0 [] (stepL S)
      (run n (.params t.pos []) k.2).map fun v => ([k.1, fst0 v.1], v.2)
     else run n .member S
    kv.bind fun kv =>
     let z := addL T 23 t.pos [] 0 [fst0 kv.1, kv.1.getD 1 0] kv.2
     run n (.classLoop (kids ++ [z.1])) (eatL T [59] z.2).2
   else some (kids, S)
end
end Go.Proofs.YtcbgpjlcfkkdlaaGreatDoor

namespace Go.Proofs.YtcbgpjlcfkkdlaaGreatDoor
open Go Go.AL Go.Proofs
abbrev tkRow (t : Tk) : List AV := [.int .i64 t.kind, .int .i64 t.pos, .str t.text, .int .i64 t.num, .bool t.line]
abbrev rdRow (T : List Tk) (tt : Tok) (S : St) (t1 t2 : Tok) : List AV := [.list 5 (T.map tkRow) tt, .int .i64 S.idx, .int .i64 S.nest, .list 5 (S.nodes.map row) t1, .list 1 (ints S.deep) t2, .int .i64 S.fc, .int .i64 S.fa]
structure Rd (T : List Tk) (S : St) : Prop where
 pos : S.fc = 0 → S.idx < T.length
 top : S.idx ≤ T.length
 len : T.length ≤ 65537
 ne : 0 < T.length
 nl : S.nodes.length ≤ 131072
 last : (T.getD (T.length - 1) default).kind = 6
theorem ok_c (T : List Tk) (tt : Tok) (S : St) (t1 t2 : Tok) (r : Nat) (h : Heap) (hr : h r = some (.cells (rdRow T tt S t1 t2))) (R : AV → Heap → Prop) (hR : R (.bool (decide (S.fc = 0))) h) :
  ACalls Tryz.prog 20 [.ptr r 0] h R := by
 refine ACalls.pure ?_ hR
 clear hR
 refine acalls_of Tryz.func20 rfl Tryz.ntmps20 (congrArg Array.toList Tryz.results20) fun Q hQ => ?_
 (focus repeat' first|refine ga ?_|(refine gb ?_;try simp[gz, *])|refine gk fun _ _=>?_|refine gc ?_ ?_|exact gr _|refine gi fun _=>?_|(refine gn ?_ ?_;focus(intros;simp[*];done)))
 all_goals first
  | exact Sub.refl _
theorem peek_c (T : List Tk) (tt : Tok) (S : St) (t1 t2 : Tok) (r : Nat) (hv : Rd T S) (h : Heap) (hr : h r = some (.cells (rdRow T tt S t1 t2))) (R : AV → Heap → Prop) (hR : R (.agg (tkRow (peekL T S))) h) :
  ACalls Tryz.prog 21 [.ptr r 0] h R := by
 refine ACalls.pure ?_ hR
 clear hR
 have h1 := hv.len
 have h2 := hv.ne
 by_cases hf : S.fc = 0
 ·have h3 := hv.pos hf
  have hp : peekL T S = T[S.idx] := by unfold peekL; rw [if_pos hf]; simp [List.getD, h3]
  have hg : T[S.idx]? = some T[S.idx] := List.getElem?_eq_getElem h3
  rw [hp]
  obtain ⟨t, ht⟩ : ∃ t, T[S.idx] = t := ⟨_, rfl⟩
  rw [ht] at hg ⊢
  clear hp
  refine acalls_of Tryz.func21 rfl Tryz.ntmps21 (congrArg Array.toList Tryz.results21) fun Q hQ => ?_
  (focus repeat' first|refine ga ?_|(refine gb ?_;try simp[gz, *])|refine gk fun _ _=>?_|refine gc ?_ ?_|exact gr _|refine gi fun _=>?_|(refine gn ?_ ?_;focus(intros;simp[*];done)))
  intro b2 hb2; simp only [Fresh, Heap.set_none] at hb2; have n_b2_r := ne_of_fresh hr (b := b2) (by simp [*]); try simp [gz, *]
  (focus repeat' first|refine ga ?_|(refine gb ?_;try simp[gz, *])|refine gk fun _ _=>?_|refine gc ?_ ?_|exact gr _|refine gi fun _=>?_|(refine gn ?_ ?_;focus(intros;simp[*];done)))
  refine ok_c T tt S t1 t2 r _ (by simp [Heap.set_get, *]) _ ?_
  simp [gz, *]
  (focus repeat' first|refine ga ?_|(refine gb ?_;try simp[gz, *])|refine gk fun _ _=>?_|refine gc ?_ ?_|exact gr _|refine gi fun _=>?_|(refine gn ?_ ?_;focus(intros;simp[*];done)))
  refine awp_region_stores [r] [0,1,2,4,5,6] [(3,true),(7,true),(8,true),(9,true)] [10] follows (by kernel_rfl) rfl (by kernel_rfl) ?_; simp [Heap.set_get, Heap.plus_set, evc_nil, evc_cons, estep, *]
  (focus repeat' first|refine ga ?_|(refine gb ?_;try simp[gz, *])|refine gk fun _ _=>?_|refine gc ?_ ?_|exact gr _|refine gi fun _=>?_|(refine gn ?_ ?_;focus(intros;simp[*];done)))
  all_goals first
   | ((repeat (first | exact Sub.refl _ | refine Sub.loc ?_ (by simp [*]) _)); done)
 ·obtain ⟨m, hm⟩ : ∃ m : Nat, T.length = m + 1 := ⟨T.length - 1, by omega⟩
  have hml : m < T.length := by omega
  have hp : peekL T S = T[m] := by unfold peekL; rw [if_neg hf, show T.length - 1 = m by omega]; simp [List.getD, hml]
  have hg : T[m]? = some T[m] := List.getElem?_eq_getElem hml
  have w1 : IntKind.i64.wrap ((T.length : Int) - 1) = m := by rw [w64 (by omega) (by omega)]; omega
  have hm0 : ¬ (m : Int) < 0 := by omega
  have hm1 : ¬ (T.length : Int) ≤ m := by omega
  rw [hp]
  obtain ⟨t, ht⟩ : ∃ t, T[m] = t := ⟨_, rfl⟩
  rw [ht] at hg ⊢
  clear hp hm
  refine acalls_of Tryz.func21 rfl Tryz.ntmps21 (congrArg Array.toList Tryz.results21) fun Q hQ => ?_
  (focus repeat' first|refine ga ?_|(refine gb ?_;try simp[gz, *])|refine gk fun _ _=>?_|refine gc ?_ ?_|exact gr _|refine gi fun _=>?_|(refine gn ?_ ?_;focus(intros;simp[*];done)))
  intro b2 hb2; simp only [Fresh, Heap.set_none] at hb2; have n_b2_r := ne_of_fresh hr (b := b2) (by simp [*]); try simp [gz, *]
  (focus repeat' first|refine ga ?_|(refine gb ?_;try simp[gz, *])|refine gk fun _ _=>?_|refine gc ?_ ?_|exact gr _|refine gi fun _=>?_|(refine gn ?_ ?_;focus(intros;simp[*];done)))
  refine ok_c T tt S t1 t2 r _ (by simp [Heap.set_get, *]) _ ?_
  simp [gz, *]
  (focus repeat' first|refine ga ?_|(refine gb ?_;try simp[gz, *])|refine gk fun _ _=>?_|refine gc ?_ ?_|exact gr _|refine gi fun _=>?_|(refine gn ?_ ?_;focus(intros;simp[*];done)))
  refine awp_region_stores [r] [0,1,2,4,5,6] [(3,true),(7,true),(8,true),(9,true),(10,true),(11,true)] [12] follows (by kernel_rfl) rfl (by kernel_rfl) ?_; simp [Heap.set_get, Heap.plus_set, evc_nil, evc_cons, estep, *]
  (focus repeat' first|refine ga ?_|(refine gb ?_;try simp[gz, *])|refine gk fun _ _=>?_|refine gc ?_ ?_|exact gr _|refine gi fun _=>?_|(refine gn ?_ ?_;focus(intros;simp[*];done)))
  all_goals first
   | ((repeat (first | exact Sub.refl _ | refine Sub.loc ?_ (by simp [*]) _)); done)
theorem is_c (x : List UInt8) (T : List Tk) (tt : Tok) (S : St) (t1 t2 : Tok) (r : Nat) (hv : Rd T S) (h : Heap) (hr : h r = some (.cells (rdRow T tt S t1 t2))) (R : AV → Heap → Prop) (hR : R (.bool (isL T x S)) h) :
  ACalls Tryz.prog 46 [.ptr r 0, .str x] h R := by
 refine ACalls.pure ?_ hR
 clear hR
 refine acalls_of Tryz.func46 rfl Tryz.ntmps46 (congrArg Array.toList Tryz.results46) fun Q hQ => ?_
 (focus repeat' first|refine ga ?_|(refine gb ?_;try simp[gz, *])|refine gk fun _ _=>?_|refine gc ?_ ?_|exact gr _|refine gi fun _=>?_|(refine gn ?_ ?_;focus(intros;simp[*];done)))
 refine peek_c T tt S t1 t2 r hv _ hr _ ?_
 obtain ⟨t, ht⟩ : ∃ t, peekL T S = t := ⟨_, rfl⟩
 have hi : isL T x S = ((decide (t.kind = 5) || decide (t.kind = 2)) && decide (t.text = x)) := by unfold isL; rw [ht]
 rw [ht]
 clear ht
 by_cases k5 : t.kind = 5
 ·simp [gz, *]
  intro b5 hb5; simp only [Fresh, Heap.set_none] at hb5; have n_b5_r := ne_of_fresh hr (b := b5) (by simp [*]); try simp [gz, *]
  (focus repeat' first|refine ga ?_|(refine gb ?_;try simp[gz, *])|refine gk fun _ _=>?_|refine gc ?_ ?_|exact gr _|refine gi fun _=>?_|(refine gn ?_ ?_;focus(intros;simp[*];done)))
  all_goals first
   | ((repeat (first | exact Sub.refl _ | refine Sub.loc ?_ (by simp [*]) _)); done)
   | exact ⟨by simp [*], by (repeat (first | exact Sub.refl _ | refine Sub.loc ?_ (by simp [*]) _))⟩
 ·by_cases k2 : t.kind = 2
  ·simp [gz, *]
   intro b5 hb5; simp only [Fresh, Heap.set_none] at hb5; have n_b5_r := ne_of_fresh hr (b := b5) (by simp [*]); try simp [gz, *]
   (focus repeat' first|refine ga ?_|(refine gb ?_;try simp[gz, *])|refine gk fun _ _=>?_|refine gc ?_ ?_|exact gr _|refine gi fun _=>?_|(refine gn ?_ ?_;focus(intros;simp[*];done)))
   all_goals first
    | ((repeat (first | exact Sub.refl _ | refine Sub.loc ?_ (by simp [*]) _)); done)
    | exact ⟨by simp [*], by (repeat (first | exact Sub.refl _ | refine Sub.loc ?_ (by simp [*]) _))⟩
  ·simp [gz, *]
   intro b5 hb5; simp only [Fresh, Heap.set_none] at hb5; have n_b5_r := ne_of_fresh hr (b := b5) (by simp [*]); try simp [gz, *]
   (focus repeat' first|refine ga ?_|(refine gb ?_;try simp[gz, *])|refine gk fun _ _=>?_|refine gc ?_ ?_|exact gr _|refine gi fun _=>?_|(refine gn ?_ ?_;focus(intros;simp[*];done)))
   all_goals first
    | ((repeat (first | exact Sub.refl _ | refine Sub.loc ?_ (by simp [*]) _)); done)
    | exact ⟨by simp [*], by (repeat (first | exact Sub.refl _ | refine Sub.loc ?_ (by simp [*]) _))⟩
end Go.Proofs.YtcbgpjlcfkkdlaaGreatDoor

namespace Go.Proofs.YtcbgpjlcfkkdlaaGreatDoor
open Go Go.AL Go.Proofs
structure Own (B h : Heap) (T : List Tk) (tt : Tok) (S : St) (r : Nat) (t1 t2 : Tok) : Prop where
 sub : AL.Sub B h
 free : B r = none
 blk : h r = some (.cells (rdRow T tt S t1 t2))
 tk1 : TokIn h t1
 tk2 : TokIn h t2
 fr1 : ∀ q k e, t1 = .own q k e → B q = none
 fr2 : ∀ q k e, t2 = .own q k e → B q = none
 ap : ∀ q k e k' e', t1 = .own q k e → t2 = .own q k' e' → False
theorem tokIn_set {h : Heap} {t : Tok} {c : Nat} {x : Blk} (ht : TokIn h t) (hc : ∀ q k e, t = .own q k e → ¬ q = c) : TokIn (h.set c x) t := by
 cases t with
 | own b k e =>
  have h1 : h b = some (.spare k e) := ht
  show (h.set c x) b = _
  rw [Heap.set_other _ _ _ _ (hc _ _ _ rfl)]; exact h1
 | no => exact ht
 | nil => trivial
 | full => trivial
theorem tok_ne {h : Heap} {t : Tok} {c : Nat} (ht : TokIn h t) (hc : ∀ k e, h c ≠ some (.spare k e)) : ∀ q k e, t = .own q k e → ¬ q = c := fun q k e e1 e2 => by
 subst e1 e2
 exact hc _ _ ht
section
variable {B h : Heap} {T : List Tk} {tt : Tok} {S : St} {r : Nat} {t1 t2 : Tok}
theorem Own.ne (ho : Own B h T tt S r t1 t2) : (∀ q k e, t1 = .own q k e → ¬ q = r) ∧ (∀ q k e, t2 = .own q k e → ¬ q = r) :=
 ⟨tok_ne ho.tk1 (fun k e => by rw [ho.blk]; intro h; cases h), tok_ne ho.tk2 (fun k e => by rw [ho.blk]; intro h; cases h)⟩
theorem Own.put (ho : Own B h T tt S r t1 t2) (S' : St) : Own B (h.set r (.cells (rdRow T tt S' t1 t2))) T tt S' r t1 t2 :=
 ⟨ho.sub.loc ho.free _, ho.free, Heap.set_same _ _ _, tokIn_set ho.tk1 ho.ne.1, tokIn_set ho.tk2 ho.ne.2, ho.fr1, ho.fr2, ho.ap⟩
theorem Own.new (ho : Own B h T tt S r t1 t2) {b : Nat} (hb : h b = none) (x : Blk) : Own (B.set b x) (h.set b x) T tt S r t1 t2 := by
 have hbr : ¬ r = b := fun e => by rw [← e, ho.blk] at hb; cases hb
 have hBb : ∀ q, B q = none → ¬ q = b → (B.set b x) q = none := fun q h1 h2 => by rw [Heap.set_other _ _ _ _ h2]; exact h1
 have n1 : ∀ q k e, t1 = .own q k e → ¬ q = b := tok_ne ho.tk1 fun k e => by rw [hb]; intro h; cases h
 have n2 : ∀ q k e, t2 = .own q k e → ¬ q = b := tok_ne ho.tk2 fun k e => by rw [hb]; intro h; cases h
 exact ⟨ho.sub.upd b x, hBb _ ho.free hbr, by rw [Heap.set_other _ _ _ _ hbr]; exact ho.blk, tokIn_set ho.tk1 n1, tokIn_set ho.tk2 n2, fun q k e q1 => hBb _ (ho.fr1 _ _ _ q1) (n1 _ _ _ q1), fun q k e q1 => hBb _ (ho.fr2 _ _ _ q1) (n2 _ _ _ q1), ho.ap⟩
theorem Own.weak {B0 : Heap} (ho : Own B h T tt S r t1 t2) (hs : AL.Sub B0 B) : Own B0 h T tt S r t1 t2 := by
 have hn : ∀ q, B q = none → B0 q = none := fun q h1 => by
  cases e : B0 q with
  | none => rfl
  | some x => rw [hs _ _ e] at h1; cases h1
 exact ⟨hs.trans ho.sub, hn _ ho.free, ho.blk, ho.tk1, ho.tk2, fun q k e q1 => hn _ (ho.fr1 _ _ _ q1), fun q k e q1 => hn _ (ho.fr2 _ _ _ q1), ho.ap⟩
theorem Own.isNone (ho : Own B h T tt S r t1 t2) {b : Nat} (hb : h b = none) : B b = none := by
 cases e : B b with
 | none => rfl
 | some x => rw [ho.sub _ _ e] at hb; cases hb
theorem Own.drop {g : Heap} {b : Nat} {x : Blk} (ho : Own (B.set b x) g T tt S r t1 t2) (hb : B b = none) : Own B g T tt S r t1 t2 := ho.weak ((Sub.refl B).loc hb x)
end
theorem eat_c (x : List UInt8) (T : List Tk) (tt : Tok) (S : St) (t1 t2 : Tok) (r : Nat) (hv : Rd T S) (B h : Heap) (ho : Own B h T tt S r t1 t2) (R : AV → Heap → Prop) (hR : ∀ g, Own B g T tt (eatL T x S).2 r t1 t2 → R (.bool (eatL T x S).1) g) :
  ACalls Tryz.prog 48 [.ptr r 0, .str x] h R := by
 have hr := ho.blk
 have h1 := hv.top
 have h2 := hv.len
 have w1 : IntKind.i64.wrap ((S.idx : Int) + 1) = (S.idx : Int) + 1 := w64 (by omega) (by omega)
 refine acalls_of Tryz.func48 rfl Tryz.ntmps48 (congrArg Array.toList Tryz.results48) fun Q hQ => ?_
 (focus repeat' first|refine ga ?_|(refine gb ?_;try simp[gz, *])|refine gk fun _ _=>?_|refine gc ?_ ?_|exact gr _|refine gi fun _=>?_|(refine gn ?_ ?_;focus(intros;simp[*];done)))
 refine is_c x T tt S t1 t2 r hv _ hr _ ?_
 cases hi : isL T x S
 ·have he : eatL T x S = (false, S) := by unfold eatL; rw [hi]; rfl
  rw [he] at hR
  simp [gz, *]
  (focus repeat' first|refine ga ?_|(refine gb ?_;try simp[gz, *])|refine gk fun _ _=>?_|refine gc ?_ ?_|exact gr _|refine gi fun _=>?_|(refine gn ?_ ?_;focus(intros;simp[*];done)))
  all_goals first
   | exact hR _ ho
 ·have he : eatL T x S = (true, stepL S) := by unfold eatL; rw [hi]; rfl
  rw [he] at hR
  replace hR := Shut.mk hR
  simp [gz, *]
  (focus repeat' first|refine ga ?_|(refine gb ?_;try simp[gz, *])|refine gk fun _ _=>?_|refine gc ?_ ?_|exact gr _|refine gi fun _=>?_|(refine gn ?_ ?_;focus(intros;simp[*];done)))
  all_goals first
   | exact hR.out _ (ho.put (stepL S))
theorem wrong_c (e : Int) (T : List Tk) (tt : Tok) (S : St) (t1 t2 : Tok) (r : Nat) (hv : Rd T S) (B h : Heap) (ho : Own B h T tt S r t1 t2) (R : AV → Heap → Prop) (hR : ∀ g, Own B g T tt (wrongL T e S) r t1 t2 → R (.tup []) g) :
  ACalls Tryz.prog 52 [.ptr r 0, .int .i64 e] h R := by
 have hr := ho.blk
 by_cases hf : S.fc = 0
 ·have he : wrongL T e S = { S with fc := e, fa := (peekL T S).pos } := by unfold wrongL; rw [if_pos hf]
  rw [he] at hR
  replace hR := Shut.mk hR
  refine acalls_of Tryz.func52 rfl Tryz.ntmps52 (congrArg Array.toList Tryz.results52) fun Q hQ => ?_
  (focus repeat' first|refine ga ?_|(refine gb ?_;try simp[gz, *])|refine gk fun _ _=>?_|refine gc ?_ ?_|exact gr _|refine gi fun _=>?_|(refine gn ?_ ?_;focus(intros;simp[*];done)))
  refine peek_c T tt S t1 t2 r hv _ hr _ ?_
  simp [gz, *]
  (focus repeat' first|refine ga ?_|(refine gb ?_;try simp[gz, *])|refine gk fun _ _=>?_|refine gc ?_ ?_|exact gr _|refine gi fun _=>?_|(refine gn ?_ ?_;focus(intros;simp[*];done)))
  all_goals first
   | exact hR.out _ (ho.put { S with fc := e, fa := (peekL T S).pos })
 ·have he : wrongL T e S = S := by unfold wrongL; rw [if_neg hf]
  rw [he] at hR
  replace hR := Shut.mk hR
  refine acalls_of Tryz.func52 rfl Tryz.ntmps52 (congrArg Array.toList Tryz.results52) fun Q hQ => ?_
  (focus repeat' first|refine ga ?_|(refine gb ?_;try simp[gz, *])|refine gk fun _ _=>?_|refine gc ?_ ?_|exact gr _|refine gi fun _=>?_|(refine gn ?_ ?_;focus(intros;simp[*];done)))
  all_goals first
   | exact hR.out _ ho
end Go.Proofs.YtcbgpjlcfkkdlaaGreatDoor

namespace Go.Proofs.YtcbgpjlcfkkdlaaGreatDoor
open Go Go.AL Go.Proofs
theorem Rd.step {T : List Tk} {S : St} (hv : Rd T S) (hk : ¬ (peekL T S).kind = 6) : S.fc = 0 ∧ Rd T (stepL S) := by
 by_cases hf : S.fc = 0
 ·have h3 := hv.pos hf
  have hn : ¬ S.idx = T.length - 1 := fun e => hk (by unfold peekL; rw [if_pos hf, e]; exact hv.last)
  refine ⟨hf, ⟨fun _ => ?_, ?_, hv.len, hv.ne, hv.nl, hv.last⟩⟩
  ·show S.idx + 1 < T.length
   omega
  ·show S.idx + 1 ≤ T.length
   omega
 ·exact absurd (by unfold peekL; rw [if_neg hf]; exact hv.last) hk
theorem isL_kind {T : List Tk} {S : St} {x : List UInt8} (h : isL T x S = true) : ¬ (peekL T S).kind = 6 := by
 intro e
 unfold isL at h
 rw [e] at h
 simp at h
theorem Rd.wrong {T : List Tk} {S : St} (hv : Rd T S) {e : Int} (he : ¬ e = 0) : Rd T (wrongL T e S) := by
 unfold wrongL
 split
 ·exact ⟨fun q => absurd q he, hv.top, hv.len, hv.ne, hv.nl, hv.last⟩
 ·exact hv
theorem Rd.eat {T : List Tk} {S : St} (hv : Rd T S) (x : List UInt8) : Rd T (eatL T x S).2 := by
 unfold eatL
 split
 ·rename_i h; exact (hv.step (isL_kind h)).2
 ·exact hv
theorem Rd.must {T : List Tk} {S : St} (hv : Rd T S) (x : List UInt8) : Rd T (mustL T x S) := by
 unfold mustL
 split
 ·rename_i h; exact (hv.step (isL_kind h)).2
 ·exact hv.wrong (by decide)
theorem Rd.nest {T : List Tk} {S : St} (hv : Rd T S) (n : Int) : Rd T { S with nest := n } := ⟨hv.pos, hv.top, hv.len, hv.ne, hv.nl, hv.last⟩
theorem Rd.down {T : List Tk} {S : St} (hv : Rd T S) : Rd T (downL T S) := by
 unfold downL
 simp only
 split
 ·exact (hv.nest _).wrong (by decide)
 ·exact hv.nest _
theorem Rd.up {T : List Tk} {S : St} (hv : Rd T S) : Rd T (upL S) := hv.nest _
theorem Rd.name {T : List Tk} {S : St} (hv : Rd T S) : Rd T (nameR T S).2 := by
 unfold nameR
 split
 ·rename_i h; exact (hv.step (by rw [h]; decide)).2
 ·exact hv.wrong (by decide)
theorem must_c (x : List UInt8) (T : List Tk) (tt : Tok) (S : St) (t1 t2 : Tok) (r : Nat) (hv : Rd T S) (B h : Heap) (ho : Own B h T tt S r t1 t2) (R : AV → Heap → Prop) (hR : ∀ g, Own B g T tt (mustL T x S) r t1 t2 → R (.tup []) g) :
  ACalls Tryz.prog 84 [.ptr r 0, .str x] h R := by
 refine acalls_of Tryz.func84 rfl Tryz.ntmps84 (congrArg Array.toList Tryz.results84) fun Q hQ => ?_
 (focus repeat' first|refine ga ?_|(refine gb ?_;try simp[gz, *])|refine gk fun _ _=>?_|refine gc ?_ ?_|exact gr _|refine gi fun _=>?_|(refine gn ?_ ?_;focus(intros;simp[*];done)))
 refine eat_c x T tt S t1 t2 r hv B _ ho _ (fun g ho2 => ?_)
 cases hi : isL T x S
 ·have he : eatL T x S = (false, S) := by unfold eatL; rw [hi]; rfl
  have hm : mustL T x S = wrongL T 5 S := by unfold mustL; rw [hi]; rfl
  rw [he] at ho2 ⊢
  rw [hm] at hR
  replace hR := Shut.mk hR
  simp [gz, *]
  (focus repeat' first|refine ga ?_|(refine gb ?_;try simp[gz, *])|refine gk fun _ _=>?_|refine gc ?_ ?_|exact gr _|refine gi fun _=>?_|(refine gn ?_ ?_;focus(intros;simp[*];done)))
  refine wrong_c 5 T tt S t1 t2 r hv B _ ho2 _ (fun g2 ho3 => ?_)
  simp [gz, *]
  (focus repeat' first|refine ga ?_|(refine gb ?_;try simp[gz, *])|refine gk fun _ _=>?_|refine gc ?_ ?_|exact gr _|refine gi fun _=>?_|(refine gn ?_ ?_;focus(intros;simp[*];done)))
  all_goals first
   | exact hR.out _ ho3
 ·have he : eatL T x S = (true, stepL S) := by unfold eatL; rw [hi]; rfl
  have hm : mustL T x S = stepL S := by unfold mustL; rw [hi]; rfl
  rw [he] at ho2 ⊢
  rw [hm] at hR
  replace hR := Shut.mk hR
  simp [gz, *]
  (focus repeat' first|refine ga ?_|(refine gb ?_;try simp[gz, *])|refine gk fun _ _=>?_|refine gc ?_ ?_|exact gr _|refine gi fun _=>?_|(refine gn ?_ ?_;focus(intros;simp[*];done)))
  all_goals first
   | exact hR.out _ ho2
theorem down_c (T : List Tk) (tt : Tok) (S : St) (t1 t2 : Tok) (r : Nat) (hv : Rd T S) (B h : Heap) (ho : Own B h T tt S r t1 t2) (R : AV → Heap → Prop) (hR : ∀ g, Own B g T tt (downL T S) r t1 t2 → R (.tup []) g) :
  ACalls Tryz.prog 43 [.ptr r 0] h R := by
 have hr := ho.blk
 obtain ⟨m, hm⟩ : ∃ m, IntKind.i64.wrap (S.nest + 1) = m := ⟨_, rfl⟩
 have ho2 := ho.put { S with nest := m }
 by_cases hd : 60 < m
 ·have he : downL T S = wrongL T 6 { S with nest := m } := by unfold downL; simp only [hm]; exact if_pos hd
  rw [he] at hR
  replace hR := Shut.mk hR
  refine acalls_of Tryz.func43 rfl Tryz.ntmps43 (congrArg Array.toList Tryz.results43) fun Q hQ => ?_
  (focus repeat' first|refine ga ?_|(refine gb ?_;try simp[gz, *])|refine gk fun _ _=>?_|refine gc ?_ ?_|exact gr _|refine gi fun _=>?_|(refine gn ?_ ?_;focus(intros;simp[*];done)))
  refine wrong_c 6 T tt { S with nest := m } t1 t2 r (hv.nest m) B _ ho2 _ (fun g2 ho3 => ?_)
  simp [gz, *]
  (focus repeat' first|refine ga ?_|(refine gb ?_;try simp[gz, *])|refine gk fun _ _=>?_|refine gc ?_ ?_|exact gr _|refine gi fun _=>?_|(refine gn ?_ ?_;focus(intros;simp[*];done)))
  all_goals first
   | exact hR.out _ ho3
 ·have he : downL T S = { S with nest := m } := by unfold downL; simp only [hm]; exact if_neg hd
  rw [he] at hR
  replace hR := Shut.mk hR
  refine acalls_of Tryz.func43 rfl Tryz.ntmps43 (congrArg Array.toList Tryz.results43) fun Q hQ => ?_
  (focus repeat' first|refine ga ?_|(refine gb ?_;try simp[gz, *])|refine gk fun _ _=>?_|refine gc ?_ ?_|exact gr _|refine gi fun _=>?_|(refine gn ?_ ?_;focus(intros;simp[*];done)))
  all_goals first
   | exact hR.out _ ho2
theorem up_c (T : List Tk) (tt : Tok) (S : St) (t1 t2 : Tok) (r : Nat) (B h : Heap) (ho : Own B h T tt S r t1 t2) (R : AV → Heap → Prop) (hR : ∀ g, Own B g T tt (upL S) r t1 t2 → R (.tup []) g) :
  ACalls Tryz.prog 44 [.ptr r 0] h R := by
 have hr := ho.blk
 have ho2 := ho.put (upL S)
 replace hR := Shut.mk hR
 refine acalls_of Tryz.func44 rfl Tryz.ntmps44 (congrArg Array.toList Tryz.results44) fun Q hQ => ?_
 (focus repeat' first|refine ga ?_|(refine gb ?_;try simp[gz, *])|refine gk fun _ _=>?_|refine gc ?_ ?_|exact gr _|refine gi fun _=>?_|(refine gn ?_ ?_;focus(intros;simp[*];done)))
 all_goals first
  | exact hR.out _ ho2
theorem up_d (T : List Tk) (tt : Tok) (S : St) (t1 t2 : Tok) (r : Nat) (B h : Heap) (ho : Own B h T tt S r t1 t2) (R : AV → Heap → Prop) (hR : ∀ g, Own B g T tt (upL S) r t1 t2 → R (.tup []) g) :
  ACallsD Tryz.prog 44 [.ptr r 0] h R := by
 have hr := ho.blk
 have ho2 := ho.put (upL S)
 replace hR := Shut.mk hR
 refine acallsD_of_awp Tryz.func44 rfl Tryz.ntmps44 (congrArg Array.toList Tryz.results44) ?_
 simp only [List.length_cons, List.length_nil, Nat.reduceAdd, Nat.reduceSub, List.replicate, List.cons_append, List.nil_append]
 (focus repeat' first|refine ga ?_|(refine gb ?_;try simp[gz, *])|refine gk fun _ _=>?_|refine gc ?_ ?_|exact gr _|refine gi fun _=>?_|(refine gn ?_ ?_;focus(intros;simp[*];done)))
 all_goals first
  | exact hR.out _ ho2
end Go.Proofs.YtcbgpjlcfkkdlaaGreatDoor

namespace Go.Proofs.YtcbgpjlcfkkdlaaGreatDoor
open Go Go.AL Go.Proofs
theorem name_c' (T : List Tk) (tt : Tok) (S : St) (t1 t2 : Tok) (r : Nat) (hv : Rd T S) (B h : Heap) (ho : Own B h T tt S r t1 t2) (R : AV → Heap → Prop) (hR : ∀ g, Own B g T tt (nameR T S).2 r t1 t2 → R (.str (nameR T S).1) g) :
  ACalls Tryz.prog 83 [.ptr r 0] h R := by
 have hr := ho.blk
 by_cases hk : (peekL T S).kind = 1
 ·have he : nameR T S = ((peekL T S).text, stepL S) := by unfold nameR; rw [if_pos hk]
  obtain ⟨hf, hv2⟩ := hv.step (by rw [hk]; decide)
  have h1 := hv2.top
  have h2 := hv.len
  have h3 : (stepL S).idx = S.idx + 1 := rfl
  have w1 : IntKind.i64.wrap ((S.idx : Int) + 1) = (S.idx : Int) + 1 := w64 (by omega) (by omega)
  rw [he] at hR
  replace hR := Shut.mk hR
  clear he
  refine acalls_of Tryz.func83 rfl Tryz.ntmps83 (congrArg Array.toList Tryz.results83) fun Q hQ => ?_
  (focus repeat' first|refine ga ?_|(refine gb ?_;try simp[gz, *])|refine gk fun _ _=>?_|refine gc ?_ ?_|exact gr _|refine gi fun _=>?_|(refine gn ?_ ?_;focus(intros;simp[*];done)))
  refine peek_c T tt S t1 t2 r hv _ hr _ ?_
  obtain ⟨t, ht⟩ : ∃ t, peekL T S = t := ⟨_, rfl⟩
  rw [ht] at hk hR ⊢
  clear ht
  clear hf
  simp [gz, *]
  intro b4 hb4; simp only [Fresh, Heap.set_none] at hb4; have n_b4_r := ne_of_fresh hr (b := b4) (by simp [*]); try simp [gz, *]
  have m4 : ¬ b4 = r := fun e => n_b4_r e.symm
  have hx := (ho.new hb4 (.cells (tkRow t))).put (stepL S)
  have hb4' := ho.isNone hb4
  (focus repeat' first|refine ga ?_|(refine gb ?_;try simp[gz, *])|refine gk fun _ _=>?_|refine gc ?_ ?_|exact gr _|refine gi fun _=>?_|(refine gn ?_ ?_;focus(intros;simp[*];done)))
  all_goals first
   | exact hR.out _ (hx.drop hb4')
 ·have he : nameR T S = ([], wrongL T 5 S) := by unfold nameR; rw [if_neg hk]
  rw [he] at hR
  replace hR := Shut.mk hR
  clear he
  refine acalls_of Tryz.func83 rfl Tryz.ntmps83 (congrArg Array.toList Tryz.results83) fun Q hQ => ?_
  (focus repeat' first|refine ga ?_|(refine gb ?_;try simp[gz, *])|refine gk fun _ _=>?_|refine gc ?_ ?_|exact gr _|refine gi fun _=>?_|(refine gn ?_ ?_;focus(intros;simp[*];done)))
  refine peek_c T tt S t1 t2 r hv _ hr _ ?_
  obtain ⟨t, ht⟩ : ∃ t, peekL T S = t := ⟨_, rfl⟩
  rw [ht] at hk ⊢
  clear ht
  simp [gz, *]
  intro b4 hb4; simp only [Fresh, Heap.set_none] at hb4; have n_b4_r := ne_of_fresh hr (b := b4) (by simp [*]); try simp [gz, *]
  have hx := ho.new hb4 (.cells (tkRow t))
  have hb4' := ho.isNone hb4
  (focus repeat' first|refine ga ?_|(refine gb ?_;try simp[gz, *])|refine gk fun _ _=>?_|refine gc ?_ ?_|exact gr _|refine gi fun _=>?_|(refine gn ?_ ?_;focus(intros;simp[*];done)))
  refine wrong_c 5 T tt S t1 t2 r hv _ _ hx _ (fun g2 ho3 => ?_)
  have hx3 := ho3.drop hb4'
  have g4 : g2 b4 = some (.cells (tkRow t)) := ho3.sub _ _ (Heap.set_same _ _ _)
  simp [gz, *]
  (focus repeat' first|refine ga ?_|(refine gb ?_;try simp[gz, *])|refine gk fun _ _=>?_|refine gc ?_ ?_|exact gr _|refine gi fun _=>?_|(refine gn ?_ ?_;focus(intros;simp[*];done)))
  all_goals first
   | exact hR.out _ hx3
theorem ends_c (T : List Tk) (tt : Tok) (S : St) (t1 t2 : Tok) (r : Nat) (hv : Rd T S) (h : Heap) (hr : h r = some (.cells (rdRow T tt S t1 t2))) (R : AV → Heap → Prop) (hR : R (.bool (endsL T S)) h) :
  ACalls Tryz.prog 81 [.ptr r 0] h R := by
 refine ACalls.pure ?_ hR
 clear hR
 obtain ⟨t, ht⟩ : ∃ t, peekL T S = t := ⟨_, rfl⟩
 have he : endsL T S = (t.line || decide (t.kind = 6) || isL T [59] S || isL T [125] S || isL T [101, 108, 115, 101] S || isL T [99, 97, 116, 99, 104] S) := by unfold endsL; rw [ht]
 refine acalls_of Tryz.func81 rfl Tryz.ntmps81 (congrArg Array.toList Tryz.results81) fun Q hQ => ?_
 (focus repeat' first|refine ga ?_|(refine gb ?_;try simp[gz, *])|refine gk fun _ _=>?_|refine gc ?_ ?_|exact gr _|refine gi fun _=>?_|(refine gn ?_ ?_;focus(intros;simp[*];done)))
 refine peek_c T tt S t1 t2 r hv _ hr _ ?_
 rw [ht]
 clear ht
 cases hl : t.line
 ·by_cases k6 : t.kind = 6
  ·simp [gz, *]
   intro b3 hb3; simp only [Fresh, Heap.set_none] at hb3; have n_b3_r := ne_of_fresh hr (b := b3) (by simp [*]); try simp [gz, *]
   (focus repeat' first|refine ga ?_|(refine gb ?_;try simp[gz, *])|refine gk fun _ _=>?_|refine gc ?_ ?_|exact gr _|refine gi fun _=>?_|(refine gn ?_ ?_;focus(intros;simp[*];done)))
   all_goals first
    | ((repeat (first | exact Sub.refl _ | refine Sub.loc ?_ (by simp [*]) _)); done)
    | exact ⟨by simp [*], by (repeat (first | exact Sub.refl _ | refine Sub.loc ?_ (by simp [*]) _))⟩
  ·simp [gz, *]
   intro b3 hb3; simp only [Fresh, Heap.set_none] at hb3; have n_b3_r := ne_of_fresh hr (b := b3) (by simp [*]); try simp [gz, *]
   (focus repeat' first|refine ga ?_|(refine gb ?_;try simp[gz, *])|refine gk fun _ _=>?_|refine gc ?_ ?_|exact gr _|refine gi fun _=>?_|(refine gn ?_ ?_;focus(intros;simp[*];done)))
   refine is_c [59] T tt S t1 t2 r hv _ (by simp [Heap.set_get, *]) _ ?_
   cases i1 : isL T [59] S
   ·simp [gz, *]
    (focus repeat' first|refine ga ?_|(refine gb ?_;try simp[gz, *])|refine gk fun _ _=>?_|refine gc ?_ ?_|exact gr _|refine gi fun _=>?_|(refine gn ?_ ?_;focus(intros;simp[*];done)))
    refine is_c [125] T tt S t1 t2 r hv _ (by simp [Heap.set_get, *]) _ ?_
    cases i2 : isL T [125] S
    ·simp [gz, *]
     (focus repeat' first|refine ga ?_|(refine gb ?_;try simp[gz, *])|refine gk fun _ _=>?_|refine gc ?_ ?_|exact gr _|refine gi fun _=>?_|(refine gn ?_ ?_;focus(intros;simp[*];done)))
     refine is_c [101, 108, 115, 101] T tt S t1 t2 r hv _ (by simp [Heap.set_get, *]) _ ?_
     cases i3 : isL T [101, 108, 115, 101] S
     ·simp [gz, *]
      (focus repeat' first|refine ga ?_|(refine gb ?_;try simp[gz, *])|refine gk fun _ _=>?_|refine gc ?_ ?_|exact gr _|refine gi fun _=>?_|(refine gn ?_ ?_;focus(intros;simp[*];done)))
      refine is_c [99, 97, 116, 99, 104] T tt S t1 t2 r hv _ (by simp [Heap.set_get, *]) _ ?_
      simp [gz, *]
      (focus repeat' first|refine ga ?_|(refine gb ?_;try simp[gz, *])|refine gk fun _ _=>?_|refine gc ?_ ?_|exact gr _|refine gi fun _=>?_|(refine gn ?_ ?_;focus(intros;simp[*];done)))
      all_goals first
       | ((repeat (first | exact Sub.refl _ | refine Sub.loc ?_ (by simp [*]) _)); done)
       | exact ⟨by simp [*], by (repeat (first | exact Sub.refl _ | refine Sub.loc ?_ (by simp [*]) _))⟩
     ·simp [gz, *]
      (focus repeat' first|refine ga ?_|(refine gb ?_;try simp[gz, *])|refine gk fun _ _=>?_|refine gc ?_ ?_|exact gr _|refine gi fun _=>?_|(refine gn ?_ ?_;focus(intros;simp[*];done)))
      all_goals first
       | ((repeat (first | exact Sub.refl _ | refine Sub.loc ?_ (by simp [*]) _)); done)
       | exact ⟨by simp [*], by (repeat (first | exact Sub.refl _ | refine Sub.loc ?_ (by simp [*]) _))⟩
    ·simp [gz, *]
     (focus repeat' first|refine ga ?_|(refine gb ?_;try simp[gz, *])|refine gk fun _ _=>?_|refine gc ?_ ?_|exact gr _|refine gi fun _=>?_|(refine gn ?_ ?_;focus(intros;simp[*];done)))
     all_goals first
      | ((repeat (first | exact Sub.refl _ | refine Sub.loc ?_ (by simp [*]) _)); done)
      | exact ⟨by simp [*], by (repeat (first | exact Sub.refl _ | refine Sub.loc ?_ (by simp [*]) _))⟩
   ·simp [gz, *]
    (focus repeat' first|refine ga ?_|(refine gb ?_;try simp[gz, *])|refine gk fun _ _=>?_|refine gc ?_ ?_|exact gr _|refine gi fun _=>?_|(refine gn ?_ ?_;focus(intros;simp[*];done)))
    all_goals first
     | ((repeat (first | exact Sub.refl _ | refine Sub.loc ?_ (by simp [*]) _)); done)
     | exact ⟨by simp [*], by (repeat (first | exact Sub.refl _ | refine Sub.loc ?_ (by simp [*]) _))⟩
 ·simp [gz, *]
  intro b3 hb3; simp only [Fresh, Heap.set_none] at hb3; have n_b3_r := ne_of_fresh hr (b := b3) (by simp [*]); try simp [gz, *]
  (focus repeat' first|refine ga ?_|(refine gb ?_;try simp[gz, *])|refine gk fun _ _=>?_|refine gc ?_ ?_|exact gr _|refine gi fun _=>?_|(refine gn ?_ ?_;focus(intros;simp[*];done)))
  all_goals first
   | ((repeat (first | exact Sub.refl _ | refine Sub.loc ?_ (by simp [*]) _)); done)
   | exact ⟨by simp [*], by (repeat (first | exact Sub.refl _ | refine Sub.loc ?_ (by simp [*]) _))⟩
theorem end_c (T : List Tk) (tt : Tok) (S : St) (t1 t2 : Tok) (r : Nat) (hv : Rd T S) (B h : Heap) (ho : Own B h T tt S r t1 t2) (R : AV → Heap → Prop) (hR : ∀ g, Own B g T tt (endL T S) r t1 t2 → R (.tup []) g) :
  ACalls Tryz.prog 50 [.ptr r 0] h R := by
 refine acalls_of Tryz.func50 rfl Tryz.ntmps50 (congrArg Array.toList Tryz.results50) fun Q hQ => ?_
 (focus repeat' first|refine ga ?_|(refine gb ?_;try simp[gz, *])|refine gk fun _ _=>?_|refine gc ?_ ?_|exact gr _|refine gi fun _=>?_|(refine gn ?_ ?_;focus(intros;simp[*];done)))
 refine eat_c [59] T tt S t1 t2 r hv B _ ho _ (fun g ho2 => ?_)
 cases hi : isL T [59] S
 ·have he : eatL T [59] S = (false, S) := by unfold eatL; rw [hi]; rfl
  rw [he] at ho2 ⊢
  simp only at ho2
  simp [gz, *]
  (focus repeat' first|refine ga ?_|(refine gb ?_;try simp[gz, *])|refine gk fun _ _=>?_|refine gc ?_ ?_|exact gr _|refine gi fun _=>?_|(refine gn ?_ ?_;focus(intros;simp[*];done)))
  refine ends_c T tt S t1 t2 r hv _ ho2.blk _ ?_
  cases hen : endsL T S
  ·have hm : endL T S = wrongL T 5 S := by unfold endL; rw [hi, hen]; rfl
   rw [hm] at hR
   replace hR := Shut.mk hR
   simp [gz, *]
   (focus repeat' first|refine ga ?_|(refine gb ?_;try simp[gz, *])|refine gk fun _ _=>?_|refine gc ?_ ?_|exact gr _|refine gi fun _=>?_|(refine gn ?_ ?_;focus(intros;simp[*];done)))
   refine wrong_c 5 T tt S t1 t2 r hv B _ ho2 _ (fun g2 ho3 => ?_)
   simp [gz, *]
   (focus repeat' first|refine ga ?_|(refine gb ?_;try simp[gz, *])|refine gk fun _ _=>?_|refine gc ?_ ?_|exact gr _|refine gi fun _=>?_|(refine gn ?_ ?_;focus(intros;simp[*];done)))
   all_goals first
    | exact hR.out _ ho3
  ·have hm : endL T S = S := by unfold endL; rw [hi, hen]; rfl
   rw [hm] at hR
   replace hR := Shut.mk hR
   simp [gz, *]
   (focus repeat' first|refine ga ?_|(refine gb ?_;try simp[gz, *])|refine gk fun _ _=>?_|refine gc ?_ ?_|exact gr _|refine gi fun _=>?_|(refine gn ?_ ?_;focus(intros;simp[*];done)))
   all_goals first
    | exact hR.out _ ho2
 ·have he : eatL T [59] S = (true, stepL S) := by unfold eatL; rw [hi]; rfl
  have hm : endL T S = stepL S := by unfold endL; rw [hi]; rfl
  rw [he] at ho2 ⊢
  rw [hm] at hR
  replace hR := Shut.mk hR
  simp [gz, *]
  (focus repeat' first|refine ga ?_|(refine gb ?_;try simp[gz, *])|refine gk fun _ _=>?_|refine gc ?_ ?_|exact gr _|refine gi fun _=>?_|(refine gn ?_ ?_;focus(intros;simp[*];done)))
  all_goals first
   | exact hR.out _ ho2
end Go.Proofs.YtcbgpjlcfkkdlaaGreatDoor

namespace Go.Proofs.YtcbgpjlcfkkdlaaGreatDoor
open Go Go.AL Go.Proofs
def nodeOf (S : St) (i : Int) : AV := if 0 ≤ i ∧ i < S.nodes.length then .tup [.agg (row ((S.nodes[i.toNat]?).getD ⟨0, 0, [], 0, []⟩)), .int .i64 0] else .tup [.agg [.int .i64 0, .int .i64 0, .str [], .int .i64 0, .list 1 [] .nil], .int .i64 1]
theorem bnode_c (T : List Tk) (tt : Tok) (S : St) (t1 t2 : Tok) (r : Nat) (i : Int) (hv : Rd T S) (h : Heap) (hr : h r = some (.cells (rdRow T tt S t1 t2))) (R : AV → Heap → Prop) (hR : R (nodeOf S i) h) :
  ACalls Tryz.prog 125 [.ptr r 3, .int .i64 i] h R := by
 refine ACalls.pure ?_ hR
 clear hR
 have hl := hv.nl
 by_cases h1 : 0 ≤ i ∧ i < S.nodes.length
 ·have he : nodeOf S i = .tup [.agg (row ((S.nodes[i.toNat]?).getD ⟨0, 0, [], 0, []⟩)), .int .i64 0] := by unfold nodeOf; rw [if_pos h1]
  rw [he]
  obtain ⟨m, rfl⟩ := Int.eq_ofNat_of_zero_le h1.1
  have hm : m < S.nodes.length := by omega
  have hm0 : ¬ ((m : Int) < 0) := by omega
  have hm1 : ¬ ((S.nodes.length : Int) ≤ m) := by omega
  have hg : S.nodes[m]? = some S.nodes[m] := List.getElem?_eq_getElem hm
  obtain ⟨n, hn⟩ : ∃ n, S.nodes[m] = n := ⟨_, rfl⟩
  rw [hn] at hg
  have e2 : (S.nodes[(m : Int).toNat]?).getD ⟨0, 0, [], 0, []⟩ = n := by simp [hg]
  rw [e2]
  clear he h1 e2
  refine acalls_of Tryz.func125 rfl Tryz.ntmps125 (congrArg Array.toList Tryz.results125) fun Q hQ => ?_
  (focus repeat' first|refine ga ?_|(refine gb ?_;try simp[gz, *])|refine gk fun _ _=>?_|refine gc ?_ ?_|exact gr _|refine gi fun _=>?_|(refine gn ?_ ?_;focus(intros;simp[*];done)))
  intro b4 hb4; simp only [Fresh, Heap.set_none] at hb4; have n_b4_r := ne_of_fresh hr (b := b4) (by simp [*]); try simp [gz, *]
  (focus repeat' first|refine ga ?_|(refine gb ?_;try simp[gz, *])|refine gk fun _ _=>?_|refine gc ?_ ?_|exact gr _|refine gi fun _=>?_|(refine gn ?_ ?_;focus(intros;simp[*];done)))
  all_goals first
   | (refine ⟨_, ⟨?_, _, rfl, _, rfl, rfl⟩, ?_, ?_⟩ <;> first | (simp [aresult, Heap.set_get, *]; done) | ((repeat (first | exact Sub.refl _ | refine Sub.loc ?_ (by simp [*]) _)); done))
   | ((repeat (first | exact Sub.refl _ | refine Sub.loc ?_ (by simp [*]) _)); done)
 ·have he : nodeOf S i = .tup [.agg [.int .i64 0, .int .i64 0, .str [], .int .i64 0, .list 1 [] .nil], .int .i64 1] := by unfold nodeOf; rw [if_neg h1]
  rw [he]
  by_cases h2 : i < 0
  ·refine acalls_of Tryz.func125 rfl Tryz.ntmps125 (congrArg Array.toList Tryz.results125) fun Q hQ => ?_
   (focus repeat' first|refine ga ?_|(refine gb ?_;try simp[gz, *])|refine gk fun _ _=>?_|refine gc ?_ ?_|exact gr _|refine gi fun _=>?_|(refine gn ?_ ?_;focus(intros;simp[*];done)))
   intro b4 hb4; simp only [Fresh, Heap.set_none] at hb4; have n_b4_r := ne_of_fresh hr (b := b4) (by simp [*]); try simp [gz, *]
   (focus repeat' first|refine ga ?_|(refine gb ?_;try simp[gz, *])|refine gk fun _ _=>?_|refine gc ?_ ?_|exact gr _|refine gi fun _=>?_|(refine gn ?_ ?_;focus(intros;simp[*];done)))
   all_goals first
    | (refine ⟨_, ⟨?_, _, rfl, _, rfl, rfl⟩, ?_, ?_⟩ <;> first | (simp [aresult, Heap.set_get, *]; done) | ((repeat (first | exact Sub.refl _ | refine Sub.loc ?_ (by simp [*]) _)); done))
    | ((repeat (first | exact Sub.refl _ | refine Sub.loc ?_ (by simp [*]) _)); done)
  ·have h3 : (S.nodes.length : Int) ≤ i := by omega
   refine acalls_of Tryz.func125 rfl Tryz.ntmps125 (congrArg Array.toList Tryz.results125) fun Q hQ => ?_
   (focus repeat' first|refine ga ?_|(refine gb ?_;try simp[gz, *])|refine gk fun _ _=>?_|refine gc ?_ ?_|exact gr _|refine gi fun _=>?_|(refine gn ?_ ?_;focus(intros;simp[*];done)))
   intro b4 hb4; simp only [Fresh, Heap.set_none] at hb4; have n_b4_r := ne_of_fresh hr (b := b4) (by simp [*]); try simp [gz, *]
   (focus repeat' first|refine ga ?_|(refine gb ?_;try simp[gz, *])|refine gk fun _ _=>?_|refine gc ?_ ?_|exact gr _|refine gi fun _=>?_|(refine gn ?_ ?_;focus(intros;simp[*];done)))
   all_goals first
    | (refine ⟨_, ⟨?_, _, rfl, _, rfl, rfl⟩, ?_, ?_⟩ <;> first | (simp [aresult, Heap.set_get, *]; done) | ((repeat (first | exact Sub.refl _ | refine Sub.loc ?_ (by simp [*]) _)); done))
    | ((repeat (first | exact Sub.refl _ | refine Sub.loc ?_ (by simp [*]) _)); done)
theorem kind_c (T : List Tk) (tt : Tok) (S : St) (t1 t2 : Tok) (r : Nat) (i : Int) (hv : Rd T S) (h : Heap) (hr : h r = some (.cells (rdRow T tt S t1 t2))) (R : AV → Heap → Prop) (hR : R (.int .i64 (kindL S i)) h) :
  ACalls Tryz.prog 89 [.ptr r 0, .int .i64 i] h R := by
 refine ACalls.pure ?_ hR
 clear hR
 refine acalls_of Tryz.func89 rfl Tryz.ntmps89 (congrArg Array.toList Tryz.results89) fun Q hQ => ?_
 (focus repeat' first|refine ga ?_|(refine gb ?_;try simp[gz, *])|refine gk fun _ _=>?_|refine gc ?_ ?_|exact gr _|refine gi fun _=>?_|(refine gn ?_ ?_;focus(intros;simp[*];done)))
 refine bnode_c T tt S t1 t2 r i hv _ hr _ ?_
 by_cases h1 : 0 ≤ i ∧ i < S.nodes.length
 ·have he : nodeOf S i = .tup [.agg (row ((S.nodes[i.toNat]?).getD ⟨0, 0, [], 0, []⟩)), .int .i64 0] := by unfold nodeOf; rw [if_pos h1]
  obtain ⟨n, hn⟩ : ∃ n, S.nodes[i.toNat]? = some n := ⟨_, List.getElem?_eq_getElem (by omega)⟩
  have hk : kindL S i = n.kind := by unfold kindL; rw [if_pos h1, hn]; rfl
  rw [he, hn]
  clear he hn h1
  simp [gz, *]
  intro b5 hb5; simp only [Fresh, Heap.set_none] at hb5; have n_b5_r := ne_of_fresh hr (b := b5) (by simp [*]); try simp [gz, *]
  (focus repeat' first|refine ga ?_|(refine gb ?_;try simp[gz, *])|refine gk fun _ _=>?_|refine gc ?_ ?_|exact gr _|refine gi fun _=>?_|(refine gn ?_ ?_;focus(intros;simp[*];done)))
  all_goals first
   | ((repeat (first | exact Sub.refl _ | refine Sub.loc ?_ (by simp [*]) _)); done)
 ·have he : nodeOf S i = .tup [.agg [.int .i64 0, .int .i64 0, .str [], .int .i64 0, .list 1 [] .nil], .int .i64 1] := by unfold nodeOf; rw [if_neg h1]
  have hk : kindL S i = 0 := by unfold kindL; rw [if_neg h1]
  rw [he]
  clear he h1
  simp [gz, *]
  intro b5 hb5; simp only [Fresh, Heap.set_none] at hb5; have n_b5_r := ne_of_fresh hr (b := b5) (by simp [*]); try simp [gz, *]
  (focus repeat' first|refine ga ?_|(refine gb ?_;try simp[gz, *])|refine gk fun _ _=>?_|refine gc ?_ ?_|exact gr _|refine gi fun _=>?_|(refine gn ?_ ?_;focus(intros;simp[*];done)))
  all_goals first
   | ((repeat (first | exact Sub.refl _ | refine Sub.loc ?_ (by simp [*]) _)); done)
end Go.Proofs.YtcbgpjlcfkkdlaaGreatDoor

