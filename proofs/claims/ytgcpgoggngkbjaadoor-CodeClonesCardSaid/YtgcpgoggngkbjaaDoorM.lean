import Derived.Test.YtgcpgoggngkbjaaDoorAL10
set_option linter.unusedSimpArgs false
set_option linter.unusedVariables false
namespace Go.Proofs.YtgcpgoggngkbjaaDoor
open Go Go.AL Go.Proofs
structure Stp where
  op : Int
  a : Int
  b : Int
  c : Int
structure Vl where
  kind : Int
  num : Int
  text : List UInt8
structure Cap where
  loc : Bool
  index : Int
structure Tr where
  frm : Int
  to : Int
  target : Int
  reg : Int
structure Fn where
  steps : List Stp
  consts : List Vl
  regs : Int
  params : Int
  defaults : Int
  caps : List Cap
  tries : List Tr
  yields : Bool
  name : List UInt8
instance : Inhabited Fn := ⟨⟨[], [], 0, 0, 0, [], [], false, []⟩⟩
abbrev stRow (s : Stp) : List AV := [.int .i64 s.op, .int .i64 s.a, .int .i64 s.b, .int .i64 s.c]
abbrev vlRow (v : Vl) : List AV := [.int .i64 v.kind, .int .i64 v.num, .str v.text]
abbrev capRow (c : Cap) : List AV := [.bool c.loc, .int .i64 c.index]
abbrev trRow (t : Tr) : List AV := [.int .i64 t.frm, .int .i64 t.to, .int .i64 t.target, .int .i64 t.reg]
abbrev fnRow (f : Fn) : List AV := [.list 4 (f.steps.map stRow) .no, .list 3 (f.consts.map vlRow) .no, .int .i64 f.regs, .int .i64 f.params, .int .i64 f.defaults, .list 2 (f.caps.map capRow) .no, .list 4 (f.tries.map trRow) .no, .bool f.yields, .str f.name]
abbrev progAV (p : List Fn) (t : Tok) : AV := .agg [.list 9 (p.map fnRow) t]

/-! ### code.Check -/

/-- What the arguments of an operation are. -/
def argsL (op : Int) : Int × Int × Int :=
  if op = 1 then (1, 2, 0)
  else if op = 2 ∨ op = 6 ∨ op = 7 ∨ op = 19 ∨ op = 20 ∨ op = 21 ∨ op = 22 ∨ op = 23 ∨ op = 24 ∨ op = 38 then (1, 1, 0)
  else if op = 3 ∨ op = 4 ∨ op = 5 ∨ op = 33 ∨ op = 34 ∨ op = 35 ∨ op = 37 ∨ op = 39 then (1, 0, 0)
  else if op = 8 then (1, 3, 0)
  else if op = 9 then (3, 1, 0)
  else if op = 10 ∨ op = 18 then (1, 11, 0)
  else if op = 11 then (11, 1, 0)
  else if op = 12 ∨ op = 13 ∨ op = 14 ∨ op = 15 ∨ op = 16 ∨ op = 17 ∨ op = 26 ∨ op = 40 ∨ op = 42 then (1, 1, 1)
  else if op = 25 then (1, 1, 5)
  else if op = 27 then (1, 1, 6)
  else if op = 28 then (4, 0, 0)
  else if op = 29 ∨ op = 30 then (1, 4, 0)
  else if op = 31 ∨ op = 32 then (1, 1, 8)
  else if op = 36 then (1, 7, 0)
  else if op = 41 then (1, 1, 10)
  else if op = 43 then (9, 4, 0)
  else (0, 0, 0)
def fitsL (p : List Fn) (f : Fn) (s : Stp) (kind n : Int) : Bool :=
  if kind = 1 then decide (0 ≤ n) && decide (n < f.regs)
  else if kind = 2 then decide (0 ≤ n) && decide (n < f.consts.length)
  else if kind = 11 then decide (0 ≤ n) && decide (n < f.consts.length) && decide (((f.consts[n.toNat]?).map Vl.kind).getD 0 = 3)
  else if kind = 3 then decide (0 ≤ n) && decide (n < f.caps.length)
  else if kind = 4 then decide (0 ≤ n) && decide (n < f.steps.length)
  else if kind = 5 then decide (0 ≤ n) && decide (n ≤ 10)
  else if kind = 6 then decide (0 ≤ n) && decide (n ≤ 4)
  else if kind = 7 then decide (0 < n) && decide (n < p.length) && decide (0 ≤ s.c) && decide (s.c ≤ f.regs) && decide (((p[n.toNat]?).map Fn.defaults).getD 0 ≤ f.regs - s.c)
  else if kind = 8 then decide (0 ≤ n) && decide (n ≤ f.regs) && decide (s.b + 2 + n ≤ f.regs)
  else if kind = 9 then decide (0 ≤ n) && decide (n < f.regs - 3)
  else if kind = 10 then decide (n = 0) || decide (n = 1)
  else decide (n = 0)
def rightL (p : List Fn) (f : Fn) (s : Stp) : Bool :=
  decide (1 ≤ s.op) && decide (s.op < 44) &&
    (if s.op = 36 then fitsL p f s 1 s.a && fitsL p f s 7 s.b
     else fitsL p f s (argsL s.op).1 s.a && fitsL p f s (argsL s.op).2.1 s.b && fitsL p f s (argsL s.op).2.2 s.c)
def capOk (f : Fn) (c : Cap) : Bool := decide (0 ≤ c.index) && decide (c.index < if c.loc then f.regs else (f.caps.length : Int))
def caughtL (f g : Fn) : Bool := g.caps.all (capOk f)
def stepL (p : List Fn) (f : Fn) (s : Stp) : Bool := rightL p f s && !(decide (s.op = 34) && !f.yields) && (!decide (s.op = 36) || caughtL f (p[s.b.toNat]?.getD default))
/-- value.Check: is it all right? -/
def vlOk (v : Vl) : Bool :=
  decide (0 ≤ v.kind) && decide (v.kind ≤ 4) &&
    !((decide (v.kind ≠ 3) && decide (v.text ≠ [])) || ((decide (v.kind = 0) || decide (v.kind = 3)) && decide (v.num ≠ 0))) &&
    !((decide (v.kind = 1) && decide (v.num ≠ 0) && decide (v.num ≠ 1)) || (decide (v.kind = 4) && decide (v.num < 0)))
def lastL (op : Int) : Bool := decide (op = 28) || decide (op = 33) || decide (op = 35)
def tryOk (f : Fn) (t : Tr) : Bool := decide (0 ≤ t.frm) && decide (t.frm ≤ t.to) && decide (t.to ≤ f.steps.length) && decide (0 ≤ t.target) && decide (t.target < f.steps.length) && decide (0 ≤ t.reg) && decide (t.reg < f.regs)
/-- The error of a function: its number. -/
def checkF (step : List Fn → Fn → Stp → Bool) (p : List Fn) (f : Fn) (at_ : Int) : Int :=
  if f.steps.length = 0 ∨ 262144 < f.steps.length ∨ f.regs < 0 ∨ 1024 < f.regs then 2
  else if f.params < 0 ∨ f.regs < f.params ∨ f.defaults < 0 ∨ f.params < f.defaults then 1
  else if at_ = 0 ∧ (0 < f.params ∨ 0 < f.caps.length ∨ f.yields = true) then 1
  else if f.consts.all (fun v => vlOk v && !decide (v.kind = 4)) = false then 30
  else if f.steps.all (step p f) = false then 5
  else if lastL ((f.steps.getLast?.map Stp.op).getD 0) = false then 5
  else if f.tries.all (tryOk f) = false then 1
  else 0

/-! ### What the law says -/

def shapesW : List (List UInt8) := [[114, 107, 45], [114, 114, 45], [114, 45, 45], [114, 45, 45], [114, 45, 45], [114, 114, 45], [114, 114, 45], [114, 111, 45], [111, 114, 45], [114, 116, 45], [116, 114, 45], [114, 114, 114], [114, 114, 114], [114, 114, 114], [114, 114, 114], [114, 114, 114], [114, 114, 114], [114, 116, 45], [114, 114, 45], [114, 114, 45], [114, 114, 45], [114, 114, 45], [114, 114, 45], [114, 114, 45], [114, 114, 97], [114, 114, 114], [114, 114, 99], [106, 45, 45], [114, 106, 45], [114, 106, 45], [114, 114, 109], [114, 114, 109], [114, 45, 45], [114, 45, 45], [114, 45, 45], [120, 45, 45], [114, 45, 45], [114, 114, 45], [114, 45, 45], [114, 114, 114], [114, 114, 102], [114, 114, 114], [101, 106, 45]]
def namesW : List (List UInt8) := [[108, 111, 97, 100, 107], [109, 111, 118, 101], [116, 104, 105, 115], [114, 111, 111, 116], [98, 111, 120], [103, 101, 116, 98, 111, 120], [115, 101, 116, 98, 111, 120], [103, 101, 116, 111, 117, 116, 101, 114], [115, 101, 116, 111, 117, 116, 101, 114], [103, 101, 116, 110, 97, 109, 101], [115, 101, 116, 110, 97, 109, 101], [103, 101, 116], [115, 101, 116], [110, 101, 119], [100, 101, 108], [104, 97, 115], [105, 110, 115, 116, 111, 102], [115, 117, 112, 101, 114], [110, 101, 103], [110, 111, 116], [105, 110, 118], [116, 121, 112, 101, 111, 102], [99, 108, 111, 110, 101], [114, 101, 115, 117, 109, 101], [97, 114, 105, 116, 104], [101, 113, 117, 97, 108], [111, 114, 100, 101, 114], [106, 117, 109, 112], [105, 102], [105, 102, 110, 111, 116], [99, 97, 108, 108], [116, 97, 105, 108], [114, 101, 116, 117, 114, 110], [121, 105, 101, 108, 100], [116, 104, 114, 111, 119], [99, 108, 111, 115, 117, 114, 101], [97, 114, 114, 97, 121], [112, 117, 115, 104], [116, 97, 98, 108, 101], [112, 117, 116], [99, 108, 97, 115, 115], [109, 101, 109, 98, 101, 114], [101, 97, 99, 104]]
def shapeAt (op : Int) : List UInt8 := shapesW.getD (op - 1).toNat []
def nameAt (op : Int) : List UInt8 := if op < 1 ∨ 44 ≤ op then [] else namesW.getD (op - 1).toNat []
def fitsW (f : Fn) (s : Stp) (what : UInt8) (n : Int) : Bool :=
  if what = 45 then decide (n = 0)
  else if n < 0 then false
  else if what = 114 then decide (n < f.regs)
  else if what = 107 then decide (n < f.consts.length)
  else if what = 116 then decide (n < f.consts.length) && decide (((f.consts[n.toNat]?).map Vl.kind).getD 0 = 3)
  else if what = 111 then decide (n < f.caps.length)
  else if what = 106 then decide (n < f.steps.length)
  else if what = 97 then decide (n ≤ 10)
  else if what = 99 then decide (n ≤ 4)
  else if what = 109 then decide (n ≤ f.regs) && decide (s.b ≤ f.regs - 2 - n)
  else if what = 101 then decide (n < f.regs - 3)
  else decide (n ≤ 1)
def rightW (p : List Fn) (f : Fn) (s : Stp) : Bool :=
  if s.op < 1 ∨ 43 < s.op then false
  else if (shapeAt s.op).getD 0 0 = 120 then
    (if s.a < 0 ∨ f.regs ≤ s.a ∨ s.b < 1 ∨ (p.length : Int) ≤ s.b ∨ s.c < 0 ∨ f.regs < s.c ∨ f.regs - s.c < (p[s.b.toNat]?.getD default).defaults then false
     else (p[s.b.toNat]?.getD default).caps.all (capOk f))
  else fitsW f s ((shapeAt s.op).getD 0 0) s.a && fitsW f s ((shapeAt s.op).getD 1 0) s.b && fitsW f s ((shapeAt s.op).getD 2 0) s.c && (!decide (nameAt s.op = [121, 105, 101, 108, 100]) || f.yields)
theorem or_split43 {op : Int} (h1 : 1 ≤ op) (h2 : op ≤ 43) : op = 1 ∨ op = 2 ∨ op = 3 ∨ op = 4 ∨ op = 5 ∨ op = 6 ∨ op = 7 ∨ op = 8 ∨ op = 9 ∨ op = 10 ∨ op = 11 ∨ op = 12 ∨ op = 13 ∨ op = 14 ∨ op = 15 ∨ op = 16 ∨ op = 17 ∨ op = 18 ∨ op = 19 ∨ op = 20 ∨ op = 21 ∨ op = 22 ∨ op = 23 ∨ op = 24 ∨ op = 25 ∨ op = 26 ∨ op = 27 ∨ op = 28 ∨ op = 29 ∨ op = 30 ∨ op = 31 ∨ op = 32 ∨ op = 33 ∨ op = 34 ∨ op = 35 ∨ op = 36 ∨ op = 37 ∨ op = 38 ∨ op = 39 ∨ op = 40 ∨ op = 41 ∨ op = 42 ∨ op = 43 := by omega
theorem defs_get (o : Option Fn) : (o.map Fn.defaults).getD 0 = (o.getD default).defaults := by cases o <;> rfl
/-- Of a step the program says what the law says. -/
theorem step_plain (p : List Fn) (f : Fn) (s : Stp) : stepL p f s = rightW p f s := by
  obtain ⟨op, a, b, c⟩ := s
  by_cases h : op < 1 ∨ 43 < op
  · have h1 : ¬ (1 ≤ op ∧ op < 44) := by omega
    simp only [rightW, h, if_true, stepL, rightL]
    by_cases h2 : 1 ≤ op
    · have h3 : ¬ op < 44 := by omega
      simp [h3]
    · simp [h2]
  · have h4 : 1 ≤ op := by omega
    have h5 : op ≤ 43 := by omega
    rcases or_split43 h4 h5 with rfl | rfl | rfl | rfl | rfl | rfl | rfl | rfl | rfl | rfl | rfl | rfl | rfl | rfl | rfl | rfl | rfl | rfl | rfl | rfl | rfl | rfl | rfl | rfl | rfl | rfl | rfl | rfl | rfl | rfl | rfl | rfl | rfl | rfl | rfl | rfl | rfl | rfl | rfl | rfl | rfl | rfl | rfl
    all_goals
      rw [Bool.eq_iff_iff]
      simp [stepL, rightL, argsL, fitsL, rightW, shapeAt, shapesW, fitsW, nameAt, namesW, caughtL]
    all_goals intros
    all_goals first
      | (rw [and_assoc]; done)
      | (rw [defs_get]; omega)
      | omega
end Go.Proofs.YtgcpgoggngkbjaaDoor
