import Derived.Test.YtcbgpjlcfkkdlaaGreatDoorUAP
set_option linter.unusedSimpArgs false
set_option linter.unusedVariables false
set_option maxRecDepth 100000
set_option maxHeartbeats 16000000
namespace Go.Proofs.YtcbgpjlcfkkdlaaGreatDoor
open Go Go.AL Go.Proofs
def shi (K v : Int) : Int := if 0 ≤ v then v + K else v
def fop : Op → Bool
 | .binLoop _ _ _ => false
 | .postLoop _ _ => false
 | .top _ => false
 | _ => true
def may : Op → List Int → Bool
 | .word _, l => decide (l.getD 1 0 = 1)
 | .stmt, _ => true
 | .locl _, _ => true
 | .body, _ => true
 | .control _, _ => true
 | .loop _, _ => true
 | .foreach _, _ => true
 | _, _ => false
inductive Fl : P → Prop
 | stuck : Fl .stuck
 | ok {a b} (h : Fl a) : Fl (.ok a b)
 | is {x a b} (h : Fl b) : Fl (.is x a b)
 | test {f a b} (hf : ∀ t : Tk, t.kind = 6 → f t = false) (h : Fl b) : Fl (.test f a b)
 | room {a b} (h : Fl b) : Fl (.room a b)
 | ends {a b} (h : Fl a) : Fl (.ends a b)
 | peek {k} (h : ∀ t : Tk, t.kind = 6 → Fl (k t)) : Fl (.peek k)
 | name {k} : Fl (.name k)
 | live {a} : Fl (.live a)
 | down {a} (h : Fl a) : Fl (.down a)
 | up {a} (h : Fl a) : Fl (.up a)
 | fend {a} (h : Fl a) : Fl (.fend a)
 | must {x a} : Fl (.must x a)
 | wrong {e a} (h : ¬ e = 0) : Fl (.wrong e a)
 | add {kind pos x n kids k} (h : ∀ v, Fl (k v)) : Fl (.add kind pos x n kids k)
 | call {op k} (h : fop op = true) : Fl (.call op k)
 | ite {c : Prop} [Decidable c] {a b} (h : Fl a) (h' : Fl b) : Fl (if c then a else b)
structure TkR (t t' : Tk) : Prop where
 kind : t'.kind = t.kind
 text : t'.text = t.text
 num : t'.num = t.num
 line : t'.line = t.line
 pos : 0 ≤ t'.pos
inductive OpR (K : Int) : Op → Op → Prop
 | stmt : OpR K .stmt .stmt
 | word {t t'} (h : TkR t t') : OpR K (.word t) (.word t')
 | named {t t'} (h : TkR t t') : OpR K (.named t) (.named t')
 | locl {a a' : Int} (h : 0 ≤ a') : OpR K (.locl a) (.locl a')
 | literal : OpR K .literal .literal
 | enum {a a' : Int} (h : 0 ≤ a') : OpR K (.enum a) (.enum a')
 | enumLoop {n k k'} (h : k' = k.map (shi K)) : OpR K (.enumLoop n k) (.enumLoop n k')
 | block : OpR K .block .block
 | blockLoop {k k'} (h : k' = k.map (shi K)) : OpR K (.blockLoop k) (.blockLoop k')
 | body : OpR K .body .body
 | control {t t'} (h : TkR t t') : OpR K (.control t) (.control t')
 | paren : OpR K .paren .paren
 | loop {a a' : Int} (h : 0 ≤ a') : OpR K (.loop a) (.loop a')
 | foreach {a a' : Int} (h : 0 ≤ a') : OpR K (.foreach a) (.foreach a')
 | cases {a a' : Int} (h : 0 ≤ a') : OpR K (.cases a) (.cases a')
 | casesLoop {o k k'} (h : k' = k.map (shi K)) : OpR K (.casesLoop o k) (.casesLoop o k')
 | caseLoop {k k'} (h : k' = k.map (shi K)) : OpR K (.caseLoop k) (.caseLoop k')
 | expr : OpR K .expr .expr
 | cond {a a' : Int} (h : 0 ≤ a') : OpR K (.cond a) (.cond a')
 | binary {l : Int} (h : 0 ≤ l ∧ l ≤ 10) : OpR K (.binary l) (.binary l)
 | binLoop {l a a' i i' : Int} (hl : 0 ≤ l ∧ l ≤ 9) (h : 0 ≤ a') (hi : i' = shi K i) : OpR K (.binLoop l a i) (.binLoop l a' i')
 | unary : OpR K .unary .unary
 | postf : OpR K .postf .postf
 | postLoop {a a' i i' : Int} (h : 0 ≤ a') (hi : i' = shi K i) : OpR K (.postLoop a i) (.postLoop a' i')
 | some {x} : OpR K (.some x) (.some x)
 | someLoop {x k k'} (h : k' = k.map (shi K)) : OpR K (.someLoop x k) (.someLoop x k')
 | primary : OpR K .primary .primary
 | member : OpR K .member .member
 | table : OpR K .table .table
 | tableLoop {k k'} (h : k' = k.map (shi K)) : OpR K (.tableLoop k) (.tableLoop k')
 | function : OpR K .function .function
 | params {a a' : Int} {x} (h : 0 ≤ a') : OpR K (.params a x) (.params a' x)
 | paramsLoop {k k'} (h : k' = k.map (shi K)) : OpR K (.paramsLoop k) (.paramsLoop k')
 | clas : OpR K .clas .clas
 | classLoop {k k'} (h : k' = k.map (shi K)) : OpR K (.classLoop k) (.classLoop k')
def RR (K : Int) : Op → List Int → List Int → Prop
 | .word _, l, l' => l'.getD 1 0 = l.getD 1 0 ∧ (l.getD 1 0 = 1 → fst0 l' = shi K (fst0 l))
 | .member, l, l' => fst0 l' = shi K (fst0 l) ∧ l'.getD 1 0 = shi K (l.getD 1 0)
 | .some _, l, l' => l' = l.map (shi K)
 | .enumLoop _ _, l, l' => l' = l.map (shi K)
 | .blockLoop _, l, l' => l' = l.map (shi K)
 | .casesLoop _ _, l, l' => l' = l.map (shi K)
 | .caseLoop _, l, l' => l' = l.map (shi K)
 | .someLoop _ _, l, l' => l' = l.map (shi K)
 | .tableLoop _, l, l' => l' = l.map (shi K)
 | .paramsLoop _, l, l' => l' = l.map (shi K)
 | .classLoop _, l, l' => l' = l.map (shi K)
 | _, l, l' => fst0 l' = shi K (fst0 l)
def isNamed : Op → Bool
 | .named _ => true
 | _ => false
inductive PR (K : Int) (op : Op) : Bool → Nat → P → P → Prop
 | ret {p e l l'} (h : RR K op l l') (hm : p = true → may op l = true) : PR K op p e (.ret l) (.ret l')
 | stuck {p e q} : PR K op p e .stuck q
 | ok {p e a b a' b'} (h : PR K op p e a a') : PR K op p e (.ok a b) (.ok a' b')
 | is {p e x a b a' b'} (hc : 0 < e ∨ (¬ x = [59] ∧ p = false) ∨ Fl b ∨ x = [101, 108, 115, 101]) (h1 : PR K op false 1 a a') (h2 : PR K op p e b b') : PR K op p e (.is x a b) (.is x a' b')
 | test {p e f a b a' b'} (hf : ∀ t t', TkR t t' → f t' = f t) (hz : ∀ t : Tk, t.kind = 6 → f t = false) (hs : ∀ t : Tk, t.kind = 5 → t.text = [59] → f t = false) (hp : p = true → Fl b) (h1 : PR K op false 1 a a') (h2 : PR K op p e b b') : PR K op p e (.test f a b) (.test f a' b')
 | room {e a a' b'} (h : PR K op false (max e 1) a a') : PR K op false e (.room a .stuck) (.room a' b')
 | ends {e a b a' b'} (h1 : PR K op false e a a') (h2 : PR K op false e b b') : PR K op false e (.ends a b) (.ends a' b')
 | targ {p e i i' a b a' b'} (hi : i' = shi K i) (h1 : PR K op p e a a') (h2 : PR K op p e b b') : PR K op p e (.targ i a b) (.targ i' a' b')
 | peek {p e k k'} (hc : 0 < e ∨ ∀ t : Tk, t.kind = 6 → Fl (k t)) (h : ∀ t t', TkR t t' → PR K op p e (k t) (k' t')) : PR K op p e (.peek k) (.peek k')
 | next1 {e k k'} (he : 0 < e) (h1 : ∀ t t', TkR t t' → t.kind = 1 → PR K op false 2 (k t) (k' t')) (h2 : ∀ t t', ¬ t.kind = 1 → ¬ t'.kind = 1 → PR K op false 1 (k t) (k' t')) : PR K op false e (.next k) (.next k')
 | next2 {k k'} (h1 : ∀ t t', TkR t t' → PR K op false 2 (k t) (k' t')) : PR K op false 2 (.next k) (.next k')
 | name {p e k k'} (h : ∀ x, PR K op false 0 (k x) (k' x)) : PR K op p e (.name k) (.name k')
 | live {p e a a'} (h : PR K op false 1 a a') : PR K op p e (.live a) (.live a')
 | step {e a a'} (he : 0 < e) (h : PR K op false 0 a a') : PR K op false e (.step a) (.step a')
 | down {p e a a'} (h : PR K op p e a a') : PR K op p e (.down a) (.down a')
 | up {p e a a'} (h : PR K op p e a a') : PR K op p e (.up a) (.up a')
 | fend {e a a'} (h : PR K op true 0 a a') : PR K op false e (.fend a) (.fend a')
 | must {p e x a a'} (h : PR K op false 0 a a') : PR K op p e (.must x a) (.must x a')
 | wrong {p e n a a'} (h : ¬ n = 0) : PR K op p e (.wrong n a) (.wrong n a')
 | fault {p e n o o' a a'} (h : ¬ n = 0) : PR K op p e (.fault n o a) (.fault n o' a')
 | add {p e kind pos pos' x n kids kids' k k'} (hk : kids' = kids.map (shi K)) (hp : 0 ≤ pos') (h : ∀ v, PR K op p e (k v) (k' (shi K v))) : PR K op p e (.add kind pos x n kids k) (.add kind pos' x n kids' k')
 | call {p e op1 op1' k k'} (ho : OpR K op1 op1') (hp : p = true → fop op1 = true) (hn : isNamed op1 = true → e = 2) (h : ∀ l l', RR K op1 l l' → PR K op (may op1 l) 0 (k l) (k' l')) : PR K op p e (.call op1 k) (.call op1' k')
theorem PR.ite {K op p e} {c : Prop} [Decidable c] {a b a' b'} (h1 : c → PR K op p e a a') (h2 : ¬ c → PR K op p e b b') : PR K op p e (if c then a else b) (if c then a' else b') := by
 by_cases h : c
 ·rw [if_pos h, if_pos h]; exact h1 h
 ·rw [if_neg h, if_neg h]; exact h2 h
theorem PR.nextI {K op e} {a a' b b' : Tk → P} (he : 0 < e) (h1 : ∀ t t', TkR t t' → t.kind = 1 → PR K op false 2 (a t) (a' t')) (h2 : ∀ t t', PR K op false 1 (b t) (b' t')) : PR K op false e (.next fun u => if u.kind = 1 then a u else b u) (.next fun u => if u.kind = 1 then a' u else b' u) :=
 PR.next1 he (fun t t' h hk => by rw [if_pos hk, if_pos (by rw [h.kind]; exact hk)]; exact h1 t t' h hk) (fun t t' hk hk' => by rw [if_neg hk, if_neg hk']; exact h2 t t')
theorem PR.iteW {K op} {c : Prop} [Decidable c] {a b a' b'} (h1 : c → PR K op true 0 a a') (h2 : ¬ c → PR K op false 0 b b') : PR K op (decide c) 0 (if c then a else b) (if c then a' else b') := by
 by_cases h : c
 ·rw [if_pos h, if_pos h, decide_eq_true h]; exact h1 h
 ·rw [if_neg h, if_neg h, decide_eq_false h]; exact h2 h
theorem shi_neg (K : Int) : shi K (-1) = -1 := rfl
theorem fst0_cns (a : Int) (l : List Int) : fst0 (a :: l) = a := rfl
theorem getD1_cons (a b : Int) (l : List Int) : (a :: b :: l).getD 1 0 = b := rfl
theorem lv59 : levelW [59] = -1 := by decide
theorem Fl.mk {p : P} (h : Fl p := by
 repeat' first
  | exact Fl.stuck | exact Fl.name | exact Fl.live | exact Fl.must | exact Fl.wrong (by decide) | exact Fl.call rfl
  | refine Fl.ok ?_ | refine Fl.is ?_ | refine Fl.room ?_ | refine Fl.ends ?_ | refine Fl.down ?_ | refine Fl.up ?_ | refine Fl.fend ?_
  | refine Fl.peek fun _ _ => ?_ | refine Fl.add fun _ => ?_ | refine Fl.test (fun t h => by simp [h, isT]) ?_
  | refine Fl.ite ?_ ?_) : Fl p := h
theorem fl_body (op : Op) (h : fop op = true) : Fl (body op) := by
 cases op <;> first | (exfalso; cases h; done) | (simp only [body]; exact Fl.mk)
theorem pr_body {K : Int} {op op' : Op} (h : OpR K op op') : PR K op false (if isNamed op = true then 2 else 0) (body op) (body op') := by
 cases h
 all_goals
  simp only [body, isNamed, if_true, if_false, Bool.false_eq_true]
  try subst_vars
  try (rename TkR _ _ => ht; have h1 := ht.kind; have h2 := ht.text; have h3 := ht.num; have h4 := ht.pos; try simp only [h2])
  repeat' first
   | exact PR.stuck
   | exact PR.ret (by first | assumption | exact hl.2 (by assumption) | (simp only [RR, fst0_cns, getD1_cons, shi_neg, List.map_append, List.map_cons, List.map_nil, *]; done) | (simp [RR, fst0_cns, shi_neg, *]; done)) (by first | (intro h; cases h; done) | (intro _; rfl) | (simp [may]; done))
   | exact PR.wrong (by decide) | exact PR.fault (by decide)
   | refine PR.ok ?_ | refine PR.room ?_ | refine PR.ends ?_ ?_ | refine PR.live ?_ | refine PR.step (by decide) ?_ | refine PR.down ?_ | refine PR.up ?_ | refine PR.fend ?_ | refine PR.must ?_
   | refine PR.is (by first | exact .inl (by decide) | exact .inr (.inl ⟨by decide, rfl⟩) | exact .inr (.inr (.inr rfl)) | exact .inr (.inr (.inl Fl.mk))) ?_ ?_
   | refine PR.test (fun t t' ht => by simp [isT, ht.kind, ht.text, ht.line]) (fun t h => by simp [isT, h]) (fun t h h2 => by first | (simp [isT, h, h2]; done) | (simp only [h, h2]; decide) | (simp [h, h2, show isStep [59] = false from by decide]; done) | (simp only [h2, lv59]; simp; omega)) (by first | (intro h; cases h; done) | exact fun _ => Fl.mk) ?_ ?_
   | refine PR.name fun x => ?_
   | (refine PR.peek (by first | exact .inl (by decide) | exact .inr fun t h => Fl.mk) fun t t' ht => ?_; have hpos := ht.pos; try simp only [ht.text, ht.num])
   | (refine PR.next2 fun t t' ht => ?_; try simp only [ht.text])
   | (refine PR.nextI (by decide) (fun t t' ht hk => ?_) (fun _ _ => ?_); have hpos := ht.pos; try simp only [ht.text])
   | refine PR.targ (by assumption) ?_ ?_
   | refine PR.targ rfl ?_ ?_
   | refine PR.add (by first | assumption | (simp only [fst0_cns, shi_neg, List.map_append, List.map_cons, List.map_nil, *]; done) | (simp [fst0_cns, shi_neg, *]; done)) (by assumption) fun v => ?_
   | (refine PR.call (by constructor <;> first | assumption | rfl | (simp only [fst0_cns, shi_neg, List.map_append, List.map_cons, List.map_nil, *]; done) | (simp [*]; done) | (rw [w64 (by omega) (by omega)]; omega) | omega) (by first | (intro h; cases h; done) | exact fun _ => rfl) (by first | (intro h; cases h; done) | exact fun _ => rfl) fun l l' hl => ?_; simp only [RR] at hl; try simp only [hl, List.length_map]; try simp only [may])
   | refine PR.iteW (fun hc => ?_) (fun hc => ?_)
   | refine PR.ite (fun hc => ?_) (fun hc => ?_)
end Go.Proofs.YtcbgpjlcfkkdlaaGreatDoor

namespace Go.Proofs.YtcbgpjlcfkkdlaaGreatDoor
open Go Go.AL Go.Proofs
section
variable {T : List Tk} {rec : Op → St → Option Res} {S : St}
theorem wrong_dead (T : List Tk) (e : Int) (h : ¬ S.fc = 0) : wrongL T e S = S := by unfold wrongL; rw [if_neg h]
theorem wrong_live (T : List Tk) (e : Int) (h : S.fc = 0) : wrongL T e S = { S with fc := e, fa := (peekL T S).pos } := by unfold wrongL; rw [if_pos h]
theorem wrong_ne (T : List Tk) (e : Int) (h : S.fc = 0) (he : ¬ e = 0) : ¬ (wrongL T e S).fc = 0 := by rw [wrong_live T e h]; exact he
theorem fc_wrong (T : List Tk) (e : Int) (h : ¬ S.fc = 0) : (wrongL T e S).fc = S.fc := by rw [wrong_dead T e h]
theorem fc_down (T : List Tk) (h : ¬ S.fc = 0) : (downL T S).fc = S.fc := by
 unfold downL; simp only
 split
 ·exact fc_wrong T 6 h
 ·rfl
theorem fc_must (T : List Tk) (x : List UInt8) (h : ¬ S.fc = 0) : (mustL T x S).fc = S.fc := by
 unfold mustL
 split
 ·rfl
 ·exact fc_wrong T 5 h
theorem fc_name (T : List Tk) (h : ¬ S.fc = 0) : (nameR T S).2.fc = S.fc := by
 unfold nameR
 split
 ·rfl
 ·exact fc_wrong T 5 h
theorem fc_end (T : List Tk) (h : ¬ S.fc = 0) : (endL T S).fc = S.fc := by
 unfold endL
 split
 ·rfl
 ·split
  ·rfl
  ·exact fc_wrong T 5 h
theorem fc_add (T : List Tk) (kind pos : Int) (x : List UInt8) (n : Int) (kids : List Int) (h : ¬ S.fc = 0) : (addL T kind pos x n kids S).2.fc = S.fc := by
 unfold addL
 rw [if_neg h]
def Stick (rec : Op → St → Option Res) : Prop := ∀ op S l S1, ¬ S.fc = 0 → rec op S = some (l, S1) → S1.fc = S.fc
theorem stick_go (ih : Stick rec) : ∀ (p : P) (S : St) (l : List Int) (S1 : St), ¬ S.fc = 0 → go T rec p S = some (l, S1) → S1.fc = S.fc := by
 have key : ∀ {p : P} {S S2 : St} {l S1}, (∀ (S : St) (l : List Int) (S1 : St), ¬ S.fc = 0 → go T rec p S = some (l, S1) → S1.fc = S.fc) → S2.fc = S.fc → ¬ S.fc = 0 → go T rec p S2 = some (l, S1) → S1.fc = S.fc := fun q e h g => (q _ _ _ (by rw [e]; exact h) g).trans e
 intro p
 induction p with
 | ret l => intro S l S1 _ h; simp only [go, Option.some.injEq, Prod.mk.injEq] at h; rw [← h.2]
 | stuck => intro S l S1 _ h; cases h
 | ok a b iha ihb => intro S l S1 h g; simp only [go] at g; split at g; exact iha _ _ _ h g; exact ihb _ _ _ h g
 | is x a b iha ihb => intro S l S1 h g; simp only [go] at g; split at g; exact iha _ _ _ h g; exact ihb _ _ _ h g
 | test x a b iha ihb => intro S l S1 h g; simp only [go] at g; split at g; exact iha _ _ _ h g; exact ihb _ _ _ h g
 | room a b iha ihb => intro S l S1 h g; simp only [go] at g; split at g; exact iha _ _ _ h g; exact ihb _ _ _ h g
 | ends a b iha ihb => intro S l S1 h g; simp only [go] at g; split at g; exact iha _ _ _ h g; exact ihb _ _ _ h g
 | targ i a b iha ihb => intro S l S1 h g; simp only [go] at g; split at g; exact iha _ _ _ h g; exact ihb _ _ _ h g
 | peek k ih => exact fun S l S1 h g => ih _ _ _ _ h g
 | next k ih => exact fun S l S1 h g => ih _ _ _ _ h g
 | nextm k ih => exact fun S l S1 h g => ih _ _ _ _ h g
 | name k ih => exact fun S l S1 h g => key (ih _) (fc_name T h) h g
 | live a ih => intro S l S1 h g; simp only [go] at g; split at g; cases g; exact ih _ _ _ h g
 | step a ih => exact fun S l S1 h g => key ih (S2 := stepL S) rfl h g
 | down a ih => exact fun S l S1 h g => key ih (fc_down T h) h g
 | up a ih => exact fun S l S1 h g => key ih (S2 := upL S) rfl h g
 | fend a ih => exact fun S l S1 h g => key ih (fc_end T h) h g
 | must x a ih => exact fun S l S1 h g => key ih (fc_must T x h) h g
 | wrong e a ih => exact fun S l S1 h g => key ih (fc_wrong T e h) h g
 | fault e o a ih => intro S l S1 h g; simp only [go, if_neg h] at g; exact ih _ _ _ h g
 | add kind pos x n kids k ih => exact fun S l S1 h g => key (ih _) (fc_add T kind pos x n kids h) h g
 | call op k ih2 =>
  intro S l S1 h g
  simp only [go] at g
  cases e : rec op S with
  | none => rw [e] at g; cases g
  | some r => rw [e] at g; exact key (ih2 _) (ih _ _ _ _ h e) h g
theorem stick (T : List Tk) : ∀ n, Stick (run T n)
 | 0 => fun _ _ _ _ _ h => by cases h
 | n + 1 => fun op S l S1 h g => by rw [run_body] at g; exact stick_go (stick T n) _ _ _ _ h g
structure AtE (T : List Tk) (S : St) : Prop where
 fc : S.fc = 0
 idx : S.idx + 1 = T.length
 kind : (T.getD S.idx default).kind = 6
theorem AtE.peek (h : AtE T S) : (peekL T S).kind = 6 := by unfold peekL; rw [if_pos h.fc]; exact h.kind
theorem is_end {x : List UInt8} (h : (peekL T S).kind = 6) : isL T x S = false := by unfold isL; rw [h]; rfl
theorem ends_end (h : (peekL T S).kind = 6) : endsL T S = true := by unfold endsL; rw [h]; simp
def Fails (T : List Tk) (rec : Op → St → Option Res) : Prop := ∀ op S l S1, fop op = true → AtE T S → rec op S = some (l, S1) → ¬ S1.fc = 0
theorem fails_go (st : Stick rec) (ih : Fails T rec) {p : P} (hp : Fl p) : ∀ (S : St) (l : List Int) (S1 : St), AtE T S → go T rec p S = some (l, S1) → ¬ S1.fc = 0 := by
 have dead : ∀ {p : P} {S : St} {l S1}, ¬ S.fc = 0 → go T rec p S = some (l, S1) → ¬ S1.fc = 0 := fun h g => by rw [stick_go st _ _ _ _ h g]; exact h
 have wr : ∀ {p : P} {e : Int} {S : St} {l S1}, ¬ e = 0 → go T rec p (wrongL T e S) = some (l, S1) → AtE T S → ¬ S1.fc = 0 := fun {p e S l S1} he g h => dead (by rw [wrong_live T e h.fc]; exact he) g
 induction hp with
 | stuck => intro S l S1 _ g; cases g
 | ok _ q => intro S l S1 h g; simp only [go, if_pos h.fc] at g; exact q _ _ _ h g
 | is _ q => intro S l S1 h g; simp only [go, is_end h.peek] at g; exact q _ _ _ h g
 | test hf _ q => intro S l S1 h g; simp only [go, hf _ h.peek] at g; exact q _ _ _ h g
 | room _ q => intro S l S1 h g; have := h.idx; simp only [go] at g; rw [if_neg (by omega)] at g; exact q _ _ _ h g
 | ends _ q => intro S l S1 h g; simp only [go, ends_end h.peek, if_true] at g; exact q _ _ _ h g
 | peek _ q => exact fun S l S1 h g => q _ h.peek _ _ _ h g
 | name => intro S l S1 h g; have e : nameR T S = ([], wrongL T 5 S) := by { unfold nameR; rw [if_neg (by rw [h.peek]; decide)] }; simp only [go, e] at g; exact wr (by decide) g h
 | live => intro S l S1 h g; simp only [go, if_pos h.peek] at g; cases g
 | down _ q =>
  intro S l S1 h g
  simp only [go, downL] at g
  split at g
  ·exact dead (wrong_ne T 6 (by exact h.fc) (by decide)) g
  ·exact q _ _ _ (by exact ⟨h.fc, h.idx, h.kind⟩) g
 | up _ q => exact fun S l S1 h g => q _ _ _ (⟨h.fc, h.idx, h.kind⟩ : AtE T (upL S)) g
 | fend _ q => intro S l S1 h g; have e : endL T S = S := by { unfold endL; rw [is_end h.peek, ends_end h.peek]; rfl }; simp only [go, e] at g; exact q _ _ _ h g
 | must => intro S l S1 h g; simp only [go, mustL, is_end h.peek] at g; exact wr (by decide) g h
 | wrong he => exact fun S l S1 h g => wr he g h
 | add _ q =>
  rename_i kind pos x n kids k _
  intro S l S1 h g
  simp only [go] at g
  unfold addL at g
  rw [if_pos h.fc] at g
  split at g
  ·exact wr (by decide) g h
  ·simp only at g
   split at g
   ·refine dead ?_ g; exact wrong_ne T 6 (by exact h.fc) (by decide)
   ·exact q _ _ _ _ (by exact ⟨h.fc, h.idx, h.kind⟩) g
 | call ho =>
  intro S l S1 h g
  simp only [go] at g
  rename_i op k
  cases e : rec op S with
  | none => rw [e] at g; cases g
  | some r => rw [e] at g; exact dead (ih _ _ _ _ ho h e) g
 | ite _ _ q q' => intro S l S1 h g; split at g; exact q _ _ _ h g; exact q' _ _ _ h g
theorem fails (T : List Tk) : ∀ n, Fails T (run T n)
 | 0 => fun _ _ _ _ _ _ h => by cases h
 | n + 1 => fun op S l S1 ho h g => by rw [run_body] at g; exact fails_go (stick T n) (fails T n) (fl_body op ho) _ _ _ h g
end
structure NdR (K : Int) (a b : Nd) : Prop where
 kind : b.kind = a.kind
 text : b.text = a.text
 num : b.num = a.num
 pos : 0 ≤ b.pos
 kids : b.kids = a.kids.map (shi K)
def NdsR (K : Int) (a b : List Nd) : Prop := b.length = a.length ∧ ∀ (i : Nat) (x y : Nd), a[i]? = some x → b[i]? = some y → NdR K x y
theorem NdsR.nil {K : Int} : NdsR K [] [] := ⟨rfl, fun i x y h => by simp at h⟩
theorem NdsR.snoc {K : Int} {a b : List Nd} {x y : Nd} (h : NdsR K a b) (hx : NdR K x y) : NdsR K (a ++ [x]) (b ++ [y]) := by
 refine ⟨by simp [h.1], fun i u v hu hv => ?_⟩
 rw [List.getElem?_append] at hu hv
 rw [h.1] at hv
 split at hu
 ·rename_i hi; rw [if_pos hi] at hv; exact h.2 i u v hu hv
 ·rename_i hi
  rw [if_neg hi] at hv
  cases e : i - a.length with
  | zero => rw [e] at hu hv; simp at hu hv; subst hu hv; exact hx
  | succ m => rw [e] at hu; simp at hu
structure Side (strict stop : Bool) (T T' : List Tk) (nA o K : Nat) (N0 : List Nd) (D0 : List Int) : Prop where
 len : T.length = nA + 1
 tk : ∀ i, i < nA → ¬ (T.getD i default).kind = 6 ∧ TkR (T.getD i default) (T'.getD (i + o) default)
 fin : (T.getD nA default).kind = 6
 fin' : stop = false → TkR (T.getD nA default) (T'.getD (nA + o) default)
 stp : stop = true → (T'.getD (nA + o) default).kind = 5 ∧ (T'.getD (nA + o) default).text = [59] ∧ isT [101, 108, 115, 101] (T'.getD (nA + o + 1) default) = false
 len' : nA + o < T'.length
 n0 : N0.length = K
 d0 : D0.length = K
 st : strict = true → stop = false ∧ K = 0
structure Lv (stop : Bool) (nA o K : Nat) (N0 : List Nd) (D0 : List Int) (p : Bool) (S S' : St) : Prop where
 fc : S.fc = 0
 fc' : S'.fc = 0
 nest : S'.nest = S.nest
 deep : S'.deep = D0 ++ S.deep
 nodes : ∃ N, S'.nodes = N0 ++ N ∧ NdsR K S.nodes N
 idx : (S.idx ≤ nA ∧ S'.idx = S.idx + o) ∨ (p = true ∧ stop = true ∧ S.idx = nA ∧ S'.idx = nA + o + 1)
def Out (strict stop : Bool) (nA o K : Nat) (N0 : List Nd) (D0 : List Int) (p : Bool) (Q : Prop) (S S' : St) : Prop :=
 (Lv stop nA o K N0 D0 p S S' ∧ Q) ∨ (¬ S.fc = 0 ∧ (strict = true → S'.fc = S.fc)) ∨ (strict = false ∧ S'.fc = 2)
section
variable {strict stop : Bool} {T T' : List Tk} {nA o K : Nat} {N0 : List Nd} {D0 : List Int} {S S' : St} {p : Bool}
theorem tkr_is {t t' : Tk} (h : TkR t t') (x : List UInt8) : isT x t' = isT x t := by unfold isT; rw [h.kind, h.text]
theorem shi_getD (D : List Int) (hd : D0.length = K) {v : Int} (hv : 0 ≤ v) : (D0 ++ D).getD (shi K v).toNat 0 = D.getD v.toNat 0 := by
 unfold shi
 rw [if_pos hv]
 have e : (v + K).toNat = v.toNat + K := by omega
 rw [e]
 simp only [List.getD, List.getElem?_append]
 rw [if_neg (by omega), hd]
 congr 2
 omega
theorem shi_sign (v : Int) : 0 ≤ shi K v ↔ 0 ≤ v := by
 unfold shi
 split <;> omega
theorem deepOf_shi (D : List Int) (hd : D0.length = K) : ∀ (ks : List Int) (d : Int), deepOf (D0 ++ D) (ks.map (shi K)) d = deepOf D ks d
 | [], d => rfl
 | k :: ks, d => by
  simp only [List.map_cons, deepOf]
  rw [deepOf_shi D hd ks]
  congr 1
  by_cases h : 0 ≤ k
  ·rw [if_pos h, if_pos ((shi_sign k).2 h), shi_getD D hd h]
  ·rw [if_neg h, if_neg (fun q => h ((shi_sign k).1 q))]
theorem Lv.peek (h : Lv stop nA o K N0 D0 p S S') : peekL T S = T.getD S.idx default ∧ peekL T' S' = T'.getD S'.idx default := by
 unfold peekL
 rw [if_pos h.fc, if_pos h.fc']
 exact ⟨rfl, rfl⟩
theorem Lv.look (h : Lv stop nA o K N0 D0 p S S') (E : Side strict stop T T' nA o K N0 D0) :
  (S.idx < nA ∧ ¬ (peekL T S).kind = 6 ∧ TkR (peekL T S) (peekL T' S') ∧ S'.idx = S.idx + o) ∨ (AtE T S ∧ stop = false ∧ TkR (peekL T S) (peekL T' S')) ∨
  (AtE T S ∧ stop = true ∧ strict = false ∧ (((peekL T' S').kind = 5 ∧ (peekL T' S').text = [59] ∧ S'.idx = nA + o) ∨ (p = true ∧ isT [101, 108, 115, 101] (peekL T' S') = false))) := by
 obtain ⟨p1, p2⟩ := h.peek (T := T) (T' := T')
 rw [p1, p2]
 have hst : stop = true → strict = false := fun e => by
  cases hs : strict with
  | false => rfl
  | true => have := (E.st hs).1; rw [e] at this; cases this
 rcases h.idx with ⟨h1, h2⟩ | ⟨h1, h2, h3, h4⟩
 ·by_cases hi : S.idx < nA
  ·have := E.tk _ hi
   exact .inl ⟨hi, this.1, by rw [h2]; exact this.2, h2⟩
  ·have hi : S.idx = nA := by omega
   have ha : AtE T S := ⟨h.fc, by rw [hi, E.len], by rw [hi]; exact E.fin⟩
   rw [h2, hi]
   cases hs : stop with
   | false => exact .inr (.inl ⟨ha, rfl, E.fin' hs⟩)
   | true => exact .inr (.inr ⟨ha, rfl, hst hs, .inl ⟨(E.stp hs).1, (E.stp hs).2.1, rfl⟩⟩)
 ·rw [h4, h3]
  exact .inr (.inr ⟨⟨h.fc, by rw [h3, E.len], by rw [h3]; exact E.fin⟩, h2, hst h2, .inr ⟨h1, (E.stp h2).2.2⟩⟩)
theorem Lv.np (h : Lv stop nA o K N0 D0 p S S') (hi : S.idx < nA) {q : Bool} : Lv stop nA o K N0 D0 q S S' := ⟨h.fc, h.fc', h.nest, h.deep, h.nodes, .inl (by rcases h.idx with h | h <;> omega)⟩
theorem Lv.weak (h : Lv stop nA o K N0 D0 p S S') (q : Bool) (hq : p = true → q = true) : Lv stop nA o K N0 D0 q S S' := ⟨h.fc, h.fc', h.nest, h.deep, h.nodes, by rcases h.idx with i | ⟨i1, i2, i3, i4⟩; exact .inl i; exact .inr ⟨hq i1, i2, i3, i4⟩⟩
theorem Lv.kind (h : Lv stop nA o K N0 D0 p S S') (E : Side strict stop T T' nA o K N0 D0) (i : Int) : kindL S' (shi K i) = kindL S i := by
 obtain ⟨N, h1, h2, h3⟩ := h.nodes
 have hl : S'.nodes.length = K + S.nodes.length := by rw [h1, List.length_append, E.n0, h2]
 unfold kindL
 rw [hl]
 by_cases hi : 0 ≤ i
 ·have e : shi K i = i + K := by unfold shi; rw [if_pos hi]
  rw [e]
  by_cases hj : i < S.nodes.length
  ·rw [if_pos (by omega), if_pos ⟨hi, hj⟩, h1]
   have e2 : (i + (K : Int)).toNat = K + i.toNat := by omega
   rw [e2, List.getElem?_append, if_neg (by rw [E.n0]; omega), E.n0, Nat.add_sub_cancel_left]
   have hx : i.toNat < S.nodes.length := by omega
   have hy : i.toNat < N.length := by omega
   have := h3 i.toNat _ _ (List.getElem?_eq_getElem hx) (List.getElem?_eq_getElem hy)
   rw [List.getElem?_eq_getElem hx, List.getElem?_eq_getElem hy]
   simp only [Option.map_some, Option.getD_some]
   exact this.kind
  ·rw [if_neg (by omega), if_neg (by omega)]
 ·have e : shi K i = i := by unfold shi; rw [if_neg hi]
  rw [e, if_neg (by omega), if_neg (by omega)]
end
end Go.Proofs.YtcbgpjlcfkkdlaaGreatDoor

namespace Go.Proofs.YtcbgpjlcfkkdlaaGreatDoor
open Go Go.AL Go.Proofs
structure EC (T : List Tk) (nA e : Nat) (S : St) : Prop where
 lt : 0 < e → S.idx < nA
 nx : e = 2 → (T.getD (S.idx + 1) default).kind = 1
theorem EC.zero {T : List Tk} {nA : Nat} {S : St} : EC T nA 0 S := ⟨fun h => absurd h (by decide), fun h => absurd h (by decide)⟩
theorem EC.one {T : List Tk} {nA : Nat} {S : St} (h : S.idx < nA) : EC T nA 1 S := ⟨fun _ => h, fun h => absurd h (by decide)⟩
section
variable {strict stop : Bool} {T T' : List Tk} {nA o K : Nat} {N0 : List Nd} {D0 : List Int} {S S' : St} {p : Bool} {rec rec' : Op → St → Option Res}
theorem ends_eq : endsL T S = ((peekL T S).line || decide ((peekL T S).kind = 6) || isT [59] (peekL T S) || isT [125] (peekL T S) || isT [101, 108, 115, 101] (peekL T S) || isT [99, 97, 116, 99, 104] (peekL T S)) := rfl
theorem tkr_ends (h : TkR (peekL T S) (peekL T' S')) : endsL T' S' = endsL T S := by rw [ends_eq, ends_eq, h.line, h.kind, tkr_is h, tkr_is h, tkr_is h, tkr_is h]
theorem semi_is {t : Tk} (h1 : t.kind = 5) (h2 : t.text = [59]) (x : List UInt8) : isT x t = decide (x = [59]) := by
 unfold isT
 rw [h1, h2]
 by_cases e : x = [59]
 ·rw [e]; decide
 ·rw [decide_eq_false e, decide_eq_false (show ¬ ([59] : List UInt8) = x from fun q => e q.symm)]; rfl
theorem semi_isL (h1 : (peekL T' S').kind = 5) (h2 : (peekL T' S').text = [59]) (x : List UInt8) : isL T' x S' = decide (x = [59]) := semi_is h1 h2 x
theorem tkr_isL (h : TkR (peekL T S) (peekL T' S')) {x : List UInt8} : isL T' x S' = isL T x S := tkr_is h x
theorem wrong_fc (T : List Tk) (e : Int) {S : St} (h : S.fc = 0) : (wrongL T e S).fc = e := by rw [wrong_live T e h]
def SimR (strict stop : Bool) (T : List Tk) (nA o K : Nat) (N0 : List Nd) (D0 : List Int) (rec rec' : Op → St → Option Res) : Prop :=
 ∀ op op' S S' l l' S1 S1', OpR K op op' → (isNamed op = true → S.idx < nA ∧ (T.getD (S.idx + 1) default).kind = 1) → Lv stop nA o K N0 D0 false S S' → rec op S = some (l, S1) → rec' op' S' = some (l', S1') → Out strict stop nA o K N0 D0 (may op l) (RR K op l l') S1 S1'
theorem sim_go (E : Side strict stop T T' nA o K N0 D0) (st : Stick rec) (st' : Stick rec') (fa : Fails T rec) (ih : SimR strict stop T nA o K N0 D0 rec rec') {op : Op} {p : Bool} {e : Nat} {q q' : P} (hq : PR K op p e q q') :
  ∀ (S S' : St) (l l' : List Int) (S1 S1' : St), Lv stop nA o K N0 D0 p S S' → EC T nA e S → go T rec q S = some (l, S1) → go T' rec' q' S' = some (l', S1') → Out strict stop nA o K N0 D0 (may op l) (RR K op l l') S1 S1' := by
 have dead : ∀ {q q' : P} {S S' : St} {l l' : List Int} {S1 S1' : St} {Q : Prop} {b : Bool}, ¬ S.fc = 0 → (strict = true → S'.fc = S.fc) → go T rec q S = some (l, S1) → go T' rec' q' S' = some (l', S1') → Out strict stop nA o K N0 D0 b Q S1 S1' := fun h hs g g' => by
  have e1 := stick_go st _ _ _ _ h g
  refine .inr (.inl ⟨by rw [e1]; exact h, fun q => ?_⟩)
  rw [stick_go st' _ _ _ _ (by rw [hs q]; exact h) g', hs q, e1]
 have fal : ∀ {q : P} {S : St} {l : List Int} {S1 S1' : St} {Q : Prop} {b : Bool}, strict = false → Fl q → AtE T S → go T rec q S = some (l, S1) → Out strict stop nA o K N0 D0 b Q S1 S1' := fun hs hq ha g =>
  .inr (.inl ⟨fails_go st fa hq _ _ _ ha g, fun q => by rw [hs] at q; cases q⟩)
 have wr : ∀ {q q' : P} {n : Int} {S S' : St} {l l' : List Int} {S1 S1' : St} {Q : Prop} {b : Bool}, ¬ n = 0 → S.fc = 0 → (strict = true → S'.fc = 0) → go T rec q (wrongL T n S) = some (l, S1) → go T' rec' q' (wrongL T' n S') = some (l', S1') → Out strict stop nA o K N0 D0 b Q S1 S1' := fun {_ _ n S S' _ _ _ _ _ _} hn h h' g g' =>
  dead (S := wrongL T n S) (S' := wrongL T' n S') (by rw [wrong_live T n h]; exact hn) (fun q => by rw [wrong_live T n h, wrong_live T' n (h' q)]) g g'
 have wl : ∀ {q : P} {n : Int} {S : St} {l : List Int} {S1 S1' : St} {Q : Prop} {b : Bool}, strict = false → ¬ n = 0 → S.fc = 0 → go T rec q (wrongL T n S) = some (l, S1) → Out strict stop nA o K N0 D0 b Q S1 S1' := fun {_ n S _ S1 _ _ _} hs hn h g =>
  .inr (.inl ⟨by rw [stick_go st _ _ _ _ (by rw [wrong_live T n h]; exact hn) g, wrong_live T n h]; exact hn, fun q => by rw [hs] at q; cases q⟩)
 have stp : ∀ {p : Bool} {S S' : St}, Lv stop nA o K N0 D0 p S S' → S.idx < nA → Lv stop nA o K N0 D0 false (stepL S) (stepL S') := fun h hi => ⟨h.fc, h.fc', h.nest, h.deep, h.nodes, .inl ⟨hi, by
  rcases h.idx with i | i
  ·show _ + 1 = _; rw [i.2]; show _ = _ + 1 + o; omega
  ·omega⟩⟩
 have lst : ∀ {S : St}, AtE T S → ¬ S.idx < nA := fun h hi => by have := h.idx; have := E.len; omega
 induction hq with
 | ret h hm =>
  intro S S' l l' S1 S1' L _ g g'
  simp only [go, Option.some.injEq, Prod.mk.injEq] at g g'
  obtain ⟨rfl, rfl⟩ := g
  obtain ⟨rfl, rfl⟩ := g'
  exact .inl ⟨L.weak _ hm, h⟩
 | stuck => intro S S' l l' S1 S1' _ _ g; cases g
 | ok _ q => intro S S' l l' S1 S1' L c g g'; simp only [go, if_pos L.fc] at g; simp only [go, if_pos L.fc'] at g'; exact q _ _ _ _ _ _ L c g g'
 | is hc _ _ qa qb =>
  intro S S' l l' S1 S1' L c g g'
  simp only [go] at g g'
  rcases L.look E with ⟨hi, h6, ht, -⟩ | ⟨ha, -, ht⟩ | ⟨ha, hs, hf, hl⟩
  ·rw [tkr_isL ht] at g'
   split at g
   ·rename_i hx; rw [if_pos hx] at g'; exact qa _ _ _ _ _ _ (L.np hi) (.one hi) g g'
   ·rename_i hx; rw [if_neg hx] at g'; exact qb _ _ _ _ _ _ L c g g'
  ·rw [tkr_isL ht, is_end ha.peek] at g'
   rw [is_end ha.peek] at g
   exact qb _ _ _ _ _ _ L c g g'
  ·rw [is_end ha.peek] at g
   rcases hc with hc | ⟨hc, hp⟩ | hc | hc
   ·exact absurd (c.lt hc) (lst ha)
   ·rcases hl with ⟨h1, h2, -⟩ | ⟨h1, -⟩
    ·rw [semi_isL h1 h2, decide_eq_false hc] at g'
     exact qb _ _ _ _ _ _ L c g g'
    ·rw [hp] at h1; cases h1
   ·exact fal hf hc ha g
   ·rcases hl with ⟨h1, h2, -⟩ | ⟨-, h1⟩
    ·rw [semi_isL h1 h2, hc] at g'
     exact qb _ _ _ _ _ _ L c g g'
    ·rw [hc, show isL T' [101, 108, 115, 101] S' = false from h1] at g'
     exact qb _ _ _ _ _ _ L c g g'
 | test hf hz hs hp _ _ qa qb =>
  intro S S' l l' S1 S1' L c g g'
  simp only [go] at g g'
  rcases L.look E with ⟨hi, h6, ht, -⟩ | ⟨ha, -, ht⟩ | ⟨ha, hs', hf', hl⟩
  ·rw [hf _ _ ht] at g'
   split at g
   ·rename_i hx; rw [if_pos hx] at g'; exact qa _ _ _ _ _ _ (L.np hi) (.one hi) g g'
   ·rename_i hx; rw [if_neg hx] at g'; exact qb _ _ _ _ _ _ L c g g'
  ·rw [hf _ _ ht, hz _ ha.peek] at g'
   rw [hz _ ha.peek] at g
   exact qb _ _ _ _ _ _ L c g g'
  ·rw [hz _ ha.peek] at g
   rcases hl with ⟨h1, h2, -⟩ | ⟨h1, -⟩
   ·rw [hs _ h1 h2] at g'
    exact qb _ _ _ _ _ _ L c g g'
   ·exact fal hf' (hp h1) ha g
 | room _ q =>
  intro S S' l l' S1 S1' L c g g'
  simp only [go] at g g'
  split at g
  ·rename_i hr
   rw [E.len] at hr
   have hi : S.idx < nA := by omega
   have e2 : S'.idx = S.idx + o := by rcases L.idx with i | i; exact i.2; omega
   have h3 := E.len'
   rw [if_pos (by omega)] at g'
   exact q _ _ _ _ _ _ L ⟨fun _ => hi, fun e => c.nx (by omega)⟩ g g'
  ·cases g
 | ends _ _ qa qb =>
  intro S S' l l' S1 S1' L c g g'
  simp only [go] at g g'
  rcases L.look E with ⟨hi, h6, ht, -⟩ | ⟨ha, -, ht⟩ | ⟨ha, hs', hf', hl⟩
  ·rw [tkr_ends ht] at g'
   split at g
   ·rename_i hx; rw [if_pos hx] at g'; exact qa _ _ _ _ _ _ L c g g'
   ·rename_i hx; rw [if_neg hx] at g'; exact qb _ _ _ _ _ _ L c g g'
  ·rw [tkr_ends ht, ends_end ha.peek] at g'
   rw [ends_end ha.peek] at g
   exact qa _ _ _ _ _ _ L c g g'
  ·rw [ends_end ha.peek] at g
   rcases hl with ⟨h1, h2, -⟩ | ⟨h1, -⟩
   ·rw [ends_eq, semi_is h1 h2, if_pos (by simp)] at g'
    exact qa _ _ _ _ _ _ L c g g'
   ·cases h1
 | targ hi _ _ qa qb =>
  intro S S' l l' S1 S1' L c g g'
  simp only [go] at g g'
  rw [hi, L.kind E] at g'
  split at g
  ·rename_i hx; rw [if_pos hx] at g'; exact qa _ _ _ _ _ _ L c g g'
  ·rename_i hx; rw [if_neg hx] at g'; exact qb _ _ _ _ _ _ L c g g'
 | peek hc _ q =>
  intro S S' l l' S1 S1' L c g g'
  rcases L.look E with ⟨hi, h6, ht, -⟩ | ⟨ha, -, ht⟩ | ⟨ha, hs', hf', hl⟩
  ·exact q _ _ ht _ _ _ _ _ _ L c g g'
  ·exact q _ _ ht _ _ _ _ _ _ L c g g'
  ·rcases hc with hc | hc
   ·exact absurd (c.lt hc) (lst ha)
   ·exact fal hf' (hc _ ha.peek) ha g
 | next1 he _ _ q1 q2 =>
  intro S S' l l' S1 S1' L c g g'
  have hi := c.lt he
  have e2 : S'.idx = S.idx + o := by rcases L.idx with i | i; exact i.2; omega
  simp only [go] at g g'
  rw [e2, show S.idx + o + 1 = S.idx + 1 + o by omega] at g'
  by_cases hj : S.idx + 1 < nA
  ·have ht := (E.tk _ hj).2
   by_cases hk : (T.getD (S.idx + 1) default).kind = 1
   ·exact q1 _ _ ht hk _ _ _ _ _ _ L ⟨fun _ => hi, fun _ => hk⟩ g g'
   ·exact q2 _ _ hk (by rw [ht.kind]; exact hk) _ _ _ _ _ _ L (.one hi) g g'
  ·have hj : S.idx + 1 = nA := by omega
   have h6 := E.fin
   refine q2 _ _ ?_ ?_ _ _ _ _ _ _ L (.one hi) g g'
   ·rw [hj, h6]; decide
   ·rw [hj]
    cases hs : stop with
    | false => rw [(E.fin' hs).kind, h6]; decide
    | true => rw [(E.stp hs).1]; decide
 | next2 _ q1 =>
  intro S S' l l' S1 S1' L c g g'
  have hi := c.lt (by decide)
  have hk := c.nx rfl
  have e2 : S'.idx = S.idx + o := by rcases L.idx with i | i; exact i.2; omega
  simp only [go] at g g'
  rw [e2, show S.idx + o + 1 = S.idx + 1 + o by omega] at g'
  by_cases hj : S.idx + 1 < nA
  ·exact q1 _ _ (E.tk _ hj).2 _ _ _ _ _ _ L c g g'
  ·have hj : S.idx + 1 = nA := by omega
   rw [hj, E.fin] at hk
   exact absurd hk (by decide)
 | name _ q =>
  intro S S' l l' S1 S1' L c g g'
  simp only [go, nameR] at g g'
  rcases L.look E with ⟨hi, h6, ht, -⟩ | ⟨ha, -, ht⟩ | ⟨ha, hs', hf', hl⟩
  ·rw [ht.kind, ht.text] at g'
   split at g
   ·rename_i hx; rw [if_pos hx] at g'; exact q _ _ _ _ _ _ _ (stp L hi) .zero g g'
   ·rename_i hx; rw [if_neg hx] at g'; exact wr (by decide) L.fc (fun _ => L.fc') g g'
  ·have hk := ha.peek
   rw [ht.kind, hk] at g'
   rw [hk] at g
   exact wr (by decide) L.fc (fun _ => L.fc') g g'
  ·rw [ha.peek] at g
   exact wl hf' (by decide) L.fc g
 | live _ q =>
  intro S S' l l' S1 S1' L c g g'
  simp only [go] at g g'
  rcases L.look E with ⟨hi, h6, ht, -⟩ | ⟨ha, -⟩ | ⟨ha, -⟩
  ·rw [if_neg h6] at g
   rw [ht.kind, if_neg h6] at g'
   exact q _ _ _ _ _ _ (L.np hi) (.one hi) g g'
  ·rw [if_pos ha.peek] at g; cases g
  ·rw [if_pos ha.peek] at g; cases g
 | step he _ q => exact fun S S' l l' S1 S1' L c g g' => q _ _ _ _ _ _ (stp L (c.lt he)) .zero g g'
 | down _ q =>
  intro S S' l l' S1 S1' L c g g'
  simp only [go, downL] at g g'
  rw [L.nest] at g'
  split at g
  ·rename_i hx
   rw [if_pos hx] at g'
   exact wr (by decide : ¬ (6 : Int) = 0) (by exact L.fc) (fun _ => by exact L.fc') g g'
  ·rename_i hx
   rw [if_neg hx] at g'
   exact q _ _ _ _ _ _ (by exact ⟨L.fc, L.fc', rfl, L.deep, L.nodes, L.idx⟩) (by exact ⟨c.lt, c.nx⟩) g g'
 | up _ q => exact fun S S' l l' S1 S1' L c g g' => q (upL S) (upL S') _ _ _ _ ⟨L.fc, L.fc', by show IntKind.i64.wrap _ = IntKind.i64.wrap _; rw [L.nest], L.deep, L.nodes, L.idx⟩ ⟨c.lt, c.nx⟩ g g'
 | fend _ q =>
  intro S S' l l' S1 S1' L c g g'
  simp only [go, endL] at g g'
  rcases L.look E with ⟨hi, h6, ht, -⟩ | ⟨ha, -, ht⟩ | ⟨ha, hs', hf', hl⟩
  ·rw [tkr_isL ht, tkr_ends ht] at g'
   split at g
   ·rename_i hx; rw [if_pos hx] at g'; exact q _ _ _ _ _ _ ((stp L hi).weak _ (by simp)) .zero g g'
   ·rename_i hx
    rw [if_neg hx] at g'
    split at g
    ·rename_i hy; rw [if_pos hy] at g'; exact q _ _ _ _ _ _ (L.weak _ (by simp)) .zero g g'
    ·rename_i hy; rw [if_neg hy] at g'; exact wr (by decide) L.fc (fun _ => L.fc') g g'
  ·rw [tkr_isL ht, tkr_ends ht, ends_end ha.peek, is_end ha.peek] at g'
   rw [ends_end ha.peek, is_end ha.peek] at g
   exact q _ _ _ _ _ _ (L.weak _ (by simp)) .zero g g'
  ·rw [ends_end ha.peek, is_end ha.peek] at g
   rcases hl with ⟨h1, h2, h3⟩ | ⟨h1, -⟩
   ·rw [semi_isL h1 h2] at g'
    refine q S (stepL S') _ _ _ _ ⟨L.fc, L.fc', L.nest, L.deep, L.nodes, .inr ⟨rfl, hs', ?_, ?_⟩⟩ .zero g g'
    ·have := ha.idx; have := E.len; omega
    ·show S'.idx + 1 = _; omega
   ·cases h1
 | must _ q =>
  intro S S' l l' S1 S1' L c g g'
  simp only [go, mustL] at g g'
  rcases L.look E with ⟨hi, h6, ht, -⟩ | ⟨ha, -, ht⟩ | ⟨ha, hs', hf', hl⟩
  ·rw [tkr_isL ht] at g'
   split at g
   ·rename_i hx; rw [if_pos hx] at g'; exact q _ _ _ _ _ _ (stp L hi) .zero g g'
   ·rename_i hx; rw [if_neg hx] at g'; exact wr (by decide) L.fc (fun _ => L.fc') g g'
  ·rw [tkr_isL ht, is_end ha.peek] at g'
   rw [is_end ha.peek] at g
   exact wr (by decide) L.fc (fun _ => L.fc') g g'
  ·rw [is_end ha.peek] at g
   exact wl hf' (by decide) L.fc g
 | wrong hn => exact fun S S' l l' S1 S1' L c g g' => wr hn L.fc (fun _ => L.fc') g g'
 | fault hn =>
  intro S S' l l' S1 S1' L c g g'
  simp only [go, if_pos L.fc] at g
  simp only [go, if_pos L.fc'] at g'
  exact dead (S := { S with fc := _, fa := _ }) (S' := { S' with fc := _, fa := _ }) hn (fun _ => rfl) g g'
 | add hk hpos _ q =>
  rename_i kind pos pos' x n kids kids' k k' _
  intro S S' l l' S1 S1' L c g g'
  obtain ⟨N, n1, n2, n3⟩ := L.nodes
  have hl : S'.nodes.length = K + S.nodes.length := by rw [n1, List.length_append, E.n0, n2]
  have hd : deepOf S'.deep kids' 0 = deepOf S.deep kids 0 := by rw [L.deep, hk]; exact deepOf_shi _ E.d0 _ _
  have hv : shi K (S.nodes.length : Int) = (S'.nodes.length : Int) := by unfold shi; rw [if_pos (by omega), hl]; omega
  simp only [go, addL, if_pos L.fc] at g
  simp only [go, addL, if_pos L.fc', hd] at g'
  by_cases h1 : S.nodes.length = 131072
  ·simp only [if_pos h1] at g
   by_cases h2 : S'.nodes.length = 131072
   ·simp only [if_pos h2] at g'
    exact wr (by decide) L.fc (fun _ => L.fc') g g'
   ·refine wl ?_ (by decide) L.fc g
    cases hs : strict with
    | false => rfl
    | true => have := (E.st hs).2; omega
  ·simp only [if_neg h1] at g
   by_cases h2 : S'.nodes.length = 131072
   ·simp only [if_pos h2] at g'
    refine .inr (.inr ⟨?_, ?_⟩)
    ·cases hs : strict with
     | false => rfl
     | true => have := (E.st hs).2; omega
    ·rw [stick_go st' _ _ _ _ (by rw [wrong_live T' 2 L.fc']; exact (by decide : ¬ (2 : Int) = 0)) g', wrong_live T' 2 L.fc']
   ·simp only [if_neg h2] at g'
    by_cases h3 : deepOf S.deep kids 0 > 200
    ·simp only [if_pos h3] at g g'
     refine dead ?_ (fun _ => ?_) g g'
     ·exact wrong_ne T 6 (by exact L.fc) (by decide)
     ·exact (wrong_fc T' 6 (by exact L.fc')).trans (wrong_fc T 6 (by exact L.fc)).symm
    ·simp only [if_neg h3] at g g'
     rw [← hv] at g'
     refine q _ _ _ _ _ _ _ ?_ (by exact ⟨c.lt, c.nx⟩) g g'
     refine ⟨L.fc, L.fc', L.nest, ?_, ⟨N ++ [⟨kind, pos', x, n, kids'⟩], ?_, NdsR.snoc ⟨n2, n3⟩ ⟨rfl, rfl, rfl, hpos, hk⟩⟩, L.idx⟩
     ·show S'.deep ++ _ = _; rw [L.deep, List.append_assoc]
     ·show S'.nodes ++ _ = _; rw [n1, List.append_assoc]
 | call ho hp hn _ q =>
  rename_i op1 op1' k k' _
  intro S S' l l' S1 S1' L c g g'
  simp only [go] at g g'
  cases e1 : rec op1 S with
  | none => rw [e1] at g; cases g
  | some r =>
   cases e2 : rec' op1' S' with
   | none => rw [e2] at g'; cases g'
   | some r' =>
    rw [e1] at g
    rw [e2] at g'
    have key : Lv stop nA o K N0 D0 false S S' → Out strict stop nA o K N0 D0 (may op l) (RR K op l l') S1 S1' := fun L0 => by
     rcases ih op1 op1' S S' r.1 r'.1 r.2 r'.2 ho (fun h => ⟨c.lt (by rw [hn h]; decide), c.nx (hn h)⟩) L0 e1 e2 with ⟨L2, hR⟩ | ⟨h1, h2⟩ | ⟨h1, h2⟩
     ·exact q _ _ hR _ _ _ _ _ _ L2 .zero g g'
     ·exact dead h1 h2 g g'
     ·refine .inr (.inr ⟨h1, ?_⟩)
      rw [stick_go st' _ _ _ _ (by rw [h2]; decide) g', h2]
    rcases L.idx with i | ⟨i1, i2, i3, i4⟩
    ·exact key ⟨L.fc, L.fc', L.nest, L.deep, L.nodes, .inl i⟩
    ·have ha : AtE T S := ⟨L.fc, by rw [i3, E.len], by rw [i3]; exact E.fin⟩
     have hf : strict = false := by
      cases hs : strict with
      | false => rfl
      | true => have := (E.st hs).1; rw [i2] at this; cases this
     have hx := fa _ _ _ _ (hp i1) ha e1
     refine .inr (.inl ⟨?_, fun h => by rw [hf] at h; cases h⟩)
     rw [stick_go st _ _ _ _ hx g]
     exact hx
theorem sim (E : Side strict stop T T' nA o K N0 D0) : ∀ n, SimR strict stop T nA o K N0 D0 (run T n) (run T' n)
 | 0 => fun _ _ _ _ _ _ _ _ _ _ _ h => by cases h
 | n + 1 => fun op op' S S' l l' S1 S1' ho hn L g g' => by
  rw [run_body] at g g'
  refine sim_go E (stick T n) (stick T' n) (fails T n) (sim E n) (pr_body ho) S S' l l' S1 S1' L ?_ g g'
  by_cases h : isNamed op = true
  ·rw [if_pos h]; exact ⟨fun _ => (hn h).1, fun _ => (hn h).2⟩
  ·rw [if_neg h]; exact .zero
end
end Go.Proofs.YtcbgpjlcfkkdlaaGreatDoor

namespace Go.Proofs.YtcbgpjlcfkkdlaaGreatDoor
open Go Go.AL Go.Proofs
theorem mono_go {T : List Tk} {rec rec' : Op → St → Option Res} (ih : ∀ op S r, rec op S = some r → rec' op S = some r) : ∀ (p : P) (S : St) (r : Res), go T rec p S = some r → go T rec' p S = some r := by
 intro p
 induction p with
 | ret l => exact fun _ _ h => h
 | stuck => exact fun _ _ h => h
 | ok a b ia ib => intro S r h; simp only [go] at h ⊢; split at h; (rename_i hc; rw [if_pos hc]; exact ia _ _ h); (rename_i hc; rw [if_neg hc]; exact ib _ _ h)
 | is x a b ia ib => intro S r h; simp only [go] at h ⊢; split at h; (rename_i hc; rw [if_pos hc]; exact ia _ _ h); (rename_i hc; rw [if_neg hc]; exact ib _ _ h)
 | test x a b ia ib => intro S r h; simp only [go] at h ⊢; split at h; (rename_i hc; rw [if_pos hc]; exact ia _ _ h); (rename_i hc; rw [if_neg hc]; exact ib _ _ h)
 | room a b ia ib => intro S r h; simp only [go] at h ⊢; split at h; (rename_i hc; rw [if_pos hc]; exact ia _ _ h); (rename_i hc; rw [if_neg hc]; exact ib _ _ h)
 | ends a b ia ib => intro S r h; simp only [go] at h ⊢; split at h; (rename_i hc; rw [if_pos hc]; exact ia _ _ h); (rename_i hc; rw [if_neg hc]; exact ib _ _ h)
 | targ i a b ia ib => intro S r h; simp only [go] at h ⊢; split at h; (rename_i hc; rw [if_pos hc]; exact ia _ _ h); (rename_i hc; rw [if_neg hc]; exact ib _ _ h)
 | live a ia => intro S r h; simp only [go] at h ⊢; split at h; (cases h); (rename_i hc; rw [if_neg hc]; exact ia _ _ h)
 | peek k q => exact fun S r h => q _ _ _ h
 | next k q => exact fun S r h => q _ _ _ h
 | nextm k q => exact fun S r h => q _ _ _ h
 | name k q => exact fun S r h => q _ _ _ h
 | add _ _ _ _ _ k q => exact fun S r h => q _ _ _ h
 | step a q => exact fun S r h => q _ _ h
 | down a q => exact fun S r h => q _ _ h
 | up a q => exact fun S r h => q _ _ h
 | fend a q => exact fun S r h => q _ _ h
 | must x a q => exact fun S r h => q _ _ h
 | wrong e a q => exact fun S r h => q _ _ h
 | fault e o a q => exact fun S r h => q _ _ h
 | call op k q =>
  intro S r h
  simp only [go] at h ⊢
  cases e : rec op S with
  | none => rw [e] at h; cases h
  | some z => rw [e] at h; rw [ih _ _ _ e]; exact q _ _ _ h
theorem run_mono1 (T : List Tk) : ∀ n op S r, run T n op S = some r → run T (n + 1) op S = some r
 | 0, _, _, _, h => by cases h
 | n + 1, op, S, r, h => by rw [run_body] at h ⊢; exact mono_go (run_mono1 T n) _ _ _ h
theorem run_mono (T : List Tk) {n m : Nat} (h : n ≤ m) {op : Op} {S : St} {r : Res} (hr : run T n op S = some r) : run T m op S = some r := by
 induction h with
 | refl => exact hr
 | step _ ih => exact run_mono1 T _ _ _ _ ih
inductive Bl : Bool → P → Prop
 | ret {l} : Bl false (.ret l)
 | stuck {d} : Bl d .stuck
 | ok {d a b} (h : Bl d a) : Bl d (.ok a b)
 | is {d x a b} (h : Bl d a) (h' : Bl d b) : Bl d (.is x a b)
 | test {d f a b} (h : Bl d a) (h' : Bl d b) : Bl d (.test f a b)
 | room {d a b} (h : Bl d a) (h' : Bl d b) : Bl d (.room a b)
 | ends {d a b} (h : Bl d a) (h' : Bl d b) : Bl d (.ends a b)
 | targ {d i a b} (h : Bl d a) (h' : Bl d b) : Bl d (.targ i a b)
 | peek {d k} (h : ∀ t, Bl d (k t)) : Bl d (.peek k)
 | next {d k} (h : ∀ t, Bl d (k t)) : Bl d (.next k)
 | nextm {d k} (h : ∀ t, Bl d (k t)) : Bl d (.nextm k)
 | name {d k} (h : ∀ t, Bl d (k t)) : Bl d (.name k)
 | live {d a} (h : Bl d a) : Bl d (.live a)
 | step {d a} (h : Bl d a) : Bl d (.step a)
 | fend {d a} (h : Bl d a) : Bl d (.fend a)
 | must {d x a} (h : Bl d a) : Bl d (.must x a)
 | down {a} (h : Bl true a) : Bl false (.down a)
 | up {a} (h : Bl false a) : Bl true (.up a)
 | wrong {d e a} (h : ¬ e = 0) : Bl d (.wrong e a)
 | fault {d e o a} (h : ¬ e = 0) : Bl d (.fault e o a)
 | add {d kind pos x n kids k} (h : ∀ v, Bl d (k v)) : Bl d (.add kind pos x n kids k)
 | call {d op k} (h : ∀ l, Bl d (k l)) : Bl d (.call op k)
 | ite {d} {c : Prop} [Decidable c] {a b} (h : Bl d a) (h' : Bl d b) : Bl d (if c then a else b)
theorem bl_body (op : Op) : Bl false (body op) := by
 cases op <;> simp only [body]
 all_goals
  repeat' first
   | exact Bl.ret | exact Bl.stuck | exact Bl.wrong (by decide) | exact Bl.fault (by decide)
   | refine Bl.ok ?_ | refine Bl.is ?_ ?_ | refine Bl.test ?_ ?_ | refine Bl.room ?_ ?_ | refine Bl.ends ?_ ?_ | refine Bl.targ ?_ ?_
   | refine Bl.peek fun _ => ?_ | refine Bl.next fun _ => ?_ | refine Bl.name fun _ => ?_ | refine Bl.add fun _ => ?_ | refine Bl.call fun _ => ?_
   | refine Bl.live ?_ | refine Bl.step ?_ | refine Bl.fend ?_ | refine Bl.must ?_ | refine Bl.down ?_ | refine Bl.up ?_ | refine Bl.ite ?_ ?_
def Nst (d : Bool) (S S1 : St) : Prop := (-9223372036854775808 ≤ S.nest ∧ S.nest < 9223372036854775808 → -9223372036854775808 ≤ S1.nest ∧ S1.nest < 9223372036854775808) ∧ (S1.nest + (if d = true then 1 else 0) - S.nest) % 18446744073709551616 = 0
section
variable {T : List Tk} {rec : Op → St → Option Res} {S : St}
theorem nest_wrong (e : Int) : (wrongL T e S).nest = S.nest := by unfold wrongL; split <;> rfl
theorem nest_must (x : List UInt8) : (mustL T x S).nest = S.nest := by unfold mustL; split; (rfl); (exact nest_wrong _)
theorem nest_name : (nameR T S).2.nest = S.nest := by unfold nameR; split; (rfl); (exact nest_wrong _)
theorem nest_end : (endL T S).nest = S.nest := by unfold endL; split; (rfl); (split; (rfl); exact nest_wrong _)
theorem nest_add (kind pos : Int) (x : List UInt8) (n : Int) (kids : List Int) : (addL T kind pos x n kids S).2.nest = S.nest := by
 unfold addL
 split
 ·split
  ·exact nest_wrong _
  ·simp only
   split
   ·exact nest_wrong _
   ·rfl
 ·rfl
theorem bl_go (st : Stick rec) (ih : ∀ op S l S1, rec op S = some (l, S1) → S1.fc = 0 → Nst false S S1) {d : Bool} {p : P} (hp : Bl d p) : ∀ (S : St) (l : List Int) (S1 : St), go T rec p S = some (l, S1) → S1.fc = 0 → Nst d S S1 := by
 have same : ∀ {d : Bool} {S S2 S1 : St}, Nst d S2 S1 → S2.nest = S.nest → Nst d S S1 := fun h e => by unfold Nst at h ⊢; rw [e] at h; exact h
 induction hp with
 | ret => intro S l S1 h _; simp only [go, Option.some.injEq, Prod.mk.injEq] at h; rw [← h.2]; exact ⟨id, by simp⟩
 | stuck => intro S l S1 h; cases h
 | ok _ q =>
  intro S l S1 h hf
  simp only [go] at h
  split at h
  ·exact q _ _ _ h hf
  ·rename_i hc; exact absurd ((stick_go st _ _ _ _ hc h).symm.trans hf) hc
 | is _ _ q q' => intro S l S1 h hf; simp only [go] at h; split at h; (exact q _ _ _ h hf); (exact q' _ _ _ h hf)
 | test _ _ q q' => intro S l S1 h hf; simp only [go] at h; split at h; (exact q _ _ _ h hf); (exact q' _ _ _ h hf)
 | room _ _ q q' => intro S l S1 h hf; simp only [go] at h; split at h; (exact q _ _ _ h hf); (exact q' _ _ _ h hf)
 | ends _ _ q q' => intro S l S1 h hf; simp only [go] at h; split at h; (exact q _ _ _ h hf); (exact q' _ _ _ h hf)
 | targ _ _ q q' => intro S l S1 h hf; simp only [go] at h; split at h; (exact q _ _ _ h hf); (exact q' _ _ _ h hf)
 | peek _ q => exact fun S l S1 h hf => q _ _ _ _ h hf
 | next _ q => exact fun S l S1 h hf => q _ _ _ _ h hf
 | nextm _ q => exact fun S l S1 h hf => q _ _ _ _ h hf
 | name _ q => exact fun S l S1 h hf => same (q _ _ _ _ h hf) nest_name
 | live _ q => intro S l S1 h hf; simp only [go] at h; split at h; (cases h); (exact q _ _ _ h hf)
 | step _ q => exact fun S l S1 h hf => same (S2 := stepL S) (q _ _ _ h hf) rfl
 | fend _ q => exact fun S l S1 h hf => same (q _ _ _ h hf) nest_end
 | must _ q => exact fun S l S1 h hf => same (q _ _ _ h hf) (nest_must _)
 | down _ q =>
  intro S l S1 h hf
  have h1 := q _ _ _ h hf
  have h2 : (downL T S).nest = IntKind.i64.wrap (S.nest + 1) := by unfold downL; simp only; split; (exact nest_wrong _); (rfl)
  unfold Nst at h1 ⊢
  rw [h2, IntKind.wrap_i64] at h1
  obtain ⟨h1, h3⟩ := h1
  simp only [if_true] at h3
  refine ⟨fun h => h1 (by omega), ?_⟩
  simp only [Bool.false_eq_true, if_false]
  omega
 | up _ q =>
  intro S l S1 h hf
  have h1 := q _ _ _ h hf
  have h2 : (upL S).nest = IntKind.i64.wrap (S.nest - 1) := rfl
  unfold Nst at h1 ⊢
  rw [h2, IntKind.wrap_i64] at h1
  obtain ⟨h1, h3⟩ := h1
  simp only [Bool.false_eq_true, if_false] at h3
  refine ⟨fun h => h1 (by omega), ?_⟩
  simp only [if_true]
  omega
 | wrong he =>
  intro S l S1 h hf
  by_cases hc : S.fc = 0
  ·have e := stick_go st _ _ _ _ (wrong_ne T _ hc he) h
   rw [wrong_fc T _ hc] at e
   exact absurd (e.symm.trans hf) he
  ·simp only [go] at h
   rw [wrong_dead T _ hc] at h
   exact absurd ((stick_go st _ _ _ _ hc h).symm.trans hf) hc
 | fault he =>
  intro S l S1 h hf
  simp only [go] at h
  split at h
  ·exact absurd ((stick_go st _ { S with fc := _, fa := _ } _ _ he h).symm.trans hf) he
  ·rename_i hc; exact absurd ((stick_go st _ _ _ _ hc h).symm.trans hf) hc
 | add _ q => exact fun S l S1 h hf => same (q _ _ _ _ h hf) (nest_add _ _ _ _ _)
 | call _ q =>
  intro S l S1 h hf
  simp only [go] at h
  rename_i op k _
  cases e : rec op S with
  | none => rw [e] at h; cases h
  | some r =>
   rw [e] at h
   have h1 := q _ _ _ _ h hf
   have h0 : r.2.fc = 0 := by
    by_cases hc : r.2.fc = 0
    ·exact hc
    ·exact absurd ((stick_go st _ _ _ _ hc h).symm.trans hf) hc
   have h2 := ih _ _ _ _ e h0
   unfold Nst at h1 h2 ⊢
   simp only [Bool.false_eq_true, if_false] at h2
   exact ⟨fun h => h1.1 (h2.1 h), by have := h1.2; omega⟩
 | ite _ _ q q' => intro S l S1 h hf; split at h; (exact q _ _ _ h hf); (exact q' _ _ _ h hf)
theorem bl_run (T : List Tk) : ∀ n op S l S1, run T n op S = some (l, S1) → S1.fc = 0 → Nst false S S1
 | 0, _, _, _, _, h, _ => by cases h
 | n + 1, op, S, l, S1, h, hf => by rw [run_body] at h; exact bl_go (stick T n) (bl_run T n) (bl_body op) _ _ _ h hf
theorem nest_zero {n : Nat} {op : Op} {l : List Int} {S1 : St} (h : run T n op S = some (l, S1)) (hf : S1.fc = 0) (h0 : S.nest = 0) : S1.nest = 0 := by
 have h1 := bl_run T n op S l S1 h hf
 unfold Nst at h1
 rw [h0] at h1
 simp only [Bool.false_eq_true, if_false] at h1
 have h2 := h1.1 (by decide)
 have h3 := h1.2
 omega
end
abbrev ELSE : List UInt8 := [101, 108, 115, 101]
def fe : Op → Bool
 | .primary => true
 | .postf => true
 | .unary => true
 | .binary _ => true
 | .cond _ => true
 | .expr => true
 | _ => false
inductive Fe : P → Prop
 | ok {a b} (h : Fe a) : Fe (.ok a b)
 | is {x a b} (hx : ¬ x = ELSE) (h : Fe b) : Fe (.is x a b)
 | test {f a b} (hf : ∀ t : Tk, isT ELSE t = true → f t = false) (h : Fe b) : Fe (.test f a b)
 | peek {k} (h : ∀ t : Tk, isT ELSE t = true → Fe (k t)) : Fe (.peek k)
 | down {a} (h : Fe a) : Fe (.down a)
 | wrong {e a} (h : ¬ e = 0) : Fe (.wrong e a)
 | call {op k} (h : fe op = true) : Fe (.call op k)
 | ite {c : Prop} [Decidable c] {a b} (h : Fe a) (h' : Fe b) : Fe (if c then a else b)
theorem isT_iff {x : List UInt8} {t : Tk} : isT x t = true ↔ (t.kind = 5 ∨ t.kind = 2) ∧ t.text = x := by unfold isT; simp
theorem isT_other {x y : List UInt8} {t : Tk} (h : isT y t = true) (hx : ¬ x = y) : isT x t = false := by
 cases e : isT x t with
 | false => rfl
 | true => rw [isT_iff] at e h; exact absurd (e.2.symm.trans h.2) hx
theorem fe_body (op : Op) (h : fe op = true) : Fe (body op) := by
 cases op <;> first | (exfalso; cases h; done) | simp only [body]
 all_goals
  repeat' first
   | exact Fe.wrong (by decide) | exact Fe.call rfl
   | refine Fe.ok ?_ | refine Fe.is (by decide) ?_ | refine Fe.down ?_ | refine Fe.peek fun _ _ => ?_ | refine Fe.ite ?_ ?_
   | refine Fe.test (fun t h => by rw [isT_iff] at h; obtain ⟨h1, h2⟩ := h; rcases h1 with h1 | h1 <;> simp only [h1, h2] <;> decide) ?_
section
variable {T : List Tk} {rec : Op → St → Option Res}
def FailsE (T : List Tk) (rec : Op → St → Option Res) : Prop := ∀ op S l S1, fe op = true → S.fc = 0 → isT ELSE (peekL T S) = true → rec op S = some (l, S1) → ¬ S1.fc = 0
theorem failsE_go (st : Stick rec) (ih : FailsE T rec) {p : P} (hp : Fe p) : ∀ (S : St) (l : List Int) (S1 : St), S.fc = 0 → isT ELSE (peekL T S) = true → go T rec p S = some (l, S1) → ¬ S1.fc = 0 := by
 have dead : ∀ {p : P} {S : St} {l S1}, ¬ S.fc = 0 → go T rec p S = some (l, S1) → ¬ S1.fc = 0 := fun h g => by rw [stick_go st _ _ _ _ h g]; exact h
 induction hp with
 | ok _ q => intro S l S1 h he g; simp only [go, if_pos h] at g; exact q _ _ _ h he g
 | is hx _ q => intro S l S1 h he g; have e : isL T _ S = false := isT_other he hx; simp only [go, e] at g; exact q _ _ _ h he g
 | test hf _ q => intro S l S1 h he g; simp only [go, hf _ he] at g; exact q _ _ _ h he g
 | peek _ q => exact fun S l S1 h he g => q _ he _ _ _ h he g
 | down _ q =>
  intro S l S1 h he g
  simp only [go, downL] at g
  split at g
  ·exact dead (wrong_ne T 6 (by exact h) (by decide)) g
  ·exact q _ _ _ (by exact h) (by exact he) g
 | wrong hn => exact fun S l S1 h he g => dead (wrong_ne T _ h hn) g
 | call ho =>
  intro S l S1 h he g
  simp only [go] at g
  rename_i op k
  cases e : rec op S with
  | none => rw [e] at g; cases g
  | some r => rw [e] at g; exact dead (ih _ _ _ _ ho h he e) g
 | ite _ _ q q' => intro S l S1 h he g; split at g; (exact q _ _ _ h he g); (exact q' _ _ _ h he g)
theorem failsE (T : List Tk) : ∀ n, FailsE T (run T n)
 | 0 => fun _ _ _ _ _ _ _ h => by cases h
 | n + 1 => fun op S l S1 ho h he g => by rw [run_body] at g; exact failsE_go (stick T n) (failsE T n) (fe_body op ho) _ _ _ h he g
theorem go_down {a : P} {S : St} : go T rec (.down a) S = go T rec a (downL T S) := rfl
theorem go_peek {k : Tk → P} {S : St} : go T rec (.peek k) S = go T rec (k (peekL T S)) S := rfl
theorem go_test {f : Tk → Bool} {a b : P} {S : St} : go T rec (.test f a b) S = if f (peekL T S) = true then go T rec a S else go T rec b S := rfl
theorem go_call {op : Op} {k : List Int → P} {S : St} : go T rec (.call op k) S = (rec op S).bind fun r => go T rec (k r.1) r.2 := rfl
theorem stmt_else {n : Nat} {S : St} {l : List Int} {S1 : St} (h : S.fc = 0) (he : isT ELSE (peekL T S) = true) (g : run T n .stmt S = some (l, S1)) : ¬ S1.fc = 0 := by
 cases n with
 | zero => cases g
 | succ n =>
  rw [run_body] at g
  simp only [body, go_down, go_peek] at g
  obtain ⟨S2, h2⟩ : ∃ S2, downL T S = S2 := ⟨_, rfl⟩
  rw [h2] at g
  by_cases hd : S2.fc = 0
  ·have hp : peekL T S2 = peekL T S := by
    rw [← h2]
    unfold downL
    simp only
    split
    ·rename_i hx
     rw [← h2] at hd
     unfold downL at hd
     simp only [if_pos hx] at hd
     exact absurd hd (wrong_ne T 6 (by exact h) (by decide))
    ·rfl
   have he2 : isT ELSE (peekL T S2) = true := by rw [hp]; exact he
   have rest : ∀ {q : P} {l : List Int} {S1 : St}, Fe q → go T (run T n) q S2 = some (l, S1) → ¬ S1.fc = 0 := fun hq hg => failsE_go (stick T n) (failsE T n) hq _ _ _ hd he2 hg
   rw [go_test] at g
   split at g
   ·rw [go_peek, go_call] at g
    cases e : run T n (.word (peekL T S2)) S2 with
    | none => rw [e] at g; cases g
    | some r =>
     have hr : r = ([0, 0], S2) := by
      cases n with
      | zero => cases e
      | succ m =>
       rw [run_body] at e
       have hx := (isT_iff.1 he2).2
       have hk : ¬ (peekL T S2).kind = 6 := by rcases (isT_iff.1 he2).1 with q | q <;> rw [q] <;> decide
       simp only [body, go, if_neg hk, hx] at e
       injection e with e
       exact e.symm
     rw [e, hr] at g
     exact rest (.is (by decide) (.is (by decide) (.call rfl))) g
   ·exact rest (.is (by decide) (.is (by decide) (.call rfl))) g
  ·rw [stick_go (stick T n) _ S2 l S1 hd g]
   exact hd
end
end Go.Proofs.YtcbgpjlcfkkdlaaGreatDoor

