/-
  The abstract logic, 7g: slices that are made and that grow.
-/
import Derived.Test.YtgcpgoggngkbjaaDoorAL7
set_option linter.unusedSimpArgs false
set_option linter.unusedVariables false
namespace Go.AL
open Go Go.RowKit

def Fin.ext (F : Fin) (b lo k : Nat) (arr : Array Value) : Fin := fun c o => if c = b ∧ lo ≤ o ∧ o < k then arr[o]? else F c o

section
variable {P : Program} {w0 : Base} {w w' : World} {F : Fin} {h g : Heap}

theorem Inv.extend (hi : Inv w0 F w h) {b lo k e : Nat} {arr : Array Value} {t : TypeId} (hN : ¬ w0.fr b) (hb : w'.heap[b]? = some (.cells arr t (0, 0))) (hsz : arr.size = e)
    (hlo : ∀ o, lo ≤ o → F b o = none) (hlk : lo ≤ k) (hke : k ≤ e) (hone : ∀ o, lo ≤ o → o < k → (arr.getD o undef).oneCell' = true) (hold : ∀ o v, F b o = some v → arr[o]? = some v)
    (hfr : Frm w0 w') (hoth : ∀ c, c ≠ b → c < w.heap.size → w'.heap[c]? = w.heap[c]?) (hg : ∀ c x, c ≠ b → g c = some x → h c = some x) :
    Mono F (F.ext b lo k arr) ∧ Inv w0 (F.ext b lo k arr) w' (g.set b (.spare k e)) := by
  have hm : Mono F (F.ext b lo k arr) := by
    intro c o v hv
    unfold Fin.ext
    split
    · rename_i hc
      obtain ⟨rfl, h1, h2⟩ := hc
      rw [hlo o h1] at hv; cases hv
    · exact hv
  refine ⟨hm, hfr, ?_, ?_, ?_⟩
  · intro c o v hv
    unfold Fin.ext at hv
    split at hv
    · rename_i hc
      obtain ⟨rfl, h1, h2⟩ := hc
      refine ⟨by simp [World.cell?, hb, hv], ?_⟩
      have := hone o h1 h2
      simpa [Array.getD_eq_getD_getElem?, hv] using this
    · have h1 := hi.fin c o v hv
      refine ⟨?_, h1.2⟩
      by_cases hc : c = b
      · subst hc
        simp [World.cell?, hb, hold o v hv]
      · have hlt := World.block_lt_of_cell? w _ h1.1
        rw [World.cell?_of_block (w := w) (hoth c hc hlt)]
        exact h1.1
  · intro c o hc
    have : c ≠ b := fun e => hN (e ▸ hc)
    simp [Fin.ext, this, hi.fin0 c o hc]
  · intro c x hx
    by_cases hc : c = b
    · subst hc
      simp at hx
      subst hx
      refine ⟨hN, ?_, arr, t, hb, hsz, hke⟩
      intro o ho
      simp [Fin.ext, show ¬ o < k by omega, hlo o (by omega)]
    · rw [Heap.set_other _ _ _ _ hc] at hx
      have h1 := hi.blk c x (hg c x hc hx)
      refine ⟨h1.1, ?_⟩
      have hw := hoth c hc h1.2.lt
      cases x with
      | cells cs =>
        obtain ⟨k1, a, t', k2, k3, k4, k5⟩ := h1.2
        exact ⟨fun o => by simp [Fin.ext, hc, k1 o], a, t', hw.trans k2, k3, fun i hi => (k4 i hi).mono hm, k5⟩
      | spare k e =>
        obtain ⟨k1, a, t', k2, k3⟩ := h1.2
        exact ⟨fun o ho => by simp [Fin.ext, hc, k1 o ho], a, t', hw.trans k2, k3⟩
      | gint =>
        obtain ⟨k1, m, k2⟩ := h1.2
        exact ⟨(BlkOk.of_block (F := F) (x := .gint) ⟨k1, m, k2⟩ hw).1, m, hm _ _ _ k2⟩
      | tab arr =>
        obtain ⟨⟨v, k1⟩, t', z, k2⟩ := h1.2
        exact ⟨⟨v, hm _ _ _ k1⟩, t', z, hw.trans k2⟩

theorem getD_flatten {sz : Nat} : ∀ (rows : List (List AV)), (∀ r ∈ rows, r.length = sz) → ∀ i j, i < rows.length → j < sz → rows.flatten.getD (i * sz + j) .any = (rows.getD i []).getD j .any
  | [], _, i, j, hi, _ => by simp at hi
  | r :: rows, hl, i, j, hi, hj => by
    have hr := hl r (by simp)
    cases i with
    | zero =>
      simp only [List.flatten_cons, Nat.zero_mul, Nat.zero_add, List.getD, List.getElem?_cons_zero, Option.getD_some]
      rw [List.getElem?_append_left (by omega)]
    | succ i =>
      have ih := getD_flatten rows (fun r hr => hl r (by simp [hr])) i j (by simpa using hi) hj
      simp only [List.flatten_cons, List.getD, List.getElem?_cons_succ] at ih ⊢
      rw [List.getElem?_append_right (by rw [hr, Nat.add_mul]; omega), ← ih, hr]
      congr 2
      rw [Nat.add_mul]; omega

theorem length_flatten {sz : Nat} : ∀ (rows : List (List AV)), (∀ r ∈ rows, r.length = sz) → rows.flatten.length = rows.length * sz
  | [], _ => by simp
  | r :: rows, hl => by simp [hl r (by simp), length_flatten rows (fun r hr => hl r (by simp [hr])), Nat.add_mul]; omega

theorem Rep.list_inv {v : Value} {sz : Nat} {rows : List (List AV)} {tok : Tok} (hr : Rep F v (.list sz rows tok)) :
    (∃ a, v = .slice a 0 0 ∧ rows = [] ∧ (tok = .nil ∨ tok = .no ∨ tok = .full)) ∨
    ∃ b o cap, ∃ news : List Value, v = .slice (some ⟨b, o, none⟩) rows.length cap ∧ rows.length ≤ cap ∧ news.length = rows.length * sz ∧ (∀ r ∈ rows, r.length = sz) ∧
      (∀ q, q < rows.length * sz → F b (o + q) = some (news.getD q undef) ∧ Rep F (news.getD q undef) (rows.flatten.getD q .any)) ∧ tok.ok b o rows.length cap sz := by
  cases hr with
  | listNil => exact .inl ⟨none, rfl, rfl, .inl rfl⟩
  | listNo => exact .inl ⟨none, rfl, rfl, .inr (.inl rfl)⟩
  | listFull => exact .inl ⟨none, rfl, rfl, .inr (.inr rfl)⟩
  | listE a => exact .inl ⟨some a, rfl, rfl, .inr (.inl rfl)⟩
  | listEF a => exact .inl ⟨some a, rfl, rfl, .inr (.inr rfl)⟩
  | list b o cap sz n rows t cv hn hc hl h hr ht =>
    subst hn
    refine .inr ⟨b, o, cap, (List.range (rows.length * sz)).map fun q => cv (q / sz) (q % sz), rfl, hc, by simp, hl, fun q hq => ?_, ht⟩
    have hsz : 0 < sz := Nat.pos_of_ne_zero fun e => by simp [e] at hq
    have h1 : q / sz < rows.length := Nat.div_lt_of_lt_mul (by rw [Nat.mul_comm]; exact hq)
    have h2 : q % sz < sz := Nat.mod_lt _ hsz
    have h3 : q / sz * sz + q % sz = q := by rw [Nat.mul_comm]; exact Nat.div_add_mod q sz
    have h4 : ((List.range (rows.length * sz)).map fun q => cv (q / sz) (q % sz)).getD q undef = cv (q / sz) (q % sz) := by simp [List.getD, hq]
    rw [h4]
    refine ⟨?_, ?_⟩
    · rw [← h _ _ h1 h2]; congr 1; omega
    · have := getD_flatten rows hl (q / sz) (q % sz) h1 h2
      rw [h3] at this
      rw [this]
      exact hr _ _ h1 h2

theorem Rep.mk_list {b o cap sz : Nat} {rows : List (List AV)} {tok : Tok} (val : Nat → Value) (hl : ∀ r ∈ rows, r.length = sz) (hc : rows.length ≤ cap)
    (hF : ∀ q, q < rows.length * sz → F b (o + q) = some (val q) ∧ Rep F (val q) (rows.flatten.getD q .any)) (ht : tok.ok b o rows.length cap sz) :
    Rep F (.slice (some ⟨b, o, none⟩) rows.length cap) (.list sz rows tok) := by
  have key : ∀ i j, i < rows.length → j < sz → i * sz + j < rows.length * sz := fun i j hi hj => by
    have : (i + 1) * sz ≤ rows.length * sz := Nat.mul_le_mul_right _ (by omega)
    rw [Nat.add_mul] at this; omega
  refine .list b o cap sz rows.length rows tok (fun i j => val (i * sz + j)) rfl hc hl (fun i j hi hj => ?_) (fun i j hi hj => ?_) ht
  · rw [show o + i * sz + j = o + (i * sz + j) by omega]
    exact (hF _ (key i j hi hj)).1
  · rw [← getD_flatten rows hl i j hi hj]
    exact (hF _ (key i j hi hj)).2

/-! ### append -/

theorem run_append_none (t ty el : TypeId) {i : TypeInfo} (ht : P.underlying t = some (.slice el)) (hi : P.info? el = some i) (b a : Option Addr) (n cap c2 : Nat) (hn : n ≤ cap) (w : World) :
    (Builtin.append_ #[t, t] ty #[.slice b n cap, .slice a 0 c2]).run P w = .ok (.slice b n cap) w := by
  have hf : (Builtin.firstCells i.size 0 (.slice a 0 c2)).run P w = .ok #[] w := by
    cases a with
    | none => simp [Builtin.firstCells]
    | some a => simp [Builtin.firstCells, loadCells, loadCellsFrom]
  cases b with
  | none => simp [Builtin.append_, run_underlying ht, sizeOf, typeInfo, hi, Builtin.lenOf, hf, hn]
  | some b => simp [Builtin.append_, run_underlying ht, sizeOf, typeInfo, hi, Builtin.lenOf, hf, hn, storeCells]

theorem run_append_room' (t ty e et : TypeId) (i : TypeInfo) (ht : P.underlying t = some (.slice e)) (hi : P.info? e = some i)
    (g sLen sCap : Nat) (cur : Array Value) (hg : w.heap[g]? = some (.cells cur et (0, 0)))
    (a : Addr) (m c : Nat) (news : List Value) (hl : news.length = m * i.size) (hnews : ∀ j u, news[j]? = some u → w.cell? (a.add j) = some u) (h1 : ∀ u ∈ news, u.oneCell' = true)
    (hroom : sLen + m ≤ sCap) (hfit : sLen * i.size + news.length ≤ cur.size) :
    (Builtin.append_ #[t, t] ty #[.slice (some ⟨g, 0, none⟩) sLen sCap, .slice (some a) m c]).run P w =
      .ok (.slice (some ⟨g, 0, none⟩) (sLen + m) sCap) (w.setRow g (cur.toList.take (sLen * i.size) ++ news ++ cur.toList.drop (sLen * i.size + news.length)).toArray) := by
  have hf := run_firstCells_some (P := P) w i.size m a m c news hl hnews
  have hst := run_storeCells_at P g (sLen * i.size) et news 0 cur w hg (by simpa using hfit) h1
  simp only [Nat.add_zero] at hst
  simp [Builtin.append_, run_underlying ht, sizeOf, typeInfo, hi, Builtin.lenOf, hroom, hf, Addr.add_lit, hst]

/-- Growing from nothing, whatever address the nothing bears. -/
theorem run_append_zero (t ty e : TypeId) (i : TypeInfo) (z : Value) (ht : P.underlying t = some (.slice e)) (hi : P.info? e = some i) (hz : i.zero = some z)
    (b : Option Addr) (a : Addr) (n c : Nat) (news : List Value) (hl : news.length = n * i.size) (hnews : ∀ j v, news[j]? = some v → w.cell? (a.add j) = some v)
    (h0 : 0 < n) (h63 : (n : Int) ≤ 9223372036854775807) (h48 : n * i.bytes ≤ 140737488355328) :
    (Builtin.append_ #[t, t] ty #[.slice b 0 0, .slice (some a) n c]).run P w =
      .ok (.slice (some ⟨w.heap.size, 0, none⟩) n (grownCap w n 0 e)) (w.drew.alloc (.cells (news.toArray ++ Builtin.zeroCells z.cells (grownCap w n 0 e - n)) e)) := by
  cases b with
  | none => exact run_append_nil w t ty e i z ht hi hz a n c news hl hnews h0 h63 (by omega)
  | some b =>
    have := run_append_grow (P := P) w t ty e i z ht hi hz b 0 0 [] (by simp) (by simp) a n c news hl hnews (by omega) (by simpa using h63) (by rw [Nat.zero_add, nextslicecap_zero h0]; omega)
    simpa using this

/-- The list's own spare room lies in memory. -/
def TokIn (h : Heap) : Tok → Prop
  | .nil | .full => True
  | .own b k e => h b = some (.spare k e)
  | .no => False
def Tok.rid (t : Tok) (h : Heap) : Heap := match t with | .own b _ _ => h.del b | _ => h
def SpareNew (h : Heap) (t : Tok) (b : Nat) : Prop := h b = none ∨ ∃ k e, t = .own b k e

theorem Tok.rid_get {t : Tok} {h : Heap} {c : Nat} {x : Blk} (e : t.rid h c = some x) : h c = some x := by
  unfold Tok.rid at e
  split at e
  · unfold Heap.del at e
    split at e
    · cases e
    · exact e
  · exact e

def Grown1 (w0 : Base) (F : Fin) (h : Heap) (tok : Tok) (sz : Nat) (rows : List (List AV)) (v' : Value) (w' : World) : Prop :=
  ∃ F' b k e, Mono F F' ∧ SpareNew h tok b ∧ Inv w0 F' w' ((tok.rid h).set b (.spare k e)) ∧ Rep F' v' (.list sz rows (.own b k e))

theorem append_new (hi : Inv w0 F w h) {sz n m c : Nat} {el : TypeId} {rows rows2 : List (List AV)} {olds news : List Value} {z : Array Value} {tok : Tok} (hz : z.size = sz)
    (hn : n = rows.length) (hm : m = rows2.length) (hl1 : ∀ r ∈ rows, r.length = sz) (hl2 : ∀ r ∈ rows2, r.length = sz) (ho : olds.length = n * sz) (hw : news.length = m * sz)
    (ro : ∀ q, q < n * sz → (olds.getD q undef).oneCell' = true ∧ Rep F (olds.getD q undef) (rows.flatten.getD q .any))
    (rn : ∀ q, q < m * sz → (news.getD q undef).oneCell' = true ∧ Rep F (news.getD q undef) (rows2.flatten.getD q .any)) (hc : n + m ≤ c) :
    Grown1 w0 F h tok sz (rows ++ rows2) (.slice (some ⟨w.heap.size, 0, none⟩) (n + m) c) (w.drew.alloc (.cells (olds.toArray ++ news.toArray ++ Builtin.zeroCells z (c - (n + m))) el)) := by
  have hf := hi.fresh
  have hsz : (olds.toArray ++ news.toArray ++ Builtin.zeroCells z (c - (n + m))).size = c * sz := by
    simp only [Array.size_append, List.size_toArray, size_zeroCells, hz, ho, hw, ← Nat.add_mul]
    congr 1; omega
  have hget : ∀ q, q < (n + m) * sz → (olds.toArray ++ news.toArray ++ Builtin.zeroCells z (c - (n + m)))[q]? = some ((olds ++ news).getD q undef) := by
    intro q hq
    rw [Array.getElem?_append_left (by simp [ho, hw, ← Nat.add_mul]; exact hq)]
    have h1 : q < (olds ++ news).length := by simp [ho, hw, ← Nat.add_mul]; exact hq
    have h2 : (olds.toArray ++ news.toArray)[q]? = (olds ++ news)[q]? := by simp
    rw [h2, List.getD, List.getElem?_eq_getElem h1]; rfl
  have hboth : ∀ q, q < (n + m) * sz → ((olds ++ news).getD q undef).oneCell' = true ∧ Rep F ((olds ++ news).getD q undef) ((rows ++ rows2).flatten.getD q .any) := by
    intro q hq
    have hfl : rows.flatten.length = n * sz := by rw [length_flatten rows hl1, hn]
    rw [List.flatten_append]
    by_cases h1 : q < n * sz
    · have := ro q h1
      simp only [List.getD] at this ⊢
      rw [List.getElem?_append_left (by omega), List.getElem?_append_left (by omega)]
      exact this
    · have := rn (q - n * sz) (by rw [Nat.add_mul] at hq; omega)
      simp only [List.getD] at this ⊢
      rw [List.getElem?_append_right (by omega), List.getElem?_append_right (by omega), ho, hfl]
      exact this
  have hmul : (n + m) * sz ≤ c * sz := Nat.mul_le_mul_right _ hc
  obtain ⟨k1, k2⟩ := hi.extend (g := tok.rid h) (w' := w.drew.alloc (.cells (olds.toArray ++ news.toArray ++ Builtin.zeroCells z (c - (n + m))) el)) (b := w.heap.size) (lo := 0) (k := (n + m) * sz) (e := c * sz)
    (fun e => absurd (hi.below.lt _ e) (by have := hi.below.size; omega)) (heap_alloc_new w.drew _) hsz (fun o _ => hf.2 o) (Nat.zero_le _) hmul
    (fun o _ ho' => by rw [Array.getD_eq_getD_getElem?, hget o ho']; exact (hboth o ho').1) (fun o v e => by rw [hf.2 o] at e; cases e) (hi.below.drew.alloc _)
    (fun c' _ hlt => Below.heap_alloc w.drew _ c' hlt) (fun c' x _ e => Tok.rid_get e)
  refine ⟨_, _, _, _, k1, .inl hf.1, k2, ?_⟩
  have hlen : (rows ++ rows2).length = n + m := by simp [hn, hm]
  have := Rep.mk_list (F := F.ext w.heap.size 0 ((n + m) * sz) (olds.toArray ++ news.toArray ++ Builtin.zeroCells z (c - (n + m)))) (b := w.heap.size) (o := 0) (cap := c) (sz := sz) (rows := rows ++ rows2) (tok := .own w.heap.size ((n + m) * sz) (c * sz))
    (fun q => (olds ++ news).getD q undef) (fun r hr => by rcases List.mem_append.1 hr with h | h; exact hl1 r h; exact hl2 r h) (by omega)
    (fun q hq => by
      rw [hlen] at hq
      refine ⟨?_, (hboth q hq).2.mono k1⟩
      simp only [Fin.ext, Nat.zero_add, Nat.zero_le, true_and, hq, and_self, if_true]
      exact hget q hq) ⟨rfl, rfl, by rw [hlen], rfl⟩
  rw [hlen] at this
  exact this

theorem append_sound (hi : Inv w0 F w h) {t ty el : TypeId} {i : TypeInfo} {z : Value} {v1 v2 : Value} {sz : Nat} {rows rows2 : List (List AV)} {tok tok2 : Tok} (ht : P.underlying t = some (.slice el)) (hie : P.info? el = some i)
    (hz : i.zero = some z) (hzs : z.cells.size = sz) (hsz : i.size = sz) (hpos : 0 < sz) (r1 : Rep F v1 (.list sz rows tok)) (r2 : Rep F v2 (.list sz rows2 tok2)) (hb : (rows.length + rows2.length) * i.bytes ≤ 140737488355328)
    (hmax : rows.length + rows2.length ≤ 9223372036854775807) (htok : rows2 ≠ [] → TokIn h tok) :
    (rows2 = [] ∧ (Builtin.append_ #[t, t] ty #[v1, v2]).run P w = .ok v1 w) ∨
    (rows2 ≠ [] ∧ ∃ v' w', (Builtin.append_ #[t, t] ty #[v1, v2]).run P w = .ok v' w' ∧ Grown1 w0 F h tok sz (rows ++ rows2) v' w') := by
  subst hsz
  by_cases hne : rows2 = []
  · subst hne
    refine .inl ⟨rfl, ?_⟩
    have e2 : ∃ a c, v2 = .slice a 0 c := by
      rcases r2.list_inv with ⟨a, e, _⟩ | ⟨b, o, cap, news, e, _⟩
      · exact ⟨a, 0, e⟩
      · exact ⟨_, _, e⟩
    have e1 : ∃ b n c, v1 = .slice b n c ∧ n ≤ c := by
      rcases r1.list_inv with ⟨a, e, _⟩ | ⟨b, o, cap, news, e, hc, _⟩
      · exact ⟨a, 0, 0, e, Nat.le_refl _⟩
      · exact ⟨_, _, _, e, hc⟩
    obtain ⟨a, c, rfl⟩ := e2
    obtain ⟨b, n, c', rfl, hn⟩ := e1
    exact run_append_none t ty el ht hie b a n c' c hn w
  · refine .inr ⟨hne, ?_⟩
    rcases r2.list_inv with ⟨a, e, e', _⟩ | ⟨b2, o2, cap2, news, rfl, hc2, hl2, hr2, hF2, _⟩
    · exact absurd e' hne
    have hm0 : 0 < rows2.length := List.length_pos_iff.2 hne
    have hn2 : ∀ q, q < rows2.length * i.size → w.cell? ⟨b2, o2 + q, none⟩ = some (news.getD q undef) ∧ (news.getD q undef).oneCell' = true := fun q hq => hi.fin _ _ _ (hF2 q hq).1
    have hnews : ∀ j u, news[j]? = some u → w.cell? ((⟨b2, o2, none⟩ : Addr).add j) = some u := by
      intro j u hj
      have hlt : j < news.length := (List.getElem?_eq_some_iff.1 hj).1
      have := (hn2 j (by omega)).1
      simp only [List.getD, hj, Option.getD_some] at this
      rw [addr_add]; exact this
    have hone : ∀ u ∈ news, u.oneCell' = true := by
      intro u hu
      obtain ⟨j, hj, rfl⟩ := List.getElem_of_mem hu
      have := (hn2 j (by omega)).2
      simpa [List.getD, hj] using this
    have rn : ∀ q, q < rows2.length * i.size → (news.getD q undef).oneCell' = true ∧ Rep F (news.getD q undef) (rows2.flatten.getD q .any) := fun q hq => ⟨(hn2 q hq).2, (hF2 q hq).2⟩
    have fresh0 : ∀ a : Option Addr, rows = [] → ∃ v' w', (Builtin.append_ #[t, t] ty #[.slice a 0 0, .slice (some ⟨b2, o2, none⟩) rows2.length cap2]).run P w = .ok v' w' ∧ Grown1 w0 F h tok i.size (rows ++ rows2) v' w' := by
      intro a hr
      subst hr
      have hrun := run_append_zero (P := P) (w := w) t ty el i z ht hie hz a ⟨b2, o2, none⟩ rows2.length cap2 news hl2 hnews hm0 (by simp at hmax; omega) (by simpa using hb)
      have := append_new (tok := tok) (el := el) (n := 0) (m := rows2.length) (c := grownCap w rows2.length 0 el) (rows := []) (rows2 := rows2) (olds := []) (news := news) (z := z.cells) hi hzs rfl rfl (by simp) hr2 (by simp) hl2 (fun q hq => by simp at hq) rn (by simpa using grownCap_ge w rows2.length 0 el)
      simp only [Nat.zero_add, List.nil_append, Array.empty_append] at this
      exact ⟨_, _, hrun, this⟩
    rcases r1.list_inv with ⟨a, rfl, hr, _⟩ | ⟨b, o, cap, olds, rfl, hc, hl1, hr1, hF1, hk⟩
    · exact fresh0 a hr
    have ho1 : ∀ q, q < rows.length * i.size → w.cell? ⟨b, o + q, none⟩ = some (olds.getD q undef) ∧ (olds.getD q undef).oneCell' = true := fun q hq => hi.fin _ _ _ (hF1 q hq).1
    have holds : ∀ j u, olds[j]? = some u → w.cell? ((⟨b, o, none⟩ : Addr).add j) = some u := by
      intro j u hj
      have hlt : j < olds.length := (List.getElem?_eq_some_iff.1 hj).1
      have := (ho1 j (by omega)).1
      simp only [List.getD, hj, Option.getD_some] at this
      rw [addr_add]; exact this
    have ro : ∀ q, q < rows.length * i.size → (olds.getD q undef).oneCell' = true ∧ Rep F (olds.getD q undef) (rows.flatten.getD q .any) := fun q hq => ⟨(ho1 q hq).2, (hF1 q hq).2⟩
    have grow : cap < rows.length + rows2.length → ∃ v' w', (Builtin.append_ #[t, t] ty #[.slice (some ⟨b, o, none⟩) rows.length cap, .slice (some ⟨b2, o2, none⟩) rows2.length cap2]).run P w = .ok v' w' ∧ Grown1 w0 F h tok i.size (rows ++ rows2) v' w' := by
      intro hlt
      have hrun := run_append_grow (P := P) w t ty el i z ht hie hz ⟨b, o, none⟩ rows.length cap olds hl1 holds ⟨b2, o2, none⟩ rows2.length cap2 news hl2 hnews hlt (by omega) (growslice_fits hlt hb)
      exact ⟨_, _, hrun, append_new (tok := tok) hi hzs rfl rfl hr1 hr2 hl1 hl2 ro rn (grownCap_ge w _ _ el)⟩
    have hT := htok hne
    cases tok with
    | no => exact hT.elim
    | nil => exact hk.elim
    | full => exact grow (by simp only [Tok.ok] at hk; omega)
    | own b' k e =>
      obtain ⟨rfl, rfl, rfl, rfl⟩ := hk
      by_cases hroom : rows.length + rows2.length ≤ cap
      · obtain ⟨hN, hFk, arr, et, hgb, hsa, hke⟩ := hi.blk _ _ hT
        have hfit : rows.length * i.size + news.length ≤ arr.size := by rw [hl2, hsa, ← Nat.add_mul]; exact Nat.mul_le_mul_right _ hroom
        have hrun := run_append_room' (P := P) t ty el et i ht hie b' rows.length cap arr hgb ⟨b2, o2, none⟩ rows2.length cap2 news hl2 hnews hone hroom hfit
        refine ⟨_, _, hrun, ?_⟩
        have hmul : (rows.length + rows2.length) * i.size ≤ cap * i.size := Nat.mul_le_mul_right _ hroom
        have hmul1 : rows.length * i.size ≤ cap * i.size := Nat.mul_le_mul_right _ hc
        have harr : ∀ q v, F b' q = some v → arr[q]? = some v := fun q v hv => by
          have := (hi.fin _ _ _ hv).1
          simpa [World.cell?, hgb] using this
        have hsz' : (arr.toList.take (rows.length * i.size) ++ news ++ arr.toList.drop (rows.length * i.size + news.length)).toArray.size = cap * i.size := by
          simp only [List.size_toArray, List.length_append, List.length_take, List.length_drop, Array.length_toList]
          omega
        have hlow : ∀ q, q < rows.length * i.size → (arr.toList.take (rows.length * i.size) ++ news ++ arr.toList.drop (rows.length * i.size + news.length)).toArray[q]? = arr[q]? := fun q hq => by
          rw [List.getElem?_toArray, List.append_assoc, List.getElem?_append_left (by simp; omega), List.getElem?_take_of_lt hq]
          simp
        have hget : ∀ q, q < (rows.length + rows2.length) * i.size → (arr.toList.take (rows.length * i.size) ++ news ++ arr.toList.drop (rows.length * i.size + news.length)).toArray[q]? = some ((olds ++ news).getD q undef) := by
          intro q hq
          by_cases h1 : q < rows.length * i.size
          · rw [hlow q h1]
            have := harr q _ (by have := (hF1 q h1).1; rwa [Nat.zero_add] at this)
            rw [this]
            simp only [List.getD]
            rw [List.getElem?_append_left (by omega)]
          · rw [Nat.add_mul] at hq
            have h3 : (arr.toList.take (rows.length * i.size)).length = rows.length * i.size := by simp; omega
            rw [List.getElem?_toArray, List.getElem?_append_left (by simp; omega), List.getElem?_append_right (by omega), h3]
            simp only [List.getD]
            rw [List.getElem?_append_right (by omega), hl1, List.getElem?_eq_getElem (by omega)]
            rfl
        have hboth : ∀ q, q < (rows.length + rows2.length) * i.size → ((olds ++ news).getD q undef).oneCell' = true ∧ Rep F ((olds ++ news).getD q undef) ((rows ++ rows2).flatten.getD q .any) := by
          intro q hq
          have hfl : rows.flatten.length = rows.length * i.size := length_flatten rows hr1
          rw [List.flatten_append]
          by_cases h1 : q < rows.length * i.size
          · have := ro q h1
            simp only [List.getD] at this ⊢
            rw [List.getElem?_append_left (by omega), List.getElem?_append_left (by omega)]
            exact this
          · have := rn (q - rows.length * i.size) (by rw [Nat.add_mul] at hq; omega)
            simp only [List.getD] at this ⊢
            rw [List.getElem?_append_right (by omega), List.getElem?_append_right (by omega), hl1, hfl]
            exact this
        have hfrm : Frm w0 (w.setRow b' (arr.toList.take (rows.length * i.size) ++ news ++ arr.toList.drop (rows.length * i.size + news.length)).toArray) :=
          ⟨hi.below.os, hi.below.tape, hi.below.output, by simpa using hi.below.size, hi.below.lt, fun k hk => (setRow_other _ _ _ _ (fun e => hN (by rw [← e]; exact hk))).trans (hi.below.block k hk)⟩
        obtain ⟨k1, k2⟩ := hi.extend (g := (Tok.own b' (rows.length * i.size) (cap * i.size)).rid h) (b := b') (lo := rows.length * i.size) (k := (rows.length + rows2.length) * i.size) (e := cap * i.size)
          hN (setRow_heap w b' arr _ et _ hgb) hsz' hFk (by rw [Nat.add_mul]; omega) hmul (fun o _ ho' => by rw [Array.getD_eq_getD_getElem?, hget o ho']; exact (hboth o ho').1)
          (fun o v hv => by
            have hlt : o < rows.length * i.size := by
              by_cases h1 : o < rows.length * i.size
              · exact h1
              · rw [hFk o (by omega)] at hv; cases hv
            rw [hlow o hlt]; exact harr o v hv) hfrm (fun c' hc' _ => setRow_other _ _ _ _ hc') (fun c' x _ e => Tok.rid_get e)
        refine ⟨_, _, _, _, k1, .inr ⟨_, _, rfl⟩, k2, ?_⟩
        have hlen : (rows ++ rows2).length = rows.length + rows2.length := by simp
        have := Rep.mk_list (b := b') (o := 0) (cap := cap) (sz := i.size) (rows := rows ++ rows2) (tok := .own b' ((rows.length + rows2.length) * i.size) (cap * i.size)) (fun q => (olds ++ news).getD q undef)
          (fun r hr => by rcases List.mem_append.1 hr with h | h; exact hr1 r h; exact hr2 r h) (by omega)
          (fun q hq => by
            rw [hlen] at hq
            refine ⟨?_, (hboth q hq).2.mono k1⟩
            by_cases h1 : q < rows.length * i.size
            · refine k1 _ _ _ ?_
              have := (hF1 q h1).1
              simp only [List.getD] at this ⊢
              rw [List.getElem?_append_left (by omega)]
              exact this
            · have h2 : rows.length * i.size ≤ q := by omega
              simp only [Fin.ext, Nat.zero_add, hq, h2, and_self, if_true]
              exact hget q hq) ⟨rfl, rfl, by rw [hlen], rfl⟩
        rw [hlen] at this
        exact this
      · exact grow (by omega)

/-- A slice that has no room grows into a block of its own, which may be written. -/
theorem append_new_arr (hi : Inv w0 F w h) {sz n m c : Nat} {el : TypeId} {rows rows2 : List (List AV)} {olds news : List Value} {z : Array Value} (hz : z.size = sz) (hz1 : ∀ j, j < z.size → (z.getD j undef).oneCell' = true)
    (hn : n = rows.length) (hm : m = rows2.length) (hl1 : ∀ r ∈ rows, r.length = sz) (hl2 : ∀ r ∈ rows2, r.length = sz) (ho : olds.length = n * sz) (hw : news.length = m * sz)
    (ro : ∀ q, q < n * sz → (olds.getD q undef).oneCell' = true ∧ Rep F (olds.getD q undef) (rows.flatten.getD q .any))
    (rn : ∀ q, q < m * sz → (news.getD q undef).oneCell' = true ∧ Rep F (news.getD q undef) (rows2.flatten.getD q .any)) (hc : n + m ≤ c) :
    Inv w0 F (w.drew.alloc (.cells (olds.toArray ++ news.toArray ++ Builtin.zeroCells z (c - (n + m))) el)) (h.set w.heap.size (.cells ((rows ++ rows2).flatten ++ List.replicate ((c - (n + m)) * sz) .any))) := by
  have hfl : rows.flatten.length = n * sz := by rw [length_flatten rows hl1, hn]
  have hfl2 : rows2.flatten.length = m * sz := by rw [length_flatten rows2 hl2, hm]
  have hsz : (olds.toArray ++ news.toArray ++ Builtin.zeroCells z (c - (n + m))).size = (n + m) * sz + (c - (n + m)) * sz := by
    simp only [Array.size_append, List.size_toArray, size_zeroCells, hz, ho, hw, Nat.add_mul]
  have hcl : ((rows ++ rows2).flatten ++ List.replicate ((c - (n + m)) * sz) AV.any).length = (n + m) * sz + (c - (n + m)) * sz := by
    simp only [List.flatten_append, List.length_append, hfl, hfl2, List.length_replicate, Nat.add_mul]
  have hget : ∀ q, q < (n + m) * sz → (olds.toArray ++ news.toArray ++ Builtin.zeroCells z (c - (n + m)))[q]? = some ((olds ++ news).getD q undef) := by
    intro q hq
    rw [Array.getElem?_append_left (by simp [ho, hw, ← Nat.add_mul]; exact hq)]
    have h1 : q < (olds ++ news).length := by simp [ho, hw, ← Nat.add_mul]; exact hq
    have h2 : (olds.toArray ++ news.toArray)[q]? = (olds ++ news)[q]? := by simp
    rw [h2, List.getD, List.getElem?_eq_getElem h1]; rfl
  have hboth : ∀ q, q < (n + m) * sz → ((olds ++ news).getD q undef).oneCell' = true ∧ Rep F ((olds ++ news).getD q undef) ((rows ++ rows2).flatten.getD q .any) := by
    intro q hq
    rw [List.flatten_append]
    by_cases h1 : q < n * sz
    · have := ro q h1
      simp only [List.getD] at this ⊢
      rw [List.getElem?_append_left (by omega), List.getElem?_append_left (by omega)]
      exact this
    · have := rn (q - n * sz) (by rw [Nat.add_mul] at hq; omega)
      simp only [List.getD] at this ⊢
      rw [List.getElem?_append_right (by omega), List.getElem?_append_right (by omega), ho, hfl]
      exact this
  refine hi.drew.alloc _ el _ (by rw [hsz, hcl]) (fun q hq => ?_) (fun q hq => ?_)
  · rw [hcl] at hq
    by_cases h1 : q < (n + m) * sz
    · rw [Array.getD_eq_getD_getElem?, hget q h1]
      have h2 := (hboth q h1).2
      have h3 : ((rows ++ rows2).flatten ++ List.replicate ((c - (n + m)) * sz) AV.any).getD q .any = (rows ++ rows2).flatten.getD q .any := by
        simp only [List.getD]
        rw [List.getElem?_append_left (by simp only [List.flatten_append, List.length_append, hfl, hfl2, ← Nat.add_mul]; exact h1)]
      rw [h3]; exact h2
    · have h3 : ((rows ++ rows2).flatten ++ List.replicate ((c - (n + m)) * sz) AV.any).getD q .any = .any := by
        simp only [List.getD]
        rw [List.getElem?_append_right (by simp only [List.flatten_append, List.length_append, hfl, hfl2, ← Nat.add_mul]; omega), List.getElem?_replicate]
        split <;> rfl
      rw [h3]; exact .any _
  · rw [hcl] at hq
    by_cases h1 : q < (n + m) * sz
    · rw [Array.getD_eq_getD_getElem?, hget q h1]
      exact (hboth q h1).1
    · have h4 : (olds.toArray ++ news.toArray).size = (n + m) * sz := by simp [ho, hw, Nat.add_mul]
      have hpos : 0 < sz := Nat.pos_of_ne_zero fun e => by simp [e] at hq
      have h5 : q - (n + m) * sz < (c - (n + m)) * sz := by omega
      rw [Array.getD_eq_getD_getElem?, Array.getElem?_append_right (by omega), h4]
      have h6 : (Builtin.zeroCells z (c - (n + m)))[q - (n + m) * sz]? = some (z.getD ((q - (n + m) * sz) % sz) undef) := by
        have h7 : q - (n + m) * sz < (Builtin.zeroCells z (c - (n + m))).size := by rw [size_zeroCells, hz]; exact h5
        rw [Array.getElem?_eq_getElem h7]
        have h8 : (q - (n + m) * sz) % sz < z.size := by rw [hz]; exact Nat.mod_lt _ hpos
        simp only [Builtin.zeroCells, Array.getElem_map, Array.getElem_range, Array.getD, h8, dif_pos]
        subst hz
        exact congrArg some (getElem!_pos z _ h8)
      rw [h6]
      exact hz1 _ (by rw [hz]; exact Nat.mod_lt _ hpos)

def Grown2 (w0 : Base) (F : Fin) (h : Heap) (sz : Nat) (rows : List (List AV)) (v' : Value) (w' : World) : Prop :=
  ∃ b c, h b = none ∧ rows.length ≤ c ∧ Inv w0 F w' (h.set b (.cells (rows.flatten ++ List.replicate ((c - rows.length) * sz) .any))) ∧ v' = .slice (some ⟨b, 0, none⟩) rows.length c

/-- append, to a slice without room. -/
theorem append_sound_arr (hi : Inv w0 F w h) {t ty el : TypeId} {i : TypeInfo} {z : Value} {v1 v2 : Value} {sz : Nat} {rows rows2 : List (List AV)} {tok tok2 : Tok} (ht : P.underlying t = some (.slice el)) (hie : P.info? el = some i)
    (hz : i.zero = some z) (hzs : z.cells.size = sz) (hz1 : ∀ j, j < z.cells.size → (z.cells.getD j undef).oneCell' = true) (hsz : i.size = sz) (r1 : Rep F v1 (.list sz rows tok)) (r2 : Rep F v2 (.list sz rows2 tok2)) (hb : (rows.length + rows2.length) * i.bytes ≤ 140737488355328)
    (hmax : rows.length + rows2.length ≤ 9223372036854775807) (htok : tok = .nil ∨ tok = .full) (hne : rows2 ≠ []) :
    ∃ v' w', (Builtin.append_ #[t, t] ty #[v1, v2]).run P w = .ok v' w' ∧ Grown2 w0 F h sz (rows ++ rows2) v' w' := by
  subst hsz
  rcases r2.list_inv with ⟨a, e, e', _⟩ | ⟨b2, o2, cap2, news, rfl, hc2, hl2, hr2, hF2, _⟩
  · exact absurd e' hne
  have hm0 : 0 < rows2.length := List.length_pos_iff.2 hne
  have hn2 : ∀ q, q < rows2.length * i.size → w.cell? ⟨b2, o2 + q, none⟩ = some (news.getD q undef) ∧ (news.getD q undef).oneCell' = true := fun q hq => hi.fin _ _ _ (hF2 q hq).1
  have hnews : ∀ j u, news[j]? = some u → w.cell? ((⟨b2, o2, none⟩ : Addr).add j) = some u := by
    intro j u hj
    have hlt : j < news.length := (List.getElem?_eq_some_iff.1 hj).1
    have := (hn2 j (by omega)).1
    simp only [List.getD, hj, Option.getD_some] at this
    rw [addr_add]; exact this
  have rn : ∀ q, q < rows2.length * i.size → (news.getD q undef).oneCell' = true ∧ Rep F (news.getD q undef) (rows2.flatten.getD q .any) := fun q hq => ⟨(hn2 q hq).2, (hF2 q hq).2⟩
  have hf := hi.fresh
  have fresh0 : ∀ a : Option Addr, rows = [] → ∃ v' w', (Builtin.append_ #[t, t] ty #[.slice a 0 0, .slice (some ⟨b2, o2, none⟩) rows2.length cap2]).run P w = .ok v' w' ∧ Grown2 w0 F h i.size (rows ++ rows2) v' w' := by
    intro a hr
    subst hr
    have hrun := run_append_zero (P := P) (w := w) t ty el i z ht hie hz a ⟨b2, o2, none⟩ rows2.length cap2 news hl2 hnews hm0 (by simp at hmax; omega) (by simpa using hb)
    have := append_new_arr (el := el) (n := 0) (m := rows2.length) (c := grownCap w rows2.length 0 el) (rows := []) (rows2 := rows2) (olds := []) (news := news) (z := z.cells) hi hzs hz1 rfl rfl (by simp) hr2 (by simp) hl2 (fun q hq => by simp at hq) rn (by simpa using grownCap_ge w rows2.length 0 el)
    simp only [Nat.zero_add, List.nil_append, Array.empty_append] at this
    exact ⟨_, _, hrun, _, _, hf.1, by simpa using grownCap_ge w rows2.length 0 el, by simpa using this, by simp⟩
  rcases r1.list_inv with ⟨a, rfl, hr, _⟩ | ⟨b, o, cap, olds, rfl, hc, hl1, hr1, hF1, hk⟩
  · exact fresh0 a hr
  have ho1 : ∀ q, q < rows.length * i.size → w.cell? ⟨b, o + q, none⟩ = some (olds.getD q undef) ∧ (olds.getD q undef).oneCell' = true := fun q hq => hi.fin _ _ _ (hF1 q hq).1
  have holds : ∀ j u, olds[j]? = some u → w.cell? ((⟨b, o, none⟩ : Addr).add j) = some u := by
    intro j u hj
    have hlt : j < olds.length := (List.getElem?_eq_some_iff.1 hj).1
    have := (ho1 j (by omega)).1
    simp only [List.getD, hj, Option.getD_some] at this
    rw [addr_add]; exact this
  have ro : ∀ q, q < rows.length * i.size → (olds.getD q undef).oneCell' = true ∧ Rep F (olds.getD q undef) (rows.flatten.getD q .any) := fun q hq => ⟨(ho1 q hq).2, (hF1 q hq).2⟩
  have grow : cap < rows.length + rows2.length → ∃ v' w', (Builtin.append_ #[t, t] ty #[.slice (some ⟨b, o, none⟩) rows.length cap, .slice (some ⟨b2, o2, none⟩) rows2.length cap2]).run P w = .ok v' w' ∧ Grown2 w0 F h i.size (rows ++ rows2) v' w' := by
    intro hlt
    have hrun := run_append_grow (P := P) w t ty el i z ht hie hz ⟨b, o, none⟩ rows.length cap olds hl1 holds ⟨b2, o2, none⟩ rows2.length cap2 news hl2 hnews hlt (by omega) (growslice_fits hlt hb)
    have hA := append_new_arr (c := grownCap w (rows.length + rows2.length) cap el) (el := el) hi hzs hz1 rfl rfl hr1 hr2 hl1 hl2 ro rn (grownCap_ge w _ _ el)
    exact ⟨_, _, hrun, _, _, hf.1, by simpa using grownCap_ge w (rows.length + rows2.length) cap el, by simpa using hA, by simp⟩
  rcases htok with rfl | rfl
  · exact hk.elim
  · exact grow (by simp only [Tok.ok] at hk; omega)

/-! ### Literals and make -/

def chunk : Nat → Nat → List AV → List (List AV)
  | 0, _, _ => []
  | n + 1, sz, cs => cs.take sz :: chunk n sz (cs.drop sz)

theorem chunk_spec (sz : Nat) : ∀ (n : Nat) (cs : List AV), cs.length = n * sz → (chunk n sz cs).flatten = cs ∧ (∀ r ∈ chunk n sz cs, r.length = sz) ∧ (chunk n sz cs).length = n
  | 0, cs, h => by
    have : cs = [] := List.eq_nil_of_length_eq_zero (by simpa using h)
    simp [chunk, this]
  | n + 1, cs, h => by
    rw [Nat.add_mul, Nat.one_mul] at h
    obtain ⟨h1, h2, h3⟩ := chunk_spec sz n (cs.drop sz) (by simp; omega)
    refine ⟨by simp [chunk, h1], ?_, by simp [chunk, h3]⟩
    intro r hr
    simp only [chunk, List.mem_cons] at hr
    rcases hr with rfl | hr
    · simp; omega
    · exact h2 r hr

def elBytes (P : Program) (t : TypeId) : Option Nat :=
  match P.underlying t with
  | some (.slice e) => (P.info? e).map (·.bytes)
  | _ => none

/-- A new block that nobody will write. -/
theorem Inv.lay (hi : Inv w0 F w h) {n sz : Nat} {arr : Array Value} {cs : List AV} {el : TypeId} (hr : RepL F arr cs) (hl : cs.length = n * sz) (hone : ∀ j, j < cs.length → (arr.getD j undef).oneCell' = true) :
    ∃ F', Mono F F' ∧ Inv w0 F' (w.alloc (.cells arr el)) h ∧ Rep F' (.slice (some ⟨w.heap.size, 0, none⟩) n n) (.list sz (chunk n sz cs) .full) := by
  have hf := hi.fresh
  have hsz : arr.size = n * sz := by rw [hr.1, hl]
  obtain ⟨c1, c2, c3⟩ := chunk_spec sz n cs hl
  have hget : ∀ q, q < n * sz → arr[q]? = some (arr.getD q undef) := fun q hq => by
    have : q < arr.size := by omega
    simp [Array.getD, this]
  obtain ⟨k1, k2⟩ := hi.extend (g := h) (w' := w.alloc (.cells arr el)) (b := w.heap.size) (lo := 0) (k := n * sz) (e := n * sz)
    (fun e => absurd (hi.below.lt _ e) (by have := hi.below.size; omega)) (heap_alloc_new w _) hsz (fun o _ => hf.2 o) (Nat.zero_le _) (Nat.le_refl _)
    (fun o _ ho' => hone o (by omega)) (fun o v e => by rw [hf.2 o] at e; cases e) (hi.below.alloc _) (fun c' _ hlt => Below.heap_alloc w _ c' hlt) (fun c' x _ e => e)
  refine ⟨_, k1, k2.sub ((Sub.refl h).loc hf.1 _), ?_⟩
  have := Rep.mk_list (F := F.ext w.heap.size 0 (n * sz) arr) (b := w.heap.size) (o := 0) (cap := n) (sz := sz) (rows := chunk n sz cs) (tok := .full) (fun q => arr.getD q undef) c2 (by omega)
    (fun q hq => by
      rw [c3] at hq
      refine ⟨?_, ?_⟩
      · simp only [Fin.ext, Nat.zero_add, Nat.zero_le, true_and, hq, and_self, if_true]
        exact hget q hq
      · rw [c1]; exact (hr.2 q (by omega)).mono k1) (by simp only [Tok.ok]; omega)
  rw [c3] at this
  exact this

theorem buildSlice_sound (hi : Inv w0 F w h) {t el : TypeId} {n sz : Nat} {ps : List (Nat × AV)} {vs : Array (Nat × Value)} (ht : elemT P t = some (.slice, el, sz)) (hz : (zeroA P el).isSome = true) (hn : n * sz ≤ 16777216)
    (hl : vs.size = ps.length) (hv : ∀ k, k < ps.length → (vs.toList.getD k (0, undef)).1 = (ps.getD k (0, .any)).1 ∧ Rep F (vs.toList.getD k (0, undef)).2 (ps.getD k (0, .any)).2)
    (hs : (fillA P t ps (List.replicate (n * sz) .any)).1) (hc : ∀ c ∈ (fillA P t ps (List.replicate (n * sz) .any)).2, c.isCell = true) (hlen : (fillA P t ps (List.replicate (n * sz) .any)).2.length = n * sz) :
    ∃ v' w' F', (Instr.buildSlice t n vs).run P w = .ok v' w' ∧ Mono F F' ∧ Inv w0 F' w' h ∧ Rep F' v' (.list sz (chunk n sz (fillA P t ps (List.replicate (n * sz) .any)).2) .full) := by
  obtain ⟨i, h1, h2, h3⟩ := elemT_slice ht
  obtain ⟨z, hz⟩ := Option.isSome_iff_exists.1 hz
  obtain ⟨i', zv, q1, q2, q3, q4, q5⟩ := zeroA_spec hz F
  have : i' = i := Option.some.inj (q1.symm.trans h2)
  subst this
  subst h3
  have hplace : ∀ j x, placeT P t j = some x → (fun j => some (j * i'.size, i'.size)) j = some x := by
    intro j x hx
    unfold placeT at hx
    simp only [h1, h2] at hx
    simpa using hx
  have fin : ∀ (zz : Array Value), ((Array.range (n * i'.size)).map fun q => zz[q % zz.size]!).size = n * i'.size → ∃ arr', Instr.fill (fun j => some (j * i'.size, i'.size)) ((Array.range (n * i'.size)).map fun q => zz[q % zz.size]!) vs.toList = some arr' ∧
      RepL F arr' (fillA P t ps (List.replicate (n * i'.size) .any)).2 := by
    intro zz hzz
    refine fill_sound hplace ps vs.toList (List.replicate (n * i'.size) .any) _ (by simpa using hl) hv ⟨by simp, fun q hq => ?_⟩ hs
    simp at hq
    simp [List.getD, hq]
    exact .any _
  have done : ∀ (zz : Array Value), (∀ arr', Instr.fill (fun j => some (j * i'.size, i'.size)) ((Array.range (n * i'.size)).map fun q => zz[q % zz.size]!) vs.toList = some arr' →
        (Instr.buildSlice t n vs).run P w = .ok (.slice (some ⟨w.heap.size, 0, none⟩) n n) (w.alloc (.cells arr' el))) →
      ∃ v' w' F', (Instr.buildSlice t n vs).run P w = .ok v' w' ∧ Mono F F' ∧ Inv w0 F' w' h ∧ Rep F' v' (.list i'.size (chunk n i'.size (fillA P t ps (List.replicate (n * i'.size) .any)).2) .full) := by
    intro zz hrun
    obtain ⟨arr', r1, r2⟩ := fin zz (by simp)
    have hone : ∀ j, j < (fillA P t ps (List.replicate (n * i'.size) .any)).2.length → (arr'.getD j undef).oneCell' = true := by
      intro j hj
      refine (r2.2 j hj).oneCell ?_
      rw [List.getD, List.getElem?_eq_getElem hj]
      exact hc _ (List.getElem_mem hj)
    obtain ⟨F', m1, m2, m3⟩ := hi.lay (el := el) r2 hlen hone
    exact ⟨_, _, F', hrun arr' r1, m1, m2, m3⟩
  have hle : ¬ (n * i'.size > 2 ^ 24) := by simpa using hn
  by_cases h0 : n * i'.size = 0
  · refine done #[] fun arr' r1 => ?_
    unfold Instr.buildSlice
    have r2 : Instr.fill (fun j => some (j * i'.size, i'.size)) #[] vs.toList = some arr' := by simpa [h0, Array.range_zero'] using r1
    simp only [Sem.run_bind, run_underlying h1, Result.andThen_ok, run_sizeOf_info h2, hle, if_false, h0, if_true, Sem.run_pure]
    simp [newRow, Array.range_zero', r2]
  · refine done zv.cells fun arr' r1 => ?_
    unfold Instr.buildSlice
    simp only [Sem.run_bind, run_underlying h1, Result.andThen_ok, run_sizeOf_info h2, hle, if_false, h0, run_zeroValue q1 q2, Sem.run_pure, r1]
    simp [newRow]

theorem makeSlice_sound (hi : Inv w0 F w h) {t el : TypeId} {sz by' : Nat} {kl kc : IntKind} {l c : Int} {z : List AV} (ht : elemT P t = some (.slice, el, sz)) (hb : elBytes P t = some by') (hz : zeroA P el = some z)
    (h0 : 0 ≤ l) (hlc : l ≤ c) (hbytes : (by' : Int) * c ≤ 281474976710656) (h63 : c ≤ 9223372036854775807) :
    ∃ w', (Instr.makeSlice t (.int kl l) (.int kc c)).run P w = .ok (.slice (some ⟨w.heap.size, 0, none⟩) l.toNat c.toNat) w' ∧
      Inv w0 F w' (h.set w.heap.size (.cells (List.replicate c.toNat z).flatten)) := by
  obtain ⟨i, h1, h2, h3⟩ := elemT_slice ht
  obtain ⟨i', zv, q1, q2, q3, q4, q5⟩ := zeroA_spec hz F
  have : i' = i := Option.some.inj (q1.symm.trans h2)
  subst this
  have hby : i'.bytes = by' := by
    unfold elBytes at hb
    simpa [h1, h2] using hb
  subst hby
  refine ⟨_, run_make w t el i' zv h1 h2 q2 kl kc l c h0 hlc hbytes h63, ?_⟩
  have hzl : zv.cells.size = i'.size := by rw [q4.1, q3]
  have hfl : ∀ q, q < c.toNat * z.length → (List.replicate c.toNat z).flatten.getD q .any = z.getD (q % z.length) .any := by
    intro q hq
    have hpos : 0 < z.length := Nat.pos_of_ne_zero fun e => by simp [e] at hq
    have k1 : q / z.length < c.toNat := Nat.div_lt_of_lt_mul (by rw [Nat.mul_comm]; exact hq)
    have k2 : q % z.length < z.length := Nat.mod_lt _ hpos
    have := getD_flatten (sz := z.length) (List.replicate c.toNat z) (fun r hr => by rw [(List.mem_replicate.1 hr).2]) (q / z.length) (q % z.length) (by simpa using k1) k2
    rw [Nat.mul_comm, Nat.div_add_mod] at this
    rw [this]
    simp [List.getD, k1]
  have hlen : (List.replicate c.toNat z).flatten.length = c.toNat * z.length := by simp
  have hcell : ∀ q, q < c.toNat * i'.size → (madeCells zv.cells (c.toNat * i'.size)).getD q undef = zv.cells.getD (q % z.length) undef := by
    intro q hq
    have hpos : 0 < z.length := Nat.pos_of_ne_zero fun e => by rw [q3, e] at hq; simp at hq
    have k2 : q % z.length < zv.cells.size := by rw [hzl, q3]; exact Nat.mod_lt _ hpos
    have k3 : q < (madeCells zv.cells (c.toNat * i'.size)).size := by rw [size_madeCells]; exact hq
    simp only [Array.getD, k3, dif_pos, k2]
    simp [madeCells, hzl, q3]
    exact getElem!_pos zv.cells (q % z.length) k2
  refine hi.alloc _ el _ (by rw [size_madeCells, hlen, q3]) (fun q hq => ?_) (fun q hq => ?_)
  · rw [hlen] at hq
    have hpos : 0 < z.length := Nat.pos_of_ne_zero fun e => by simp [e] at hq
    rw [hcell q (by rw [q3]; exact hq), hfl q hq]
    exact q4.2 _ (Nat.mod_lt _ hpos)
  · rw [hlen] at hq
    have hpos : 0 < z.length := Nat.pos_of_ne_zero fun e => by simp [e] at hq
    rw [hcell q (by rw [q3]; exact hq)]
    exact q5 _ (Nat.mod_lt _ hpos)

end
end Go.AL
