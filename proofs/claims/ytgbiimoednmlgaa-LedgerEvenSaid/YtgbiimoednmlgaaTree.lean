/- Trees in memory: expressions and terms that values read as; over any program. -/
import Derived.WalkKit
import Derived.Lib.Hide
import Derived.WalkSpells
import Derived.Below
namespace Go.Proofs.Ytgbiimoednmlgaa
set_option linter.unusedVariables false
set_option linter.unusedSimpArgs false
open Go.RowKit
inductive Ex | mk (op n : Int) (nm : ByteArray) (args : List Ex)
inductive Te | mk (op : Int) (nm : ByteArray) (exprs : List Ex) (terms : List Te)
namespace Ex
def op : Ex → Int | .mk o _ _ _ => o
def n : Ex → Int | .mk _ n _ _ => n
def nm : Ex → ByteArray | .mk _ _ s _ => s
def args : Ex → List Ex | .mk _ _ _ l => l
theorem eta (e : Ex) : e = .mk e.op e.n e.nm e.args := by cases e; rfl
end Ex
namespace Te
def op : Te → Int | .mk o _ _ _ => o
def nm : Te → ByteArray | .mk _ s _ _ => s
def exprs : Te → List Ex | .mk _ _ l _ => l
def terms : Te → List Te | .mk _ _ _ l => l
theorem eta (e : Te) : e = .mk e.op e.nm e.exprs e.terms := by cases e; rfl
end Te
/-- A slice of elements of sz cells each: the cells are vs; its block is none of X. -/
def Sl (w : World) (X : List Nat) (sz : Nat) (a : Option Addr) (len cap : Nat) (vs : List (List Value)) : Prop :=
  vs.length = len ∧ len ≤ cap ∧ cap ≤ 9223372036854775807 ∧ (0 < len → ∃ b o, a = some ⟨b, o, none⟩ ∧ b < w.heap.size ∧ b ∉ X ∧
    ∀ i cs, vs[i]? = some cs → cs.length = sz ∧ ∀ j c, cs[j]? = some c → w.cell? ⟨b, o + i * sz + j, none⟩ = some c)
/-- An int64, a string that can be. -/
def I64 (n : Int) : Prop := -9223372036854775808 ≤ n ∧ n ≤ 9223372036854775807
inductive RepE (w : World) (X : List Nat) : Ex → List Value → Prop
  | mk {op n : Int} {nm : ByteArray} {args : List Ex} {a : Option Addr} {len cap : Nat} (vs : List (List Value)) (ho : I64 op) (hn : I64 n) (hs : nm.size ≤ 9223372036854775807)
      (hl : vs.length = args.length) (hr : ∀ (i : Nat) (e : Ex) (cs : List Value), args[i]? = some e → vs[i]? = some cs → RepE w X e cs) (hv : Sl w X 4 a len cap vs) :
      RepE w X (.mk op n nm args) [.int .i64 op, .int .i64 n, .string nm, .slice a len cap]
def SlE (w : World) (X : List Nat) (l : List Ex) (a : Option Addr) (len cap : Nat) : Prop :=
  ∃ vs : List (List Value), vs.length = l.length ∧ (∀ (i : Nat) (e : Ex) (cs : List Value), l[i]? = some e → vs[i]? = some cs → RepE w X e cs) ∧ Sl w X 4 a len cap vs
inductive RepT (w : World) (X : List Nat) : Te → List Value → Prop
  | mk {op : Int} {nm : ByteArray} {exprs : List Ex} {terms : List Te} {a a' : Option Addr} {len cap len' cap' : Nat} (vs : List (List Value)) (ho : I64 op) (hs : nm.size ≤ 9223372036854775807)
      (he : SlE w X exprs a len cap)
      (hl : vs.length = terms.length) (hr : ∀ (i : Nat) (e : Te) (cs : List Value), terms[i]? = some e → vs[i]? = some cs → RepT w X e cs) (hv : Sl w X 4 a' len' cap' vs) :
      RepT w X (.mk op nm exprs terms) [.int .i64 op, .string nm, .slice a len cap, .slice a' len' cap']
def SlT (w : World) (X : List Nat) (l : List Te) (a : Option Addr) (len cap : Nat) : Prop :=
  ∃ vs : List (List Value), vs.length = l.length ∧ (∀ (i : Nat) (e : Te) (cs : List Value), l[i]? = some e → vs[i]? = some cs → RepT w X e cs) ∧ Sl w X 4 a len cap vs
section
variable {w w' : World} {X X' : List Nat} {sz len cap : Nat} {a : Option Addr} {vs : List (List Value)}
/-- What a change of the world leaves: all cells of blocks below a bound but those of X. -/
def Kept (X : List Nat) (w w' : World) : Prop := w.heap.size ≤ w'.heap.size ∧ ∀ b, b < w.heap.size → b ∉ X → w'.heap[b]? = w.heap[b]?
theorem Kept.of_below (h : Below w.heap.size w w') (X : List Nat) : Kept X w w' := ⟨h.size, fun b hb _ => h.block b hb⟩
theorem Kept.of_grown {g : Nat} (h : w.grownBy w' (some g)) (hg : g ∈ X) : Kept X w w' := ⟨h.size, fun b hb hx => h.block b hb (fun e => by injection e with e; subst e; exact hx hg)⟩
theorem Kept.of_grown_none (h : w.grownBy w' none) (X : List Nat) : Kept X w w' := ⟨h.size, fun b hb _ => h.block b hb (fun e => by cases e)⟩
theorem Kept.of_grown_own {v : Value} (h : w.grownBy w' v.ownBlock) (hg : ∀ g, v.ownBlock = some g → g ∈ X) : Kept X w w' := ⟨h.size, fun b hb hx => h.block b hb (fun e => hx (hg b e.symm))⟩
theorem Kept.alloc (w : World) (o : Obj) (X : List Nat) : Kept X w (w.alloc o) := ⟨by simp, fun b hb _ => Below.heap_alloc w o b hb⟩
theorem Kept.refl (w : World) (X : List Nat) : Kept X w w := ⟨Nat.le_refl _, fun _ _ _ => rfl⟩
theorem Kept.trans {w'' : World} (h : Kept X w w') (h' : Kept X w' w'') : Kept X w w'' := ⟨Nat.le_trans h.1 h'.1, fun b hb hx => (h'.2 b (Nat.lt_of_lt_of_le hb h.1) hx).trans (h.2 b hb hx)⟩
theorem Kept.more (h : Kept X w w') (hX : ∀ b, b ∈ X → b ∈ X') : Kept X' w w' := ⟨h.1, fun b hb hx => h.2 b hb (fun hm => hx (hX b hm))⟩
theorem Kept.setCell (w : World) {p : Addr} (hp : p.block ∈ X) (v : Value) : Kept X w (w.setCell p v) :=
  ⟨by simp [World.setCell], fun b _ hx => Below.heap_setCell w p v b (fun e => hx (by rw [e]; exact hp))⟩
theorem Kept.setNew {w0 : World} (h : Kept X w0 w) {p : Addr} (hp : w0.heap.size ≤ p.block) (v : Value) : Kept X w0 (w.setCell p v) :=
  ⟨by simpa [World.setCell] using h.1, fun b hb hx => (Below.heap_setCell w p v b (by omega)).trans (h.2 b hb hx)⟩
theorem Sl.kept (h : Sl w X sz a len cap vs) (k : Kept X w w') : Sl w' X sz a len cap vs := by
  obtain ⟨h1, h2, h3, h4⟩ := h
  refine ⟨h1, h2, h3, fun hp => ?_⟩
  obtain ⟨b, o, ha, hb, hx, hc⟩ := h4 hp
  exact ⟨b, o, ha, Nat.lt_of_lt_of_le hb k.1, hx, fun i cs hi => ⟨(hc i cs hi).1, fun j c hj => (World.cell?_of_block (k.2 b hb hx)).trans ((hc i cs hi).2 j c hj)⟩⟩
theorem Sl.less (h : Sl w X sz a len cap vs) (hX : ∀ b, b < w.heap.size → b ∈ X' → b ∈ X) : Sl w X' sz a len cap vs := by
  obtain ⟨h1, h2, h3, h4⟩ := h
  refine ⟨h1, h2, h3, fun hp => ?_⟩
  obtain ⟨b, o, ha, hb, hx, hc⟩ := h4 hp
  exact ⟨b, o, ha, hb, fun hm => hx (hX b hb hm), hc⟩
theorem Sl.nil (w : World) (X : List Nat) (sz : Nat) : Sl w X sz none 0 0 [] := ⟨rfl, Nat.le_refl _, by decide, fun h => absurd h (by decide)⟩
theorem Sl.take (h : Sl w X sz a len cap vs) (k : Nat) (hk : k ≤ len) : Sl w X sz a k cap (vs.take k) := by
  obtain ⟨h1, h2, h3, h4⟩ := h
  refine ⟨by simp; omega, by omega, h3, fun hp => ?_⟩
  obtain ⟨b, o, ha, hb, hx, hc⟩ := h4 (by omega)
  refine ⟨b, o, ha, hb, hx, fun i cs hi => hc i cs ?_⟩
  rw [List.getElem?_take] at hi
  split at hi
  · exact hi
  · cases hi
theorem RepE.kept {e : Ex} {cs : List Value} (h : RepE w X e cs) (k : Kept X w w') : RepE w' X e cs := by
  induction h with
  | mk vs ho hn hs hl hr hv ih => exact .mk vs ho hn hs hl ih (hv.kept k)
theorem RepE.less {e : Ex} {cs : List Value} (h : RepE w X e cs) (hX : ∀ b, b < w.heap.size → b ∈ X' → b ∈ X) : RepE w X' e cs := by
  induction h with
  | mk vs ho hn hs hl hr hv ih => exact .mk vs ho hn hs hl ih (hv.less hX)
theorem SlE.kept {l : List Ex} (h : SlE w X l a len cap) (k : Kept X w w') : SlE w' X l a len cap := by
  obtain ⟨vs, h1, h2, h3⟩ := h
  exact ⟨vs, h1, fun i e cs he hc => (h2 i e cs he hc).kept k, h3.kept k⟩
theorem SlE.less {l : List Ex} (h : SlE w X l a len cap) (hX : ∀ b, b < w.heap.size → b ∈ X' → b ∈ X) : SlE w X' l a len cap := by
  obtain ⟨vs, h1, h2, h3⟩ := h
  exact ⟨vs, h1, fun i e cs he hc => (h2 i e cs he hc).less hX, h3.less hX⟩
theorem RepT.kept {e : Te} {cs : List Value} (h : RepT w X e cs) (k : Kept X w w') : RepT w' X e cs := by
  induction h with
  | mk vs ho hs he hl hr hv ih => exact .mk vs ho hs (he.kept k) hl ih (hv.kept k)
theorem RepT.less {e : Te} {cs : List Value} (h : RepT w X e cs) (hX : ∀ b, b < w.heap.size → b ∈ X' → b ∈ X) : RepT w X' e cs := by
  induction h with
  | mk vs ho hs he hl hr hv ih => exact .mk vs ho hs (he.less hX) hl ih (hv.less hX)
theorem SlT.kept {l : List Te} (h : SlT w X l a len cap) (k : Kept X w w') : SlT w' X l a len cap := by
  obtain ⟨vs, h1, h2, h3⟩ := h
  exact ⟨vs, h1, fun i e cs he hc => (h2 i e cs he hc).kept k, h3.kept k⟩
theorem SlT.less {l : List Te} (h : SlT w X l a len cap) (hX : ∀ b, b < w.heap.size → b ∈ X' → b ∈ X) : SlT w X' l a len cap := by
  obtain ⟨vs, h1, h2, h3⟩ := h
  exact ⟨vs, h1, fun i e cs he hc => (h2 i e cs he hc).less hX, h3.less hX⟩
theorem RepE.inv {e : Ex} {cs : List Value} (h : RepE w X e cs) : ∃ op n nm args a len cap, e = .mk op n nm args ∧ cs = [.int .i64 op, .int .i64 n, .string nm, .slice a len cap] ∧ I64 op ∧ I64 n ∧ nm.size ≤ 9223372036854775807 ∧ SlE w X args a len cap := by
  cases h with
  | mk vs ho hn hs hl hr hv => exact ⟨_, _, _, _, _, _, _, rfl, rfl, ho, hn, hs, vs, hl, hr, hv⟩
theorem RepT.inv {e : Te} {cs : List Value} (h : RepT w X e cs) : ∃ op nm exprs terms a len cap a' len' cap', e = .mk op nm exprs terms ∧ cs = [.int .i64 op, .string nm, .slice a len cap, .slice a' len' cap'] ∧ I64 op ∧ nm.size ≤ 9223372036854775807 ∧ SlE w X exprs a len cap ∧ SlT w X terms a' len' cap' := by
  cases h with
  | mk vs ho hs he hl hr hv => exact ⟨_, _, _, _, _, _, _, _, _, _, rfl, rfl, ho, hs, he, vs, hl, hr, hv⟩
theorem RepE.mk' {op n : Int} {nm : ByteArray} {args : List Ex} (ho : I64 op) (hn : I64 n) (hs : nm.size ≤ 9223372036854775807) (h : SlE w X args a len cap) : RepE w X (.mk op n nm args) [.int .i64 op, .int .i64 n, .string nm, .slice a len cap] := by
  obtain ⟨vs, h1, h2, h3⟩ := h; exact .mk vs ho hn hs h1 h2 h3
theorem RepT.mk' {op : Int} {nm : ByteArray} {exprs : List Ex} {terms : List Te} {a' : Option Addr} {len' cap' : Nat} (ho : I64 op) (hs : nm.size ≤ 9223372036854775807) (he : SlE w X exprs a len cap) (h : SlT w X terms a' len' cap') : RepT w X (.mk op nm exprs terms) [.int .i64 op, .string nm, .slice a len cap, .slice a' len' cap'] := by
  obtain ⟨vs, h1, h2, h3⟩ := h; exact .mk vs ho hs he h1 h2 h3
/-- What a slice is good for. -/
theorem SlE.facts {l : List Ex} (h : SlE w X l a len cap) : l.length = len ∧ len ≤ cap ∧ cap ≤ 9223372036854775807 := by
  obtain ⟨vs, h1, _, h3⟩ := h; exact ⟨by rw [← h1]; exact h3.1, h3.2.1, h3.2.2.1⟩
theorem SlT.facts {l : List Te} (h : SlT w X l a len cap) : l.length = len ∧ len ≤ cap ∧ cap ≤ 9223372036854775807 := by
  obtain ⟨vs, h1, _, h3⟩ := h; exact ⟨by rw [← h1]; exact h3.1, h3.2.1, h3.2.2.1⟩
theorem SlE.nil (w : World) (X : List Nat) : SlE w X [] none 0 0 := ⟨[], rfl, fun i e cs h _ => by simp at h, Sl.nil _ _ _⟩
theorem SlT.nil (w : World) (X : List Nat) : SlT w X [] none 0 0 := ⟨[], rfl, fun i e cs h _ => by simp at h, Sl.nil _ _ _⟩
/-- Four cells of an element. -/
def Four (w : World) (b o : Nat) (c0 c1 c2 c3 : Value) : Prop := w.cell? ⟨b, o, none⟩ = some c0 ∧ w.cell? ⟨b, o + 1, none⟩ = some c1 ∧ w.cell? ⟨b, o + 2, none⟩ = some c2 ∧ w.cell? ⟨b, o + 3, none⟩ = some c3
theorem four_of {b o : Nat} {c0 c1 c2 c3 : Value} (h : ∀ j c, [c0, c1, c2, c3][j]? = some c → w.cell? ⟨b, o + j, none⟩ = some c) : Four w b o c0 c1 c2 c3 := ⟨h 0 c0 rfl, h 1 c1 rfl, h 2 c2 rfl, h 3 c3 rfl⟩
theorem SlE.at {l : List Ex} (h : SlE w X l a len cap) (k : Nat) (hk : k < len) : ∃ b o op n nm args a' len' cap', a = some ⟨b, o, none⟩ ∧ b < w.heap.size ∧ b ∉ X ∧ l[k]? = some (.mk op n nm args) ∧ I64 op ∧ I64 n ∧ nm.size ≤ 9223372036854775807 ∧ SlE w X args a' len' cap' ∧
    Four w b (o + k * 4) (.int .i64 op) (.int .i64 n) (.string nm) (.slice a' len' cap') := by
  have hf := h.facts
  obtain ⟨vs, h1, h2, h3⟩ := h
  obtain ⟨b, o, ha, hb, hx, hc⟩ := h3.2.2.2 (by omega)
  have hlk : l[k]? = some (l[k]'(by omega)) := List.getElem?_eq_getElem (by omega)
  have hvk : vs[k]? = some (vs[k]'(by omega)) := List.getElem?_eq_getElem (by omega)
  have hR := h2 k _ _ hlk hvk
  obtain ⟨op, n, nm, args, a', len', cap', e1, e2, i1, i2, i3, i4⟩ := hR.inv
  rw [e1] at hlk
  rw [e2] at hvk
  exact ⟨b, o, op, n, nm, args, a', len', cap', ha, hb, hx, hlk, i1, i2, i3, i4, four_of ((hc k _ hvk).2)⟩
theorem SlT.at {l : List Te} (h : SlT w X l a len cap) (k : Nat) (hk : k < len) : ∃ b o op nm exprs terms a' len' cap' a2 len2 cap2, a = some ⟨b, o, none⟩ ∧ b < w.heap.size ∧ b ∉ X ∧ l[k]? = some (.mk op nm exprs terms) ∧ I64 op ∧ nm.size ≤ 9223372036854775807 ∧ SlE w X exprs a' len' cap' ∧ SlT w X terms a2 len2 cap2 ∧
    Four w b (o + k * 4) (.int .i64 op) (.string nm) (.slice a' len' cap') (.slice a2 len2 cap2) := by
  have hf := h.facts
  obtain ⟨vs, h1, h2, h3⟩ := h
  obtain ⟨b, o, ha, hb, hx, hc⟩ := h3.2.2.2 (by omega)
  have hlk : l[k]? = some (l[k]'(by omega)) := List.getElem?_eq_getElem (by omega)
  have hvk : vs[k]? = some (vs[k]'(by omega)) := List.getElem?_eq_getElem (by omega)
  have hR := h2 k _ _ hlk hvk
  obtain ⟨op, nm, exprs, terms, a', len', cap', a2, len2, cap2, e1, e2, i1, i2, i3, i4⟩ := hR.inv
  rw [e1] at hlk
  rw [e2] at hvk
  exact ⟨b, o, op, nm, exprs, terms, a', len', cap', a2, len2, cap2, ha, hb, hx, hlk, i1, i2, i3, i4, four_of ((hc k _ hvk).2)⟩
end
/-- How deep an expression, a term is. -/
def Ex.rk : Ex → Nat
  | .mk _ _ _ l => 1 + go l
  where go : List Ex → Nat
  | [] => 0
  | e :: t => max e.rk (go t)
def Te.rk : Te → Nat
  | .mk _ _ x l => 1 + max (Ex.rk.go x) (go l)
  where go : List Te → Nat
  | [] => 0
  | e :: t => max e.rk (go t)
theorem Ex.rk_mem {l : List Ex} {e : Ex} (h : e ∈ l) : e.rk ≤ Ex.rk.go l := by
  induction l with
  | nil => cases h
  | cons x t ih =>
    simp only [Ex.rk.go]
    rcases List.mem_cons.1 h with rfl | h
    · omega
    · have := ih h; omega
theorem Te.rk_mem {l : List Te} {e : Te} (h : e ∈ l) : e.rk ≤ Te.rk.go l := by
  induction l with
  | nil => cases h
  | cons x t ih =>
    simp only [Te.rk.go]
    rcases List.mem_cons.1 h with rfl | h
    · omega
    · have := ih h; omega
theorem Ex.rk_lt {op n : Int} {nm : ByteArray} {l : List Ex} {e : Ex} {k : Nat} (h : l[k]? = some e) : e.rk < (Ex.mk op n nm l).rk := by
  have := Ex.rk_mem (List.mem_of_getElem? h)
  simp only [Ex.rk]; omega
theorem Te.rk_lt {op : Int} {nm : ByteArray} {x : List Ex} {l : List Te} {e : Te} {k : Nat} (h : l[k]? = some e) : e.rk < (Te.mk op nm x l).rk := by
  have := Te.rk_mem (List.mem_of_getElem? h)
  simp only [Te.rk]; omega
/-- How many nodes an expression, a term has. -/
def Ex.nd : Ex → Nat
  | .mk _ _ _ l => 1 + go l
  where go : List Ex → Nat
  | [] => 0
  | e :: t => e.nd + go t
def Te.nd : Te → Nat
  | .mk _ _ x l => 1 + Ex.nd.go x + go l
  where go : List Te → Nat
  | [] => 0
  | e :: t => e.nd + go t
theorem Ex.nd_take {l : List Ex} {k : Nat} {e : Ex} (h : l[k]? = some e) : Ex.nd.go (l.take (k + 1)) = Ex.nd.go (l.take k) + e.nd := by
  induction l generalizing k with
  | nil => cases h
  | cons x t ih =>
    cases k with
    | zero => simp at h; subst h; simp [Ex.nd.go]
    | succ j => simp only [List.take_succ_cons, Ex.nd.go]; rw [ih (by simpa using h)]; omega
theorem Te.nd_take {l : List Te} {k : Nat} {e : Te} (h : l[k]? = some e) : Te.nd.go (l.take (k + 1)) = Te.nd.go (l.take k) + e.nd := by
  induction l generalizing k with
  | nil => cases h
  | cons x t ih =>
    cases k with
    | zero => simp at h; subst h; simp [Te.nd.go]
    | succ j => simp only [List.take_succ_cons, Te.nd.go]; rw [ih (by simpa using h)]; omega
theorem Ex.rk_take {l : List Ex} {k : Nat} {e : Ex} (h : l[k]? = some e) : Ex.rk.go (l.take (k + 1)) = max (Ex.rk.go (l.take k)) e.rk := by
  induction l generalizing k with
  | nil => cases h
  | cons x t ih =>
    cases k with
    | zero => simp at h; subst h; simp [Ex.rk.go]
    | succ j => simp only [List.take_succ_cons, Ex.rk.go]; rw [ih (by simpa using h)]; omega
theorem Te.rk_take {l : List Te} {k : Nat} {e : Te} (h : l[k]? = some e) : Te.rk.go (l.take (k + 1)) = max (Te.rk.go (l.take k)) e.rk := by
  induction l generalizing k with
  | nil => cases h
  | cons x t ih =>
    cases k with
    | zero => simp at h; subst h; simp [Te.rk.go]
    | succ j => simp only [List.take_succ_cons, Te.rk.go]; rw [ih (by simpa using h)]; omega
theorem Ex.nd_le (l : List Ex) (k : Nat) : Ex.nd.go (l.take k) ≤ Ex.nd.go l := by
  induction l generalizing k with
  | nil => simp
  | cons x t ih =>
    cases k with
    | zero => simp [Ex.nd.go]
    | succ j => simp only [List.take_succ_cons, Ex.nd.go]; have := ih j; omega
theorem Te.nd_le (l : List Te) (k : Nat) : Te.nd.go (l.take k) ≤ Te.nd.go l := by
  induction l generalizing k with
  | nil => simp
  | cons x t ih =>
    cases k with
    | zero => simp [Te.nd.go]
    | succ j => simp only [List.take_succ_cons, Te.nd.go]; have := ih j; omega
theorem Ex.rkx_lt {op : Int} {nm : ByteArray} {x : List Ex} {l : List Te} {e : Ex} {k : Nat} (h : x[k]? = some e) : e.rk < (Te.mk op nm x l).rk := by
  have := Ex.rk_mem (List.mem_of_getElem? h)
  simp only [Te.rk]; omega
end Go.Proofs.Ytgbiimoednmlgaa
