/- A part of the proof: Tree, Mem, Has, Str, StrB, StrC, Built, one behind another. -/
import Derived.WalkKit
import Derived.Lib.Hide
import Derived.WalkSpells
import Derived.Below
import Derived.Maps.AppendAt
import Derived.Test.YtmiinmndbkdjbaaProg
import Derived.Test.YtmiinmndbkdjbaaChecked
import Derived.LoopTactic
import Derived.WalkLawsBesides
import Derived.BigQuiet
import Derived.Deep.QuietTactic
/- Trees in memory: expressions and terms that values read as; over any program. -/
namespace Go.Proofs.Ytmiinmndbkdjbaa
set_option linter.unusedVariables false
set_option linter.unusedSimpArgs false
open Go.RowKit
inductive Ex | mk (op n : Int) (nm : ByteArray) (args : List Ex)
inductive Te | mk (op : Int) (nm : ByteArray) (exprs : List Ex) (terms : List Te)
namespace Ex
def op : Ex → Int | .mk o _ _ _ => o
def n : Ex → Int | .mk _ n _ _ => n
def nm : Ex → ByteArray | .mk _ _ s _ => s
def args : Ex → List Ex | .mk _ _ _ l => l
theorem eta (e : Ex) : e = .mk e.op e.n e.nm e.args := by cases e; rfl
end Ex
namespace Te
def op : Te → Int | .mk o _ _ _ => o
def nm : Te → ByteArray | .mk _ s _ _ => s
def exprs : Te → List Ex | .mk _ _ l _ => l
def terms : Te → List Te | .mk _ _ _ l => l
theorem eta (e : Te) : e = .mk e.op e.nm e.exprs e.terms := by cases e; rfl
end Te
/-- A slice of elements of sz cells each: the cells are vs; its block is none of X. -/
def Sl (w : World) (X : List Nat) (sz : Nat) (a : Option Addr) (len cap : Nat) (vs : List (List Value)) : Prop :=
  vs.length = len ∧ len ≤ cap ∧ cap ≤ 9223372036854775807 ∧ (0 < len → ∃ b o, a = some ⟨b, o, none⟩ ∧ b < w.heap.size ∧ b ∉ X ∧
    ∀ i cs, vs[i]? = some cs → cs.length = sz ∧ ∀ j c, cs[j]? = some c → w.cell? ⟨b, o + i * sz + j, none⟩ = some c)
/-- An int64, a string that can be. -/
def I64 (n : Int) : Prop := -9223372036854775808 ≤ n ∧ n ≤ 9223372036854775807
inductive RepE (w : World) (X : List Nat) : Ex → List Value → Prop
  | mk {op n : Int} {nm : ByteArray} {args : List Ex} {a : Option Addr} {len cap : Nat} (vs : List (List Value)) (ho : I64 op) (hn : I64 n) (hs : nm.size ≤ 9223372036854775807)
      (hl : vs.length = args.length) (hr : ∀ (i : Nat) (e : Ex) (cs : List Value), args[i]? = some e → vs[i]? = some cs → RepE w X e cs) (hv : Sl w X 4 a len cap vs) :
      RepE w X (.mk op n nm args) [.int .i64 op, .int .i64 n, .string nm, .slice a len cap]
def SlE (w : World) (X : List Nat) (l : List Ex) (a : Option Addr) (len cap : Nat) : Prop :=
  ∃ vs : List (List Value), vs.length = l.length ∧ (∀ (i : Nat) (e : Ex) (cs : List Value), l[i]? = some e → vs[i]? = some cs → RepE w X e cs) ∧ Sl w X 4 a len cap vs
inductive RepT (w : World) (X : List Nat) : Te → List Value → Prop
  | mk {op : Int} {nm : ByteArray} {exprs : List Ex} {terms : List Te} {a a' : Option Addr} {len cap len' cap' : Nat} (vs : List (List Value)) (ho : I64 op) (hs : nm.size ≤ 9223372036854775807)
      (he : SlE w X exprs a len cap)
      (hl : vs.length = terms.length) (hr : ∀ (i : Nat) (e : Te) (cs : List Value), terms[i]? = some e → vs[i]? = some cs → RepT w X e cs) (hv : Sl w X 4 a' len' cap' vs) :
      RepT w X (.mk op nm exprs terms) [.int .i64 op, .string nm, .slice a len cap, .slice a' len' cap']
def SlT (w : World) (X : List Nat) (l : List Te) (a : Option Addr) (len cap : Nat) : Prop :=
  ∃ vs : List (List Value), vs.length = l.length ∧ (∀ (i : Nat) (e : Te) (cs : List Value), l[i]? = some e → vs[i]? = some cs → RepT w X e cs) ∧ Sl w X 4 a len cap vs
section
variable {w w' : World} {X X' : List Nat} {sz len cap : Nat} {a : Option Addr} {vs : List (List Value)}
/-- What a change of the world leaves: all cells of blocks below a bound but those of X. -/
def Kept (X : List Nat) (w w' : World) : Prop := w.heap.size ≤ w'.heap.size ∧ ∀ b, b < w.heap.size → b ∉ X → w'.heap[b]? = w.heap[b]?
theorem Kept.of_below (h : Below w.heap.size w w') (X : List Nat) : Kept X w w' := ⟨h.size, fun b hb _ => h.block b hb⟩
theorem Kept.of_grown {g : Nat} (h : w.grownBy w' (some g)) (hg : g ∈ X) : Kept X w w' := ⟨h.size, fun b hb hx => h.block b hb (fun e => by injection e with e; subst e; exact hx hg)⟩
theorem Kept.of_grown_none (h : w.grownBy w' none) (X : List Nat) : Kept X w w' := ⟨h.size, fun b hb _ => h.block b hb (fun e => by cases e)⟩
theorem Kept.of_grown_own {v : Value} (h : w.grownBy w' v.ownBlock) (hg : ∀ g, v.ownBlock = some g → g ∈ X) : Kept X w w' := ⟨h.size, fun b hb hx => h.block b hb (fun e => hx (hg b e.symm))⟩
theorem Kept.alloc (w : World) (o : Obj) (X : List Nat) : Kept X w (w.alloc o) := ⟨by simp, fun b hb _ => Below.heap_alloc w o b hb⟩
theorem Kept.refl (w : World) (X : List Nat) : Kept X w w := ⟨Nat.le_refl _, fun _ _ _ => rfl⟩
theorem Kept.trans {w'' : World} (h : Kept X w w') (h' : Kept X w' w'') : Kept X w w'' := ⟨Nat.le_trans h.1 h'.1, fun b hb hx => (h'.2 b (Nat.lt_of_lt_of_le hb h.1) hx).trans (h.2 b hb hx)⟩
theorem Kept.more (h : Kept X w w') (hX : ∀ b, b ∈ X → b ∈ X') : Kept X' w w' := ⟨h.1, fun b hb hx => h.2 b hb (fun hm => hx (hX b hm))⟩
theorem Kept.setCell (w : World) {p : Addr} (hp : p.block ∈ X) (v : Value) : Kept X w (w.setCell p v) :=
  ⟨by simp [World.setCell], fun b _ hx => Below.heap_setCell w p v b (fun e => hx (by rw [e]; exact hp))⟩
theorem Kept.setNew {w0 : World} (h : Kept X w0 w) {p : Addr} (hp : w0.heap.size ≤ p.block) (v : Value) : Kept X w0 (w.setCell p v) :=
  ⟨by simpa [World.setCell] using h.1, fun b hb hx => (Below.heap_setCell w p v b (by omega)).trans (h.2 b hb hx)⟩
theorem Sl.kept (h : Sl w X sz a len cap vs) (k : Kept X w w') : Sl w' X sz a len cap vs := by
  obtain ⟨h1, h2, h3, h4⟩ := h
  refine ⟨h1, h2, h3, fun hp => ?_⟩
  obtain ⟨b, o, ha, hb, hx, hc⟩ := h4 hp
  exact ⟨b, o, ha, Nat.lt_of_lt_of_le hb k.1, hx, fun i cs hi => ⟨(hc i cs hi).1, fun j c hj => (World.cell?_of_block (k.2 b hb hx)).trans ((hc i cs hi).2 j c hj)⟩⟩
theorem Sl.less (h : Sl w X sz a len cap vs) (hX : ∀ b, b < w.heap.size → b ∈ X' → b ∈ X) : Sl w X' sz a len cap vs := by
  obtain ⟨h1, h2, h3, h4⟩ := h
  refine ⟨h1, h2, h3, fun hp => ?_⟩
  obtain ⟨b, o, ha, hb, hx, hc⟩ := h4 hp
  exact ⟨b, o, ha, hb, fun hm => hx (hX b hb hm), hc⟩
theorem Sl.nil (w : World) (X : List Nat) (sz : Nat) : Sl w X sz none 0 0 [] := ⟨rfl, Nat.le_refl _, by decide, fun h => absurd h (by decide)⟩
theorem Sl.take (h : Sl w X sz a len cap vs) (k : Nat) (hk : k ≤ len) : Sl w X sz a k cap (vs.take k) := by
  obtain ⟨h1, h2, h3, h4⟩ := h
  refine ⟨by simp; omega, by omega, h3, fun hp => ?_⟩
  obtain ⟨b, o, ha, hb, hx, hc⟩ := h4 (by omega)
  refine ⟨b, o, ha, hb, hx, fun i cs hi => hc i cs ?_⟩
  rw [List.getElem?_take] at hi
  split at hi
  · exact hi
  · cases hi
theorem RepE.kept {e : Ex} {cs : List Value} (h : RepE w X e cs) (k : Kept X w w') : RepE w' X e cs := by
  induction h with
  | mk vs ho hn hs hl hr hv ih => exact .mk vs ho hn hs hl ih (hv.kept k)
theorem RepE.less {e : Ex} {cs : List Value} (h : RepE w X e cs) (hX : ∀ b, b < w.heap.size → b ∈ X' → b ∈ X) : RepE w X' e cs := by
  induction h with
  | mk vs ho hn hs hl hr hv ih => exact .mk vs ho hn hs hl ih (hv.less hX)
theorem SlE.kept {l : List Ex} (h : SlE w X l a len cap) (k : Kept X w w') : SlE w' X l a len cap := by
  obtain ⟨vs, h1, h2, h3⟩ := h
  exact ⟨vs, h1, fun i e cs he hc => (h2 i e cs he hc).kept k, h3.kept k⟩
theorem SlE.less {l : List Ex} (h : SlE w X l a len cap) (hX : ∀ b, b < w.heap.size → b ∈ X' → b ∈ X) : SlE w X' l a len cap := by
  obtain ⟨vs, h1, h2, h3⟩ := h
  exact ⟨vs, h1, fun i e cs he hc => (h2 i e cs he hc).less hX, h3.less hX⟩
theorem RepT.kept {e : Te} {cs : List Value} (h : RepT w X e cs) (k : Kept X w w') : RepT w' X e cs := by
  induction h with
  | mk vs ho hs he hl hr hv ih => exact .mk vs ho hs (he.kept k) hl ih (hv.kept k)
theorem RepT.less {e : Te} {cs : List Value} (h : RepT w X e cs) (hX : ∀ b, b < w.heap.size → b ∈ X' → b ∈ X) : RepT w X' e cs := by
  induction h with
  | mk vs ho hs he hl hr hv ih => exact .mk vs ho hs (he.less hX) hl ih (hv.less hX)
theorem SlT.kept {l : List Te} (h : SlT w X l a len cap) (k : Kept X w w') : SlT w' X l a len cap := by
  obtain ⟨vs, h1, h2, h3⟩ := h
  exact ⟨vs, h1, fun i e cs he hc => (h2 i e cs he hc).kept k, h3.kept k⟩
theorem SlT.less {l : List Te} (h : SlT w X l a len cap) (hX : ∀ b, b < w.heap.size → b ∈ X' → b ∈ X) : SlT w X' l a len cap := by
  obtain ⟨vs, h1, h2, h3⟩ := h
  exact ⟨vs, h1, fun i e cs he hc => (h2 i e cs he hc).less hX, h3.less hX⟩
theorem RepE.inv {e : Ex} {cs : List Value} (h : RepE w X e cs) : ∃ op n nm args a len cap, e = .mk op n nm args ∧ cs = [.int .i64 op, .int .i64 n, .string nm, .slice a len cap] ∧ I64 op ∧ I64 n ∧ nm.size ≤ 9223372036854775807 ∧ SlE w X args a len cap := by
  cases h with
  | mk vs ho hn hs hl hr hv => exact ⟨_, _, _, _, _, _, _, rfl, rfl, ho, hn, hs, vs, hl, hr, hv⟩
theorem RepT.inv {e : Te} {cs : List Value} (h : RepT w X e cs) : ∃ op nm exprs terms a len cap a' len' cap', e = .mk op nm exprs terms ∧ cs = [.int .i64 op, .string nm, .slice a len cap, .slice a' len' cap'] ∧ I64 op ∧ nm.size ≤ 9223372036854775807 ∧ SlE w X exprs a len cap ∧ SlT w X terms a' len' cap' := by
  cases h with
  | mk vs ho hs he hl hr hv => exact ⟨_, _, _, _, _, _, _, _, _, _, rfl, rfl, ho, hs, he, vs, hl, hr, hv⟩
theorem RepE.mk' {op n : Int} {nm : ByteArray} {args : List Ex} (ho : I64 op) (hn : I64 n) (hs : nm.size ≤ 9223372036854775807) (h : SlE w X args a len cap) : RepE w X (.mk op n nm args) [.int .i64 op, .int .i64 n, .string nm, .slice a len cap] := by
  obtain ⟨vs, h1, h2, h3⟩ := h; exact .mk vs ho hn hs h1 h2 h3
theorem RepT.mk' {op : Int} {nm : ByteArray} {exprs : List Ex} {terms : List Te} {a' : Option Addr} {len' cap' : Nat} (ho : I64 op) (hs : nm.size ≤ 9223372036854775807) (he : SlE w X exprs a len cap) (h : SlT w X terms a' len' cap') : RepT w X (.mk op nm exprs terms) [.int .i64 op, .string nm, .slice a len cap, .slice a' len' cap'] := by
  obtain ⟨vs, h1, h2, h3⟩ := h; exact .mk vs ho hs he h1 h2 h3
/-- What a slice is good for. -/
theorem SlE.facts {l : List Ex} (h : SlE w X l a len cap) : l.length = len ∧ len ≤ cap ∧ cap ≤ 9223372036854775807 := by
  obtain ⟨vs, h1, _, h3⟩ := h; exact ⟨by rw [← h1]; exact h3.1, h3.2.1, h3.2.2.1⟩
theorem SlT.facts {l : List Te} (h : SlT w X l a len cap) : l.length = len ∧ len ≤ cap ∧ cap ≤ 9223372036854775807 := by
  obtain ⟨vs, h1, _, h3⟩ := h; exact ⟨by rw [← h1]; exact h3.1, h3.2.1, h3.2.2.1⟩
theorem SlE.nil (w : World) (X : List Nat) : SlE w X [] none 0 0 := ⟨[], rfl, fun i e cs h _ => by simp at h, Sl.nil _ _ _⟩
theorem SlT.nil (w : World) (X : List Nat) : SlT w X [] none 0 0 := ⟨[], rfl, fun i e cs h _ => by simp at h, Sl.nil _ _ _⟩
/-- Four cells of an element. -/
def Four (w : World) (b o : Nat) (c0 c1 c2 c3 : Value) : Prop := w.cell? ⟨b, o, none⟩ = some c0 ∧ w.cell? ⟨b, o + 1, none⟩ = some c1 ∧ w.cell? ⟨b, o + 2, none⟩ = some c2 ∧ w.cell? ⟨b, o + 3, none⟩ = some c3
theorem four_of {b o : Nat} {c0 c1 c2 c3 : Value} (h : ∀ j c, [c0, c1, c2, c3][j]? = some c → w.cell? ⟨b, o + j, none⟩ = some c) : Four w b o c0 c1 c2 c3 := ⟨h 0 c0 rfl, h 1 c1 rfl, h 2 c2 rfl, h 3 c3 rfl⟩
theorem SlE.at {l : List Ex} (h : SlE w X l a len cap) (k : Nat) (hk : k < len) : ∃ b o op n nm args a' len' cap', a = some ⟨b, o, none⟩ ∧ b < w.heap.size ∧ b ∉ X ∧ l[k]? = some (.mk op n nm args) ∧ I64 op ∧ I64 n ∧ nm.size ≤ 9223372036854775807 ∧ SlE w X args a' len' cap' ∧
    Four w b (o + k * 4) (.int .i64 op) (.int .i64 n) (.string nm) (.slice a' len' cap') := by
  have hf := h.facts
  obtain ⟨vs, h1, h2, h3⟩ := h
  obtain ⟨b, o, ha, hb, hx, hc⟩ := h3.2.2.2 (by omega)
  have hlk : l[k]? = some (l[k]'(by omega)) := List.getElem?_eq_getElem (by omega)
  have hvk : vs[k]? = some (vs[k]'(by omega)) := List.getElem?_eq_getElem (by omega)
  have hR := h2 k _ _ hlk hvk
  obtain ⟨op, n, nm, args, a', len', cap', e1, e2, i1, i2, i3, i4⟩ := hR.inv
  rw [e1] at hlk
  rw [e2] at hvk
  exact ⟨b, o, op, n, nm, args, a', len', cap', ha, hb, hx, hlk, i1, i2, i3, i4, four_of ((hc k _ hvk).2)⟩
theorem SlT.at {l : List Te} (h : SlT w X l a len cap) (k : Nat) (hk : k < len) : ∃ b o op nm exprs terms a' len' cap' a2 len2 cap2, a = some ⟨b, o, none⟩ ∧ b < w.heap.size ∧ b ∉ X ∧ l[k]? = some (.mk op nm exprs terms) ∧ I64 op ∧ nm.size ≤ 9223372036854775807 ∧ SlE w X exprs a' len' cap' ∧ SlT w X terms a2 len2 cap2 ∧
    Four w b (o + k * 4) (.int .i64 op) (.string nm) (.slice a' len' cap') (.slice a2 len2 cap2) := by
  have hf := h.facts
  obtain ⟨vs, h1, h2, h3⟩ := h
  obtain ⟨b, o, ha, hb, hx, hc⟩ := h3.2.2.2 (by omega)
  have hlk : l[k]? = some (l[k]'(by omega)) := List.getElem?_eq_getElem (by omega)
  have hvk : vs[k]? = some (vs[k]'(by omega)) := List.getElem?_eq_getElem (by omega)
  have hR := h2 k _ _ hlk hvk
  obtain ⟨op, nm, exprs, terms, a', len', cap', a2, len2, cap2, e1, e2, i1, i2, i3, i4⟩ := hR.inv
  rw [e1] at hlk
  rw [e2] at hvk
  exact ⟨b, o, op, nm, exprs, terms, a', len', cap', a2, len2, cap2, ha, hb, hx, hlk, i1, i2, i3, i4, four_of ((hc k _ hvk).2)⟩
end
/-- How deep an expression, a term is. -/
def Ex.rk : Ex → Nat
  | .mk _ _ _ l => 1 + go l
  where go : List Ex → Nat
  | [] => 0
  | e :: t => max e.rk (go t)
def Te.rk : Te → Nat
  | .mk _ _ x l => 1 + max (Ex.rk.go x) (go l)
  where go : List Te → Nat
  | [] => 0
  | e :: t => max e.rk (go t)
theorem Ex.rk_mem {l : List Ex} {e : Ex} (h : e ∈ l) : e.rk ≤ Ex.rk.go l := by
  induction l with
  | nil => cases h
  | cons x t ih =>
    simp only [Ex.rk.go]
    rcases List.mem_cons.1 h with rfl | h
    · omega
    · have := ih h; omega
theorem Te.rk_mem {l : List Te} {e : Te} (h : e ∈ l) : e.rk ≤ Te.rk.go l := by
  induction l with
  | nil => cases h
  | cons x t ih =>
    simp only [Te.rk.go]
    rcases List.mem_cons.1 h with rfl | h
    · omega
    · have := ih h; omega
theorem Ex.rk_lt {op n : Int} {nm : ByteArray} {l : List Ex} {e : Ex} {k : Nat} (h : l[k]? = some e) : e.rk < (Ex.mk op n nm l).rk := by
  have := Ex.rk_mem (List.mem_of_getElem? h)
  simp only [Ex.rk]; omega
theorem Te.rk_lt {op : Int} {nm : ByteArray} {x : List Ex} {l : List Te} {e : Te} {k : Nat} (h : l[k]? = some e) : e.rk < (Te.mk op nm x l).rk := by
  have := Te.rk_mem (List.mem_of_getElem? h)
  simp only [Te.rk]; omega
/-- How many nodes an expression, a term has. -/
def Ex.nd : Ex → Nat
  | .mk _ _ _ l => 1 + go l
  where go : List Ex → Nat
  | [] => 0
  | e :: t => e.nd + go t
def Te.nd : Te → Nat
  | .mk _ _ x l => 1 + Ex.nd.go x + go l
  where go : List Te → Nat
  | [] => 0
  | e :: t => e.nd + go t
theorem Ex.nd_take {l : List Ex} {k : Nat} {e : Ex} (h : l[k]? = some e) : Ex.nd.go (l.take (k + 1)) = Ex.nd.go (l.take k) + e.nd := by
  induction l generalizing k with
  | nil => cases h
  | cons x t ih =>
    cases k with
    | zero => simp at h; subst h; simp [Ex.nd.go]
    | succ j => simp only [List.take_succ_cons, Ex.nd.go]; rw [ih (by simpa using h)]; omega
theorem Te.nd_take {l : List Te} {k : Nat} {e : Te} (h : l[k]? = some e) : Te.nd.go (l.take (k + 1)) = Te.nd.go (l.take k) + e.nd := by
  induction l generalizing k with
  | nil => cases h
  | cons x t ih =>
    cases k with
    | zero => simp at h; subst h; simp [Te.nd.go]
    | succ j => simp only [List.take_succ_cons, Te.nd.go]; rw [ih (by simpa using h)]; omega
theorem Ex.rk_take {l : List Ex} {k : Nat} {e : Ex} (h : l[k]? = some e) : Ex.rk.go (l.take (k + 1)) = max (Ex.rk.go (l.take k)) e.rk := by
  induction l generalizing k with
  | nil => cases h
  | cons x t ih =>
    cases k with
    | zero => simp at h; subst h; simp [Ex.rk.go]
    | succ j => simp only [List.take_succ_cons, Ex.rk.go]; rw [ih (by simpa using h)]; omega
theorem Te.rk_take {l : List Te} {k : Nat} {e : Te} (h : l[k]? = some e) : Te.rk.go (l.take (k + 1)) = max (Te.rk.go (l.take k)) e.rk := by
  induction l generalizing k with
  | nil => cases h
  | cons x t ih =>
    cases k with
    | zero => simp at h; subst h; simp [Te.rk.go]
    | succ j => simp only [List.take_succ_cons, Te.rk.go]; rw [ih (by simpa using h)]; omega
theorem Ex.nd_le (l : List Ex) (k : Nat) : Ex.nd.go (l.take k) ≤ Ex.nd.go l := by
  induction l generalizing k with
  | nil => simp
  | cons x t ih =>
    cases k with
    | zero => simp [Ex.nd.go]
    | succ j => simp only [List.take_succ_cons, Ex.nd.go]; have := ih j; omega
theorem Te.nd_le (l : List Te) (k : Nat) : Te.nd.go (l.take k) ≤ Te.nd.go l := by
  induction l generalizing k with
  | nil => simp
  | cons x t ih =>
    cases k with
    | zero => simp [Te.nd.go]
    | succ j => simp only [List.take_succ_cons, Te.nd.go]; have := ih j; omega
theorem Ex.rkx_lt {op : Int} {nm : ByteArray} {x : List Ex} {l : List Te} {e : Ex} {k : Nat} (h : x[k]? = some e) : e.rk < (Te.mk op nm x l).rk := by
  have := Ex.rk_mem (List.mem_of_getElem? h)
  simp only [Te.rk]; omega
end Go.Proofs.Ytmiinmndbkdjbaa

/- Small laws on memory, over any program: a row of the call's own that grows by append; no conditions beyond those typed. -/
namespace Go.Mem
open Go.RowKit
variable {P : Program}

theorem add0 (g j : Nat) : (⟨g, 0, none⟩ : Addr).add j = ⟨g, j, none⟩ := by unfold Addr.add; split <;> simp_all
theorem add_off (b o j : Nat) : (⟨b, o, none⟩ : Addr).add j = ⟨b, o + j, none⟩ := by unfold Addr.add; split <;> simp_all

/-- Below the heap as it was, and a row of the call's own. -/
structure Own (w0 w : World) (e : TypeId) (size : Nat) (v : Value) (n : Nat) (xs : List Value) : Prop where
  below : Below w0.heap.size w0 w
  own : w.ownsRow w0.heap.size e size v n xs

theorem Own.nil {w0 w : World} {e : TypeId} {size : Nat} (h : Below w0.heap.size w0 w) : Own w0 w e size (.slice none 0 0) 0 [] := ⟨h, World.ownsRow_nil _ _ _ _⟩
theorem Own.lit {w0 w : World} {e : TypeId} {size : Nat} (h : Below w0.heap.size w0 w) (cs : Array Value) (n : Nat) (hm : n ≤ maxLen) (hs : cs.size = n * size) :
    Own w0 (w.alloc (.cells cs e)) e size (.slice (some ⟨w.heap.size, 0, none⟩) n n) n cs.toList :=
  ⟨h.alloc h.size _, World.ownsRow_lit w cs n h.size hm hs⟩
theorem Own.alloc {w0 w : World} {e : TypeId} {size : Nat} {v : Value} {n : Nat} {xs : List Value} (h : Own w0 w e size v n xs) (o : Obj) : Own w0 (w.alloc o) e size v n xs :=
  ⟨h.below.alloc h.below.size _, h.own.alloc o⟩
theorem Own.drew {w0 w : World} {e : TypeId} {size : Nat} {v : Value} {n : Nat} {xs : List Value} (h : Own w0 w e size v n xs) : Own w0 w.drew e size v n xs := ⟨h.below.drew, h.own⟩
theorem grown_of_below {w w' : World} (hb : Below w.heap.size w w') (row : Option Nat) : w.grownBy w' row := ⟨hb.os, hb.tape, hb.output, hb.size, fun i hi _ => hb.block i hi⟩
/-- Behind a call that leaves all that was there. -/
theorem Own.call {w0 w w' : World} {e : TypeId} {size : Nat} {v : Value} {n : Nat} {xs : List Value} (h : Own w0 w e size v n xs) (hb : Below w.heap.size w w') : Own w0 w' e size v n xs :=
  ⟨h.below.trans (hb.mono h.below.size), h.own.kept (grown_of_below hb none) (by
    cases hv : v.ownBlock with
    | none => exact .inl rfl
    | some g => exact .inr (by simp))⟩
theorem Own.cell {w0 w : World} {e : TypeId} {size : Nat} {g n cap : Nat} {xs : List Value} (h : Own w0 w e size (.slice (some ⟨g, 0, none⟩) n cap) n xs) (j : Nat) (hj : j < n * size) : w.cell? ⟨g, j, none⟩ = xs[j]? :=
  h.own.cellAt j hj

/-- What is appended lies at an address: cells in a new block. -/
theorem lit_cells (w : World) (cs : Array Value) (t : TypeId) : ∀ j u, cs.toList[j]? = some u → (w.alloc (.cells cs t)).cell? ((⟨w.heap.size, 0, none⟩ : Addr).add j) = some u := by
  intro j u h
  rw [add0, World.cell?_alloc_mark]
  simpa using h

/-- append onto a row of the call's own. -/
theorem ap {w0 w : World} {ops : Array Oper} {rest : List Oper} {o : Oper} {a : Act} {Q : Exit → Act → World → Prop} {t e : TypeId} {z : Value} {size bytes : Nat}
    (hinfo : (P.info? e).map (fun i => (i.zero, i.size, i.bytes)) = some (some z, size, bytes)) (ht : P.underlying t = some (.slice e)) (hzs : z.cells.size = size) (hsz : 0 < size)
    (hgd : o.guard = none) (s x : Operand) (ho : o.op = .call { callee := .builtin .append, args := #[s, x], argTypes := #[t, t] })
    {v : Value} {n : Nat} {xs : List Value} (hs : a.eval s = v) (hown : Own w0 w e size v n xs)
    (ad : Addr) (m c : Nat) (news : List Value) (hx : a.eval x = .slice (some ad) m c) (hl : news.length = m * size)
    (hnews : ∀ j u, news[j]? = some u → w.cell? (ad.add j) = some u) (h1 : ∀ u ∈ news, u.oneCell' = true)
    (h63 : n + m ≤ maxLen) (hbytes : (n + m) * bytes ≤ 140737488355328)
    (h : ∀ v' w', Own w0 w' e size v' (n + m) (xs ++ news) → w.grownBy w' v.ownBlock → (v'.ownBlock = v.ownBlock ∨ v'.ownBlock = some w.heap.size) → (v' = .slice none 0 0 ↔ v = .slice none 0 0 ∧ m = 0) → wpList P ops Q rest (a.put o.dst v') w') :
    wpList P ops Q (o :: rest) a w := by
  obtain ⟨i, hi, hz, hsize, hby⟩ := info_parts hinfo
  refine wpList_plain hgd fun _ hK => ?_
  obtain ⟨v', w', hrun, h2, h3, h4, h5⟩ := run_append_own_at (P := P) w w0.heap.size t o.type e i z size bytes ht hi hz hsize hby hzs hsz v n xs hown.own ad m c news hl hnews h1 h63 hbytes hown.below.size
  unfold Oper.wp execOp
  simp only [ho, resolve, invoke, builtin, Sem.run_bind, Sem.run_pure, Result.andThen_ok, List.map_toArray, List.map_cons, List.map_nil, hs, hx, hrun]
  exact hK _ _ (h v' w' ⟨hown.below.grown h3 hown.below.size (fun k hk => (hown.own.lt k hk).1), h2⟩ h3 h5 h4)

/-- Block g is just the cells cs of element type t, none frozen. -/
def Blk (w : World) (g : Nat) (t : TypeId) (cs : Array Value) : Prop := w.heap[g]? = some (.cells cs t (0, 0))
section
variable {w w' : World} {g : Nat} {t : TypeId} {cs : Array Value}
theorem Blk.lt (h : Blk w g t cs) : g < w.heap.size := lt_of_block h
theorem Blk.cell (h : Blk w g t cs) (i : Nat) : w.cell? ⟨g, i, none⟩ = cs[i]? := cell_of_row w g i cs t (0, 0) h
theorem Blk.frozen (h : Blk w g t cs) (i : Nat) : w.frozen? ⟨g, i, none⟩ = false := by
  unfold Blk at h
  simp [World.frozen?, h]
theorem Blk.new (w : World) (t : TypeId) (cs : Array Value) : Blk (w.alloc (.cells cs t)) w.heap.size t cs := heap_alloc_new w _
theorem Blk.drew (h : Blk w g t cs) : Blk w.drew g t cs := h
theorem Blk.alloc (h : Blk w g t cs) (o : Obj) : Blk (w.alloc o) g t cs := (Below.heap_alloc w o g h.lt).trans h
theorem Blk.set_ (h : Blk w g t cs) (i : Nat) (u : Value) : Blk (w.setCell ⟨g, i, none⟩ u) g t (cs.setIfInBounds i u) := by
  unfold Blk at h ⊢
  simp [World.setCell, Array.getElem?_modify, h]
theorem Blk.far (h : Blk w g t cs) {p : Addr} (hp : g ≠ p.block) (u : Value) : Blk (w.setCell p u) g t cs := (Below.heap_setCell w p u g hp).trans h
theorem Blk.call {B : Nat} (h : Blk w g t cs) (hb : Below B w w') (hg : g < B) : Blk w' g t cs := (hb.block g hg).trans h
theorem Blk.below (h : Blk w g t cs) (hb : Below w.heap.size w w') : Blk w' g t cs := (hb.block g h.lt).trans h
theorem Blk.two {a b : Value} (h : Blk w g t #[a, b]) : w.cell? ⟨g, 0, none⟩ = some a ∧ w.cell? ⟨g, 1, none⟩ = some b ∧ w.frozen? ⟨g, 0, none⟩ = false ∧ w.frozen? ⟨g, 1, none⟩ = false :=
  ⟨h.cell 0, h.cell 1, h.frozen 0, h.frozen 1⟩
end
end Go.Mem

/- slices.IndexFunc, ContainsFunc over expressions and over terms, whatever the function is that is handed in. -/
namespace Go.Proofs.Ytmiinmndbkdjbaa
set_option linter.unusedVariables false
set_option linter.unusedSimpArgs false
open Go.RowKit
theorem enters_of {P : Program} {g : FuncId} {f : Func} (h : P.funcs[g]? = some f) (hn : (f.name == "runtime.NumGoroutine") = false) (hb : f.body.isNone = false) : ∀ args w, (callFunc g args).run P w = .ok (.enter g args) w := by
  intro args w
  unfold callFunc
  rw [Sem.run_bind]
  show Result.andThen (Result.ok P w) _ = _
  rw [Result.andThen_ok]
  rw [h]
  simp only [hn, hb]
  rfl
/-- Where the first one is of which p holds; -1. -/
def idxF {α : Type} (p : α → Bool) (l : List α) : Int := match l.findIdx? p with | some i => (i : Nat) | none => -1
theorem idxF_hit {α : Type} (p : α → Bool) (l : List α) (k : Nat) (x : α) (h : l[k]? = some x) (hp : p x = true) (hn : ∀ j y, j < k → l[j]? = some y → p y = false) : idxF p l = (k : Nat) := by
  unfold idxF
  have : l.findIdx? p = some k := by
    rw [List.findIdx?_eq_some_iff_getElem]
    have hk : k < l.length := (List.getElem?_eq_some_iff.1 h).1
    refine ⟨hk, ?_, ?_⟩
    · rw [List.getElem?_eq_getElem hk] at h; injection h with h; rw [h]; exact hp
    · intro j hj; have := hn j _ hj (List.getElem?_eq_getElem (by omega)); simp [this]
  rw [this]
theorem idxF_miss {α : Type} (p : α → Bool) (l : List α) (hn : ∀ (j : Nat) y, l[j]? = some y → p y = false) : idxF p l = -1 := by
  unfold idxF
  have : l.findIdx? p = none := by
    rw [List.findIdx?_eq_none_iff]
    intro x hx
    obtain ⟨j, hj, rfl⟩ := List.getElem_of_mem hx
    exact hn j _ (List.getElem?_eq_getElem hj)
  rw [this]
theorem idxF_any {α : Type} (p : α → Bool) (l : List α) : decide (0 ≤ idxF p l) = l.any p := by
  unfold idxF
  cases h : l.findIdx? p with
  | none =>
    rw [List.findIdx?_eq_none_iff] at h
    have : l.any p = false := by rw [List.any_eq_false]; intro x hx; simp [h x hx]
    rw [this]; rfl
  | some i =>
    rw [List.findIdx?_eq_some_iff_getElem] at h
    obtain ⟨hi, hp, _⟩ := h
    have : l.any p = true := by rw [List.any_eq_true]; exact ⟨_, List.getElem_mem hi, hp⟩
    rw [this]; simp
set_option maxHeartbeats 1000000 in
theorem indexE_any (g : FuncId) (p : Ex → Bool) (l : List Ex) (a : Option Addr) (len cap : Nat) (w : World) (eg : ∀ args w, (callFunc g args).run Try.prog w = .ok (.enter g args) w) (hS : SlE w [] l a len cap)
    (hP : ∀ (k : Nat) (e : Ex) (cs : List Value) (W : World), l[k]? = some e → RepE W [] e cs → Calls Try.prog g #[.agg cs.toArray] W fun r W' => r = .returned (.bool (p e)) ∧ Below W.heap.size W W') :
    Calls Try.prog 46 #[.slice a len cap, .func (.func g) #[] #[]] w fun e w' => e = .returned (.int .i64 (idxF p l)) ∧ Below w.heap.size w w' := by
  have HF : Hid (∀ x, x = idxF p l → Ending.returned (.int .i64 x) = .returned (.int .i64 (idxF p l))) := fun x h => by rw [h]
  have HH := Lib.hid (fun k x => idxF_hit p l k x)
  have HM := Lib.hid (idxF_miss p l)
  have HS := Lib.hid hS
  have HP := Lib.hid hP
  obtain ⟨f1, f2, f3⟩ := hS.facts
  have HL := Lib.hid f1
  clear hS hP f1
  go_enter Try.func46, Try.ntmps46
  go_wp2_with fail
  go_loopw [8] (fun i wr => ∃ k : Nat, i = .int .i64 (k : Nat) ∧ k ≤ len ∧ Hid (Below w.heap.size w wr) ∧ Hid (∀ j y, j < k → l[j]? = some y → p y = false)) (fun i _ => len - (intOf i).toNat)
  case atStart => exact ⟨0, rfl, Nat.zero_le _, Below.refl _ _, fun j y hj => absurd hj (Nat.not_lt_zero _)⟩
  case round =>
    obtain ⟨k, rfl, hk, HW, HN⟩ := hrel
    by_cases hlt : k < len
    · obtain ⟨b, o, op', n', nm', args', a', len', cap', rfl, hb, hbx, hle, j1, j2, j3, hS', g0, g1, g2, g3⟩ := (HS.out.kept (Kept.of_below HW.out [])).at k hlt
      have HC := Lib.hid (HP.out k _ _ wr hle (RepE.mk' j1 j2 j3 hS'))
      have HLE := Lib.hid hle
      clear hle hS'
      generalize Ex.mk op' n' nm' args' = e' at *
      cases hp : p e'
      · rw [hp] at HC
        have HN2 : Hid (∀ j y, j < k + 1 → l[j]? = some y → p y = false) := by
          intro j y hj hy
          rcases Nat.lt_or_ge j k with h | h
          · exact HN.out j y h hy
          · obtain rfl : j = k := by omega
            rw [HLE.out] at hy; injection hy with hy; subst hy; exact hp
        clear hp
        go_wp2_with fail
        refine HC.out.mono ?_; rintro r w1 ⟨rfl, b1⟩
        go_wp2
        go_roundw
        case rel => exact ⟨k + 1, by go_num, by omega, HW.out.trans (b1.mono HW.out.size), HN2⟩
        case measure => simp [intOf]; omega
      · rw [hp] at HC
        have F := Lib.hid (HF.out (k : Nat) (HH.out k e' HLE.out hp HN.out).symm)
        clear hp
        go_wp2_with fail
        refine HC.out.mono ?_; rintro r w1 ⟨rfl, b1⟩
        go_wp2
        go_ret
        exact ⟨F.out, HW.out.trans (b1.mono HW.out.size)⟩
    · have F := Lib.hid (HF.out (-1) (HM.out (fun j y hy => HN.out j y (by have := (List.getElem?_eq_some_iff.1 hy).1; have := HL.out; omega) hy)).symm)
      go_wp2
      go_ret
      exact ⟨F.out, HW.out⟩
theorem containsE_any (g : FuncId) (p : Ex → Bool) (l : List Ex) (a : Option Addr) (len cap : Nat) (w : World) (eg : ∀ args w, (callFunc g args).run Try.prog w = .ok (.enter g args) w) (hS : SlE w [] l a len cap)
    (hP : ∀ (k : Nat) (e : Ex) (cs : List Value) (W : World), l[k]? = some e → RepE W [] e cs → Calls Try.prog g #[.agg cs.toArray] W fun r W' => r = .returned (.bool (p e)) ∧ Below W.heap.size W W') :
    Calls Try.prog 27 #[.slice a len cap, .func (.func g) #[] #[]] w fun e w' => e = .returned (.bool (l.any p)) ∧ Below w.heap.size w w' := by
  have H := Lib.hid (indexE_any g p l a len cap w eg hS hP)
  have HE := Lib.hid (idxF_any p l)
  clear hS hP eg
  rw [← HE.out]
  generalize idxF p l = x at *
  go_enter Try.func27, Try.ntmps27
  go_wp2_with fail
  refine H.out.mono ?_; rintro r w1 ⟨rfl, b1⟩
  go_wp2
  go_ret
  exact ⟨rfl, b1⟩
set_option maxHeartbeats 1000000 in
theorem indexT_any (g : FuncId) (p : Te → Bool) (l : List Te) (a : Option Addr) (len cap : Nat) (w : World) (eg : ∀ args w, (callFunc g args).run Try.prog w = .ok (.enter g args) w) (hS : SlT w [] l a len cap)
    (hP : ∀ (k : Nat) (e : Te) (cs : List Value) (W : World), l[k]? = some e → RepT W [] e cs → Calls Try.prog g #[.agg cs.toArray] W fun r W' => r = .returned (.bool (p e)) ∧ Below W.heap.size W W') :
    Calls Try.prog 67 #[.slice a len cap, .func (.func g) #[] #[]] w fun e w' => e = .returned (.int .i64 (idxF p l)) ∧ Below w.heap.size w w' := by
  have HF : Hid (∀ x, x = idxF p l → Ending.returned (.int .i64 x) = .returned (.int .i64 (idxF p l))) := fun x h => by rw [h]
  have HH := Lib.hid (fun k x => idxF_hit p l k x)
  have HM := Lib.hid (idxF_miss p l)
  have HS := Lib.hid hS
  have HP := Lib.hid hP
  obtain ⟨f1, f2, f3⟩ := hS.facts
  have HL := Lib.hid f1
  clear hS hP f1
  go_enter Try.func67, Try.ntmps67
  go_wp2_with fail
  go_loopw [8] (fun i wr => ∃ k : Nat, i = .int .i64 (k : Nat) ∧ k ≤ len ∧ Hid (Below w.heap.size w wr) ∧ Hid (∀ j y, j < k → l[j]? = some y → p y = false)) (fun i _ => len - (intOf i).toNat)
  case atStart => exact ⟨0, rfl, Nat.zero_le _, Below.refl _ _, fun j y hj => absurd hj (Nat.not_lt_zero _)⟩
  case round =>
    obtain ⟨k, rfl, hk, HW, HN⟩ := hrel
    by_cases hlt : k < len
    · obtain ⟨b, o, op', nm', ex', te', a', len', cap', a3, len3, cap3, rfl, hb, hbx, hle, j1, j3, hS', hS3, g0, g1, g2, g3⟩ := (HS.out.kept (Kept.of_below HW.out [])).at k hlt
      have HC := Lib.hid (HP.out k _ _ wr hle (RepT.mk' j1 j3 hS' hS3))
      have HLE := Lib.hid hle
      clear hle hS' hS3
      generalize Te.mk op' nm' ex' te' = e' at *
      cases hp : p e'
      · rw [hp] at HC
        have HN2 : Hid (∀ j y, j < k + 1 → l[j]? = some y → p y = false) := by
          intro j y hj hy
          rcases Nat.lt_or_ge j k with h | h
          · exact HN.out j y h hy
          · obtain rfl : j = k := by omega
            rw [HLE.out] at hy; injection hy with hy; subst hy; exact hp
        clear hp
        go_wp2_with fail
        refine HC.out.mono ?_; rintro r w1 ⟨rfl, b1⟩
        go_wp2
        go_roundw
        case rel => exact ⟨k + 1, by go_num, by omega, HW.out.trans (b1.mono HW.out.size), HN2⟩
        case measure => simp [intOf]; omega
      · rw [hp] at HC
        have F := Lib.hid (HF.out (k : Nat) (HH.out k e' HLE.out hp HN.out).symm)
        clear hp
        go_wp2_with fail
        refine HC.out.mono ?_; rintro r w1 ⟨rfl, b1⟩
        go_wp2
        go_ret
        exact ⟨F.out, HW.out.trans (b1.mono HW.out.size)⟩
    · have F := Lib.hid (HF.out (-1) (HM.out (fun j y hy => HN.out j y (by have := (List.getElem?_eq_some_iff.1 hy).1; have := HL.out; omega) hy)).symm)
      go_wp2
      go_ret
      exact ⟨F.out, HW.out⟩
theorem containsT_any (g : FuncId) (p : Te → Bool) (l : List Te) (a : Option Addr) (len cap : Nat) (w : World) (eg : ∀ args w, (callFunc g args).run Try.prog w = .ok (.enter g args) w) (hS : SlT w [] l a len cap)
    (hP : ∀ (k : Nat) (e : Te) (cs : List Value) (W : World), l[k]? = some e → RepT W [] e cs → Calls Try.prog g #[.agg cs.toArray] W fun r W' => r = .returned (.bool (p e)) ∧ Below W.heap.size W W') :
    Calls Try.prog 53 #[.slice a len cap, .func (.func g) #[] #[]] w fun e w' => e = .returned (.bool (l.any p)) ∧ Below w.heap.size w w' := by
  have H := Lib.hid (indexT_any g p l a len cap w eg hS hP)
  have HE := Lib.hid (idxF_any p l)
  clear hS hP eg
  rw [← HE.out]
  generalize idxF p l = x at *
  go_enter Try.func53, Try.ntmps53
  go_wp2_with fail
  refine H.out.mono ?_; rintro r w1 ⟨rfl, b1⟩
  go_wp2
  go_ret
  exact ⟨rfl, b1⟩
end Go.Proofs.Ytmiinmndbkdjbaa

/- Contracts of names: letters, parts, Named, Reserved, free, of the program and of the document's answer. -/
namespace Go.Proofs.Ytmiinmndbkdjbaa
set_option linter.unusedVariables false
set_option linter.unusedSimpArgs false
open Go.RowKit
theorem ret_bool {a b : Bool} (h : a = b) : Ending.returned (.bool a) = .returned (.bool b) := by rw [h]
theorem ret_intk {k : IntKind} {a b : Int} (h : a = b) : Ending.returned (.int k a) = .returned (.int k b) := by rw [h]
def ltr (c : Int) : Bool := decide ((97 ≤ c ∧ c ≤ 122) ∨ (65 ≤ c ∧ c ≤ 90))
def dgt (c : Int) : Bool := decide (48 ≤ c ∧ c ≤ 57)
def prt (c : Int) : Bool := ltr c || dgt c || decide (c = 95)
theorem letter_any (c : Int) (w : World) : Calls Try.prog 77 #[.int .u8 c] w fun e w' => e = .returned (.bool (ltr c)) ∧ w = w' := by
  have HF : Hid (∀ b, ltr c = b → Ending.returned (.bool b) = .returned (.bool (ltr c))) := fun b h => ret_bool h.symm
  by_cases h1 : 97 ≤ c <;> by_cases h2 : c ≤ 122 <;> by_cases h3 : 65 ≤ c <;> by_cases h4 : c ≤ 90
  all_goals
    first
    | (exfalso; omega)
    | (have F := Lib.hid (HF.out true (by unfold ltr; simp; omega))
       go_enter Try.func77, Try.ntmps77
       go_wp2
       go_ret
       exact ⟨F.out, rfl⟩)
    | (have F := Lib.hid (HF.out false (by unfold ltr; simp; omega))
       go_enter Try.func77, Try.ntmps77
       go_wp2
       go_ret
       exact ⟨F.out, rfl⟩)
theorem rletter_any (c : Int) (w : World) : Calls Try.prog 87 #[.int .u8 c] w fun e w' => e = .returned (.bool (ltr c)) ∧ w = w' := by
  have HF : Hid (∀ b, ltr c = b → Ending.returned (.bool b) = .returned (.bool (ltr c))) := fun b h => ret_bool h.symm
  by_cases h1 : 97 ≤ c <;> by_cases h2 : c ≤ 122 <;> by_cases h3 : 65 ≤ c <;> by_cases h4 : c ≤ 90
  all_goals
    first
    | (exfalso; omega)
    | (have F := Lib.hid (HF.out true (by unfold ltr; simp; omega))
       go_enter Try.func87, Try.ntmps87
       go_wp2
       go_ret
       exact ⟨F.out, rfl⟩)
    | (have F := Lib.hid (HF.out false (by unfold ltr; simp; omega))
       go_enter Try.func87, Try.ntmps87
       go_wp2
       go_ret
       exact ⟨F.out, rfl⟩)
theorem digit_any (c : Int) (w : World) : Calls Try.prog 86 #[.int .u8 c] w fun e w' => e = .returned (.bool (dgt c)) ∧ w = w' := by
  have HF : Hid (∀ b, dgt c = b → Ending.returned (.bool b) = .returned (.bool (dgt c))) := fun b h => ret_bool h.symm
  by_cases h1 : 48 ≤ c <;> by_cases h2 : c ≤ 57
  all_goals
    first
    | (exfalso; omega)
    | (have F := Lib.hid (HF.out true (by unfold dgt; simp; omega))
       go_enter Try.func86, Try.ntmps86
       go_wp2
       go_ret
       exact ⟨F.out, rfl⟩)
    | (have F := Lib.hid (HF.out false (by unfold dgt; simp; omega))
       go_enter Try.func86, Try.ntmps86
       go_wp2
       go_ret
       exact ⟨F.out, rfl⟩)
theorem part_any (c : Int) (w : World) : Calls Try.prog 79 #[.int .u8 c] w fun e w' => e = .returned (.bool (prt c)) ∧ w = w' := by
  have HF : Hid (∀ b, prt c = b → Ending.returned (.bool b) = .returned (.bool (prt c))) := fun b h => ret_bool h.symm
  have HL := Lib.hid (fun W => letter_any c W)
  have HD := Lib.hid (fun W => digit_any c W)
  have HP := Lib.hid (show prt c = (ltr c || dgt c || decide (c = 95)) from rfl)
  generalize ltr c = a at *
  generalize dgt c = b at *
  cases a <;> cases b
  case false.false =>
    have F := Lib.hid (HF.out (c == 95) (by rw [HP.out]; rfl))
    go_enter Try.func79, Try.ntmps79
    go_wp2_with fail
    refine (HL.out _).mono ?_; rintro e w' ⟨rfl, rfl⟩
    go_wp2_with fail
    refine (HD.out _).mono ?_; rintro e w' ⟨rfl, rfl⟩
    go_wp2
    go_ret
    exact ⟨F.out, rfl⟩
  case false.true =>
    have F := Lib.hid (HF.out true (by rw [HP.out]; simp))
    go_enter Try.func79, Try.ntmps79
    go_wp2_with fail
    refine (HL.out _).mono ?_; rintro e w' ⟨rfl, rfl⟩
    go_wp2_with fail
    refine (HD.out _).mono ?_; rintro e w' ⟨rfl, rfl⟩
    go_wp2
    go_ret
    exact ⟨F.out, rfl⟩
  all_goals
    have F := Lib.hid (HF.out true (by rw [HP.out]; simp))
    go_enter Try.func79, Try.ntmps79
    go_wp2_with fail
    refine (HL.out _).mono ?_; rintro e w' ⟨rfl, rfl⟩
    go_wp2
    go_ret
    exact ⟨F.out, rfl⟩
theorem rpart_any (c : Int) (w : World) : Calls Try.prog 88 #[.int .u8 c] w fun e w' => e = .returned (.bool (prt c)) ∧ w = w' := by
  have HF : Hid (∀ b, prt c = b → Ending.returned (.bool b) = .returned (.bool (prt c))) := fun b h => ret_bool h.symm
  have HL := Lib.hid (fun W => rletter_any c W)
  have HP := Lib.hid (show prt c = (ltr c || decide (48 ≤ c ∧ c ≤ 57) || decide (c = 95)) from rfl)
  generalize ltr c = a at *
  cases a
  case false =>
    by_cases h1 : 48 ≤ c
    all_goals
      go_enter Try.func88, Try.ntmps88
      go_wp2_with fail
      refine (HL.out _).mono ?_; rintro e w' ⟨rfl, rfl⟩
      go_wp2
      all_goals
        go_ret
        exact ⟨HF.out _ (by rw [HP.out, Bool.eq_iff_iff]; simp; try omega), rfl⟩
  all_goals
    have F := Lib.hid (HF.out true (by rw [HP.out]; simp))
    go_enter Try.func88, Try.ntmps88
    go_wp2_with fail
    refine (HL.out _).mono ?_; rintro e w' ⟨rfl, rfl⟩
    go_wp2
    go_ret
    exact ⟨F.out, rfl⟩
/-- The bytes of a string, as integers. -/
def bs (s : ByteArray) : List Int := s.data.toList.map fun c => (c.toNat : Int)
theorem bs_len (s : ByteArray) : (bs s).length = s.size := by unfold bs; simp
theorem bs_get (s : ByteArray) (k : Nat) (h : k < s.size) : (bs s)[k]? = some ((s[k].toNat : Nat) : Int) := by
  unfold bs
  rw [List.getElem?_map, List.getElem?_eq_getElem (by simpa using h)]; rfl
/-- How many first bytes are so. -/
def runN (p : Int → Bool) : List Int → Nat
  | [] => 0
  | c :: t => if p c then 1 + runN p t else 0
theorem runN_le (p : Int → Bool) (l : List Int) : runN p l ≤ l.length := by
  induction l with
  | nil => exact Nat.le_refl _
  | cons c t ih => simp only [runN]; split <;> simp <;> omega
theorem runN_all (p : Int → Bool) (l : List Int) : runN p l = l.length ↔ l.all p = true := by
  induction l with
  | nil => simp [runN]
  | cons c t ih =>
    have := runN_le p t
    simp only [runN, List.all_cons, List.length_cons]
    cases h : p c
    · simp
    · simp only [if_true, Bool.true_and, ← ih]; omega
theorem runN_at (p : Int → Bool) (l : List Int) (k : Nat) (c : Int) (h : l[k]? = some c) (hr : k ≤ runN p l) : (p c = true → k + 1 ≤ runN p l) ∧ (p c = false → runN p l = k) := by
  induction l generalizing k with
  | nil => cases h
  | cons x t ih =>
    simp only [runN] at hr ⊢
    cases k with
    | zero =>
      simp at h; subst h
      constructor
      · intro hp; rw [if_pos hp]; omega
      · intro hp; rw [hp]; rfl
    | succ j =>
      cases hx : p x
      · rw [hx] at hr; simp at hr
      · simp only [hx, if_true] at hr ⊢
        have := ih j (by simpa using h) (by omega)
        constructor
        · intro hp; have := this.1 hp; omega
        · intro hp; have := this.2 hp; omega
set_option maxHeartbeats 400000 in
theorem run_any (s : ByteArray) (w : World) (hs : s.size ≤ 9223372036854775807) :
    Calls Try.prog 78 #[.string s, .func (.func 79) #[] #[]] w fun e w' => e = .returned (.int .i64 (runN prt (bs s) : Nat)) ∧ w = w' := by
  have HP := Lib.hid (fun c W => part_any c W)
  have HA := Lib.hid (fun k c => runN_at prt (bs s) k c)
  have HL := Lib.hid (runN_le prt (bs s))
  have HG := Lib.hid (fun k h => bs_get s k h)
  have HN := Lib.hid (bs_len s)
  generalize runN prt (bs s) = r at *
  go_enter Try.func78, Try.ntmps78
  go_wp2_with fail
  go_loop [5] (fun n => ∃ k : Nat, n = .int .i64 k ∧ k ≤ r ∧ k ≤ s.size) (fun n => s.size - (intOf n).toNat)
  case atStart => exact ⟨0, rfl, Nat.zero_le _, Nat.zero_le _⟩
  case round =>
    obtain ⟨k, rfl, hk, hk2⟩ := hrel
    by_cases hlt : k < s.size
    · have ha := HA.out k _ (HG.out k hlt) hk
      have HC := Lib.hid (fun W => HP.out (s[k].toNat : Nat) W)
      cases hp : prt (s[k].toNat : Nat)
      · rw [hp] at HC
        have e := ha.2 hp
        clear ha hp
        subst e
        go_wp2_with fail
        refine (HC.out _).mono ?_; rintro e w' ⟨rfl, rfl⟩
        go_wp2
        go_ret
        exact ⟨rfl, rfl⟩
      · rw [hp] at HC
        have e := ha.1 hp
        clear ha hp
        go_wp2_with fail
        refine (HC.out _).mono ?_; rintro e w' ⟨rfl, rfl⟩
        go_wp2
        go_round
        case rel => exact ⟨k + 1, by go_num, e, by omega⟩
        case measure => simp [intOf]; omega
    · have e : k = r := by have h1 := HL.out; have h2 := HN.out; rw [h2] at h1; omega
      subst e
      go_wp2
      go_ret
      exact ⟨rfl, rfl⟩
end Go.Proofs.Ytmiinmndbkdjbaa

/- Contracts of Named and Reserved, of the program and of the document's answer. -/
namespace Go.Proofs.Ytmiinmndbkdjbaa
set_option linter.unusedVariables false
set_option linter.unusedSimpArgs false
open Go.RowKit
/-- Is a text a name? -/
def nmd (s : ByteArray) : Bool := decide (1 ≤ s.size) && decide (s.size ≤ 16) && ltr ((bs s).getD 0 0) && (bs s).all prt
theorem ne_nil_size (s : ByteArray) : (s.data.toList.isEmpty = false) ↔ 1 ≤ s.size := by
  have e : s.data.toList.length = s.size := rfl
  cases h : s.data.toList with
  | nil => rw [h] at e; exact ⟨(fun h => by cases h), (fun h => by simp only [List.length_nil] at e; omega)⟩
  | cons a t => rw [h] at e; exact ⟨(fun _ => by simp only [List.length_cons] at e; omega), (fun _ => rfl)⟩
set_option maxHeartbeats 1000000 in
theorem named_any (s : ByteArray) (w : World) (hs : s.size ≤ 9223372036854775807) : Calls Try.prog 63 #[.string s] w fun e w' => e = .returned (.bool (nmd s)) ∧ w = w' := by
  have HF : Hid (∀ b, nmd s = b → Ending.returned (.bool b) = .returned (.bool (nmd s))) := fun b h => ret_bool h.symm
  have HR := Lib.hid (fun W => run_any s W hs)
  have HN := Lib.hid (show nmd s = (decide (1 ≤ s.size) && decide (s.size ≤ 16) && ltr ((bs s).getD 0 0) && (bs s).all prt) from rfl)
  have HE := Lib.hid (ne_nil_size s)
  have HA := Lib.hid (runN_all prt (bs s))
  have HB := Lib.hid (bs_len s)
  have HG := Lib.hid (fun k h => bs_get s k h)
  by_cases h1 : 1 ≤ s.size
  case neg =>
    have h0 : s.toList = [] := by
      cases hh : s.toList with
      | nil => rfl
      | cons a t => exfalso; have := (HE.out).1 (by rw [← ByteArray.toList_eq, hh]; rfl); omega
    have F := Lib.hid (HF.out false (by rw [HN.out]; simp [h1]))
    clear h1
    go_enter Try.func63, Try.ntmps63
    go_wp2
    go_ret
    exact ⟨F.out, rfl⟩
  have h0 : s.toList.isEmpty = false := by rw [ByteArray.toList_eq]; exact (HE.out).2 h1
  have h0' : (!s.toList.isEmpty) = true := by rw [h0]; rfl
  by_cases h2 : s.size ≤ 16
  case neg =>
    have F := Lib.hid (HF.out false (by rw [HN.out]; simp [h2]))
    go_enter Try.func63, Try.ntmps63
    go_wp2
    go_ret
    exact ⟨F.out, rfl⟩
  have HL := Lib.hid (fun W => letter_any (s[0].toNat : Nat) W)
  have eg : (bs s).getD 0 0 = (s[0].toNat : Nat) := by rw [List.getD_eq_getElem?_getD, HG.out 0 h1]; rfl
  have HL2 := Lib.hid (show nmd s = (ltr (s[0].toNat : Nat) && (bs s).all prt) by rw [HN.out, eg]; simp [h1, h2])
  clear eg
  cases hl : ltr (s[0].toNat : Nat)
  · rw [hl] at HL HL2
    have F := Lib.hid (HF.out false (by rw [HL2.out]; rfl))
    clear hl
    go_enter Try.func63, Try.ntmps63
    go_wp2_with fail
    refine (HL.out _).mono ?_; rintro e w' ⟨rfl, rfl⟩
    go_wp2
    go_ret
    exact ⟨F.out, rfl⟩
  · rw [hl] at HL HL2
    have F := Lib.hid (HF.out (((runN prt (bs s) : Nat) : Int) == (s.size : Nat)) (by
      rw [HL2.out, Bool.eq_iff_iff, Bool.true_and, ← HA.out, HB.out]; simp; omega))
    clear hl
    generalize runN prt (bs s) = r at *
    go_enter Try.func63, Try.ntmps63
    go_wp2_with fail
    refine (HL.out _).mono ?_; rintro e w' ⟨rfl, rfl⟩
    go_wp2_with fail
    refine (HR.out _).mono ?_; rintro e w' ⟨rfl, rfl⟩
    go_wp2
    go_ret
    exact ⟨F.out, rfl⟩
set_option maxHeartbeats 1000000 in
theorem rnamed_any (s : ByteArray) (w : World) (hs : s.size ≤ 9223372036854775807) : Calls Try.prog 80 #[.string s] w fun e w' => e = .returned (.bool (nmd s)) ∧ w = w' := by
  have HF : Hid (∀ b, nmd s = b → Ending.returned (.bool b) = .returned (.bool (nmd s))) := fun b h => ret_bool h.symm
  have HN := Lib.hid (show nmd s = (decide (1 ≤ s.size) && decide (s.size ≤ 16) && ltr ((bs s).getD 0 0) && (bs s).all prt) from rfl)
  have HB := Lib.hid (bs_len s)
  have HG := Lib.hid (fun k h => bs_get s k h)
  by_cases h1 : 1 ≤ s.size
  case neg =>
    have F := Lib.hid (HF.out false (by rw [HN.out]; simp [h1]))
    have h0 : decide (s.size < 1) = true := decide_eq_true (by omega)
    go_enter Try.func80, Try.ntmps80
    go_wp2
    go_ret
    exact ⟨F.out, rfl⟩
  by_cases h2 : s.size ≤ 16
  case neg =>
    have F := Lib.hid (HF.out false (by rw [HN.out]; simp [h2]))
    go_enter Try.func80, Try.ntmps80
    go_wp2
    go_ret
    exact ⟨F.out, rfl⟩
  have HL := Lib.hid (fun W => rletter_any (s[0].toNat : Nat) W)
  have eg : (bs s).getD 0 0 = (s[0].toNat : Nat) := by rw [List.getD_eq_getElem?_getD, HG.out 0 h1]; rfl
  have HL2 := Lib.hid (show nmd s = (ltr (s[0].toNat : Nat) && (bs s).all prt) by rw [HN.out, eg]; simp [h1, h2])
  clear eg
  cases hl : ltr (s[0].toNat : Nat)
  · rw [hl] at HL HL2
    have F := Lib.hid (HF.out false (by rw [HL2.out]; rfl))
    clear hl
    go_enter Try.func80, Try.ntmps80
    go_wp2_with fail
    refine (HL.out _).mono ?_; rintro e w' ⟨rfl, rfl⟩
    go_wp2
    go_ret
    exact ⟨F.out, rfl⟩
  · rw [hl] at HL HL2
    have HA := Lib.hid (fun k c => runN_at prt (bs s) k c)
    have HT := Lib.hid (runN_all prt (bs s))
    have HQ := Lib.hid (runN_le prt (bs s))
    have FT : Hid (s.size ≤ runN prt (bs s) → Ending.returned (.bool true) = .returned (.bool (nmd s))) := fun h => HF.out true (by
      rw [HL2.out, Bool.true_and, ← HT.out, HB.out]; have := HQ.out; have := HB.out; omega)
    have FF : Hid (runN prt (bs s) < s.size → Ending.returned (.bool false) = .returned (.bool (nmd s))) := fun h => HF.out false (by
      rw [HL2.out, Bool.true_and]
      cases hh : (bs s).all prt with
      | false => rfl
      | true => exfalso; have := HT.out.2 hh; rw [HB.out] at this; omega)
    clear hl
    generalize runN prt (bs s) = r at *
    go_enter Try.func80, Try.ntmps80
    go_wp2_with fail
    refine (HL.out _).mono ?_; rintro e w' ⟨rfl, rfl⟩
    go_wp2_with fail
    go_loop [3] (fun n => ∃ k : Nat, n = .int .i64 k ∧ k ≤ r ∧ k ≤ s.size) (fun n => s.size - (intOf n).toNat)
    case atStart => exact ⟨0, rfl, Nat.zero_le _, Nat.zero_le _⟩
    case round =>
      obtain ⟨k, rfl, hk, hk2⟩ := hrel
      by_cases hlt : k < s.size
      · have ha := HA.out k _ (HG.out k hlt) hk
        have HC := Lib.hid (fun W => rpart_any (s[k].toNat : Nat) W)
        cases hp : prt (s[k].toNat : Nat)
        · rw [hp] at HC
          have e := ha.2 hp
          clear ha hp
          have F := Lib.hid (FF.out (by omega))
          clear e
          go_wp2_with fail
          refine (HC.out _).mono ?_; rintro e w' ⟨rfl, rfl⟩
          go_wp2
          go_ret
          exact ⟨F.out, rfl⟩
        · rw [hp] at HC
          have e := ha.1 hp
          clear ha hp
          go_wp2_with fail
          refine (HC.out _).mono ?_; rintro e w' ⟨rfl, rfl⟩
          go_wp2
          go_round
          case rel => exact ⟨k + 1, by go_num, e, by omega⟩
          case measure => simp [intOf]; omega
      · have F := Lib.hid (FT.out (by omega))
        go_wp2
        go_ret
        exact ⟨F.out, rfl⟩
end Go.Proofs.Ytmiinmndbkdjbaa

/- Contracts of Reserved and free, of the program and of the document's answer. -/
namespace Go.Proofs.Ytmiinmndbkdjbaa
set_option linter.unusedVariables false
set_option linter.unusedSimpArgs false
open Go.RowKit
/-- The reserved words. -/
def words : List ByteArray := [⟨#[122, 101, 114, 111]⟩, ⟨#[111, 110, 101]⟩, ⟨#[103, 105, 118, 101]⟩, ⟨#[97, 110, 100]⟩, ⟨#[111, 114]⟩, ⟨#[115, 99, 97, 108, 101]⟩, ⟨#[119, 104, 101, 110]⟩, ⟨#[117, 110, 116, 105, 108]⟩, ⟨#[97, 110, 121, 116, 105, 109, 101]⟩, ⟨#[100, 97, 121]⟩, ⟨#[109, 105, 110]⟩, ⟨#[109, 97, 120]⟩, ⟨#[105, 102]⟩]
def rsv (s : ByteArray) : Bool := words.any fun k => s.toList == k.toList
theorem rsv_eq (s : ByteArray) : rsv s = (s.toList == [122, 101, 114, 111] || s.toList == [111, 110, 101] || s.toList == [103, 105, 118, 101] || s.toList == [97, 110, 100] || s.toList == [111, 114] || s.toList == [115, 99, 97, 108, 101] || s.toList == [119, 104, 101, 110] || s.toList == [117, 110, 116, 105, 108] || s.toList == [97, 110, 121, 116, 105, 109, 101] || s.toList == [100, 97, 121] || s.toList == [109, 105, 110] || s.toList == [109, 97, 120] || s.toList == [105, 102]) := by
  unfold rsv words
  simp only [List.any_cons, List.any_nil, ByteArray.toList_eq, Bool.or_false, Bool.or_assoc]
set_option maxHeartbeats 1000000 in
theorem reserved_any (s : ByteArray) (w : World) : Calls Try.prog 64 #[.string s] w fun e w' => e = .returned (.bool (rsv s)) ∧ w = w' := by
  have HF : Hid (∀ b, rsv s = b → Ending.returned (.bool b) = .returned (.bool (rsv s))) := fun b h => ret_bool h.symm
  have HR := Lib.hid (rsv_eq s)
  go_enter Try.func64, Try.ntmps64
  go_wp2
  all_goals
    go_ret
    exact ⟨HF.out _ (by rw [HR.out]; simp_all), rfl⟩
theorem words_len : words.length = 13 := rfl
theorem rsv_at (s : ByteArray) (k : Nat) (h : k < 13) (he : ((words.getD k ByteArray.empty).toList == s.toList) = true) : rsv s = true := by
  unfold rsv
  rw [List.any_eq_true]
  refine ⟨words.getD k ByteArray.empty, ?_, ?_⟩
  · rw [List.getD_eq_getElem?_getD, List.getElem?_eq_getElem (by rw [words_len]; exact h)]; exact List.getElem_mem _
  · have := eq_of_beq he; rw [this]; exact beq_self_eq_true _
theorem rsv_none (s : ByteArray) (h : ∀ k, k < 13 → ((words.getD k ByteArray.empty).toList == s.toList) = false) : rsv s = false := by
  unfold rsv
  rw [List.any_eq_false]
  intro x hx
  obtain ⟨k, hk, rfl⟩ := List.getElem_of_mem hx
  have := h k (by rw [words_len] at hk; exact hk)
  rw [List.getD_eq_getElem?_getD, List.getElem?_eq_getElem hk] at this
  intro he
  have e := eq_of_beq he
  simp only [Option.getD_some] at this
  rw [e, beq_self_eq_true] at this; cases this
set_option maxHeartbeats 1000000 in
theorem rreserved_any (s : ByteArray) (w : World) : Calls Try.prog 81 #[.string s] w fun e w' => e = .returned (.bool (rsv s)) ∧ Below w.heap.size w w' := by
  have HT : Hid (∀ k, k < 13 → ((words.getD k ByteArray.empty).toList == s.toList) = true → Ending.returned (.bool true) = .returned (.bool (rsv s))) := fun k h he => ret_bool (rsv_at s k h he).symm
  have HF : Hid ((∀ k, k < 13 → ((words.getD k ByteArray.empty).toList == s.toList) = false) → Ending.returned (.bool false) = .returned (.bool (rsv s))) := fun h => ret_bool (rsv_none s h).symm
  have HC : Hid (∀ k, k < 13 → (w.alloc (.cells (words.map Value.string).toArray 9)).cell? ⟨w.heap.size, k, none⟩ = some (.string (words.getD k ByteArray.empty))) := by
    intro k hk
    have B : Mem.Blk _ w.heap.size 9 (words.map Value.string).toArray := Mem.Blk.new w 9 _
    rw [B.cell]
    match k, hk with
    | 0, _ => rfl
    | 1, _ => rfl
    | 2, _ => rfl
    | 3, _ => rfl
    | 4, _ => rfl
    | 5, _ => rfl
    | 6, _ => rfl
    | 7, _ => rfl
    | 8, _ => rfl
    | 9, _ => rfl
    | 10, _ => rfl
    | 11, _ => rfl
    | 12, _ => rfl
    | n + 13, h => omega
  have HB := Lib.hid ((Below.refl w.heap.size w).alloc (Nat.le_refl _) (.cells (words.map Value.string).toArray 9))
  go_enter Try.func81, Try.ntmps81
  go_wp2_with fail
  have HE : Hid (∀ W, W = w.alloc (.cells (words.map Value.string).toArray 9) → Below w.heap.size w W ∧ ∀ k, k < 13 → W.cell? ⟨w.heap.size, k, none⟩ = some (.string (words.getD k ByteArray.empty))) := fun W h => by subst h; exact ⟨HB.out, HC.out⟩
  generalize hW : w.alloc _ = v
  obtain ⟨HB, HC⟩ := HE.out v (by rw [← hW]; rfl)
  have HC2 := Lib.hid HC
  clear HE hW HC
  go_loop [4] (fun n => ∃ k : Nat, n = .int .i64 k ∧ k ≤ 13 ∧ Hid (∀ j, j < k → ((words.getD j ByteArray.empty).toList == s.toList) = false)) (fun n => 13 - (intOf n).toNat)
  case atStart => exact ⟨0, rfl, Nat.zero_le _, fun j hj => absurd hj (Nat.not_lt_zero _)⟩
  case round =>
    obtain ⟨k, rfl, hk, HP⟩ := hrel
    by_cases hlt : k < 13
    · have hc := HC2.out k hlt
      have F := HT.out k hlt
      have HN : Hid (((words.getD k ByteArray.empty).toList == s.toList) = false → ∀ j, j < k + 1 → ((words.getD j ByteArray.empty).toList == s.toList) = false) := by
        intro h j hj
        rcases Nat.lt_or_ge j k with h1 | h1
        · exact HP.out j h1
        · obtain rfl : j = k := by omega
          exact h
      have F2 := Lib.hid F
      clear F
      generalize words.getD k ByteArray.empty = x at *
      cases hx : (x.toList == s.toList)
      · have HN2 := Lib.hid (HN.out hx)
        go_wp2
        go_round
        case rel => exact ⟨k + 1, by go_num, by omega, HN2.out⟩
        case measure => simp [intOf]; omega
      · have F3 := Lib.hid (F2.out hx)
        go_wp2
        go_ret
        exact ⟨F3.out, HB⟩
    · have F := Lib.hid (HF.out (fun j hj => HP.out j (by omega)))
      go_wp2
      go_ret
      exact ⟨F.out, HB⟩
/-- A name that isn't reserved. -/
def fre (s : ByteArray) : Bool := nmd s && !rsv s
theorem free_any (s : ByteArray) (w : World) (hs : s.size ≤ 9223372036854775807) : Calls Try.prog 50 #[.string s] w fun e w' => e = .returned (.bool (fre s)) ∧ w = w' := by
  have HF : Hid (∀ b, fre s = b → Ending.returned (.bool b) = .returned (.bool (fre s))) := fun b h => ret_bool h.symm
  have HD := Lib.hid (show fre s = (nmd s && !rsv s) from rfl)
  have H1 := Lib.hid (fun W => named_any s W hs)
  have H2 := Lib.hid (fun W => reserved_any s W)
  generalize nmd s = a at *
  generalize rsv s = b at *
  cases a
  · have F := Lib.hid (HF.out false (by rw [HD.out]; rfl))
    go_enter Try.func50, Try.ntmps50
    go_wp2_with fail
    refine (H1.out _).mono ?_; rintro e w' ⟨rfl, rfl⟩
    go_wp2
    go_ret
    exact ⟨F.out, rfl⟩
  · have F := Lib.hid (HF.out (!b) (by rw [HD.out]; rfl))
    go_enter Try.func50, Try.ntmps50
    go_wp2_with fail
    refine (H1.out _).mono ?_; rintro e w' ⟨rfl, rfl⟩
    go_wp2_with fail
    refine (H2.out _).mono ?_; rintro e w' ⟨rfl, rfl⟩
    go_wp2
    go_ret
    exact ⟨F.out, rfl⟩
theorem rfree_any (s : ByteArray) (w : World) (hs : s.size ≤ 9223372036854775807) : Calls Try.prog 68 #[.string s] w fun e w' => e = .returned (.bool (fre s)) ∧ Below w.heap.size w w' := by
  have HF : Hid (∀ b, fre s = b → Ending.returned (.bool b) = .returned (.bool (fre s))) := fun b h => ret_bool h.symm
  have HD := Lib.hid (show fre s = (nmd s && !rsv s) from rfl)
  have H1 := Lib.hid (fun W => rnamed_any s W hs)
  have H2 := Lib.hid (fun W => rreserved_any s W)
  generalize nmd s = a at *
  generalize rsv s = b at *
  cases a
  · have F := Lib.hid (HF.out false (by rw [HD.out]; rfl))
    go_enter Try.func68, Try.ntmps68
    go_wp2_with fail
    refine (H1.out _).mono ?_; rintro e w' ⟨rfl, rfl⟩
    go_wp2
    go_ret
    exact ⟨F.out, Below.refl _ _⟩
  · have F := Lib.hid (HF.out (!b) (by rw [HD.out]; rfl))
    go_enter Try.func68, Try.ntmps68
    go_wp2_with fail
    refine (H1.out _).mono ?_; rintro e w' ⟨rfl, rfl⟩
    go_wp2_with fail
    refine (H2.out _).mono ?_; rintro e w1 ⟨rfl, b1⟩
    go_wp2
    go_ret
    exact ⟨F.out, b1⟩
end Go.Proofs.Ytmiinmndbkdjbaa

/- Contracts of arity, arities, builtExpr. -/
namespace Go.Proofs.Ytmiinmndbkdjbaa
set_option linter.unusedVariables false
set_option linter.unusedSimpArgs false
open Go.RowKit
theorem quiet_left {P : Program} {f : FuncId} {args : Array Value} {w : World} {n : Nat} {v : Value}
    (h : Calls P f args (w.drewN n) fun e w' => e = .returned v ∧ w.drewN n = w') : Calls P f args (w.drewN n) fun e w'' => e = .returned v ∧ ∃ m, w'' = w.drewN m :=
  h.mono fun _ _ ⟨he, hm⟩ => ⟨he, n, hm.symm⟩
def ar (op : Int) : Int := if 1 ≤ op ∧ op ≤ 4 then 0 else if 5 ≤ op ∧ op ≤ 18 then 2 else if op = 19 ∨ op = 20 then 1 else if op = 21 then 3 else -1
theorem arity_any (op : Int) (w : World) : Calls Try.prog 65 #[.int .i64 op] w fun e w' => e = .returned (.int .i64 (ar op)) ∧ w = w' := by
  by_cases h5 : op = 19
  · subst h5; rw [show ar 19 = 1 by decide]; go_enter Try.func65, Try.ntmps65; go_wp2; go_ret; exact ⟨rfl, rfl⟩
  by_cases h6 : op = 20
  · subst h6; rw [show ar 20 = 1 by decide]; go_enter Try.func65, Try.ntmps65; go_wp2; go_ret; exact ⟨rfl, rfl⟩
  by_cases h7 : op = 21
  · subst h7; rw [show ar 21 = 3 by decide]; go_enter Try.func65, Try.ntmps65; go_wp2; go_ret; exact ⟨rfl, rfl⟩
  have g5 : (op == 19) = false := by simp [h5]
  have g6 : (op == 20) = false := by simp [h6]
  have g7 : (op == 21) = false := by simp [h7]
  have HF : Hid (∀ x, ar op = x → Ending.returned (.int .i64 x) = .returned (.int .i64 (ar op))) := fun x h => by rw [h]
  have HD := Lib.hid (show ar op = if 1 ≤ op ∧ op ≤ 4 then 0 else if 5 ≤ op ∧ op ≤ 18 then 2 else if op = 19 ∨ op = 20 then 1 else if op = 21 then 3 else -1 from rfl)
  by_cases h1 : 1 ≤ op <;> by_cases h2 : op ≤ 4 <;> by_cases h3 : 5 ≤ op <;> by_cases h4 : op ≤ 18
  all_goals
    first
    | (exfalso; omega)
    | (go_enter Try.func65, Try.ntmps65
       go_wp2
       all_goals
         go_ret
         exact ⟨HF.out _ (by rw [HD.out]; repeat' split <;> omega), rfl⟩)
def arX (op : Int) : Int := if op = 1 ∨ op = 2 ∨ op = 3 ∨ op = 4 ∨ op = 5 then 0 else if op = 6 ∨ op = 7 ∨ op = 8 ∨ op = 9 then 1 else -1
def arT (op : Int) : Int := if op = 1 ∨ op = 2 then 0 else if op = 3 then 1 else if op = 4 ∨ op = 5 then 2 else if op = 6 ∨ op = 7 ∨ op = 8 ∨ op = 9 then 1 else -1
theorem arities_any (op : Int) (w : World) : Calls Try.prog 49 #[.int .i64 op] w fun e w' => e = .returned (.tuple #[.int .i64 (arX op), .int .i64 (arT op)]) ∧ w = w' := by
  have HF : Hid (∀ x y, arX op = x → arT op = y → Ending.returned (.tuple #[.int .i64 x, .int .i64 y]) = .returned (.tuple #[.int .i64 (arX op), .int .i64 (arT op)])) := fun x y h h' => by rw [h, h']
  have HD := Lib.hid (show arX op = if op = 1 ∨ op = 2 ∨ op = 3 ∨ op = 4 ∨ op = 5 then 0 else if op = 6 ∨ op = 7 ∨ op = 8 ∨ op = 9 then 1 else -1 from rfl)
  have HE := Lib.hid (show arT op = if op = 1 ∨ op = 2 then 0 else if op = 3 then 1 else if op = 4 ∨ op = 5 then 2 else if op = 6 ∨ op = 7 ∨ op = 8 ∨ op = 9 then 1 else -1 from rfl)
  go_enter Try.func49, Try.ntmps49
  go_wp2
  all_goals
    go_ret2
    exact ⟨HF.out _ _ (by rw [HD.out]; simp_all) (by rw [HE.out]; simp_all), rfl⟩
/-- Are an expression's own cells as they must be? -/
def okE (op n : Int) (nm : ByteArray) : Bool := (n == 0 || op == 1 || op == 2) && (nm.toList.isEmpty || op == 3) && decide (0 ≤ n) && !(op == 2 && decide (2932896 < n)) && !(op == 3 && !fre nm)
def bE : Ex → Bool
  | .mk op n nm l => (ar op == (l.length : Nat)) && okE op n nm && go l
  where go : List Ex → Bool
  | [] => true
  | e :: t => bE e && go t
theorem bE_go (l : List Ex) : bE.go l = !l.any fun e => !bE e := by
  induction l with
  | nil => rfl
  | cons x t ih => simp only [bE.go, ih, List.any_cons, Bool.not_or, Bool.not_not]
set_option maxRecDepth 100000 in
set_option maxHeartbeats 4000000 in
theorem builtExpr_any : ∀ (r : Nat) (e : Ex), e.rk ≤ r → ∀ (cs : List Value) (w : World), RepE w [] e cs →
    Calls Try.prog 52 #[.agg cs.toArray] w fun x w' => x = .returned (.bool (bE e)) ∧ Below w.heap.size w w' := by
  intro r
  induction r with
  | zero => intro e h; have : 1 ≤ e.rk := by cases e; simp only [Ex.rk]; omega
            omega
  | succ r ih =>
    intro e hr cs w hR
    obtain ⟨op, n, nm, args, a, len, cap, rfl, rfl, i1, i2, i3, hS⟩ := hR.inv
    obtain ⟨f1, f2, f3⟩ := hS.facts
    have HR := Lib.hid hr
    have HW0 := Lib.hid ((Below.refl w.heap.size w).alloc (Nat.le_refl _) (.cells #[.int .i64 op, .int .i64 n, .string nm, .slice a len cap] 53))
    have HC : Hid (∀ W, Below w.heap.size w W → Calls Try.prog 27 #[.slice a len cap, .func (.func 66) #[] #[]] W fun e w' => e = .returned (.bool (args.any fun e => !bE e)) ∧ Below W.heap.size W w') := by
      intro W hW
      refine containsE_any 66 _ args a len cap W (enters_of Try.func66 (by kernel_rfl) rfl) (hS.kept (Kept.of_below hW [])) ?_
      intro k e' cs' W' hk hR'
      have hlt := Ex.rk_lt (op := op) (n := n) (nm := nm) hk
      have HI := Lib.hid (fun W1 hW1 => ih e' (by omega) cs' W1 (hR'.kept hW1))
      obtain ⟨op', n', nm', args', a', len', cap', rfl, rfl, _, _, _, _⟩ := hR'.inv
      have hk0 := Lib.hid (Kept.alloc W' (.cells #[.int .i64 op', .int .i64 n', .string nm', .slice a' len' cap'] 53) [])
      generalize bE (.mk op' n' nm' args') = v at *
      clear hR' hlt hR hS hW ih hk
      go_enter Try.func66, Try.ntmps66
      go_wp2_with fail
      refine (HI.out _ hk0.out).mono ?_; rintro x w1 ⟨rfl, b1⟩
      go_wp2
      go_ret
      exact ⟨rfl, ((Below.refl _ _).alloc (Nat.le_refl _) _).trans (b1.mono (by simp))⟩
    have HAR := Lib.hid (fun W => arity_any op W)
    have HFR := Lib.hid (fun W => free_any nm W i3)
    have HB := Lib.hid (show bE (.mk op n nm args) = ((ar op == (len : Nat)) && okE op n nm && !(args.any fun e => !bE e)) by rw [← bE_go, ← f1]; rfl)
    have HO := Lib.hid (show okE op n nm = ((n == 0 || op == 1 || op == 2) && (nm.toList.isEmpty || op == 3) && decide (0 ≤ n) && !(op == 2 && decide (2932896 < n)) && !(op == 3 && !fre nm)) from rfl)
    have HF : Hid (∀ x, bE (.mk op n nm args) = x → Ending.returned (.bool x) = .returned (.bool (bE (.mk op n nm args)))) := fun x h => by rw [h]
    generalize bE (.mk op n nm args) = R at *
    generalize hC : (args.any fun e => !bE e) = C0 at *
    obtain ⟨C, rfl⟩ : ∃ C, C0 = !C := ⟨!C0, by simp⟩
    clear hC
    generalize ar op = A at *
    generalize fre nm = FR at *
    generalize okE op n nm = OK at *
    clear ih hr hR hS f1 i1 i2
    by_cases hA : A = (len : Int)
    case neg =>
      have F := Lib.hid (HF.out false (by rw [HB.out]; simp [hA]))
      have t1 : (A != (len : Int)) = true := by simp [hA]
      clear hA
      go_enter Try.func52, Try.ntmps52
      go_wp2_with fail
      go_quiet ((go_at_call 65; exact quiet_left (HAR.out _)))
      go_wp2
      go_ret
      exact ⟨F.out, below_drewN HW0.out _⟩
    subst hA
    have HB2 := Lib.hid (show R = (((n == 0 || op == 1 || op == 2) && (nm.toList.isEmpty || op == 3) && decide (0 ≤ n) && !(op == 2 && decide (2932896 < n)) && !(op == 3 && !FR)) && C) by rw [HB.out, HO.out]; simp)
    clear HB HO
    by_cases hn : n = 0
    · subst hn
      cases he : nm.toList with
      | nil =>
        have he2 : nm.toList.isEmpty = true := by rw [he]; rfl
        by_cases o3 : op = 3
        · subst o3
          cases FR
          · have F := Lib.hid (HF.out false (by rw [HB2.out]; simp))
            go_enter Try.func52, Try.ntmps52
            go_wp2_with fail
            go_quiet ((go_at_call 65; exact quiet_left (HAR.out _)))
            go_wp2_with fail
            refine (HFR.out _).mono ?_; rintro x w' ⟨rfl, rfl⟩
            go_wp2
            go_ret
            exact ⟨F.out, below_drewN HW0.out _⟩
          · have F := Lib.hid (HF.out C (by rw [HB2.out, he2]; simp))
            go_enter Try.func52, Try.ntmps52
            go_wp2_with fail
            go_quiet ((go_at_call 65; exact quiet_left (HAR.out _)))
            go_wp2_with fail
            refine (HFR.out _).mono ?_; rintro x w' ⟨rfl, rfl⟩
            go_wp2_with fail
            refine (HC.out _ (below_drewN HW0.out _)).mono ?_; rintro x w1 ⟨rfl, b1⟩
            go_wp2
            go_ret
            exact ⟨by rw [← F.out]; simp, (below_drewN HW0.out _).trans (b1.mono (below_drewN HW0.out _).size)⟩
        · have F := Lib.hid (HF.out C (by rw [HB2.out, he2]; simp [o3]))
          have g3 : (op == 3) = false := by simp [o3]
          have g3' : (op != 3) = true := by simp [o3]
          clear o3
          by_cases o2 : op = 2
          · subst o2
            go_enter Try.func52, Try.ntmps52
            go_wp2_with fail
            go_quiet ((go_at_call 65; exact quiet_left (HAR.out _)))
            go_wp2_with fail
            refine (HC.out _ (below_drewN HW0.out _)).mono ?_; rintro x w1 ⟨rfl, b1⟩
            go_wp2
            go_ret
            exact ⟨by rw [← F.out]; simp, (below_drewN HW0.out _).trans (b1.mono (below_drewN HW0.out _).size)⟩
          · have g2 : (op == 2) = false := by simp [o2]
            clear o2
            go_enter Try.func52, Try.ntmps52
            go_wp2_with fail
            go_quiet ((go_at_call 65; exact quiet_left (HAR.out _)))
            go_wp2_with fail
            refine (HC.out _ (below_drewN HW0.out _)).mono ?_; rintro x w1 ⟨rfl, b1⟩
            go_wp2
            go_ret
            exact ⟨by rw [← F.out]; simp, (below_drewN HW0.out _).trans (b1.mono (below_drewN HW0.out _).size)⟩
      | cons c0 ct =>
        have he2 : nm.toList.isEmpty = false := by rw [he]; rfl
        have he3 : (!nm.toList.isEmpty) = true := by rw [he2]; rfl
        clear he
        by_cases o3 : op = 3
        · subst o3
          cases FR
          · have F := Lib.hid (HF.out false (by rw [HB2.out]; simp))
            go_enter Try.func52, Try.ntmps52
            go_wp2_with fail
            go_quiet ((go_at_call 65; exact quiet_left (HAR.out _)))
            go_wp2_with fail
            refine (HFR.out _).mono ?_; rintro x w' ⟨rfl, rfl⟩
            go_wp2
            go_ret
            exact ⟨F.out, below_drewN HW0.out _⟩
          · have F := Lib.hid (HF.out C (by rw [HB2.out, he2]; simp))
            go_enter Try.func52, Try.ntmps52
            go_wp2_with fail
            go_quiet ((go_at_call 65; exact quiet_left (HAR.out _)))
            go_wp2_with fail
            refine (HFR.out _).mono ?_; rintro x w' ⟨rfl, rfl⟩
            go_wp2_with fail
            refine (HC.out _ (below_drewN HW0.out _)).mono ?_; rintro x w1 ⟨rfl, b1⟩
            go_wp2
            go_ret
            exact ⟨by rw [← F.out]; simp, (below_drewN HW0.out _).trans (b1.mono (below_drewN HW0.out _).size)⟩
        · have F := Lib.hid (HF.out false (by rw [HB2.out, he2]; simp [o3]))
          have g3 : (op == 3) = false := by simp [o3]
          have g3' : (op != 3) = true := by simp [o3]
          clear o3
          go_enter Try.func52, Try.ntmps52
          go_wp2_with fail
          go_quiet ((go_at_call 65; exact quiet_left (HAR.out _)))
          go_wp2
          go_ret
          exact ⟨F.out, below_drewN HW0.out _⟩
    have tn : (n != 0) = true := by simp [hn]
    by_cases o1 : op = 1
    · subst o1
      cases he : nm.toList with
      | cons c0 ct =>
        have he2 : nm.toList.isEmpty = false := by rw [he]; rfl
        have he3 : (!nm.toList.isEmpty) = true := by rw [he2]; rfl
        have F := Lib.hid (HF.out false (by rw [HB2.out, he2]; simp))
        clear he
        go_enter Try.func52, Try.ntmps52
        go_wp2_with fail
        go_quiet ((go_at_call 65; exact quiet_left (HAR.out _)))
        go_wp2
        go_ret
        exact ⟨F.out, below_drewN HW0.out _⟩
      | nil =>
        have he2 : nm.toList.isEmpty = true := by rw [he]; rfl
        by_cases hneg : n < 0
        · have F := Lib.hid (HF.out false (by rw [HB2.out]; simp; omega))
          go_enter Try.func52, Try.ntmps52
          go_wp2_with fail
          go_quiet ((go_at_call 65; exact quiet_left (HAR.out _)))
          go_wp2
          go_ret
          exact ⟨F.out, below_drewN HW0.out _⟩
        · have F := Lib.hid (HF.out C (by rw [HB2.out, he2]; simp; omega))
          go_enter Try.func52, Try.ntmps52
          go_wp2_with fail
          go_quiet ((go_at_call 65; exact quiet_left (HAR.out _)))
          go_wp2_with fail
          refine (HC.out _ (below_drewN HW0.out _)).mono ?_; rintro x w1 ⟨rfl, b1⟩
          go_wp2
          go_ret
          exact ⟨by rw [← F.out]; simp, (below_drewN HW0.out _).trans (b1.mono (below_drewN HW0.out _).size)⟩
    by_cases o2 : op = 2
    · subst o2
      cases he : nm.toList with
      | cons c0 ct =>
        have he2 : nm.toList.isEmpty = false := by rw [he]; rfl
        have he3 : (!nm.toList.isEmpty) = true := by rw [he2]; rfl
        have F := Lib.hid (HF.out false (by rw [HB2.out, he2]; simp))
        clear he
        go_enter Try.func52, Try.ntmps52
        go_wp2_with fail
        go_quiet ((go_at_call 65; exact quiet_left (HAR.out _)))
        go_wp2
        go_ret
        exact ⟨F.out, below_drewN HW0.out _⟩
      | nil =>
        have he2 : nm.toList.isEmpty = true := by rw [he]; rfl
        by_cases hneg : n < 0
        · have F := Lib.hid (HF.out false (by rw [HB2.out]; simp; omega))
          go_enter Try.func52, Try.ntmps52
          go_wp2_with fail
          go_quiet ((go_at_call 65; exact quiet_left (HAR.out _)))
          go_wp2
          go_ret
          exact ⟨F.out, below_drewN HW0.out _⟩
        · by_cases hbig : 2932896 < n
          · have F := Lib.hid (HF.out false (by rw [HB2.out]; simp [hbig]))
            go_enter Try.func52, Try.ntmps52
            go_wp2_with fail
            go_quiet ((go_at_call 65; exact quiet_left (HAR.out _)))
            go_wp2
            go_ret
            exact ⟨F.out, below_drewN HW0.out _⟩
          · have F := Lib.hid (HF.out C (by rw [HB2.out, he2, decide_eq_false hbig, decide_eq_true (show 0 ≤ n by omega)]; simp))
            go_enter Try.func52, Try.ntmps52
            go_wp2_with fail
            go_quiet ((go_at_call 65; exact quiet_left (HAR.out _)))
            go_wp2_with fail
            refine (HC.out _ (below_drewN HW0.out _)).mono ?_; rintro x w1 ⟨rfl, b1⟩
            go_wp2
            go_ret
            exact ⟨by rw [← F.out]; simp, (below_drewN HW0.out _).trans (b1.mono (below_drewN HW0.out _).size)⟩
    have F := Lib.hid (HF.out false (by rw [HB2.out]; simp [hn, o1, o2]))
    have g1 : (op != 1) = true := by simp [o1]
    have g2 : (op != 2) = true := by simp [o2]
    clear o1 o2 hn
    go_enter Try.func52, Try.ntmps52
    go_wp2_with fail
    go_quiet ((go_at_call 65; exact quiet_left (HAR.out _)))
    go_wp2
    go_ret
    exact ⟨F.out, below_drewN HW0.out _⟩
end Go.Proofs.Ytmiinmndbkdjbaa
