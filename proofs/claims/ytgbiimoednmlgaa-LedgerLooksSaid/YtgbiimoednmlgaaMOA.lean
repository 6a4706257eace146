/- A part of the proof: Mem, Tree, Row, Ap, Gro, Grow, Sep, one behind another. -/
import Derived.WalkKit
import Derived.Maps.AppendAt
import Derived.Lib.Hide
import Derived.WalkSpells
import Derived.Below
import Derived.Test.YtgbiimoednmlgaaProg
import Derived.Test.YtgbiimoednmlgaaChecked
import Derived.LoopTactic
import Derived.Deep.RegionHeld3
/- Small laws on memory, over any program: a row of the call's own that grows by append; no conditions beyond those typed. -/
namespace Go.Mem
open Go.RowKit
variable {P : Program}

theorem add0 (g j : Nat) : (⟨g, 0, none⟩ : Addr).add j = ⟨g, j, none⟩ := by unfold Addr.add; split <;> simp_all
theorem add_off (b o j : Nat) : (⟨b, o, none⟩ : Addr).add j = ⟨b, o + j, none⟩ := by unfold Addr.add; split <;> simp_all

/-- Below the heap as it was, and a row of the call's own. -/
structure Own (w0 w : World) (e : TypeId) (size : Nat) (v : Value) (n : Nat) (xs : List Value) : Prop where
  below : Below w0.heap.size w0 w
  own : w.ownsRow w0.heap.size e size v n xs

theorem Own.nil {w0 w : World} {e : TypeId} {size : Nat} (h : Below w0.heap.size w0 w) : Own w0 w e size (.slice none 0 0) 0 [] := ⟨h, World.ownsRow_nil _ _ _ _⟩
theorem Own.lit {w0 w : World} {e : TypeId} {size : Nat} (h : Below w0.heap.size w0 w) (cs : Array Value) (n : Nat) (hm : n ≤ maxLen) (hs : cs.size = n * size) :
    Own w0 (w.alloc (.cells cs e)) e size (.slice (some ⟨w.heap.size, 0, none⟩) n n) n cs.toList :=
  ⟨h.alloc h.size _, World.ownsRow_lit w cs n h.size hm hs⟩
theorem Own.alloc {w0 w : World} {e : TypeId} {size : Nat} {v : Value} {n : Nat} {xs : List Value} (h : Own w0 w e size v n xs) (o : Obj) : Own w0 (w.alloc o) e size v n xs :=
  ⟨h.below.alloc h.below.size _, h.own.alloc o⟩
theorem Own.drew {w0 w : World} {e : TypeId} {size : Nat} {v : Value} {n : Nat} {xs : List Value} (h : Own w0 w e size v n xs) : Own w0 w.drew e size v n xs := ⟨h.below.drew, h.own⟩
theorem grown_of_below {w w' : World} (hb : Below w.heap.size w w') (row : Option Nat) : w.grownBy w' row := ⟨hb.os, hb.tape, hb.output, hb.size, fun i hi _ => hb.block i hi⟩
/-- Behind a call that leaves all that was there. -/
theorem Own.call {w0 w w' : World} {e : TypeId} {size : Nat} {v : Value} {n : Nat} {xs : List Value} (h : Own w0 w e size v n xs) (hb : Below w.heap.size w w') : Own w0 w' e size v n xs :=
  ⟨h.below.trans (hb.mono h.below.size), h.own.kept (grown_of_below hb none) (by
    cases hv : v.ownBlock with
    | none => exact .inl rfl
    | some g => exact .inr (by simp))⟩
theorem Own.cell {w0 w : World} {e : TypeId} {size : Nat} {g n cap : Nat} {xs : List Value} (h : Own w0 w e size (.slice (some ⟨g, 0, none⟩) n cap) n xs) (j : Nat) (hj : j < n * size) : w.cell? ⟨g, j, none⟩ = xs[j]? :=
  h.own.cellAt j hj

/-- What is appended lies at an address: cells in a new block. -/
theorem lit_cells (w : World) (cs : Array Value) (t : TypeId) : ∀ j u, cs.toList[j]? = some u → (w.alloc (.cells cs t)).cell? ((⟨w.heap.size, 0, none⟩ : Addr).add j) = some u := by
  intro j u h
  rw [add0, World.cell?_alloc_mark]
  simpa using h

/-- append onto a row of the call's own. -/
theorem ap {w0 w : World} {ops : Array Oper} {rest : List Oper} {o : Oper} {a : Act} {Q : Exit → Act → World → Prop} {t e : TypeId} {z : Value} {size bytes : Nat}
    (hinfo : (P.info? e).map (fun i => (i.zero, i.size, i.bytes)) = some (some z, size, bytes)) (ht : P.underlying t = some (.slice e)) (hzs : z.cells.size = size) (hsz : 0 < size)
    (hgd : o.guard = none) (s x : Operand) (ho : o.op = .call { callee := .builtin .append, args := #[s, x], argTypes := #[t, t] })
    {v : Value} {n : Nat} {xs : List Value} (hs : a.eval s = v) (hown : Own w0 w e size v n xs)
    (ad : Addr) (m c : Nat) (news : List Value) (hx : a.eval x = .slice (some ad) m c) (hl : news.length = m * size)
    (hnews : ∀ j u, news[j]? = some u → w.cell? (ad.add j) = some u) (h1 : ∀ u ∈ news, u.oneCell' = true)
    (h63 : n + m ≤ maxLen) (hbytes : (n + m) * bytes ≤ 140737488355328)
    (h : ∀ v' w', Own w0 w' e size v' (n + m) (xs ++ news) → w.grownBy w' v.ownBlock → (v'.ownBlock = v.ownBlock ∨ v'.ownBlock = some w.heap.size) → (v' = .slice none 0 0 ↔ v = .slice none 0 0 ∧ m = 0) → wpList P ops Q rest (a.put o.dst v') w') :
    wpList P ops Q (o :: rest) a w := by
  obtain ⟨i, hi, hz, hsize, hby⟩ := info_parts hinfo
  refine wpList_plain hgd fun _ hK => ?_
  obtain ⟨v', w', hrun, h2, h3, h4, h5⟩ := run_append_own_at (P := P) w w0.heap.size t o.type e i z size bytes ht hi hz hsize hby hzs hsz v n xs hown.own ad m c news hl hnews h1 h63 hbytes hown.below.size
  unfold Oper.wp execOp
  simp only [ho, resolve, invoke, builtin, Sem.run_bind, Sem.run_pure, Result.andThen_ok, List.map_toArray, List.map_cons, List.map_nil, hs, hx, hrun]
  exact hK _ _ (h v' w' ⟨hown.below.grown h3 hown.below.size (fun k hk => (hown.own.lt k hk).1), h2⟩ h3 h5 h4)

/-- Block g is just the cells cs of element type t, none frozen. -/
def Blk (w : World) (g : Nat) (t : TypeId) (cs : Array Value) : Prop := w.heap[g]? = some (.cells cs t (0, 0))
section
variable {w w' : World} {g : Nat} {t : TypeId} {cs : Array Value}
theorem Blk.lt (h : Blk w g t cs) : g < w.heap.size := lt_of_block h
theorem Blk.cell (h : Blk w g t cs) (i : Nat) : w.cell? ⟨g, i, none⟩ = cs[i]? := cell_of_row w g i cs t (0, 0) h
theorem Blk.frozen (h : Blk w g t cs) (i : Nat) : w.frozen? ⟨g, i, none⟩ = false := by
  unfold Blk at h
  simp [World.frozen?, h]
theorem Blk.new (w : World) (t : TypeId) (cs : Array Value) : Blk (w.alloc (.cells cs t)) w.heap.size t cs := heap_alloc_new w _
theorem Blk.drew (h : Blk w g t cs) : Blk w.drew g t cs := h
theorem Blk.alloc (h : Blk w g t cs) (o : Obj) : Blk (w.alloc o) g t cs := (Below.heap_alloc w o g h.lt).trans h
theorem Blk.set_ (h : Blk w g t cs) (i : Nat) (u : Value) : Blk (w.setCell ⟨g, i, none⟩ u) g t (cs.setIfInBounds i u) := by
  unfold Blk at h ⊢
  simp [World.setCell, Array.getElem?_modify, h]
theorem Blk.far (h : Blk w g t cs) {p : Addr} (hp : g ≠ p.block) (u : Value) : Blk (w.setCell p u) g t cs := (Below.heap_setCell w p u g hp).trans h
theorem Blk.call {B : Nat} (h : Blk w g t cs) (hb : Below B w w') (hg : g < B) : Blk w' g t cs := (hb.block g hg).trans h
theorem Blk.below (h : Blk w g t cs) (hb : Below w.heap.size w w') : Blk w' g t cs := (hb.block g h.lt).trans h
theorem Blk.two {a b : Value} (h : Blk w g t #[a, b]) : w.cell? ⟨g, 0, none⟩ = some a ∧ w.cell? ⟨g, 1, none⟩ = some b ∧ w.frozen? ⟨g, 0, none⟩ = false ∧ w.frozen? ⟨g, 1, none⟩ = false :=
  ⟨h.cell 0, h.cell 1, h.frozen 0, h.frozen 1⟩
end
end Go.Mem

/- Trees in memory: expressions and terms that values read as; over any program. -/
namespace Go.Proofs.Ytgbiimoednmlgaa
set_option linter.unusedVariables false
set_option linter.unusedSimpArgs false
open Go.RowKit
inductive Ex | mk (op n : Int) (nm : ByteArray) (args : List Ex)
inductive Te | mk (op : Int) (nm : ByteArray) (exprs : List Ex) (terms : List Te)
namespace Ex
def op : Ex → Int | .mk o _ _ _ => o
def n : Ex → Int | .mk _ n _ _ => n
def nm : Ex → ByteArray | .mk _ _ s _ => s
def args : Ex → List Ex | .mk _ _ _ l => l
theorem eta (e : Ex) : e = .mk e.op e.n e.nm e.args := by cases e; rfl
end Ex
namespace Te
def op : Te → Int | .mk o _ _ _ => o
def nm : Te → ByteArray | .mk _ s _ _ => s
def exprs : Te → List Ex | .mk _ _ l _ => l
def terms : Te → List Te | .mk _ _ _ l => l
theorem eta (e : Te) : e = .mk e.op e.nm e.exprs e.terms := by cases e; rfl
end Te
/-- A slice of elements of sz cells each: the cells are vs; its block is none of X. -/
def Sl (w : World) (X : List Nat) (sz : Nat) (a : Option Addr) (len cap : Nat) (vs : List (List Value)) : Prop :=
  vs.length = len ∧ len ≤ cap ∧ cap ≤ 9223372036854775807 ∧ (0 < len → ∃ b o, a = some ⟨b, o, none⟩ ∧ b < w.heap.size ∧ b ∉ X ∧
    ∀ i cs, vs[i]? = some cs → cs.length = sz ∧ ∀ j c, cs[j]? = some c → w.cell? ⟨b, o + i * sz + j, none⟩ = some c)
/-- An int64, a string that can be. -/
def I64 (n : Int) : Prop := -9223372036854775808 ≤ n ∧ n ≤ 9223372036854775807
inductive RepE (w : World) (X : List Nat) : Ex → List Value → Prop
  | mk {op n : Int} {nm : ByteArray} {args : List Ex} {a : Option Addr} {len cap : Nat} (vs : List (List Value)) (ho : I64 op) (hn : I64 n) (hs : nm.size ≤ 9223372036854775807)
      (hl : vs.length = args.length) (hr : ∀ (i : Nat) (e : Ex) (cs : List Value), args[i]? = some e → vs[i]? = some cs → RepE w X e cs) (hv : Sl w X 4 a len cap vs) :
      RepE w X (.mk op n nm args) [.int .i64 op, .int .i64 n, .string nm, .slice a len cap]
def SlE (w : World) (X : List Nat) (l : List Ex) (a : Option Addr) (len cap : Nat) : Prop :=
  ∃ vs : List (List Value), vs.length = l.length ∧ (∀ (i : Nat) (e : Ex) (cs : List Value), l[i]? = some e → vs[i]? = some cs → RepE w X e cs) ∧ Sl w X 4 a len cap vs
inductive RepT (w : World) (X : List Nat) : Te → List Value → Prop
  | mk {op : Int} {nm : ByteArray} {exprs : List Ex} {terms : List Te} {a a' : Option Addr} {len cap len' cap' : Nat} (vs : List (List Value)) (ho : I64 op) (hs : nm.size ≤ 9223372036854775807)
      (he : SlE w X exprs a len cap)
      (hl : vs.length = terms.length) (hr : ∀ (i : Nat) (e : Te) (cs : List Value), terms[i]? = some e → vs[i]? = some cs → RepT w X e cs) (hv : Sl w X 4 a' len' cap' vs) :
      RepT w X (.mk op nm exprs terms) [.int .i64 op, .string nm, .slice a len cap, .slice a' len' cap']
def SlT (w : World) (X : List Nat) (l : List Te) (a : Option Addr) (len cap : Nat) : Prop :=
  ∃ vs : List (List Value), vs.length = l.length ∧ (∀ (i : Nat) (e : Te) (cs : List Value), l[i]? = some e → vs[i]? = some cs → RepT w X e cs) ∧ Sl w X 4 a len cap vs
section
variable {w w' : World} {X X' : List Nat} {sz len cap : Nat} {a : Option Addr} {vs : List (List Value)}
/-- What a change of the world leaves: all cells of blocks below a bound but those of X. -/
def Kept (X : List Nat) (w w' : World) : Prop := w.heap.size ≤ w'.heap.size ∧ ∀ b, b < w.heap.size → b ∉ X → w'.heap[b]? = w.heap[b]?
theorem Kept.of_below (h : Below w.heap.size w w') (X : List Nat) : Kept X w w' := ⟨h.size, fun b hb _ => h.block b hb⟩
theorem Kept.of_grown {g : Nat} (h : w.grownBy w' (some g)) (hg : g ∈ X) : Kept X w w' := ⟨h.size, fun b hb hx => h.block b hb (fun e => by injection e with e; subst e; exact hx hg)⟩
theorem Kept.of_grown_none (h : w.grownBy w' none) (X : List Nat) : Kept X w w' := ⟨h.size, fun b hb _ => h.block b hb (fun e => by cases e)⟩
theorem Kept.of_grown_own {v : Value} (h : w.grownBy w' v.ownBlock) (hg : ∀ g, v.ownBlock = some g → g ∈ X) : Kept X w w' := ⟨h.size, fun b hb hx => h.block b hb (fun e => hx (hg b e.symm))⟩
theorem Kept.alloc (w : World) (o : Obj) (X : List Nat) : Kept X w (w.alloc o) := ⟨by simp, fun b hb _ => Below.heap_alloc w o b hb⟩
theorem Kept.refl (w : World) (X : List Nat) : Kept X w w := ⟨Nat.le_refl _, fun _ _ _ => rfl⟩
theorem Kept.trans {w'' : World} (h : Kept X w w') (h' : Kept X w' w'') : Kept X w w'' := ⟨Nat.le_trans h.1 h'.1, fun b hb hx => (h'.2 b (Nat.lt_of_lt_of_le hb h.1) hx).trans (h.2 b hb hx)⟩
theorem Kept.more (h : Kept X w w') (hX : ∀ b, b ∈ X → b ∈ X') : Kept X' w w' := ⟨h.1, fun b hb hx => h.2 b hb (fun hm => hx (hX b hm))⟩
theorem Kept.setCell (w : World) {p : Addr} (hp : p.block ∈ X) (v : Value) : Kept X w (w.setCell p v) :=
  ⟨by simp [World.setCell], fun b _ hx => Below.heap_setCell w p v b (fun e => hx (by rw [e]; exact hp))⟩
theorem Kept.setNew {w0 : World} (h : Kept X w0 w) {p : Addr} (hp : w0.heap.size ≤ p.block) (v : Value) : Kept X w0 (w.setCell p v) :=
  ⟨by simpa [World.setCell] using h.1, fun b hb hx => (Below.heap_setCell w p v b (by omega)).trans (h.2 b hb hx)⟩
theorem Sl.kept (h : Sl w X sz a len cap vs) (k : Kept X w w') : Sl w' X sz a len cap vs := by
  obtain ⟨h1, h2, h3, h4⟩ := h
  refine ⟨h1, h2, h3, fun hp => ?_⟩
  obtain ⟨b, o, ha, hb, hx, hc⟩ := h4 hp
  exact ⟨b, o, ha, Nat.lt_of_lt_of_le hb k.1, hx, fun i cs hi => ⟨(hc i cs hi).1, fun j c hj => (World.cell?_of_block (k.2 b hb hx)).trans ((hc i cs hi).2 j c hj)⟩⟩
theorem Sl.less (h : Sl w X sz a len cap vs) (hX : ∀ b, b < w.heap.size → b ∈ X' → b ∈ X) : Sl w X' sz a len cap vs := by
  obtain ⟨h1, h2, h3, h4⟩ := h
  refine ⟨h1, h2, h3, fun hp => ?_⟩
  obtain ⟨b, o, ha, hb, hx, hc⟩ := h4 hp
  exact ⟨b, o, ha, hb, fun hm => hx (hX b hb hm), hc⟩
theorem Sl.nil (w : World) (X : List Nat) (sz : Nat) : Sl w X sz none 0 0 [] := ⟨rfl, Nat.le_refl _, by decide, fun h => absurd h (by decide)⟩
theorem Sl.take (h : Sl w X sz a len cap vs) (k : Nat) (hk : k ≤ len) : Sl w X sz a k cap (vs.take k) := by
  obtain ⟨h1, h2, h3, h4⟩ := h
  refine ⟨by simp; omega, by omega, h3, fun hp => ?_⟩
  obtain ⟨b, o, ha, hb, hx, hc⟩ := h4 (by omega)
  refine ⟨b, o, ha, hb, hx, fun i cs hi => hc i cs ?_⟩
  rw [List.getElem?_take] at hi
  split at hi
  · exact hi
  · cases hi
theorem RepE.kept {e : Ex} {cs : List Value} (h : RepE w X e cs) (k : Kept X w w') : RepE w' X e cs := by
  induction h with
  | mk vs ho hn hs hl hr hv ih => exact .mk vs ho hn hs hl ih (hv.kept k)
theorem RepE.less {e : Ex} {cs : List Value} (h : RepE w X e cs) (hX : ∀ b, b < w.heap.size → b ∈ X' → b ∈ X) : RepE w X' e cs := by
  induction h with
  | mk vs ho hn hs hl hr hv ih => exact .mk vs ho hn hs hl ih (hv.less hX)
theorem SlE.kept {l : List Ex} (h : SlE w X l a len cap) (k : Kept X w w') : SlE w' X l a len cap := by
  obtain ⟨vs, h1, h2, h3⟩ := h
  exact ⟨vs, h1, fun i e cs he hc => (h2 i e cs he hc).kept k, h3.kept k⟩
theorem SlE.less {l : List Ex} (h : SlE w X l a len cap) (hX : ∀ b, b < w.heap.size → b ∈ X' → b ∈ X) : SlE w X' l a len cap := by
  obtain ⟨vs, h1, h2, h3⟩ := h
  exact ⟨vs, h1, fun i e cs he hc => (h2 i e cs he hc).less hX, h3.less hX⟩
theorem RepT.kept {e : Te} {cs : List Value} (h : RepT w X e cs) (k : Kept X w w') : RepT w' X e cs := by
  induction h with
  | mk vs ho hs he hl hr hv ih => exact .mk vs ho hs (he.kept k) hl ih (hv.kept k)
theorem RepT.less {e : Te} {cs : List Value} (h : RepT w X e cs) (hX : ∀ b, b < w.heap.size → b ∈ X' → b ∈ X) : RepT w X' e cs := by
  induction h with
  | mk vs ho hs he hl hr hv ih => exact .mk vs ho hs (he.less hX) hl ih (hv.less hX)
theorem SlT.kept {l : List Te} (h : SlT w X l a len cap) (k : Kept X w w') : SlT w' X l a len cap := by
  obtain ⟨vs, h1, h2, h3⟩ := h
  exact ⟨vs, h1, fun i e cs he hc => (h2 i e cs he hc).kept k, h3.kept k⟩
theorem SlT.less {l : List Te} (h : SlT w X l a len cap) (hX : ∀ b, b < w.heap.size → b ∈ X' → b ∈ X) : SlT w X' l a len cap := by
  obtain ⟨vs, h1, h2, h3⟩ := h
  exact ⟨vs, h1, fun i e cs he hc => (h2 i e cs he hc).less hX, h3.less hX⟩
theorem RepE.inv {e : Ex} {cs : List Value} (h : RepE w X e cs) : ∃ op n nm args a len cap, e = .mk op n nm args ∧ cs = [.int .i64 op, .int .i64 n, .string nm, .slice a len cap] ∧ I64 op ∧ I64 n ∧ nm.size ≤ 9223372036854775807 ∧ SlE w X args a len cap := by
  cases h with
  | mk vs ho hn hs hl hr hv => exact ⟨_, _, _, _, _, _, _, rfl, rfl, ho, hn, hs, vs, hl, hr, hv⟩
theorem RepT.inv {e : Te} {cs : List Value} (h : RepT w X e cs) : ∃ op nm exprs terms a len cap a' len' cap', e = .mk op nm exprs terms ∧ cs = [.int .i64 op, .string nm, .slice a len cap, .slice a' len' cap'] ∧ I64 op ∧ nm.size ≤ 9223372036854775807 ∧ SlE w X exprs a len cap ∧ SlT w X terms a' len' cap' := by
  cases h with
  | mk vs ho hs he hl hr hv => exact ⟨_, _, _, _, _, _, _, _, _, _, rfl, rfl, ho, hs, he, vs, hl, hr, hv⟩
theorem RepE.mk' {op n : Int} {nm : ByteArray} {args : List Ex} (ho : I64 op) (hn : I64 n) (hs : nm.size ≤ 9223372036854775807) (h : SlE w X args a len cap) : RepE w X (.mk op n nm args) [.int .i64 op, .int .i64 n, .string nm, .slice a len cap] := by
  obtain ⟨vs, h1, h2, h3⟩ := h; exact .mk vs ho hn hs h1 h2 h3
theorem RepT.mk' {op : Int} {nm : ByteArray} {exprs : List Ex} {terms : List Te} {a' : Option Addr} {len' cap' : Nat} (ho : I64 op) (hs : nm.size ≤ 9223372036854775807) (he : SlE w X exprs a len cap) (h : SlT w X terms a' len' cap') : RepT w X (.mk op nm exprs terms) [.int .i64 op, .string nm, .slice a len cap, .slice a' len' cap'] := by
  obtain ⟨vs, h1, h2, h3⟩ := h; exact .mk vs ho hs he h1 h2 h3
/-- What a slice is good for. -/
theorem SlE.facts {l : List Ex} (h : SlE w X l a len cap) : l.length = len ∧ len ≤ cap ∧ cap ≤ 9223372036854775807 := by
  obtain ⟨vs, h1, _, h3⟩ := h; exact ⟨by rw [← h1]; exact h3.1, h3.2.1, h3.2.2.1⟩
theorem SlT.facts {l : List Te} (h : SlT w X l a len cap) : l.length = len ∧ len ≤ cap ∧ cap ≤ 9223372036854775807 := by
  obtain ⟨vs, h1, _, h3⟩ := h; exact ⟨by rw [← h1]; exact h3.1, h3.2.1, h3.2.2.1⟩
theorem SlE.nil (w : World) (X : List Nat) : SlE w X [] none 0 0 := ⟨[], rfl, fun i e cs h _ => by simp at h, Sl.nil _ _ _⟩
theorem SlT.nil (w : World) (X : List Nat) : SlT w X [] none 0 0 := ⟨[], rfl, fun i e cs h _ => by simp at h, Sl.nil _ _ _⟩
/-- Four cells of an element. -/
def Four (w : World) (b o : Nat) (c0 c1 c2 c3 : Value) : Prop := w.cell? ⟨b, o, none⟩ = some c0 ∧ w.cell? ⟨b, o + 1, none⟩ = some c1 ∧ w.cell? ⟨b, o + 2, none⟩ = some c2 ∧ w.cell? ⟨b, o + 3, none⟩ = some c3
theorem four_of {b o : Nat} {c0 c1 c2 c3 : Value} (h : ∀ j c, [c0, c1, c2, c3][j]? = some c → w.cell? ⟨b, o + j, none⟩ = some c) : Four w b o c0 c1 c2 c3 := ⟨h 0 c0 rfl, h 1 c1 rfl, h 2 c2 rfl, h 3 c3 rfl⟩
theorem SlE.at {l : List Ex} (h : SlE w X l a len cap) (k : Nat) (hk : k < len) : ∃ b o op n nm args a' len' cap', a = some ⟨b, o, none⟩ ∧ b < w.heap.size ∧ b ∉ X ∧ l[k]? = some (.mk op n nm args) ∧ I64 op ∧ I64 n ∧ nm.size ≤ 9223372036854775807 ∧ SlE w X args a' len' cap' ∧
    Four w b (o + k * 4) (.int .i64 op) (.int .i64 n) (.string nm) (.slice a' len' cap') := by
  have hf := h.facts
  obtain ⟨vs, h1, h2, h3⟩ := h
  obtain ⟨b, o, ha, hb, hx, hc⟩ := h3.2.2.2 (by omega)
  have hlk : l[k]? = some (l[k]'(by omega)) := List.getElem?_eq_getElem (by omega)
  have hvk : vs[k]? = some (vs[k]'(by omega)) := List.getElem?_eq_getElem (by omega)
  have hR := h2 k _ _ hlk hvk
  obtain ⟨op, n, nm, args, a', len', cap', e1, e2, i1, i2, i3, i4⟩ := hR.inv
  rw [e1] at hlk
  rw [e2] at hvk
  exact ⟨b, o, op, n, nm, args, a', len', cap', ha, hb, hx, hlk, i1, i2, i3, i4, four_of ((hc k _ hvk).2)⟩
theorem SlT.at {l : List Te} (h : SlT w X l a len cap) (k : Nat) (hk : k < len) : ∃ b o op nm exprs terms a' len' cap' a2 len2 cap2, a = some ⟨b, o, none⟩ ∧ b < w.heap.size ∧ b ∉ X ∧ l[k]? = some (.mk op nm exprs terms) ∧ I64 op ∧ nm.size ≤ 9223372036854775807 ∧ SlE w X exprs a' len' cap' ∧ SlT w X terms a2 len2 cap2 ∧
    Four w b (o + k * 4) (.int .i64 op) (.string nm) (.slice a' len' cap') (.slice a2 len2 cap2) := by
  have hf := h.facts
  obtain ⟨vs, h1, h2, h3⟩ := h
  obtain ⟨b, o, ha, hb, hx, hc⟩ := h3.2.2.2 (by omega)
  have hlk : l[k]? = some (l[k]'(by omega)) := List.getElem?_eq_getElem (by omega)
  have hvk : vs[k]? = some (vs[k]'(by omega)) := List.getElem?_eq_getElem (by omega)
  have hR := h2 k _ _ hlk hvk
  obtain ⟨op, nm, exprs, terms, a', len', cap', a2, len2, cap2, e1, e2, i1, i2, i3, i4⟩ := hR.inv
  rw [e1] at hlk
  rw [e2] at hvk
  exact ⟨b, o, op, nm, exprs, terms, a', len', cap', a2, len2, cap2, ha, hb, hx, hlk, i1, i2, i3, i4, four_of ((hc k _ hvk).2)⟩
end
/-- How deep an expression, a term is. -/
def Ex.rk : Ex → Nat
  | .mk _ _ _ l => 1 + go l
  where go : List Ex → Nat
  | [] => 0
  | e :: t => max e.rk (go t)
def Te.rk : Te → Nat
  | .mk _ _ x l => 1 + max (Ex.rk.go x) (go l)
  where go : List Te → Nat
  | [] => 0
  | e :: t => max e.rk (go t)
theorem Ex.rk_mem {l : List Ex} {e : Ex} (h : e ∈ l) : e.rk ≤ Ex.rk.go l := by
  induction l with
  | nil => cases h
  | cons x t ih =>
    simp only [Ex.rk.go]
    rcases List.mem_cons.1 h with rfl | h
    · omega
    · have := ih h; omega
theorem Te.rk_mem {l : List Te} {e : Te} (h : e ∈ l) : e.rk ≤ Te.rk.go l := by
  induction l with
  | nil => cases h
  | cons x t ih =>
    simp only [Te.rk.go]
    rcases List.mem_cons.1 h with rfl | h
    · omega
    · have := ih h; omega
theorem Ex.rk_lt {op n : Int} {nm : ByteArray} {l : List Ex} {e : Ex} {k : Nat} (h : l[k]? = some e) : e.rk < (Ex.mk op n nm l).rk := by
  have := Ex.rk_mem (List.mem_of_getElem? h)
  simp only [Ex.rk]; omega
theorem Te.rk_lt {op : Int} {nm : ByteArray} {x : List Ex} {l : List Te} {e : Te} {k : Nat} (h : l[k]? = some e) : e.rk < (Te.mk op nm x l).rk := by
  have := Te.rk_mem (List.mem_of_getElem? h)
  simp only [Te.rk]; omega
/-- How many nodes an expression, a term has. -/
def Ex.nd : Ex → Nat
  | .mk _ _ _ l => 1 + go l
  where go : List Ex → Nat
  | [] => 0
  | e :: t => e.nd + go t
def Te.nd : Te → Nat
  | .mk _ _ x l => 1 + Ex.nd.go x + go l
  where go : List Te → Nat
  | [] => 0
  | e :: t => e.nd + go t
theorem Ex.nd_take {l : List Ex} {k : Nat} {e : Ex} (h : l[k]? = some e) : Ex.nd.go (l.take (k + 1)) = Ex.nd.go (l.take k) + e.nd := by
  induction l generalizing k with
  | nil => cases h
  | cons x t ih =>
    cases k with
    | zero => simp at h; subst h; simp [Ex.nd.go]
    | succ j => simp only [List.take_succ_cons, Ex.nd.go]; rw [ih (by simpa using h)]; omega
theorem Te.nd_take {l : List Te} {k : Nat} {e : Te} (h : l[k]? = some e) : Te.nd.go (l.take (k + 1)) = Te.nd.go (l.take k) + e.nd := by
  induction l generalizing k with
  | nil => cases h
  | cons x t ih =>
    cases k with
    | zero => simp at h; subst h; simp [Te.nd.go]
    | succ j => simp only [List.take_succ_cons, Te.nd.go]; rw [ih (by simpa using h)]; omega
theorem Ex.rk_take {l : List Ex} {k : Nat} {e : Ex} (h : l[k]? = some e) : Ex.rk.go (l.take (k + 1)) = max (Ex.rk.go (l.take k)) e.rk := by
  induction l generalizing k with
  | nil => cases h
  | cons x t ih =>
    cases k with
    | zero => simp at h; subst h; simp [Ex.rk.go]
    | succ j => simp only [List.take_succ_cons, Ex.rk.go]; rw [ih (by simpa using h)]; omega
theorem Te.rk_take {l : List Te} {k : Nat} {e : Te} (h : l[k]? = some e) : Te.rk.go (l.take (k + 1)) = max (Te.rk.go (l.take k)) e.rk := by
  induction l generalizing k with
  | nil => cases h
  | cons x t ih =>
    cases k with
    | zero => simp at h; subst h; simp [Te.rk.go]
    | succ j => simp only [List.take_succ_cons, Te.rk.go]; rw [ih (by simpa using h)]; omega
theorem Ex.nd_le (l : List Ex) (k : Nat) : Ex.nd.go (l.take k) ≤ Ex.nd.go l := by
  induction l generalizing k with
  | nil => simp
  | cons x t ih =>
    cases k with
    | zero => simp [Ex.nd.go]
    | succ j => simp only [List.take_succ_cons, Ex.nd.go]; have := ih j; omega
theorem Te.nd_le (l : List Te) (k : Nat) : Te.nd.go (l.take k) ≤ Te.nd.go l := by
  induction l generalizing k with
  | nil => simp
  | cons x t ih =>
    cases k with
    | zero => simp [Te.nd.go]
    | succ j => simp only [List.take_succ_cons, Te.nd.go]; have := ih j; omega
theorem Ex.rkx_lt {op : Int} {nm : ByteArray} {x : List Ex} {l : List Te} {e : Ex} {k : Nat} (h : x[k]? = some e) : e.rk < (Te.mk op nm x l).rk := by
  have := Ex.rk_mem (List.mem_of_getElem? h)
  simp only [Te.rk]; omega
end Go.Proofs.Ytgbiimoednmlgaa

/- Rows of elements of several cells. -/
namespace Go.Proofs.Ytgbiimoednmlgaa
set_option linter.unusedVariables false
set_option linter.unusedSimpArgs false
open Go.RowKit
theorem flat_len {α : Type} (sz : Nat) : ∀ (vs : List (List α)), (∀ c ∈ vs, c.length = sz) → vs.flatten.length = vs.length * sz := by
  intro vs
  induction vs with
  | nil => intro _; simp
  | cons c t ih =>
    intro h
    rw [List.flatten_cons, List.length_append, ih (fun x hx => h x (List.mem_cons_of_mem _ hx)), h c (List.mem_cons_self ..), List.length_cons, Nat.add_mul]; omega
theorem flat_get {α : Type} (sz : Nat) : ∀ (vs : List (List α)), (∀ c ∈ vs, c.length = sz) → ∀ (i j : Nat) (c : List α), vs[i]? = some c → j < sz → vs.flatten[i * sz + j]? = c[j]? := by
  intro vs
  induction vs with
  | nil => intro _ i j c h; cases h
  | cons d t ih =>
    intro h i j c hc hj
    have hd := h d (List.mem_cons_self ..)
    cases i with
    | zero =>
      simp at hc; subst hc
      rw [List.flatten_cons, Nat.zero_mul, Nat.zero_add, List.getElem?_append_left (by omega)]
    | succ k =>
      rw [List.flatten_cons, List.getElem?_append_right (by rw [hd, Nat.add_mul]; omega), hd, show (k + 1) * sz + j - sz = k * sz + j by rw [Nat.add_mul]; omega]
      exact ih (fun x hx => h x (List.mem_cons_of_mem _ hx)) k j c (by simpa using hc) hj
theorem Sl.len4 {w : World} {X : List Nat} {sz len cap : Nat} {a : Option Addr} {vs : List (List Value)} (h : Sl w X sz a len cap vs) : ∀ c ∈ vs, c.length = sz := by
  intro c hc
  obtain ⟨i, hi, rfl⟩ := List.getElem_of_mem hc
  obtain ⟨b, o, _, _, _, hq⟩ := h.2.2.2 (by have := h.1; omega)
  exact (hq i _ (List.getElem?_eq_getElem hi)).1
/-- The cells of a slice's elements, one behind another. -/
theorem Sl.cells {w : World} {X : List Nat} {sz len cap b o : Nat} {vs : List (List Value)} (h : Sl w X sz (some ⟨b, o, none⟩) len cap vs) (hz : 0 < sz) : ∀ j u, vs.flatten[j]? = some u → w.cell? ((⟨b, o, none⟩ : Addr).add j) = some u := by
  intro j u hu
  have hl := h.len4
  have hlen := flat_len sz vs hl
  have hj : j < vs.length * sz := by rw [← hlen]; exact (List.getElem?_eq_some_iff.1 hu).1
  have hi : j / sz < vs.length := Nat.div_lt_of_lt_mul (by rw [Nat.mul_comm]; exact hj)
  have hm : j % sz < sz := Nat.mod_lt _ hz
  have e : j = j / sz * sz + j % sz := by rw [Nat.mul_comm]; exact (Nat.div_add_mod j sz).symm
  obtain ⟨b', o', ha, _, _, hc⟩ := h.2.2.2 (by rw [← h.1]; exact Nat.lt_of_le_of_lt (Nat.zero_le _) hi)
  injection ha with ha; injection ha with h1 h2; subst h1 h2
  have hci := List.getElem?_eq_getElem hi
  rw [e, flat_get sz vs hl _ _ _ hci hm] at hu
  rw [Mem.add_off, e, ← Nat.add_assoc]
  exact (hc _ _ hci).2 _ _ hu
/-- A row of the call's own, as a slice of elements. -/
theorem own_sl {w0 w : World} {e : TypeId} {sz n : Nat} {v : Value} {vs : List (List Value)} {X : List Nat} (h : Mem.Own w0 w e sz v n vs.flatten) (hn : vs.length = n) (hl : ∀ c ∈ vs, c.length = sz) (hX : ∀ b ∈ X, b < w0.heap.size) :
    ∃ a cap, v = .slice a n cap ∧ Sl w X sz a n cap vs ∧ ∀ g, v.ownBlock = some g → w0.heap.size ≤ g := by
  have hmx : maxLen = 9223372036854775807 := by decide
  rcases h.own.2 with ⟨rfl, rfl⟩ | ⟨g, cap, cur, rfl, h1, h2, h3, h4, h5, h6⟩
  · exact ⟨none, 0, rfl, ⟨hn, Nat.le_refl _, by omega, fun h => absurd h (by omega)⟩, fun x hx => by simp [Value.ownBlock] at hx⟩
  · refine ⟨_, cap, rfl, ⟨hn, h3, by omega, fun hp => ⟨g, 0, rfl, lt_of_block h2, fun hm => by have := hX g hm; omega, fun i cs hi => ?_⟩⟩, fun x hx => by simp [Value.ownBlock] at hx; omega⟩
    have hc := hl cs (List.mem_of_getElem? hi)
    refine ⟨hc, fun j c hj => ?_⟩
    have hjs : j < sz := by rw [← hc]; exact (List.getElem?_eq_some_iff.1 hj).1
    have hin : i < n := by rw [← hn]; exact (List.getElem?_eq_some_iff.1 hi).1
    rw [Nat.zero_add, h.cell (i * sz + j) (by calc i * sz + j < i * sz + sz := by omega
                                                _ = (i + 1) * sz := by rw [Nat.add_mul]; omega
                                                _ ≤ n * sz := Nat.mul_le_mul_right _ (by omega)), flat_get sz vs hl i j cs hi hjs]
    exact hj
theorem RepE.one {w : World} {X : List Nat} {e : Ex} {cs : List Value} (h : RepE w X e cs) : cs.length = 4 ∧ ∀ u ∈ cs, u.oneCell' = true := by
  obtain ⟨op, n, nm, args, a, len, cap, rfl, rfl, _⟩ := h.inv
  exact ⟨rfl, by intro u hu; simp at hu; rcases hu with rfl | rfl | rfl | rfl <;> rfl⟩
theorem RepT.one {w : World} {X : List Nat} {e : Te} {cs : List Value} (h : RepT w X e cs) : cs.length = 4 ∧ ∀ u ∈ cs, u.oneCell' = true := by
  obtain ⟨op, nm, ex, te, a, len, cap, a2, len2, cap2, rfl, rfl, _⟩ := h.inv
  exact ⟨rfl, by intro u hu; simp at hu; rcases hu with rfl | rfl | rfl | rfl <;> rfl⟩
theorem flat_one {vs : List (List Value)} (h : ∀ c ∈ vs, ∀ u ∈ c, u.oneCell' = true) : ∀ u ∈ vs.flatten, u.oneCell' = true := by
  intro u hu
  obtain ⟨c, hc, hu⟩ := List.mem_flatten.1 hu
  exact h c hc u hu
end Go.Proofs.Ytgbiimoednmlgaa

/- append onto a row of the call's own, as a step of a region that draws, and in a plain region. -/
namespace Go.Proofs.Ytgbiimoednmlgaa
set_option linter.unusedVariables false
set_option linter.unusedSimpArgs false
open Go.RowKit
theorem step_ap {P : Program} {w : World} {ops : Array Oper} {o : Oper} {a : Act} {K : Act → World → Prop} {Q : Exit → Act → World → Prop} {E : Prop} {t e : TypeId} {z : Value} {size bytes base : Nat}
    (hinfo : (P.info? e).map (fun i => (i.zero, i.size, i.bytes)) = some (some z, size, bytes)) (ht : P.underlying t = some (.slice e)) (hzs : z.cells.size = size) (hsz : 0 < size)
    (hgd : o.guard = none) (s x : Operand) (ho : o.op = .call { callee := .builtin .append, args := #[s, x], argTypes := #[t, t] })
    {v : Value} {n : Nat} {xs : List Value} (hs : a.eval s = v) (hown : w.ownsRow base e size v n xs) (hbase : base ≤ w.heap.size)
    (ad : Addr) (m c : Nat) (news : List Value) (hx : a.eval x = .slice (some ad) m c) (hl : news.length = m * size)
    (hnews : ∀ j u, news[j]? = some u → w.cell? (ad.add j) = some u) (h1 : ∀ u ∈ news, u.oneCell' = true)
    (h63 : n + m ≤ maxLen) (hbytes : (n + m) * bytes ≤ 140737488355328)
    (h : ∀ v' w', w'.ownsRow base e size v' (n + m) (xs ++ news) → w.grownBy w' v.ownBlock → (v'.ownBlock = v.ownBlock ∨ v'.ownBlock = some w.heap.size) → K (a.put o.dst v') w') :
    if Region.wanted o (yielded ops a.tmps) = true then Oper.wp P o a w K Q else E := by
  obtain ⟨i, hi, hz, hsize, hby⟩ := info_parts hinfo
  have hw : Region.wanted o (yielded ops a.tmps) = true := by simp [Region.wanted, hgd]
  rw [if_pos hw]
  obtain ⟨v', w', hrun, h2, h3, h4, h5⟩ := run_append_own_at (P := P) w base t o.type e i z size bytes ht hi hz hsize hby hzs hsz v n xs hown ad m c news hl hnews h1 h63 hbytes hbase
  unfold Oper.wp execOp
  simp only [ho, resolve, invoke, builtin, Sem.run_bind, Sem.run_pure, Result.andThen_ok, List.map_toArray, List.map_cons, List.map_nil, hs, hx, hrun]
  exact h v' w' h2 h3 h5
/-- The form of a row that is not empty. -/
theorem own_form {w : World} {base : Nat} {e : TypeId} {sz n : Nat} {v : Value} {xs : List Value} (h : w.ownsRow base e sz v n xs) (hn : 0 < n) : ∃ g cap, v = .slice (some ⟨g, 0, none⟩) n cap ∧ base ≤ g ∧ g < w.heap.size ∧ n ≤ cap ∧ v.ownBlock = some g := by
  rcases h.2 with ⟨_, h0⟩ | ⟨g, cap, cur, rfl, h1, h2, h3, _⟩
  · omega
  · exact ⟨g, cap, rfl, h1, lt_of_block h2, h3, rfl⟩
theorem own_lt {w : World} {base : Nat} {e : TypeId} {sz n : Nat} {v : Value} {xs : List Value} (h : w.ownsRow base e sz v n xs) {g : Nat} (hg : v.ownBlock = some g) : base ≤ g ∧ g < w.heap.size := by
  rcases h.2 with ⟨rfl, _⟩ | ⟨g', cap, cur, rfl, h1, h2, _⟩
  · simp [Value.ownBlock] at hg
  · simp [Value.ownBlock] at hg; subst hg; exact ⟨h1, lt_of_block h2⟩
/-- The last element, laid as nought, is stored anew: four cells. -/
theorem own_last4 {w : World} {base g cap n : Nat} {e : TypeId} {xs : List Value} {z0 z1 z2 z3 c0 c1 c2 c3 : Value} (h : w.ownsRow base e 4 (.slice (some ⟨g, 0, none⟩) (n + 1) cap) (n + 1) (xs ++ [z0, z1, z2, z3])) (hx : xs.length = n * 4) :
    ((((w.setCell ⟨g, n * 4, none⟩ c0).setCell ⟨g, n * 4 + 1, none⟩ c1).setCell ⟨g, n * 4 + 2, none⟩ c2).setCell ⟨g, n * 4 + 3, none⟩ c3).ownsRow base e 4 (.slice (some ⟨g, 0, none⟩) (n + 1) cap) (n + 1) (xs ++ [c0, c1, c2, c3]) := by
  have h1 := (h.stored (n * 4) c0).1
  have h2 := (h1.stored (n * 4 + 1) c1).1
  have h3 := (h2.stored (n * 4 + 2) c2).1
  have h4 := (h3.stored (n * 4 + 3) c3).1
  have e0 : ((((xs ++ [z0, z1, z2, z3]).set (n * 4) c0).set (n * 4 + 1) c1).set (n * 4 + 2) c2).set (n * 4 + 3) c3 = xs ++ [c0, c1, c2, c3] := by
    rw [← hx]
    simp [List.set_append]
  rw [e0] at h4
  exact h4
theorem own_slice {w : World} {base : Nat} {e : TypeId} {sz n : Nat} {v : Value} {xs : List Value} (h : w.ownsRow base e sz v n xs) : ∃ a cap, v = .slice a n cap := by
  rcases h.2 with ⟨rfl, h0⟩ | ⟨g, cap, cur, rfl, _⟩
  · subst h0; exact ⟨none, 0, rfl⟩
  · exact ⟨_, cap, rfl⟩
theorem own_below {w w' : World} {base : Nat} {e : TypeId} {sz n : Nat} {v : Value} {xs : List Value} (h : w.ownsRow base e sz v n xs) (hb : Below w.heap.size w w') : w'.ownsRow base e sz v n xs :=
  h.kept (Mem.grown_of_below hb none) (by
    cases hv : v.ownBlock with
    | none => exact .inl rfl
    | some g => exact .inr (by simp))
/-- The four cells of the last element of a row that has grown by noughts. -/
theorem own_tail4 {w : World} {base g cap n : Nat} {e : TypeId} {xs : List Value} {z0 z1 z2 z3 : Value} (h : w.ownsRow base e 4 (.slice (some ⟨g, 0, none⟩) (n + 1) cap) (n + 1) (xs ++ [z0, z1, z2, z3])) (hx : xs.length = n * 4) :
    w.cell? ⟨g, n * 4, none⟩ = some z0 ∧ w.cell? ⟨g, n * 4 + 1, none⟩ = some z1 ∧ w.cell? ⟨g, n * 4 + 2, none⟩ = some z2 ∧ w.cell? ⟨g, n * 4 + 3, none⟩ = some z3 ∧
    w.frozen? ⟨g, n * 4, none⟩ = false ∧ w.frozen? ⟨g, n * 4 + 1, none⟩ = false ∧ w.frozen? ⟨g, n * 4 + 2, none⟩ = false ∧ w.frozen? ⟨g, n * 4 + 3, none⟩ = false := by
  have hc : ∀ j u, j < 4 → [z0, z1, z2, z3][j]? = some u → w.cell? ⟨g, n * 4 + j, none⟩ = some u := by
    intro j u hj hu
    rw [h.cellAt (n * 4 + j) (by omega), List.getElem?_append_right (by omega), hx, Nat.add_sub_cancel_left]; exact hu
  exact ⟨hc 0 _ (by omega) rfl, hc 1 _ (by omega) rfl, hc 2 _ (by omega) rfl, hc 3 _ (by omega) rfl, h.frozenAt _, h.frozenAt _, h.frozenAt _, h.frozenAt _⟩
end Go.Proofs.Ytgbiimoednmlgaa

/- Slices of elements of any kind: read, and grown by the call itself. -/
namespace Go.Proofs.Ytgbiimoednmlgaa
set_option linter.unusedVariables false
set_option linter.unusedSimpArgs false
open Go.RowKit
theorem RepT.parts {w : World} {X : List Nat} {op op' : Int} {nm nm' : ByteArray} {ex : List Ex} {te : List Te} {a a2 : Option Addr} {len cap len2 cap2 : Nat} (h : RepT w X (.mk op nm ex te) [.int .i64 op', .string nm', .slice a len cap, .slice a2 len2 cap2]) :
    op = op' ∧ nm = nm' ∧ I64 op ∧ nm.size ≤ 9223372036854775807 ∧ SlE w X ex a len cap ∧ SlT w X te a2 len2 cap2 := by
  cases h with
  | mk vs ho hs he hl hr hv => exact ⟨rfl, rfl, ho, hs, he, vs, hl, hr, hv⟩
theorem RepE.parts {w : World} {X : List Nat} {op op' n n' : Int} {nm nm' : ByteArray} {ex : List Ex} {a : Option Addr} {len cap : Nat} (h : RepE w X (.mk op n nm ex) [.int .i64 op', .int .i64 n', .string nm', .slice a len cap]) :
    op = op' ∧ n = n' ∧ nm = nm' ∧ I64 op ∧ I64 n ∧ nm.size ≤ 9223372036854775807 ∧ SlE w X ex a len cap := by
  cases h with
  | mk vs ho hn hs hl hr hv => exact ⟨rfl, rfl, rfl, ho, hn, hs, vs, hl, hr, hv⟩
/-- What elements are: how many cells each, and what is asked of them. -/
structure Elt (α : Type) where
  sz : Nat
  pos : 0 < sz
  R : World → List Nat → α → List Value → Prop
  kept : ∀ {w w' : World} {X : List Nat} {x : α} {cs : List Value}, R w X x cs → Kept X w w' → R w' X x cs
  less : ∀ {w : World} {X X' : List Nat} {x : α} {cs : List Value}, R w X x cs → (∀ b, b < w.heap.size → b ∈ X' → b ∈ X) → R w X' x cs
  one : ∀ {w : World} {X : List Nat} {x : α} {cs : List Value}, R w X x cs → cs.length = sz ∧ ∀ u ∈ cs, u.oneCell' = true
def exK : Elt Ex := ⟨4, by decide, RepE, fun h k => h.kept k, fun h k => h.less k, fun h => h.one⟩
def teK : Elt Te := ⟨4, by decide, RepT, fun h k => h.kept k, fun h k => h.less k, fun h => h.one⟩
/-- An int: what its cell holds. -/
def i64K : Elt Int := ⟨1, by decide, fun _ _ n cs => cs = [.int .i64 n] ∧ I64 n, fun h _ => h, fun h _ => h, fun h => by obtain ⟨rfl, _⟩ := h; exact ⟨rfl, by simp [Value.oneCell']⟩⟩
/-- A slice that reads as the list l; nothing of it lies in X. -/
def SlR {α : Type} (K : Elt α) (w : World) (X : List Nat) (l : List α) (a : Option Addr) (len cap : Nat) : Prop :=
  ∃ vs : List (List Value), vs.length = l.length ∧ (∀ (i : Nat) (x : α) (cs : List Value), l[i]? = some x → vs[i]? = some cs → K.R w X x cs) ∧ Sl w X K.sz a len cap vs
section
variable {α : Type} {K : Elt α} {w w' : World} {X X' : List Nat} {l : List α} {a : Option Addr} {len cap : Nat}
theorem SlR.kept (h : SlR K w X l a len cap) (k : Kept X w w') : SlR K w' X l a len cap := by
  obtain ⟨vs, h1, h2, h3⟩ := h
  exact ⟨vs, h1, fun i e cs he hc => K.kept (h2 i e cs he hc) k, h3.kept k⟩
theorem SlR.less (h : SlR K w X l a len cap) (hX : ∀ b, b < w.heap.size → b ∈ X' → b ∈ X) : SlR K w X' l a len cap := by
  obtain ⟨vs, h1, h2, h3⟩ := h
  exact ⟨vs, h1, fun i e cs he hc => K.less (h2 i e cs he hc) hX, h3.less hX⟩
theorem SlR.facts (h : SlR K w X l a len cap) : l.length = len ∧ len ≤ cap ∧ cap ≤ 9223372036854775807 := by
  obtain ⟨vs, h1, _, h3⟩ := h; exact ⟨by rw [← h1]; exact h3.1, h3.2.1, h3.2.2.1⟩
theorem SlR.nil (K : Elt α) (w : World) (X : List Nat) : SlR K w X [] none 0 0 := ⟨[], rfl, fun i e cs h _ => by simp at h, Sl.nil _ _ _⟩
theorem SlR.take (h : SlR K w X l a len cap) (k : Nat) (hk : k ≤ len) : SlR K w X (l.take k) a k cap := by
  obtain ⟨vs, h1, h2, h3⟩ := h
  refine ⟨vs.take k, by simp [h1], fun i x cs hi hc => h2 i x cs ?_ ?_, h3.take k hk⟩
  · rw [List.getElem?_take] at hi; split at hi <;> simp_all
  · rw [List.getElem?_take] at hc; split at hc <;> simp_all
/-- The k-th element: where it lies, and its cells. -/
theorem SlR.at (h : SlR K w X l a len cap) (k : Nat) (hk : k < len) : ∃ b o x cs, a = some ⟨b, o, none⟩ ∧ b < w.heap.size ∧ b ∉ X ∧ l[k]? = some x ∧ K.R w X x cs ∧ cs.length = K.sz ∧ ∀ j c, cs[j]? = some c → w.cell? ⟨b, o + k * K.sz + j, none⟩ = some c := by
  have hf := h.facts
  obtain ⟨vs, h1, h2, h3⟩ := h
  obtain ⟨b, o, ha, hb, hx, hc⟩ := h3.2.2.2 (by omega)
  have hlk : l[k]? = some (l[k]'(by omega)) := List.getElem?_eq_getElem (by omega)
  have hvk : vs[k]? = some (vs[k]'(by omega)) := List.getElem?_eq_getElem (by omega)
  exact ⟨b, o, _, _, ha, hb, hx, hlk, h2 k _ _ hlk hvk, (hc k _ hvk).1, (hc k _ hvk).2⟩
end
theorem SlE.slR {w : World} {X : List Nat} {l : List Ex} {a : Option Addr} {len cap : Nat} (h : SlE w X l a len cap) : SlR exK w X l a len cap := h
theorem SlT.slR {w : World} {X : List Nat} {l : List Te} {a : Option Addr} {len cap : Nat} (h : SlT w X l a len cap) : SlR teK w X l a len cap := h
theorem SlR.slE {w : World} {X : List Nat} {l : List Ex} {a : Option Addr} {len cap : Nat} (h : SlR exK w X l a len cap) : SlE w X l a len cap := h
theorem SlR.slT {w : World} {X : List Nat} {l : List Te} {a : Option Addr} {len cap : Nat} (h : SlR teK w X l a len cap) : SlT w X l a len cap := h
theorem or_map {p q r s : Prop} (h : p ∨ q) (f : p → r) (g : q → s) : r ∨ s := h.elim (fun x => .inl (f x)) (fun x => .inr (g x))
/-- Blocks that are still written: the row of v, and the ones of Y. -/
def busy (v : Value) (Y : List Nat) : List Nat := v.ownBlock.toList ++ Y
theorem busy_mem {v : Value} {Y : List Nat} {b : Nat} : b ∈ busy v Y ↔ v.ownBlock = some b ∨ b ∈ Y := by
  unfold busy; rw [List.mem_append, Option.mem_toList]
/-- v is a slice that the call itself makes, in a block from base on (base lies above all of X); it reads as l; nothing of its elements lies in X or in its own row. -/
structure Gro {α : Type} (K : Elt α) (e : TypeId) (base : Nat) (w : World) (X : List Nat) (l : List α) (v : Value) (csl : List (List Value)) : Prop where
  own : w.ownsRow base e K.sz v l.length csl.flatten
  room : base ≤ w.heap.size
  above : ∀ b ∈ X, b < base
  count : csl.length = l.length
  elts : ∀ (i : Nat) (x : α) (cs : List Value), l[i]? = some x → csl[i]? = some cs → K.R w (busy v X) x cs
section
variable {α : Type} {K : Elt α} {e : TypeId} {base : Nat} {w w' w1 w2 : World} {X Y : List Nat} {l : List α} {v v' : Value} {csl : List (List Value)}
theorem Gro.len4 (h : Gro K e base w X l v csl) : ∀ c ∈ csl, c.length = K.sz := by
  intro c hcm
  obtain ⟨i, hi, rfl⟩ := List.getElem_of_mem hcm
  exact (K.one (h.elts i _ _ (List.getElem?_eq_getElem (by have := h.count; omega)) (List.getElem?_eq_getElem hi))).1
theorem Gro.flat (h : Gro K e base w X l v csl) : csl.flatten.length = l.length * K.sz := by rw [flat_len K.sz csl h.len4, h.count]
theorem Gro.start (K : Elt α) (e : TypeId) {base : Nat} {w : World} {X : List Nat} (hb : base ≤ w.heap.size) (hX : ∀ b ∈ X, b < base) : Gro K e base w X [] (.slice none 0 0) [] :=
  ⟨World.ownsRow_nil _ _ _ _, hb, hX, rfl, fun i x cs h _ => by simp at h⟩
theorem Gro.lt (h : Gro K e base w X l v csl) {g : Nat} (hg : v.ownBlock = some g) : base ≤ g ∧ g < w.heap.size := own_lt h.own hg
theorem Gro.notIn (h : Gro K e base w X l v csl) {g : Nat} (hg : v.ownBlock = some g) : g ∉ X := fun hm => by have := h.above g hm; have := (h.lt hg).1; omega
theorem own_same {w w' : World} {base : Nat} {e : TypeId} {sz n : Nat} {v : Value} {xs : List Value} (h : w.ownsRow base e sz v n xs) (hg : ∀ g, v.ownBlock = some g → w'.heap[g]? = w.heap[g]?) : w'.ownsRow base e sz v n xs := by
  obtain ⟨h1, h2⟩ := h
  refine ⟨h1, ?_⟩
  rcases h2 with h2 | ⟨g, cap, cur, hv, hgb, hh, r⟩
  · exact .inl h2
  · subst hv
    exact .inr ⟨g, cap, cur, rfl, hgb, by rw [hg g rfl]; exact hh, r⟩
/-- Whatever is written but its own row: blocks of Y, all of them in X. -/
theorem Gro.kept (h : Gro K e base w X l v csl) (k : Kept Y w w') (hY : ∀ b ∈ Y, b ∈ X) : Gro K e base w' X l v csl :=
  ⟨own_same h.own (fun g hg => k.2 g (h.lt hg).2 (fun hm => h.notIn hg (hY g hm))), Nat.le_trans h.room k.1, h.above, h.count, fun i x cs hx hc => K.kept (h.elts i x cs hx hc) (k.more (fun b hb => busy_mem.2 (.inr (hY b hb))))⟩
theorem Gro.below (h : Gro K e base w X l v csl) (k : Below w.heap.size w w') : Gro K e base w' X l v csl := h.kept (Y := []) (Kept.of_below k []) (fun b hb => by cases hb)
theorem Gro.alloc (h : Gro K e base w X l v csl) (o : Obj) : Gro K e base (w.alloc o) X l v csl := h.kept (Y := []) (Kept.alloc w o []) (fun b hb => by cases hb)
theorem Gro.set_ (h : Gro K e base w X l v csl) {p : Addr} (hp : p.block ∈ X) (u : Value) : Gro K e base (w.setCell p u) X l v csl := h.kept (Y := X) (Kept.setCell w hp u) (fun b hb => hb)
/-- Fewer blocks that are written. -/
theorem Gro.less (h : Gro K e base w X l v csl) (hX : ∀ b ∈ Y, b ∈ X) : Gro K e base w Y l v csl :=
  ⟨h.own, h.room, fun b hb => h.above b (hX b hb), h.count, fun i x cs hx hc => K.less (h.elts i x cs hx hc) (fun b _ hm => busy_mem.2 (or_map (busy_mem.1 hm) id (hX b)))⟩
/-- What append has left: the row with news behind, in its old place or in a new block. Elements stay, and so does all that avoids X and the row. -/
theorem Gro.rowKept (h : Gro K e base w X l v csl) (hg : w.grownBy w' v.ownBlock) : Kept (busy v X) w w' := Kept.of_grown_own hg (fun b hb => busy_mem.2 (.inl hb))
/-- One element more. -/
theorem Gro.push (h : Gro K e base w X l v csl) {x : α} {cs : List Value} (hR : K.R w (busy v X) x cs)
    (ho : w'.ownsRow base e K.sz v' (l.length + 1) (csl.flatten ++ cs)) (hg : w.grownBy w' v.ownBlock) (hv : v'.ownBlock = v.ownBlock ∨ v'.ownBlock = some w.heap.size) :
    Gro K e base w' X (l ++ [x]) v' (csl ++ [cs]) := by
  have hK := h.rowKept hg
  have cut : ∀ b, b < w.heap.size → b ∈ busy v' X → b ∈ busy v X := by
    intro b hb hm
    rcases busy_mem.1 hm with hm | hm
    · rcases hv with hv | hv
      · exact busy_mem.2 (.inl (by rw [← hv]; exact hm))
      · rw [hm] at hv; injection hv with hv; omega
    · exact busy_mem.2 (.inr hm)
  have hK' : Kept (busy v X ++ busy v' X) w w' := hK.more (fun b hb => List.mem_append.2 (.inl hb))
  have move : ∀ y c, K.R w (busy v X) y c → K.R w' (busy v' X) y c := by
    intro y c hy
    have h1 : K.R w (busy v X ++ busy v' X) y c := K.less hy (fun b hb hm => by
      rcases List.mem_append.1 hm with hm | hm
      · exact hm
      · exact cut b hb hm)
    exact K.less (K.kept h1 hK') (fun b _ hm => List.mem_append.2 (.inr hm))
  refine ⟨by rw [List.length_append, List.flatten_append, List.flatten_singleton]; exact ho, Nat.le_trans h.room hg.size, h.above, by rw [List.length_append, List.length_append, h.count]; rfl, fun i y c hy hc => ?_⟩
  rcases Nat.lt_or_ge i l.length with hi | hi
  · rw [List.getElem?_append_left hi] at hy
    rw [List.getElem?_append_left (by rw [h.count]; exact hi)] at hc
    exact move _ _ (h.elts i y c hy hc)
  · rw [List.getElem?_append_right hi] at hy
    rw [List.getElem?_append_right (by rw [h.count]; exact hi), h.count] at hc
    have hil : i - l.length = 0 := by
      have := (List.getElem?_eq_some_iff.1 hy).1; simp at this; exact this
    rw [hil] at hy hc
    injection hy with hy; injection hc with hc
    subst hy; subst hc
    exact move _ _ hR
/-- Four noughts appended, then stored over: one element more; between the append and the stores nothing else is written. -/
theorem Gro.push4 (hsz : K.sz = 4) (h : Gro K e base w X l v csl) {x : α} {z0 z1 z2 z3 c0 c1 c2 c3 : Value} {g cap' : Nat} (hR : K.R w (busy v X) x [c0, c1, c2, c3])
    (ho : w'.ownsRow base e K.sz v' (l.length + 1) (csl.flatten ++ [z0, z1, z2, z3])) (hg : w.grownBy w' v.ownBlock) (hv : v'.ownBlock = v.ownBlock ∨ v'.ownBlock = some w.heap.size) (hv' : v' = .slice (some ⟨g, 0, none⟩) (l.length + 1) cap') :
    Gro K e base ((((w'.setCell ⟨g, l.length * 4, none⟩ c0).setCell ⟨g, l.length * 4 + 1, none⟩ c1).setCell ⟨g, l.length * 4 + 2, none⟩ c2).setCell ⟨g, l.length * 4 + 3, none⟩ c3) X (l ++ [x]) v' (csl ++ [[c0, c1, c2, c3]]) := by
  have hob : v'.ownBlock = some g := by rw [hv']; rfl
  have hgX : g ∉ X := fun hm => by have := h.above g hm; have := (own_lt ho hob).1; omega
  have hK := h.rowKept hg
  have kS : Kept [g] w' ((((w'.setCell ⟨g, l.length * 4, none⟩ c0).setCell ⟨g, l.length * 4 + 1, none⟩ c1).setCell ⟨g, l.length * 4 + 2, none⟩ c2).setCell ⟨g, l.length * 4 + 3, none⟩ c3) :=
    (((Kept.setCell w' (by simp) _).trans (Kept.setCell _ (by simp) _)).trans (Kept.setCell _ (by simp) _)).trans (Kept.setCell _ (by simp) _)
  have cut : ∀ b, b < w.heap.size → b ∈ busy v' X → b ∈ busy v X := by
    intro b hb hm
    rcases busy_mem.1 hm with hm | hm
    · rcases hv with hv | hv
      · exact busy_mem.2 (.inl (by rw [← hv]; exact hm))
      · rw [hm] at hv; injection hv with hv; omega
    · exact busy_mem.2 (.inr hm)
  have hK' : Kept (busy v X ++ busy v' X) w w' := hK.more (fun b hb => List.mem_append.2 (.inl hb))
  have kS' := kS.more (X' := busy v' X) (fun b hb => by rw [List.mem_singleton] at hb; subst hb; exact busy_mem.2 (.inl hob))
  have move : ∀ y c, K.R w (busy v X) y c → K.R ((((w'.setCell ⟨g, l.length * 4, none⟩ c0).setCell ⟨g, l.length * 4 + 1, none⟩ c1).setCell ⟨g, l.length * 4 + 2, none⟩ c2).setCell ⟨g, l.length * 4 + 3, none⟩ c3) (busy v' X) y c := by
    intro y c hy
    have h1 : K.R w (busy v X ++ busy v' X) y c := K.less hy (fun b hb hm => by
      rcases List.mem_append.1 hm with hm | hm
      · exact hm
      · exact cut b hb hm)
    exact K.kept (K.less (K.kept h1 hK') (fun b _ hm => List.mem_append.2 (.inr hm))) kS'
  have hfl := h.flat
  rw [hsz] at hfl
  refine ⟨?_, ?_, h.above, by rw [List.length_append, List.length_append, h.count]; rfl, fun i y c hy hc => ?_⟩
  · subst hv'
    rw [List.length_append, List.flatten_append, List.flatten_singleton]
    rw [hsz] at ho ⊢
    exact own_last4 ho hfl
  · exact Nat.le_trans h.room (Nat.le_trans hg.size kS.1)
  · rcases Nat.lt_or_ge i l.length with hi | hi
    · rw [List.getElem?_append_left hi] at hy
      rw [List.getElem?_append_left (by rw [h.count]; exact hi)] at hc
      exact move _ _ (h.elts i y c hy hc)
    · rw [List.getElem?_append_right hi] at hy
      rw [List.getElem?_append_right (by rw [h.count]; exact hi), h.count] at hc
      have hil : i - l.length = 0 := by
        have := (List.getElem?_eq_some_iff.1 hy).1; simp at this; exact this
      rw [hil] at hy hc
      injection hy with hy; injection hc with hc
      subst hy; subst hc
      exact move _ _ hR
/-- It is a slice like any other when it is done. -/
theorem Gro.slR (h : Gro K e base w X l v csl) : ∃ a cap, v = .slice a l.length cap ∧ SlR K w X l a l.length cap := by
  have hmx : maxLen = 9223372036854775807 := by decide
  have hel : ∀ (i : Nat) (x : α) (cs : List Value), l[i]? = some x → csl[i]? = some cs → K.R w X x cs := fun i x cs hx hc => K.less (h.elts i x cs hx hc) (fun b _ hm => busy_mem.2 (.inr hm))
  rcases h.own.2 with ⟨rfl, h00⟩ | ⟨g, capn, cur, hv, h1, h2, h3, h4, h5, h6⟩
  · have h1 : csl = [] := List.length_eq_zero_iff.1 (by rw [h.count, h00])
    subst h1
    refine ⟨none, 0, by rw [h00], [], by simpa using h00.symm, fun i x cs hx _ => hel i x cs hx ‹_›, ?_⟩
    rw [h00]
    exact Sl.nil _ _ _
  · subst hv
    refine ⟨_, capn, rfl, csl, h.count, hel, h.count, h3, by omega, fun hp => ⟨g, 0, rfl, lt_of_block h2, fun hm => by have := h.above g hm; omega, fun i cs hi => ⟨h.len4 cs (List.mem_of_getElem? hi), fun j c hj => ?_⟩⟩⟩
    have h4' := h.len4 cs (List.mem_of_getElem? hi)
    have hjs : j < K.sz := by rw [← h4']; exact (List.getElem?_eq_some_iff.1 hj).1
    have hi' : i < l.length := by rw [← h.count]; exact (List.getElem?_eq_some_iff.1 hi).1
    rw [Nat.zero_add, h.own.cellAt (i * K.sz + j) (by calc i * K.sz + j < i * K.sz + K.sz := by omega
                                                          _ = (i + 1) * K.sz := by rw [Nat.add_mul]; omega
                                                          _ ≤ l.length * K.sz := Nat.mul_le_mul_right _ (by omega)), flat_get K.sz csl h.len4 i j cs hi hjs]
    exact hj
/-- Something kept apart from X and the row (another slice, a tree ..) stands behind an append of one element: the new row is none of its blocks. -/
theorem busy_cut {w : World} {v v' : Value} {X : List Nat} (hv : v'.ownBlock = v.ownBlock ∨ v'.ownBlock = some w.heap.size) : ∀ b, b < w.heap.size → b ∈ busy v' X → b ∈ busy v X := by
  intro b hb hm
  rcases busy_mem.1 hm with hm | hm
  · rcases hv with hv | hv
    · exact busy_mem.2 (.inl (by rw [← hv]; exact hm))
    · rw [hm] at hv; injection hv with hv; omega
  · exact busy_mem.2 (.inr hm)
end
end Go.Proofs.Ytgbiimoednmlgaa

/- Slices that a call makes itself and lets grow, several beside each other: each keeps out of the blocks of X (the other ones' rows, what is written besides). -/
namespace Go.Proofs.Ytgbiimoednmlgaa
set_option linter.unusedVariables false
set_option linter.unusedSimpArgs false
open Go.RowKit
/-- What avoids X stands where only blocks of X were written, and avoids what was made since. -/
theorem Elt.to {α : Type} (K : Elt α) {w w' : World} {X Y X' : List Nat} {x : α} {cs : List Value} (h : K.R w X x cs) (k : Kept Y w w') (hY : ∀ b ∈ Y, b ∈ X) (hX : ∀ b ∈ X', b ∈ X ∨ w.heap.size ≤ b) : K.R w' X' x cs := by
  have h1 : K.R w (X ++ X') x cs := K.less h (fun b hb hm => by
    rcases List.mem_append.1 hm with hm | hm
    · exact hm
    · exact (hX b hm).resolve_right (by omega))
  exact K.less (K.kept h1 (k.more (fun b hb => List.mem_append.2 (.inl (hY b hb))))) (fun b _ hm => List.mem_append.2 (.inr hm))
theorem SlR.to {α : Type} {K : Elt α} {w w' : World} {X Y X' : List Nat} {l : List α} {a : Option Addr} {len cap : Nat} (h : SlR K w X l a len cap) (k : Kept Y w w') (hY : ∀ b ∈ Y, b ∈ X) (hX : ∀ b ∈ X', b ∈ X ∨ w.heap.size ≤ b) : SlR K w' X' l a len cap := by
  have h1 : SlR K w (X ++ X') l a len cap := h.less (fun b hb hm => by
    rcases List.mem_append.1 hm with hm | hm
    · exact hm
    · exact (hX b hm).resolve_right (by omega))
  exact (h1.kept (k.more (fun b hb => List.mem_append.2 (.inl (hY b hb))))).less (fun b _ hm => List.mem_append.2 (.inr hm))
/-- append onto a row of the call's own, in a plain region. -/
theorem ap_row {P : Program} {w : World} {ops : Array Oper} {rest : List Oper} {o : Oper} {a : Act} {Q : Exit → Act → World → Prop} {t e : TypeId} {z : Value} {size bytes base : Nat}
    (hinfo : (P.info? e).map (fun i => (i.zero, i.size, i.bytes)) = some (some z, size, bytes)) (ht : P.underlying t = some (.slice e)) (hzs : z.cells.size = size) (hsz : 0 < size)
    (hgd : o.guard = none) (s x : Operand) (ho : o.op = .call { callee := .builtin .append, args := #[s, x], argTypes := #[t, t] })
    {v : Value} {n : Nat} {xs : List Value} (hs : a.eval s = v) (hown : w.ownsRow base e size v n xs) (hbase : base ≤ w.heap.size)
    (ad : Addr) (m c : Nat) (news : List Value) (hx : a.eval x = .slice (some ad) m c) (hl : news.length = m * size)
    (hnews : ∀ j u, news[j]? = some u → w.cell? (ad.add j) = some u) (h1 : ∀ u ∈ news, u.oneCell' = true)
    (h63 : n + m ≤ maxLen) (hbytes : (n + m) * bytes ≤ 140737488355328)
    (h : ∀ v' w', w'.ownsRow base e size v' (n + m) (xs ++ news) → w.grownBy w' v.ownBlock → (v'.ownBlock = v.ownBlock ∨ v'.ownBlock = some w.heap.size) → wpList P ops Q rest (a.put o.dst v') w') :
    wpList P ops Q (o :: rest) a w := by
  obtain ⟨i, hi, hz, hsize, hby⟩ := info_parts hinfo
  refine wpList_plain hgd fun _ hK => ?_
  obtain ⟨v', w', hrun, h2, h3, h4, h5⟩ := run_append_own_at (P := P) w base t o.type e i z size bytes ht hi hz hsize hby hzs hsz v n xs hown ad m c news hl hnews h1 h63 hbytes hbase
  unfold Oper.wp execOp
  simp only [ho, resolve, invoke, builtin, Sem.run_bind, Sem.run_pure, Result.andThen_ok, List.map_toArray, List.map_cons, List.map_nil, hs, hx, hrun]
  exact hK _ _ (h v' w' h2 h3 h5)
theorem lit_cells_at (w : World) (cs : Array Value) (t : TypeId) (g : Nat) (hg : g = w.heap.size) : ∀ j u, cs.toList[j]? = some u → (w.alloc (.cells cs t)).cell? ((⟨g, 0, none⟩ : Addr).add j) = some u := by
  subst hg; exact Mem.lit_cells w cs t
def slK {α : Type} (K : Elt α) : World → List Nat → List α → Value → Prop := fun w X l v => ∃ a cap, v = .slice a l.length cap ∧ SlR K w X l a l.length cap
structure Grow {α : Type} (K : Elt α) (e : TypeId) (base : Nat) (w : World) (X : List Nat) (l : List α) (v : Value) (csl : List (List Value)) : Prop where
  own : w.ownsRow base e K.sz v l.length csl.flatten
  room : base ≤ w.heap.size
  apart : ∀ g, v.ownBlock = some g → g ∉ X
  lt : ∀ b ∈ X, b < w.heap.size
  count : csl.length = l.length
  elts : ∀ (i : Nat) (x : α) (cs : List Value), l[i]? = some x → csl[i]? = some cs → K.R w (busy v X) x cs
section
variable {α : Type} {K : Elt α} {e : TypeId} {base : Nat} {w w' w1 w2 : World} {X Y X' : List Nat} {l : List α} {v v' : Value} {csl : List (List Value)}
theorem Grow.len4 (h : Grow K e base w X l v csl) : ∀ c ∈ csl, c.length = K.sz := by
  intro c hcm
  obtain ⟨i, hi, rfl⟩ := List.getElem_of_mem hcm
  exact (K.one (h.elts i _ _ (List.getElem?_eq_getElem (by have := h.count; omega)) (List.getElem?_eq_getElem hi))).1
theorem Grow.flat (h : Grow K e base w X l v csl) : csl.flatten.length = l.length * K.sz := by rw [flat_len K.sz csl h.len4, h.count]
theorem Grow.start (K : Elt α) (e : TypeId) {base : Nat} {w : World} {X : List Nat} (hb : base ≤ w.heap.size) (hX : ∀ b ∈ X, b < w.heap.size) : Grow K e base w X [] (.slice none 0 0) [] :=
  ⟨World.ownsRow_nil _ _ _ _, hb, fun g hg => by simp [Value.ownBlock] at hg, hX, rfl, fun i x cs h _ => by simp at h⟩
theorem Grow.blt (h : Grow K e base w X l v csl) {g : Nat} (hg : v.ownBlock = some g) : base ≤ g ∧ g < w.heap.size := own_lt h.own hg
/-- Whatever is written but its own row (blocks of Y, all in X); X may turn to other blocks of X and new ones. -/
theorem Grow.to (h : Grow K e base w X l v csl) (k : Kept Y w w') (hY : ∀ b ∈ Y, b ∈ X) (hX : ∀ b ∈ X', (b ∈ X ∨ w.heap.size ≤ b) ∧ b < w'.heap.size) : Grow K e base w' X' l v csl :=
  ⟨own_same h.own (fun g hg => k.2 g (h.blt hg).2 (fun hm => h.apart g hg (hY g hm))), Nat.le_trans h.room k.1,
    fun g hg hm => by
      rcases (hX g hm).1 with h1 | h1
      · exact h.apart g hg h1
      · have := (h.blt hg).2; omega,
    fun b hb => (hX b hb).2, h.count, fun i x cs hx hc => K.to (h.elts i x cs hx hc) k (fun b hb => busy_mem.2 (.inr (hY b hb))) (fun b hb => by
      rcases busy_mem.1 hb with hm | hm
      · exact .inl (busy_mem.2 (.inl hm))
      · exact or_map (hX b hm).1 (fun h1 => busy_mem.2 (.inr h1)) id)⟩
theorem Grow.same (h : Grow K e base w X l v csl) (k : Kept Y w w') (hY : ∀ b ∈ Y, b ∈ X) : Grow K e base w' X l v csl := h.to k hY (fun b hb => ⟨.inl hb, Nat.lt_of_lt_of_le (h.lt b hb) k.1⟩)
theorem Grow.below (h : Grow K e base w X l v csl) (k : Below w.heap.size w w') : Grow K e base w' X l v csl := h.same (Kept.of_below k []) (fun b hb => by cases hb)
theorem Grow.alloc (h : Grow K e base w X l v csl) (o : Obj) : Grow K e base (w.alloc o) X l v csl := h.same (Kept.alloc w o []) (fun b hb => by cases hb)
theorem Grow.drew (h : Grow K e base w X l v csl) : Grow K e base w.drew X l v csl := h.same (Y := []) (Kept.of_below (Below.refl w.heap.size w).drew []) (fun b hb => by cases hb)
theorem Grow.set_ (h : Grow K e base w X l v csl) {p : Addr} (hp : p.block ∈ X) (u : Value) : Grow K e base (w.setCell p u) X l v csl := h.same (Y := X) (Kept.setCell w hp u) (fun b hb => hb)
theorem Grow.cut (h : Grow K e base w X l v csl) (hX : ∀ b ∈ X', b ∈ X) : Grow K e base w X' l v csl := h.to (Kept.refl w []) (fun b hb => by cases hb) (fun b hb => ⟨.inl (hX b hb), h.lt b (hX b hb)⟩)
/-- What an append to it writes: its own row. -/
theorem Grow.row (_h : Grow K e base w X l v csl) (hg : w.grownBy w' v.ownBlock) : Kept v.ownBlock.toList w w' := Kept.of_grown_own hg (fun b hb => by rw [hb]; simp)
/-- The row behind an append: in its old place, or new. -/
theorem own_next {w : World} {v v' : Value} (hv : v'.ownBlock = v.ownBlock ∨ v'.ownBlock = some w.heap.size) : ∀ b ∈ v'.ownBlock.toList, b ∈ v.ownBlock.toList ∨ w.heap.size ≤ b := by
  intro b hb
  rw [Option.mem_toList] at hb
  rcases hv with h | h
  · exact .inl (by rw [Option.mem_toList, ← h]; exact hb)
  · rw [h] at hb; injection hb with hb; exact .inr (by omega)
/-- One element more. -/
theorem Grow.push (h : Grow K e base w X l v csl) {x : α} {cs : List Value} (hR : K.R w (busy v X) x cs)
    (ho : w'.ownsRow base e K.sz v' (l.length + 1) (csl.flatten ++ cs)) (hg : w.grownBy w' v.ownBlock) (hv : v'.ownBlock = v.ownBlock ∨ v'.ownBlock = some w.heap.size) :
    Grow K e base w' X (l ++ [x]) v' (csl ++ [cs]) := by
  have hK := h.row hg
  have move : ∀ y c, K.R w (busy v X) y c → K.R w' (busy v' X) y c := fun y c hy => K.to hy hK (fun b hb => busy_mem.2 (.inl (by rw [Option.mem_toList] at hb; exact hb))) (fun b hb => by
    rcases busy_mem.1 hb with hm | hm
    · exact or_map (own_next hv b (by rw [Option.mem_toList]; exact hm)) (fun h1 => busy_mem.2 (.inl (by rw [Option.mem_toList] at h1; exact h1))) id
    · exact .inl (busy_mem.2 (.inr hm)))
  refine ⟨by rw [List.length_append, List.flatten_append, List.flatten_singleton]; exact ho, Nat.le_trans h.room hg.size, fun g hgb hm => ?_, fun b hb => Nat.lt_of_lt_of_le (h.lt b hb) hg.size, by rw [List.length_append, List.length_append, h.count]; rfl, fun i y c hy hc => ?_⟩
  · rcases hv with h1 | h1
    · exact h.apart g (by rw [← h1]; exact hgb) hm
    · rw [h1] at hgb; injection hgb with hgb; have := h.lt g hm; omega
  · rcases Nat.lt_or_ge i l.length with hi | hi
    · rw [List.getElem?_append_left hi] at hy
      rw [List.getElem?_append_left (by rw [h.count]; exact hi)] at hc
      exact move _ _ (h.elts i y c hy hc)
    · rw [List.getElem?_append_right hi] at hy
      rw [List.getElem?_append_right (by rw [h.count]; exact hi), h.count] at hc
      have hil : i - l.length = 0 := by
        have := (List.getElem?_eq_some_iff.1 hy).1; simp at this; exact this
      rw [hil] at hy hc
      injection hy with hy; injection hc with hc
      subst hy; subst hc
      exact move _ _ hR
/-- It is a slice like any other. -/
theorem Grow.slR (h : Grow K e base w X l v csl) : ∃ a cap, v = .slice a l.length cap ∧ SlR K w X l a l.length cap := by
  have hmx : maxLen = 9223372036854775807 := by decide
  have hel : ∀ (i : Nat) (x : α) (cs : List Value), l[i]? = some x → csl[i]? = some cs → K.R w X x cs := fun i x cs hx hc => K.less (h.elts i x cs hx hc) (fun b _ hm => busy_mem.2 (.inr hm))
  rcases h.own.2 with ⟨rfl, h00⟩ | ⟨g, capn, cur, hv, h1, h2, h3, h4, h5, h6⟩
  · have h1 : csl = [] := List.length_eq_zero_iff.1 (by rw [h.count, h00])
    subst h1
    refine ⟨none, 0, by rw [h00], [], by simpa using h00.symm, fun i x cs hx _ => hel i x cs hx ‹_›, ?_⟩
    rw [h00]
    exact Sl.nil _ _ _
  · subst hv
    refine ⟨_, capn, rfl, csl, h.count, hel, h.count, h3, by omega, fun hp => ⟨g, 0, rfl, lt_of_block h2, h.apart g rfl, fun i cs hi => ⟨h.len4 cs (List.mem_of_getElem? hi), fun j c hj => ?_⟩⟩⟩
    have h4' := h.len4 cs (List.mem_of_getElem? hi)
    have hjs : j < K.sz := by rw [← h4']; exact (List.getElem?_eq_some_iff.1 hj).1
    have hi' : i < l.length := by rw [← h.count]; exact (List.getElem?_eq_some_iff.1 hi).1
    rw [Nat.zero_add, h.own.cellAt (i * K.sz + j) (by calc i * K.sz + j < i * K.sz + K.sz := by omega
                                                          _ = (i + 1) * K.sz := by rw [Nat.add_mul]; omega
                                                          _ ≤ l.length * K.sz := Nat.mul_le_mul_right _ (by omega)), flat_get K.sz csl h.len4 i j cs hi hjs]
    exact hj
end
end Go.Proofs.Ytgbiimoednmlgaa

/- Objects beside each other in memory: each owns some blocks and stays what it is while the others are written. -/
namespace Go.Proofs.Ytgbiimoednmlgaa
set_option linter.unusedVariables false
set_option linter.unusedSimpArgs false
open Go.RowKit
/-- An object: the blocks that it owns, and what is said of the world, where nothing of it lies in the blocks of X. -/
structure Ob where
  own : List Nat
  P : World → List Nat → Prop
  st : ∀ {w w' : World} {X Y X' : List Nat}, P w X → Kept Y w w' → (∀ b ∈ Y, b ∈ X) → (∀ b ∈ X', (b ∈ X ∨ w.heap.size ≤ b) ∧ b < w'.heap.size) → P w' X'
  lt : ∀ {w : World} {X : List Nat}, P w X → ∀ b ∈ own, b < w.heap.size
def owns : List Ob → List Nat
  | [] => []
  | o :: t => o.own ++ owns t
def others (fam : List Ob) (i : Nat) : List Nat := (List.range fam.length).flatMap fun j => if j = i then [] else ((fam[j]?).map Ob.own).getD []
def Sep (w : World) (fam : List Ob) : Prop := ∀ (i : Nat) (o : Ob), fam[i]? = some o → o.P w (others fam i)
theorem mem_owns {fam : List Ob} {b : Nat} : b ∈ owns fam ↔ ∃ (j : Nat) (o : Ob), fam[j]? = some o ∧ b ∈ o.own := by
  induction fam with
  | nil => simp [owns]
  | cons x t ih =>
    rw [owns, List.mem_append, ih]
    constructor
    · rintro (h | ⟨j, o, hj, hb⟩)
      · exact ⟨0, x, rfl, h⟩
      · exact ⟨j + 1, o, by simpa using hj, hb⟩
    · rintro ⟨j, o, hj, hb⟩
      cases j with
      | zero => simp at hj; subst hj; exact .inl hb
      | succ j => exact .inr ⟨j, o, by simpa using hj, hb⟩
theorem mem_others {fam : List Ob} {i b : Nat} : b ∈ others fam i ↔ ∃ (j : Nat) (o : Ob), j ≠ i ∧ fam[j]? = some o ∧ b ∈ o.own := by
  unfold others
  rw [List.mem_flatMap]
  constructor
  · rintro ⟨j, hj, hb⟩
    split at hb
    · cases hb
    · rename_i hne
      cases ho : fam[j]? with
      | none => rw [ho] at hb; cases hb
      | some o => rw [ho] at hb; exact ⟨j, o, hne, ho, hb⟩
  · rintro ⟨j, o, hne, ho, hb⟩
    exact ⟨j, List.mem_range.2 (List.getElem?_eq_some_iff.1 ho).1, by rw [if_neg hne, ho]; exact hb⟩
section
variable {w w' : World} {fam : List Ob} {o o' : Ob} {i : Nat} {Y : List Nat}
theorem Sep.nil (w : World) : Sep w [] := fun i o h => by simp at h
theorem Sep.lt (h : Sep w fam) : ∀ b ∈ owns fam, b < w.heap.size := by
  intro b hb
  obtain ⟨j, o, hj, hb⟩ := mem_owns.1 hb
  exact o.lt (h j o hj) b hb
theorem Sep.at (h : Sep w fam) (i : Nat) {o : Ob} (hi : fam[i]? = some o) : o.P w (others fam i) := h i o hi
/-- All others stay, one turns. -/
theorem Sep.set_ (h : Sep w fam) (i : Nat) {o o' : Ob} (hi : fam[i]? = some o) (k : Kept Y w w') (hY : ∀ b ∈ Y, b ∈ o.own ∨ w.heap.size ≤ b) (hown : ∀ b ∈ o'.own, b ∈ o.own ∨ w.heap.size ≤ b) (hP : o'.P w' (others fam i)) : Sep w' (fam.set i o') := by
  have hil : i < fam.length := (List.getElem?_eq_some_iff.1 hi).1
  intro j oj hj
  by_cases hji : j = i
  · subst hji
    rw [List.getElem?_set_self hil] at hj
    injection hj with hj
    subst hj
    have e : others (fam.set j o') j = others fam j := by
      unfold others
      rw [List.length_set]
      congr 1
      funext k
      by_cases hk : k = j
      · rw [if_pos hk, if_pos hk]
      · rw [if_neg hk, if_neg hk, List.getElem?_set_ne (fun e => hk e.symm)]
    rw [e]
    exact hP
  · rw [List.getElem?_set_ne (fun e => hji e.symm)] at hj
    have hk' : Kept (Y.filter fun b => decide (b < w.heap.size)) w w' := ⟨k.1, fun b hb hx => k.2 b hb (fun hm => hx (List.mem_filter.2 ⟨hm, by simpa using hb⟩))⟩
    refine oj.st (h j oj hj) hk' (fun b hb => ?_) (fun b hb => ?_)
    · obtain ⟨h1, h2⟩ := List.mem_filter.1 hb
      rcases hY b h1 with h3 | h3
      · exact mem_others.2 ⟨i, o, fun e => hji e.symm, hi, h3⟩
      · simp at h2; omega
    · obtain ⟨m, om, hm, hom, hbm⟩ := mem_others.1 hb
      by_cases hmi : m = i
      · subst hmi
        rw [List.getElem?_set_self hil] at hom
        injection hom with hom
        subst hom
        exact ⟨or_map (hown b hbm) (fun h1 => mem_others.2 ⟨m, o, hm, hi, h1⟩) id, o'.lt hP b hbm⟩
      · rw [List.getElem?_set_ne (fun e => hmi e.symm)] at hom
        exact ⟨.inl (mem_others.2 ⟨m, om, hm, hom, hbm⟩), Nat.lt_of_lt_of_le (om.lt (h m om hom) b hbm) k.1⟩
/-- Nothing of them is written. -/
theorem Sep.kept (h : Sep w fam) (k : Kept [] w w') : Sep w' fam := by
  intro j oj hj
  refine oj.st (h j oj hj) k (fun b hb => by cases hb) (fun b hb => ⟨.inl hb, ?_⟩)
  obtain ⟨m, om, hm, hom, hbm⟩ := mem_others.1 hb
  exact Nat.lt_of_lt_of_le (om.lt (h m om hom) b hbm) k.1
theorem Sep.below (h : Sep w fam) (k : Below w.heap.size w w') : Sep w' fam := h.kept (Kept.of_below k [])
theorem Sep.drew (h : Sep w fam) : Sep w.drew fam := h.below (Below.refl _ _).drew
theorem Sep.alloc (h : Sep w fam) (ob : Obj) : Sep (w.alloc ob) fam := h.kept (Kept.alloc w ob [])
/-- Another one comes, in new blocks or in none. -/
theorem Sep.cons (h : Sep w fam) (k : Kept [] w w') (hown : ∀ b ∈ o.own, w.heap.size ≤ b) (hP : o.P w' (owns fam)) : Sep w' (o :: fam) := by
  intro j oj hj
  cases j with
  | zero =>
    simp at hj
    subst hj
    refine o.st hP (Kept.refl w' []) (fun b hb => by cases hb) (fun b hb => ?_)
    obtain ⟨m, om, hm, hom, hbm⟩ := mem_others.1 hb
    cases m with
    | zero => exact absurd rfl hm
    | succ m =>
      have hom' : fam[m]? = some om := by simpa using hom
      exact ⟨.inl (mem_owns.2 ⟨m, om, hom', hbm⟩), Nat.lt_of_lt_of_le (om.lt (h m om hom') b hbm) k.1⟩
  | succ j =>
    have hj' : fam[j]? = some oj := by simpa using hj
    refine oj.st (h j oj hj') k (fun b hb => by cases hb) (fun b hb => ?_)
    obtain ⟨m, om, hm, hom, hbm⟩ := mem_others.1 hb
    cases m with
    | zero =>
      simp at hom
      subst hom
      exact ⟨.inr (hown b hbm), o.lt hP b hbm⟩
    | succ m =>
      have hom' : fam[m]? = some om := by simpa using hom
      exact ⟨.inl (mem_others.2 ⟨m, om, fun e => hm (by rw [e]), hom', hbm⟩), Nat.lt_of_lt_of_le (om.lt (h m om hom') b hbm) k.1⟩
/-- One that owns nothing comes. -/
theorem Sep.add (h : Sep w fam) (hown : o.own = []) (hP : o.P w (owns fam)) : Sep w (o :: fam) := h.cons (Kept.refl w []) (fun b hb => by rw [hown] at hb; cases hb) hP
/-- One is left out of sight. -/
theorem Sep.drop (h : Sep w fam) (i : Nat) : Sep w (fam.eraseIdx i) := by
  intro j oj hj
  rw [List.getElem?_eraseIdx] at hj
  have key : ∀ m om, (fam.eraseIdx i)[m]? = some om → fam[if m < i then m else m + 1]? = some om := by
    intro m om hm
    rw [List.getElem?_eraseIdx] at hm
    by_cases hmi : m < i
    · rw [if_pos hmi] at hm ⊢; exact hm
    · rw [if_neg hmi] at hm ⊢; exact hm
  have hj' : fam[if j < i then j else j + 1]? = some oj := by
    by_cases hmi : j < i
    · rw [if_pos hmi] at hj ⊢; exact hj
    · rw [if_neg hmi] at hj ⊢; exact hj
  refine oj.st (h _ oj hj') (Kept.refl w []) (fun b hb => by cases hb) (fun b hb => ?_)
  obtain ⟨m, om, hm, hom, hbm⟩ := mem_others.1 hb
  have hom' := key m om hom
  refine ⟨.inl (mem_others.2 ⟨_, om, ?_, hom', hbm⟩), om.lt (h _ om hom') b hbm⟩
  intro e
  apply hm
  split at e <;> split at e <;> omega
/-- What owns nothing keeps out of all. -/
theorem Sep.all (h : Sep w fam) (i : Nat) {o : Ob} (hi : fam[i]? = some o) (ho : o.own = []) : o.P w (owns fam) := by
  refine o.st (h i o hi) (Kept.refl w []) (fun b hb => by cases hb) (fun b hb => ?_)
  refine ⟨?_, h.lt b hb⟩
  obtain ⟨m, om, hom, hbm⟩ := mem_owns.1 hb
  by_cases hm : m = i
  · subst hm
    rw [hi] at hom
    injection hom with hom
    subst hom
    rw [ho] at hbm
    cases hbm
  · exact .inl (mem_others.2 ⟨m, om, hm, hom, hbm⟩)
end
/-- A block of cells. -/
def bx (g : Nat) (t : TypeId) (cs : Array Value) : Ob where
  own := [g]
  P := fun w X => Mem.Blk w g t cs ∧ g ∉ X
  st := fun {w w' X Y X'} h k hY hX => ⟨(k.2 g h.1.lt (fun hm => h.2 (hY g hm))).trans h.1, fun hm => by
    rcases (hX g hm).1 with h1 | h1
    · exact h.2 h1
    · have := h.1.lt; omega⟩
  lt := fun h b hb => by rw [List.mem_singleton] at hb; subst hb; exact h.1.lt
/-- A slice that grows. -/
def gr {α : Type} (K : Elt α) (e : TypeId) (base : Nat) (l : List α) (v : Value) : Ob where
  own := v.ownBlock.toList
  P := fun w X => ∃ csl, Grow K e base w X l v csl
  st := fun h k hY hX => by obtain ⟨csl, h⟩ := h; exact ⟨csl, h.to k hY hX⟩
  lt := fun h b hb => by obtain ⟨csl, h⟩ := h; rw [Option.mem_toList] at hb; exact (h.blt hb).2
/-- What is only read: cells; a slice. -/
def im {α : Type} (K : Elt α) (x : α) (cs : List Value) : Ob where
  own := []
  P := fun w X => K.R w X x cs
  st := fun h k hY hX => K.to h k hY (fun b hb => (hX b hb).1)
  lt := fun _ b hb => by cases hb
def sl {α : Type} (K : Elt α) (l : List α) (a : Option Addr) (len cap : Nat) : Ob where
  own := []
  P := fun w X => SlR K w X l a len cap
  st := fun h k hY hX => h.to k hY (fun b hb => (hX b hb).1)
  lt := fun _ b hb => by cases hb
section
variable {α : Type} {K : Elt α} {e : TypeId} {base : Nat} {w w' w2 : World} {fam : List Ob} {l : List α} {v v' : Value} {g : Nat} {t : TypeId} {cs : Array Value} {csl : List (List Value)}
theorem Sep.blk (h : Sep w fam) (i : Nat) (hi : fam[i]? = some (bx g t cs)) : Mem.Blk w g t cs := (h.at i hi).1
/-- A new block. -/
theorem Sep.new (h : Sep w fam) (t : TypeId) (cs : Array Value) : Sep (w.alloc (.cells cs t)) (bx w.heap.size t cs :: fam) :=
  h.cons (o := bx w.heap.size t cs) (Kept.alloc w _ []) (fun b hb => by rw [show (bx w.heap.size t cs).own = [w.heap.size] from rfl, List.mem_singleton] at hb; omega) ⟨Mem.Blk.new w t cs, fun hm => by have := h.lt _ hm; omega⟩
/-- A store into a block. -/
theorem Sep.store (h : Sep w fam) (i : Nat) (hi : fam[i]? = some (bx g t cs)) (j : Nat) (u : Value) : Sep (w.setCell ⟨g, j, none⟩ u) (fam.set i (bx g t (cs.setIfInBounds j u))) :=
  h.set_ i hi (Kept.setCell w (X := [g]) (by simp) u) (fun b hb => .inl hb) (fun b hb => .inl hb) ⟨(h.at i hi).1.set_ j u, (h.at i hi).2⟩
/-- One element more. -/
theorem Sep.push (h : Sep w fam) (i : Nat) (hi : fam[i]? = some (gr K e base l v)) (hG : Grow K e base w (others fam i) l v csl) {x : α} {c : List Value} (hR : K.R w (owns fam) x c)
    (ho : w'.ownsRow base e K.sz v' (l.length + 1) (csl.flatten ++ c)) (hg : w.grownBy w' v.ownBlock) (hv : v'.ownBlock = v.ownBlock ∨ v'.ownBlock = some w.heap.size) : Sep w' (fam.set i (gr K e base (l ++ [x]) v')) := by
  refine h.set_ i hi (hG.row hg) (fun b hb => .inl hb) (own_next hv) ⟨_, hG.push (K.less hR (fun b _ hm => ?_)) ho hg hv⟩
  rcases busy_mem.1 hm with h1 | h1
  · exact mem_owns.2 ⟨i, _, hi, by show b ∈ v.ownBlock.toList; rw [Option.mem_toList]; exact h1⟩
  · obtain ⟨m, om, _, hom, hbm⟩ := mem_others.1 h1
    exact mem_owns.2 ⟨m, om, hom, hbm⟩
/-- A slice that no longer grows. -/
theorem Sep.still (h : Sep w fam) (i : Nat) (hi : fam[i]? = some (gr K e base l v)) : ∃ a cap, v = .slice a l.length cap ∧ SlR K w (others fam i) l a l.length cap := by
  obtain ⟨csl, hG⟩ := h.at i hi
  exact hG.slR
end
end Go.Proofs.Ytgbiimoednmlgaa
