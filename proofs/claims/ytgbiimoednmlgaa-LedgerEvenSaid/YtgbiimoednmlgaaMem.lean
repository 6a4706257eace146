/- Small laws on memory, over any program: a row of the call's own that grows by append; no conditions beyond those typed. -/
import Derived.WalkKit
import Derived.Maps.AppendAt
import Derived.Lib.Hide
import Derived.WalkSpells
namespace Go.Mem
open Go.RowKit
variable {P : Program}

theorem add0 (g j : Nat) : (⟨g, 0, none⟩ : Addr).add j = ⟨g, j, none⟩ := by unfold Addr.add; split <;> simp_all
theorem add_off (b o j : Nat) : (⟨b, o, none⟩ : Addr).add j = ⟨b, o + j, none⟩ := by unfold Addr.add; split <;> simp_all

/-- Below the heap as it was, and a row of the call's own. -/
structure Own (w0 w : World) (e : TypeId) (size : Nat) (v : Value) (n : Nat) (xs : List Value) : Prop where
  below : Below w0.heap.size w0 w
  own : w.ownsRow w0.heap.size e size v n xs

theorem Own.nil {w0 w : World} {e : TypeId} {size : Nat} (h : Below w0.heap.size w0 w) : Own w0 w e size (.slice none 0 0) 0 [] := ⟨h, World.ownsRow_nil _ _ _ _⟩
theorem Own.lit {w0 w : World} {e : TypeId} {size : Nat} (h : Below w0.heap.size w0 w) (cs : Array Value) (n : Nat) (hm : n ≤ maxLen) (hs : cs.size = n * size) :
    Own w0 (w.alloc (.cells cs e)) e size (.slice (some ⟨w.heap.size, 0, none⟩) n n) n cs.toList :=
  ⟨h.alloc h.size _, World.ownsRow_lit w cs n h.size hm hs⟩
theorem Own.alloc {w0 w : World} {e : TypeId} {size : Nat} {v : Value} {n : Nat} {xs : List Value} (h : Own w0 w e size v n xs) (o : Obj) : Own w0 (w.alloc o) e size v n xs :=
  ⟨h.below.alloc h.below.size _, h.own.alloc o⟩
theorem Own.drew {w0 w : World} {e : TypeId} {size : Nat} {v : Value} {n : Nat} {xs : List Value} (h : Own w0 w e size v n xs) : Own w0 w.drew e size v n xs := ⟨h.below.drew, h.own⟩
theorem grown_of_below {w w' : World} (hb : Below w.heap.size w w') (row : Option Nat) : w.grownBy w' row := ⟨hb.os, hb.tape, hb.output, hb.size, fun i hi _ => hb.block i hi⟩
/-- Behind a call that leaves all that was there. -/
theorem Own.call {w0 w w' : World} {e : TypeId} {size : Nat} {v : Value} {n : Nat} {xs : List Value} (h : Own w0 w e size v n xs) (hb : Below w.heap.size w w') : Own w0 w' e size v n xs :=
  ⟨h.below.trans (hb.mono h.below.size), h.own.kept (grown_of_below hb none) (by
    cases hv : v.ownBlock with
    | none => exact .inl rfl
    | some g => exact .inr (by simp))⟩
theorem Own.cell {w0 w : World} {e : TypeId} {size : Nat} {g n cap : Nat} {xs : List Value} (h : Own w0 w e size (.slice (some ⟨g, 0, none⟩) n cap) n xs) (j : Nat) (hj : j < n * size) : w.cell? ⟨g, j, none⟩ = xs[j]? :=
  h.own.cellAt j hj

/-- What is appended lies at an address: cells in a new block. -/
theorem lit_cells (w : World) (cs : Array Value) (t : TypeId) : ∀ j u, cs.toList[j]? = some u → (w.alloc (.cells cs t)).cell? ((⟨w.heap.size, 0, none⟩ : Addr).add j) = some u := by
  intro j u h
  rw [add0, World.cell?_alloc_mark]
  simpa using h

/-- append onto a row of the call's own. -/
theorem ap {w0 w : World} {ops : Array Oper} {rest : List Oper} {o : Oper} {a : Act} {Q : Exit → Act → World → Prop} {t e : TypeId} {z : Value} {size bytes : Nat}
    (hinfo : (P.info? e).map (fun i => (i.zero, i.size, i.bytes)) = some (some z, size, bytes)) (ht : P.underlying t = some (.slice e)) (hzs : z.cells.size = size) (hsz : 0 < size)
    (hgd : o.guard = none) (s x : Operand) (ho : o.op = .call { callee := .builtin .append, args := #[s, x], argTypes := #[t, t] })
    {v : Value} {n : Nat} {xs : List Value} (hs : a.eval s = v) (hown : Own w0 w e size v n xs)
    (ad : Addr) (m c : Nat) (news : List Value) (hx : a.eval x = .slice (some ad) m c) (hl : news.length = m * size)
    (hnews : ∀ j u, news[j]? = some u → w.cell? (ad.add j) = some u) (h1 : ∀ u ∈ news, u.oneCell' = true)
    (h63 : n + m ≤ maxLen) (hbytes : (n + m) * bytes ≤ 140737488355328)
    (h : ∀ v' w', Own w0 w' e size v' (n + m) (xs ++ news) → w.grownBy w' v.ownBlock → (v'.ownBlock = v.ownBlock ∨ v'.ownBlock = some w.heap.size) → (v' = .slice none 0 0 ↔ v = .slice none 0 0 ∧ m = 0) → wpList P ops Q rest (a.put o.dst v') w') :
    wpList P ops Q (o :: rest) a w := by
  obtain ⟨i, hi, hz, hsize, hby⟩ := info_parts hinfo
  refine wpList_plain hgd fun _ hK => ?_
  obtain ⟨v', w', hrun, h2, h3, h4, h5⟩ := run_append_own_at (P := P) w w0.heap.size t o.type e i z size bytes ht hi hz hsize hby hzs hsz v n xs hown.own ad m c news hl hnews h1 h63 hbytes hown.below.size
  unfold Oper.wp execOp
  simp only [ho, resolve, invoke, builtin, Sem.run_bind, Sem.run_pure, Result.andThen_ok, List.map_toArray, List.map_cons, List.map_nil, hs, hx, hrun]
  exact hK _ _ (h v' w' ⟨hown.below.grown h3 hown.below.size (fun k hk => (hown.own.lt k hk).1), h2⟩ h3 h5 h4)

/-- Block g is just the cells cs of element type t, none frozen. -/
def Blk (w : World) (g : Nat) (t : TypeId) (cs : Array Value) : Prop := w.heap[g]? = some (.cells cs t (0, 0))
section
variable {w w' : World} {g : Nat} {t : TypeId} {cs : Array Value}
theorem Blk.lt (h : Blk w g t cs) : g < w.heap.size := lt_of_block h
theorem Blk.cell (h : Blk w g t cs) (i : Nat) : w.cell? ⟨g, i, none⟩ = cs[i]? := cell_of_row w g i cs t (0, 0) h
theorem Blk.frozen (h : Blk w g t cs) (i : Nat) : w.frozen? ⟨g, i, none⟩ = false := by
  unfold Blk at h
  simp [World.frozen?, h]
theorem Blk.new (w : World) (t : TypeId) (cs : Array Value) : Blk (w.alloc (.cells cs t)) w.heap.size t cs := heap_alloc_new w _
theorem Blk.drew (h : Blk w g t cs) : Blk w.drew g t cs := h
theorem Blk.alloc (h : Blk w g t cs) (o : Obj) : Blk (w.alloc o) g t cs := (Below.heap_alloc w o g h.lt).trans h
theorem Blk.set_ (h : Blk w g t cs) (i : Nat) (u : Value) : Blk (w.setCell ⟨g, i, none⟩ u) g t (cs.setIfInBounds i u) := by
  unfold Blk at h ⊢
  simp [World.setCell, Array.getElem?_modify, h]
theorem Blk.far (h : Blk w g t cs) {p : Addr} (hp : g ≠ p.block) (u : Value) : Blk (w.setCell p u) g t cs := (Below.heap_setCell w p u g hp).trans h
theorem Blk.call {B : Nat} (h : Blk w g t cs) (hb : Below B w w') (hg : g < B) : Blk w' g t cs := (hb.block g hg).trans h
theorem Blk.below (h : Blk w g t cs) (hb : Below w.heap.size w w') : Blk w' g t cs := (hb.block g h.lt).trans h
theorem Blk.two {a b : Value} (h : Blk w g t #[a, b]) : w.cell? ⟨g, 0, none⟩ = some a ∧ w.cell? ⟨g, 1, none⟩ = some b ∧ w.frozen? ⟨g, 0, none⟩ = false ∧ w.frozen? ⟨g, 1, none⟩ = false :=
  ⟨h.cell 0, h.cell 1, h.frozen 0, h.frozen 1⟩
end
end Go.Mem
