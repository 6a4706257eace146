/- Slices of elements of any kind: read, and grown by the call itself. -/
import Derived.Test.YtgbiimoednmlgaaAp
namespace Go.Proofs.Ytgbiimoednmlgaa
set_option linter.unusedVariables false
set_option linter.unusedSimpArgs false
open Go.RowKit
theorem RepT.parts {w : World} {X : List Nat} {op op' : Int} {nm nm' : ByteArray} {ex : List Ex} {te : List Te} {a a2 : Option Addr} {len cap len2 cap2 : Nat} (h : RepT w X (.mk op nm ex te) [.int .i64 op', .string nm', .slice a len cap, .slice a2 len2 cap2]) :
    op = op' ∧ nm = nm' ∧ I64 op ∧ nm.size ≤ 9223372036854775807 ∧ SlE w X ex a len cap ∧ SlT w X te a2 len2 cap2 := by
  cases h with
  | mk vs ho hs he hl hr hv => exact ⟨rfl, rfl, ho, hs, he, vs, hl, hr, hv⟩
theorem RepE.parts {w : World} {X : List Nat} {op op' n n' : Int} {nm nm' : ByteArray} {ex : List Ex} {a : Option Addr} {len cap : Nat} (h : RepE w X (.mk op n nm ex) [.int .i64 op', .int .i64 n', .string nm', .slice a len cap]) :
    op = op' ∧ n = n' ∧ nm = nm' ∧ I64 op ∧ I64 n ∧ nm.size ≤ 9223372036854775807 ∧ SlE w X ex a len cap := by
  cases h with
  | mk vs ho hn hs hl hr hv => exact ⟨rfl, rfl, rfl, ho, hn, hs, vs, hl, hr, hv⟩
/-- What elements are: how many cells each, and what is asked of them. -/
structure Elt (α : Type) where
  sz : Nat
  pos : 0 < sz
  R : World → List Nat → α → List Value → Prop
  kept : ∀ {w w' : World} {X : List Nat} {x : α} {cs : List Value}, R w X x cs → Kept X w w' → R w' X x cs
  less : ∀ {w : World} {X X' : List Nat} {x : α} {cs : List Value}, R w X x cs → (∀ b, b < w.heap.size → b ∈ X' → b ∈ X) → R w X' x cs
  one : ∀ {w : World} {X : List Nat} {x : α} {cs : List Value}, R w X x cs → cs.length = sz ∧ ∀ u ∈ cs, u.oneCell' = true
def exK : Elt Ex := ⟨4, by decide, RepE, fun h k => h.kept k, fun h k => h.less k, fun h => h.one⟩
def teK : Elt Te := ⟨4, by decide, RepT, fun h k => h.kept k, fun h k => h.less k, fun h => h.one⟩
/-- An int: what its cell holds. -/
def i64K : Elt Int := ⟨1, by decide, fun _ _ n cs => cs = [.int .i64 n] ∧ I64 n, fun h _ => h, fun h _ => h, fun h => by obtain ⟨rfl, _⟩ := h; exact ⟨rfl, by simp [Value.oneCell']⟩⟩
/-- A slice that reads as the list l; nothing of it lies in X. -/
def SlR {α : Type} (K : Elt α) (w : World) (X : List Nat) (l : List α) (a : Option Addr) (len cap : Nat) : Prop :=
  ∃ vs : List (List Value), vs.length = l.length ∧ (∀ (i : Nat) (x : α) (cs : List Value), l[i]? = some x → vs[i]? = some cs → K.R w X x cs) ∧ Sl w X K.sz a len cap vs
section
variable {α : Type} {K : Elt α} {w w' : World} {X X' : List Nat} {l : List α} {a : Option Addr} {len cap : Nat}
theorem SlR.kept (h : SlR K w X l a len cap) (k : Kept X w w') : SlR K w' X l a len cap := by
  obtain ⟨vs, h1, h2, h3⟩ := h
  exact ⟨vs, h1, fun i e cs he hc => K.kept (h2 i e cs he hc) k, h3.kept k⟩
theorem SlR.less (h : SlR K w X l a len cap) (hX : ∀ b, b < w.heap.size → b ∈ X' → b ∈ X) : SlR K w X' l a len cap := by
  obtain ⟨vs, h1, h2, h3⟩ := h
  exact ⟨vs, h1, fun i e cs he hc => K.less (h2 i e cs he hc) hX, h3.less hX⟩
theorem SlR.facts (h : SlR K w X l a len cap) : l.length = len ∧ len ≤ cap ∧ cap ≤ 9223372036854775807 := by
  obtain ⟨vs, h1, _, h3⟩ := h; exact ⟨by rw [← h1]; exact h3.1, h3.2.1, h3.2.2.1⟩
theorem SlR.nil (K : Elt α) (w : World) (X : List Nat) : SlR K w X [] none 0 0 := ⟨[], rfl, fun i e cs h _ => by simp at h, Sl.nil _ _ _⟩
theorem SlR.take (h : SlR K w X l a len cap) (k : Nat) (hk : k ≤ len) : SlR K w X (l.take k) a k cap := by
  obtain ⟨vs, h1, h2, h3⟩ := h
  refine ⟨vs.take k, by simp [h1], fun i x cs hi hc => h2 i x cs ?_ ?_, h3.take k hk⟩
  · rw [List.getElem?_take] at hi; split at hi <;> simp_all
  · rw [List.getElem?_take] at hc; split at hc <;> simp_all
/-- The k-th element: where it lies, and its cells. -/
theorem SlR.at (h : SlR K w X l a len cap) (k : Nat) (hk : k < len) : ∃ b o x cs, a = some ⟨b, o, none⟩ ∧ b < w.heap.size ∧ b ∉ X ∧ l[k]? = some x ∧ K.R w X x cs ∧ cs.length = K.sz ∧ ∀ j c, cs[j]? = some c → w.cell? ⟨b, o + k * K.sz + j, none⟩ = some c := by
  have hf := h.facts
  obtain ⟨vs, h1, h2, h3⟩ := h
  obtain ⟨b, o, ha, hb, hx, hc⟩ := h3.2.2.2 (by omega)
  have hlk : l[k]? = some (l[k]'(by omega)) := List.getElem?_eq_getElem (by omega)
  have hvk : vs[k]? = some (vs[k]'(by omega)) := List.getElem?_eq_getElem (by omega)
  exact ⟨b, o, _, _, ha, hb, hx, hlk, h2 k _ _ hlk hvk, (hc k _ hvk).1, (hc k _ hvk).2⟩
end
theorem SlE.slR {w : World} {X : List Nat} {l : List Ex} {a : Option Addr} {len cap : Nat} (h : SlE w X l a len cap) : SlR exK w X l a len cap := h
theorem SlT.slR {w : World} {X : List Nat} {l : List Te} {a : Option Addr} {len cap : Nat} (h : SlT w X l a len cap) : SlR teK w X l a len cap := h
theorem SlR.slE {w : World} {X : List Nat} {l : List Ex} {a : Option Addr} {len cap : Nat} (h : SlR exK w X l a len cap) : SlE w X l a len cap := h
theorem SlR.slT {w : World} {X : List Nat} {l : List Te} {a : Option Addr} {len cap : Nat} (h : SlR teK w X l a len cap) : SlT w X l a len cap := h
theorem or_map {p q r s : Prop} (h : p ∨ q) (f : p → r) (g : q → s) : r ∨ s := h.elim (fun x => .inl (f x)) (fun x => .inr (g x))
/-- Blocks that are still written: the row of v, and the ones of Y. -/
def busy (v : Value) (Y : List Nat) : List Nat := v.ownBlock.toList ++ Y
theorem busy_mem {v : Value} {Y : List Nat} {b : Nat} : b ∈ busy v Y ↔ v.ownBlock = some b ∨ b ∈ Y := by
  unfold busy; rw [List.mem_append, Option.mem_toList]
/-- v is a slice that the call itself makes, in a block from base on (base lies above all of X); it reads as l; nothing of its elements lies in X or in its own row. -/
structure Gro {α : Type} (K : Elt α) (e : TypeId) (base : Nat) (w : World) (X : List Nat) (l : List α) (v : Value) (csl : List (List Value)) : Prop where
  own : w.ownsRow base e K.sz v l.length csl.flatten
  room : base ≤ w.heap.size
  above : ∀ b ∈ X, b < base
  count : csl.length = l.length
  elts : ∀ (i : Nat) (x : α) (cs : List Value), l[i]? = some x → csl[i]? = some cs → K.R w (busy v X) x cs
section
variable {α : Type} {K : Elt α} {e : TypeId} {base : Nat} {w w' w1 w2 : World} {X Y : List Nat} {l : List α} {v v' : Value} {csl : List (List Value)}
theorem Gro.len4 (h : Gro K e base w X l v csl) : ∀ c ∈ csl, c.length = K.sz := by
  intro c hcm
  obtain ⟨i, hi, rfl⟩ := List.getElem_of_mem hcm
  exact (K.one (h.elts i _ _ (List.getElem?_eq_getElem (by have := h.count; omega)) (List.getElem?_eq_getElem hi))).1
theorem Gro.flat (h : Gro K e base w X l v csl) : csl.flatten.length = l.length * K.sz := by rw [flat_len K.sz csl h.len4, h.count]
theorem Gro.start (K : Elt α) (e : TypeId) {base : Nat} {w : World} {X : List Nat} (hb : base ≤ w.heap.size) (hX : ∀ b ∈ X, b < base) : Gro K e base w X [] (.slice none 0 0) [] :=
  ⟨World.ownsRow_nil _ _ _ _, hb, hX, rfl, fun i x cs h _ => by simp at h⟩
theorem Gro.lt (h : Gro K e base w X l v csl) {g : Nat} (hg : v.ownBlock = some g) : base ≤ g ∧ g < w.heap.size := own_lt h.own hg
theorem Gro.notIn (h : Gro K e base w X l v csl) {g : Nat} (hg : v.ownBlock = some g) : g ∉ X := fun hm => by have := h.above g hm; have := (h.lt hg).1; omega
theorem own_same {w w' : World} {base : Nat} {e : TypeId} {sz n : Nat} {v : Value} {xs : List Value} (h : w.ownsRow base e sz v n xs) (hg : ∀ g, v.ownBlock = some g → w'.heap[g]? = w.heap[g]?) : w'.ownsRow base e sz v n xs := by
  obtain ⟨h1, h2⟩ := h
  refine ⟨h1, ?_⟩
  rcases h2 with h2 | ⟨g, cap, cur, hv, hgb, hh, r⟩
  · exact .inl h2
  · subst hv
    exact .inr ⟨g, cap, cur, rfl, hgb, by rw [hg g rfl]; exact hh, r⟩
/-- Whatever is written but its own row: blocks of Y, all of them in X. -/
theorem Gro.kept (h : Gro K e base w X l v csl) (k : Kept Y w w') (hY : ∀ b ∈ Y, b ∈ X) : Gro K e base w' X l v csl :=
  ⟨own_same h.own (fun g hg => k.2 g (h.lt hg).2 (fun hm => h.notIn hg (hY g hm))), Nat.le_trans h.room k.1, h.above, h.count, fun i x cs hx hc => K.kept (h.elts i x cs hx hc) (k.more (fun b hb => busy_mem.2 (.inr (hY b hb))))⟩
theorem Gro.below (h : Gro K e base w X l v csl) (k : Below w.heap.size w w') : Gro K e base w' X l v csl := h.kept (Y := []) (Kept.of_below k []) (fun b hb => by cases hb)
theorem Gro.alloc (h : Gro K e base w X l v csl) (o : Obj) : Gro K e base (w.alloc o) X l v csl := h.kept (Y := []) (Kept.alloc w o []) (fun b hb => by cases hb)
theorem Gro.set_ (h : Gro K e base w X l v csl) {p : Addr} (hp : p.block ∈ X) (u : Value) : Gro K e base (w.setCell p u) X l v csl := h.kept (Y := X) (Kept.setCell w hp u) (fun b hb => hb)
/-- Fewer blocks that are written. -/
theorem Gro.less (h : Gro K e base w X l v csl) (hX : ∀ b ∈ Y, b ∈ X) : Gro K e base w Y l v csl :=
  ⟨h.own, h.room, fun b hb => h.above b (hX b hb), h.count, fun i x cs hx hc => K.less (h.elts i x cs hx hc) (fun b _ hm => busy_mem.2 (or_map (busy_mem.1 hm) id (hX b)))⟩
/-- What append has left: the row with news behind, in its old place or in a new block. Elements stay, and so does all that avoids X and the row. -/
theorem Gro.rowKept (h : Gro K e base w X l v csl) (hg : w.grownBy w' v.ownBlock) : Kept (busy v X) w w' := Kept.of_grown_own hg (fun b hb => busy_mem.2 (.inl hb))
/-- One element more. -/
theorem Gro.push (h : Gro K e base w X l v csl) {x : α} {cs : List Value} (hR : K.R w (busy v X) x cs)
    (ho : w'.ownsRow base e K.sz v' (l.length + 1) (csl.flatten ++ cs)) (hg : w.grownBy w' v.ownBlock) (hv : v'.ownBlock = v.ownBlock ∨ v'.ownBlock = some w.heap.size) :
    Gro K e base w' X (l ++ [x]) v' (csl ++ [cs]) := by
  have hK := h.rowKept hg
  have cut : ∀ b, b < w.heap.size → b ∈ busy v' X → b ∈ busy v X := by
    intro b hb hm
    rcases busy_mem.1 hm with hm | hm
    · rcases hv with hv | hv
      · exact busy_mem.2 (.inl (by rw [← hv]; exact hm))
      · rw [hm] at hv; injection hv with hv; omega
    · exact busy_mem.2 (.inr hm)
  have hK' : Kept (busy v X ++ busy v' X) w w' := hK.more (fun b hb => List.mem_append.2 (.inl hb))
  have move : ∀ y c, K.R w (busy v X) y c → K.R w' (busy v' X) y c := by
    intro y c hy
    have h1 : K.R w (busy v X ++ busy v' X) y c := K.less hy (fun b hb hm => by
      rcases List.mem_append.1 hm with hm | hm
      · exact hm
      · exact cut b hb hm)
    exact K.less (K.kept h1 hK') (fun b _ hm => List.mem_append.2 (.inr hm))
  refine ⟨by rw [List.length_append, List.flatten_append, List.flatten_singleton]; exact ho, Nat.le_trans h.room hg.size, h.above, by rw [List.length_append, List.length_append, h.count]; rfl, fun i y c hy hc => ?_⟩
  rcases Nat.lt_or_ge i l.length with hi | hi
  · rw [List.getElem?_append_left hi] at hy
    rw [List.getElem?_append_left (by rw [h.count]; exact hi)] at hc
    exact move _ _ (h.elts i y c hy hc)
  · rw [List.getElem?_append_right hi] at hy
    rw [List.getElem?_append_right (by rw [h.count]; exact hi), h.count] at hc
    have hil : i - l.length = 0 := by
      have := (List.getElem?_eq_some_iff.1 hy).1; simp at this; exact this
    rw [hil] at hy hc
    injection hy with hy; injection hc with hc
    subst hy; subst hc
    exact move _ _ hR
/-- Four noughts appended, then stored over: one element more; between the append and the stores nothing else is written. -/
theorem Gro.push4 (hsz : K.sz = 4) (h : Gro K e base w X l v csl) {x : α} {z0 z1 z2 z3 c0 c1 c2 c3 : Value} {g cap' : Nat} (hR : K.R w (busy v X) x [c0, c1, c2, c3])
    (ho : w'.ownsRow base e K.sz v' (l.length + 1) (csl.flatten ++ [z0, z1, z2, z3])) (hg : w.grownBy w' v.ownBlock) (hv : v'.ownBlock = v.ownBlock ∨ v'.ownBlock = some w.heap.size) (hv' : v' = .slice (some ⟨g, 0, none⟩) (l.length + 1) cap') :
    Gro K e base ((((w'.setCell ⟨g, l.length * 4, none⟩ c0).setCell ⟨g, l.length * 4 + 1, none⟩ c1).setCell ⟨g, l.length * 4 + 2, none⟩ c2).setCell ⟨g, l.length * 4 + 3, none⟩ c3) X (l ++ [x]) v' (csl ++ [[c0, c1, c2, c3]]) := by
  have hob : v'.ownBlock = some g := by rw [hv']; rfl
  have hgX : g ∉ X := fun hm => by have := h.above g hm; have := (own_lt ho hob).1; omega
  have hK := h.rowKept hg
  have kS : Kept [g] w' ((((w'.setCell ⟨g, l.length * 4, none⟩ c0).setCell ⟨g, l.length * 4 + 1, none⟩ c1).setCell ⟨g, l.length * 4 + 2, none⟩ c2).setCell ⟨g, l.length * 4 + 3, none⟩ c3) :=
    (((Kept.setCell w' (by simp) _).trans (Kept.setCell _ (by simp) _)).trans (Kept.setCell _ (by simp) _)).trans (Kept.setCell _ (by simp) _)
  have cut : ∀ b, b < w.heap.size → b ∈ busy v' X → b ∈ busy v X := by
    intro b hb hm
    rcases busy_mem.1 hm with hm | hm
    · rcases hv with hv | hv
      · exact busy_mem.2 (.inl (by rw [← hv]; exact hm))
      · rw [hm] at hv; injection hv with hv; omega
    · exact busy_mem.2 (.inr hm)
  have hK' : Kept (busy v X ++ busy v' X) w w' := hK.more (fun b hb => List.mem_append.2 (.inl hb))
  have kS' := kS.more (X' := busy v' X) (fun b hb => by rw [List.mem_singleton] at hb; subst hb; exact busy_mem.2 (.inl hob))
  have move : ∀ y c, K.R w (busy v X) y c → K.R ((((w'.setCell ⟨g, l.length * 4, none⟩ c0).setCell ⟨g, l.length * 4 + 1, none⟩ c1).setCell ⟨g, l.length * 4 + 2, none⟩ c2).setCell ⟨g, l.length * 4 + 3, none⟩ c3) (busy v' X) y c := by
    intro y c hy
    have h1 : K.R w (busy v X ++ busy v' X) y c := K.less hy (fun b hb hm => by
      rcases List.mem_append.1 hm with hm | hm
      · exact hm
      · exact cut b hb hm)
    exact K.kept (K.less (K.kept h1 hK') (fun b _ hm => List.mem_append.2 (.inr hm))) kS'
  have hfl := h.flat
  rw [hsz] at hfl
  refine ⟨?_, ?_, h.above, by rw [List.length_append, List.length_append, h.count]; rfl, fun i y c hy hc => ?_⟩
  · subst hv'
    rw [List.length_append, List.flatten_append, List.flatten_singleton]
    rw [hsz] at ho ⊢
    exact own_last4 ho hfl
  · exact Nat.le_trans h.room (Nat.le_trans hg.size kS.1)
  · rcases Nat.lt_or_ge i l.length with hi | hi
    · rw [List.getElem?_append_left hi] at hy
      rw [List.getElem?_append_left (by rw [h.count]; exact hi)] at hc
      exact move _ _ (h.elts i y c hy hc)
    · rw [List.getElem?_append_right hi] at hy
      rw [List.getElem?_append_right (by rw [h.count]; exact hi), h.count] at hc
      have hil : i - l.length = 0 := by
        have := (List.getElem?_eq_some_iff.1 hy).1; simp at this; exact this
      rw [hil] at hy hc
      injection hy with hy; injection hc with hc
      subst hy; subst hc
      exact move _ _ hR
/-- It is a slice like any other when it is done. -/
theorem Gro.slR (h : Gro K e base w X l v csl) : ∃ a cap, v = .slice a l.length cap ∧ SlR K w X l a l.length cap := by
  have hmx : maxLen = 9223372036854775807 := by decide
  have hel : ∀ (i : Nat) (x : α) (cs : List Value), l[i]? = some x → csl[i]? = some cs → K.R w X x cs := fun i x cs hx hc => K.less (h.elts i x cs hx hc) (fun b _ hm => busy_mem.2 (.inr hm))
  rcases h.own.2 with ⟨rfl, h00⟩ | ⟨g, capn, cur, hv, h1, h2, h3, h4, h5, h6⟩
  · have h1 : csl = [] := List.length_eq_zero_iff.1 (by rw [h.count, h00])
    subst h1
    refine ⟨none, 0, by rw [h00], [], by simpa using h00.symm, fun i x cs hx _ => hel i x cs hx ‹_›, ?_⟩
    rw [h00]
    exact Sl.nil _ _ _
  · subst hv
    refine ⟨_, capn, rfl, csl, h.count, hel, h.count, h3, by omega, fun hp => ⟨g, 0, rfl, lt_of_block h2, fun hm => by have := h.above g hm; omega, fun i cs hi => ⟨h.len4 cs (List.mem_of_getElem? hi), fun j c hj => ?_⟩⟩⟩
    have h4' := h.len4 cs (List.mem_of_getElem? hi)
    have hjs : j < K.sz := by rw [← h4']; exact (List.getElem?_eq_some_iff.1 hj).1
    have hi' : i < l.length := by rw [← h.count]; exact (List.getElem?_eq_some_iff.1 hi).1
    rw [Nat.zero_add, h.own.cellAt (i * K.sz + j) (by calc i * K.sz + j < i * K.sz + K.sz := by omega
                                                          _ = (i + 1) * K.sz := by rw [Nat.add_mul]; omega
                                                          _ ≤ l.length * K.sz := Nat.mul_le_mul_right _ (by omega)), flat_get K.sz csl h.len4 i j cs hi hjs]
    exact hj
/-- Something kept apart from X and the row (another slice, a tree ..) stands behind an append of one element: the new row is none of its blocks. -/
theorem busy_cut {w : World} {v v' : Value} {X : List Nat} (hv : v'.ownBlock = v.ownBlock ∨ v'.ownBlock = some w.heap.size) : ∀ b, b < w.heap.size → b ∈ busy v' X → b ∈ busy v X := by
  intro b hb hm
  rcases busy_mem.1 hm with hm | hm
  · rcases hv with hv | hv
    · exact busy_mem.2 (.inl (by rw [← hv]; exact hm))
    · rw [hm] at hv; injection hv with hv; omega
  · exact busy_mem.2 (.inr hm)
end
end Go.Proofs.Ytgbiimoednmlgaa
