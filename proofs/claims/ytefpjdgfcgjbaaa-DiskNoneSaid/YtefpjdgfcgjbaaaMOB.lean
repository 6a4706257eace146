/- A part of the proof: Grow, Sep, Fr, Cells, Lit, StK, DkP, DkS, NdA, one behind another. -/
import Derived.Test.YtefpjdgfcgjbaaaMOA
import Derived.Maps.OwnSet
import Derived.Sort.EncStr
import Derived.Deep.Draws
import Derived.Sort.KeysCollected
import Derived.Test.YtefpjdgfcgjbaaaProg
import Derived.Test.YtefpjdgfcgjbaaaChecked
import Derived.Carry
/- Slices that a call makes itself and lets grow, several beside each other: each keeps out of the blocks of X (the other ones' rows, what is written besides). -/
namespace Go.Proofs.Ytefpjdgfcgjbaaa
set_option linter.unusedVariables false
set_option linter.unusedSimpArgs false
open Go.RowKit
/-- What avoids X stands where only blocks of X were written, and avoids what was made since. -/
theorem Elt.to {α : Type} (K : Elt α) {w w' : World} {X Y X' : List Nat} {x : α} {cs : List Value} (h : K.R w X x cs) (k : Kept Y w w') (hY : ∀ b ∈ Y, b ∈ X) (hX : ∀ b ∈ X', b ∈ X ∨ w.heap.size ≤ b) : K.R w' X' x cs := by
  have h1 : K.R w (X ++ X') x cs := K.less h (fun b hb hm => by
    rcases List.mem_append.1 hm with hm | hm
    · exact hm
    · exact (hX b hm).resolve_right (by omega))
  exact K.less (K.kept h1 (k.more (fun b hb => List.mem_append.2 (.inl (hY b hb))))) (fun b _ hm => List.mem_append.2 (.inr hm))
theorem SlR.to {α : Type} {K : Elt α} {w w' : World} {X Y X' : List Nat} {l : List α} {a : Option Addr} {len cap : Nat} (h : SlR K w X l a len cap) (k : Kept Y w w') (hY : ∀ b ∈ Y, b ∈ X) (hX : ∀ b ∈ X', b ∈ X ∨ w.heap.size ≤ b) : SlR K w' X' l a len cap := by
  have h1 : SlR K w (X ++ X') l a len cap := h.less (fun b hb hm => by
    rcases List.mem_append.1 hm with hm | hm
    · exact hm
    · exact (hX b hm).resolve_right (by omega))
  exact (h1.kept (k.more (fun b hb => List.mem_append.2 (.inl (hY b hb))))).less (fun b _ hm => List.mem_append.2 (.inr hm))
/-- append onto a row of the call's own, in a plain region. -/
theorem ap_row {P : Program} {w : World} {ops : Array Oper} {rest : List Oper} {o : Oper} {a : Act} {Q : Exit → Act → World → Prop} {t e : TypeId} {z : Value} {size bytes base : Nat}
    (hinfo : (P.info? e).map (fun i => (i.zero, i.size, i.bytes)) = some (some z, size, bytes)) (ht : P.underlying t = some (.slice e)) (hzs : z.cells.size = size) (hsz : 0 < size)
    (hgd : o.guard = none) (s x : Operand) (ho : o.op = .call { callee := .builtin .append, args := #[s, x], argTypes := #[t, t] })
    {v : Value} {n : Nat} {xs : List Value} (hs : a.eval s = v) (hown : w.ownsRow base e size v n xs) (hbase : base ≤ w.heap.size)
    (ad : Addr) (m c : Nat) (news : List Value) (hx : a.eval x = .slice (some ad) m c) (hl : news.length = m * size)
    (hnews : ∀ j u, news[j]? = some u → w.cell? (ad.add j) = some u) (h1 : ∀ u ∈ news, u.oneCell' = true)
    (h63 : n + m ≤ maxLen) (hbytes : (n + m) * bytes ≤ 140737488355328)
    (h : ∀ v' w', w'.ownsRow base e size v' (n + m) (xs ++ news) → w.grownBy w' v.ownBlock → (v'.ownBlock = v.ownBlock ∨ v'.ownBlock = some w.heap.size) → wpList P ops Q rest (a.put o.dst v') w') :
    wpList P ops Q (o :: rest) a w := by
  obtain ⟨i, hi, hz, hsize, hby⟩ := info_parts hinfo
  refine wpList_plain hgd fun _ hK => ?_
  obtain ⟨v', w', hrun, h2, h3, h4, h5⟩ := run_append_own_at (P := P) w base t o.type e i z size bytes ht hi hz hsize hby hzs hsz v n xs hown ad m c news hl hnews h1 h63 hbytes hbase
  unfold Oper.wp execOp
  simp only [ho, resolve, invoke, builtin, Sem.run_bind, Sem.run_pure, Result.andThen_ok, List.map_toArray, List.map_cons, List.map_nil, hs, hx, hrun]
  exact hK _ _ (h v' w' h2 h3 h5)
theorem lit_cells_at (w : World) (cs : Array Value) (t : TypeId) (g : Nat) (hg : g = w.heap.size) : ∀ j u, cs.toList[j]? = some u → (w.alloc (.cells cs t)).cell? ((⟨g, 0, none⟩ : Addr).add j) = some u := by
  subst hg; exact Mem.lit_cells w cs t
def slK {α : Type} (K : Elt α) : World → List Nat → List α → Value → Prop := fun w X l v => ∃ a cap, v = .slice a l.length cap ∧ SlR K w X l a l.length cap
structure Grow {α : Type} (K : Elt α) (e : TypeId) (base : Nat) (w : World) (X : List Nat) (l : List α) (v : Value) (csl : List (List Value)) : Prop where
  own : w.ownsRow base e K.sz v l.length csl.flatten
  room : base ≤ w.heap.size
  apart : ∀ g, v.ownBlock = some g → g ∉ X
  lt : ∀ b ∈ X, b < w.heap.size
  count : csl.length = l.length
  elts : ∀ (i : Nat) (x : α) (cs : List Value), l[i]? = some x → csl[i]? = some cs → K.R w (busy v X) x cs
section
variable {α : Type} {K : Elt α} {e : TypeId} {base : Nat} {w w' w1 w2 : World} {X Y X' : List Nat} {l : List α} {v v' : Value} {csl : List (List Value)}
theorem Grow.len4 (h : Grow K e base w X l v csl) : ∀ c ∈ csl, c.length = K.sz := by
  intro c hcm
  obtain ⟨i, hi, rfl⟩ := List.getElem_of_mem hcm
  exact (K.one (h.elts i _ _ (List.getElem?_eq_getElem (by have := h.count; omega)) (List.getElem?_eq_getElem hi))).1
theorem Grow.flat (h : Grow K e base w X l v csl) : csl.flatten.length = l.length * K.sz := by rw [flat_len K.sz csl h.len4, h.count]
theorem Grow.start (K : Elt α) (e : TypeId) {base : Nat} {w : World} {X : List Nat} (hb : base ≤ w.heap.size) (hX : ∀ b ∈ X, b < w.heap.size) : Grow K e base w X [] (.slice none 0 0) [] :=
  ⟨World.ownsRow_nil _ _ _ _, hb, fun g hg => by simp [Value.ownBlock] at hg, hX, rfl, fun i x cs h _ => by simp at h⟩
theorem Grow.blt (h : Grow K e base w X l v csl) {g : Nat} (hg : v.ownBlock = some g) : base ≤ g ∧ g < w.heap.size := own_lt h.own hg
/-- Whatever is written but its own row (blocks of Y, all in X); X may turn to other blocks of X and new ones. -/
theorem Grow.to (h : Grow K e base w X l v csl) (k : Kept Y w w') (hY : ∀ b ∈ Y, b ∈ X) (hX : ∀ b ∈ X', (b ∈ X ∨ w.heap.size ≤ b) ∧ b < w'.heap.size) : Grow K e base w' X' l v csl :=
  ⟨own_same h.own (fun g hg => k.2 g (h.blt hg).2 (fun hm => h.apart g hg (hY g hm))), Nat.le_trans h.room k.1,
    fun g hg hm => by
      rcases (hX g hm).1 with h1 | h1
      · exact h.apart g hg h1
      · have := (h.blt hg).2; omega,
    fun b hb => (hX b hb).2, h.count, fun i x cs hx hc => K.to (h.elts i x cs hx hc) k (fun b hb => busy_mem.2 (.inr (hY b hb))) (fun b hb => by
      rcases busy_mem.1 hb with hm | hm
      · exact .inl (busy_mem.2 (.inl hm))
      · exact or_map (hX b hm).1 (fun h1 => busy_mem.2 (.inr h1)) id)⟩
theorem Grow.same (h : Grow K e base w X l v csl) (k : Kept Y w w') (hY : ∀ b ∈ Y, b ∈ X) : Grow K e base w' X l v csl := h.to k hY (fun b hb => ⟨.inl hb, Nat.lt_of_lt_of_le (h.lt b hb) k.1⟩)
theorem Grow.below (h : Grow K e base w X l v csl) (k : Below w.heap.size w w') : Grow K e base w' X l v csl := h.same (Kept.of_below k []) (fun b hb => by cases hb)
theorem Grow.alloc (h : Grow K e base w X l v csl) (o : Obj) : Grow K e base (w.alloc o) X l v csl := h.same (Kept.alloc w o []) (fun b hb => by cases hb)
theorem Grow.drew (h : Grow K e base w X l v csl) : Grow K e base w.drew X l v csl := h.same (Y := []) (Kept.of_below (Below.refl w.heap.size w).drew []) (fun b hb => by cases hb)
theorem Grow.set_ (h : Grow K e base w X l v csl) {p : Addr} (hp : p.block ∈ X) (u : Value) : Grow K e base (w.setCell p u) X l v csl := h.same (Y := X) (Kept.setCell w hp u) (fun b hb => hb)
theorem Grow.cut (h : Grow K e base w X l v csl) (hX : ∀ b ∈ X', b ∈ X) : Grow K e base w X' l v csl := h.to (Kept.refl w []) (fun b hb => by cases hb) (fun b hb => ⟨.inl (hX b hb), h.lt b (hX b hb)⟩)
/-- What an append to it writes: its own row. -/
theorem Grow.row (_h : Grow K e base w X l v csl) (hg : w.grownBy w' v.ownBlock) : Kept v.ownBlock.toList w w' := Kept.of_grown_own hg (fun b hb => by rw [hb]; simp)
/-- The row behind an append: in its old place, or new. -/
theorem own_next {w : World} {v v' : Value} (hv : v'.ownBlock = v.ownBlock ∨ v'.ownBlock = some w.heap.size) : ∀ b ∈ v'.ownBlock.toList, b ∈ v.ownBlock.toList ∨ w.heap.size ≤ b := by
  intro b hb
  rw [Option.mem_toList] at hb
  rcases hv with h | h
  · exact .inl (by rw [Option.mem_toList, ← h]; exact hb)
  · rw [h] at hb; injection hb with hb; exact .inr (by omega)
/-- One element more. -/
theorem Grow.push (h : Grow K e base w X l v csl) {x : α} {cs : List Value} (hR : K.R w (busy v X) x cs)
    (ho : w'.ownsRow base e K.sz v' (l.length + 1) (csl.flatten ++ cs)) (hg : w.grownBy w' v.ownBlock) (hv : v'.ownBlock = v.ownBlock ∨ v'.ownBlock = some w.heap.size) :
    Grow K e base w' X (l ++ [x]) v' (csl ++ [cs]) := by
  have hK := h.row hg
  have move : ∀ y c, K.R w (busy v X) y c → K.R w' (busy v' X) y c := fun y c hy => K.to hy hK (fun b hb => busy_mem.2 (.inl (by rw [Option.mem_toList] at hb; exact hb))) (fun b hb => by
    rcases busy_mem.1 hb with hm | hm
    · exact or_map (own_next hv b (by rw [Option.mem_toList]; exact hm)) (fun h1 => busy_mem.2 (.inl (by rw [Option.mem_toList] at h1; exact h1))) id
    · exact .inl (busy_mem.2 (.inr hm)))
  refine ⟨by rw [List.length_append, List.flatten_append, List.flatten_singleton]; exact ho, Nat.le_trans h.room hg.size, fun g hgb hm => ?_, fun b hb => Nat.lt_of_lt_of_le (h.lt b hb) hg.size, by rw [List.length_append, List.length_append, h.count]; rfl, fun i y c hy hc => ?_⟩
  · rcases hv with h1 | h1
    · exact h.apart g (by rw [← h1]; exact hgb) hm
    · rw [h1] at hgb; injection hgb with hgb; have := h.lt g hm; omega
  · rcases Nat.lt_or_ge i l.length with hi | hi
    · rw [List.getElem?_append_left hi] at hy
      rw [List.getElem?_append_left (by rw [h.count]; exact hi)] at hc
      exact move _ _ (h.elts i y c hy hc)
    · rw [List.getElem?_append_right hi] at hy
      rw [List.getElem?_append_right (by rw [h.count]; exact hi), h.count] at hc
      have hil : i - l.length = 0 := by
        have := (List.getElem?_eq_some_iff.1 hy).1; simp at this; exact this
      rw [hil] at hy hc
      injection hy with hy; injection hc with hc
      subst hy; subst hc
      exact move _ _ hR
/-- It is a slice like any other. -/
theorem Grow.slR (h : Grow K e base w X l v csl) : ∃ a cap, v = .slice a l.length cap ∧ SlR K w X l a l.length cap := by
  have hmx : maxLen = 9223372036854775807 := by decide
  have hel : ∀ (i : Nat) (x : α) (cs : List Value), l[i]? = some x → csl[i]? = some cs → K.R w X x cs := fun i x cs hx hc => K.less (h.elts i x cs hx hc) (fun b _ hm => busy_mem.2 (.inr hm))
  rcases h.own.2 with ⟨rfl, h00⟩ | ⟨g, capn, cur, hv, h1, h2, h3, h4, h5, h6⟩
  · have h1 : csl = [] := List.length_eq_zero_iff.1 (by rw [h.count, h00])
    subst h1
    refine ⟨none, 0, by rw [h00], [], by simpa using h00.symm, fun i x cs hx _ => hel i x cs hx ‹_›, ?_⟩
    rw [h00]
    exact Sl.nil _ _ _
  · subst hv
    refine ⟨_, capn, rfl, csl, h.count, hel, h.count, h3, by omega, fun hp => ⟨g, 0, rfl, lt_of_block h2, h.apart g rfl, fun i cs hi => ⟨h.len4 cs (List.mem_of_getElem? hi), fun j c hj => ?_⟩⟩⟩
    have h4' := h.len4 cs (List.mem_of_getElem? hi)
    have hjs : j < K.sz := by rw [← h4']; exact (List.getElem?_eq_some_iff.1 hj).1
    have hi' : i < l.length := by rw [← h.count]; exact (List.getElem?_eq_some_iff.1 hi).1
    rw [Nat.zero_add, h.own.cellAt (i * K.sz + j) (by calc i * K.sz + j < i * K.sz + K.sz := by omega
                                                          _ = (i + 1) * K.sz := by rw [Nat.add_mul]; omega
                                                          _ ≤ l.length * K.sz := Nat.mul_le_mul_right _ (by omega)), flat_get K.sz csl h.len4 i j cs hi hjs]
    exact hj
end
end Go.Proofs.Ytefpjdgfcgjbaaa

/- Objects beside each other in memory: each owns some blocks and stays what it is while the others are written. -/
namespace Go.Proofs.Ytefpjdgfcgjbaaa
set_option linter.unusedVariables false
set_option linter.unusedSimpArgs false
open Go.RowKit
/-- An object: the blocks that it owns, and what is said of the world, where nothing of it lies in the blocks of X. -/
structure Ob where
  own : List Nat
  P : World → List Nat → Prop
  st : ∀ {w w' : World} {X Y X' : List Nat}, P w X → Kept Y w w' → (∀ b ∈ Y, b ∈ X) → (∀ b ∈ X', (b ∈ X ∨ w.heap.size ≤ b) ∧ b < w'.heap.size) → P w' X'
  lt : ∀ {w : World} {X : List Nat}, P w X → ∀ b ∈ own, b < w.heap.size
def owns : List Ob → List Nat
  | [] => []
  | o :: t => o.own ++ owns t
def others (fam : List Ob) (i : Nat) : List Nat := (List.range fam.length).flatMap fun j => if j = i then [] else ((fam[j]?).map Ob.own).getD []
def Sep (w : World) (fam : List Ob) : Prop := ∀ (i : Nat) (o : Ob), fam[i]? = some o → o.P w (others fam i)
theorem mem_owns {fam : List Ob} {b : Nat} : b ∈ owns fam ↔ ∃ (j : Nat) (o : Ob), fam[j]? = some o ∧ b ∈ o.own := by
  induction fam with
  | nil => simp [owns]
  | cons x t ih =>
    rw [owns, List.mem_append, ih]
    constructor
    · rintro (h | ⟨j, o, hj, hb⟩)
      · exact ⟨0, x, rfl, h⟩
      · exact ⟨j + 1, o, by simpa using hj, hb⟩
    · rintro ⟨j, o, hj, hb⟩
      cases j with
      | zero => simp at hj; subst hj; exact .inl hb
      | succ j => exact .inr ⟨j, o, by simpa using hj, hb⟩
theorem mem_others {fam : List Ob} {i b : Nat} : b ∈ others fam i ↔ ∃ (j : Nat) (o : Ob), j ≠ i ∧ fam[j]? = some o ∧ b ∈ o.own := by
  unfold others
  rw [List.mem_flatMap]
  constructor
  · rintro ⟨j, hj, hb⟩
    split at hb
    · cases hb
    · rename_i hne
      cases ho : fam[j]? with
      | none => rw [ho] at hb; cases hb
      | some o => rw [ho] at hb; exact ⟨j, o, hne, ho, hb⟩
  · rintro ⟨j, o, hne, ho, hb⟩
    exact ⟨j, List.mem_range.2 (List.getElem?_eq_some_iff.1 ho).1, by rw [if_neg hne, ho]; exact hb⟩
section
variable {w w' : World} {fam : List Ob} {o o' : Ob} {i : Nat} {Y : List Nat}
theorem Sep.nil (w : World) : Sep w [] := fun i o h => by simp at h
theorem Sep.lt (h : Sep w fam) : ∀ b ∈ owns fam, b < w.heap.size := by
  intro b hb
  obtain ⟨j, o, hj, hb⟩ := mem_owns.1 hb
  exact o.lt (h j o hj) b hb
theorem Sep.at (h : Sep w fam) (i : Nat) {o : Ob} (hi : fam[i]? = some o) : o.P w (others fam i) := h i o hi
/-- All others stay, one turns. -/
theorem Sep.set_ (h : Sep w fam) (i : Nat) {o o' : Ob} (hi : fam[i]? = some o) (k : Kept Y w w') (hY : ∀ b ∈ Y, b ∈ o.own ∨ w.heap.size ≤ b) (hown : ∀ b ∈ o'.own, b ∈ o.own ∨ w.heap.size ≤ b) (hP : o'.P w' (others fam i)) : Sep w' (fam.set i o') := by
  have hil : i < fam.length := (List.getElem?_eq_some_iff.1 hi).1
  intro j oj hj
  by_cases hji : j = i
  · subst hji
    rw [List.getElem?_set_self hil] at hj
    injection hj with hj
    subst hj
    have e : others (fam.set j o') j = others fam j := by
      unfold others
      rw [List.length_set]
      congr 1
      funext k
      by_cases hk : k = j
      · rw [if_pos hk, if_pos hk]
      · rw [if_neg hk, if_neg hk, List.getElem?_set_ne (fun e => hk e.symm)]
    rw [e]
    exact hP
  · rw [List.getElem?_set_ne (fun e => hji e.symm)] at hj
    have hk' : Kept (Y.filter fun b => decide (b < w.heap.size)) w w' := ⟨k.1, fun b hb hx => k.2 b hb (fun hm => hx (List.mem_filter.2 ⟨hm, by simpa using hb⟩))⟩
    refine oj.st (h j oj hj) hk' (fun b hb => ?_) (fun b hb => ?_)
    · obtain ⟨h1, h2⟩ := List.mem_filter.1 hb
      rcases hY b h1 with h3 | h3
      · exact mem_others.2 ⟨i, o, fun e => hji e.symm, hi, h3⟩
      · simp at h2; omega
    · obtain ⟨m, om, hm, hom, hbm⟩ := mem_others.1 hb
      by_cases hmi : m = i
      · subst hmi
        rw [List.getElem?_set_self hil] at hom
        injection hom with hom
        subst hom
        exact ⟨or_map (hown b hbm) (fun h1 => mem_others.2 ⟨m, o, hm, hi, h1⟩) id, o'.lt hP b hbm⟩
      · rw [List.getElem?_set_ne (fun e => hmi e.symm)] at hom
        exact ⟨.inl (mem_others.2 ⟨m, om, hm, hom, hbm⟩), Nat.lt_of_lt_of_le (om.lt (h m om hom) b hbm) k.1⟩
/-- Nothing of them is written. -/
theorem Sep.kept (h : Sep w fam) (k : Kept [] w w') : Sep w' fam := by
  intro j oj hj
  refine oj.st (h j oj hj) k (fun b hb => by cases hb) (fun b hb => ⟨.inl hb, ?_⟩)
  obtain ⟨m, om, hm, hom, hbm⟩ := mem_others.1 hb
  exact Nat.lt_of_lt_of_le (om.lt (h m om hom) b hbm) k.1
theorem Sep.below (h : Sep w fam) (k : Below w.heap.size w w') : Sep w' fam := h.kept (Kept.of_below k [])
theorem Sep.drew (h : Sep w fam) : Sep w.drew fam := h.below (Below.refl _ _).drew
theorem Sep.alloc (h : Sep w fam) (ob : Obj) : Sep (w.alloc ob) fam := h.kept (Kept.alloc w ob [])
/-- Another one comes, in new blocks or in none. -/
theorem Sep.cons (h : Sep w fam) (k : Kept [] w w') (hown : ∀ b ∈ o.own, w.heap.size ≤ b) (hP : o.P w' (owns fam)) : Sep w' (o :: fam) := by
  intro j oj hj
  cases j with
  | zero =>
    simp at hj
    subst hj
    refine o.st hP (Kept.refl w' []) (fun b hb => by cases hb) (fun b hb => ?_)
    obtain ⟨m, om, hm, hom, hbm⟩ := mem_others.1 hb
    cases m with
    | zero => exact absurd rfl hm
    | succ m =>
      have hom' : fam[m]? = some om := by simpa using hom
      exact ⟨.inl (mem_owns.2 ⟨m, om, hom', hbm⟩), Nat.lt_of_lt_of_le (om.lt (h m om hom') b hbm) k.1⟩
  | succ j =>
    have hj' : fam[j]? = some oj := by simpa using hj
    refine oj.st (h j oj hj') k (fun b hb => by cases hb) (fun b hb => ?_)
    obtain ⟨m, om, hm, hom, hbm⟩ := mem_others.1 hb
    cases m with
    | zero =>
      simp at hom
      subst hom
      exact ⟨.inr (hown b hbm), o.lt hP b hbm⟩
    | succ m =>
      have hom' : fam[m]? = some om := by simpa using hom
      exact ⟨.inl (mem_others.2 ⟨m, om, fun e => hm (by rw [e]), hom', hbm⟩), Nat.lt_of_lt_of_le (om.lt (h m om hom') b hbm) k.1⟩
/-- One that owns nothing comes. -/
theorem Sep.add (h : Sep w fam) (hown : o.own = []) (hP : o.P w (owns fam)) : Sep w (o :: fam) := h.cons (Kept.refl w []) (fun b hb => by rw [hown] at hb; cases hb) hP
/-- One is left out of sight. -/
theorem Sep.drop (h : Sep w fam) (i : Nat) : Sep w (fam.eraseIdx i) := by
  intro j oj hj
  rw [List.getElem?_eraseIdx] at hj
  have key : ∀ m om, (fam.eraseIdx i)[m]? = some om → fam[if m < i then m else m + 1]? = some om := by
    intro m om hm
    rw [List.getElem?_eraseIdx] at hm
    by_cases hmi : m < i
    · rw [if_pos hmi] at hm ⊢; exact hm
    · rw [if_neg hmi] at hm ⊢; exact hm
  have hj' : fam[if j < i then j else j + 1]? = some oj := by
    by_cases hmi : j < i
    · rw [if_pos hmi] at hj ⊢; exact hj
    · rw [if_neg hmi] at hj ⊢; exact hj
  refine oj.st (h _ oj hj') (Kept.refl w []) (fun b hb => by cases hb) (fun b hb => ?_)
  obtain ⟨m, om, hm, hom, hbm⟩ := mem_others.1 hb
  have hom' := key m om hom
  refine ⟨.inl (mem_others.2 ⟨_, om, ?_, hom', hbm⟩), om.lt (h _ om hom') b hbm⟩
  intro e
  apply hm
  split at e <;> split at e <;> omega
/-- What owns nothing keeps out of all. -/
theorem Sep.all (h : Sep w fam) (i : Nat) {o : Ob} (hi : fam[i]? = some o) (ho : o.own = []) : o.P w (owns fam) := by
  refine o.st (h i o hi) (Kept.refl w []) (fun b hb => by cases hb) (fun b hb => ?_)
  refine ⟨?_, h.lt b hb⟩
  obtain ⟨m, om, hom, hbm⟩ := mem_owns.1 hb
  by_cases hm : m = i
  · subst hm
    rw [hi] at hom
    injection hom with hom
    subst hom
    rw [ho] at hbm
    cases hbm
  · exact .inl (mem_others.2 ⟨m, om, hm, hom, hbm⟩)
end
/-- A block of cells. -/
def bx (g : Nat) (t : TypeId) (cs : Array Value) : Ob where
  own := [g]
  P := fun w X => Mem.Blk w g t cs ∧ g ∉ X
  st := fun {w w' X Y X'} h k hY hX => ⟨(k.2 g h.1.lt (fun hm => h.2 (hY g hm))).trans h.1, fun hm => by
    rcases (hX g hm).1 with h1 | h1
    · exact h.2 h1
    · have := h.1.lt; omega⟩
  lt := fun h b hb => by rw [List.mem_singleton] at hb; subst hb; exact h.1.lt
/-- A slice that grows. -/
def gr {α : Type} (K : Elt α) (e : TypeId) (base : Nat) (l : List α) (v : Value) : Ob where
  own := v.ownBlock.toList
  P := fun w X => ∃ csl, Grow K e base w X l v csl
  st := fun h k hY hX => by obtain ⟨csl, h⟩ := h; exact ⟨csl, h.to k hY hX⟩
  lt := fun h b hb => by obtain ⟨csl, h⟩ := h; rw [Option.mem_toList] at hb; exact (h.blt hb).2
/-- What is only read: cells; a slice. -/
def im {α : Type} (K : Elt α) (x : α) (cs : List Value) : Ob where
  own := []
  P := fun w X => K.R w X x cs
  st := fun h k hY hX => K.to h k hY (fun b hb => (hX b hb).1)
  lt := fun _ b hb => by cases hb
def sl {α : Type} (K : Elt α) (l : List α) (a : Option Addr) (len cap : Nat) : Ob where
  own := []
  P := fun w X => SlR K w X l a len cap
  st := fun h k hY hX => h.to k hY (fun b hb => (hX b hb).1)
  lt := fun _ b hb => by cases hb
section
variable {α : Type} {K : Elt α} {e : TypeId} {base : Nat} {w w' w2 : World} {fam : List Ob} {l : List α} {v v' : Value} {g : Nat} {t : TypeId} {cs : Array Value} {csl : List (List Value)}
theorem Sep.blk (h : Sep w fam) (i : Nat) (hi : fam[i]? = some (bx g t cs)) : Mem.Blk w g t cs := (h.at i hi).1
/-- A new block. -/
theorem Sep.new (h : Sep w fam) (t : TypeId) (cs : Array Value) : Sep (w.alloc (.cells cs t)) (bx w.heap.size t cs :: fam) :=
  h.cons (o := bx w.heap.size t cs) (Kept.alloc w _ []) (fun b hb => by rw [show (bx w.heap.size t cs).own = [w.heap.size] from rfl, List.mem_singleton] at hb; omega) ⟨Mem.Blk.new w t cs, fun hm => by have := h.lt _ hm; omega⟩
/-- A store into a block. -/
theorem Sep.store (h : Sep w fam) (i : Nat) (hi : fam[i]? = some (bx g t cs)) (j : Nat) (u : Value) : Sep (w.setCell ⟨g, j, none⟩ u) (fam.set i (bx g t (cs.setIfInBounds j u))) :=
  h.set_ i hi (Kept.setCell w (X := [g]) (by simp) u) (fun b hb => .inl hb) (fun b hb => .inl hb) ⟨(h.at i hi).1.set_ j u, (h.at i hi).2⟩
/-- One element more. -/
theorem Sep.push (h : Sep w fam) (i : Nat) (hi : fam[i]? = some (gr K e base l v)) (hG : Grow K e base w (others fam i) l v csl) {x : α} {c : List Value} (hR : K.R w (owns fam) x c)
    (ho : w'.ownsRow base e K.sz v' (l.length + 1) (csl.flatten ++ c)) (hg : w.grownBy w' v.ownBlock) (hv : v'.ownBlock = v.ownBlock ∨ v'.ownBlock = some w.heap.size) : Sep w' (fam.set i (gr K e base (l ++ [x]) v')) := by
  refine h.set_ i hi (hG.row hg) (fun b hb => .inl hb) (own_next hv) ⟨_, hG.push (K.less hR (fun b _ hm => ?_)) ho hg hv⟩
  rcases busy_mem.1 hm with h1 | h1
  · exact mem_owns.2 ⟨i, _, hi, by show b ∈ v.ownBlock.toList; rw [Option.mem_toList]; exact h1⟩
  · obtain ⟨m, om, _, hom, hbm⟩ := mem_others.1 h1
    exact mem_owns.2 ⟨m, om, hom, hbm⟩
/-- A slice that no longer grows. -/
theorem Sep.still (h : Sep w fam) (i : Nat) (hi : fam[i]? = some (gr K e base l v)) : ∃ a cap, v = .slice a l.length cap ∧ SlR K w (others fam i) l a l.length cap := by
  obtain ⟨csl, hG⟩ := h.at i hi
  exact hG.slR
end
end Go.Proofs.Ytefpjdgfcgjbaaa

/- What a call that writes the blocks of X leaves: all other blocks stay. -/
namespace Go.Proofs.Ytefpjdgfcgjbaaa
set_option linter.unusedVariables false
set_option linter.unusedSimpArgs false
open Go.RowKit
structure Fr (X : List Nat) (w w' : World) : Prop where
  os : w'.os = w.os
  tape : w'.tape = w.tape
  output : w'.output = w.output
  kept : Kept X w w'
section
variable {X X' : List Nat} {w w' w'' : World}
theorem Fr.refl (X : List Nat) (w : World) : Fr X w w := ⟨rfl, rfl, rfl, Kept.refl w X⟩
theorem Fr.trans (h : Fr X w w') (k : Fr X w' w'') : Fr X w w'' := ⟨k.os.trans h.os, k.tape.trans h.tape, k.output.trans h.output, h.kept.trans k.kept⟩
theorem Fr.more (h : Fr X w w') (hX : ∀ b, b ∈ X → b ∈ X') : Fr X' w w' := ⟨h.os, h.tape, h.output, h.kept.more hX⟩
theorem Fr.of_below (h : Below w.heap.size w w') (X : List Nat) : Fr X w w' := ⟨h.os, h.tape, h.output, Kept.of_below h X⟩
theorem Fr.alloc (w : World) (o : Obj) (X : List Nat) : Fr X w (w.alloc o) := .of_below ((Below.refl _ w).alloc (Nat.le_refl _) o) X
theorem Fr.drew (w : World) (X : List Nat) : Fr X w w.drew := .of_below (Below.refl _ w).drew X
theorem Fr.of_grown {g : Nat} (h : w.grownBy w' (some g)) (hg : g ∈ X) : Fr X w w' :=
  have b : Below 0 w w' := (Below.refl 0 w).grown h (Nat.zero_le _) (fun _ _ => Nat.zero_le _)
  ⟨b.os, b.tape, b.output, Kept.of_grown h hg⟩
theorem Fr.setCell (w : World) {p : Addr} (hp : p.block ∈ X) (v : Value) : Fr X w (w.setCell p v) :=
  have b : Below 0 w (w.setCell p v) := (Below.refl 0 w).setCell (Nat.zero_le _) v
  ⟨b.os, b.tape, b.output, Kept.setCell w hp v⟩
theorem Fr.size (h : Fr X w w') : w.heap.size ≤ w'.heap.size := h.kept.1
theorem Fr.below {B : Nat} (h : Fr X w w') (hB : B ≤ w.heap.size) (hX : ∀ b ∈ X, B ≤ b) : Below B w w' :=
  ⟨h.os, h.tape, h.output, h.kept.1, fun k hk => h.kept.2 k (by omega) (fun hm => by have := hX k hm; omega)⟩
/-- What was written in new blocks is nothing. -/
theorem Fr.fresh (h : Fr X w w') (hX : ∀ b ∈ X, b ∈ X' ∨ w.heap.size ≤ b) : Fr X' w w' :=
  ⟨h.os, h.tape, h.output, h.kept.1, fun b hb hx => h.kept.2 b hb (fun hm => (hX b hm).elim hx (fun h1 => by omega))⟩
theorem Fr.blk {g : Nat} {t : TypeId} {cs : Array Value} (h : Fr X w w') (hB : Mem.Blk w g t cs) (hg : g ∉ X) : Mem.Blk w' g t cs := (h.kept.2 g hB.lt hg).trans hB
theorem Fr.map {H : Type} {P : Program} {k : TypeId} {R : Value → Option (DataW H × List MemPlace)} {b n : Nat} {D : DataW H} (h : Fr X w w') (hM : w.ownsMap P k R b n D) (hg : b ∉ X) : w'.ownsMap P k R b n D := by
  have hlt := hM.lt
  obtain ⟨es, clock, hb, r⟩ := hM
  exact ⟨es, clock, (h.kept.2 b hlt hg).trans hb, r⟩
theorem Fr.cell {p : Addr} {v : Value} (h : Fr X w w') (hc : w.cell? p = some v) (hg : p.block ∉ X) : w'.cell? p = some v := by
  have hlt : p.block < w.heap.size := by
    rcases Nat.lt_or_ge p.block w.heap.size with h1 | h1
    · exact h1
    · have : w.heap[p.block]? = none := Array.getElem?_eq_none h1
      simp [World.cell?, this] at hc
  rw [World.cell?_of_block (w := w) (h.kept.2 p.block hlt hg)]; exact hc
end
end Go.Proofs.Ytefpjdgfcgjbaaa

/- Four cells of a block; what is stored where an answer lies. -/
namespace Go.Proofs.Ytefpjdgfcgjbaaa
set_option linter.unusedVariables false
set_option linter.unusedSimpArgs false
open Go.RowKit
theorem blk4 {w : World} {g : Nat} {t : TypeId} {a b c d : Value} (h : Mem.Blk w g t #[a, b, c, d]) : w.cell? ⟨g, 0, none⟩ = some a ∧ w.cell? ⟨g, 1, none⟩ = some b ∧ w.cell? ⟨g, 2, none⟩ = some c ∧ w.cell? ⟨g, 3, none⟩ = some d ∧
    w.frozen? ⟨g, 0, none⟩ = false ∧ w.frozen? ⟨g, 1, none⟩ = false ∧ w.frozen? ⟨g, 2, none⟩ = false ∧ w.frozen? ⟨g, 3, none⟩ = false :=
  ⟨h.cell 0, h.cell 1, h.cell 2, h.cell 3, h.frozen 0, h.frozen 1, h.frozen 2, h.frozen 3⟩
/-- What is stored where the answer lies. -/
theorem simp_fin {w wr : World} {X : List Nat} {t : Te} {ty : TypeId} {b0 b1 b2 b3 c0 c1 c2 c3 : Value} (hb : Below w.heap.size w wr) (hB : Mem.Blk wr (w.heap.size + 1) ty #[b0, b1, b2, b3]) (hR : RepT wr ((w.heap.size + 1) :: X) t [c0, c1, c2, c3]) :
    RepT ((((wr.setCell ⟨w.heap.size + 1, 0, none⟩ c0).setCell ⟨w.heap.size + 1, 1, none⟩ c1).setCell ⟨w.heap.size + 1, 2, none⟩ c2).setCell ⟨w.heap.size + 1, 3, none⟩ c3) X t [c0, c1, c2, c3] ∧
    Below w.heap.size w ((((wr.setCell ⟨w.heap.size + 1, 0, none⟩ c0).setCell ⟨w.heap.size + 1, 1, none⟩ c1).setCell ⟨w.heap.size + 1, 2, none⟩ c2).setCell ⟨w.heap.size + 1, 3, none⟩ c3) ∧
    Mem.Blk ((((wr.setCell ⟨w.heap.size + 1, 0, none⟩ c0).setCell ⟨w.heap.size + 1, 1, none⟩ c1).setCell ⟨w.heap.size + 1, 2, none⟩ c2).setCell ⟨w.heap.size + 1, 3, none⟩ c3) (w.heap.size + 1) ty #[c0, c1, c2, c3] := by
  have h1 : w.heap.size ≤ w.heap.size + 1 := by omega
  have k4 : Kept ((w.heap.size + 1) :: X) wr ((((wr.setCell ⟨w.heap.size + 1, 0, none⟩ c0).setCell ⟨w.heap.size + 1, 1, none⟩ c1).setCell ⟨w.heap.size + 1, 2, none⟩ c2).setCell ⟨w.heap.size + 1, 3, none⟩ c3) :=
    (((Kept.setCell wr (by simp) _).trans (Kept.setCell _ (by simp) _)).trans (Kept.setCell _ (by simp) _)).trans (Kept.setCell _ (by simp) _)
  exact ⟨(hR.kept k4).less (fun b _ hm => List.mem_cons_of_mem _ hm), (((hb.setCell h1 _).setCell h1 _).setCell h1 _).setCell h1 _, (((hB.set_ 0 _).set_ 1 _).set_ 2 _).set_ 3 _⟩
end Go.Proofs.Ytefpjdgfcgjbaaa

/- A literal's block as a slice. -/
namespace Go.Proofs.Ytefpjdgfcgjbaaa
set_option linter.unusedVariables false
set_option linter.unusedSimpArgs false
open Go.RowKit
theorem RepE.free {w : World} {X : List Nat} {e : Ex} {cs : List Value} (h : RepE w X e cs) : RepE w [] e cs := h.less (fun _ _ hm => absurd hm List.not_mem_nil)
theorem RepT.free {w : World} {X : List Nat} {e : Te} {cs : List Value} (h : RepT w X e cs) : RepT w [] e cs := h.less (fun _ _ hm => absurd hm List.not_mem_nil)
theorem SlR.free {α : Type} {K : Elt α} {w : World} {X : List Nat} {l : List α} {a : Option Addr} {len cap : Nat} (h : SlR K w X l a len cap) : SlR K w [] l a len cap := h.less (fun _ _ hm => absurd hm List.not_mem_nil)
theorem SlR.lit {α : Type} {K : Elt α} {w : World} {X : List Nat} {g : Nat} {ty : TypeId} {cs : Array Value} {l : List α} (csl : List (List Value)) (hB : Mem.Blk w g ty cs) (hg : g ∉ X) (hf : cs.toList = csl.flatten) (hc : csl.length = l.length)
    (he : ∀ (i : Nat) x c, l[i]? = some x → csl[i]? = some c → K.R w X x c) (n : Nat) (hn : l.length = n) (hm : n ≤ 9223372036854775807) : SlR K w X l (some ⟨g, 0, none⟩) n n := by
  subst hn
  have h4 : ∀ c ∈ csl, c.length = K.sz := by
    intro c hcm
    obtain ⟨i, hi, rfl⟩ := List.getElem_of_mem hcm
    exact (K.one (he i _ _ (List.getElem?_eq_getElem (by omega)) (List.getElem?_eq_getElem hi))).1
  refine ⟨csl, hc, he, hc, Nat.le_refl _, hm, fun _ => ⟨g, 0, rfl, hB.lt, hg, fun i c hi => ?_⟩⟩
  have hl := h4 c (List.mem_of_getElem? hi)
  refine ⟨hl, fun j u hj => ?_⟩
  have hjs : j < K.sz := by rw [← hl]; exact (List.getElem?_eq_some_iff.1 hj).1
  rw [Nat.zero_add, hB.cell, ← Array.getElem?_toList, hf, flat_get K.sz csl h4 i j c hi hjs]
  exact hj
/-- One element. -/
theorem SlR.lit1 {α : Type} {K : Elt α} {w : World} {X : List Nat} {g : Nat} {ty : TypeId} {c : List Value} {x : α} (hB : Mem.Blk w g ty c.toArray) (hg : g ∉ X) (h : K.R w X x c) : SlR K w X [x] (some ⟨g, 0, none⟩) 1 1 := by
  refine SlR.lit (l := [x]) [c] hB hg (by simp) rfl (fun i y d hy hd => ?_) 1 rfl (by decide)
  match i, hy, hd with
  | 0, hy, hd => simp at hy hd; subst hy; subst hd; exact h
  | k + 1, hy, _ => simp at hy
theorem SlR.lit2 {α : Type} {K : Elt α} {w : World} {X : List Nat} {g : Nat} {ty : TypeId} {c d : List Value} {x y : α} {cs : Array Value} (hB : Mem.Blk w g ty cs) (hcs : cs.toList = c ++ d) (hg : g ∉ X) (h : K.R w X x c) (h' : K.R w X y d) : SlR K w X [x, y] (some ⟨g, 0, none⟩) 2 2 := by
  refine SlR.lit (l := [x, y]) [c, d] hB hg (by simpa using hcs) rfl (fun i z e hy hd => ?_) 2 rfl (by decide)
  match i, hy, hd with
  | 0, hy, hd => simp at hy hd; subst hy; subst hd; exact h
  | 1, hy, hd => simp at hy hd; subst hy; subst hd; exact h'
  | k + 2, hy, _ => simp at hy
/-- Four cells are stored where an answer lies; what is answered keeps out of there. -/
theorem ret4E {w w1 : World} {g : Nat} {X : List Nat} {ty : TypeId} {e : Ex} {b0 b1 b2 b3 c0 c1 c2 c3 : Value} (hb : Below w.heap.size w w1) (hg : w.heap.size ≤ g) (hB : Mem.Blk w1 g ty #[b0, b1, b2, b3]) (hR : RepE w1 (g :: X) e [c0, c1, c2, c3]) :
    RepE ((((w1.setCell ⟨g, 0, none⟩ c0).setCell ⟨g, 1, none⟩ c1).setCell ⟨g, 2, none⟩ c2).setCell ⟨g, 3, none⟩ c3) X e [c0, c1, c2, c3] ∧ Below w.heap.size w ((((w1.setCell ⟨g, 0, none⟩ c0).setCell ⟨g, 1, none⟩ c1).setCell ⟨g, 2, none⟩ c2).setCell ⟨g, 3, none⟩ c3) ∧
    Mem.Blk ((((w1.setCell ⟨g, 0, none⟩ c0).setCell ⟨g, 1, none⟩ c1).setCell ⟨g, 2, none⟩ c2).setCell ⟨g, 3, none⟩ c3) g ty #[c0, c1, c2, c3] := by
  have k4 : Kept (g :: X) w1 ((((w1.setCell ⟨g, 0, none⟩ c0).setCell ⟨g, 1, none⟩ c1).setCell ⟨g, 2, none⟩ c2).setCell ⟨g, 3, none⟩ c3) := (((Kept.setCell w1 (by simp) _).trans (Kept.setCell _ (by simp) _)).trans (Kept.setCell _ (by simp) _)).trans (Kept.setCell _ (by simp) _)
  exact ⟨(hR.kept k4).less (fun b _ hm => List.mem_cons_of_mem _ hm), (((hb.setCell hg _).setCell hg _).setCell hg _).setCell hg _, (((hB.set_ 0 _).set_ 1 _).set_ 2 _).set_ 3 _⟩
theorem ret4T {w w1 : World} {g : Nat} {X : List Nat} {ty : TypeId} {e : Te} {b0 b1 b2 b3 c0 c1 c2 c3 : Value} (hb : Below w.heap.size w w1) (hg : w.heap.size ≤ g) (hB : Mem.Blk w1 g ty #[b0, b1, b2, b3]) (hR : RepT w1 (g :: X) e [c0, c1, c2, c3]) :
    RepT ((((w1.setCell ⟨g, 0, none⟩ c0).setCell ⟨g, 1, none⟩ c1).setCell ⟨g, 2, none⟩ c2).setCell ⟨g, 3, none⟩ c3) X e [c0, c1, c2, c3] ∧ Below w.heap.size w ((((w1.setCell ⟨g, 0, none⟩ c0).setCell ⟨g, 1, none⟩ c1).setCell ⟨g, 2, none⟩ c2).setCell ⟨g, 3, none⟩ c3) ∧
    Mem.Blk ((((w1.setCell ⟨g, 0, none⟩ c0).setCell ⟨g, 1, none⟩ c1).setCell ⟨g, 2, none⟩ c2).setCell ⟨g, 3, none⟩ c3) g ty #[c0, c1, c2, c3] := by
  have k4 : Kept (g :: X) w1 ((((w1.setCell ⟨g, 0, none⟩ c0).setCell ⟨g, 1, none⟩ c1).setCell ⟨g, 2, none⟩ c2).setCell ⟨g, 3, none⟩ c3) := (((Kept.setCell w1 (by simp) _).trans (Kept.setCell _ (by simp) _)).trans (Kept.setCell _ (by simp) _)).trans (Kept.setCell _ (by simp) _)
  exact ⟨(hR.kept k4).less (fun b _ hm => List.mem_cons_of_mem _ hm), (((hb.setCell hg _).setCell hg _).setCell hg _).setCell hg _, (((hB.set_ 0 _).set_ 1 _).set_ 2 _).set_ 3 _⟩
end Go.Proofs.Ytefpjdgfcgjbaaa

/- Slices of texts, read as bytes. -/
namespace Go.Proofs.Ytefpjdgfcgjbaaa
set_option linter.unusedVariables false
set_option linter.unusedSimpArgs false
open Go.RowKit
/-- A text as its bytes. -/
def strK : Elt (List UInt8) where
  sz := 1
  pos := by decide
  R := fun _ _ s cs => cs = [encStr s]
  kept := fun h _ => h
  less := fun h _ => h
  one := fun h => by subst h; exact ⟨rfl, by simp [encStr, Value.oneCell']⟩
theorem below_dN {B : Nat} {a w : World} (h : Below B a w) (n : Nat) : Below B a (w.drewN n) := ⟨h.os, h.tape, h.output, h.size, h.block⟩
end Go.Proofs.Ytefpjdgfcgjbaaa

/- A disk's files and the map that holds them: plain. -/
namespace Go.Proofs.Ytefpjdgfcgjbaaa
set_option linter.unusedVariables false
set_option linter.unusedSimpArgs false
open Go.RowKit
abbrev Nm := List UInt8
structure Fi where
  name : Nm
  data : ByteArray
  safe : Nat
  blk : Nat
def findF (fs : List Fi) (t : Nm) : Option Fi := fs.find? (fun f => f.name == t)
def insF (f : Fi) : List Fi → List Fi
  | [] => [f]
  | g :: t => if f.name < g.name then f :: g :: t else g :: insF f t
def delF (t : Nm) (fs : List Fi) : List Fi := fs.filter (fun f => !(f.name == t))
def updF (t : Nm) (h : Fi → Fi) (fs : List Fi) : List Fi := fs.map (fun f => if f.name == t then h f else f)
def sumD (fs : List Fi) : Nat := (fs.map (fun f => f.data.size)).sum
def UpF (fs : List Fi) : Prop := fs.Pairwise (fun f g => f.name < g.name)
theorem findF_mem {fs : List Fi} {t : Nm} {f : Fi} (h : findF fs t = some f) : f ∈ fs ∧ f.name = t := by
  unfold findF at h
  exact ⟨List.mem_of_find?_eq_some h, by have := List.find?_some h; simpa using this⟩
theorem findF_none {fs : List Fi} {t : Nm} (h : findF fs t = none) : ∀ f ∈ fs, f.name ≠ t := by
  unfold findF at h
  intro f hf
  have := List.find?_eq_none.1 h f hf
  simpa using this
theorem findF_of {fs : List Fi} (hu : UpF fs) {f : Fi} (hf : f ∈ fs) : findF fs f.name = some f := by
  cases h : findF fs f.name with
  | none => exact absurd rfl (findF_none h f hf)
  | some g =>
    obtain ⟨h1, h2⟩ := findF_mem h
    congr 1
    exact up_inj hu h1 hf h2
where
  up_inj {fs : List Fi} (hu : UpF fs) {f g : Fi} (hf : f ∈ fs) (hg : g ∈ fs) (e : f.name = g.name) : f = g := by
    induction fs with
    | nil => cases hf
    | cons x t ih =>
      unfold UpF at hu
      rw [List.pairwise_cons] at hu
      rcases List.mem_cons.1 hf with h1 | h1
      · rcases List.mem_cons.1 hg with h2 | h2
        · rw [h1, h2]
        · have h3 := hu.1 g h2
          rw [← h1, e] at h3
          exact absurd h3 (List.lt_irrefl _)
      · rcases List.mem_cons.1 hg with h2 | h2
        · have h3 := hu.1 f h1
          rw [← h2, ← e] at h3
          exact absurd h3 (List.lt_irrefl _)
        · exact ih hu.2 h1 h2
theorem insF_perm (f : Fi) : ∀ fs : List Fi, (insF f fs).Perm (f :: fs)
  | [] => .refl _
  | g :: t => by
    unfold insF
    split
    · exact .refl _
    · exact ((insF_perm f t).cons g).trans (.swap ..)
theorem mem_insF {f x : Fi} {fs : List Fi} : x ∈ insF f fs ↔ x = f ∨ x ∈ fs := by rw [(insF_perm f fs).mem_iff, List.mem_cons]
theorem insF_up {f : Fi} {fs : List Fi} (h : UpF fs) (hn : ∀ g ∈ fs, g.name ≠ f.name) : UpF (insF f fs) := by
  unfold UpF at h ⊢
  induction fs with
  | nil => exact List.pairwise_singleton ..
  | cons g t ih =>
    rw [List.pairwise_cons] at h
    unfold insF
    by_cases hlt : f.name < g.name
    · rw [if_pos hlt, List.pairwise_cons, List.pairwise_cons]
      refine ⟨fun y hy => ?_, h⟩
      rcases List.mem_cons.1 hy with rfl | hy
      · exact hlt
      · exact List.lt_trans hlt (h.1 y hy)
    · rw [if_neg hlt, List.pairwise_cons]
      have hgf : g.name < f.name := by
        by_cases h1 : g.name < f.name
        · exact h1
        · exact absurd (List.le_antisymm (List.not_lt.1 hlt) (List.not_lt.1 h1)) (hn g (List.mem_cons_self ..))
      refine ⟨fun y hy => ?_, ih h.2 (fun x hx => hn x (List.mem_cons_of_mem _ hx))⟩
      rcases mem_insF.1 hy with rfl | hy
      · exact hgf
      · exact h.1 y hy
theorem delF_up {t : Nm} {fs : List Fi} (h : UpF fs) : UpF (delF t fs) := List.Pairwise.filter _ h
theorem mem_delF {t : Nm} {fs : List Fi} {f : Fi} : f ∈ delF t fs ↔ f ∈ fs ∧ f.name ≠ t := by unfold delF; rw [List.mem_filter]; simp
theorem updF_up {t : Nm} {h : Fi → Fi} {fs : List Fi} (hu : UpF fs) (hh : ∀ f, (h f).name = f.name) : UpF (updF t h fs) := by
  unfold UpF updF at *
  rw [List.pairwise_map]
  refine hu.imp (fun {f g} hlt => ?_)
  have e : ∀ x : Fi, (if x.name == t then h x else x).name = x.name := fun x => by split <;> simp [hh]
  rw [e, e]; exact hlt
theorem findF_ins {f : Fi} {fs : List Fi} {t : Nm} (hu : UpF fs) (hn : ∀ g ∈ fs, g.name ≠ f.name) : findF (insF f fs) t = if f.name = t then some f else findF fs t := by
  by_cases h : f.name = t
  · rw [if_pos h, ← h]
    exact findF_of (insF_up hu hn) (mem_insF.2 (.inl rfl))
  · rw [if_neg h]
    cases hx : findF fs t with
    | some g =>
      obtain ⟨h1, h2⟩ := findF_mem hx
      rw [← h2]
      exact findF_of (insF_up hu hn) (mem_insF.2 (.inr h1))
    | none =>
      cases hy : findF (insF f fs) t with
      | none => rfl
      | some g =>
        obtain ⟨h1, h2⟩ := findF_mem hy
        rcases mem_insF.1 h1 with rfl | h1
        · exact absurd h2 h
        · exact absurd h2 (findF_none hx g h1)
theorem findF_del {fs : List Fi} {s t : Nm} (hu : UpF fs) : findF (delF s fs) t = if s = t then none else findF fs t := by
  by_cases h : s = t
  · subst h
    rw [if_pos rfl]
    cases hx : findF (delF s fs) s with
    | none => rfl
    | some g =>
      obtain ⟨h1, h2⟩ := findF_mem hx
      exact absurd h2 (mem_delF.1 h1).2
  · rw [if_neg h]
    cases hx : findF fs t with
    | some g =>
      obtain ⟨h1, h2⟩ := findF_mem hx
      rw [← h2]
      exact findF_of (delF_up hu) (mem_delF.2 ⟨h1, by rw [h2]; exact fun e => h e.symm⟩)
    | none =>
      cases hy : findF (delF s fs) t with
      | none => rfl
      | some g =>
        obtain ⟨h1, h2⟩ := findF_mem hy
        exact absurd h2 (findF_none hx g (mem_delF.1 h1).1)
theorem findF_upd {fs : List Fi} {s t : Nm} {h : Fi → Fi} (hh : ∀ f, (h f).name = f.name) : findF (updF s h fs) t = (findF fs t).map (fun f => if f.name == s then h f else f) := by
  unfold findF updF
  induction fs with
  | nil => rfl
  | cons f l ih =>
    rw [List.map_cons, List.find?_cons, List.find?_cons]
    have e : ((if f.name == s then h f else f).name == t) = (f.name == t) := by split <;> simp [hh]
    rw [e]
    cases f.name == t
    · exact ih
    · rfl
/-- The datum of a map reads as these files: the name, and where the file lies. -/
def litB (b : Nat) : DataW Unit := .lit (.int .i64 b)
def MapOf (fs : List Fi) (D : DataW Unit) : Prop := ∃ es, D = .map es ∧ es.Perm (fs.map (fun f => (Lit.string f.name, litB f.blk)))
theorem key_str (t : Nm) : WideAt.IsKeyLit (Lit.string t) := by simp [WideAt.IsKeyLit]
theorem same_str (s t : Nm) : (Lit.string s).sameKey (Lit.string t) = (s == t) := by
  cases h : (Lit.string s).sameKey (Lit.string t) with
  | true => have := WideAt.sameKey_eq h; injection this with this; subst this; simp
  | false =>
    cases h2 : s == t with
    | false => rfl
    | true =>
      have e : s = t := by simpa using h2
      subst e
      rw [WideAt.sameKey_self (key_str s)] at h; cases h
theorem MapOf.nil : MapOf [] (.map []) := ⟨[], rfl, .refl _⟩
theorem MapOf.has {fs : List Fi} {D : DataW Unit} (h : MapOf fs D) (t : Nm) : Maps.has D (.string t) = (findF fs t).isSome := by
  obtain ⟨es, rfl, hp⟩ := h
  show es.any (fun p => p.1.sameKey (.string t)) = _
  rw [hp.any_eq, List.any_map]
  unfold findF
  rw [List.isSome_find?]
  first | rfl | (congr 1; funext f; exact same_str _ _)
theorem MapOf.size {fs : List Fi} {D : DataW Unit} (h : MapOf fs D) : Maps.size D = fs.length := by
  obtain ⟨es, rfl, hp⟩ := h
  show es.length = _
  rw [hp.length_eq, List.length_map]
theorem MapOf.keys {fs : List Fi} {D : DataW Unit} (h : MapOf fs D) : (Go.strKeys D).Perm (fs.map (fun f => f.name)) := by
  obtain ⟨es, rfl, hp⟩ := h
  show (es.map (fun p => Go.strOf p.1)).Perm _
  refine (hp.map _).trans ?_
  rw [List.map_map]
  exact .refl _
theorem MapOf.at_some {fs : List Fi} {D : DataW Unit} (h : MapOf fs D) (hu : UpF fs) {t : Nm} {f : Fi} (hf : findF fs t = some f) (z : DataW Unit) : D.atKey (.string t) z = litB f.blk := by
  obtain ⟨es, rfl, hp⟩ := h
  obtain ⟨h1, h2⟩ := findF_mem hf
  simp only [DataW.atKey]
  have hm : (Lit.string t, litB f.blk) ∈ es := hp.mem_iff.2 (List.mem_map.2 ⟨f, h1, by rw [h2]⟩)
  cases hx : es.find? (fun p => p.1.sameKey (.string t)) with
  | none =>
    have := List.find?_eq_none.1 hx _ hm
    rw [WideAt.sameKey_self (key_str t)] at this
    exact absurd rfl this
  | some q =>
    have hq := List.mem_of_find?_eq_some hx
    have hk := List.find?_some hx
    obtain ⟨g, hg, rfl⟩ := List.mem_map.1 (hp.mem_iff.1 hq)
    rw [same_str] at hk
    have e : g.name = t := by simpa using hk
    have := findF_of hu hg
    rw [e, hf] at this
    injection this with this
    subst this; rfl
theorem MapOf.at_none {fs : List Fi} {D : DataW Unit} (h : MapOf fs D) {t : Nm} (hf : findF fs t = none) (z : DataW Unit) : D.atKey (.string t) z = z :=
  Maps.atKey_of_not_has (by rw [h.has, hf]; rfl) z
theorem MapOf.del {fs : List Fi} {D : DataW Unit} (h : MapOf fs D) (t : Nm) : MapOf (delF t fs) (D.del (.string t)) := by
  obtain ⟨es, rfl, hp⟩ := h
  refine ⟨es.filter (fun p => !p.1.sameKey (.string t)), rfl, (hp.filter _).trans ?_⟩
  rw [List.filter_map]
  unfold delF
  have e : ((fun p : Lit × DataW Unit => !p.1.sameKey (.string t)) ∘ fun f : Fi => (Lit.string f.name, litB f.blk)) = fun f : Fi => !(f.name == t) := by
    funext f
    show (!(Lit.string f.name).sameKey (.string t)) = _
    rw [same_str]
  rw [e]
theorem MapOf.put {fs fs' : List Fi} {D : DataW Unit} (h : MapOf fs D) {f : Fi} (hp' : fs'.Perm (f :: delF f.name fs)) : MapOf fs' (D.put (.string f.name) (litB f.blk)) := by
  obtain ⟨es, rfl, hp⟩ := h
  refine ⟨_, rfl, (WideShapes.insert_perm (Lit.string f.name, litB f.blk) _).trans ?_⟩
  obtain ⟨es2, he2, hq⟩ := MapOf.del ⟨es, rfl, hp⟩ f.name
  have e : es2 = es.filter (fun p => !p.1.sameKey (.string f.name)) := by
    have h2 : (DataW.map es).del (.string f.name) = .map (es.filter (fun p => !p.1.sameKey (.string f.name))) := rfl
    rw [h2] at he2
    injection he2 with he2; exact he2.symm
  rw [← e]
  refine (hq.cons _).trans ?_
  refine List.Perm.trans ?_ (hp'.map _).symm
  rw [List.map_cons]
theorem delF_none {fs : List Fi} {t : Nm} (h : findF fs t = none) : delF t fs = fs := by
  unfold delF
  refine List.filter_eq_self.2 (fun f hf => ?_)
  have := findF_none h f hf
  simpa using this
theorem delF_perm {fs : List Fi} (hu : UpF fs) {f : Fi} (hf : f ∈ fs) : fs.Perm (f :: delF f.name fs) := by
  induction fs with
  | nil => cases hf
  | cons x t ih =>
    have hu' := hu
    unfold UpF at hu
    rw [List.pairwise_cons] at hu
    by_cases hx : x.name = f.name
    · obtain rfl : x = f := findF_of.up_inj hu' (List.mem_cons_self ..) hf hx
      have e : delF x.name (x :: t) = t := by
        unfold delF
        rw [List.filter_cons]
        simp only [beq_self_eq_true, Bool.not_true, Bool.false_eq_true, if_false]
        refine List.filter_eq_self.2 (fun g hg => ?_)
        have h1 := hu.1 g hg
        have : g.name ≠ x.name := fun e => List.lt_irrefl _ (e ▸ h1)
        simpa using this
      rw [e]
    · have hft : f ∈ t := (List.mem_cons.1 hf).resolve_left (fun e => hx (by rw [e]))
      have e : delF f.name (x :: t) = x :: delF f.name t := by
        unfold delF
        rw [List.filter_cons]
        have : (x.name == f.name) = false := by simpa using hx
        rw [this]; rfl
      rw [e]
      exact ((ih hu.2 hft).cons x).trans (.swap ..)
theorem sumD_perm {a b : List Fi} (h : a.Perm b) : sumD a = sumD b := (h.map _).sum_nat
theorem sumD_cons (f : Fi) (t : List Fi) : sumD (f :: t) = f.data.size + sumD t := by unfold sumD; rw [List.map_cons, List.sum_cons]
end Go.Proofs.Ytefpjdgfcgjbaaa

/- A disk in memory; what a call leaves of it. -/
namespace Go.Proofs.Ytefpjdgfcgjbaaa
set_option linter.unusedVariables false
set_option linter.unusedSimpArgs false
open Go.RowKit
structure St where
  room : Int
  used : Int
  written : Int
  calls : Int
  left : Int
  off : Bool
  armed : Bool
  fs : List Fi
  mb : Nat
  mn : Nat
def dkC (s : St) : Array Value := #[.int .i64 s.room, .map (some s.mb), .int .i64 s.used, .int .i64 s.written, .int .i64 s.calls, .bool s.off, .bool s.armed, .int .i64 s.left]
/-- How a pointer to a file reads: as where it lies. -/
def ptrR : Value → Option (DataW Unit × List MemPlace)
  | .pointer none => some (.nil, [])
  | .pointer (some ⟨b, 0, none⟩) => some (litB b, [])
  | _ => none
theorem ptrR_inv {v : Value} {b : Nat} {ps : List MemPlace} (h : ptrR v = some (litB b, ps)) : v = .pointer (some ⟨b, 0, none⟩) := by
  unfold ptrR at h
  split at h
  · injection h with h; injection h with h _; cases h
  · injection h with h; injection h with h _
    unfold litB at h
    injection h with h; injection h with _ h
    have h2 := Int.ofNat_inj.1 h
    subst h2; rfl
  · cases h
theorem ptrR_nil {v : Value} {ps : List MemPlace} (h : ptrR v = some (.nil, ps)) : v = .pointer none := by
  unfold ptrR at h
  split at h
  · rfl
  · injection h with h; injection h with h _; cases h
  · cases h
def flC (f : Fi) : Array Value := #[.string f.data, .int .i64 (f.safe : Nat)]
def dks (p : Nat) (s : St) : List Nat := p :: s.mb :: s.fs.map (fun f => f.blk)
/-- What is right of a disk, whatever its memory. -/
structure StOk (s : St) : Prop where
  one : (s.fs.map (fun f => f.blk)).Nodup
  up : UpF s.fs
  nam : ∀ f ∈ s.fs, 1 ≤ f.name.length ∧ f.name.length ≤ 24
  siz : ∀ f ∈ s.fs, f.data.size ≤ 1048576 ∧ f.safe ≤ f.data.size
  use : s.used = (sumD s.fs : Nat)
  rm : 0 ≤ s.room ∧ s.room ≤ 16777216 ∧ s.used ≤ s.room
  lf : 0 ≤ s.left ∧ s.left ≤ 9223372036854775807
  wr : 0 ≤ s.written ∧ 0 ≤ s.calls
structure DkAt (w : World) (p : Nat) (s : St) : Prop where
  ptr : Mem.Blk w p 64 (dkC s)
  map : ∃ D, w.ownsMap Try.prog 9 ptrR s.mb s.mn D ∧ MapOf s.fs D
  fil : ∀ f ∈ s.fs, Mem.Blk w f.blk 69 (flC f)
  ok : StOk s
theorem blk_type {w : World} {g : Nat} {t t' : TypeId} {cs cs' : Array Value} (h : Mem.Blk w g t cs) (h' : Mem.Blk w g t' cs') : t = t' := by
  unfold Mem.Blk at h h'
  rw [h] at h'
  injection h' with h'; injection h'
theorem blk_map {w : World} {g n : Nat} {t : TypeId} {cs : Array Value} {P : Program} {k : TypeId} {R : Value → Option (DataW Unit × List MemPlace)} {D : DataW Unit} (h : Mem.Blk w g t cs) (h' : w.ownsMap P k R g n D) : False := by
  obtain ⟨es, clock, hb, -⟩ := h'
  unfold Mem.Blk at h
  rw [h] at hb
  cases hb
section
variable {w w' w'' : World} {p : Nat} {s s' s'' : St}
theorem DkAt.mp (h : DkAt w p s) : s.mb ≠ p := by
  intro e
  obtain ⟨D, hD, -⟩ := h.map
  rw [e] at hD
  exact blk_map h.ptr hD
theorem DkAt.fp (h : DkAt w p s) {f : Fi} (hf : f ∈ s.fs) : f.blk ≠ p := by
  intro e
  have h1 := h.fil f hf
  rw [e] at h1
  exact absurd (blk_type h1 h.ptr) (by decide)
theorem DkAt.fm (h : DkAt w p s) {f : Fi} (hf : f ∈ s.fs) : f.blk ≠ s.mb := by
  intro e
  obtain ⟨D, hD, -⟩ := h.map
  have h1 := h.fil f hf
  rw [e] at h1
  exact blk_map h1 hD
theorem DkAt.lt (h : DkAt w p s) : ∀ b ∈ dks p s, b < w.heap.size := by
  intro b hb
  rcases List.mem_cons.1 hb with rfl | hb
  · exact h.ptr.lt
  rcases List.mem_cons.1 hb with rfl | hb
  · obtain ⟨D, hD, -⟩ := h.map; exact hD.lt
  · obtain ⟨f, hf, rfl⟩ := List.mem_map.1 hb
    exact (h.fil f hf).lt
/-- What a call that works on the disk leaves: all other blocks stay, and what the disk has now it had, or it is new. -/
structure DkStep (p : Nat) (s s' : St) (w w' : World) : Prop where
  fr : Fr (dks p s) w w'
  own : ∀ b ∈ dks p s', b ∈ dks p s ∨ w.heap.size ≤ b
theorem DkStep.refl (p : Nat) (s : St) (w : World) : DkStep p s s w w := ⟨Fr.refl _ _, fun b hb => .inl hb⟩
theorem DkStep.trans (h : DkStep p s s' w w') (k : DkStep p s' s'' w' w'') : DkStep p s s'' w w'' := by
  have hz := h.fr.size
  refine ⟨((h.fr.more (X' := dks p s ++ dks p s') (fun b hb => List.mem_append.2 (.inl hb))).trans (k.fr.more (fun b hb => List.mem_append.2 (.inr hb)))).fresh (fun b hb => ?_), fun b hb => ?_⟩
  · rcases List.mem_append.1 hb with hb | hb
    · exact .inl hb
    · exact h.own b hb
  · rcases k.own b hb with hb | hb
    · exact h.own b hb
    · exact .inr (by omega)
theorem DkAt.below (h : DkAt w p s) (b : Below w.heap.size w w') : DkAt w' p s := by
  refine ⟨h.ptr.below b, ?_, fun f hf => (h.fil f hf).below b, h.ok⟩
  obtain ⟨D, hD, hM⟩ := h.map
  exact ⟨D, (Fr.of_below b []).map hD (by simp), hM⟩
/-- What else is written stays out of the disk. -/
theorem DkAt.fr {X : List Nat} (h : DkAt w p s) (b : Fr X w w') (hX : ∀ g ∈ X, g ∉ dks p s) : DkAt w' p s := by
  have hn : ∀ g ∈ dks p s, g ∉ X := fun g hg hx => hX g hx hg
  refine ⟨b.blk h.ptr (hn p (List.mem_cons_self ..)), ?_, fun f hf => b.blk (h.fil f hf) (hn f.blk (List.mem_cons_of_mem _ (List.mem_cons_of_mem _ (List.mem_map.2 ⟨f, hf, rfl⟩)))), h.ok⟩
  obtain ⟨D, hD, hM⟩ := h.map
  exact ⟨D, b.map hD (hn s.mb (List.mem_cons_of_mem _ (List.mem_cons_self ..))), hM⟩
theorem DkStep.below (b : Below w.heap.size w w') : DkStep p s s w w' := ⟨Fr.of_below b _, fun b hb => .inl hb⟩
/-- Only the disk's own cells turn. -/
theorem DkAt.turn (h : DkAt w p s) (k : Fr [p] w w') (hp : Mem.Blk w' p 64 (dkC s')) (e1 : s'.fs = s.fs) (e2 : s'.mb = s.mb) (e3 : s'.mn = s.mn) (ok : StOk s') : DkAt w' p s' ∧ DkStep p s s' w w' := by
  refine ⟨⟨hp, ?_, ?_, ok⟩, k.more (fun b hb => by rw [List.mem_singleton] at hb; subst hb; exact List.mem_cons_self ..), fun b hb => ?_⟩
  · obtain ⟨D, hD, hM⟩ := h.map
    rw [e1, e2, e3]
    exact ⟨D, k.map hD (by simpa using h.mp), hM⟩
  · rw [e1]
    exact fun f hf => k.blk (h.fil f hf) (by simpa using h.fp hf)
  · unfold dks at hb ⊢
    rw [e1, e2] at hb
    exact .inl hb
end
theorem dk8 {w : World} {p : Nat} {s : St} (h : Mem.Blk w p 64 (dkC s)) : w.cell? ⟨p, 0, none⟩ = some (.int .i64 s.room) ∧ w.cell? ⟨p, 1, none⟩ = some (.map (some s.mb)) ∧ w.cell? ⟨p, 2, none⟩ = some (.int .i64 s.used) ∧ w.cell? ⟨p, 3, none⟩ = some (.int .i64 s.written) ∧ w.cell? ⟨p, 4, none⟩ = some (.int .i64 s.calls) ∧ w.cell? ⟨p, 5, none⟩ = some (.bool s.off) ∧ w.cell? ⟨p, 6, none⟩ = some (.bool s.armed) ∧ w.cell? ⟨p, 7, none⟩ = some (.int .i64 s.left) :=
  ⟨h.cell 0, h.cell 1, h.cell 2, h.cell 3, h.cell 4, h.cell 5, h.cell 6, h.cell 7⟩
theorem dkF {w : World} {p : Nat} {t : TypeId} {cs : Array Value} (h : Mem.Blk w p t cs) : w.frozen? ⟨p, 0, none⟩ = false ∧ w.frozen? ⟨p, 1, none⟩ = false ∧ w.frozen? ⟨p, 2, none⟩ = false ∧ w.frozen? ⟨p, 3, none⟩ = false ∧ w.frozen? ⟨p, 4, none⟩ = false ∧ w.frozen? ⟨p, 5, none⟩ = false ∧ w.frozen? ⟨p, 6, none⟩ = false ∧ w.frozen? ⟨p, 7, none⟩ = false :=
  ⟨h.frozen 0, h.frozen 1, h.frozen 2, h.frozen 3, h.frozen 4, h.frozen 5, h.frozen 6, h.frozen 7⟩
/-- What an operation answers at once. -/
def badN (t : Nm) : Bool := t.isEmpty || decide (24 < t.length)
def beginS (s : St) (ns : List Nm) : Int × St :=
  if s.off then (6, s) else
  if s.armed = true ∧ s.left = 0 then (6, { s with calls := s.calls + 1, off := true }) else
  (if ns.any badN then 1 else 0, { s with calls := s.calls + 1, left := if s.armed then s.left - 1 else s.left })
end Go.Proofs.Ytefpjdgfcgjbaaa

/- A text of a slice of texts. -/
namespace Go.Proofs.Ytefpjdgfcgjbaaa
set_option linter.unusedVariables false
set_option linter.unusedSimpArgs false
open Go.RowKit
theorem str_at {w : World} {X : List Nat} {L : List (List UInt8)} {a : Option Addr} {len cap : Nat} (h : SlR strK w X L a len cap) (k : Nat) (hk : k < len) : ∃ b o s, a = some ⟨b, o, none⟩ ∧ L[k]? = some s ∧ w.cell? ⟨b, o + k, none⟩ = some (.string ⟨s.toArray⟩) := by
  obtain ⟨b, o, s, cs, ha, -, -, hs, hR, -, hc⟩ := h.at k hk
  have hR' : cs = [encStr s] := hR
  subst hR'
  refine ⟨b, o, s, ha, hs, ?_⟩
  have := hc 0 _ rfl
  simpa [strK, encStr] using this
end Go.Proofs.Ytefpjdgfcgjbaaa
