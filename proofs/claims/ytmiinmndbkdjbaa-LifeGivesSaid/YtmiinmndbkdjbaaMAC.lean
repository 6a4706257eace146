/- A part of the proof: Grow, Sep, Bld, Eqv, ExP, KindP, FoldP, EvalP, one behind another. -/
import Derived.Test.YtmiinmndbkdjbaaMAA
import Derived.Test.YtmiinmndbkdjbaaMAB
/- Slices that a call makes itself and lets grow, several beside each other: each keeps out of the blocks of X (the other ones' rows, what is written besides). -/
namespace Go.Proofs.Ytmiinmndbkdjbaa
set_option linter.unusedVariables false
set_option linter.unusedSimpArgs false
open Go.RowKit
/-- What avoids X stands where only blocks of X were written, and avoids what was made since. -/
theorem Elt.to {α : Type} (K : Elt α) {w w' : World} {X Y X' : List Nat} {x : α} {cs : List Value} (h : K.R w X x cs) (k : Kept Y w w') (hY : ∀ b ∈ Y, b ∈ X) (hX : ∀ b ∈ X', b ∈ X ∨ w.heap.size ≤ b) : K.R w' X' x cs := by
  have h1 : K.R w (X ++ X') x cs := K.less h (fun b hb hm => by
    rcases List.mem_append.1 hm with hm | hm
    · exact hm
    · exact (hX b hm).resolve_right (by omega))
  exact K.less (K.kept h1 (k.more (fun b hb => List.mem_append.2 (.inl (hY b hb))))) (fun b _ hm => List.mem_append.2 (.inr hm))
theorem SlR.to {α : Type} {K : Elt α} {w w' : World} {X Y X' : List Nat} {l : List α} {a : Option Addr} {len cap : Nat} (h : SlR K w X l a len cap) (k : Kept Y w w') (hY : ∀ b ∈ Y, b ∈ X) (hX : ∀ b ∈ X', b ∈ X ∨ w.heap.size ≤ b) : SlR K w' X' l a len cap := by
  have h1 : SlR K w (X ++ X') l a len cap := h.less (fun b hb hm => by
    rcases List.mem_append.1 hm with hm | hm
    · exact hm
    · exact (hX b hm).resolve_right (by omega))
  exact (h1.kept (k.more (fun b hb => List.mem_append.2 (.inl (hY b hb))))).less (fun b _ hm => List.mem_append.2 (.inr hm))
/-- append onto a row of the call's own, in a plain region. -/
theorem ap_row {P : Program} {w : World} {ops : Array Oper} {rest : List Oper} {o : Oper} {a : Act} {Q : Exit → Act → World → Prop} {t e : TypeId} {z : Value} {size bytes base : Nat}
    (hinfo : (P.info? e).map (fun i => (i.zero, i.size, i.bytes)) = some (some z, size, bytes)) (ht : P.underlying t = some (.slice e)) (hzs : z.cells.size = size) (hsz : 0 < size)
    (hgd : o.guard = none) (s x : Operand) (ho : o.op = .call { callee := .builtin .append, args := #[s, x], argTypes := #[t, t] })
    {v : Value} {n : Nat} {xs : List Value} (hs : a.eval s = v) (hown : w.ownsRow base e size v n xs) (hbase : base ≤ w.heap.size)
    (ad : Addr) (m c : Nat) (news : List Value) (hx : a.eval x = .slice (some ad) m c) (hl : news.length = m * size)
    (hnews : ∀ j u, news[j]? = some u → w.cell? (ad.add j) = some u) (h1 : ∀ u ∈ news, u.oneCell' = true)
    (h63 : n + m ≤ maxLen) (hbytes : (n + m) * bytes ≤ 140737488355328)
    (h : ∀ v' w', w'.ownsRow base e size v' (n + m) (xs ++ news) → w.grownBy w' v.ownBlock → (v'.ownBlock = v.ownBlock ∨ v'.ownBlock = some w.heap.size) → wpList P ops Q rest (a.put o.dst v') w') :
    wpList P ops Q (o :: rest) a w := by
  obtain ⟨i, hi, hz, hsize, hby⟩ := info_parts hinfo
  refine wpList_plain hgd fun _ hK => ?_
  obtain ⟨v', w', hrun, h2, h3, h4, h5⟩ := run_append_own_at (P := P) w base t o.type e i z size bytes ht hi hz hsize hby hzs hsz v n xs hown ad m c news hl hnews h1 h63 hbytes hbase
  unfold Oper.wp execOp
  simp only [ho, resolve, invoke, builtin, Sem.run_bind, Sem.run_pure, Result.andThen_ok, List.map_toArray, List.map_cons, List.map_nil, hs, hx, hrun]
  exact hK _ _ (h v' w' h2 h3 h5)
theorem lit_cells_at (w : World) (cs : Array Value) (t : TypeId) (g : Nat) (hg : g = w.heap.size) : ∀ j u, cs.toList[j]? = some u → (w.alloc (.cells cs t)).cell? ((⟨g, 0, none⟩ : Addr).add j) = some u := by
  subst hg; exact Mem.lit_cells w cs t
def slK {α : Type} (K : Elt α) : World → List Nat → List α → Value → Prop := fun w X l v => ∃ a cap, v = .slice a l.length cap ∧ SlR K w X l a l.length cap
structure Grow {α : Type} (K : Elt α) (e : TypeId) (base : Nat) (w : World) (X : List Nat) (l : List α) (v : Value) (csl : List (List Value)) : Prop where
  own : w.ownsRow base e K.sz v l.length csl.flatten
  room : base ≤ w.heap.size
  apart : ∀ g, v.ownBlock = some g → g ∉ X
  lt : ∀ b ∈ X, b < w.heap.size
  count : csl.length = l.length
  elts : ∀ (i : Nat) (x : α) (cs : List Value), l[i]? = some x → csl[i]? = some cs → K.R w (busy v X) x cs
section
variable {α : Type} {K : Elt α} {e : TypeId} {base : Nat} {w w' w1 w2 : World} {X Y X' : List Nat} {l : List α} {v v' : Value} {csl : List (List Value)}
theorem Grow.len4 (h : Grow K e base w X l v csl) : ∀ c ∈ csl, c.length = K.sz := by
  intro c hcm
  obtain ⟨i, hi, rfl⟩ := List.getElem_of_mem hcm
  exact (K.one (h.elts i _ _ (List.getElem?_eq_getElem (by have := h.count; omega)) (List.getElem?_eq_getElem hi))).1
theorem Grow.flat (h : Grow K e base w X l v csl) : csl.flatten.length = l.length * K.sz := by rw [flat_len K.sz csl h.len4, h.count]
theorem Grow.start (K : Elt α) (e : TypeId) {base : Nat} {w : World} {X : List Nat} (hb : base ≤ w.heap.size) (hX : ∀ b ∈ X, b < w.heap.size) : Grow K e base w X [] (.slice none 0 0) [] :=
  ⟨World.ownsRow_nil _ _ _ _, hb, fun g hg => by simp [Value.ownBlock] at hg, hX, rfl, fun i x cs h _ => by simp at h⟩
theorem Grow.blt (h : Grow K e base w X l v csl) {g : Nat} (hg : v.ownBlock = some g) : base ≤ g ∧ g < w.heap.size := own_lt h.own hg
/-- Whatever is written but its own row (blocks of Y, all in X); X may turn to other blocks of X and new ones. -/
theorem Grow.to (h : Grow K e base w X l v csl) (k : Kept Y w w') (hY : ∀ b ∈ Y, b ∈ X) (hX : ∀ b ∈ X', (b ∈ X ∨ w.heap.size ≤ b) ∧ b < w'.heap.size) : Grow K e base w' X' l v csl :=
  ⟨own_same h.own (fun g hg => k.2 g (h.blt hg).2 (fun hm => h.apart g hg (hY g hm))), Nat.le_trans h.room k.1,
    fun g hg hm => by
      rcases (hX g hm).1 with h1 | h1
      · exact h.apart g hg h1
      · have := (h.blt hg).2; omega,
    fun b hb => (hX b hb).2, h.count, fun i x cs hx hc => K.to (h.elts i x cs hx hc) k (fun b hb => busy_mem.2 (.inr (hY b hb))) (fun b hb => by
      rcases busy_mem.1 hb with hm | hm
      · exact .inl (busy_mem.2 (.inl hm))
      · exact or_map (hX b hm).1 (fun h1 => busy_mem.2 (.inr h1)) id)⟩
theorem Grow.same (h : Grow K e base w X l v csl) (k : Kept Y w w') (hY : ∀ b ∈ Y, b ∈ X) : Grow K e base w' X l v csl := h.to k hY (fun b hb => ⟨.inl hb, Nat.lt_of_lt_of_le (h.lt b hb) k.1⟩)
theorem Grow.below (h : Grow K e base w X l v csl) (k : Below w.heap.size w w') : Grow K e base w' X l v csl := h.same (Kept.of_below k []) (fun b hb => by cases hb)
theorem Grow.alloc (h : Grow K e base w X l v csl) (o : Obj) : Grow K e base (w.alloc o) X l v csl := h.same (Kept.alloc w o []) (fun b hb => by cases hb)
theorem Grow.drew (h : Grow K e base w X l v csl) : Grow K e base w.drew X l v csl := h.same (Y := []) (Kept.of_below (Below.refl w.heap.size w).drew []) (fun b hb => by cases hb)
theorem Grow.set_ (h : Grow K e base w X l v csl) {p : Addr} (hp : p.block ∈ X) (u : Value) : Grow K e base (w.setCell p u) X l v csl := h.same (Y := X) (Kept.setCell w hp u) (fun b hb => hb)
theorem Grow.cut (h : Grow K e base w X l v csl) (hX : ∀ b ∈ X', b ∈ X) : Grow K e base w X' l v csl := h.to (Kept.refl w []) (fun b hb => by cases hb) (fun b hb => ⟨.inl (hX b hb), h.lt b (hX b hb)⟩)
/-- What an append to it writes: its own row. -/
theorem Grow.row (_h : Grow K e base w X l v csl) (hg : w.grownBy w' v.ownBlock) : Kept v.ownBlock.toList w w' := Kept.of_grown_own hg (fun b hb => by rw [hb]; simp)
/-- The row behind an append: in its old place, or new. -/
theorem own_next {w : World} {v v' : Value} (hv : v'.ownBlock = v.ownBlock ∨ v'.ownBlock = some w.heap.size) : ∀ b ∈ v'.ownBlock.toList, b ∈ v.ownBlock.toList ∨ w.heap.size ≤ b := by
  intro b hb
  rw [Option.mem_toList] at hb
  rcases hv with h | h
  · exact .inl (by rw [Option.mem_toList, ← h]; exact hb)
  · rw [h] at hb; injection hb with hb; exact .inr (by omega)
/-- One element more. -/
theorem Grow.push (h : Grow K e base w X l v csl) {x : α} {cs : List Value} (hR : K.R w (busy v X) x cs)
    (ho : w'.ownsRow base e K.sz v' (l.length + 1) (csl.flatten ++ cs)) (hg : w.grownBy w' v.ownBlock) (hv : v'.ownBlock = v.ownBlock ∨ v'.ownBlock = some w.heap.size) :
    Grow K e base w' X (l ++ [x]) v' (csl ++ [cs]) := by
  have hK := h.row hg
  have move : ∀ y c, K.R w (busy v X) y c → K.R w' (busy v' X) y c := fun y c hy => K.to hy hK (fun b hb => busy_mem.2 (.inl (by rw [Option.mem_toList] at hb; exact hb))) (fun b hb => by
    rcases busy_mem.1 hb with hm | hm
    · exact or_map (own_next hv b (by rw [Option.mem_toList]; exact hm)) (fun h1 => busy_mem.2 (.inl (by rw [Option.mem_toList] at h1; exact h1))) id
    · exact .inl (busy_mem.2 (.inr hm)))
  refine ⟨by rw [List.length_append, List.flatten_append, List.flatten_singleton]; exact ho, Nat.le_trans h.room hg.size, fun g hgb hm => ?_, fun b hb => Nat.lt_of_lt_of_le (h.lt b hb) hg.size, by rw [List.length_append, List.length_append, h.count]; rfl, fun i y c hy hc => ?_⟩
  · rcases hv with h1 | h1
    · exact h.apart g (by rw [← h1]; exact hgb) hm
    · rw [h1] at hgb; injection hgb with hgb; have := h.lt g hm; omega
  · rcases Nat.lt_or_ge i l.length with hi | hi
    · rw [List.getElem?_append_left hi] at hy
      rw [List.getElem?_append_left (by rw [h.count]; exact hi)] at hc
      exact move _ _ (h.elts i y c hy hc)
    · rw [List.getElem?_append_right hi] at hy
      rw [List.getElem?_append_right (by rw [h.count]; exact hi), h.count] at hc
      have hil : i - l.length = 0 := by
        have := (List.getElem?_eq_some_iff.1 hy).1; simp at this; exact this
      rw [hil] at hy hc
      injection hy with hy; injection hc with hc
      subst hy; subst hc
      exact move _ _ hR
/-- It is a slice like any other. -/
theorem Grow.slR (h : Grow K e base w X l v csl) : ∃ a cap, v = .slice a l.length cap ∧ SlR K w X l a l.length cap := by
  have hmx : maxLen = 9223372036854775807 := by decide
  have hel : ∀ (i : Nat) (x : α) (cs : List Value), l[i]? = some x → csl[i]? = some cs → K.R w X x cs := fun i x cs hx hc => K.less (h.elts i x cs hx hc) (fun b _ hm => busy_mem.2 (.inr hm))
  rcases h.own.2 with ⟨rfl, h00⟩ | ⟨g, capn, cur, hv, h1, h2, h3, h4, h5, h6⟩
  · have h1 : csl = [] := List.length_eq_zero_iff.1 (by rw [h.count, h00])
    subst h1
    refine ⟨none, 0, by rw [h00], [], by simpa using h00.symm, fun i x cs hx _ => hel i x cs hx ‹_›, ?_⟩
    rw [h00]
    exact Sl.nil _ _ _
  · subst hv
    refine ⟨_, capn, rfl, csl, h.count, hel, h.count, h3, by omega, fun hp => ⟨g, 0, rfl, lt_of_block h2, h.apart g rfl, fun i cs hi => ⟨h.len4 cs (List.mem_of_getElem? hi), fun j c hj => ?_⟩⟩⟩
    have h4' := h.len4 cs (List.mem_of_getElem? hi)
    have hjs : j < K.sz := by rw [← h4']; exact (List.getElem?_eq_some_iff.1 hj).1
    have hi' : i < l.length := by rw [← h.count]; exact (List.getElem?_eq_some_iff.1 hi).1
    rw [Nat.zero_add, h.own.cellAt (i * K.sz + j) (by calc i * K.sz + j < i * K.sz + K.sz := by omega
                                                          _ = (i + 1) * K.sz := by rw [Nat.add_mul]; omega
                                                          _ ≤ l.length * K.sz := Nat.mul_le_mul_right _ (by omega)), flat_get K.sz csl h.len4 i j cs hi hjs]
    exact hj
end
end Go.Proofs.Ytmiinmndbkdjbaa

/- Objects beside each other in memory: each owns some blocks and stays what it is while the others are written. -/
namespace Go.Proofs.Ytmiinmndbkdjbaa
set_option linter.unusedVariables false
set_option linter.unusedSimpArgs false
open Go.RowKit
/-- An object: the blocks that it owns, and what is said of the world, where nothing of it lies in the blocks of X. -/
structure Ob where
  own : List Nat
  P : World → List Nat → Prop
  st : ∀ {w w' : World} {X Y X' : List Nat}, P w X → Kept Y w w' → (∀ b ∈ Y, b ∈ X) → (∀ b ∈ X', (b ∈ X ∨ w.heap.size ≤ b) ∧ b < w'.heap.size) → P w' X'
  lt : ∀ {w : World} {X : List Nat}, P w X → ∀ b ∈ own, b < w.heap.size
def owns : List Ob → List Nat
  | [] => []
  | o :: t => o.own ++ owns t
def others (fam : List Ob) (i : Nat) : List Nat := (List.range fam.length).flatMap fun j => if j = i then [] else ((fam[j]?).map Ob.own).getD []
def Sep (w : World) (fam : List Ob) : Prop := ∀ (i : Nat) (o : Ob), fam[i]? = some o → o.P w (others fam i)
theorem mem_owns {fam : List Ob} {b : Nat} : b ∈ owns fam ↔ ∃ (j : Nat) (o : Ob), fam[j]? = some o ∧ b ∈ o.own := by
  induction fam with
  | nil => simp [owns]
  | cons x t ih =>
    rw [owns, List.mem_append, ih]
    constructor
    · rintro (h | ⟨j, o, hj, hb⟩)
      · exact ⟨0, x, rfl, h⟩
      · exact ⟨j + 1, o, by simpa using hj, hb⟩
    · rintro ⟨j, o, hj, hb⟩
      cases j with
      | zero => simp at hj; subst hj; exact .inl hb
      | succ j => exact .inr ⟨j, o, by simpa using hj, hb⟩
theorem mem_others {fam : List Ob} {i b : Nat} : b ∈ others fam i ↔ ∃ (j : Nat) (o : Ob), j ≠ i ∧ fam[j]? = some o ∧ b ∈ o.own := by
  unfold others
  rw [List.mem_flatMap]
  constructor
  · rintro ⟨j, hj, hb⟩
    split at hb
    · cases hb
    · rename_i hne
      cases ho : fam[j]? with
      | none => rw [ho] at hb; cases hb
      | some o => rw [ho] at hb; exact ⟨j, o, hne, ho, hb⟩
  · rintro ⟨j, o, hne, ho, hb⟩
    exact ⟨j, List.mem_range.2 (List.getElem?_eq_some_iff.1 ho).1, by rw [if_neg hne, ho]; exact hb⟩
section
variable {w w' : World} {fam : List Ob} {o o' : Ob} {i : Nat} {Y : List Nat}
theorem Sep.nil (w : World) : Sep w [] := fun i o h => by simp at h
theorem Sep.lt (h : Sep w fam) : ∀ b ∈ owns fam, b < w.heap.size := by
  intro b hb
  obtain ⟨j, o, hj, hb⟩ := mem_owns.1 hb
  exact o.lt (h j o hj) b hb
theorem Sep.at (h : Sep w fam) (i : Nat) {o : Ob} (hi : fam[i]? = some o) : o.P w (others fam i) := h i o hi
/-- All others stay, one turns. -/
theorem Sep.set_ (h : Sep w fam) (i : Nat) {o o' : Ob} (hi : fam[i]? = some o) (k : Kept Y w w') (hY : ∀ b ∈ Y, b ∈ o.own ∨ w.heap.size ≤ b) (hown : ∀ b ∈ o'.own, b ∈ o.own ∨ w.heap.size ≤ b) (hP : o'.P w' (others fam i)) : Sep w' (fam.set i o') := by
  have hil : i < fam.length := (List.getElem?_eq_some_iff.1 hi).1
  intro j oj hj
  by_cases hji : j = i
  · subst hji
    rw [List.getElem?_set_self hil] at hj
    injection hj with hj
    subst hj
    have e : others (fam.set j o') j = others fam j := by
      unfold others
      rw [List.length_set]
      congr 1
      funext k
      by_cases hk : k = j
      · rw [if_pos hk, if_pos hk]
      · rw [if_neg hk, if_neg hk, List.getElem?_set_ne (fun e => hk e.symm)]
    rw [e]
    exact hP
  · rw [List.getElem?_set_ne (fun e => hji e.symm)] at hj
    have hk' : Kept (Y.filter fun b => decide (b < w.heap.size)) w w' := ⟨k.1, fun b hb hx => k.2 b hb (fun hm => hx (List.mem_filter.2 ⟨hm, by simpa using hb⟩))⟩
    refine oj.st (h j oj hj) hk' (fun b hb => ?_) (fun b hb => ?_)
    · obtain ⟨h1, h2⟩ := List.mem_filter.1 hb
      rcases hY b h1 with h3 | h3
      · exact mem_others.2 ⟨i, o, fun e => hji e.symm, hi, h3⟩
      · simp at h2; omega
    · obtain ⟨m, om, hm, hom, hbm⟩ := mem_others.1 hb
      by_cases hmi : m = i
      · subst hmi
        rw [List.getElem?_set_self hil] at hom
        injection hom with hom
        subst hom
        exact ⟨or_map (hown b hbm) (fun h1 => mem_others.2 ⟨m, o, hm, hi, h1⟩) id, o'.lt hP b hbm⟩
      · rw [List.getElem?_set_ne (fun e => hmi e.symm)] at hom
        exact ⟨.inl (mem_others.2 ⟨m, om, hm, hom, hbm⟩), Nat.lt_of_lt_of_le (om.lt (h m om hom) b hbm) k.1⟩
/-- Nothing of them is written. -/
theorem Sep.kept (h : Sep w fam) (k : Kept [] w w') : Sep w' fam := by
  intro j oj hj
  refine oj.st (h j oj hj) k (fun b hb => by cases hb) (fun b hb => ⟨.inl hb, ?_⟩)
  obtain ⟨m, om, hm, hom, hbm⟩ := mem_others.1 hb
  exact Nat.lt_of_lt_of_le (om.lt (h m om hom) b hbm) k.1
theorem Sep.below (h : Sep w fam) (k : Below w.heap.size w w') : Sep w' fam := h.kept (Kept.of_below k [])
theorem Sep.drew (h : Sep w fam) : Sep w.drew fam := h.below (Below.refl _ _).drew
theorem Sep.alloc (h : Sep w fam) (ob : Obj) : Sep (w.alloc ob) fam := h.kept (Kept.alloc w ob [])
/-- Another one comes, in new blocks or in none. -/
theorem Sep.cons (h : Sep w fam) (k : Kept [] w w') (hown : ∀ b ∈ o.own, w.heap.size ≤ b) (hP : o.P w' (owns fam)) : Sep w' (o :: fam) := by
  intro j oj hj
  cases j with
  | zero =>
    simp at hj
    subst hj
    refine o.st hP (Kept.refl w' []) (fun b hb => by cases hb) (fun b hb => ?_)
    obtain ⟨m, om, hm, hom, hbm⟩ := mem_others.1 hb
    cases m with
    | zero => exact absurd rfl hm
    | succ m =>
      have hom' : fam[m]? = some om := by simpa using hom
      exact ⟨.inl (mem_owns.2 ⟨m, om, hom', hbm⟩), Nat.lt_of_lt_of_le (om.lt (h m om hom') b hbm) k.1⟩
  | succ j =>
    have hj' : fam[j]? = some oj := by simpa using hj
    refine oj.st (h j oj hj') k (fun b hb => by cases hb) (fun b hb => ?_)
    obtain ⟨m, om, hm, hom, hbm⟩ := mem_others.1 hb
    cases m with
    | zero =>
      simp at hom
      subst hom
      exact ⟨.inr (hown b hbm), o.lt hP b hbm⟩
    | succ m =>
      have hom' : fam[m]? = some om := by simpa using hom
      exact ⟨.inl (mem_others.2 ⟨m, om, fun e => hm (by rw [e]), hom', hbm⟩), Nat.lt_of_lt_of_le (om.lt (h m om hom') b hbm) k.1⟩
/-- One that owns nothing comes. -/
theorem Sep.add (h : Sep w fam) (hown : o.own = []) (hP : o.P w (owns fam)) : Sep w (o :: fam) := h.cons (Kept.refl w []) (fun b hb => by rw [hown] at hb; cases hb) hP
/-- One is left out of sight. -/
theorem Sep.drop (h : Sep w fam) (i : Nat) : Sep w (fam.eraseIdx i) := by
  intro j oj hj
  rw [List.getElem?_eraseIdx] at hj
  have key : ∀ m om, (fam.eraseIdx i)[m]? = some om → fam[if m < i then m else m + 1]? = some om := by
    intro m om hm
    rw [List.getElem?_eraseIdx] at hm
    by_cases hmi : m < i
    · rw [if_pos hmi] at hm ⊢; exact hm
    · rw [if_neg hmi] at hm ⊢; exact hm
  have hj' : fam[if j < i then j else j + 1]? = some oj := by
    by_cases hmi : j < i
    · rw [if_pos hmi] at hj ⊢; exact hj
    · rw [if_neg hmi] at hj ⊢; exact hj
  refine oj.st (h _ oj hj') (Kept.refl w []) (fun b hb => by cases hb) (fun b hb => ?_)
  obtain ⟨m, om, hm, hom, hbm⟩ := mem_others.1 hb
  have hom' := key m om hom
  refine ⟨.inl (mem_others.2 ⟨_, om, ?_, hom', hbm⟩), om.lt (h _ om hom') b hbm⟩
  intro e
  apply hm
  split at e <;> split at e <;> omega
/-- What owns nothing keeps out of all. -/
theorem Sep.all (h : Sep w fam) (i : Nat) {o : Ob} (hi : fam[i]? = some o) (ho : o.own = []) : o.P w (owns fam) := by
  refine o.st (h i o hi) (Kept.refl w []) (fun b hb => by cases hb) (fun b hb => ?_)
  refine ⟨?_, h.lt b hb⟩
  obtain ⟨m, om, hom, hbm⟩ := mem_owns.1 hb
  by_cases hm : m = i
  · subst hm
    rw [hi] at hom
    injection hom with hom
    subst hom
    rw [ho] at hbm
    cases hbm
  · exact .inl (mem_others.2 ⟨m, om, hm, hom, hbm⟩)
end
/-- A block of cells. -/
def bx (g : Nat) (t : TypeId) (cs : Array Value) : Ob where
  own := [g]
  P := fun w X => Mem.Blk w g t cs ∧ g ∉ X
  st := fun {w w' X Y X'} h k hY hX => ⟨(k.2 g h.1.lt (fun hm => h.2 (hY g hm))).trans h.1, fun hm => by
    rcases (hX g hm).1 with h1 | h1
    · exact h.2 h1
    · have := h.1.lt; omega⟩
  lt := fun h b hb => by rw [List.mem_singleton] at hb; subst hb; exact h.1.lt
/-- A slice that grows. -/
def gr {α : Type} (K : Elt α) (e : TypeId) (base : Nat) (l : List α) (v : Value) : Ob where
  own := v.ownBlock.toList
  P := fun w X => ∃ csl, Grow K e base w X l v csl
  st := fun h k hY hX => by obtain ⟨csl, h⟩ := h; exact ⟨csl, h.to k hY hX⟩
  lt := fun h b hb => by obtain ⟨csl, h⟩ := h; rw [Option.mem_toList] at hb; exact (h.blt hb).2
/-- What is only read: cells; a slice. -/
def im {α : Type} (K : Elt α) (x : α) (cs : List Value) : Ob where
  own := []
  P := fun w X => K.R w X x cs
  st := fun h k hY hX => K.to h k hY (fun b hb => (hX b hb).1)
  lt := fun _ b hb => by cases hb
def sl {α : Type} (K : Elt α) (l : List α) (a : Option Addr) (len cap : Nat) : Ob where
  own := []
  P := fun w X => SlR K w X l a len cap
  st := fun h k hY hX => h.to k hY (fun b hb => (hX b hb).1)
  lt := fun _ b hb => by cases hb
section
variable {α : Type} {K : Elt α} {e : TypeId} {base : Nat} {w w' w2 : World} {fam : List Ob} {l : List α} {v v' : Value} {g : Nat} {t : TypeId} {cs : Array Value} {csl : List (List Value)}
theorem Sep.blk (h : Sep w fam) (i : Nat) (hi : fam[i]? = some (bx g t cs)) : Mem.Blk w g t cs := (h.at i hi).1
/-- A new block. -/
theorem Sep.new (h : Sep w fam) (t : TypeId) (cs : Array Value) : Sep (w.alloc (.cells cs t)) (bx w.heap.size t cs :: fam) :=
  h.cons (o := bx w.heap.size t cs) (Kept.alloc w _ []) (fun b hb => by rw [show (bx w.heap.size t cs).own = [w.heap.size] from rfl, List.mem_singleton] at hb; omega) ⟨Mem.Blk.new w t cs, fun hm => by have := h.lt _ hm; omega⟩
/-- A store into a block. -/
theorem Sep.store (h : Sep w fam) (i : Nat) (hi : fam[i]? = some (bx g t cs)) (j : Nat) (u : Value) : Sep (w.setCell ⟨g, j, none⟩ u) (fam.set i (bx g t (cs.setIfInBounds j u))) :=
  h.set_ i hi (Kept.setCell w (X := [g]) (by simp) u) (fun b hb => .inl hb) (fun b hb => .inl hb) ⟨(h.at i hi).1.set_ j u, (h.at i hi).2⟩
/-- One element more. -/
theorem Sep.push (h : Sep w fam) (i : Nat) (hi : fam[i]? = some (gr K e base l v)) (hG : Grow K e base w (others fam i) l v csl) {x : α} {c : List Value} (hR : K.R w (owns fam) x c)
    (ho : w'.ownsRow base e K.sz v' (l.length + 1) (csl.flatten ++ c)) (hg : w.grownBy w' v.ownBlock) (hv : v'.ownBlock = v.ownBlock ∨ v'.ownBlock = some w.heap.size) : Sep w' (fam.set i (gr K e base (l ++ [x]) v')) := by
  refine h.set_ i hi (hG.row hg) (fun b hb => .inl hb) (own_next hv) ⟨_, hG.push (K.less hR (fun b _ hm => ?_)) ho hg hv⟩
  rcases busy_mem.1 hm with h1 | h1
  · exact mem_owns.2 ⟨i, _, hi, by show b ∈ v.ownBlock.toList; rw [Option.mem_toList]; exact h1⟩
  · obtain ⟨m, om, _, hom, hbm⟩ := mem_others.1 h1
    exact mem_owns.2 ⟨m, om, hom, hbm⟩
/-- A slice that no longer grows. -/
theorem Sep.still (h : Sep w fam) (i : Nat) (hi : fam[i]? = some (gr K e base l v)) : ∃ a cap, v = .slice a l.length cap ∧ SlR K w (others fam i) l a l.length cap := by
  obtain ⟨csl, hG⟩ := h.at i hi
  exact hG.slR
end
end Go.Proofs.Ytmiinmndbkdjbaa

/- Build: its nodes and numbers; plain. -/
namespace Go.Proofs.Ytmiinmndbkdjbaa
set_option linter.unusedVariables false
set_option linter.unusedSimpArgs false
open Go.RowKit
theorem cell_lt {w : World} {a : Addr} {v : Value} (h : w.cell? a = some v) : a.block < w.heap.size := by
  rcases Nat.lt_or_ge a.block w.heap.size with h1 | h1
  · exact h1
  · have : w.heap[a.block]? = none := Array.getElem?_eq_none h1
    simp [World.cell?, this] at h
/-- What was there is there behind what only makes memory. -/
theorem cell_up {w w' : World} {p : Addr} {v : Value} (h : w.cell? p = some v) (hb : Below w.heap.size w w') : w'.cell? p = some v := (hb.cell (cell_lt h)).trans h
theorem below_new (w : World) (o : Obj) : Below w.heap.size w (w.alloc o).drew := ((Below.refl w.heap.size w).alloc (Nat.le_refl _) o).drew
def ndI (n : Nat) : Int := if n < 1000 then (n : Int) else 1000
def rkI (n r : Nat) : Int := if n < 1000 then (r : Int) else 1000
theorem ndI_bd (n : Nat) : 0 ≤ ndI n ∧ ndI n ≤ 1000 := by unfold ndI; split <;> omega
theorem rkI_bd (n r : Nat) (h : r < 1000) : 0 ≤ rkI n r ∧ rkI n r ≤ 1000 := by unfold rkI; split <;> omega
/-- Of S nodes, M deep, with k within: what N and D are so far. -/
structure Cnt (k S M : Nat) (N D : Int) : Prop where
  n1 : 1 ≤ N
  n2 : N ≤ 1 + 1000 * (k : Int)
  d1 : 1 ≤ D
  d2 : D ≤ 1001
  yes : S < 1000 → N = (S : Int) ∧ D = (M : Int)
  no : 1000 ≤ S → 1000 ≤ N ∨ 1000 ≤ D
theorem Cnt.one : Cnt 0 1 1 1 1 := ⟨by omega, by omega, by omega, by omega, fun _ => ⟨rfl, rfl⟩, fun h => by omega⟩
theorem Cnt.step {k S M : Nat} {N D : Int} (h : Cnt k S M N D) {n r : Nat} (hn : 1 ≤ n) (hr : r < 1000) : Cnt (k + 1) (S + n) (max M (r + 1)) (N + ndI n) (max D (rkI n r + 1)) := by
  obtain ⟨h1, h2, h3, h4, h5, h6⟩ := h
  have b1 := ndI_bd n
  have b2 := rkI_bd n r hr
  refine ⟨by omega, by omega, by omega, by omega, fun hS => ?_, fun hS => ?_⟩
  · obtain ⟨e1, e2⟩ := h5 (by omega)
    have hn' : n < 1000 := by omega
    unfold ndI rkI
    rw [if_pos hn', if_pos hn']
    constructor <;> omega
  · by_cases hS' : 1000 ≤ S
    · rcases h6 hS' with h7 | h7
      · exact .inl (by omega)
      · exact .inr (by omega)
    · obtain ⟨e1, e2⟩ := h5 (by omega)
      by_cases hn' : n < 1000
      · left; unfold ndI; rw [if_pos hn']; omega
      · left; unfold ndI; rw [if_neg hn']; omega
theorem Cnt.great {k S M : Nat} {N D : Int} (h : Cnt k S M N D) (hM : M < 1000) (hg : 1000 ≤ N ∨ 1000 ≤ D) : ndI S = 1000 ∧ rkI S M = 1000 := by
  have : ¬ S < 1000 := fun hS => by obtain ⟨e1, e2⟩ := h.yes hS; omega
  unfold ndI rkI
  rw [if_neg this, if_neg this]
  exact ⟨rfl, rfl⟩
theorem Cnt.small {k S M : Nat} {N D : Int} (h : Cnt k S M N D) (h1 : N < 1000) (h2 : D < 1000) : ndI S = N ∧ rkI S M = D := by
  have hS : S < 1000 := by
    rcases Nat.lt_or_ge S 1000 with h3 | h3
    · exact h3
    · rcases h.no h3 with h4 | h4 <;> omega
  obtain ⟨e1, e2⟩ := h.yes hS
  unfold ndI rkI
  rw [if_pos hS, if_pos hS]
  exact ⟨e1.symm, e2.symm⟩
theorem Ex.nd_snoc (l : List Ex) (x : Ex) : Ex.nd.go (l ++ [x]) = Ex.nd.go l + x.nd := by
  induction l with
  | nil => simp [Ex.nd.go]
  | cons y t ih => simp only [List.cons_append, Ex.nd.go, ih]; omega
theorem Ex.rk_snoc (l : List Ex) (x : Ex) : Ex.rk.go (l ++ [x]) = max (Ex.rk.go l) x.rk := by
  induction l with
  | nil => simp [Ex.rk.go]
  | cons y t ih => simp only [List.cons_append, Ex.rk.go, ih]; omega
theorem Te.nd_snoc (l : List Te) (x : Te) : Te.nd.go (l ++ [x]) = Te.nd.go l + x.nd := by
  induction l with
  | nil => simp [Te.nd.go]
  | cons y t ih => simp only [List.cons_append, Te.nd.go, ih]; omega
theorem Te.rk_snoc (l : List Te) (x : Te) : Te.rk.go (l ++ [x]) = max (Te.rk.go l) x.rk := by
  induction l with
  | nil => simp [Te.rk.go]
  | cons y t ih => simp only [List.cons_append, Te.rk.go, ih]; omega
theorem Ex.rk_go_le {l : List Ex} {b : Nat} (h : ∀ e ∈ l, e.rk ≤ b) : Ex.rk.go l ≤ b := by
  induction l with
  | nil => simp [Ex.rk.go]
  | cons y t ih =>
    simp only [Ex.rk.go]
    have h1 := h y (by simp)
    have h2 := ih (fun e he => h e (by simp [he]))
    omega
theorem Te.rk_go_le {l : List Te} {b : Nat} (h : ∀ e ∈ l, e.rk ≤ b) : Te.rk.go l ≤ b := by
  induction l with
  | nil => simp [Te.rk.go]
  | cons y t ih =>
    simp only [Te.rk.go]
    have h1 := h y (by simp)
    have h2 := ih (fun e he => h e (by simp [he]))
    omega
theorem Ex.nd_pos' (e : Ex) : 1 ≤ e.nd := by cases e; simp only [Ex.nd]; omega
theorem Te.nd_pos' (e : Te) : 1 ≤ e.nd := by cases e; simp only [Te.nd]; omega
theorem max_if (a b : Int) : (if a < b then b else a) = max a b := by split <;> omega
theorem Cnt.push {args : List Ex} {x : Ex} {N D : Int} (h : Cnt args.length (1 + Ex.nd.go args) (1 + Ex.rk.go args) N D) (hr : x.rk < 1000) :
    Cnt (args ++ [x]).length (1 + Ex.nd.go (args ++ [x])) (1 + Ex.rk.go (args ++ [x])) (N + ndI x.nd) (if D < rkI x.nd x.rk + 1 then rkI x.nd x.rk + 1 else D) := by
  have h1 := h.step x.nd_pos' hr
  rw [max_if, Ex.nd_snoc, Ex.rk_snoc, List.length_append]
  rw [show 1 + (Ex.nd.go args + x.nd) = 1 + Ex.nd.go args + x.nd by omega, show 1 + max (Ex.rk.go args) x.rk = max (1 + Ex.rk.go args) (x.rk + 1) by omega]
  exact h1
/-- A term's: its expressions first, then its terms. -/
def Te.nds (xs : List Ex) (ts : List Te) : Nat := 1 + Ex.nd.go xs + Te.nd.go ts
def Te.rks (xs : List Ex) (ts : List Te) : Nat := 1 + max (Ex.rk.go xs) (Te.rk.go ts)
theorem Cnt.pushX {xs : List Ex} {x : Ex} {k : Nat} {N D : Int} (h : Cnt k (Te.nds xs []) (Te.rks xs []) N D) (hr : x.rk < 1000) :
    Cnt (k + 1) (Te.nds (xs ++ [x]) []) (Te.rks (xs ++ [x]) []) (N + ndI x.nd) (if D < rkI x.nd x.rk + 1 then rkI x.nd x.rk + 1 else D) := by
  have h1 := h.step x.nd_pos' hr
  unfold Te.nds Te.rks at *
  rw [max_if, Ex.nd_snoc, Ex.rk_snoc]
  simp only [Te.nd.go, Te.rk.go] at *
  rw [show 1 + (Ex.nd.go xs + x.nd) + 0 = 1 + Ex.nd.go xs + 0 + x.nd by omega, show 1 + max (max (Ex.rk.go xs) x.rk) 0 = max (1 + max (Ex.rk.go xs) 0) (x.rk + 1) by omega]
  exact h1
theorem Cnt.pushT {xs : List Ex} {ts : List Te} {x : Te} {k : Nat} {N D : Int} (h : Cnt k (Te.nds xs ts) (Te.rks xs ts) N D) (hr : x.rk < 1000) :
    Cnt (k + 1) (Te.nds xs (ts ++ [x])) (Te.rks xs (ts ++ [x])) (N + ndI x.nd) (if D < rkI x.nd x.rk + 1 then rkI x.nd x.rk + 1 else D) := by
  have h1 := h.step x.nd_pos' hr
  unfold Te.nds Te.rks at *
  rw [max_if, Te.nd_snoc, Te.rk_snoc]
  rw [show 1 + Ex.nd.go xs + (Te.nd.go ts + x.nd) = 1 + Ex.nd.go xs + Te.nd.go ts + x.nd by omega, show 1 + max (Ex.rk.go xs) (max (Te.rk.go ts) x.rk) = max (1 + max (Ex.rk.go xs) (Te.rk.go ts)) (x.rk + 1) by omega]
  exact h1
/-- The nodes that come in. -/
structure Lf where
  op : Int
  n : Int
  nm : ByteArray
  kids : List Int
structure Kn where
  op : Int
  nm : ByteArray
  exprs : List Int
  terms : List Int
def lfK : Elt Lf where
  sz := 4
  pos := by decide
  R := fun w X x cs => ∃ a cap, cs = [.int .i64 x.op, .int .i64 x.n, .string x.nm, .slice a x.kids.length cap] ∧ I64 x.op ∧ I64 x.n ∧ x.nm.size ≤ 9223372036854775807 ∧ SlR i64K w X x.kids a x.kids.length cap
  kept := fun h k => by obtain ⟨a, cap, rfl, h1, h2, h3, h4⟩ := h; exact ⟨a, cap, rfl, h1, h2, h3, h4.kept k⟩
  less := fun h k => by obtain ⟨a, cap, rfl, h1, h2, h3, h4⟩ := h; exact ⟨a, cap, rfl, h1, h2, h3, h4.less k⟩
  one := fun h => by obtain ⟨a, cap, rfl, h1, h2, h3, h4⟩ := h; exact ⟨rfl, by simp [Value.oneCell']⟩
def knK : Elt Kn where
  sz := 4
  pos := by decide
  R := fun w X x cs => ∃ a cap a' cap', cs = [.int .i64 x.op, .string x.nm, .slice a x.exprs.length cap, .slice a' x.terms.length cap'] ∧ I64 x.op ∧ x.nm.size ≤ 9223372036854775807 ∧ SlR i64K w X x.exprs a x.exprs.length cap ∧ SlR i64K w X x.terms a' x.terms.length cap'
  kept := fun h k => by obtain ⟨a, cap, a', cap', rfl, h1, h2, h3, h4⟩ := h; exact ⟨a, cap, a', cap', rfl, h1, h2, h3.kept k, h4.kept k⟩
  less := fun h k => by obtain ⟨a, cap, a', cap', rfl, h1, h2, h3, h4⟩ := h; exact ⟨a, cap, a', cap', rfl, h1, h2, h3.less k, h4.less k⟩
  one := fun h => by obtain ⟨a, cap, a', cap', rfl, h1, h2, h3, h4⟩ := h; exact ⟨rfl, by simp [Value.oneCell']⟩
def nds (es : List Ex) : List Int := es.map fun e => ndI e.nd
def rks (es : List Ex) : List Int := es.map fun e => rkI e.nd e.rk
def ndsT (ts : List Te) : List Int := ts.map fun e => ndI e.nd
def rksT (ts : List Te) : List Int := ts.map fun e => rkI e.nd e.rk
/-- The j-th element of a slice that grows: its cells, clear of all that is written. -/
theorem Sep.elt {α : Type} {K : Elt α} {e : TypeId} {base : Nat} {w : World} {fam : List Ob} {l : List α} {v : Value} (h : Sep w fam) (i : Nat) (hi : fam[i]? = some (gr K e base l v)) (j : Nat) (hj : j < l.length) :
    ∃ g cap x cs, v = .slice (some ⟨g, 0, none⟩) l.length cap ∧ l.length ≤ cap ∧ l[j]? = some x ∧ K.R w (owns fam) x cs ∧ cs.length = K.sz ∧ ∀ m c, m < K.sz → cs[m]? = some c → w.cell? ⟨g, j * K.sz + m, none⟩ = some c := by
  obtain ⟨csl, hG⟩ := h.at i hi
  obtain ⟨g, cap, rfl, hg0, hg1, hg2, hob⟩ := own_form hG.own (by omega)
  have hx : l[j]? = some (l[j]'hj) := List.getElem?_eq_getElem hj
  have hc : csl[j]? = some (csl[j]'(by rw [hG.count]; exact hj)) := List.getElem?_eq_getElem (by rw [hG.count]; exact hj)
  have hR := hG.elts j _ _ hx hc
  refine ⟨g, cap, _, _, rfl, hg2, hx, K.less hR (fun b _ hm => ?_), (K.one hR).1, fun m c hm hcm => ?_⟩
  · obtain ⟨q, o, hq, hb⟩ := mem_owns.1 hm
    by_cases hqi : q = i
    · subst hqi
      rw [hi] at hq
      injection hq with hq
      subst hq
      have hb' : b ∈ (Value.slice (some ⟨g, 0, none⟩) l.length cap).ownBlock.toList := hb
      rw [Option.mem_toList] at hb'
      exact busy_mem.2 (.inl hb')
    · exact busy_mem.2 (.inr (mem_others.2 ⟨q, o, hqi, hq, hb⟩))
  · rw [hG.own.cellAt (j * K.sz + m) (by calc j * K.sz + m < j * K.sz + K.sz := by omega
                                              _ = (j + 1) * K.sz := by rw [Nat.add_mul]; omega
                                              _ ≤ l.length * K.sz := Nat.mul_le_mul_right _ (by omega)), flat_get K.sz csl hG.len4 j m _ hc hm]
    exact hcm
/-- What a slice that grows is, as a value. -/
theorem Sep.form {α : Type} {K : Elt α} {e : TypeId} {base : Nat} {w : World} {fam : List Ob} {l : List α} {v : Value} (h : Sep w fam) (i : Nat) (hi : fam[i]? = some (gr K e base l v)) : ∃ a cap, v = .slice a l.length cap := by
  obtain ⟨a, cap, hv, _⟩ := h.still i hi
  exact ⟨a, cap, hv⟩
end Go.Proofs.Ytmiinmndbkdjbaa

/- Are two trees, two texts, two lists one? -/
namespace Go.Proofs.Ytmiinmndbkdjbaa
set_option linter.unusedVariables false
set_option linter.unusedSimpArgs false
open Go.RowKit
open Classical in
noncomputable def eqv {α : Type} (a b : α) : Bool := decide (a = b)
open Classical in
theorem eqv_yes {α : Type} {a b : α} (h : a = b) : eqv a b = true := by unfold eqv; exact decide_eq_true h
open Classical in
theorem eqv_no {α : Type} {a b : α} (h : a ≠ b) : eqv a b = false := by unfold eqv; exact decide_eq_false h
open Classical in
theorem eqv_iff {α : Type} {a b : α} : eqv a b = true ↔ a = b := by unfold eqv; exact decide_eq_true_iff
theorem list_ne {α : Type} {l l' : List α} {k : Nat} {x y : α} (h : l[k]? = some x) (h' : l'[k]? = some y) (hne : x ≠ y) : l ≠ l' := by
  rintro rfl; rw [h] at h'; injection h' with h'; exact hne h'
theorem list_eq_of {α : Type} {l l' : List α} (hl : l.length = l'.length) (h : ∀ (j : Nat) x, j < l.length → l[j]? = some x → l'[j]? = some x) : l = l' := by
  apply List.ext_getElem? 
  intro j
  rcases Nat.lt_or_ge j l.length with hj | hj
  · have := List.getElem?_eq_getElem hj
    rw [this, h j _ hj this]
  · rw [List.getElem?_eq_none hj, List.getElem?_eq_none (by omega)]
theorem tl_ne {s s' : ByteArray} (h : s ≠ s') : (s.toList == s'.toList) = false := by
  rw [beq_eq_false_iff_ne]
  intro he
  rw [ByteArray.toList_eq, ByteArray.toList_eq] at he
  apply h
  cases s; cases s'
  simp at he
  rw [he]
theorem Te.rk_pos' (e : Te) : 1 ≤ e.rk := by cases e; simp only [Te.rk]; omega
theorem eqT {op : Int} {nm : ByteArray} {x x2 : List Ex} {t t2 : List Te} : eqv (Te.mk op nm x t) (Te.mk op nm x2 t2) = (eqv x x2 && eqv t t2) := by
  rw [Bool.eq_iff_iff, Bool.and_eq_true, eqv_iff, eqv_iff, eqv_iff]
  constructor
  · intro h; injection h with _ _ h1 h2; exact ⟨h1, h2⟩
  · rintro ⟨rfl, rfl⟩; rfl
end Go.Proofs.Ytmiinmndbkdjbaa

/- What is built, opened; nodes within; observables: plain. -/
namespace Go.Proofs.Ytmiinmndbkdjbaa
set_option linter.unusedVariables false
set_option linter.unusedSimpArgs false
open Go.RowKit
theorem bT_inv {op : Int} {nm : ByteArray} {x : List Ex} {l : List Te} (h : bT (.mk op nm x l) = true) :
    arX op = (x.length : Nat) ∧ arT op = (l.length : Nat) ∧ okT op nm = true ∧ (∀ e ∈ x, bE e = true) ∧ ∀ t ∈ l, bT t = true := by
  rw [bT, bT_go] at h
  simp only [Bool.and_eq_true, beq_iff_eq, Bool.not_eq_true', List.any_eq_false, Bool.not_eq_true, Bool.not_eq_false'] at h
  obtain ⟨⟨⟨⟨h1, h2⟩, h3⟩, h4⟩, h5⟩ := h
  exact ⟨h1, h2, h3, (fun e he => by have := h4 e he; simpa using this), (fun e he => by have := h5 e he; simpa using this)⟩
theorem bT_mk {op : Int} {nm : ByteArray} {x : List Ex} {l : List Te} (h1 : arX op = (x.length : Nat)) (h2 : arT op = (l.length : Nat)) (h3 : okT op nm = true) (h4 : ∀ e ∈ x, bE e = true) (h5 : ∀ t ∈ l, bT t = true) : bT (.mk op nm x l) = true := by
  rw [bT, bT_go]
  simp only [Bool.and_eq_true, beq_iff_eq, Bool.not_eq_true', List.any_eq_false, Bool.not_eq_true, Bool.not_eq_false']
  exact ⟨⟨⟨⟨h1, h2⟩, h3⟩, (fun e he => by simp [h4 e he])⟩, (fun e he => by simp [h5 e he])⟩
theorem getD_mem {α : Type} {l : List α} {k : Nat} {d : α} (h : k < l.length) : l.getD k d ∈ l := by
  rw [List.getD_eq_getElem?_getD, List.getElem?_eq_getElem h]; exact List.getElem_mem _
theorem bE_inv {op n : Int} {nm : ByteArray} {l : List Ex} (h : bE (.mk op n nm l) = true) : ar op = (l.length : Nat) ∧ okE op n nm = true ∧ ∀ e ∈ l, bE e = true := by
  rw [bE, bE_go] at h
  simp only [Bool.and_eq_true, beq_iff_eq, Bool.not_eq_true', List.any_eq_false, Bool.not_eq_true, Bool.not_eq_false'] at h
  obtain ⟨⟨h1, h2⟩, h3⟩ := h
  exact ⟨h1, h2, fun e he => by have := h3 e he; simpa using this⟩
theorem bE_of {op n : Int} {nm : ByteArray} {l : List Ex} (h1 : ar op = (l.length : Nat)) (h2 : okE op n nm = true) (h3 : ∀ e ∈ l, bE e = true) : bE (.mk op n nm l) = true := by
  rw [bE, bE_go]
  simp only [Bool.and_eq_true, beq_iff_eq, Bool.not_eq_true', List.any_eq_false, Bool.not_eq_true, Bool.not_eq_false']
  exact ⟨⟨h1, h2⟩, fun e he => by simp [h3 e he]⟩
theorem nd_go_mem {l : List Te} {t : Te} (h : t ∈ l) : t.nd ≤ Te.nd.go l := by
  induction l with
  | nil => cases h
  | cons y s ih =>
    simp only [Te.nd.go]
    rcases List.mem_cons.1 h with rfl | h
    · omega
    · have := ih h; omega
theorem rk_go_mem {l : List Te} {t : Te} (h : t ∈ l) : t.rk ≤ Te.rk.go l := by
  induction l with
  | nil => cases h
  | cons y s ih =>
    simp only [Te.rk.go]
    rcases List.mem_cons.1 h with rfl | h
    · omega
    · have := ih h; omega
/-- The observables of an expression, as they are met. -/
def obsE : Ex → List ByteArray
  | .mk op _ nm l => (if op = 3 then [nm] else []) ++ go l
  where go : List Ex → List ByteArray
  | [] => []
  | e :: t => obsE e ++ go t
theorem obs_take {l : List Ex} {k : Nat} {e : Ex} (h : l[k]? = some e) : obsE.go (l.take (k + 1)) = obsE.go (l.take k) ++ obsE e := by
  induction l generalizing k with
  | nil => cases h
  | cons x t ih =>
    cases k with
    | zero => simp at h; subst h; simp [obsE.go]
    | succ j => simp only [List.take_succ_cons, obsE.go]; rw [ih (by simpa using h), List.append_assoc]
theorem obs_go {l : List Ex} {s : ByteArray} : s ∈ obsE.go l ↔ ∃ e ∈ l, s ∈ obsE e := by
  induction l with
  | nil => simp [obsE.go]
  | cons x t ih => simp only [obsE.go, List.mem_append, ih, List.mem_cons, exists_eq_or_imp]
end Go.Proofs.Ytmiinmndbkdjbaa

/- Kinds, what fits, and the first fault: plain. -/
namespace Go.Proofs.Ytmiinmndbkdjbaa
set_option linter.unusedVariables false
set_option linter.unusedSimpArgs false
open Go.RowKit
def needK (op : Int) : Int := if (5 ≤ op ∧ op ≤ 10) ∨ op = 20 then 1 else if 11 ≤ op ∧ op ≤ 16 then 1 else if op = 17 ∨ op = 18 ∨ op = 19 then 2 else 0
def isK (op : Int) : Int := if (5 ≤ op ∧ op ≤ 10) ∨ op = 20 then 1 else if 11 ≤ op ∧ op ≤ 16 then 2 else if op = 17 ∨ op = 18 ∨ op = 19 then 2 else 1
def kOf (op : Int) (l : List Int) : Int := if op = 21 then (if l.getD 0 0 = 2 ∧ l.getD 1 0 = l.getD 2 0 then l.getD 1 0 else 0) else if l.all (fun k => decide (k = needK op)) then isK op else 0
def kE : Ex → Int
  | .mk op _ _ l => kOf op (go l)
  where go : List Ex → List Int
  | [] => []
  | e :: t => kE e :: go t
theorem kE_go (l : List Ex) : kE.go l = l.map kE := by
  induction l with
  | nil => rfl
  | cons x t ih => simp only [kE.go, ih, List.map_cons]
theorem kE_mk (op n : Int) (nm : ByteArray) (l : List Ex) : kE (.mk op n nm l) = kOf op (l.map kE) := by rw [kE, kE_go]
theorem isK_01 (op : Int) : isK op = 1 ∨ isK op = 2 := by
  unfold isK
  repeat' split
  all_goals first | exact .inl rfl | exact .inr rfl
theorem kE_bd : ∀ (r : Nat) (e : Ex), e.rk ≤ r → kE e = 0 ∨ kE e = 1 ∨ kE e = 2 := by
  intro r
  induction r with
  | zero => intro e h; have := e.rk_pos; omega
  | succ r ih =>
    intro e hr
    obtain ⟨op, n, nm, l⟩ := e
    rw [kE_mk]
    unfold kOf
    by_cases h21 : op = 21
    · rw [if_pos h21]
      split
      · rw [List.getD_eq_getElem?_getD, List.getElem?_map]
        cases h1 : l[1]? with
        | none => exact .inl rfl
        | some x => exact ih x (by have := Ex.rk_lt (op := op) (n := n) (nm := nm) h1; omega)
      · exact .inl rfl
    · rw [if_neg h21]
      split
      · rcases isK_01 op with h | h
        · exact .inr (.inl h)
        · exact .inr (.inr h)
      · exact .inl rfl
/-- The document's own kind. -/
def rkOf (op : Int) (l : List Int) : Int :=
  if op ≤ 4 then 1 else if (op ≤ 10 ∨ op = 20) ∧ l.all (fun k => decide (k = 1)) then 1 else if 11 ≤ op ∧ op ≤ 16 ∧ l.all (fun k => decide (k = 1)) then 2
  else if 17 ≤ op ∧ op ≤ 19 ∧ l.all (fun k => decide (k = 2)) then 2 else if op = 21 ∧ l.getD 0 0 = 2 ∧ l.getD 1 0 = l.getD 2 0 then l.getD 1 0 else 0
theorem ar_op {op : Int} (h : 0 ≤ ar op) : 1 ≤ op ∧ op ≤ 21 := by
  unfold ar at h
  repeat' split at h
  all_goals omega
theorem ar_nil {op : Int} (h1 : 1 ≤ op) (h4 : op ≤ 4) : ar op = 0 := by unfold ar; rw [if_pos ⟨h1, h4⟩]
theorem rkOf_eq {op : Int} {l : List Int} (h : ar op = (l.length : Nat)) : rkOf op l = kOf op l := by
  obtain ⟨h1, h2⟩ := ar_op (by omega : 0 ≤ ar op)
  unfold rkOf kOf needK isK
  by_cases h4 : op ≤ 4
  · have hl : l = [] := List.length_eq_zero_iff.1 (by rw [ar_nil h1 h4] at h; omega)
    subst hl
    rw [if_pos h4, if_neg (by omega)]
    simp
    repeat' split
    all_goals first | rfl | omega
  · rw [if_neg h4]
    by_cases h10 : op ≤ 10 ∨ op = 20
    · have e : (5 ≤ op ∧ op ≤ 10) ∨ op = 20 := by omega
      have n21 : ¬ op = 21 := by omega
      have n11 : ¬ (11 ≤ op ∧ op ≤ 16) := by omega
      have n17 : ¬ (17 ≤ op ∧ op ≤ 19) := by omega
      simp only [if_pos e, if_neg n21, h10, true_and, n21, false_and, if_false]
      by_cases ha : l.all (fun k => decide (k = 1)) = true
      · simp [ha]
      · simp [ha, n11, n17]
        intro a b; omega
    · have e : ¬ ((5 ≤ op ∧ op ≤ 10) ∨ op = 20) := by omega
      rw [if_neg (by intro hh; exact h10 hh.1)]
      by_cases h16 : 11 ≤ op ∧ op ≤ 16
      · have n21 : ¬ op = 21 := by omega
        have n17 : ¬ (17 ≤ op ∧ op ≤ 19) := by omega
        by_cases ha : l.all (fun k => decide (k = 1)) = true
        · rw [if_pos ⟨h16.1, h16.2, ha⟩, if_neg n21, if_neg e, if_pos h16, if_pos ha, if_neg e, if_pos h16]
        · rw [if_neg (fun hh => ha hh.2.2), if_neg (fun hh => n17 ⟨hh.1, hh.2.1⟩), if_neg (fun hh => n21 hh.1), if_neg n21, if_neg e, if_pos h16, if_neg ha]
      · rw [if_neg (fun hh => h16 ⟨hh.1, hh.2.1⟩)]
        by_cases h17 : 17 ≤ op ∧ op ≤ 19
        · have n21 : ¬ op = 21 := by omega
          have e17 : op = 17 ∨ op = 18 ∨ op = 19 := by omega
          by_cases ha : l.all (fun k => decide (k = 2)) = true
          · rw [if_pos ⟨h17.1, h17.2, ha⟩, if_neg n21, if_neg e, if_neg h16, if_pos e17, if_pos ha, if_neg e, if_neg h16, if_pos e17]
          · rw [if_neg (fun hh => ha hh.2.2), if_neg (fun hh => n21 hh.1), if_neg n21, if_neg e, if_neg h16, if_pos e17, if_neg ha]
        · have h21 : op = 21 := by omega
          rw [if_neg (fun hh => h17 ⟨hh.1, hh.2.1⟩), if_pos h21]
          by_cases hb : l.getD 0 0 = 2 ∧ l.getD 1 0 = l.getD 2 0
          · rw [if_pos ⟨h21, hb.1, hb.2⟩, if_pos hb]
          · rw [if_neg (fun hh => hb hh.2), if_neg hb]
end Go.Proofs.Ytmiinmndbkdjbaa

/- What is folded: plain. -/
namespace Go.Proofs.Ytmiinmndbkdjbaa
set_option linter.unusedVariables false
set_option linter.unusedSimpArgs false
open Go.RowKit
def minI : Int := -9223372036854775808
/-- A constant's value. -/
def knownE : Ex → Option Int
  | .mk op n _ l => if op = 1 ∨ op = 2 then some n else if op = 20 then (match l with | .mk o m _ _ :: _ => if o = 1 then some (-m) else none | [] => none) else none
def fitI (z : Int) : Option Int := if -9223372036854775808 ≤ z ∧ z ≤ 9223372036854775807 then some z else none
/-- What an op makes of numbers. -/
def valueM (op : Int) (l : List Int) : Option Int :=
  if op = 5 then fitI (l.getD 0 0 + l.getD 1 0) else if op = 6 then fitI (l.getD 0 0 - l.getD 1 0) else if op = 7 then fitI (l.getD 0 0 * l.getD 1 0)
  else if op = 8 then (if l.getD 1 0 = 0 then none else fitI ((l.getD 0 0).fdiv (l.getD 1 0))) else if op = 9 then some (min (l.getD 0 0) (l.getD 1 0)) else if op = 10 then some (max (l.getD 0 0) (l.getD 1 0))
  else if op = 20 then fitI (-(l.getD 0 0)) else none
def constE (n : Int) : Ex := if 0 ≤ n then .mk 1 n ⟨#[]⟩ [] else .mk 20 0 ⟨#[]⟩ [.mk 1 (-n) ⟨#[]⟩ []]
/-- The last step, when all within is folded. -/
def foldO (op n : Int) (nm : ByteArray) (l : List Ex) : Ex :=
  if (l.filterMap knownE).length < l.length ∨ (l.filterMap knownE).length = 0 then .mk op n nm l
  else match valueM op (l.filterMap knownE) with | some v => if v = minI then .mk op n nm l else constE v | none => .mk op n nm l
def foldE : Ex → Ex
  | .mk op n nm l => foldO op n nm (go l)
  where go : List Ex → List Ex
  | [] => []
  | e :: t => foldE e :: go t
theorem foldE_go (l : List Ex) : foldE.go l = l.map foldE := by
  induction l with
  | nil => rfl
  | cons x t ih => simp only [foldE.go, ih, List.map_cons]
theorem foldE_mk (op n : Int) (nm : ByteArray) (l : List Ex) : foldE (.mk op n nm l) = foldO op n nm (l.map foldE) := by rw [foldE, foldE_go]
/-- Itself, or a constant: then all within are constants, and there is something within. -/
theorem foldO_cases (op n : Int) (nm : ByteArray) (l : List Ex) :
    foldO op n nm l = .mk op n nm l ∨ ∃ v, valueM op (l.filterMap knownE) = some v ∧ v ≠ minI ∧ foldO op n nm l = constE v ∧ (l.filterMap knownE).length = l.length ∧ 0 < l.length := by
  unfold foldO
  by_cases h : (l.filterMap knownE).length < l.length ∨ (l.filterMap knownE).length = 0
  · rw [if_pos h]; exact .inl rfl
  · rw [if_neg h]
    have hle := List.length_filterMap_le knownE l
    cases hv : valueM op (l.filterMap knownE) with
    | none => exact .inl rfl
    | some v =>
      by_cases hm : v = minI
      · simp [hm]
      · simp only [hm, if_false]
        exact .inr ⟨v, rfl, hm, rfl, by omega, by omega⟩
theorem all_known : ∀ {l : List Ex}, (l.filterMap knownE).length = l.length → ∀ e ∈ l, ∃ v, knownE e = some v
  | [], _, e, he => by cases he
  | x :: t, h, e, he => by
    cases hx : knownE x with
    | none =>
      rw [List.filterMap_cons_none hx] at h
      have := List.length_filterMap_le knownE t
      simp only [List.length_cons] at h; omega
    | some v =>
      rw [List.filterMap_cons_some hx, List.length_cons, List.length_cons] at h
      rcases List.mem_cons.1 he with rfl | he
      · exact ⟨v, hx⟩
      · exact all_known (by omega) e he
theorem value_op {op : Int} {l : List Int} {v : Int} (h : valueM op l = some v) : (5 ≤ op ∧ op ≤ 10) ∨ op = 20 := by
  unfold valueM at h
  repeat' split at h
  all_goals first | omega | cases h
/-- A constant that is built is a number. -/
theorem known_kind {e : Ex} (hb : bE e = true) {v : Int} (h : knownE e = some v) : kE e = 1 := by
  obtain ⟨op, n, nm, l⟩ := e
  obtain ⟨h1, -, h3⟩ := bE_inv hb
  rw [kE_mk]
  simp only [knownE] at h
  by_cases ho : op = 1 ∨ op = 2
  · have hl : l = [] := List.length_eq_zero_iff.1 (by rw [ar_nil (by omega) (by omega)] at h1; omega)
    subst hl
    rcases ho with rfl | rfl <;> rfl
  · rw [if_neg ho] at h
    by_cases h20 : op = 20
    · rw [if_pos h20] at h
      subst h20
      match l, h1, h3, h with
      | [], _, _, h => cases h
      | .mk o m nm' l' :: t, h1, h3, h =>
        by_cases ho1 : o = 1
        · subst ho1
          have ht : t = [] := List.length_eq_zero_iff.1 (by rw [show ar 20 = 1 by decide] at h1; simp only [List.length_cons] at h1; omega)
          subst ht
          obtain ⟨g1, -, -⟩ := bE_inv (h3 (.mk 1 m nm' l') (by simp))
          have hl' : l' = [] := List.length_eq_zero_iff.1 (by rw [show ar 1 = 0 by decide] at g1; omega)
          subst hl'
          rfl
        · simp [ho1] at h
    · rw [if_neg h20] at h; cases h
theorem const_kind (v : Int) : kE (constE v) = 1 := by
  unfold constE
  split <;> rfl
theorem const_built (v : Int) : bE (constE v) = true := by
  have h1 : ∀ m : Int, 0 ≤ m → bE (.mk 1 m ⟨#[]⟩ []) = true := fun m hm => bE_of rfl (by unfold okE; simp [hm]) (by simp)
  unfold constE
  split
  · rename_i h; exact h1 v h
  · rename_i h
    refine bE_of rfl (by unfold okE; simp) (fun e he => ?_)
    rw [List.mem_singleton] at he
    subst he
    exact h1 _ (by omega)
theorem const_nd (v : Int) : (constE v).nd ≤ 2 ∧ (constE v).rk ≤ 2 := by
  unfold constE
  split <;> simp [Ex.nd, Ex.nd.go, Ex.rk, Ex.rk.go]
/-- What holds of an expression if it holds of what is within, goes through. -/
theorem fold_ind {Q : Ex → Ex → Prop}
    (h : ∀ op n nm l, bE (.mk op n nm l) = true → bE (.mk op n nm (l.map foldE)) = true → (∀ e ∈ l, Q e (foldE e)) → Q (.mk op n nm l) (foldO op n nm (l.map foldE))) :
    ∀ (r : Nat) (e : Ex), e.rk ≤ r → bE e = true → bE (foldE e) = true ∧ Q e (foldE e) := by
  intro r
  induction r with
  | zero => intro e h; have := e.rk_pos; omega
  | succ r ih =>
    intro e hr hb
    obtain ⟨op, n, nm, l⟩ := e
    obtain ⟨h1, h2, h3⟩ := bE_inv hb
    have hih : ∀ e ∈ l, bE (foldE e) = true ∧ Q e (foldE e) := by
      intro e he
      obtain ⟨k, hk⟩ := List.getElem?_of_mem he
      exact ih e (by have := Ex.rk_lt (op := op) (n := n) (nm := nm) hk; omega) (h3 e he)
    have hb' : bE (.mk op n nm (l.map foldE)) = true := bE_of (by rw [List.length_map]; exact h1) h2 (fun e he => by
      obtain ⟨y, hy, rfl⟩ := List.mem_map.1 he
      exact (hih y hy).1)
    rw [foldE_mk]
    refine ⟨?_, h op n nm l hb hb' (fun e he => (hih e he).2)⟩
    rcases foldO_cases op n nm (l.map foldE) with e | ⟨v, -, -, e, -, -⟩
    · rw [e]; exact hb'
    · rw [e]; exact const_built v
theorem foldE_built (e : Ex) (hb : bE e = true) : bE (foldE e) = true := (fold_ind (Q := fun _ _ => True) (fun _ _ _ _ _ _ _ => trivial) _ e (Nat.le_refl _) hb).1
theorem foldE_kind (e : Ex) (hb : bE e = true) : kE (foldE e) = kE e := by
  refine (fold_ind (Q := fun e s => kE s = kE e) ?_ _ e (Nat.le_refl _) hb).2
  intro op n nm l hb hb' hq
  have hk : kE (.mk op n nm (l.map foldE)) = kE (.mk op n nm l) := by
    rw [kE_mk, kE_mk, List.map_map]
    congr 1
    exact List.map_congr_left (fun e he => hq e he)
  rcases foldO_cases op n nm (l.map foldE) with e | ⟨v, hv, -, e, hl, h0⟩
  · rw [e]; exact hk
  · rw [e, const_kind, ← hk, kE_mk]
    have hop := value_op hv
    obtain ⟨-, -, h3⟩ := bE_inv hb'
    have hall : ((l.map foldE).map kE).all (fun k => decide (k = needK op)) = true := by
      rw [List.all_eq_true]
      intro k hk'
      obtain ⟨c, hc, rfl⟩ := List.mem_map.1 hk'
      obtain ⟨u, hu⟩ := all_known hl c hc
      rw [known_kind (h3 c hc) hu, decide_eq_true_eq]
      unfold needK; rw [if_pos hop]
    unfold kOf
    rw [if_neg (by omega), if_pos hall]
    unfold isK; rw [if_pos hop]
theorem ndE_map {l : List Ex} (h : ∀ e ∈ l, (foldE e).nd ≤ e.nd) : Ex.nd.go (l.map foldE) ≤ Ex.nd.go l := by
  induction l with
  | nil => exact Nat.le_refl _
  | cons y s ih =>
    simp only [List.map_cons, Ex.nd.go]
    have h1 := h y (by simp)
    have h2 := ih (fun t ht => h t (by simp [ht]))
    omega
theorem rkE_map {l : List Ex} (h : ∀ e ∈ l, (foldE e).rk ≤ e.rk) : Ex.rk.go (l.map foldE) ≤ Ex.rk.go l := by
  induction l with
  | nil => exact Nat.le_refl _
  | cons y s ih =>
    simp only [List.map_cons, Ex.rk.go]
    have h1 := h y (by simp)
    have h2 := ih (fun t ht => h t (by simp [ht]))
    omega
theorem ndE_pos {l : List Ex} (h : 0 < l.length) : 1 ≤ Ex.nd.go l ∧ 1 ≤ Ex.rk.go l := by
  cases l with
  | nil => simp at h
  | cons y s =>
    simp only [Ex.nd.go, Ex.rk.go]
    have := y.nd_pos'
    have := y.rk_pos
    omega
theorem foldE_size (e : Ex) (hb : bE e = true) : (foldE e).nd ≤ e.nd ∧ (foldE e).rk ≤ e.rk := by
  refine (fold_ind (Q := fun e s => s.nd ≤ e.nd ∧ s.rk ≤ e.rk) ?_ _ e (Nat.le_refl _) hb).2
  intro op n nm l _ _ hq
  rcases foldO_cases op n nm (l.map foldE) with e | ⟨v, -, -, e, -, h0⟩
  · rw [e]
    have h1 := ndE_map (fun e he => (hq e he).1)
    have h2 := rkE_map (fun e he => (hq e he).2)
    simp only [Ex.nd, Ex.rk]
    omega
  · rw [e]
    rw [List.length_map] at h0
    have h1 := const_nd v
    have h2 := ndE_pos h0
    simp only [Ex.nd, Ex.rk]
    omega
theorem foldE_const {v : Int} (hv : v ≠ minI) (h1 : -9223372036854775808 ≤ v) (h2 : v ≤ 9223372036854775807) : foldE (constE v) = constE v := by
  unfold constE
  split
  · rename_i h
    rw [foldE_mk]; rfl
  · rename_i h
    rw [foldE_mk]
    have e1 : foldE (.mk 1 (-v) ⟨#[]⟩ []) = .mk 1 (-v) ⟨#[]⟩ [] := by rw [foldE_mk]; rfl
    rw [List.map_singleton, e1]
    unfold foldO
    have e2 : ([Ex.mk 1 (-v) ⟨#[]⟩ []].filterMap knownE) = [-v] := by simp [knownE]
    rw [e2, if_neg (by simp)]
    have e3 : valueM 20 [-v] = some v := by
      unfold valueM fitI
      simp
      omega
    rw [e3]
    simp only [hv, if_false]
    unfold constE
    rw [if_neg h]
theorem value_bd {op : Int} {l : List Int} {v : Int} (hl : ∀ x ∈ l, -9223372036854775808 ≤ x ∧ x ≤ 9223372036854775807) (h : valueM op l = some v) : -9223372036854775808 ≤ v ∧ v ≤ 9223372036854775807 := by
  have hg : ∀ i, -9223372036854775808 ≤ l.getD i 0 ∧ l.getD i 0 ≤ 9223372036854775807 := by
    intro i
    rw [List.getD_eq_getElem?_getD]
    cases hi : l[i]? with
    | none => exact ⟨by decide, by decide⟩
    | some x => exact hl x (List.mem_of_getElem? hi)
  have hf : ∀ z, fitI z = some v → -9223372036854775808 ≤ v ∧ v ≤ 9223372036854775807 := by
    intro z hz
    unfold fitI at hz
    split at hz
    · injection hz with hz; subst hz; assumption
    · cases hz
  have g0 := hg 0
  have g1 := hg 1
  unfold valueM at h
  repeat' split at h
  all_goals first | exact hf _ h | (injection h with h; omega) | cases h
/-- All numbers lie within 64 bits. -/
def NumsE : Ex → Prop
  | .mk _ n _ l => I64 n ∧ go l
  where go : List Ex → Prop
  | [] => True
  | e :: t => NumsE e ∧ go t
theorem nums_go {l : List Ex} : NumsE.go l ↔ ∀ e ∈ l, NumsE e := by
  induction l with
  | nil => simp [NumsE.go]
  | cons x t ih => simp only [NumsE.go, ih, List.mem_cons, forall_eq_or_imp]
theorem RepE.nums {w : World} {X : List Nat} : ∀ (r : Nat) (e : Ex), e.rk ≤ r → ∀ (cs : List Value), RepE w X e cs → NumsE e := by
  intro r
  induction r with
  | zero => intro e h; have := e.rk_pos; omega
  | succ r ih =>
    intro e hr cs h
    obtain ⟨op, n, nm, l, a, len, cap, rfl, rfl, -, h2, -, hS⟩ := h.inv
    have hf := hS.facts
    refine ⟨h2, nums_go.2 (fun e he => ?_)⟩
    obtain ⟨k, hk⟩ := List.getElem?_of_mem he
    have hkl : k < l.length := (List.getElem?_eq_some_iff.1 hk).1
    obtain ⟨b, o, op', n', nm', args, a', len', cap', -, -, -, hx, j1, j2, j3, hS', -⟩ := hS.at k (by omega)
    rw [hk] at hx
    injection hx with hx
    subst hx
    exact ih _ (by have := Ex.rk_lt (op := op) (n := n) (nm := nm) hk; omega) _ (RepE.mk' j1 j2 j3 hS')
theorem known_bd {e : Ex} (hb : bE e = true) (hn : NumsE e) {v : Int} (h : knownE e = some v) : -9223372036854775808 ≤ v ∧ v ≤ 9223372036854775807 := by
  obtain ⟨op, n, nm, l⟩ := e
  obtain ⟨h1, -, h3⟩ := bE_inv hb
  obtain ⟨n1, n2⟩ := hn
  simp only [knownE] at h
  unfold I64 at n1
  by_cases ho : op = 1 ∨ op = 2
  · rw [if_pos ho] at h; injection h with h; subst h; omega
  · rw [if_neg ho] at h
    by_cases h20 : op = 20
    · rw [if_pos h20] at h
      match l, h3, n2, h with
      | [], _, _, h => cases h
      | .mk o m nm' l' :: t, h3, n2, h =>
        by_cases ho1 : o = 1
        · simp [ho1] at h
          subst h
          obtain ⟨-, g2, -⟩ := bE_inv (h3 (.mk o m nm' l') (by simp))
          have g3 : 0 ≤ m := by
            unfold okE at g2
            simp only [Bool.and_eq_true, decide_eq_true_eq] at g2
            exact g2.1.1.2
          have g4 := n2.1.1
          unfold I64 at g4
          omega
        · simp [ho1] at h
    · rw [if_neg h20] at h; cases h
theorem const_nums {v : Int} (h1 : -9223372036854775808 < v) (h2 : v ≤ 9223372036854775807) : NumsE (constE v) := by
  unfold constE
  split
  · exact ⟨⟨by omega, h2⟩, trivial⟩
  · exact ⟨⟨by omega, by omega⟩, ⟨⟨by omega, by omega⟩, trivial⟩, trivial⟩
theorem foldE_twice (e : Ex) (hb : bE e = true) (hn : NumsE e) : NumsE (foldE e) ∧ foldE (foldE e) = foldE e := by
  refine (fold_ind (Q := fun e s => NumsE e → NumsE s ∧ foldE s = s) ?_ _ e (Nat.le_refl _) hb).2 hn
  intro op n nm l _ hb' hq hN
  obtain ⟨m1, m2⟩ := hN
  have hl : ∀ e ∈ l, NumsE (foldE e) ∧ foldE (foldE e) = foldE e := fun e he => hq e he (nums_go.1 m2 e he)
  have hmap : (l.map foldE).map foldE = l.map foldE := by
    rw [List.map_map]
    exact List.map_congr_left (fun e he => (hl e he).2)
  rcases foldO_cases op n nm (l.map foldE) with e | ⟨v, hv, hm, e, -, -⟩
  · rw [e, foldE_mk, hmap, e]
    exact ⟨⟨m1, nums_go.2 (fun e he => by obtain ⟨y, hy, rfl⟩ := List.mem_map.1 he; exact (hl y hy).1)⟩, rfl⟩
  · rw [e]
    obtain ⟨-, -, h3⟩ := bE_inv hb'
    have hbd := value_bd (fun x hx => by
      obtain ⟨c, hc, hk⟩ := List.mem_filterMap.1 hx
      obtain ⟨y, hy, hyc⟩ := List.mem_map.1 hc
      exact known_bd (h3 c hc) (by rw [← hyc]; exact (hl y hy).1) hk) hv
    have hm' : v ≠ -9223372036854775808 := hm
    exact ⟨const_nums (by omega) hbd.2, foldE_const hm hbd.1 hbd.2⟩
end Go.Proofs.Ytmiinmndbkdjbaa

/- What an expression is, whatever is seen: plain. -/
namespace Go.Proofs.Ytmiinmndbkdjbaa
set_option linter.unusedVariables false
set_option linter.unusedSimpArgs false
open Go.RowKit
inductive Vl where
  | unk : Vl
  | num (n : Int) : Vl
  | tru (b : Bool) : Vl
  | brk : Vl
deriving DecidableEq
def Vl.N : Vl → Int | .num n => n | _ => 0
def Vl.B : Vl → Bool | .tru b => b | _ => false
/-- A fixing. -/
structure Fx where
  name : ByteArray
  day : Int
  val : Int
/-- The last of those that count, the first of these on a day: its day and its value. -/
noncomputable def seenF (day : Int) (nm : ByteArray) : List Fx → Option (Int × Int) → Option (Int × Int)
  | [], b => b
  | f :: t, b => seenF day nm t (if eqv f.name nm = true ∧ f.day ≤ day ∧ (∀ p, b = some p → p.1 < f.day) then some (f.day, f.val) else b)
noncomputable def seenV (day : Int) (fx : List Fx) (nm : ByteArray) : Vl := match seenF day nm fx none with | some p => .num p.2 | none => .unk
def numV : Option Int → Vl | some n => .num n | none => .brk
def cmpV (op a b : Int) : Bool := if op = 11 then decide (a < b) else if op = 12 then decide (a ≤ b) else if op = 13 then decide (a = b) else if op = 14 then decide (a ≠ b) else if op = 15 then decide (b ≤ a) else decide (b < a)
def twoV (op a b : Int) : Vl := if 5 ≤ op ∧ op ≤ 10 then numV (valueM op [a, b]) else .tru (cmpV op a b)
def bothV (s : Bool) (a b : Vl) : Vl := if a = .brk ∨ a = .tru s then a else if (∃ t, a = .tru t) ∨ b = .brk ∨ b = .tru s then b else .unk
def opV (op : Int) (vs : List Vl) : Vl :=
  if op = 17 ∨ op = 18 then bothV (decide (op = 18)) (vs.getD 0 .unk) (vs.getD 1 .unk)
  else if op = 21 then (match vs.getD 0 .unk with | .unk => .unk | .brk => .brk | .num _ => vs.getD 2 .unk | .tru t => if t = true then vs.getD 1 .unk else vs.getD 2 .unk)
  else if op = 19 then (match vs.getD 0 .unk with | .unk => .unk | .brk => .brk | .num _ => .tru true | .tru t => .tru (!t))
  else if op = 20 then (match vs.getD 0 .unk with | .unk => .unk | .brk => .brk | .num x => numV (fitI (-x)) | .tru _ => .num 0)
  else if vs.getD 0 .unk = .brk ∨ vs.getD 1 .unk = .brk then .brk else if vs.getD 0 .unk = .unk ∨ vs.getD 1 .unk = .unk then .unk else twoV op (vs.getD 0 .unk).N (vs.getD 1 .unk).N
noncomputable def evO (day : Int) (fx : List Fx) (op n : Int) (nm : ByteArray) (vs : List Vl) : Vl :=
  if op = 1 ∨ op = 2 then .num n else if op = 4 then .num day else if op = 3 then seenV day fx nm else opV op vs
noncomputable def evalE (day : Int) (fx : List Fx) : Ex → Vl
  | .mk op n nm l => evO day fx op n nm (go l)
  where go : List Ex → List Vl
  | [] => []
  | e :: t => evalE day fx e :: go t
theorem evalE_go (day : Int) (fx : List Fx) (l : List Ex) : evalE.go day fx l = l.map (evalE day fx) := by
  induction l with
  | nil => rfl
  | cons x t ih => simp only [evalE.go, ih, List.map_cons]
theorem evalE_mk (day : Int) (fx : List Fx) (op n : Int) (nm : ByteArray) (l : List Ex) : evalE day fx (.mk op n nm l) = evO day fx op n nm (l.map (evalE day fx)) := by rw [evalE, evalE_go]
/-- A constant is what it is known as. -/
theorem eval_known {day : Int} {fx : List Fx} {e : Ex} (hb : bE e = true) (hn : NumsE e) {v : Int} (h : knownE e = some v) : evalE day fx e = .num v := by
  have hbd := known_bd hb hn h
  obtain ⟨op, n, nm, l⟩ := e
  simp only [knownE] at h
  rw [evalE_mk]
  unfold evO
  by_cases ho : op = 1 ∨ op = 2
  · rw [if_pos ho] at h ⊢; injection h with h; rw [h]
  · rw [if_neg ho] at h ⊢
    by_cases h20 : op = 20
    · rw [if_pos h20] at h
      subst h20
      match l, h with
      | [], h => cases h
      | .mk o m nm' l' :: t, h =>
        by_cases ho1 : o = 1
        · simp [ho1] at h
          subst h
          rw [if_neg (by omega), if_neg (by omega), List.map_cons, evalE_mk]
          simp [evO, opV, ho1, fitI, hbd, numV]
        · simp [ho1] at h
    · rw [if_neg h20] at h; cases h
theorem eval_const {day : Int} {fx : List Fx} {v : Int} (h1 : -9223372036854775808 ≤ v) (h2 : v ≤ 9223372036854775807) : evalE day fx (constE v) = .num v := by
  unfold constE
  split
  · simp [evalE_mk, evO]
  · simp [evalE_mk, evO, opV, fitI, numV, h1, h2]
theorem ar_two {op : Int} (h : 5 ≤ op ∧ op ≤ 18) : ar op = 2 := by unfold ar; rw [if_neg (by omega), if_pos h]
/-- What is folded is what it was. -/
theorem eval_fold (day : Int) (fx : List Fx) (e : Ex) (hb : bE e = true) (hn : NumsE e) : evalE day fx (foldE e) = evalE day fx e := by
  have := (fold_ind (Q := fun e s => NumsE e → NumsE s ∧ evalE day fx s = evalE day fx e) ?_ _ e (Nat.le_refl _) hb).2 hn
  · exact this.2
  intro op n nm l hb0 hb' hq hN
  obtain ⟨m1, m2⟩ := hN
  have hl : ∀ e ∈ l, NumsE (foldE e) ∧ evalE day fx (foldE e) = evalE day fx e := fun e he => hq e he (nums_go.1 m2 e he)
  have hl' : ∀ c ∈ l.map foldE, NumsE c := fun c hc => by obtain ⟨y, hy, rfl⟩ := List.mem_map.1 hc; exact (hl y hy).1
  have hmap : (l.map foldE).map (evalE day fx) = l.map (evalE day fx) := by
    rw [List.map_map]
    exact List.map_congr_left (fun e he => (hl e he).2)
  have heq : evalE day fx (.mk op n nm (l.map foldE)) = evalE day fx (.mk op n nm l) := by rw [evalE_mk, evalE_mk, hmap]
  rcases foldO_cases op n nm (l.map foldE) with e | ⟨v, hv, hm, e, hlen, h0⟩
  · rw [e]; exact ⟨⟨m1, nums_go.2 hl'⟩, heq⟩
  · obtain ⟨g1, -, h3⟩ := bE_inv hb'
    have hbd := value_bd (fun x hx => by
      obtain ⟨c, hc, hk⟩ := List.mem_filterMap.1 hx
      exact known_bd (h3 c hc) (hl' c hc) hk) hv
    have hm' : v ≠ -9223372036854775808 := hm
    rw [e, eval_const hbd.1 hbd.2, ← heq, evalE_mk]
    refine ⟨const_nums (by omega) hbd.2, ?_⟩
    have hop := value_op hv
    have hev : ∀ c ∈ l.map foldE, ∃ u, knownE c = some u ∧ evalE day fx c = .num u := by
      intro c hc
      obtain ⟨u, hu⟩ := all_known hlen c hc
      exact ⟨u, hu, eval_known (h3 c hc) (hl' c hc) hu⟩
    generalize l.map foldE = l' at *
    unfold evO
    rw [if_neg (by omega), if_neg (by omega), if_neg (by omega)]
    rcases hop with hop | rfl
    · have h2 : l'.length = 2 := by rw [ar_two (by omega)] at g1; omega
      obtain ⟨a, b, rfl⟩ : ∃ a b, l' = [a, b] := by
        match l', h2 with
        | [a, b], _ => exact ⟨a, b, rfl⟩
      obtain ⟨u, hu, eu⟩ := hev a (by simp)
      obtain ⟨t, ht, et⟩ := hev b (by simp)
      have hks : [a, b].filterMap knownE = [u, t] := by simp [hu, ht]
      rw [hks] at hv
      unfold opV
      rw [if_neg (by omega), if_neg (by omega), if_neg (by omega), if_neg (by omega)]
      simp [eu, et, twoV, hop, Vl.N, hv, numV]
    · have h1 : l'.length = 1 := by rw [show ar 20 = 1 by decide] at g1; omega
      obtain ⟨a, rfl⟩ : ∃ a, l' = [a] := by
        match l', h1 with
        | [a], _ => exact ⟨a, rfl⟩
      obtain ⟨u, hu, eu⟩ := hev a (by simp)
      have hks : [a].filterMap knownE = [u] := by simp [hu]
      rw [hks] at hv
      have hv' : fitI (-u) = some v := by simpa [valueM] using hv
      simp [opV, eu, hv', numV]
end Go.Proofs.Ytmiinmndbkdjbaa
