/- Objects beside each other in memory: each owns some blocks and stays what it is while the others are written. -/
import Derived.Test.YtgbiimoednmlgaaGrow
namespace Go.Proofs.Ytgbiimoednmlgaa
set_option linter.unusedVariables false
set_option linter.unusedSimpArgs false
open Go.RowKit
/-- An object: the blocks that it owns, and what is said of the world, where nothing of it lies in the blocks of X. -/
structure Ob where
  own : List Nat
  P : World → List Nat → Prop
  st : ∀ {w w' : World} {X Y X' : List Nat}, P w X → Kept Y w w' → (∀ b ∈ Y, b ∈ X) → (∀ b ∈ X', (b ∈ X ∨ w.heap.size ≤ b) ∧ b < w'.heap.size) → P w' X'
  lt : ∀ {w : World} {X : List Nat}, P w X → ∀ b ∈ own, b < w.heap.size
def owns : List Ob → List Nat
  | [] => []
  | o :: t => o.own ++ owns t
def others (fam : List Ob) (i : Nat) : List Nat := (List.range fam.length).flatMap fun j => if j = i then [] else ((fam[j]?).map Ob.own).getD []
def Sep (w : World) (fam : List Ob) : Prop := ∀ (i : Nat) (o : Ob), fam[i]? = some o → o.P w (others fam i)
theorem mem_owns {fam : List Ob} {b : Nat} : b ∈ owns fam ↔ ∃ (j : Nat) (o : Ob), fam[j]? = some o ∧ b ∈ o.own := by
  induction fam with
  | nil => simp [owns]
  | cons x t ih =>
    rw [owns, List.mem_append, ih]
    constructor
    · rintro (h | ⟨j, o, hj, hb⟩)
      · exact ⟨0, x, rfl, h⟩
      · exact ⟨j + 1, o, by simpa using hj, hb⟩
    · rintro ⟨j, o, hj, hb⟩
      cases j with
      | zero => simp at hj; subst hj; exact .inl hb
      | succ j => exact .inr ⟨j, o, by simpa using hj, hb⟩
theorem mem_others {fam : List Ob} {i b : Nat} : b ∈ others fam i ↔ ∃ (j : Nat) (o : Ob), j ≠ i ∧ fam[j]? = some o ∧ b ∈ o.own := by
  unfold others
  rw [List.mem_flatMap]
  constructor
  · rintro ⟨j, hj, hb⟩
    split at hb
    · cases hb
    · rename_i hne
      cases ho : fam[j]? with
      | none => rw [ho] at hb; cases hb
      | some o => rw [ho] at hb; exact ⟨j, o, hne, ho, hb⟩
  · rintro ⟨j, o, hne, ho, hb⟩
    exact ⟨j, List.mem_range.2 (List.getElem?_eq_some_iff.1 ho).1, by rw [if_neg hne, ho]; exact hb⟩
section
variable {w w' : World} {fam : List Ob} {o o' : Ob} {i : Nat} {Y : List Nat}
theorem Sep.nil (w : World) : Sep w [] := fun i o h => by simp at h
theorem Sep.lt (h : Sep w fam) : ∀ b ∈ owns fam, b < w.heap.size := by
  intro b hb
  obtain ⟨j, o, hj, hb⟩ := mem_owns.1 hb
  exact o.lt (h j o hj) b hb
theorem Sep.at (h : Sep w fam) (i : Nat) {o : Ob} (hi : fam[i]? = some o) : o.P w (others fam i) := h i o hi
/-- All others stay, one turns. -/
theorem Sep.set_ (h : Sep w fam) (i : Nat) {o o' : Ob} (hi : fam[i]? = some o) (k : Kept Y w w') (hY : ∀ b ∈ Y, b ∈ o.own ∨ w.heap.size ≤ b) (hown : ∀ b ∈ o'.own, b ∈ o.own ∨ w.heap.size ≤ b) (hP : o'.P w' (others fam i)) : Sep w' (fam.set i o') := by
  have hil : i < fam.length := (List.getElem?_eq_some_iff.1 hi).1
  intro j oj hj
  by_cases hji : j = i
  · subst hji
    rw [List.getElem?_set_self hil] at hj
    injection hj with hj
    subst hj
    have e : others (fam.set j o') j = others fam j := by
      unfold others
      rw [List.length_set]
      congr 1
      funext k
      by_cases hk : k = j
      · rw [if_pos hk, if_pos hk]
      · rw [if_neg hk, if_neg hk, List.getElem?_set_ne (fun e => hk e.symm)]
    rw [e]
    exact hP
  · rw [List.getElem?_set_ne (fun e => hji e.symm)] at hj
    have hk' : Kept (Y.filter fun b => decide (b < w.heap.size)) w w' := ⟨k.1, fun b hb hx => k.2 b hb (fun hm => hx (List.mem_filter.2 ⟨hm, by simpa using hb⟩))⟩
    refine oj.st (h j oj hj) hk' (fun b hb => ?_) (fun b hb => ?_)
    · obtain ⟨h1, h2⟩ := List.mem_filter.1 hb
      rcases hY b h1 with h3 | h3
      · exact mem_others.2 ⟨i, o, fun e => hji e.symm, hi, h3⟩
      · simp at h2; omega
    · obtain ⟨m, om, hm, hom, hbm⟩ := mem_others.1 hb
      by_cases hmi : m = i
      · subst hmi
        rw [List.getElem?_set_self hil] at hom
        injection hom with hom
        subst hom
        exact ⟨or_map (hown b hbm) (fun h1 => mem_others.2 ⟨m, o, hm, hi, h1⟩) id, o'.lt hP b hbm⟩
      · rw [List.getElem?_set_ne (fun e => hmi e.symm)] at hom
        exact ⟨.inl (mem_others.2 ⟨m, om, hm, hom, hbm⟩), Nat.lt_of_lt_of_le (om.lt (h m om hom) b hbm) k.1⟩
/-- Nothing of them is written. -/
theorem Sep.kept (h : Sep w fam) (k : Kept [] w w') : Sep w' fam := by
  intro j oj hj
  refine oj.st (h j oj hj) k (fun b hb => by cases hb) (fun b hb => ⟨.inl hb, ?_⟩)
  obtain ⟨m, om, hm, hom, hbm⟩ := mem_others.1 hb
  exact Nat.lt_of_lt_of_le (om.lt (h m om hom) b hbm) k.1
theorem Sep.below (h : Sep w fam) (k : Below w.heap.size w w') : Sep w' fam := h.kept (Kept.of_below k [])
theorem Sep.drew (h : Sep w fam) : Sep w.drew fam := h.below (Below.refl _ _).drew
theorem Sep.alloc (h : Sep w fam) (ob : Obj) : Sep (w.alloc ob) fam := h.kept (Kept.alloc w ob [])
/-- Another one comes, in new blocks or in none. -/
theorem Sep.cons (h : Sep w fam) (k : Kept [] w w') (hown : ∀ b ∈ o.own, w.heap.size ≤ b) (hP : o.P w' (owns fam)) : Sep w' (o :: fam) := by
  intro j oj hj
  cases j with
  | zero =>
    simp at hj
    subst hj
    refine o.st hP (Kept.refl w' []) (fun b hb => by cases hb) (fun b hb => ?_)
    obtain ⟨m, om, hm, hom, hbm⟩ := mem_others.1 hb
    cases m with
    | zero => exact absurd rfl hm
    | succ m =>
      have hom' : fam[m]? = some om := by simpa using hom
      exact ⟨.inl (mem_owns.2 ⟨m, om, hom', hbm⟩), Nat.lt_of_lt_of_le (om.lt (h m om hom') b hbm) k.1⟩
  | succ j =>
    have hj' : fam[j]? = some oj := by simpa using hj
    refine oj.st (h j oj hj') k (fun b hb => by cases hb) (fun b hb => ?_)
    obtain ⟨m, om, hm, hom, hbm⟩ := mem_others.1 hb
    cases m with
    | zero =>
      simp at hom
      subst hom
      exact ⟨.inr (hown b hbm), o.lt hP b hbm⟩
    | succ m =>
      have hom' : fam[m]? = some om := by simpa using hom
      exact ⟨.inl (mem_others.2 ⟨m, om, fun e => hm (by rw [e]), hom', hbm⟩), Nat.lt_of_lt_of_le (om.lt (h m om hom') b hbm) k.1⟩
/-- One that owns nothing comes. -/
theorem Sep.add (h : Sep w fam) (hown : o.own = []) (hP : o.P w (owns fam)) : Sep w (o :: fam) := h.cons (Kept.refl w []) (fun b hb => by rw [hown] at hb; cases hb) hP
/-- One is left out of sight. -/
theorem Sep.drop (h : Sep w fam) (i : Nat) : Sep w (fam.eraseIdx i) := by
  intro j oj hj
  rw [List.getElem?_eraseIdx] at hj
  have key : ∀ m om, (fam.eraseIdx i)[m]? = some om → fam[if m < i then m else m + 1]? = some om := by
    intro m om hm
    rw [List.getElem?_eraseIdx] at hm
    by_cases hmi : m < i
    · rw [if_pos hmi] at hm ⊢; exact hm
    · rw [if_neg hmi] at hm ⊢; exact hm
  have hj' : fam[if j < i then j else j + 1]? = some oj := by
    by_cases hmi : j < i
    · rw [if_pos hmi] at hj ⊢; exact hj
    · rw [if_neg hmi] at hj ⊢; exact hj
  refine oj.st (h _ oj hj') (Kept.refl w []) (fun b hb => by cases hb) (fun b hb => ?_)
  obtain ⟨m, om, hm, hom, hbm⟩ := mem_others.1 hb
  have hom' := key m om hom
  refine ⟨.inl (mem_others.2 ⟨_, om, ?_, hom', hbm⟩), om.lt (h _ om hom') b hbm⟩
  intro e
  apply hm
  split at e <;> split at e <;> omega
/-- What owns nothing keeps out of all. -/
theorem Sep.all (h : Sep w fam) (i : Nat) {o : Ob} (hi : fam[i]? = some o) (ho : o.own = []) : o.P w (owns fam) := by
  refine o.st (h i o hi) (Kept.refl w []) (fun b hb => by cases hb) (fun b hb => ?_)
  refine ⟨?_, h.lt b hb⟩
  obtain ⟨m, om, hom, hbm⟩ := mem_owns.1 hb
  by_cases hm : m = i
  · subst hm
    rw [hi] at hom
    injection hom with hom
    subst hom
    rw [ho] at hbm
    cases hbm
  · exact .inl (mem_others.2 ⟨m, om, hm, hom, hbm⟩)
end
/-- A block of cells. -/
def bx (g : Nat) (t : TypeId) (cs : Array Value) : Ob where
  own := [g]
  P := fun w X => Mem.Blk w g t cs ∧ g ∉ X
  st := fun {w w' X Y X'} h k hY hX => ⟨(k.2 g h.1.lt (fun hm => h.2 (hY g hm))).trans h.1, fun hm => by
    rcases (hX g hm).1 with h1 | h1
    · exact h.2 h1
    · have := h.1.lt; omega⟩
  lt := fun h b hb => by rw [List.mem_singleton] at hb; subst hb; exact h.1.lt
/-- A slice that grows. -/
def gr {α : Type} (K : Elt α) (e : TypeId) (base : Nat) (l : List α) (v : Value) : Ob where
  own := v.ownBlock.toList
  P := fun w X => ∃ csl, Grow K e base w X l v csl
  st := fun h k hY hX => by obtain ⟨csl, h⟩ := h; exact ⟨csl, h.to k hY hX⟩
  lt := fun h b hb => by obtain ⟨csl, h⟩ := h; rw [Option.mem_toList] at hb; exact (h.blt hb).2
/-- What is only read: cells; a slice. -/
def im {α : Type} (K : Elt α) (x : α) (cs : List Value) : Ob where
  own := []
  P := fun w X => K.R w X x cs
  st := fun h k hY hX => K.to h k hY (fun b hb => (hX b hb).1)
  lt := fun _ b hb => by cases hb
def sl {α : Type} (K : Elt α) (l : List α) (a : Option Addr) (len cap : Nat) : Ob where
  own := []
  P := fun w X => SlR K w X l a len cap
  st := fun h k hY hX => h.to k hY (fun b hb => (hX b hb).1)
  lt := fun _ b hb => by cases hb
section
variable {α : Type} {K : Elt α} {e : TypeId} {base : Nat} {w w' w2 : World} {fam : List Ob} {l : List α} {v v' : Value} {g : Nat} {t : TypeId} {cs : Array Value} {csl : List (List Value)}
theorem Sep.blk (h : Sep w fam) (i : Nat) (hi : fam[i]? = some (bx g t cs)) : Mem.Blk w g t cs := (h.at i hi).1
/-- A new block. -/
theorem Sep.new (h : Sep w fam) (t : TypeId) (cs : Array Value) : Sep (w.alloc (.cells cs t)) (bx w.heap.size t cs :: fam) :=
  h.cons (o := bx w.heap.size t cs) (Kept.alloc w _ []) (fun b hb => by rw [show (bx w.heap.size t cs).own = [w.heap.size] from rfl, List.mem_singleton] at hb; omega) ⟨Mem.Blk.new w t cs, fun hm => by have := h.lt _ hm; omega⟩
/-- A store into a block. -/
theorem Sep.store (h : Sep w fam) (i : Nat) (hi : fam[i]? = some (bx g t cs)) (j : Nat) (u : Value) : Sep (w.setCell ⟨g, j, none⟩ u) (fam.set i (bx g t (cs.setIfInBounds j u))) :=
  h.set_ i hi (Kept.setCell w (X := [g]) (by simp) u) (fun b hb => .inl hb) (fun b hb => .inl hb) ⟨(h.at i hi).1.set_ j u, (h.at i hi).2⟩
/-- One element more. -/
theorem Sep.push (h : Sep w fam) (i : Nat) (hi : fam[i]? = some (gr K e base l v)) (hG : Grow K e base w (others fam i) l v csl) {x : α} {c : List Value} (hR : K.R w (owns fam) x c)
    (ho : w'.ownsRow base e K.sz v' (l.length + 1) (csl.flatten ++ c)) (hg : w.grownBy w' v.ownBlock) (hv : v'.ownBlock = v.ownBlock ∨ v'.ownBlock = some w.heap.size) : Sep w' (fam.set i (gr K e base (l ++ [x]) v')) := by
  refine h.set_ i hi (hG.row hg) (fun b hb => .inl hb) (own_next hv) ⟨_, hG.push (K.less hR (fun b _ hm => ?_)) ho hg hv⟩
  rcases busy_mem.1 hm with h1 | h1
  · exact mem_owns.2 ⟨i, _, hi, by show b ∈ v.ownBlock.toList; rw [Option.mem_toList]; exact h1⟩
  · obtain ⟨m, om, _, hom, hbm⟩ := mem_others.1 h1
    exact mem_owns.2 ⟨m, om, hom, hbm⟩
/-- A slice that no longer grows. -/
theorem Sep.still (h : Sep w fam) (i : Nat) (hi : fam[i]? = some (gr K e base l v)) : ∃ a cap, v = .slice a l.length cap ∧ SlR K w (others fam i) l a l.length cap := by
  obtain ⟨csl, hG⟩ := h.at i hi
  exact hG.slR
end
end Go.Proofs.Ytgbiimoednmlgaa
