/- The ledger: accounts, moves, entries; what put gives: plain. -/
import Derived.Test.YtgbiimoednmlgaaFr
namespace Go.Proofs.Ytgbiimoednmlgaa
set_option linter.unusedVariables false
set_option linter.unusedSimpArgs false
open Go.RowKit
abbrev Ky := List UInt8 × List UInt8
structure Acct where
  party : ByteArray
  coin : ByteArray
  amt : Int
structure Mv where
  src : ByteArray
  dst : ByteArray
  coin : ByteArray
  amt : Int
def Acct.key (a : Acct) : Ky := (a.party.data.toList, a.coin.data.toList)
def scmp (x y : List UInt8) : Int := if x < y then -1 else if y < x then 1 else 0
def kcmp (x y : Ky) : Int := if scmp x.1 y.1 ≠ 0 then scmp x.1 y.1 else scmp x.2 y.2
theorem scmp_range (x y : List UInt8) : scmp x y = -1 ∨ scmp x y = 0 ∨ scmp x y = 1 := by
  unfold scmp
  split
  · exact .inl rfl
  · split
    · exact .inr (.inr rfl)
    · exact .inr (.inl rfl)
theorem scmp_zero {x y : List UInt8} : scmp x y = 0 ↔ x = y := by
  unfold scmp
  constructor
  · intro h
    split at h
    · cases h
    · split at h
      · cases h
      · rename_i h1 h2
        exact List.le_antisymm h2 h1
  · rintro rfl
    rw [if_neg (List.lt_irrefl x), if_neg (List.lt_irrefl x)]
theorem scmp_neg {x y : List UInt8} : scmp x y < 0 ↔ x < y := by
  unfold scmp
  constructor
  · intro h
    split at h
    · assumption
    · split at h <;> omega
  · intro h
    rw [if_pos h]; omega
/-- Strictly ahead. -/
def klt (x y : Ky) : Prop := x.1 < y.1 ∨ (x.1 = y.1 ∧ x.2 < y.2)
theorem kcmp_neg {x y : Ky} : kcmp x y < 0 ↔ klt x y := by
  unfold kcmp klt
  by_cases h : scmp x.1 y.1 ≠ 0
  · rw [if_pos h, scmp_neg]
    constructor
    · exact .inl
    · rintro (h1 | ⟨h1, -⟩)
      · exact h1
      · exact absurd (scmp_zero.2 h1) h
  · rw [if_neg h, scmp_neg]
    have h0 : x.1 = y.1 := scmp_zero.1 (by omega)
    constructor
    · exact fun h1 => .inr ⟨h0, h1⟩
    · rintro (h1 | ⟨-, h1⟩)
      · rw [h0] at h1; exact absurd h1 (List.lt_irrefl _)
      · exact h1
theorem kcmp_zero {x y : Ky} : kcmp x y = 0 ↔ x = y := by
  unfold kcmp
  by_cases h : scmp x.1 y.1 ≠ 0
  · rw [if_pos h]
    constructor
    · exact fun h1 => absurd h1 h
    · intro e; exact scmp_zero.2 (by rw [e])
  · rw [if_neg h, scmp_zero]
    have h0 : x.1 = y.1 := scmp_zero.1 (by omega)
    constructor
    · intro h1; exact Prod.ext h0 h1
    · intro e; rw [e]
theorem kcmp_range (x y : Ky) : kcmp x y = -1 ∨ kcmp x y = 0 ∨ kcmp x y = 1 := by
  unfold kcmp
  split
  · exact scmp_range _ _
  · exact scmp_range _ _
theorem klt_irrefl (x : Ky) : ¬ klt x x := by
  rintro (h | ⟨-, h⟩)
  · exact List.lt_irrefl _ h
  · exact List.lt_irrefl _ h
theorem klt_trans {x y z : Ky} (h : klt x y) (k : klt y z) : klt x z := by
  rcases h with h | ⟨h1, h2⟩
  · rcases k with k | ⟨k1, k2⟩
    · exact .inl (List.lt_trans h k)
    · exact .inl (by rw [← k1]; exact h)
  · rcases k with k | ⟨k1, k2⟩
    · exact .inl (by rw [h1]; exact k)
    · exact .inr ⟨h1.trans k1, List.lt_trans h2 k2⟩
theorem klt_total (x y : Ky) : klt x y ∨ x = y ∨ klt y x := by
  rcases kcmp_range x y with h | h | h
  · exact .inl (kcmp_neg.1 (by omega))
  · exact .inr (.inl (kcmp_zero.1 h))
  · right; right
    unfold kcmp at h
    by_cases h0 : scmp x.1 y.1 ≠ 0
    · rw [if_pos h0] at h
      left
      unfold scmp at h
      split at h
      · cases h
      · split at h
        · assumption
        · cases h
    · rw [if_neg h0] at h
      right
      refine ⟨(scmp_zero.1 (by omega)).symm, ?_⟩
      unfold scmp at h
      split at h
      · cases h
      · split at h
        · assumption
        · cases h
/-- An account, and all that comes to it; where its amounts lie. -/
structure Ent where
  party : ByteArray
  coin : ByteArray
  all : List Int
  av : Value
def Ent.key (e : Ent) : Ky := (e.party.data.toList, e.coin.data.toList)
/-- Rising strictly, by a key. -/
def UpK {α : Type} (key : α → Ky) (l : List α) : Prop := l.Pairwise (fun x y => klt (key x) (key y))
/-- The place that a search finds. -/
structure AtK {α : Type} (key : α → Ky) (l : List α) (t : Ky) (i : Nat) : Prop where
  le : i ≤ l.length
  lo : ∀ x, 0 < i → l[i - 1]? = some x → kcmp (key x) t < 0
  hi : ∀ x, l[i]? = some x → ¬ kcmp (key x) t < 0
def hitK {α : Type} (key : α → Ky) (l : List α) (t : Ky) (i : Nat) : Bool := match l[i]? with | some x => decide (kcmp (key x) t = 0) | none => false
theorem UpK.at {α : Type} {key : α → Ky} {l : List α} (h : UpK key l) {i j : Nat} {x y : α} (hx : l[i]? = some x) (hy : l[j]? = some y) (hij : i < j) : klt (key x) (key y) := by
  obtain ⟨h1, e1⟩ := List.getElem?_eq_some_iff.1 hx
  obtain ⟨h2, e2⟩ := List.getElem?_eq_some_iff.1 hy
  have := List.pairwise_iff_getElem.1 h i j h1 h2 hij
  rw [e1, e2] at this; exact this
section
variable {α : Type} {key : α → Ky} {l : List α} {t : Ky} {i : Nat}
theorem AtK.below (a : AtK key l t i) (h : UpK key l) : ∀ (j : Nat) x, j < i → l[j]? = some x → klt (key x) t := by
  intro j x hj hx
  have hi1 : l[i - 1]? = some (l[i - 1]'(by have := a.le; omega)) := List.getElem?_eq_getElem (by have := a.le; omega)
  have h1 := kcmp_neg.1 (a.lo _ (by omega) hi1)
  by_cases e : j = i - 1
  · rw [e, hi1] at hx
    injection hx with hx; rw [← hx]; exact h1
  · exact klt_trans (h.at hx hi1 (by omega)) h1
theorem AtK.above (a : AtK key l t i) (h : UpK key l) : ∀ (j : Nat) x, i < j → l[j]? = some x → klt t (key x) := by
  intro j x hj hx
  have hjl : j < l.length := (List.getElem?_eq_some_iff.1 hx).1
  have hi1 : l[i]? = some (l[i]'(by omega)) := List.getElem?_eq_getElem (by omega)
  have h1 := a.hi _ hi1
  have h2 := h.at hi1 hx hj
  rcases klt_total (key l[i]) t with h3 | h3 | h3
  · exact absurd (kcmp_neg.2 h3) h1
  · rw [← h3]; exact h2
  · exact klt_trans h3 h2
theorem AtK.here (a : AtK key l t i) (hh : hitK key l t i = false) {x : α} (hx : l[i]? = some x) : klt t (key x) := by
  unfold hitK at hh
  rw [hx] at hh
  have hne : kcmp (key x) t ≠ 0 := by simpa using hh
  have h1 := a.hi _ hx
  rcases klt_total (key x) t with h3 | h3 | h3
  · exact absurd (kcmp_neg.2 h3) h1
  · exact absurd (kcmp_zero.2 h3) hne
  · exact h3
theorem hitK_key (hh : hitK key l t i = true) : ∃ x, l[i]? = some x ∧ key x = t := by
  unfold hitK at hh
  cases hx : l[i]? with
  | none => rw [hx] at hh; cases hh
  | some x =>
    rw [hx] at hh
    exact ⟨x, rfl, kcmp_zero.1 (by simpa using hh)⟩
end
/-- put: an amount to an account. -/
def insI (l : List Ent) (i : Nat) (x : Ent) : List Ent := l.take i ++ x :: l.drop i
theorem insI_up {l : List Ent} (h : UpK Ent.key l) {i : Nat} {x : Ent} (a : AtK Ent.key l x.key i) (hh : hitK Ent.key l x.key i = false) : UpK Ent.key (insI l i x) := by
  unfold insI UpK
  rw [List.pairwise_append]
  refine ⟨h.sublist (List.take_sublist ..), List.pairwise_cons.2 ⟨fun y hy => ?_, h.sublist (List.drop_sublist ..)⟩, fun y hy z hz => ?_⟩
  · obtain ⟨j, hj⟩ := List.getElem?_of_mem hy
    rw [List.getElem?_drop] at hj
    cases j with
    | zero => exact a.here hh hj
    | succ j => exact a.above h _ _ (by omega) hj
  · obtain ⟨j, hj⟩ := List.getElem?_of_mem hy
    rw [List.getElem?_take] at hj
    split at hj
    · rename_i hji
      have h1 := a.below h j y hji hj
      rcases List.mem_cons.1 hz with rfl | hz
      · exact h1
      · obtain ⟨k, hk⟩ := List.getElem?_of_mem hz
        rw [List.getElem?_drop] at hk
        exact h.at hj hk (by omega)
    · cases hj
/-- What has come to an account. -/
def totK (es : List Ent) (k : Ky) : Int := ((es.filter (fun e => e.key == k)).map (fun e => e.all.sum)).sum
end Go.Proofs.Ytgbiimoednmlgaa
