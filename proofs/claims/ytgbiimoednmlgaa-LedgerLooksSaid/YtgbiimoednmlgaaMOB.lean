/- A part of the proof: Fr, LdP, LdQ, LdS, Cells, Lit, LdV, Str, StrB, LdE, StK, one behind another. -/
import Derived.Test.YtgbiimoednmlgaaMOA
import Derived.Maps.OwnSet
import Derived.Test.YtgbiimoednmlgaaProg
import Derived.Test.YtgbiimoednmlgaaChecked
import Derived.Laws.Cover1
import Derived.Sort.Walk0
import Derived.BigQuiet
import Derived.BigRegion
import Derived.StillTailTactics
import Derived.Deep.CutBlock
import Derived.Deep.DeepCutAuto
import Derived.Deep.QuietTactic
import Derived.IntWalk
import Derived.LoopTactic
import Derived.Laws.Shifts
import Derived.WalkLawsBesides
import Derived.Sort.EncStr
import Derived.Deep.Draws
/- What a call that writes the blocks of X leaves: all other blocks stay. -/
namespace Go.Proofs.Ytgbiimoednmlgaa
set_option linter.unusedVariables false
set_option linter.unusedSimpArgs false
open Go.RowKit
structure Fr (X : List Nat) (w w' : World) : Prop where
  os : w'.os = w.os
  tape : w'.tape = w.tape
  output : w'.output = w.output
  kept : Kept X w w'
section
variable {X X' : List Nat} {w w' w'' : World}
theorem Fr.refl (X : List Nat) (w : World) : Fr X w w := ⟨rfl, rfl, rfl, Kept.refl w X⟩
theorem Fr.trans (h : Fr X w w') (k : Fr X w' w'') : Fr X w w'' := ⟨k.os.trans h.os, k.tape.trans h.tape, k.output.trans h.output, h.kept.trans k.kept⟩
theorem Fr.more (h : Fr X w w') (hX : ∀ b, b ∈ X → b ∈ X') : Fr X' w w' := ⟨h.os, h.tape, h.output, h.kept.more hX⟩
theorem Fr.of_below (h : Below w.heap.size w w') (X : List Nat) : Fr X w w' := ⟨h.os, h.tape, h.output, Kept.of_below h X⟩
theorem Fr.alloc (w : World) (o : Obj) (X : List Nat) : Fr X w (w.alloc o) := .of_below ((Below.refl _ w).alloc (Nat.le_refl _) o) X
theorem Fr.drew (w : World) (X : List Nat) : Fr X w w.drew := .of_below (Below.refl _ w).drew X
theorem Fr.of_grown {g : Nat} (h : w.grownBy w' (some g)) (hg : g ∈ X) : Fr X w w' :=
  have b : Below 0 w w' := (Below.refl 0 w).grown h (Nat.zero_le _) (fun _ _ => Nat.zero_le _)
  ⟨b.os, b.tape, b.output, Kept.of_grown h hg⟩
theorem Fr.setCell (w : World) {p : Addr} (hp : p.block ∈ X) (v : Value) : Fr X w (w.setCell p v) :=
  have b : Below 0 w (w.setCell p v) := (Below.refl 0 w).setCell (Nat.zero_le _) v
  ⟨b.os, b.tape, b.output, Kept.setCell w hp v⟩
theorem Fr.size (h : Fr X w w') : w.heap.size ≤ w'.heap.size := h.kept.1
theorem Fr.below {B : Nat} (h : Fr X w w') (hB : B ≤ w.heap.size) (hX : ∀ b ∈ X, B ≤ b) : Below B w w' :=
  ⟨h.os, h.tape, h.output, h.kept.1, fun k hk => h.kept.2 k (by omega) (fun hm => by have := hX k hm; omega)⟩
/-- What was written in new blocks is nothing. -/
theorem Fr.fresh (h : Fr X w w') (hX : ∀ b ∈ X, b ∈ X' ∨ w.heap.size ≤ b) : Fr X' w w' :=
  ⟨h.os, h.tape, h.output, h.kept.1, fun b hb hx => h.kept.2 b hb (fun hm => (hX b hm).elim hx (fun h1 => by omega))⟩
theorem Fr.blk {g : Nat} {t : TypeId} {cs : Array Value} (h : Fr X w w') (hB : Mem.Blk w g t cs) (hg : g ∉ X) : Mem.Blk w' g t cs := (h.kept.2 g hB.lt hg).trans hB
theorem Fr.map {H : Type} {P : Program} {k : TypeId} {R : Value → Option (DataW H × List MemPlace)} {b n : Nat} {D : DataW H} (h : Fr X w w') (hM : w.ownsMap P k R b n D) (hg : b ∉ X) : w'.ownsMap P k R b n D := by
  have hlt := hM.lt
  obtain ⟨es, clock, hb, r⟩ := hM
  exact ⟨es, clock, (h.kept.2 b hlt hg).trans hb, r⟩
theorem Fr.cell {p : Addr} {v : Value} (h : Fr X w w') (hc : w.cell? p = some v) (hg : p.block ∉ X) : w'.cell? p = some v := by
  have hlt : p.block < w.heap.size := by
    rcases Nat.lt_or_ge p.block w.heap.size with h1 | h1
    · exact h1
    · have : w.heap[p.block]? = none := Array.getElem?_eq_none h1
      simp [World.cell?, this] at hc
  rw [World.cell?_of_block (w := w) (h.kept.2 p.block hlt hg)]; exact hc
end
end Go.Proofs.Ytgbiimoednmlgaa

/- The ledger: accounts, moves, entries; what put gives: plain. -/
namespace Go.Proofs.Ytgbiimoednmlgaa
set_option linter.unusedVariables false
set_option linter.unusedSimpArgs false
open Go.RowKit
abbrev Ky := List UInt8 × List UInt8
structure Acct where
  party : ByteArray
  coin : ByteArray
  amt : Int
structure Mv where
  src : ByteArray
  dst : ByteArray
  coin : ByteArray
  amt : Int
def Acct.key (a : Acct) : Ky := (a.party.data.toList, a.coin.data.toList)
def scmp (x y : List UInt8) : Int := if x < y then -1 else if y < x then 1 else 0
def kcmp (x y : Ky) : Int := if scmp x.1 y.1 ≠ 0 then scmp x.1 y.1 else scmp x.2 y.2
theorem scmp_range (x y : List UInt8) : scmp x y = -1 ∨ scmp x y = 0 ∨ scmp x y = 1 := by
  unfold scmp
  split
  · exact .inl rfl
  · split
    · exact .inr (.inr rfl)
    · exact .inr (.inl rfl)
theorem scmp_zero {x y : List UInt8} : scmp x y = 0 ↔ x = y := by
  unfold scmp
  constructor
  · intro h
    split at h
    · cases h
    · split at h
      · cases h
      · rename_i h1 h2
        exact List.le_antisymm h2 h1
  · rintro rfl
    rw [if_neg (List.lt_irrefl x), if_neg (List.lt_irrefl x)]
theorem scmp_neg {x y : List UInt8} : scmp x y < 0 ↔ x < y := by
  unfold scmp
  constructor
  · intro h
    split at h
    · assumption
    · split at h <;> omega
  · intro h
    rw [if_pos h]; omega
/-- Strictly ahead. -/
def klt (x y : Ky) : Prop := x.1 < y.1 ∨ (x.1 = y.1 ∧ x.2 < y.2)
theorem kcmp_neg {x y : Ky} : kcmp x y < 0 ↔ klt x y := by
  unfold kcmp klt
  by_cases h : scmp x.1 y.1 ≠ 0
  · rw [if_pos h, scmp_neg]
    constructor
    · exact .inl
    · rintro (h1 | ⟨h1, -⟩)
      · exact h1
      · exact absurd (scmp_zero.2 h1) h
  · rw [if_neg h, scmp_neg]
    have h0 : x.1 = y.1 := scmp_zero.1 (by omega)
    constructor
    · exact fun h1 => .inr ⟨h0, h1⟩
    · rintro (h1 | ⟨-, h1⟩)
      · rw [h0] at h1; exact absurd h1 (List.lt_irrefl _)
      · exact h1
theorem kcmp_zero {x y : Ky} : kcmp x y = 0 ↔ x = y := by
  unfold kcmp
  by_cases h : scmp x.1 y.1 ≠ 0
  · rw [if_pos h]
    constructor
    · exact fun h1 => absurd h1 h
    · intro e; exact scmp_zero.2 (by rw [e])
  · rw [if_neg h, scmp_zero]
    have h0 : x.1 = y.1 := scmp_zero.1 (by omega)
    constructor
    · intro h1; exact Prod.ext h0 h1
    · intro e; rw [e]
theorem kcmp_range (x y : Ky) : kcmp x y = -1 ∨ kcmp x y = 0 ∨ kcmp x y = 1 := by
  unfold kcmp
  split
  · exact scmp_range _ _
  · exact scmp_range _ _
theorem klt_irrefl (x : Ky) : ¬ klt x x := by
  rintro (h | ⟨-, h⟩)
  · exact List.lt_irrefl _ h
  · exact List.lt_irrefl _ h
theorem klt_trans {x y z : Ky} (h : klt x y) (k : klt y z) : klt x z := by
  rcases h with h | ⟨h1, h2⟩
  · rcases k with k | ⟨k1, k2⟩
    · exact .inl (List.lt_trans h k)
    · exact .inl (by rw [← k1]; exact h)
  · rcases k with k | ⟨k1, k2⟩
    · exact .inl (by rw [h1]; exact k)
    · exact .inr ⟨h1.trans k1, List.lt_trans h2 k2⟩
theorem klt_total (x y : Ky) : klt x y ∨ x = y ∨ klt y x := by
  rcases kcmp_range x y with h | h | h
  · exact .inl (kcmp_neg.1 (by omega))
  · exact .inr (.inl (kcmp_zero.1 h))
  · right; right
    unfold kcmp at h
    by_cases h0 : scmp x.1 y.1 ≠ 0
    · rw [if_pos h0] at h
      left
      unfold scmp at h
      split at h
      · cases h
      · split at h
        · assumption
        · cases h
    · rw [if_neg h0] at h
      right
      refine ⟨(scmp_zero.1 (by omega)).symm, ?_⟩
      unfold scmp at h
      split at h
      · cases h
      · split at h
        · assumption
        · cases h
/-- An account, and all that comes to it; where its amounts lie. -/
structure Ent where
  party : ByteArray
  coin : ByteArray
  all : List Int
  av : Value
def Ent.key (e : Ent) : Ky := (e.party.data.toList, e.coin.data.toList)
/-- Rising strictly, by a key. -/
def UpK {α : Type} (key : α → Ky) (l : List α) : Prop := l.Pairwise (fun x y => klt (key x) (key y))
/-- The place that a search finds. -/
structure AtK {α : Type} (key : α → Ky) (l : List α) (t : Ky) (i : Nat) : Prop where
  le : i ≤ l.length
  lo : ∀ x, 0 < i → l[i - 1]? = some x → kcmp (key x) t < 0
  hi : ∀ x, l[i]? = some x → ¬ kcmp (key x) t < 0
def hitK {α : Type} (key : α → Ky) (l : List α) (t : Ky) (i : Nat) : Bool := match l[i]? with | some x => decide (kcmp (key x) t = 0) | none => false
theorem UpK.at {α : Type} {key : α → Ky} {l : List α} (h : UpK key l) {i j : Nat} {x y : α} (hx : l[i]? = some x) (hy : l[j]? = some y) (hij : i < j) : klt (key x) (key y) := by
  obtain ⟨h1, e1⟩ := List.getElem?_eq_some_iff.1 hx
  obtain ⟨h2, e2⟩ := List.getElem?_eq_some_iff.1 hy
  have := List.pairwise_iff_getElem.1 h i j h1 h2 hij
  rw [e1, e2] at this; exact this
section
variable {α : Type} {key : α → Ky} {l : List α} {t : Ky} {i : Nat}
theorem AtK.below (a : AtK key l t i) (h : UpK key l) : ∀ (j : Nat) x, j < i → l[j]? = some x → klt (key x) t := by
  intro j x hj hx
  have hi1 : l[i - 1]? = some (l[i - 1]'(by have := a.le; omega)) := List.getElem?_eq_getElem (by have := a.le; omega)
  have h1 := kcmp_neg.1 (a.lo _ (by omega) hi1)
  by_cases e : j = i - 1
  · rw [e, hi1] at hx
    injection hx with hx; rw [← hx]; exact h1
  · exact klt_trans (h.at hx hi1 (by omega)) h1
theorem AtK.above (a : AtK key l t i) (h : UpK key l) : ∀ (j : Nat) x, i < j → l[j]? = some x → klt t (key x) := by
  intro j x hj hx
  have hjl : j < l.length := (List.getElem?_eq_some_iff.1 hx).1
  have hi1 : l[i]? = some (l[i]'(by omega)) := List.getElem?_eq_getElem (by omega)
  have h1 := a.hi _ hi1
  have h2 := h.at hi1 hx hj
  rcases klt_total (key l[i]) t with h3 | h3 | h3
  · exact absurd (kcmp_neg.2 h3) h1
  · rw [← h3]; exact h2
  · exact klt_trans h3 h2
theorem AtK.here (a : AtK key l t i) (hh : hitK key l t i = false) {x : α} (hx : l[i]? = some x) : klt t (key x) := by
  unfold hitK at hh
  rw [hx] at hh
  have hne : kcmp (key x) t ≠ 0 := by simpa using hh
  have h1 := a.hi _ hx
  rcases klt_total (key x) t with h3 | h3 | h3
  · exact absurd (kcmp_neg.2 h3) h1
  · exact absurd (kcmp_zero.2 h3) hne
  · exact h3
theorem hitK_key (hh : hitK key l t i = true) : ∃ x, l[i]? = some x ∧ key x = t := by
  unfold hitK at hh
  cases hx : l[i]? with
  | none => rw [hx] at hh; cases hh
  | some x =>
    rw [hx] at hh
    exact ⟨x, rfl, kcmp_zero.1 (by simpa using hh)⟩
end
/-- put: an amount to an account. -/
def insI (l : List Ent) (i : Nat) (x : Ent) : List Ent := l.take i ++ x :: l.drop i
theorem insI_up {l : List Ent} (h : UpK Ent.key l) {i : Nat} {x : Ent} (a : AtK Ent.key l x.key i) (hh : hitK Ent.key l x.key i = false) : UpK Ent.key (insI l i x) := by
  unfold insI UpK
  rw [List.pairwise_append]
  refine ⟨h.sublist (List.take_sublist ..), List.pairwise_cons.2 ⟨fun y hy => ?_, h.sublist (List.drop_sublist ..)⟩, fun y hy z hz => ?_⟩
  · obtain ⟨j, hj⟩ := List.getElem?_of_mem hy
    rw [List.getElem?_drop] at hj
    cases j with
    | zero => exact a.here hh hj
    | succ j => exact a.above h _ _ (by omega) hj
  · obtain ⟨j, hj⟩ := List.getElem?_of_mem hy
    rw [List.getElem?_take] at hj
    split at hj
    · rename_i hji
      have h1 := a.below h j y hji hj
      rcases List.mem_cons.1 hz with rfl | hz
      · exact h1
      · obtain ⟨k, hk⟩ := List.getElem?_of_mem hz
        rw [List.getElem?_drop] at hk
        exact h.at hj hk (by omega)
    · cases hj
/-- What has come to an account. -/
def totK (es : List Ent) (k : Ky) : Int := ((es.filter (fun e => e.key == k)).map (fun e => e.all.sum)).sum
end Go.Proofs.Ytgbiimoednmlgaa

/- What comes to accounts; what Post gives: plain. -/
namespace Go.Proofs.Ytgbiimoednmlgaa
set_option linter.unusedVariables false
set_option linter.unusedSimpArgs false
open Go.RowKit
/-- What has come to an account. -/
def tot (L : List (Ky × Int)) (k : Ky) : Int := ((L.filter (fun p => p.1 == k)).map (fun p => p.2)).sum
theorem tot_nil (k : Ky) : tot [] k = 0 := rfl
theorem tot_append (L M : List (Ky × Int)) (k : Ky) : tot (L ++ M) k = tot L k + tot M k := by
  unfold tot
  rw [List.filter_append, List.map_append, List.sum_append]
theorem tot_one (x : Ky) (n : Int) (k : Ky) : tot [(x, n)] k = if x = k then n else 0 := by
  unfold tot
  by_cases h : x = k
  · rw [if_pos h, List.filter_cons_of_pos (by simpa using h)]; simp
  · rw [if_neg h, List.filter_cons_of_neg (by simpa using h)]; rfl
theorem tot_none {L : List (Ky × Int)} {k : Ky} (h : ∀ p ∈ L, p.1 ≠ k) : tot L k = 0 := by
  unfold tot
  rw [List.filter_eq_nil_iff.2 (fun p hp => by simpa using h p hp)]; rfl
/-- Entries are what came. -/
structure LsE (es : List Ent) (L : List (Ky × Int)) : Prop where
  up : UpK Ent.key es
  sum : ∀ e ∈ es, e.all.sum = tot L e.key
  has : ∀ p ∈ L, ∃ e ∈ es, e.key = p.1
  of : ∀ e ∈ es, ∃ p ∈ L, p.1 = e.key
  rng : ∀ e ∈ es, ∀ n ∈ e.all, -9223372036854775808 ≤ n ∧ n ≤ 9223372036854775807
  len : es.length ≤ L.length ∧ ∀ e ∈ es, e.all.length ≤ L.length
theorem LsE.nil : LsE [] [] := ⟨List.Pairwise.nil, (fun _ h => nomatch h), (fun _ h => nomatch h), (fun _ h => nomatch h), (fun _ h => nomatch h), ⟨Nat.le_refl _, (fun _ h => nomatch h)⟩⟩
theorem insI_len (l : List Ent) (i : Nat) (x : Ent) (h : i ≤ l.length) : (insI l i x).length = l.length + 1 := by
  unfold insI
  rw [List.length_append, List.length_cons, List.length_take, List.length_drop, Nat.min_eq_left h]; omega
theorem mem_insI {l : List Ent} {i : Nat} {x y : Ent} : y ∈ insI l i x ↔ y = x ∨ y ∈ l := by
  unfold insI
  rw [List.mem_append, List.mem_cons]
  constructor
  · rintro (h | h | h)
    · exact .inr (List.mem_of_mem_take h)
    · exact .inl h
    · exact .inr (List.mem_of_mem_drop h)
  · rintro (h | h)
    · exact .inr (.inl h)
    · rw [← List.take_append_drop i l] at h
      rcases List.mem_append.1 h with h | h
      · exact .inl h
      · exact .inr (.inr h)
/-- A new account. -/
theorem LsE.new {es : List Ent} {L : List (Ky × Int)} (h : LsE es L) {i : Nat} {p c : ByteArray} {n : Int} {av : Value} (a : AtK Ent.key es (p.data.toList, c.data.toList) i) (hh : hitK Ent.key es (p.data.toList, c.data.toList) i = false) (hn : -9223372036854775808 ≤ n ∧ n ≤ 9223372036854775807) :
    LsE (insI es i ⟨p, c, [n], av⟩) (L ++ [((p.data.toList, c.data.toList), n)]) := by
  have hnk : ∀ e ∈ es, e.key ≠ (p.data.toList, c.data.toList) := by
    intro e he hk
    obtain ⟨j, hj⟩ := List.getElem?_of_mem he
    by_cases h1 : j < i
    · have := a.below h.up j e h1 hj
      rw [hk] at this; exact klt_irrefl _ this
    · by_cases h2 : j = i
      · subst h2
        have := a.here hh hj
        rw [hk] at this; exact klt_irrefl _ this
      · have := a.above h.up j e (by omega) hj
        rw [hk] at this; exact klt_irrefl _ this
  have hL0 : tot L (p.data.toList, c.data.toList) = 0 := tot_none (fun q hq hqk => by
    obtain ⟨e, he, hek⟩ := h.has q hq
    exact hnk e he (hek.trans hqk))
  refine ⟨insI_up h.up a hh, fun e he => ?_, fun q hq => ?_, fun e he => ?_, fun e he => ?_, ⟨?_, fun e he => ?_⟩⟩
  · rw [tot_append, tot_one]
    rcases mem_insI.1 he with rfl | he
    · show [n].sum = tot L (p.data.toList, c.data.toList) + (if (p.data.toList, c.data.toList) = (p.data.toList, c.data.toList) then n else 0)
      rw [hL0, if_pos rfl]; simp
    · rw [if_neg (fun e' => hnk e he e'.symm), h.sum e he]; omega
  · rcases List.mem_append.1 hq with hq | hq
    · obtain ⟨e, he, hek⟩ := h.has q hq
      exact ⟨e, mem_insI.2 (.inr he), hek⟩
    · rw [List.mem_singleton] at hq; subst hq
      exact ⟨_, mem_insI.2 (.inl rfl), rfl⟩
  · rcases mem_insI.1 he with rfl | he
    · exact ⟨_, List.mem_append.2 (.inr (List.mem_singleton.2 rfl)), rfl⟩
    · obtain ⟨q, hq, hqk⟩ := h.of e he
      exact ⟨q, List.mem_append.2 (.inl hq), hqk⟩
  · rcases mem_insI.1 he with rfl | he
    · intro x hx
      have hx : x ∈ [n] := hx
      rw [List.mem_singleton] at hx; subst hx; exact hn
    · exact h.rng e he
  · rw [insI_len _ _ _ a.le, List.length_append]
    have := h.len.1
    show _ ≤ L.length + 1
    omega
  · rw [List.length_append]
    rcases mem_insI.1 he with rfl | he
    · show 1 ≤ L.length + 1; omega
    · have := h.len.2 e he
      show _ ≤ L.length + 1
      omega
/-- One amount more. -/
theorem LsE.more {es : List Ent} {L : List (Ky × Int)} (h : LsE es L) {i : Nat} {e : Ent} {n : Int} {av : Value} (he : es[i]? = some e) (hn : -9223372036854775808 ≤ n ∧ n ≤ 9223372036854775807) :
    LsE (es.set i ⟨e.party, e.coin, e.all ++ [n], av⟩) (L ++ [(e.key, n)]) := by
  have hil := (List.getElem?_eq_some_iff.1 he).1
  have hkey : ∀ (j : Nat) x, (es.set i ⟨e.party, e.coin, e.all ++ [n], av⟩)[j]? = some x → ∃ y, es[j]? = some y ∧ y.key = x.key ∧ ((j = i ∧ x = ⟨e.party, e.coin, e.all ++ [n], av⟩) ∨ (j ≠ i ∧ x = y)) := by
    intro j x hx
    rw [List.getElem?_set] at hx
    by_cases e1 : i = j
    · subst e1
      rw [if_pos rfl, if_pos hil] at hx
      injection hx with hx
      exact ⟨e, he, by rw [← hx]; rfl, .inl ⟨rfl, hx.symm⟩⟩
    · rw [if_neg e1] at hx
      exact ⟨x, hx, rfl, .inr ⟨fun e2 => e1 e2.symm, rfl⟩⟩
  have hmem : ∀ x ∈ es.set i ⟨e.party, e.coin, e.all ++ [n], av⟩, x = ⟨e.party, e.coin, e.all ++ [n], av⟩ ∨ (x ∈ es ∧ x.key ≠ e.key) := by
    intro x hx
    obtain ⟨j, hj⟩ := List.getElem?_of_mem hx
    obtain ⟨y, hy, -, ⟨-, h2⟩ | ⟨h1, h2⟩⟩ := hkey j x hj
    · exact .inl h2
    · subst h2
      refine .inr ⟨List.mem_of_getElem? hy, fun hk => ?_⟩
      rcases Nat.lt_or_gt_of_ne h1 with h3 | h3
      · have := h.up.at hy he h3
        rw [hk] at this; exact klt_irrefl _ this
      · have := h.up.at he hy h3
        rw [hk] at this; exact klt_irrefl _ this
  refine ⟨?_, fun x hx => ?_, fun q hq => ?_, fun x hx => ?_, fun x hx => ?_, ⟨?_, fun x hx => ?_⟩⟩
  · unfold UpK
    rw [List.pairwise_iff_getElem]
    intro a b ha hb hab
    obtain ⟨y, hy, hyk, -⟩ := hkey a _ (List.getElem?_eq_getElem ha)
    obtain ⟨z, hz, hzk, -⟩ := hkey b _ (List.getElem?_eq_getElem hb)
    rw [← hyk, ← hzk]
    exact h.up.at hy hz hab
  · rw [tot_append, tot_one]
    rcases hmem x hx with rfl | ⟨hx, hxk⟩
    · show (e.all ++ [n]).sum = tot L e.key + (if e.key = e.key then n else 0)
      rw [if_pos rfl, List.sum_append, h.sum e (List.mem_of_getElem? he)]; simp
    · rw [if_neg (fun e' => hxk e'.symm), h.sum x hx]; omega
  · have hin : ∀ k, (∃ y ∈ es, y.key = k) → ∃ x ∈ es.set i ⟨e.party, e.coin, e.all ++ [n], av⟩, x.key = k := by
      rintro k ⟨y, hy, hyk⟩
      obtain ⟨j, hj⟩ := List.getElem?_of_mem hy
      by_cases e1 : i = j
      · subst e1
        rw [he] at hj; injection hj with hj; subst hj
        exact ⟨_, List.mem_set hil _, hyk⟩
      · exact ⟨y, List.mem_of_getElem? (by rw [List.getElem?_set, if_neg e1]; exact hj), hyk⟩
    rcases List.mem_append.1 hq with hq | hq
    · exact hin _ (h.has q hq)
    · rw [List.mem_singleton] at hq; subst hq
      exact hin _ ⟨e, List.mem_of_getElem? he, rfl⟩
  · rcases hmem x hx with rfl | ⟨hx, -⟩
    · exact ⟨_, List.mem_append.2 (.inr (List.mem_singleton.2 rfl)), rfl⟩
    · obtain ⟨q, hq, hqk⟩ := h.of x hx
      exact ⟨q, List.mem_append.2 (.inl hq), hqk⟩
  · rcases hmem x hx with rfl | ⟨hx, -⟩
    · intro y hy
      have hy : y ∈ e.all ++ [n] := hy
      rcases List.mem_append.1 hy with hy | hy
      · exact h.rng e (List.mem_of_getElem? he) y hy
      · rw [List.mem_singleton] at hy; subst hy; exact hn
    · exact h.rng x hx
  · rw [List.length_set, List.length_append]
    have := h.len.1
    omega
  · rw [List.length_append]
    rcases hmem x hx with rfl | ⟨hx, -⟩
    · show (e.all ++ [n]).length ≤ _
      rw [List.length_append]
      have := h.len.2 e (List.mem_of_getElem? he)
      show _ + 1 ≤ L.length + 1
      omega
    · have := h.len.2 x hx
      omega
/-- What has come of a currency. -/
def coinL (L : List (Ky × Int)) (c : List UInt8) : Int := ((L.filter (fun p => p.1.2 == c)).map (fun p => p.2)).sum
def coinE (es : List Ent) (c : List UInt8) : Int := ((es.filter (fun e => e.key.2 == c)).map (fun e => e.all.sum)).sum
def CoE (es : List Ent) (L : List (Ky × Int)) : Prop := ∀ c, coinE es c = coinL L c
theorem coinL_append (L M : List (Ky × Int)) (c : List UInt8) : coinL (L ++ M) c = coinL L c + coinL M c := by
  unfold coinL
  rw [List.filter_append, List.map_append, List.sum_append]
theorem coinE_append (L M : List Ent) (c : List UInt8) : coinE (L ++ M) c = coinE L c + coinE M c := by
  unfold coinE
  rw [List.filter_append, List.map_append, List.sum_append]
theorem coinE_cons (e : Ent) (M : List Ent) (c : List UInt8) : coinE (e :: M) c = (if e.key.2 = c then e.all.sum else 0) + coinE M c := by
  unfold coinE
  by_cases h : e.key.2 = c
  · rw [if_pos h, List.filter_cons_of_pos (by simpa using h)]; simp
  · rw [if_neg h, List.filter_cons_of_neg (by simpa using h)]; omega
theorem coinL_one (x : Ky) (n : Int) (c : List UInt8) : coinL [(x, n)] c = if x.2 = c then n else 0 := by
  unfold coinL
  by_cases h : x.2 = c
  · rw [if_pos h, List.filter_cons_of_pos (by simpa using h)]; simp
  · rw [if_neg h, List.filter_cons_of_neg (by simpa using h)]; rfl
theorem CoE.new {es : List Ent} {L : List (Ky × Int)} (h : CoE es L) (i : Nat) (p c : ByteArray) (n : Int) (av : Value) : CoE (insI es i ⟨p, c, [n], av⟩) (L ++ [((p.data.toList, c.data.toList), n)]) := by
  intro x
  have h1 : coinE es x = coinE (es.take i) x + coinE (es.drop i) x := by rw [← coinE_append, List.take_append_drop]
  have h2 := h x
  unfold insI
  rw [coinE_append, coinE_cons, coinL_append, coinL_one]
  have e1 : (⟨p, c, [n], av⟩ : Ent).key.2 = c.data.toList := rfl
  have e2 : (⟨p, c, [n], av⟩ : Ent).all.sum = n := by show [n].sum = n; simp
  rw [e1, e2]
  show _ = coinL L x + (if c.data.toList = x then n else 0)
  by_cases hx : c.data.toList = x
  · rw [if_pos hx]; omega
  · rw [if_neg hx]; omega
theorem CoE.more {es : List Ent} {L : List (Ky × Int)} (h : CoE es L) {i : Nat} {e : Ent} (n : Int) (av : Value) (he : es[i]? = some e) : CoE (es.set i ⟨e.party, e.coin, e.all ++ [n], av⟩) (L ++ [(e.key, n)]) := by
  intro x
  obtain ⟨hil, hi⟩ := List.getElem?_eq_some_iff.1 he
  have h1 : es = es.take i ++ e :: es.drop (i + 1) := by
    have h5 := List.drop_eq_getElem_cons hil
    rw [hi] at h5
    rw [← h5, List.take_append_drop]
  have h2 := h x
  have h3 : es.set i ⟨e.party, e.coin, e.all ++ [n], av⟩ = es.take i ++ ⟨e.party, e.coin, e.all ++ [n], av⟩ :: es.drop (i + 1) := List.set_eq_take_append_cons_drop .. |>.trans (if_pos hil)
  rw [h3, coinE_append, coinE_cons, coinL_append, coinL_one]
  have h4 : coinE es x = coinE (es.take i) x + ((if e.key.2 = x then e.all.sum else 0) + coinE (es.drop (i + 1)) x) := by
    conv => lhs; rw [h1]
    rw [coinE_append, coinE_cons]
  have e2 : (⟨e.party, e.coin, e.all ++ [n], av⟩ : Ent).all.sum = e.all.sum + n := by show (e.all ++ [n]).sum = _; rw [List.sum_append]; simp
  have e1 : (⟨e.party, e.coin, e.all ++ [n], av⟩ : Ent).key = e.key := rfl
  rw [e1, e2]
  by_cases hx : e.key.2 = x
  · rw [if_pos hx] at h4 ⊢
    rw [if_pos hx]; omega
  · rw [if_neg hx] at h4 ⊢
    rw [if_neg hx]; omega
/-- The books that come of what came. -/
structure OutOf (out : List Acct) (L : List (Ky × Int)) : Prop where
  up : UpK Acct.key out
  amt : ∀ a ∈ out, a.amt = tot L a.key ∧ a.amt ≠ 0
  all : ∀ k, tot L k ≠ 0 → ∃ a ∈ out, a.key = k
def outA (es : List Ent) : List Acct := es.filterMap (fun e => if e.all.sum = 0 then none else some ⟨e.party, e.coin, e.all.sum⟩)
theorem outA_mem {es : List Ent} {a : Acct} : a ∈ outA es ↔ ∃ e ∈ es, e.all.sum ≠ 0 ∧ a = ⟨e.party, e.coin, e.all.sum⟩ := by
  unfold outA
  rw [List.mem_filterMap]
  constructor
  · rintro ⟨e, he, h⟩
    by_cases h0 : e.all.sum = 0
    · rw [if_pos h0] at h; cases h
    · rw [if_neg h0] at h; injection h with h
      exact ⟨e, he, h0, h.symm⟩
  · rintro ⟨e, he, h0, rfl⟩
    exact ⟨e, he, by rw [if_neg h0]⟩
theorem LsE.out {es : List Ent} {L : List (Ky × Int)} (h : LsE es L) : OutOf (outA es) L := by
  refine ⟨?_, fun a ha => ?_, fun k hk => ?_⟩
  · unfold outA UpK
    rw [List.pairwise_filterMap]
    refine h.up.imp (fun {x y} hxy b hb b' hb' => ?_)
    split at hb
    · cases hb
    · split at hb'
      · cases hb'
      · injection hb with hb; injection hb' with hb'
        subst hb; subst hb'; exact hxy
  · obtain ⟨e, he, h0, rfl⟩ := outA_mem.1 ha
    exact ⟨h.sum e he, h0⟩
  · have : ∃ p ∈ L, p.1 = k := by
      refine Classical.byContradiction (fun hn => hk (tot_none (fun p hp e => hn ⟨p, hp, e⟩)))
    obtain ⟨p, hp, hpk⟩ := this
    obtain ⟨e, he, hek⟩ := h.has p hp
    refine ⟨⟨e.party, e.coin, e.all.sum⟩, outA_mem.2 ⟨e, he, ?_, rfl⟩, hek.trans hpk⟩
    rw [h.sum e he, hek, hpk]; exact hk
theorem acct_ext {a b : Acct} (hk : a.key = b.key) (hn : a.amt = b.amt) : a = b := by
  obtain ⟨⟨⟨p⟩⟩, ⟨⟨c⟩⟩, n⟩ := a
  obtain ⟨⟨⟨p'⟩⟩, ⟨⟨c'⟩⟩, n'⟩ := b
  have h1 : p = p' := congrArg (fun x : Ky => x.1) hk
  have h2 : c = c' := congrArg (fun x : Ky => x.2) hk
  have h3 : n = n' := hn
  rw [h1, h2, h3]
theorem up_ext {α : Type} {key : α → Ky} (hx : ∀ a b : α, a ∈ ([] : List α) → a = b) : ∀ {l m : List α}, UpK key l → UpK key m → (∀ a, a ∈ l ↔ a ∈ m) → l = m
  | [], [], _, _, _ => rfl
  | [], b :: m, _, _, h => by have := (h b).2 (List.mem_cons_self ..); cases this
  | a :: l, [], _, _, h => by have := (h a).1 (List.mem_cons_self ..); cases this
  | a :: l, b :: m, hl, hm, h => by
    unfold UpK at hl hm
    rw [List.pairwise_cons] at hl hm
    have hab : a = b := by
      rcases List.mem_cons.1 ((h a).1 (List.mem_cons_self ..)) with e | h1
      · exact e
      · rcases List.mem_cons.1 ((h b).2 (List.mem_cons_self ..)) with e | h2
        · exact e.symm
        · exact absurd (klt_trans (hl.1 b h2) (hm.1 a h1)) (klt_irrefl _)
    subst hab
    congr 1
    refine up_ext hx hl.2 hm.2 (fun x => ?_)
    constructor
    · intro hxl
      rcases List.mem_cons.1 ((h x).1 (List.mem_cons_of_mem _ hxl)) with e | h1
      · subst e; exact absurd (hl.1 x hxl) (klt_irrefl _)
      · exact h1
    · intro hxm
      rcases List.mem_cons.1 ((h x).2 (List.mem_cons_of_mem _ hxm)) with e | h1
      · subst e; exact absurd (hm.1 x hxm) (klt_irrefl _)
      · exact h1
theorem OutOf.uniq {out out' : List Acct} {L L' : List (Ky × Int)} (h : OutOf out L) (h' : OutOf out' L') (e : ∀ k, tot L k = tot L' k) : out = out' := by
  refine up_ext (key := Acct.key) (fun a b h => nomatch h) h.up h'.up (fun a => ?_)
  constructor
  · intro ha
    obtain ⟨h1, h2⟩ := h.amt a ha
    obtain ⟨b, hb, hbk⟩ := h'.all a.key (by rw [← e, ← h1]; exact h2)
    have : a = b := acct_ext hbk.symm (by rw [h1, (h'.amt b hb).1, hbk, e])
    rw [this]; exact hb
  · intro ha
    obtain ⟨h1, h2⟩ := h'.amt a ha
    obtain ⟨b, hb, hbk⟩ := h.all a.key (by rw [e, ← h1]; exact h2)
    have : a = b := acct_ext hbk.symm (by rw [h1, (h.amt b hb).1, hbk, e])
    rw [this]; exact hb
/-- What has come of a currency, in books. -/
def coinA (l : List Acct) (c : List UInt8) : Int := ((l.filter (fun a => a.key.2 == c)).map (fun a => a.amt)).sum
theorem coinA_cons (a : Acct) (M : List Acct) (c : List UInt8) : coinA (a :: M) c = (if a.key.2 = c then a.amt else 0) + coinA M c := by
  unfold coinA
  by_cases h : a.key.2 = c
  · rw [if_pos h, List.filter_cons_of_pos (by simpa using h)]; simp
  · rw [if_neg h, List.filter_cons_of_neg (by simpa using h)]; omega
theorem outA_coin (es : List Ent) (c : List UInt8) : coinA (outA es) c = coinE es c := by
  induction es with
  | nil => rfl
  | cons e t ih =>
    rw [coinE_cons]
    by_cases h0 : e.all.sum = 0
    · have : outA (e :: t) = outA t := by unfold outA; rw [List.filterMap_cons, if_pos h0]
      rw [this, ih, h0]; split <;> omega
    · have : outA (e :: t) = ⟨e.party, e.coin, e.all.sum⟩ :: outA t := by unfold outA; rw [List.filterMap_cons, if_neg h0]
      rw [this, coinA_cons, ih]; rfl
def fits64 (n : Int) : Bool := decide (-9223372036854775808 ≤ n) && decide (n ≤ 9223372036854775807)
end Go.Proofs.Ytgbiimoednmlgaa

/- A sum of many numbers of 64 bits, held in 128 bits: plain. -/
namespace Go.Proofs.Ytgbiimoednmlgaa
set_option linter.unusedVariables false
set_option linter.unusedSimpArgs false
open Go.RowKit
/-- Two words hold a number. -/
structure Two64 (T : Int) (hi lo : Nat) : Prop where
  lo : (lo : Int) = T % 18446744073709551616
  hi : (hi : Int) = (T / 18446744073709551616) % 18446744073709551616
theorem Two64.nil : Two64 0 0 0 := ⟨rfl, rfl⟩
theorem Two64.lt {T : Int} {hi lo : Nat} (h : Two64 T hi lo) : hi < 18446744073709551616 ∧ lo < 18446744073709551616 := by
  have h1 := h.lo
  have h2 := h.hi
  omega
/-- A number as a word without a sign. -/
def uw (n : Int) : Nat := (n % 18446744073709551616).toNat
def sw (n : Int) : Nat := if n < 0 then 18446744073709551615 else 0
theorem Two64.add {T n : Int} {hi lo : Nat} (h : Two64 T hi lo) (hn : -9223372036854775808 ≤ n ∧ n ≤ 9223372036854775807) :
    Two64 (T + n) ((hi + sw n + (lo + uw n + 0) / 18446744073709551616) % 18446744073709551616) ((lo + uw n + 0) % 18446744073709551616) := by
  have h1 := h.lo
  have h2 := h.hi
  have h3 : (uw n : Int) = n % 18446744073709551616 := by unfold uw; omega
  obtain ⟨u, hu⟩ : ∃ u, u = uw n := ⟨_, rfl⟩
  rw [← hu] at h3 ⊢
  unfold sw
  by_cases hneg : n < 0
  · rw [if_pos hneg]
    exact ⟨by omega, by omega⟩
  · rw [if_neg hneg]
    exact ⟨by omega, by omega⟩
/-- The lower word as a number with its sign; its sign in a word. -/
def lowI (lo : Nat) : Int := if lo < 9223372036854775808 then (lo : Int) else (lo : Int) - 18446744073709551616
theorem Two64.fit {T : Int} {hi lo : Nat} (h : Two64 T hi lo) (hT : -170141183460469231731687303715884105728 ≤ T ∧ T < 170141183460469231731687303715884105728) : (hi = sw (lowI lo)) ↔ (-9223372036854775808 ≤ T ∧ T ≤ 9223372036854775807) := by
  have h1 := h.lo
  have h2 := h.hi
  unfold sw lowI
  by_cases hl : lo < 9223372036854775808
  · rw [if_pos hl, if_neg (by omega)]
    constructor
    · intro e; omega
    · intro e; omega
  · rw [if_neg hl, if_pos (by have := h.lt; omega)]
    constructor
    · intro e; omega
    · intro e; omega
theorem Two64.val {T : Int} {hi lo : Nat} (h : Two64 T hi lo) (hT : -9223372036854775808 ≤ T ∧ T ≤ 9223372036854775807) : lowI lo = T := by
  have h1 := h.lo
  unfold lowI
  split <;> omega
theorem sum_bound (l : List Int) (h : ∀ n ∈ l, -9223372036854775808 ≤ n ∧ n ≤ 9223372036854775807) : -9223372036854775808 * (l.length : Int) ≤ l.sum ∧ l.sum ≤ 9223372036854775807 * (l.length : Int) := by
  induction l with
  | nil => simp
  | cons x t ih =>
    have h1 := h x (List.mem_cons_self ..)
    have h2 := ih (fun n hn => h n (List.mem_cons_of_mem _ hn))
    rw [List.sum_cons, List.length_cons]
    push_cast
    omega
theorem sum_take {l : List Int} {k : Nat} {n : Int} (h : l[k]? = some n) : (l.take (k + 1)).sum = (l.take k).sum + n := by
  obtain ⟨hk, e⟩ := List.getElem?_eq_some_iff.1 h
  rw [← List.take_append_getElem hk, e, List.sum_append]; simp
end Go.Proofs.Ytgbiimoednmlgaa

/- Four cells of a block; what is stored where an answer lies. -/
namespace Go.Proofs.Ytgbiimoednmlgaa
set_option linter.unusedVariables false
set_option linter.unusedSimpArgs false
open Go.RowKit
theorem blk4 {w : World} {g : Nat} {t : TypeId} {a b c d : Value} (h : Mem.Blk w g t #[a, b, c, d]) : w.cell? ⟨g, 0, none⟩ = some a ∧ w.cell? ⟨g, 1, none⟩ = some b ∧ w.cell? ⟨g, 2, none⟩ = some c ∧ w.cell? ⟨g, 3, none⟩ = some d ∧
    w.frozen? ⟨g, 0, none⟩ = false ∧ w.frozen? ⟨g, 1, none⟩ = false ∧ w.frozen? ⟨g, 2, none⟩ = false ∧ w.frozen? ⟨g, 3, none⟩ = false :=
  ⟨h.cell 0, h.cell 1, h.cell 2, h.cell 3, h.frozen 0, h.frozen 1, h.frozen 2, h.frozen 3⟩
/-- What is stored where the answer lies. -/
theorem simp_fin {w wr : World} {X : List Nat} {t : Te} {ty : TypeId} {b0 b1 b2 b3 c0 c1 c2 c3 : Value} (hb : Below w.heap.size w wr) (hB : Mem.Blk wr (w.heap.size + 1) ty #[b0, b1, b2, b3]) (hR : RepT wr ((w.heap.size + 1) :: X) t [c0, c1, c2, c3]) :
    RepT ((((wr.setCell ⟨w.heap.size + 1, 0, none⟩ c0).setCell ⟨w.heap.size + 1, 1, none⟩ c1).setCell ⟨w.heap.size + 1, 2, none⟩ c2).setCell ⟨w.heap.size + 1, 3, none⟩ c3) X t [c0, c1, c2, c3] ∧
    Below w.heap.size w ((((wr.setCell ⟨w.heap.size + 1, 0, none⟩ c0).setCell ⟨w.heap.size + 1, 1, none⟩ c1).setCell ⟨w.heap.size + 1, 2, none⟩ c2).setCell ⟨w.heap.size + 1, 3, none⟩ c3) ∧
    Mem.Blk ((((wr.setCell ⟨w.heap.size + 1, 0, none⟩ c0).setCell ⟨w.heap.size + 1, 1, none⟩ c1).setCell ⟨w.heap.size + 1, 2, none⟩ c2).setCell ⟨w.heap.size + 1, 3, none⟩ c3) (w.heap.size + 1) ty #[c0, c1, c2, c3] := by
  have h1 : w.heap.size ≤ w.heap.size + 1 := by omega
  have k4 : Kept ((w.heap.size + 1) :: X) wr ((((wr.setCell ⟨w.heap.size + 1, 0, none⟩ c0).setCell ⟨w.heap.size + 1, 1, none⟩ c1).setCell ⟨w.heap.size + 1, 2, none⟩ c2).setCell ⟨w.heap.size + 1, 3, none⟩ c3) :=
    (((Kept.setCell wr (by simp) _).trans (Kept.setCell _ (by simp) _)).trans (Kept.setCell _ (by simp) _)).trans (Kept.setCell _ (by simp) _)
  exact ⟨(hR.kept k4).less (fun b _ hm => List.mem_cons_of_mem _ hm), (((hb.setCell h1 _).setCell h1 _).setCell h1 _).setCell h1 _, (((hB.set_ 0 _).set_ 1 _).set_ 2 _).set_ 3 _⟩
end Go.Proofs.Ytgbiimoednmlgaa

/- A literal's block as a slice. -/
namespace Go.Proofs.Ytgbiimoednmlgaa
set_option linter.unusedVariables false
set_option linter.unusedSimpArgs false
open Go.RowKit
theorem RepE.free {w : World} {X : List Nat} {e : Ex} {cs : List Value} (h : RepE w X e cs) : RepE w [] e cs := h.less (fun _ _ hm => absurd hm List.not_mem_nil)
theorem RepT.free {w : World} {X : List Nat} {e : Te} {cs : List Value} (h : RepT w X e cs) : RepT w [] e cs := h.less (fun _ _ hm => absurd hm List.not_mem_nil)
theorem SlR.free {α : Type} {K : Elt α} {w : World} {X : List Nat} {l : List α} {a : Option Addr} {len cap : Nat} (h : SlR K w X l a len cap) : SlR K w [] l a len cap := h.less (fun _ _ hm => absurd hm List.not_mem_nil)
theorem SlR.lit {α : Type} {K : Elt α} {w : World} {X : List Nat} {g : Nat} {ty : TypeId} {cs : Array Value} {l : List α} (csl : List (List Value)) (hB : Mem.Blk w g ty cs) (hg : g ∉ X) (hf : cs.toList = csl.flatten) (hc : csl.length = l.length)
    (he : ∀ (i : Nat) x c, l[i]? = some x → csl[i]? = some c → K.R w X x c) (n : Nat) (hn : l.length = n) (hm : n ≤ 9223372036854775807) : SlR K w X l (some ⟨g, 0, none⟩) n n := by
  subst hn
  have h4 : ∀ c ∈ csl, c.length = K.sz := by
    intro c hcm
    obtain ⟨i, hi, rfl⟩ := List.getElem_of_mem hcm
    exact (K.one (he i _ _ (List.getElem?_eq_getElem (by omega)) (List.getElem?_eq_getElem hi))).1
  refine ⟨csl, hc, he, hc, Nat.le_refl _, hm, fun _ => ⟨g, 0, rfl, hB.lt, hg, fun i c hi => ?_⟩⟩
  have hl := h4 c (List.mem_of_getElem? hi)
  refine ⟨hl, fun j u hj => ?_⟩
  have hjs : j < K.sz := by rw [← hl]; exact (List.getElem?_eq_some_iff.1 hj).1
  rw [Nat.zero_add, hB.cell, ← Array.getElem?_toList, hf, flat_get K.sz csl h4 i j c hi hjs]
  exact hj
/-- One element. -/
theorem SlR.lit1 {α : Type} {K : Elt α} {w : World} {X : List Nat} {g : Nat} {ty : TypeId} {c : List Value} {x : α} (hB : Mem.Blk w g ty c.toArray) (hg : g ∉ X) (h : K.R w X x c) : SlR K w X [x] (some ⟨g, 0, none⟩) 1 1 := by
  refine SlR.lit (l := [x]) [c] hB hg (by simp) rfl (fun i y d hy hd => ?_) 1 rfl (by decide)
  match i, hy, hd with
  | 0, hy, hd => simp at hy hd; subst hy; subst hd; exact h
  | k + 1, hy, _ => simp at hy
theorem SlR.lit2 {α : Type} {K : Elt α} {w : World} {X : List Nat} {g : Nat} {ty : TypeId} {c d : List Value} {x y : α} {cs : Array Value} (hB : Mem.Blk w g ty cs) (hcs : cs.toList = c ++ d) (hg : g ∉ X) (h : K.R w X x c) (h' : K.R w X y d) : SlR K w X [x, y] (some ⟨g, 0, none⟩) 2 2 := by
  refine SlR.lit (l := [x, y]) [c, d] hB hg (by simpa using hcs) rfl (fun i z e hy hd => ?_) 2 rfl (by decide)
  match i, hy, hd with
  | 0, hy, hd => simp at hy hd; subst hy; subst hd; exact h
  | 1, hy, hd => simp at hy hd; subst hy; subst hd; exact h'
  | k + 2, hy, _ => simp at hy
/-- Four cells are stored where an answer lies; what is answered keeps out of there. -/
theorem ret4E {w w1 : World} {g : Nat} {X : List Nat} {ty : TypeId} {e : Ex} {b0 b1 b2 b3 c0 c1 c2 c3 : Value} (hb : Below w.heap.size w w1) (hg : w.heap.size ≤ g) (hB : Mem.Blk w1 g ty #[b0, b1, b2, b3]) (hR : RepE w1 (g :: X) e [c0, c1, c2, c3]) :
    RepE ((((w1.setCell ⟨g, 0, none⟩ c0).setCell ⟨g, 1, none⟩ c1).setCell ⟨g, 2, none⟩ c2).setCell ⟨g, 3, none⟩ c3) X e [c0, c1, c2, c3] ∧ Below w.heap.size w ((((w1.setCell ⟨g, 0, none⟩ c0).setCell ⟨g, 1, none⟩ c1).setCell ⟨g, 2, none⟩ c2).setCell ⟨g, 3, none⟩ c3) ∧
    Mem.Blk ((((w1.setCell ⟨g, 0, none⟩ c0).setCell ⟨g, 1, none⟩ c1).setCell ⟨g, 2, none⟩ c2).setCell ⟨g, 3, none⟩ c3) g ty #[c0, c1, c2, c3] := by
  have k4 : Kept (g :: X) w1 ((((w1.setCell ⟨g, 0, none⟩ c0).setCell ⟨g, 1, none⟩ c1).setCell ⟨g, 2, none⟩ c2).setCell ⟨g, 3, none⟩ c3) := (((Kept.setCell w1 (by simp) _).trans (Kept.setCell _ (by simp) _)).trans (Kept.setCell _ (by simp) _)).trans (Kept.setCell _ (by simp) _)
  exact ⟨(hR.kept k4).less (fun b _ hm => List.mem_cons_of_mem _ hm), (((hb.setCell hg _).setCell hg _).setCell hg _).setCell hg _, (((hB.set_ 0 _).set_ 1 _).set_ 2 _).set_ 3 _⟩
theorem ret4T {w w1 : World} {g : Nat} {X : List Nat} {ty : TypeId} {e : Te} {b0 b1 b2 b3 c0 c1 c2 c3 : Value} (hb : Below w.heap.size w w1) (hg : w.heap.size ≤ g) (hB : Mem.Blk w1 g ty #[b0, b1, b2, b3]) (hR : RepT w1 (g :: X) e [c0, c1, c2, c3]) :
    RepT ((((w1.setCell ⟨g, 0, none⟩ c0).setCell ⟨g, 1, none⟩ c1).setCell ⟨g, 2, none⟩ c2).setCell ⟨g, 3, none⟩ c3) X e [c0, c1, c2, c3] ∧ Below w.heap.size w ((((w1.setCell ⟨g, 0, none⟩ c0).setCell ⟨g, 1, none⟩ c1).setCell ⟨g, 2, none⟩ c2).setCell ⟨g, 3, none⟩ c3) ∧
    Mem.Blk ((((w1.setCell ⟨g, 0, none⟩ c0).setCell ⟨g, 1, none⟩ c1).setCell ⟨g, 2, none⟩ c2).setCell ⟨g, 3, none⟩ c3) g ty #[c0, c1, c2, c3] := by
  have k4 : Kept (g :: X) w1 ((((w1.setCell ⟨g, 0, none⟩ c0).setCell ⟨g, 1, none⟩ c1).setCell ⟨g, 2, none⟩ c2).setCell ⟨g, 3, none⟩ c3) := (((Kept.setCell w1 (by simp) _).trans (Kept.setCell _ (by simp) _)).trans (Kept.setCell _ (by simp) _)).trans (Kept.setCell _ (by simp) _)
  exact ⟨(hR.kept k4).less (fun b _ hm => List.mem_cons_of_mem _ hm), (((hb.setCell hg _).setCell hg _).setCell hg _).setCell hg _, (((hB.set_ 0 _).set_ 1 _).set_ 2 _).set_ 3 _⟩
end Go.Proofs.Ytgbiimoednmlgaa

/- The contract of num.Sum. -/
namespace Go.Proofs.Ytgbiimoednmlgaa
set_option linter.unusedVariables false
set_option linter.unusedSimpArgs false
open Go.RowKit
theorem add64_law (x y c : Nat) (hc : c ≤ 1) (w : World) :
    (callFunc 70 #[.int .u64 x, .int .u64 y, .int .u64 c]).run Try.prog w =
      .ok (.value (.tuple #[.int .u64 (((x + y + c) % 18446744073709551616 : Nat) : Int), .int .u64 (((x + y + c) / 18446744073709551616 : Nat) : Int)])) w := by
  rw [run_callFunc_extern Try.func70 (by kernel_rfl) (by kernel_rfl) (by kernel_rfl) (e := add64Entry) (by kernel_rfl), run_add64 x y c (by omega) (by omega) (by omega) (by omega)]
  simp only [Result.andThen]
  congr 5 <;> omega
theorem uw_wrap (n : Int) : IntKind.u64.wrap n = ((uw n : Nat) : Int) := by
  have : IntKind.u64.wrap n = n % 18446744073709551616 := by simp [IntKind.wrap, IntKind.bits, IntKind.signed]
  rw [this]; unfold uw; omega
theorem sw_wrap (n : Int) (h : I64 n) : IntKind.u64.wrap (n / 9223372036854775808) = ((sw n : Nat) : Int) := by
  have e : IntKind.u64.wrap (n / 9223372036854775808) = (n / 9223372036854775808) % 18446744073709551616 := by simp [IntKind.wrap, IntKind.bits, IntKind.signed]
  rw [e]; unfold sw; unfold I64 at h; split <;> omega
theorem low_wrap (lo : Nat) (h : lo < 18446744073709551616) : IntKind.i64.wrap (lo : Int) = lowI lo := by
  rw [IntKind.wrap_i64]; unfold lowI; split <;> omega
/-- Amounts in a row. -/
def IntsAt (w : World) (l : List Int) (a : Option Addr) (len : Nat) : Prop := l.length = len ∧ (∀ (k : Nat) n, l[k]? = some n → I64 n ∧ ∃ b o, a = some ⟨b, o, none⟩ ∧ w.cell? ⟨b, o + k, none⟩ = some (.int .i64 n))
set_option maxRecDepth 100000 in
set_option maxHeartbeats 4000000 in
theorem sum_any (l : List Int) (a : Option Addr) (len cap : Nat) (w : World) (h : IntsAt w l a len) (hlen : len ≤ 1000000000) :
    Calls Try.prog 37 #[.slice a len cap] w fun e w' => e = .returned (.tuple #[.int .i64 (if fits64 l.sum then l.sum else 0), .bool (fits64 l.sum)]) ∧ w = w' := by
  have HH := Lib.hid h
  have HLN := Lib.hid hlen
  obtain ⟨R, hR⟩ : ∃ R, R = (if fits64 l.sum then l.sum else 0) := ⟨_, rfl⟩
  obtain ⟨Q, hQ⟩ : ∃ Q, Q = fits64 l.sum := ⟨_, rfl⟩
  have HR := Lib.hid hR
  have HQ := Lib.hid hQ
  rw [← hR, ← hQ]
  clear h hR hQ
  go_enter Try.func37, Try.ntmps37
  go_wp2_with fail
  go_loopw [4, 5, 11] (fun hi lo i wr => ∃ (k H L : Nat), hi = .int .u64 (H : Nat) ∧ lo = .int .u64 (L : Nat) ∧ i = .int .i64 (k : Nat) ∧ k ≤ len ∧ wr = w ∧ Hid (Two64 (l.take k).sum H L)) (fun _ _ i _ => len - (intOf i).toNat)
  case atStart => exact ⟨0, 0, 0, rfl, rfl, rfl, Nat.zero_le _, rfl, Two64.nil⟩
  case round =>
    obtain ⟨k, H, L, rfl, rfl, rfl, hk, rfl, HT⟩ := hrel
    by_cases hlt : k < len
    · have hlt' : (k : Int) < (len : Int) := by omega
      have i0 : (0 : Int) ≤ (k : Int) := by omega
      have i1 : (k : Int) ≤ 1000000000 := by have := HLN.out; omega
      obtain ⟨n, hn⟩ : ∃ n, l[k]? = some n := ⟨_, List.getElem?_eq_getElem (by rw [HH.out.1]; exact hlt)⟩
      obtain ⟨hin, b, o, rfl, hc⟩ := HH.out.2 k n hn
      have HN := Lib.hid hn
      have HI := Lib.hid hin
      have e1 := uw_wrap n
      have e2 := sw_wrap n hin
      have hl1 : ∀ w, (callFunc 70 #[.int .u64 (L : Nat), .int .u64 (uw n : Nat), .int .u64 0]).run Try.prog w = .ok (.value (.tuple #[.int .u64 (((L + uw n + 0) % 18446744073709551616 : Nat) : Int), .int .u64 (((L + uw n + 0) / 18446744073709551616 : Nat) : Int)])) w := add64_law L (uw n) 0 (by omega)
      have hcar : (L + uw n + 0) / 18446744073709551616 ≤ 1 := by have := HT.out.lt; have : uw n < 18446744073709551616 := (by unfold uw; omega); omega
      have hl2 := add64_law H (sw n) ((L + uw n + 0) / 18446744073709551616) hcar
      have HT2 := Lib.hid (HT.out.add HI.out)
      rw [← sum_take HN.out] at HT2
      obtain ⟨L', hL'⟩ : ∃ x, x = (L + uw n + 0) % 18446744073709551616 := ⟨_, rfl⟩
      obtain ⟨C, hC⟩ : ∃ x, x = (L + uw n + 0) / 18446744073709551616 := ⟨_, rfl⟩
      obtain ⟨H', hH'⟩ : ∃ x, x = (H + sw n + C) % 18446744073709551616 := ⟨_, rfl⟩
      rw [← hC] at hl1 hl2 HT2
      rw [← hL'] at hl1 HT2
      rw [← hH'] at hl2 HT2
      clear hn hin hL' hC hH' hcar HN
      go_upto_region 6 with (fail)
      go_wp2_with (simp only [e1, e2, hl1, hl2])
      go_roundw
      case rel => exact ⟨k + 1, H', L', rfl, rfl, by go_num, by omega, trivial, HT2.out⟩
      case measure => simp [intOf]; omega
    · have hlt' : ¬ (k : Int) < (len : Int) := by omega
      have ht : l.take k = l := List.take_of_length_le (by rw [HH.out.1]; omega)
      rw [ht] at HT
      have hlw := low_wrap L HT.out.lt.2
      have hbd : -170141183460469231731687303715884105728 ≤ l.sum ∧ l.sum < 170141183460469231731687303715884105728 := by
        have h1 := sum_bound l (fun n hn => by
          obtain ⟨j, hj⟩ := List.getElem?_of_mem hn
          exact (HH.out.2 j n hj).1)
        have h2 := HH.out.1
        have h3 := HLN.out
        rw [h2] at h1
        omega
      have hfit := HT.out.fit hbd
      have HV := Lib.hid (HT.out.val)
      have hsw := sw_wrap (lowI L) (by have := HT.out.lt.2; unfold I64 lowI; split <;> omega)
      obtain ⟨LL, hLL⟩ : ∃ x, x = lowI L := ⟨_, rfl⟩
      rw [← hLL] at hlw hfit HV hsw
      obtain ⟨SW, hSW⟩ : ∃ x, x = sw LL := ⟨_, rfl⟩
      rw [← hSW] at hfit hsw
      clear hLL hSW ht hbd
      by_cases hf : H = SW
      · have hne : ((H : Int) != (SW : Int)) = false := by rw [bne_eq_false_iff_eq]; omega
        have hT := hfit.1 hf
        have hq : fits64 l.sum = true := by unfold fits64; rw [decide_eq_true hT.1, decide_eq_true hT.2]; rfl
        have HX : Hid (R = LL ∧ Q = true) := ⟨by rw [HR.out, hq, if_pos rfl]; exact (HV.out hT).symm, by rw [HQ.out, hq]⟩
        clear hfit HV hf hT hq HR HQ HT
        go_wp2_with (simp only [hlw, hsw])
        go_ret2
        exact ⟨by rw [HX.out.1, HX.out.2]; rfl, rfl⟩
      · have hne : ((H : Int) != (SW : Int)) = true := by rw [bne_iff_ne]; omega
        have hq : fits64 l.sum = false := by
          cases hq : fits64 l.sum with
          | false => rfl
          | true =>
            unfold fits64 at hq
            rw [Bool.and_eq_true, decide_eq_true_iff, decide_eq_true_iff] at hq
            exact absurd (hfit.2 hq) hf
        have HX : Hid (R = 0 ∧ Q = false) := ⟨by rw [HR.out, hq]; rfl, by rw [HQ.out, hq]⟩
        clear hfit HV hf hq HR HQ HT
        go_wp2_with (simp only [hlw, hsw])
        go_ret2
        exact ⟨by rw [HX.out.1, HX.out.2]; rfl, rfl⟩
end Go.Proofs.Ytgbiimoednmlgaa

/- Contracts of names: letters, parts, Named, Reserved, free, of the program and of the document's answer. -/
namespace Go.Proofs.Ytgbiimoednmlgaa
set_option linter.unusedVariables false
set_option linter.unusedSimpArgs false
open Go.RowKit
theorem ret_bool {a b : Bool} (h : a = b) : Ending.returned (.bool a) = .returned (.bool b) := by rw [h]
theorem ret_intk {k : IntKind} {a b : Int} (h : a = b) : Ending.returned (.int k a) = .returned (.int k b) := by rw [h]
def ltr (c : Int) : Bool := decide ((97 ≤ c ∧ c ≤ 122) ∨ (65 ≤ c ∧ c ≤ 90))
def dgt (c : Int) : Bool := decide (48 ≤ c ∧ c ≤ 57)
def prt (c : Int) : Bool := ltr c || dgt c || decide (c = 95)
theorem letter_any (c : Int) (w : World) : Calls Try.prog 77 #[.int .u8 c] w fun e w' => e = .returned (.bool (ltr c)) ∧ w = w' := by
  have HF : Hid (∀ b, ltr c = b → Ending.returned (.bool b) = .returned (.bool (ltr c))) := fun b h => ret_bool h.symm
  by_cases h1 : 97 ≤ c <;> by_cases h2 : c ≤ 122 <;> by_cases h3 : 65 ≤ c <;> by_cases h4 : c ≤ 90
  all_goals
    first
    | (exfalso; omega)
    | (have F := Lib.hid (HF.out true (by unfold ltr; simp; omega))
       go_enter Try.func77, Try.ntmps77
       go_wp2
       go_ret
       exact ⟨F.out, rfl⟩)
    | (have F := Lib.hid (HF.out false (by unfold ltr; simp; omega))
       go_enter Try.func77, Try.ntmps77
       go_wp2
       go_ret
       exact ⟨F.out, rfl⟩)
theorem rletter_any (c : Int) (w : World) : Calls Try.prog 63 #[.int .u8 c] w fun e w' => e = .returned (.bool (ltr c)) ∧ w = w' := by
  have HF : Hid (∀ b, ltr c = b → Ending.returned (.bool b) = .returned (.bool (ltr c))) := fun b h => ret_bool h.symm
  by_cases h1 : 97 ≤ c <;> by_cases h2 : c ≤ 122 <;> by_cases h3 : 65 ≤ c <;> by_cases h4 : c ≤ 90
  all_goals
    first
    | (exfalso; omega)
    | (have F := Lib.hid (HF.out true (by unfold ltr; simp; omega))
       go_enter Try.func63, Try.ntmps63
       go_wp2
       go_ret
       exact ⟨F.out, rfl⟩)
    | (have F := Lib.hid (HF.out false (by unfold ltr; simp; omega))
       go_enter Try.func63, Try.ntmps63
       go_wp2
       go_ret
       exact ⟨F.out, rfl⟩)
theorem digit_any (c : Int) (w : World) : Calls Try.prog 89 #[.int .u8 c] w fun e w' => e = .returned (.bool (dgt c)) ∧ w = w' := by
  have HF : Hid (∀ b, dgt c = b → Ending.returned (.bool b) = .returned (.bool (dgt c))) := fun b h => ret_bool h.symm
  by_cases h1 : 48 ≤ c <;> by_cases h2 : c ≤ 57
  all_goals
    first
    | (exfalso; omega)
    | (have F := Lib.hid (HF.out true (by unfold dgt; simp; omega))
       go_enter Try.func89, Try.ntmps89
       go_wp2
       go_ret
       exact ⟨F.out, rfl⟩)
    | (have F := Lib.hid (HF.out false (by unfold dgt; simp; omega))
       go_enter Try.func89, Try.ntmps89
       go_wp2
       go_ret
       exact ⟨F.out, rfl⟩)
theorem part_any (c : Int) (w : World) : Calls Try.prog 79 #[.int .u8 c] w fun e w' => e = .returned (.bool (prt c)) ∧ w = w' := by
  have HF : Hid (∀ b, prt c = b → Ending.returned (.bool b) = .returned (.bool (prt c))) := fun b h => ret_bool h.symm
  have HL := Lib.hid (fun W => letter_any c W)
  have HD := Lib.hid (fun W => digit_any c W)
  have HP := Lib.hid (show prt c = (ltr c || dgt c || decide (c = 95)) from rfl)
  generalize ltr c = a at *
  generalize dgt c = b at *
  cases a <;> cases b
  case false.false =>
    have F := Lib.hid (HF.out (c == 95) (by rw [HP.out]; rfl))
    go_enter Try.func79, Try.ntmps79
    go_wp2_with fail
    refine (HL.out _).mono ?_; rintro e w' ⟨rfl, rfl⟩
    go_wp2_with fail
    refine (HD.out _).mono ?_; rintro e w' ⟨rfl, rfl⟩
    go_wp2
    go_ret
    exact ⟨F.out, rfl⟩
  case false.true =>
    have F := Lib.hid (HF.out true (by rw [HP.out]; simp))
    go_enter Try.func79, Try.ntmps79
    go_wp2_with fail
    refine (HL.out _).mono ?_; rintro e w' ⟨rfl, rfl⟩
    go_wp2_with fail
    refine (HD.out _).mono ?_; rintro e w' ⟨rfl, rfl⟩
    go_wp2
    go_ret
    exact ⟨F.out, rfl⟩
  all_goals
    have F := Lib.hid (HF.out true (by rw [HP.out]; simp))
    go_enter Try.func79, Try.ntmps79
    go_wp2_with fail
    refine (HL.out _).mono ?_; rintro e w' ⟨rfl, rfl⟩
    go_wp2
    go_ret
    exact ⟨F.out, rfl⟩
theorem rpart_any (c : Int) (w : World) : Calls Try.prog 64 #[.int .u8 c] w fun e w' => e = .returned (.bool (prt c)) ∧ w = w' := by
  have HF : Hid (∀ b, prt c = b → Ending.returned (.bool b) = .returned (.bool (prt c))) := fun b h => ret_bool h.symm
  have HL := Lib.hid (fun W => rletter_any c W)
  have HP := Lib.hid (show prt c = (ltr c || decide (48 ≤ c ∧ c ≤ 57) || decide (c = 95)) from rfl)
  generalize ltr c = a at *
  cases a
  case false =>
    by_cases h1 : 48 ≤ c
    all_goals
      go_enter Try.func64, Try.ntmps64
      go_wp2_with fail
      refine (HL.out _).mono ?_; rintro e w' ⟨rfl, rfl⟩
      go_wp2
      all_goals
        go_ret
        exact ⟨HF.out _ (by rw [HP.out, Bool.eq_iff_iff]; simp; try omega), rfl⟩
  all_goals
    have F := Lib.hid (HF.out true (by rw [HP.out]; simp))
    go_enter Try.func64, Try.ntmps64
    go_wp2_with fail
    refine (HL.out _).mono ?_; rintro e w' ⟨rfl, rfl⟩
    go_wp2
    go_ret
    exact ⟨F.out, rfl⟩
/-- The bytes of a string, as integers. -/
def bs (s : ByteArray) : List Int := s.data.toList.map fun c => (c.toNat : Int)
theorem bs_len (s : ByteArray) : (bs s).length = s.size := by unfold bs; simp
theorem bs_get (s : ByteArray) (k : Nat) (h : k < s.size) : (bs s)[k]? = some ((s[k].toNat : Nat) : Int) := by
  unfold bs
  rw [List.getElem?_map, List.getElem?_eq_getElem (by simpa using h)]; rfl
/-- How many first bytes are so. -/
def runN (p : Int → Bool) : List Int → Nat
  | [] => 0
  | c :: t => if p c then 1 + runN p t else 0
theorem runN_le (p : Int → Bool) (l : List Int) : runN p l ≤ l.length := by
  induction l with
  | nil => exact Nat.le_refl _
  | cons c t ih => simp only [runN]; split <;> simp <;> omega
theorem runN_all (p : Int → Bool) (l : List Int) : runN p l = l.length ↔ l.all p = true := by
  induction l with
  | nil => simp [runN]
  | cons c t ih =>
    have := runN_le p t
    simp only [runN, List.all_cons, List.length_cons]
    cases h : p c
    · simp
    · simp only [if_true, Bool.true_and, ← ih]; omega
theorem runN_at (p : Int → Bool) (l : List Int) (k : Nat) (c : Int) (h : l[k]? = some c) (hr : k ≤ runN p l) : (p c = true → k + 1 ≤ runN p l) ∧ (p c = false → runN p l = k) := by
  induction l generalizing k with
  | nil => cases h
  | cons x t ih =>
    simp only [runN] at hr ⊢
    cases k with
    | zero =>
      simp at h; subst h
      constructor
      · intro hp; rw [if_pos hp]; omega
      · intro hp; rw [hp]; rfl
    | succ j =>
      cases hx : p x
      · rw [hx] at hr; simp at hr
      · simp only [hx, if_true] at hr ⊢
        have := ih j (by simpa using h) (by omega)
        constructor
        · intro hp; have := this.1 hp; omega
        · intro hp; have := this.2 hp; omega
set_option maxHeartbeats 400000 in
theorem run_any (s : ByteArray) (w : World) (hs : s.size ≤ 9223372036854775807) :
    Calls Try.prog 78 #[.string s, .func (.func 79) #[] #[]] w fun e w' => e = .returned (.int .i64 (runN prt (bs s) : Nat)) ∧ w = w' := by
  have HP := Lib.hid (fun c W => part_any c W)
  have HA := Lib.hid (fun k c => runN_at prt (bs s) k c)
  have HL := Lib.hid (runN_le prt (bs s))
  have HG := Lib.hid (fun k h => bs_get s k h)
  have HN := Lib.hid (bs_len s)
  generalize runN prt (bs s) = r at *
  go_enter Try.func78, Try.ntmps78
  go_wp2_with fail
  go_loop [5] (fun n => ∃ k : Nat, n = .int .i64 k ∧ k ≤ r ∧ k ≤ s.size) (fun n => s.size - (intOf n).toNat)
  case atStart => exact ⟨0, rfl, Nat.zero_le _, Nat.zero_le _⟩
  case round =>
    obtain ⟨k, rfl, hk, hk2⟩ := hrel
    by_cases hlt : k < s.size
    · have ha := HA.out k _ (HG.out k hlt) hk
      have HC := Lib.hid (fun W => HP.out (s[k].toNat : Nat) W)
      cases hp : prt (s[k].toNat : Nat)
      · rw [hp] at HC
        have e := ha.2 hp
        clear ha hp
        subst e
        go_wp2_with fail
        refine (HC.out _).mono ?_; rintro e w' ⟨rfl, rfl⟩
        go_wp2
        go_ret
        exact ⟨rfl, rfl⟩
      · rw [hp] at HC
        have e := ha.1 hp
        clear ha hp
        go_wp2_with fail
        refine (HC.out _).mono ?_; rintro e w' ⟨rfl, rfl⟩
        go_wp2
        go_round
        case rel => exact ⟨k + 1, by go_num, e, by omega⟩
        case measure => simp [intOf]; omega
    · have e : k = r := by have h1 := HL.out; have h2 := HN.out; rw [h2] at h1; omega
      subst e
      go_wp2
      go_ret
      exact ⟨rfl, rfl⟩
end Go.Proofs.Ytgbiimoednmlgaa

/- Contracts of Named and Reserved, of the program and of the document's answer. -/
namespace Go.Proofs.Ytgbiimoednmlgaa
set_option linter.unusedVariables false
set_option linter.unusedSimpArgs false
open Go.RowKit
/-- Is a text a name? -/
def nmd (s : ByteArray) : Bool := decide (1 ≤ s.size) && decide (s.size ≤ 16) && ltr ((bs s).getD 0 0) && (bs s).all prt
theorem ne_nil_size (s : ByteArray) : (s.data.toList.isEmpty = false) ↔ 1 ≤ s.size := by
  have e : s.data.toList.length = s.size := rfl
  cases h : s.data.toList with
  | nil => rw [h] at e; exact ⟨(fun h => by cases h), (fun h => by simp only [List.length_nil] at e; omega)⟩
  | cons a t => rw [h] at e; exact ⟨(fun _ => by simp only [List.length_cons] at e; omega), (fun _ => rfl)⟩
set_option maxHeartbeats 1000000 in
theorem named_any (s : ByteArray) (w : World) (hs : s.size ≤ 9223372036854775807) : Calls Try.prog 47 #[.string s] w fun e w' => e = .returned (.bool (nmd s)) ∧ w = w' := by
  have HF : Hid (∀ b, nmd s = b → Ending.returned (.bool b) = .returned (.bool (nmd s))) := fun b h => ret_bool h.symm
  have HR := Lib.hid (fun W => run_any s W hs)
  have HN := Lib.hid (show nmd s = (decide (1 ≤ s.size) && decide (s.size ≤ 16) && ltr ((bs s).getD 0 0) && (bs s).all prt) from rfl)
  have HE := Lib.hid (ne_nil_size s)
  have HA := Lib.hid (runN_all prt (bs s))
  have HB := Lib.hid (bs_len s)
  have HG := Lib.hid (fun k h => bs_get s k h)
  by_cases h1 : 1 ≤ s.size
  case neg =>
    have h0 : s.toList = [] := by
      cases hh : s.toList with
      | nil => rfl
      | cons a t => exfalso; have := (HE.out).1 (by rw [← ByteArray.toList_eq, hh]; rfl); omega
    have F := Lib.hid (HF.out false (by rw [HN.out]; simp [h1]))
    clear h1
    go_enter Try.func47, Try.ntmps47
    go_wp2
    go_ret
    exact ⟨F.out, rfl⟩
  have h0 : s.toList.isEmpty = false := by rw [ByteArray.toList_eq]; exact (HE.out).2 h1
  have h0' : (!s.toList.isEmpty) = true := by rw [h0]; rfl
  by_cases h2 : s.size ≤ 16
  case neg =>
    have F := Lib.hid (HF.out false (by rw [HN.out]; simp [h2]))
    go_enter Try.func47, Try.ntmps47
    go_wp2
    go_ret
    exact ⟨F.out, rfl⟩
  have HL := Lib.hid (fun W => letter_any (s[0].toNat : Nat) W)
  have eg : (bs s).getD 0 0 = (s[0].toNat : Nat) := by rw [List.getD_eq_getElem?_getD, HG.out 0 h1]; rfl
  have HL2 := Lib.hid (show nmd s = (ltr (s[0].toNat : Nat) && (bs s).all prt) by rw [HN.out, eg]; simp [h1, h2])
  clear eg
  cases hl : ltr (s[0].toNat : Nat)
  · rw [hl] at HL HL2
    have F := Lib.hid (HF.out false (by rw [HL2.out]; rfl))
    clear hl
    go_enter Try.func47, Try.ntmps47
    go_wp2_with fail
    refine (HL.out _).mono ?_; rintro e w' ⟨rfl, rfl⟩
    go_wp2
    go_ret
    exact ⟨F.out, rfl⟩
  · rw [hl] at HL HL2
    have F := Lib.hid (HF.out (((runN prt (bs s) : Nat) : Int) == (s.size : Nat)) (by
      rw [HL2.out, Bool.eq_iff_iff, Bool.true_and, ← HA.out, HB.out]; simp; omega))
    clear hl
    generalize runN prt (bs s) = r at *
    go_enter Try.func47, Try.ntmps47
    go_wp2_with fail
    refine (HL.out _).mono ?_; rintro e w' ⟨rfl, rfl⟩
    go_wp2_with fail
    refine (HR.out _).mono ?_; rintro e w' ⟨rfl, rfl⟩
    go_wp2
    go_ret
    exact ⟨F.out, rfl⟩
set_option maxHeartbeats 1000000 in
theorem rnamed_any (s : ByteArray) (w : World) (hs : s.size ≤ 9223372036854775807) : Calls Try.prog 31 #[.string s] w fun e w' => e = .returned (.bool (nmd s)) ∧ w = w' := by
  have HF : Hid (∀ b, nmd s = b → Ending.returned (.bool b) = .returned (.bool (nmd s))) := fun b h => ret_bool h.symm
  have HN := Lib.hid (show nmd s = (decide (1 ≤ s.size) && decide (s.size ≤ 16) && ltr ((bs s).getD 0 0) && (bs s).all prt) from rfl)
  have HB := Lib.hid (bs_len s)
  have HG := Lib.hid (fun k h => bs_get s k h)
  by_cases h1 : 1 ≤ s.size
  case neg =>
    have F := Lib.hid (HF.out false (by rw [HN.out]; simp [h1]))
    have h0 : decide (s.size < 1) = true := decide_eq_true (by omega)
    go_enter Try.func31, Try.ntmps31
    go_wp2
    go_ret
    exact ⟨F.out, rfl⟩
  by_cases h2 : s.size ≤ 16
  case neg =>
    have F := Lib.hid (HF.out false (by rw [HN.out]; simp [h2]))
    go_enter Try.func31, Try.ntmps31
    go_wp2
    go_ret
    exact ⟨F.out, rfl⟩
  have HL := Lib.hid (fun W => rletter_any (s[0].toNat : Nat) W)
  have eg : (bs s).getD 0 0 = (s[0].toNat : Nat) := by rw [List.getD_eq_getElem?_getD, HG.out 0 h1]; rfl
  have HL2 := Lib.hid (show nmd s = (ltr (s[0].toNat : Nat) && (bs s).all prt) by rw [HN.out, eg]; simp [h1, h2])
  clear eg
  cases hl : ltr (s[0].toNat : Nat)
  · rw [hl] at HL HL2
    have F := Lib.hid (HF.out false (by rw [HL2.out]; rfl))
    clear hl
    go_enter Try.func31, Try.ntmps31
    go_wp2_with fail
    refine (HL.out _).mono ?_; rintro e w' ⟨rfl, rfl⟩
    go_wp2
    go_ret
    exact ⟨F.out, rfl⟩
  · rw [hl] at HL HL2
    have HA := Lib.hid (fun k c => runN_at prt (bs s) k c)
    have HT := Lib.hid (runN_all prt (bs s))
    have HQ := Lib.hid (runN_le prt (bs s))
    have FT : Hid (s.size ≤ runN prt (bs s) → Ending.returned (.bool true) = .returned (.bool (nmd s))) := fun h => HF.out true (by
      rw [HL2.out, Bool.true_and, ← HT.out, HB.out]; have := HQ.out; have := HB.out; omega)
    have FF : Hid (runN prt (bs s) < s.size → Ending.returned (.bool false) = .returned (.bool (nmd s))) := fun h => HF.out false (by
      rw [HL2.out, Bool.true_and]
      cases hh : (bs s).all prt with
      | false => rfl
      | true => exfalso; have := HT.out.2 hh; rw [HB.out] at this; omega)
    clear hl
    generalize runN prt (bs s) = r at *
    go_enter Try.func31, Try.ntmps31
    go_wp2_with fail
    refine (HL.out _).mono ?_; rintro e w' ⟨rfl, rfl⟩
    go_wp2_with fail
    go_loop [3] (fun n => ∃ k : Nat, n = .int .i64 k ∧ k ≤ r ∧ k ≤ s.size) (fun n => s.size - (intOf n).toNat)
    case atStart => exact ⟨0, rfl, Nat.zero_le _, Nat.zero_le _⟩
    case round =>
      obtain ⟨k, rfl, hk, hk2⟩ := hrel
      by_cases hlt : k < s.size
      · have ha := HA.out k _ (HG.out k hlt) hk
        have HC := Lib.hid (fun W => rpart_any (s[k].toNat : Nat) W)
        cases hp : prt (s[k].toNat : Nat)
        · rw [hp] at HC
          have e := ha.2 hp
          clear ha hp
          have F := Lib.hid (FF.out (by omega))
          clear e
          go_wp2_with fail
          refine (HC.out _).mono ?_; rintro e w' ⟨rfl, rfl⟩
          go_wp2
          go_ret
          exact ⟨F.out, rfl⟩
        · rw [hp] at HC
          have e := ha.1 hp
          clear ha hp
          go_wp2_with fail
          refine (HC.out _).mono ?_; rintro e w' ⟨rfl, rfl⟩
          go_wp2
          go_round
          case rel => exact ⟨k + 1, by go_num, e, by omega⟩
          case measure => simp [intOf]; omega
      · have F := Lib.hid (FT.out (by omega))
        go_wp2
        go_ret
        exact ⟨F.out, rfl⟩
end Go.Proofs.Ytgbiimoednmlgaa

/- Moves leave books even, posted in two goes too: plain. -/
namespace Go.Proofs.Ytgbiimoednmlgaa
set_option linter.unusedVariables false
set_option linter.unusedSimpArgs false
open Go.RowKit
def Mv.kf (x : Mv) : Ky := (x.src.data.toList, x.coin.data.toList)
def Mv.kt (x : Mv) : Ky := (x.dst.data.toList, x.coin.data.toList)
def conM (m : List Mv) : List (Ky × Int) := m.flatMap (fun x => [(x.kf, -x.amt), (x.kt, x.amt)])
def conA (l : List Acct) : List (Ky × Int) := l.map (fun a => (a.key, a.amt))
theorem conM_append (a b : List Mv) : conM (a ++ b) = conM a ++ conM b := by unfold conM; rw [List.flatMap_append]
theorem conM_one (x : Mv) : conM [x] = [(x.kf, -x.amt), (x.kt, x.amt)] := by unfold conM; simp
theorem conM_coin (m : List Mv) (c : List UInt8) : coinL (conM m) c = 0 := by
  induction m with
  | nil => rfl
  | cons x t ih =>
    have e : conM (x :: t) = [(x.kf, -x.amt)] ++ ([(x.kt, x.amt)] ++ conM t) := by unfold conM; rw [List.flatMap_cons]; rfl
    rw [e, coinL_append, coinL_append, coinL_one, coinL_one, ih]
    have e1 : x.kf.2 = x.kt.2 := rfl
    rw [e1]
    by_cases h : x.kt.2 = c
    · rw [if_pos h, if_pos h]; omega
    · rw [if_neg h, if_neg h]; omega
/-- No account is beyond. -/
def FitL (L : List (Ky × Int)) : Prop := ∀ k, fits64 (tot L k) = true
theorem fits_zero : fits64 0 = true := by decide
theorem FitL.of {L : List (Ky × Int)} (h : ∀ p ∈ L, fits64 (tot L p.1) = true) : FitL L := by
  intro k
  by_cases hk : ∃ p ∈ L, p.1 = k
  · obtain ⟨p, hp, rfl⟩ := hk
    exact h p hp
  · rw [tot_none (fun p hp e => hk ⟨p, hp, e⟩)]; exact fits_zero
theorem LsE.fit {es : List Ent} {L : List (Ky × Int)} (h : LsE es L) : FitL L ↔ ∀ e ∈ es, fits64 e.all.sum = true := by
  constructor
  · intro hf e he
    rw [h.sum e he]; exact hf _
  · intro hf
    refine FitL.of (fun p hp => ?_)
    obtain ⟨e, he, hek⟩ := h.has p hp
    rw [← hek, ← h.sum e he]; exact hf e he
theorem tot_conA_none {l : List Acct} {k : Ky} (h : ∀ a ∈ l, a.key ≠ k) : tot (conA l) k = 0 := tot_none (fun p hp e => by
  obtain ⟨a, ha, rfl⟩ := List.mem_map.1 hp
  exact h a ha e)
theorem tot_conA {l : List Acct} (hu : UpK Acct.key l) {a : Acct} (ha : a ∈ l) : tot (conA l) a.key = a.amt := by
  induction l with
  | nil => cases ha
  | cons b t ih =>
    unfold UpK at hu
    rw [List.pairwise_cons] at hu
    have e : conA (b :: t) = [(b.key, b.amt)] ++ conA t := rfl
    rw [e, tot_append, tot_one]
    rcases List.mem_cons.1 ha with rfl | ha
    · rw [if_pos rfl, tot_conA_none (fun x hx e => by have := hu.1 x hx; rw [e] at this; exact klt_irrefl _ this)]; omega
    · rw [if_neg (fun e => by have := hu.1 a ha; rw [e] at this; exact klt_irrefl _ this), ih hu.2 ha]; omega
/-- What books have is what came to them. -/
theorem OutOf.tot {out : List Acct} {L : List (Ky × Int)} (h : OutOf out L) (k : Ky) : Go.Proofs.Ytgbiimoednmlgaa.tot (conA out) k = Go.Proofs.Ytgbiimoednmlgaa.tot L k := by
  by_cases hk : ∃ a ∈ out, a.key = k
  · obtain ⟨a, ha, rfl⟩ := hk
    rw [tot_conA h.up ha, (h.amt a ha).1]
  · rw [tot_conA_none (fun a ha e => hk ⟨a, ha, e⟩)]
    refine Classical.byContradiction (fun hn => hk (h.all k (fun e => hn e.symm)))
/-- Posted in two goes. -/
theorem two_goes {m n : List Mv} {one : List Acct} (h : OutOf one (conM m)) (k : Ky) : tot (conA one ++ conM n) k = tot (conM (m ++ n)) k := by
  rw [tot_append, h.tot, conM_append, tot_append]
def nmK (t : List UInt8) : Bool := nmd ⟨t.toArray⟩
theorem nmK_of (s : ByteArray) : nmK s.data.toList = nmd s := by unfold nmK; rw [Array.toArray_toList]
/-- Are accounts books? -/
def okA (a : Acct) : Bool := nmd a.party && nmd a.coin && decide (a.amt ≠ 0)
def adjK (key : Acct → Ky) : List Acct → Bool
  | a :: b :: t => decide (kcmp (key a) (key b) < 0) && adjK key (b :: t)
  | _ => true
def rightA (l : List Acct) : Bool := l.all okA && adjK Acct.key l
theorem adjK_up : ∀ {l : List Acct}, adjK Acct.key l = true → UpK Acct.key l
  | [], _ => List.Pairwise.nil
  | [a], _ => List.pairwise_singleton _ _
  | a :: b :: t, h => by
    unfold adjK at h
    rw [Bool.and_eq_true, decide_eq_true_iff] at h
    have ih := adjK_up h.2
    unfold UpK at ih ⊢
    refine List.pairwise_cons.2 ⟨fun x hx => ?_, ih⟩
    have hab := kcmp_neg.1 h.1
    rcases List.mem_cons.1 hx with rfl | hx
    · exact hab
    · exact klt_trans hab ((List.pairwise_cons.1 ih).1 x hx)
theorem up_adjK : ∀ {l : List Acct}, UpK Acct.key l → adjK Acct.key l = true
  | [], _ => rfl
  | [a], _ => rfl
  | a :: b :: t, h => by
    unfold UpK at h
    rw [List.pairwise_cons] at h
    unfold adjK
    rw [decide_eq_true (kcmp_neg.2 (h.1 b (List.mem_cons_self ..))), Bool.true_and]
    exact up_adjK h.2
theorem rightA_iff {l : List Acct} : rightA l = true ↔ (∀ a ∈ l, okA a = true) ∧ UpK Acct.key l := by
  unfold rightA
  rw [Bool.and_eq_true, List.all_eq_true]
  exact ⟨fun h => ⟨h.1, adjK_up h.2⟩, fun h => ⟨h.1, up_adjK h.2⟩⟩
theorem adjK_get : ∀ {l : List Acct}, adjK Acct.key l = true ↔ ∀ (i : Nat) a b, l[i]? = some a → l[i + 1]? = some b → kcmp a.key b.key < 0
  | [] => ⟨fun _ i a b h => by simp at h, fun _ => rfl⟩
  | [a] => ⟨fun _ i x b _ h => by simp at h, fun _ => rfl⟩
  | a :: b :: t => by
    unfold adjK
    rw [Bool.and_eq_true, decide_eq_true_iff, adjK_get (l := b :: t)]
    constructor
    · rintro ⟨h1, h2⟩ i x y hx hy
      cases i with
      | zero =>
        injection hx with hx; injection hy with hy
        subst hx; subst hy; exact h1
      | succ i => exact h2 i x y hx hy
    · intro h
      exact ⟨h 0 a b rfl rfl, fun i x y hx hy => h (i + 1) x y hx hy⟩
/-- Books even: right, and of each currency the amounts come to nothing. -/
def evenA (l : List Acct) : Bool := rightA l && l.all (fun a => decide (coinA l a.coin.data.toList = 0))
def NamL (L : List (Ky × Int)) : Prop := ∀ p ∈ L, nmK p.1.1 = true ∧ nmK p.1.2 = true
theorem OutOf.right {out : List Acct} {L : List (Ky × Int)} (h : OutOf out L) (hn : NamL L) : rightA out = true := by
  rw [rightA_iff]
  refine ⟨fun a ha => ?_, h.up⟩
  obtain ⟨h1, h2⟩ := h.amt a ha
  have : ∃ p ∈ L, p.1 = a.key := Classical.byContradiction (fun hx => h2 (by rw [h1]; exact tot_none (fun p hp e => hx ⟨p, hp, e⟩)))
  obtain ⟨p, hp, hpk⟩ := this
  obtain ⟨n1, n2⟩ := hn p hp
  rw [hpk] at n1 n2
  unfold okA
  rw [← nmK_of, ← nmK_of, decide_eq_true h2]
  show (nmK a.key.1 && nmK a.key.2 && true) = true
  rw [n1, n2]; rfl
/-- What Post gives. -/
structure PostOut (out : List Acct) (L : List (Ky × Int)) : Prop where
  is : OutOf out L
  coin : ∀ c, coinA out c = coinL L c
theorem PostOut.of {es : List Ent} {L : List (Ky × Int)} (h : LsE es L) (hc : CoE es L) : PostOut (outA es) L := ⟨h.out, fun c => by rw [outA_coin, hc]⟩
theorem PostOut.even {out : List Acct} {m : List Mv} (h : PostOut out (conM m)) (hn : NamL (conM m)) : evenA out = true := by
  unfold evenA
  rw [h.is.right hn, Bool.true_and, List.all_eq_true]
  intro a ha
  rw [h.coin, conM_coin]; rfl
def mayM (x : Mv) : Bool := nmd x.src && nmd x.dst && nmd x.coin && decide (x.src.data.toList ≠ x.dst.data.toList) && decide (1 ≤ x.amt)
theorem mayM_nam {m : List Mv} (h : m.all mayM = true) : NamL (conM m) := by
  intro p hp
  unfold conM at hp
  rw [List.mem_flatMap] at hp
  obtain ⟨x, hx, hp⟩ := hp
  have h1 := List.all_eq_true.1 h x hx
  unfold mayM at h1
  simp only [Bool.and_eq_true] at h1
  obtain ⟨⟨⟨⟨h1, h2⟩, h3⟩, -⟩, -⟩ := h1
  rw [List.mem_cons, List.mem_singleton] at hp
  rcases hp with rfl | rfl
  · exact ⟨by show nmK x.src.data.toList = true; rw [nmK_of]; exact h1, by show nmK x.coin.data.toList = true; rw [nmK_of]; exact h3⟩
  · exact ⟨by show nmK x.dst.data.toList = true; rw [nmK_of]; exact h2, by show nmK x.coin.data.toList = true; rw [nmK_of]; exact h3⟩
theorem right_nam {l : List Acct} (h : rightA l = true) : NamL (conA l) := by
  intro p hp
  obtain ⟨a, ha, rfl⟩ := List.mem_map.1 hp
  have := (rightA_iff.1 h).1 a ha
  unfold okA at this
  simp only [Bool.and_eq_true] at this
  exact ⟨by show nmK a.party.data.toList = true; rw [nmK_of]; exact this.1.1, by show nmK a.coin.data.toList = true; rw [nmK_of]; exact this.1.2⟩
end Go.Proofs.Ytgbiimoednmlgaa

/- Slices of texts, read as bytes. -/
namespace Go.Proofs.Ytgbiimoednmlgaa
set_option linter.unusedVariables false
set_option linter.unusedSimpArgs false
open Go.RowKit
/-- A text as its bytes. -/
def strK : Elt (List UInt8) where
  sz := 1
  pos := by decide
  R := fun _ _ s cs => cs = [encStr s]
  kept := fun h _ => h
  less := fun h _ => h
  one := fun h => by subst h; exact ⟨rfl, by simp [encStr, Value.oneCell']⟩
theorem below_dN {B : Nat} {a w : World} (h : Below B a w) (n : Nat) : Below B a (w.drewN n) := ⟨h.os, h.tape, h.output, h.size, h.block⟩
end Go.Proofs.Ytgbiimoednmlgaa
