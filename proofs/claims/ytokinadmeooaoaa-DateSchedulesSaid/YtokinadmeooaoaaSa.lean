/- The days of a schedule, sorted, each once: plain. -/
import Derived.Lib.SlicesCompact
open Go Go.Lib
namespace Go.Proofs.Ytokinadmeooaoaa
set_option linter.unusedVariables false
set_option linter.unusedSimpArgs false
theorem inc_ext : ∀ (l l' : List Int), l.Pairwise (· < ·) → l'.Pairwise (· < ·) → (∀ x, x ∈ l ↔ x ∈ l') → l = l'
  | [], [], _, _, _ => rfl
  | [], y :: t, _, _, h => by have := (h y).2 (by simp); cases this
  | x :: t, [], _, _, h => by have := (h x).1 (by simp); cases this
  | x :: t, y :: u, h1, h2, h => by
    obtain ⟨a1, a2⟩ := List.pairwise_cons.1 h1
    obtain ⟨b1, b2⟩ := List.pairwise_cons.1 h2
    have hxy : x = y := by
      have g1 := (h x).1 (by simp)
      have g2 := (h y).2 (by simp)
      rcases List.mem_cons.1 g1 with e | e
      · exact e
      · rcases List.mem_cons.1 g2 with e' | e'
        · exact e'.symm
        · have := a1 y e'; have := b1 x e; omega
    subst hxy
    rw [inc_ext t u a2 b2 (fun z => by
      have g := h z
      simp only [List.mem_cons] at g
      constructor
      · intro hz
        rcases g.1 (.inr hz) with e | e
        · subst e; have := a1 z hz; omega
        · exact e
      · intro hz
        rcases g.2 (.inr hz) with e | e
        · subst e; have := b1 z hz; omega
        · exact e)]
theorem compact_sorted (zs : List Int) (hs : zs.Pairwise (· ≤ ·)) : (Lib.compact zs).Pairwise (· < ·) ∧ ∀ x, x ∈ Lib.compact zs ↔ x ∈ zs := by
  have hget : ∀ i, i < zs.length → zs.toArray[i]! = zs[i]! := fun i hi => by simp
  have hmono : ∀ i j, i ≤ j → j < zs.length → zs.toArray[i]! ≤ zs.toArray[j]! := by
    intro i j hij hj
    rcases Nat.eq_or_lt_of_le hij with rfl | hlt
    · exact Int.le_refl _
    · have := List.pairwise_iff_getElem.1 hs i j (by omega) hj hlt
      simpa [getElem!_pos, hj, show i < zs.length by omega] using this
  have key : ∀ m, m ≤ zs.length → (compactUpTo zs.toArray m).Pairwise (· < ·) ∧ (∀ x ∈ compactUpTo zs.toArray m, ∀ j, m ≤ j + 1 → j < zs.length → x ≤ zs.toArray[j]!) ∧ ∀ x, x ∈ compactUpTo zs.toArray m ↔ ∃ j, j < m ∧ zs.toArray[j]! = x := by
    intro m
    induction m with
    | zero => intro _; exact ⟨by simp [compactUpTo], by simp [compactUpTo], by simp [compactUpTo]⟩
    | succ m ih =>
      intro hm
      obtain ⟨i1, i2, i3⟩ := ih (by omega)
      rw [compactUpTo_succ]
      by_cases hk : keeps zs.toArray m = true
      · rw [if_pos hk]
        refine ⟨?_, ?_, ?_⟩
        · rw [List.pairwise_append]
          refine ⟨i1, by simp, fun a ha b hb => ?_⟩
          rw [List.mem_singleton] at hb
          subst hb
          obtain ⟨j, hj, rfl⟩ := (i3 a).1 ha
          have h1 := i2 _ ha (m - 1) (by omega) (by omega)
          have h2 := hmono (m - 1) m (by omega) (by omega)
          have h3 : zs.toArray[m]! ≠ zs.toArray[m - 1]! := by
            intro e
            rw [keeps_neg (by omega) e] at hk
            cases hk
          omega
        · intro x hx j hj hjl
          rcases List.mem_append.1 hx with hx | hx
          · obtain ⟨q, hq, rfl⟩ := (i3 x).1 hx
            exact hmono q j (by omega) hjl
          · rw [List.mem_singleton] at hx
            subst hx
            exact hmono m j (by omega) hjl
        · intro x
          rw [List.mem_append, List.mem_singleton, i3]
          constructor
          · rintro (⟨j, hj, e⟩ | e)
            · exact ⟨j, by omega, e⟩
            · exact ⟨m, by omega, e.symm⟩
          · rintro ⟨j, hj, e⟩
            rcases Nat.eq_or_lt_of_le (Nat.le_of_lt_succ hj) with rfl | hlt
            · exact .inr e.symm
            · exact .inl ⟨j, hlt, e⟩
      · rw [if_neg hk, List.append_nil]
        have h0 : 0 < m := by
          rcases Nat.eq_zero_or_pos m with h | h
          · subst h; exact absurd (keeps_lt_one zs.toArray 0 (by omega)) hk
          · exact h
        have he : zs.toArray[m]! = zs.toArray[m - 1]! := by
          apply Classical.byContradiction
          intro h
          exact hk (keeps_pos h)
        refine ⟨i1, fun x hx j hj hjl => ?_, fun x => ?_⟩
        · obtain ⟨q, hq, rfl⟩ := (i3 x).1 hx
          exact hmono q j (by omega) hjl
        · rw [i3]
          constructor
          · rintro ⟨j, hj, e⟩; exact ⟨j, by omega, e⟩
          · rintro ⟨j, hj, e⟩
            rcases Nat.eq_or_lt_of_le (Nat.le_of_lt_succ hj) with rfl | hlt
            · exact ⟨j - 1, by omega, by rw [← he]; exact e⟩
            · exact ⟨j, hlt, e⟩
  obtain ⟨k1, k2, k3⟩ := key zs.length (Nat.le_refl _)
  refine ⟨k1, fun x => ?_⟩
  show x ∈ compactUpTo zs.toArray zs.length ↔ _
  rw [k3]
  constructor
  · rintro ⟨j, hj, rfl⟩
    simp [hj]
  · intro hx
    obtain ⟨j, hj, rfl⟩ := List.getElem_of_mem hx
    exact ⟨j, hj, by simp [hj]⟩
/-- Sorted, each once. -/
def norm (l : List Int) : List Int := Lib.compact (l.mergeSort fun x y => decide (x ≤ y))
theorem norm_spec (l : List Int) : (norm l).Pairwise (· < ·) ∧ ∀ x, x ∈ norm l ↔ x ∈ l := by
  have hs : (l.mergeSort fun x y => decide (x ≤ y)).Pairwise (· ≤ ·) := by
    have := List.pairwise_mergeSort (le := fun x y : Int => decide (x ≤ y)) (fun a b c h1 h2 => by simp at *; omega) (fun a b => by simp; omega) l
    exact this.imp (fun h => by simpa using h)
  obtain ⟨h1, h2⟩ := compact_sorted _ hs
  exact ⟨h1, fun x => by rw [show norm l = Lib.compact (l.mergeSort fun x y => decide (x ≤ y)) from rfl, h2]; exact (List.mergeSort_perm l _).mem_iff⟩
theorem norm_eq {l out : List Int} (h1 : out.Pairwise (· < ·)) (h2 : ∀ x, x ∈ out ↔ x ∈ l) : out = norm l :=
  inc_ext _ _ h1 (norm_spec l).1 (fun x => by rw [h2, (norm_spec l).2])
section
variable (frm to : Int) (g : Nat → Int) (ad : Int → Int)
def OkS (j : Nat) : Prop := 0 ≤ g j ∧ g j < to
def Run (c : Nat) : Prop := ∀ j, 1 ≤ j → j ≤ c → OkS to g j
def Stops (c : Nat) : Prop := Run to g c ∧ ¬ OkS to g (c + 1)
theorem Run.succ {c : Nat} (h : Run to g c) (k : OkS to g (c + 1)) : Run to g (c + 1) := by
  intro j h1 h2
  rcases Nat.eq_or_lt_of_le h2 with rfl | h3
  · exact k
  · exact h j h1 (by omega)
theorem stops_unique {c c' : Nat} (h : Stops to g c) (h' : Stops to g c') : c = c' := by
  rcases Nat.lt_trichotomy c c' with h1 | h1 | h1
  · exact absurd (h'.1 (c + 1) (by omega) (by omega)) h.2
  · exact h1
  · exact absurd (h.1 (c' + 1) (by omega) (by omega)) h'.2
def Ls (c : Nat) : List Int := frm :: (List.range c).map fun j => g (j + 1)
theorem Ls_succ (c : Nat) : Ls frm g (c + 1) = Ls frm g c ++ [g (c + 1)] := by simp [Ls, List.range_succ]
theorem Ls_len (c : Nat) : (Ls frm g c).length = c + 1 := by simp [Ls]
def All (c : Nat) : List Int := Ls frm g c ++ [to]
theorem All_len (c : Nat) : (All frm to g c).length = c + 2 := by simp [All, Ls_len]
/-- What the document says of it. -/
def Res (gd : Prop) (o : Option (List Int)) : Prop :=
  (o = none ∧ (¬ gd ∨ Run to g 399 ∨ ∃ c, c ≤ 398 ∧ Stops to g c ∧ ∃ x ∈ All frm to g c, ad x < 0)) ∨
  (gd ∧ ∃ c, c ≤ 398 ∧ Stops to g c ∧ (∀ x ∈ All frm to g c, 0 ≤ ad x) ∧ o = some (norm ((All frm to g c).map ad)))
theorem res_fun {gd : Prop} {o o' : Option (List Int)} (h : Res frm to g ad gd o) (h' : Res frm to g ad gd o') : o = o' := by
  have key : ∀ o o', Res frm to g ad gd o → (gd ∧ ∃ c, c ≤ 398 ∧ Stops to g c ∧ (∀ x ∈ All frm to g c, 0 ≤ ad x) ∧ o' = some (norm ((All frm to g c).map ad))) → o = o' := by
    rintro o o' h ⟨hg, c, hc, hs, ha, rfl⟩
    rcases h with ⟨-, h | h | ⟨c', hc', hs', x, hx, hn⟩⟩ | ⟨-, c', hc', hs', ha', rfl⟩
    · exact absurd hg h
    · exact absurd (h (c + 1) (by omega) (by omega)) hs.2
    · obtain rfl := stops_unique to g hs hs'
      have := ha x hx
      omega
    · obtain rfl := stops_unique to g hs hs'
      rfl
  rcases h with h | h
  · rcases h' with h' | h'
    · rw [h.1, h'.1]
    · exact key o o' (.inl h) h'
  · exact (key o' o h' h).symm
end
end Go.Proofs.Ytokinadmeooaoaa
