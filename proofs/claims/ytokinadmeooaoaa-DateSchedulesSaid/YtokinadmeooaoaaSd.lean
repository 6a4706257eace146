/- The contract of the document's Schedule; condition: the numbers lie within 64 bits. -/
import Derived.Test.YtokinadmeooaoaaSb
import Derived.Test.YtokinadmeooaoaaDq
namespace Go.Proofs.Ytokinadmeooaoaa
set_option linter.unusedVariables false
set_option linter.unusedSimpArgs false
open Go.RowKit
theorem gd_iff (frm til months : Int) : GdS frm til months ↔ (0 ≤ frm ∧ til ≤ 2932896 ∧ frm < til ∧ 1 ≤ months ∧ months ≤ 1200) := by
  unfold GdS
  rw [isD_iff, isD_iff]
  omega
theorem own_ints {w0 w : World} {n : Nat} {v : Value} {l : List Int} (h : Mem.Own w0 w 3 1 v n (ivs l)) (hn : l.length = n) : ∃ b cap, v = .slice b n cap ∧ Ints w b n l := by
  have hmx : maxLen = 9223372036854775807 := by decide
  rcases h.own.2 with ⟨rfl, h0⟩ | ⟨g, cap, cur, rfl, hg, hb, hc, hcap, -, -⟩
  · subst h0
    exact ⟨none, 0, rfl, hn, by omega, fun h => absurd h (by omega)⟩
  · refine ⟨_, cap, rfl, hn, by omega, fun hp => ⟨g, 0, rfl, (Array.getElem?_eq_some_iff.1 hb).1, fun i x hx => ?_⟩⟩
    have hi : i < l.length := (List.getElem?_eq_some_iff.1 hx).1
    rw [Nat.zero_add, h.cell i (by omega)]
    unfold ivs
    rw [List.getElem?_map, hx]; rfl
/-- The place of a number in a list that rises. -/
def Spot (out : List Int) (y : Int) (q : Nat) : Prop := (∀ j x, q ≤ j → out[j]? = some x → y ≤ x) ∧ ∀ j x, j < q → out[j]? = some x → x < y
theorem inc_get {out : List Int} (h : out.Pairwise (· < ·)) {i j : Nat} {x y : Int} (hij : i < j) (hx : out[i]? = some x) (hy : out[j]? = some y) : x < y := by
  obtain ⟨hi, rfl⟩ := List.getElem?_eq_some_iff.1 hx
  obtain ⟨hj, rfl⟩ := List.getElem?_eq_some_iff.1 hy
  exact List.pairwise_iff_getElem.1 h i j hi hj hij
/-- Put where it belongs. -/
def putAt (out : List Int) (q : Nat) (y : Int) : List Int := out.take q ++ y :: out.drop q
theorem put_len {out : List Int} {q : Nat} {y : Int} (hq : q ≤ out.length) : (putAt out q y).length = out.length + 1 := by
  unfold putAt; rw [List.length_append, List.length_cons, List.length_take, List.length_drop]; omega
theorem put_mem {out : List Int} {q : Nat} {y : Int} (x : Int) : x ∈ putAt out q y ↔ x ∈ out ∨ x = y := by
  unfold putAt
  rw [List.mem_append, List.mem_cons]
  have : x ∈ out ↔ x ∈ out.take q ∨ x ∈ out.drop q := by rw [← List.mem_append, List.take_append_drop]
  rw [this]
  constructor
  · rintro (h | h | h)
    · exact .inl (.inl h)
    · exact .inr h
    · exact .inl (.inr h)
  · rintro ((h | h) | h)
    · exact .inl h
    · exact .inr (.inr h)
    · exact .inr (.inl h)
theorem put_inc {out : List Int} {q : Nat} {y : Int} (h : out.Pairwise (· < ·)) (hs : Spot out y q) (hne : out[q]? ≠ some y) : (putAt out q y).Pairwise (· < ·) := by
  unfold putAt
  rw [List.pairwise_append, List.pairwise_cons]
  have hd : ∀ b ∈ out.drop q, y < b := by
    intro b hb
    obtain ⟨j, hj⟩ := List.getElem?_of_mem hb
    rw [List.getElem?_drop] at hj
    have h1 := hs.1 (q + j) b (by omega) hj
    rcases Nat.eq_zero_or_pos j with h0 | h0
    · subst h0
      rw [Nat.add_zero] at hj
      have : b ≠ y := fun e => hne (by rw [← e]; exact hj)
      omega
    · have hlen : q + j < out.length := (List.getElem?_eq_some_iff.1 hj).1
      have h2 := inc_get h (i := q) (j := q + j) (by omega) (List.getElem?_eq_getElem (by omega)) hj
      have h3 := hs.1 q _ (Nat.le_refl _) (List.getElem?_eq_getElem (by omega : q < out.length))
      omega
  have ht : ∀ a ∈ out.take q, a < y := by
    intro a ha
    obtain ⟨j, hj⟩ := List.getElem?_of_mem ha
    rw [List.getElem?_take] at hj
    split at hj
    · exact hs.2 j a (by assumption) hj
    · cases hj
  refine ⟨h.sublist (List.take_sublist _ _), ⟨hd, h.sublist (List.drop_sublist _ _)⟩, fun a ha b hb => ?_⟩
  rcases List.mem_cons.1 hb with rfl | hb
  · exact ht a ha
  · have := ht a ha; have := hd b hb; omega
/-- Shifting: place q2 is free, what stood from there on stands one further. -/
theorem put_step {out : List Int} {q : Nat} {z x : Int} (hx : out[q]? = some x) : (ivs (putAt out (q + 1) z)).set (q + 1) (.int .i64 x) = ivs (putAt out q x) := by
  have hq : q < out.length := (List.getElem?_eq_some_iff.1 hx).1
  unfold ivs putAt
  have e1 : out.take (q + 1) = out.take q ++ [x] := by rw [List.take_add_one, hx]; rfl
  have e2 : out.drop q = x :: out.drop (q + 1) := by
    rw [List.drop_eq_getElem_cons hq]
    congr 1
    rw [List.getElem?_eq_getElem hq] at hx
    injection hx
  have hl : (out.take (q + 1)).length = q + 1 := by rw [List.length_take]; omega
  rw [List.map_append, List.map_cons, List.set_append_right _ _ (by rw [List.length_map, hl]; exact Nat.le_refl _), List.length_map, hl, Nat.sub_self, List.set_cons_zero, e1, e2]
  simp
theorem put_get {out : List Int} {q : Nat} {z x : Int} (hx : out[q]? = some x) : (ivs (putAt out (q + 1) z))[q]? = some (.int .i64 x) := by
  have hq : q < out.length := (List.getElem?_eq_some_iff.1 hx).1
  unfold ivs putAt
  rw [List.getElem?_map, List.getElem?_append_left (by rw [List.length_take]; omega), List.getElem?_take, if_pos (by omega), hx]
  rfl
theorem put_last {out : List Int} {q : Nat} {z y : Int} (hq : q ≤ out.length) : (ivs (putAt out q z)).set q (.int .i64 y) = ivs (putAt out q y) := by
  unfold ivs putAt
  have hl : (out.take q).length = q := by rw [List.length_take]; omega
  rw [List.map_append, List.map_cons, List.set_append_right _ _ (by rw [List.length_map, hl]; exact Nat.le_refl _), List.length_map, hl, Nat.sub_self, List.set_cons_zero]
  simp
theorem put_at {out : List Int} {q : Nat} {z : Int} (hq : q ≤ out.length) : (ivs (putAt out q z))[q]? = some (.int .i64 z) := by
  unfold ivs putAt
  rw [List.getElem?_map, List.getElem?_append_right (by rw [List.length_take]; omega), List.length_take, Nat.min_eq_left hq, Nat.sub_self]
  rfl
theorem put_end (out : List Int) (z : Int) : putAt out out.length z = out ++ [z] := by unfold putAt; simp
end Go.Proofs.Ytokinadmeooaoaa
