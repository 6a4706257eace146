/- Rows of elements of several cells. -/
import Derived.Test.YtgbiimoednmlgaaTree
import Derived.Test.YtgbiimoednmlgaaMem
import Derived.Test.YtgbiimoednmlgaaProg
import Derived.Test.YtgbiimoednmlgaaChecked
import Derived.WalkSpells
import Derived.LoopTactic
namespace Go.Proofs.Ytgbiimoednmlgaa
set_option linter.unusedVariables false
set_option linter.unusedSimpArgs false
open Go.RowKit
theorem flat_len {α : Type} (sz : Nat) : ∀ (vs : List (List α)), (∀ c ∈ vs, c.length = sz) → vs.flatten.length = vs.length * sz := by
  intro vs
  induction vs with
  | nil => intro _; simp
  | cons c t ih =>
    intro h
    rw [List.flatten_cons, List.length_append, ih (fun x hx => h x (List.mem_cons_of_mem _ hx)), h c (List.mem_cons_self ..), List.length_cons, Nat.add_mul]; omega
theorem flat_get {α : Type} (sz : Nat) : ∀ (vs : List (List α)), (∀ c ∈ vs, c.length = sz) → ∀ (i j : Nat) (c : List α), vs[i]? = some c → j < sz → vs.flatten[i * sz + j]? = c[j]? := by
  intro vs
  induction vs with
  | nil => intro _ i j c h; cases h
  | cons d t ih =>
    intro h i j c hc hj
    have hd := h d (List.mem_cons_self ..)
    cases i with
    | zero =>
      simp at hc; subst hc
      rw [List.flatten_cons, Nat.zero_mul, Nat.zero_add, List.getElem?_append_left (by omega)]
    | succ k =>
      rw [List.flatten_cons, List.getElem?_append_right (by rw [hd, Nat.add_mul]; omega), hd, show (k + 1) * sz + j - sz = k * sz + j by rw [Nat.add_mul]; omega]
      exact ih (fun x hx => h x (List.mem_cons_of_mem _ hx)) k j c (by simpa using hc) hj
theorem Sl.len4 {w : World} {X : List Nat} {sz len cap : Nat} {a : Option Addr} {vs : List (List Value)} (h : Sl w X sz a len cap vs) : ∀ c ∈ vs, c.length = sz := by
  intro c hc
  obtain ⟨i, hi, rfl⟩ := List.getElem_of_mem hc
  obtain ⟨b, o, _, _, _, hq⟩ := h.2.2.2 (by have := h.1; omega)
  exact (hq i _ (List.getElem?_eq_getElem hi)).1
/-- The cells of a slice's elements, one behind another. -/
theorem Sl.cells {w : World} {X : List Nat} {sz len cap b o : Nat} {vs : List (List Value)} (h : Sl w X sz (some ⟨b, o, none⟩) len cap vs) (hz : 0 < sz) : ∀ j u, vs.flatten[j]? = some u → w.cell? ((⟨b, o, none⟩ : Addr).add j) = some u := by
  intro j u hu
  have hl := h.len4
  have hlen := flat_len sz vs hl
  have hj : j < vs.length * sz := by rw [← hlen]; exact (List.getElem?_eq_some_iff.1 hu).1
  have hi : j / sz < vs.length := Nat.div_lt_of_lt_mul (by rw [Nat.mul_comm]; exact hj)
  have hm : j % sz < sz := Nat.mod_lt _ hz
  have e : j = j / sz * sz + j % sz := by rw [Nat.mul_comm]; exact (Nat.div_add_mod j sz).symm
  obtain ⟨b', o', ha, _, _, hc⟩ := h.2.2.2 (by rw [← h.1]; exact Nat.lt_of_le_of_lt (Nat.zero_le _) hi)
  injection ha with ha; injection ha with h1 h2; subst h1 h2
  have hci := List.getElem?_eq_getElem hi
  rw [e, flat_get sz vs hl _ _ _ hci hm] at hu
  rw [Mem.add_off, e, ← Nat.add_assoc]
  exact (hc _ _ hci).2 _ _ hu
/-- A row of the call's own, as a slice of elements. -/
theorem own_sl {w0 w : World} {e : TypeId} {sz n : Nat} {v : Value} {vs : List (List Value)} {X : List Nat} (h : Mem.Own w0 w e sz v n vs.flatten) (hn : vs.length = n) (hl : ∀ c ∈ vs, c.length = sz) (hX : ∀ b ∈ X, b < w0.heap.size) :
    ∃ a cap, v = .slice a n cap ∧ Sl w X sz a n cap vs ∧ ∀ g, v.ownBlock = some g → w0.heap.size ≤ g := by
  have hmx : maxLen = 9223372036854775807 := by decide
  rcases h.own.2 with ⟨rfl, rfl⟩ | ⟨g, cap, cur, rfl, h1, h2, h3, h4, h5, h6⟩
  · exact ⟨none, 0, rfl, ⟨hn, Nat.le_refl _, by omega, fun h => absurd h (by omega)⟩, fun x hx => by simp [Value.ownBlock] at hx⟩
  · refine ⟨_, cap, rfl, ⟨hn, h3, by omega, fun hp => ⟨g, 0, rfl, lt_of_block h2, fun hm => by have := hX g hm; omega, fun i cs hi => ?_⟩⟩, fun x hx => by simp [Value.ownBlock] at hx; omega⟩
    have hc := hl cs (List.mem_of_getElem? hi)
    refine ⟨hc, fun j c hj => ?_⟩
    have hjs : j < sz := by rw [← hc]; exact (List.getElem?_eq_some_iff.1 hj).1
    have hin : i < n := by rw [← hn]; exact (List.getElem?_eq_some_iff.1 hi).1
    rw [Nat.zero_add, h.cell (i * sz + j) (by calc i * sz + j < i * sz + sz := by omega
                                                _ = (i + 1) * sz := by rw [Nat.add_mul]; omega
                                                _ ≤ n * sz := Nat.mul_le_mul_right _ (by omega)), flat_get sz vs hl i j cs hi hjs]
    exact hj
theorem RepE.one {w : World} {X : List Nat} {e : Ex} {cs : List Value} (h : RepE w X e cs) : cs.length = 4 ∧ ∀ u ∈ cs, u.oneCell' = true := by
  obtain ⟨op, n, nm, args, a, len, cap, rfl, rfl, _⟩ := h.inv
  exact ⟨rfl, by intro u hu; simp at hu; rcases hu with rfl | rfl | rfl | rfl <;> rfl⟩
theorem RepT.one {w : World} {X : List Nat} {e : Te} {cs : List Value} (h : RepT w X e cs) : cs.length = 4 ∧ ∀ u ∈ cs, u.oneCell' = true := by
  obtain ⟨op, nm, ex, te, a, len, cap, a2, len2, cap2, rfl, rfl, _⟩ := h.inv
  exact ⟨rfl, by intro u hu; simp at hu; rcases hu with rfl | rfl | rfl | rfl <;> rfl⟩
theorem flat_one {vs : List (List Value)} (h : ∀ c ∈ vs, ∀ u ∈ c, u.oneCell' = true) : ∀ u ∈ vs.flatten, u.oneCell' = true := by
  intro u hu
  obtain ⟨c, hc, hu⟩ := List.mem_flatten.1 hu
  exact h c hc u hu
end Go.Proofs.Ytgbiimoednmlgaa
