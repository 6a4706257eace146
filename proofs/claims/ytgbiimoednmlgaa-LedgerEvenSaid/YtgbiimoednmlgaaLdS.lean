/- A sum of many numbers of 64 bits, held in 128 bits: plain. -/
import Derived.Test.YtgbiimoednmlgaaLdQ
namespace Go.Proofs.Ytgbiimoednmlgaa
set_option linter.unusedVariables false
set_option linter.unusedSimpArgs false
open Go.RowKit
/-- Two words hold a number. -/
structure Two64 (T : Int) (hi lo : Nat) : Prop where
  lo : (lo : Int) = T % 18446744073709551616
  hi : (hi : Int) = (T / 18446744073709551616) % 18446744073709551616
theorem Two64.nil : Two64 0 0 0 := ⟨rfl, rfl⟩
theorem Two64.lt {T : Int} {hi lo : Nat} (h : Two64 T hi lo) : hi < 18446744073709551616 ∧ lo < 18446744073709551616 := by
  have h1 := h.lo
  have h2 := h.hi
  omega
/-- A number as a word without a sign. -/
def uw (n : Int) : Nat := (n % 18446744073709551616).toNat
def sw (n : Int) : Nat := if n < 0 then 18446744073709551615 else 0
theorem Two64.add {T n : Int} {hi lo : Nat} (h : Two64 T hi lo) (hn : -9223372036854775808 ≤ n ∧ n ≤ 9223372036854775807) :
    Two64 (T + n) ((hi + sw n + (lo + uw n + 0) / 18446744073709551616) % 18446744073709551616) ((lo + uw n + 0) % 18446744073709551616) := by
  have h1 := h.lo
  have h2 := h.hi
  have h3 : (uw n : Int) = n % 18446744073709551616 := by unfold uw; omega
  obtain ⟨u, hu⟩ : ∃ u, u = uw n := ⟨_, rfl⟩
  rw [← hu] at h3 ⊢
  unfold sw
  by_cases hneg : n < 0
  · rw [if_pos hneg]
    exact ⟨by omega, by omega⟩
  · rw [if_neg hneg]
    exact ⟨by omega, by omega⟩
/-- The lower word as a number with its sign; its sign in a word. -/
def lowI (lo : Nat) : Int := if lo < 9223372036854775808 then (lo : Int) else (lo : Int) - 18446744073709551616
theorem Two64.fit {T : Int} {hi lo : Nat} (h : Two64 T hi lo) (hT : -170141183460469231731687303715884105728 ≤ T ∧ T < 170141183460469231731687303715884105728) : (hi = sw (lowI lo)) ↔ (-9223372036854775808 ≤ T ∧ T ≤ 9223372036854775807) := by
  have h1 := h.lo
  have h2 := h.hi
  unfold sw lowI
  by_cases hl : lo < 9223372036854775808
  · rw [if_pos hl, if_neg (by omega)]
    constructor
    · intro e; omega
    · intro e; omega
  · rw [if_neg hl, if_pos (by have := h.lt; omega)]
    constructor
    · intro e; omega
    · intro e; omega
theorem Two64.val {T : Int} {hi lo : Nat} (h : Two64 T hi lo) (hT : -9223372036854775808 ≤ T ∧ T ≤ 9223372036854775807) : lowI lo = T := by
  have h1 := h.lo
  unfold lowI
  split <;> omega
theorem sum_bound (l : List Int) (h : ∀ n ∈ l, -9223372036854775808 ≤ n ∧ n ≤ 9223372036854775807) : -9223372036854775808 * (l.length : Int) ≤ l.sum ∧ l.sum ≤ 9223372036854775807 * (l.length : Int) := by
  induction l with
  | nil => simp
  | cons x t ih =>
    have h1 := h x (List.mem_cons_self ..)
    have h2 := ih (fun n hn => h n (List.mem_cons_of_mem _ hn))
    rw [List.sum_cons, List.length_cons]
    push_cast
    omega
theorem sum_take {l : List Int} {k : Nat} {n : Int} (h : l[k]? = some n) : (l.take (k + 1)).sum = (l.take k).sum + n := by
  obtain ⟨hk, e⟩ := List.getElem?_eq_some_iff.1 h
  rw [← List.take_append_getElem hk, e, List.sum_append]; simp
end Go.Proofs.Ytgbiimoednmlgaa
