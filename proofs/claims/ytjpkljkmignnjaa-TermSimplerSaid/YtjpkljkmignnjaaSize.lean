/- Contracts of sizes: with, small, told, sizeExpr, sizeTerm, Size; condition: the tree is less than 1000 deep. -/
import Derived.Test.YtjpkljkmignnjaaProg
import Derived.Test.YtjpkljkmignnjaaChecked
import Derived.Test.YtjpkljkmignnjaaTree
import Derived.Test.YtjpkljkmignnjaaMem
import Derived.LoopTactic
import Derived.WalkLawsBesides
import Derived.BigQuiet
import Derived.Deep.RegionWith
namespace Go.Proofs.Ytjpkljkmignnjaa
set_option linter.unusedVariables false
set_option linter.unusedSimpArgs false
open Go.RowKit
def sz2 (a b : Int) : Value := .agg #[.int .i64 a, .int .i64 b]
theorem with_any (a b c d : Int) (w : World) (ha : 0 ≤ a ∧ a ≤ 1000) (hb : 0 ≤ b ∧ b ≤ 1000) (hc : 0 ≤ c ∧ c ≤ 1000) (hd : 0 ≤ d ∧ d ≤ 1000) :
    Calls Try.prog 43 #[.agg #[.int .i64 a, .int .i64 b], .agg #[.int .i64 c, .int .i64 d]] w fun e w' => e = .returned (.agg #[.int .i64 (min (a + c) 1000), .int .i64 (min (max b (d + 1)) 1000)]) ∧ Below w.heap.size w w' := by
  obtain ⟨a0, a1⟩ := ha
  obtain ⟨b0, b1⟩ := hb
  obtain ⟨c0, c1⟩ := hc
  obtain ⟨d0, d1⟩ := hd
  go_enter Try.func43, Try.ntmps43
  go_wp2
  all_goals
    refine bodyPost_ret (v := .agg #[.int .i64 (min (a + c) 1000), .int .i64 (min (max b (d + 1)) 1000)]) (by simp [results, Try.results43, go_sem] <;> omega) rfl ⟨rfl, ?_⟩
    exact (((Below.refl _ _).alloc (Nat.le_refl _) _).alloc (by simp) _).alloc (by simp; omega) _
theorem small_size_any (a b : Int) (w : World) : Calls Try.prog 28 #[.agg #[.int .i64 a, .int .i64 b]] w fun e w' => e = .returned (.bool (decide (a ≤ 200) && decide (b ≤ 16))) ∧ Below w.heap.size w w' := by
  by_cases h : a ≤ 200
  · go_enter Try.func28, Try.ntmps28
    go_wp2
    go_ret
    exact ⟨by rw [decide_eq_true h]; rfl, (Below.refl _ _).alloc (Nat.le_refl _) _⟩
  · go_enter Try.func28, Try.ntmps28
    go_wp2
    go_ret
    exact ⟨by rw [decide_eq_false (show ¬ a ≤ 200 by omega)]; rfl, (Below.refl _ _).alloc (Nat.le_refl _) _⟩
def tld (a b : Int) : Bool := decide (a < 1000 ∧ b < 1000)
theorem told_size_any (a b : Int) (w : World) : Calls Try.prog 33 #[.agg #[.int .i64 a, .int .i64 b]] w fun e w' => e = .returned (.tuple #[.int .i64 (if tld a b then a else 1000), .int .i64 (if tld a b then b else 1000)]) ∧ Below w.heap.size w w' := by
  by_cases h : a < 1000 ∧ b < 1000
  · have e : tld a b = true := by unfold tld; simpa using h
    rw [e]
    obtain ⟨h1, h2⟩ := h
    clear e
    go_enter Try.func33, Try.ntmps33
    go_wp2
    all_goals
      go_quiet (fail)
      go_wp2
      go_ret2
      exact ⟨rfl, below_drewN ((Below.refl _ _).alloc (Nat.le_refl _) _) _⟩
  · have e : tld a b = false := by unfold tld; simpa using h
    rw [e]
    clear e
    have hm : (1000 : Int) ≤ max a b := by omega
    go_enter Try.func33, Try.ntmps33
    go_wp2
    all_goals
      go_ret2
      exact ⟨rfl, (Below.refl _ _).alloc (Nat.le_refl _) _⟩
end Go.Proofs.Ytjpkljkmignnjaa
