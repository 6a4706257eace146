/- The contracts of earlier and told. -/
import Derived.Test.YtjpkljkmignnjaaBld
namespace Go.Proofs.Ytjpkljkmignnjaa
set_option linter.unusedVariables false
set_option linter.unusedSimpArgs false
open Go.RowKit
/-- A node ahead of a place: below 0 where there is none. -/
def earl (k n : Int) : Int := if n = 0 then -1 else n - 1 - (IntKind.u64.wrap k) % n
theorem earl_bd (k n : Int) (h : 0 ≤ n) : -1 ≤ earl k n ∧ earl k n < n ∨ n = 0 ∧ earl k n = -1 := by
  unfold earl
  by_cases h0 : n = 0
  · rw [if_pos h0]; exact .inr ⟨h0, rfl⟩
  · rw [if_neg h0]
    have h1 := Int.emod_nonneg (IntKind.u64.wrap k) h0
    have h2 := Int.emod_lt_of_pos (IntKind.u64.wrap k) (show 0 < n by omega)
    generalize IntKind.u64.wrap k % n = r at *
    left; omega
theorem u64_nonneg (k : Int) : 0 ≤ IntKind.u64.wrap k := by
  simp [IntKind.wrap, IntKind.signed, IntKind.bits]
  omega
theorem ret_earl (k n : Int) (h0 : 0 ≤ n) (h1 : n ≤ 1000) (hz : ¬n = 0) : Ending.returned (.int .i64 (wrap64 (n - 1 - wrap64 ((IntKind.u64.wrap k).tmod n)))) = .returned (.int .i64 (earl k n)) := by
  unfold earl
  rw [if_neg hz, Int.tmod_eq_emod_of_nonneg (u64_nonneg k)]
  have a1 := Int.emod_nonneg (IntKind.u64.wrap k) hz
  have a2 := Int.emod_lt_of_pos (IntKind.u64.wrap k) (show 0 < n by omega)
  generalize IntKind.u64.wrap k % n = r at *
  rw [IntWalk.wrap64_in r ⟨by omega, by omega⟩, IntWalk.wrap64_in (n - 1 - r) ⟨by omega, by omega⟩]
set_option maxHeartbeats 1000000 in
theorem earlier_any (k n : Int) (w : World) (h0 : 0 ≤ n) (h1 : n ≤ 1000) : Calls Try.prog 22 #[.int .i64 k, .int .i64 n] w fun e w' => e = .returned (.int .i64 (earl k n)) ∧ w = w' := by
  by_cases hz : n = 0
  · subst hz
    go_enter Try.func22, Try.ntmps22
    go_wp2
    go_ret
    exact ⟨rfl, rfl⟩
  · have t1 : (n == 0) = false := beq_eq_false_iff_ne.2 hz
    go_enter Try.func22, Try.ntmps22
    go_wp2
    go_ret
    exact ⟨ret_earl _ _ h0 h1 hz, rfl⟩
set_option maxHeartbeats 1000000 in
theorem told_great (a b : Int) (w : World) (h : 1000 ≤ a ∨ 1000 ≤ b) : Calls Try.prog 23 #[.int .i64 a, .int .i64 b] w fun e w' => e = .returned (.tuple #[.int .i64 1000, .int .i64 1000]) ∧ w = w' := by
  by_cases ha : 1000 ≤ a
  · go_enter Try.func23, Try.ntmps23
    go_wp2
    go_ret2
    exact ⟨rfl, rfl⟩
  · have hb : 1000 ≤ b := by omega
    go_enter Try.func23, Try.ntmps23
    go_wp2
    go_ret2
    exact ⟨rfl, rfl⟩
set_option maxHeartbeats 1000000 in
theorem told_small (a b : Int) (w : World) (ha : a < 1000) (hb : b < 1000) : Calls Try.prog 23 #[.int .i64 a, .int .i64 b] w fun e w' => e = .returned (.tuple #[.int .i64 a, .int .i64 b]) ∧ w = w' := by
  have ha' : ¬ 1000 ≤ a := by omega
  have hb' : ¬ 1000 ≤ b := by omega
  go_enter Try.func23, Try.ntmps23
  go_wp2
  go_ret2
  exact ⟨rfl, rfl⟩
theorem told_cnt {k S M : Nat} {N D : Int} (h : Cnt k S M N D) (hM : M < 1000) (w : World) : Calls Try.prog 23 #[.int .i64 N, .int .i64 D] w fun e w' => e = .returned (.tuple #[.int .i64 (ndI S), .int .i64 (rkI S M)]) ∧ w = w' := by
  by_cases hg : 1000 ≤ N ∨ 1000 ≤ D
  · obtain ⟨e1, e2⟩ := h.great hM hg
    rw [e1, e2]
    exact told_great N D w hg
  · obtain ⟨e1, e2⟩ := h.small (by omega) (by omega)
    rw [e1, e2]
    exact told_small N D w (by omega) (by omega)
end Go.Proofs.Ytjpkljkmignnjaa
