/- Contracts of the reference's Leap and Days; no conditions. -/
import Derived.Test.YtokinadmeooaoaaDf
namespace Go.Proofs.Ytokinadmeooaoaa
open Go.RowKit
theorem tzn (y k : Int) : (y.tmod k != 0) = !decide (y % k = 0) := by
  rw [bne, Bool.beq_eq_decide_eq]; congr 1; exact decide_eq_decide.2 (tz y k)
theorem rleap_any (y : Int) (w : World) :
    Calls Try.prog 23 #[.int .i64 y] w fun e w' => e = .returned (.bool (lpB y)) ∧ w = w' := by
  go_enter Try.func23, Try.ntmps23
  go_wp2
  all_goals (go_ret; refine ⟨ret_bool ?_, rfl⟩; simp only [tz, tzn, Bool.beq_eq_decide_eq] at *; unfold lpB Cal.lp; simp [*] <;> try omega)
set_option maxHeartbeats 4000000 in
theorem rdays_in (y : Int) (m : Int) (w : World) (h1 : 1 ≤ m) (h2 : m ≤ 12) :
    Calls Try.prog 25 #[.int .i64 y, .int .i64 m] w fun e w' => e = .returned (.int .i64 (Cal.dim y m)) ∧ Below w.heap.size w w' := by
  have hD : ∀ r, Cal.dim y m = r → Ending.returned (.int .i64 r) = .returned (.int .i64 (Cal.dim y m)) := fun r h => by rw [h]
  have HD := Lib.hid hD
  clear hD
  have hm : m = 1 ∨ m = 2 ∨ m = 3 ∨ m = 4 ∨ m = 5 ∨ m = 6 ∨ m = 7 ∨ m = 8 ∨ m = 9 ∨ m = 10 ∨ m = 11 ∨ m = 12 := by omega
  clear h1 h2
  rcases hm with rfl | rfl | rfl | rfl | rfl | rfl | rfl | rfl | rfl | rfl | rfl | rfl
  all_goals
    go_enter Try.func25, Try.ntmps25
    go_wp2_with (go_at_call 23; refine (rleap_any _ _).mono ?_; rintro e w' ⟨rfl, rfl⟩)
    all_goals (go_ret; refine ⟨HD.out _ ?_, (Below.refl _ _).alloc (Nat.le_refl _) _⟩; simp [Cal.dim, lpB_eq, *])
theorem rdays_any (y : Int) (m : Int) (w : World) :
    Calls Try.prog 25 #[.int .i64 y, .int .i64 m] w fun e w' => e = .returned (.int .i64 (Cal.dim y m)) ∧ Below w.heap.size w w' := by
  by_cases h1 : m < 1
  · have hD : Cal.dim y m = 0 := Cal.dim_out y m (by omega)
    have HD := Lib.hid hD
    clear hD
    go_enter Try.func25, Try.ntmps25
    go_wp2
    go_ret
    exact ⟨ret_int HD.out.symm, Below.refl _ _⟩
  · by_cases h2 : 12 < m
    · have hD : Cal.dim y m = 0 := Cal.dim_out y m (by omega)
      have HD := Lib.hid hD
      clear hD
      go_enter Try.func25, Try.ntmps25
      go_wp2
      go_ret
      exact ⟨ret_int HD.out.symm, Below.refl _ _⟩
    · exact rdays_in y m w (by omega) (by omega)
end Go.Proofs.Ytokinadmeooaoaa
