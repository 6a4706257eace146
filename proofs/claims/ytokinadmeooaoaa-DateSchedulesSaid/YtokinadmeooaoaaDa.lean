/- Contracts of the program's functions on days: Leap, Days, Of; no conditions. -/
import Derived.Test.YtokinadmeooaoaaProg
import Derived.Test.YtokinadmeooaoaaCal
import Derived.WalkKit
import Derived.Lib.Hide
namespace Go.Proofs.Ytokinadmeooaoaa
open Go.RowKit
def isD (n : Int) : Bool := decide (0 ≤ n ∧ n ≤ 2932896)
def lpB (y : Int) : Bool := decide (Cal.lp y = 1)
theorem ret_bool {a b : Bool} (h : a = b) : Ending.returned (.bool a) = .returned (.bool b) := by rw [h]
theorem ret_int {k : IntKind} {a b : Int} (h : a = b) : Ending.returned (.int k a) = .returned (.int k b) := by rw [h]
theorem is_any (n : Int) (w : World) :
    Calls Try.prog 41 #[.int .i64 n] w fun e w' => e = .returned (.bool (isD n)) ∧ w = w' := by
  go_enter Try.func41, Try.ntmps41
  go_wp2
  all_goals (go_ret; exact ⟨ret_bool (by unfold isD; simp; try omega), rfl⟩)
theorem tz (y k : Int) : y.tmod k = 0 ↔ y % k = 0 := by
  constructor
  · intro h; exact Int.emod_eq_zero_of_dvd (Int.dvd_of_tmod_eq_zero h)
  · intro h; exact Int.tmod_eq_zero_of_dvd (Int.dvd_of_emod_eq_zero h)
theorem leap_any (y : Int) (w : World) :
    Calls Try.prog 22 #[.int .i64 y] w fun e w' => e = .returned (.bool (lpB y)) ∧ w = w' := by
  go_enter Try.func22, Try.ntmps22
  go_wp2
  all_goals (go_ret; refine ⟨ret_bool ?_, rfl⟩; simp only [tz, Bool.beq_eq_decide_eq] at *; unfold lpB Cal.lp; simp [*])
theorem lpB_eq (y : Int) : Cal.lp y = if lpB y = true then 1 else 0 := by
  have := Cal.lp_01 y
  unfold lpB; split <;> simp_all; omega
set_option maxHeartbeats 400000 in
theorem days_any (y m : Int) (w : World) :
    Calls Try.prog 24 #[.int .i64 y, .int .i64 m] w fun e w' => e = .returned (.int .i64 (Cal.dim y m)) ∧ w = w' := by
  go_enter Try.func24, Try.ntmps24
  go_wp2_with (go_at_call 22; refine (leap_any _ _).mono ?_; rintro e w' ⟨rfl, rfl⟩)
  all_goals (go_ret; refine ⟨ret_int ?_, rfl⟩; simp only [beq_iff_eq, beq_eq_false_iff_ne] at *; unfold Cal.dim; simp [*, lpB_eq])
  all_goals omega
def vB (y m d : Int) : Bool := decide (Cal.vld y m d)
def ofN (y m d : Int) : Int := if vB y m d then Cal.num y m d else 0
theorem ret2 {k : IntKind} {a b : Int} {p q : Bool} (h : a = b) (h' : p = q) : Ending.returned (.tuple #[.int k a, .bool p]) = .returned (.tuple #[.int k b, .bool q]) := by rw [h, h']
theorem of_no (y m d : Int) (w : World) (h : ¬ Cal.vld y m d) :
    Calls Try.prog 20 #[.int .i64 y, .int .i64 m, .int .i64 d] w fun e w' => e = .returned (.tuple #[.int .i64 0, .bool false]) ∧ w = w' := by
  by_cases h1 : y < 1970
  · go_enter Try.func20, Try.ntmps20
    go_wp2
    go_ret2
    exact ⟨rfl, rfl⟩
  by_cases h2 : 9999 < y
  · go_enter Try.func20, Try.ntmps20
    go_wp2
    go_ret2
    exact ⟨rfl, rfl⟩
  by_cases h3 : d < 1
  · go_enter Try.func20, Try.ntmps20
    go_wp2
    go_ret2
    exact ⟨rfl, rfl⟩
  have h4 : Cal.dim y m < d := by
    by_cases hm : 1 ≤ m ∧ m ≤ 12
    · unfold Cal.vld at h; omega
    · rw [Cal.dim_out y m hm]; omega
  clear h
  go_enter Try.func20, Try.ntmps20
  go_wp2_with (go_at_call 24; refine (days_any _ _ _).mono ?_; rintro e w' ⟨rfl, rfl⟩)
  go_ret2
  exact ⟨rfl, rfl⟩
theorem of_yes (y m d : Int) (w : World) (h : Cal.vld y m d) :
    Calls Try.prog 20 #[.int .i64 y, .int .i64 m, .int .i64 d] w fun e w' => e = .returned (.tuple #[.int .i64 (Cal.num y m d), .bool true]) ∧ w = w' := by
  obtain ⟨h1, h2, h3, h4, h5, h6⟩ := h
  have hd := Cal.dim_le y m
  have hd2 : d ≤ 31 := by omega
  by_cases hm : m < 3
  · have E := Cal.of_early y m d h3 (by omega)
    have HE := Lib.hid E
    clear E
    go_enter Try.func20, Try.ntmps20
    go_wp2_with (go_at_call 24; refine (days_any _ _ _).mono ?_; rintro e w' ⟨rfl, rfl⟩)
    go_ret2
    refine ⟨ret2 ?_ rfl, rfl⟩
    rw [← HE.out]
  · have E := Cal.of_late y m d (by omega) h4
    have HE := Lib.hid E
    clear E
    go_enter Try.func20, Try.ntmps20
    go_wp2_with (go_at_call 24; refine (days_any _ _ _).mono ?_; rintro e w' ⟨rfl, rfl⟩)
    go_ret2
    refine ⟨ret2 ?_ rfl, rfl⟩
    rw [← HE.out]
end Go.Proofs.Ytokinadmeooaoaa
