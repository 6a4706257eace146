/- Contracts of the program's functions on days: Weekday, Months; no conditions. -/
import Derived.Test.YtokinadmeooaoaaDb
namespace Go.Proofs.Ytokinadmeooaoaa
open Go.RowKit
def wkd (n : Int) : Int := if isD n then (n + 3) % 7 else -1
theorem weekday_any (n : Int) (w : World) :
    Calls Try.prog 26 #[.int .i64 n] w fun e w' => e = .returned (.int .i64 (wkd n)) ∧ w = w' := by
  by_cases h : isD n = true
  · obtain ⟨h0, h1⟩ := (isD_iff n).1 h
    go_enter Try.func26, Try.ntmps26
    go_wp2_with (go_at_call 41; refine (is_any _ _).mono ?_; rintro e w' ⟨rfl, rfl⟩)
    go_ret
    exact ⟨ret_int (by unfold wkd; rw [if_pos h]), rfl⟩
  · have h' : isD n = false := by simpa using h
    go_enter Try.func26, Try.ntmps26
    go_wp2_with (go_at_call 41; refine (is_any _ _).mono ?_; rintro e w' ⟨rfl, rfl⟩)
    go_ret
    exact ⟨ret_int (by unfold wkd; rw [if_neg h]), rfl⟩
/-- So many months on, or back: the year and the month as one number. -/
def mat (n k : Int) : Int := 12 * Cal.Y n + Cal.M n - 1 + k
def mday (n k : Int) : Int := if Cal.D n ≤ Cal.dim (mat n k / 12) (mat n k % 12 + 1) then Cal.D n else Cal.dim (mat n k / 12) (mat n k % 12 + 1)
def monB (n k : Int) : Bool := isD n && decide (Cal.vld (mat n k / 12) (mat n k % 12 + 1) (mday n k))
def monN (n k : Int) : Int := if monB n k then Cal.num (mat n k / 12) (mat n k % 12 + 1) (mday n k) else 0
theorem monB_iff (n k : Int) : monB n k = true ↔ isD n = true ∧ Cal.vld (mat n k / 12) (mat n k % 12 + 1) (mday n k) := by unfold monB; simp
theorem mat_bd (n k : Int) (h : monB n k = true) : isD n = true ∧ -119988 ≤ k ∧ k ≤ 119988 ∧ 0 ≤ mat n k ∧ 1970 ≤ Cal.Y n ∧ Cal.Y n ≤ 9999 ∧ 1 ≤ Cal.M n ∧ Cal.M n ≤ 12 ∧ 1 ≤ Cal.D n ∧ Cal.D n ≤ 31 := by
  obtain ⟨h1, h2⟩ := (monB_iff n k).1 h
  obtain ⟨h3, h4⟩ := (isD_iff n).1 h1
  obtain ⟨⟨a1, a2, a3, a4, a5, a6⟩, _⟩ := Cal.civil_ok n h3 h4
  have := Cal.dim_le (Cal.Y n) (Cal.M n)
  have hm : mat n k = 12 * Cal.Y n + Cal.M n - 1 + k := rfl
  obtain ⟨b1, b2, b3, _⟩ := h2
  exact ⟨h1, by omega, by omega, by omega, a1, a2, a3, a4, a5, by omega⟩
theorem of_any (y m d : Int) (w : World) :
    Calls Try.prog 20 #[.int .i64 y, .int .i64 m, .int .i64 d] w fun e w' => e = .returned (.tuple #[.int .i64 (ofN y m d), .bool (vB y m d)]) ∧ w = w' := by
  by_cases h : Cal.vld y m d
  · have hb : vB y m d = true := by unfold vB; simp [h]
    refine (of_yes y m d w h).mono fun e w' ⟨he, hw⟩ => ⟨?_, hw⟩
    rw [he]; exact ret2 (by unfold ofN; rw [if_pos hb]) hb.symm
  · have hb : vB y m d = false := by unfold vB; simp [h]
    refine (of_no y m d w h).mono fun e w' ⟨he, hw⟩ => ⟨?_, hw⟩
    rw [he]; exact ret2 (by unfold ofN; rw [if_neg (by rw [hb]; simp)]) hb.symm
set_option maxHeartbeats 400000 in
theorem months_any (n k : Int) (w : World) :
    Calls Try.prog 12 #[.int .i64 n, .int .i64 k] w fun e w' => e = .returned (.tuple #[.int .i64 (monN n k), .bool (monB n k)]) ∧ w = w' := by
  by_cases hd : isD n = true
  case neg =>
    have hd' : isD n = false := by simpa using hd
    have hb : monB n k = false := by unfold monB; rw [hd']; rfl
    have HB := Lib.hid hb
    clear hb hd
    go_enter Try.func12, Try.ntmps12
    go_wp2_with fail
    refine (civil_no _ _ hd').mono ?_; rintro e w' ⟨rfl, rfl⟩
    go_wp2
    go_ret2
    exact ⟨ret2 (by unfold monN; rw [if_neg (by rw [HB.out]; simp)]) HB.out.symm, rfl⟩
  obtain ⟨h3, h4⟩ := (isD_iff n).1 hd
  obtain ⟨⟨a1, a2, a3, a4, a5, a6⟩, _⟩ := Cal.civil_ok n h3 h4
  have hdm := Cal.dim_le (Cal.Y n) (Cal.M n)
  have a7 : Cal.D n ≤ 31 := by omega
  clear a6 hdm
  by_cases hk : -119988 ≤ k ∧ k ≤ 119988 ∧ 0 ≤ 12 * Cal.Y n + Cal.M n - 1 + k
  case neg =>
    have hb : monB n k = false := by
      cases h : monB n k with
      | false => rfl
      | true => obtain ⟨_, b1, b2, b3, _⟩ := mat_bd n k h; unfold mat at b3; exact absurd ⟨b1, b2, b3⟩ hk
    have HB := Lib.hid hb
    clear hb
    have fin : Ending.returned (.tuple #[.int .i64 0, .bool false]) = .returned (.tuple #[.int .i64 (monN n k), .bool (monB n k)]) :=
      ret2 (by unfold monN; rw [if_neg (by rw [HB.out]; simp)]) HB.out.symm
    have FIN := Lib.hid fin
    clear fin
    by_cases k1 : k < -119988
    · go_enter Try.func12, Try.ntmps12
      go_wp2_with fail
      refine (civil_yes _ _ hd).mono ?_; rintro e w' ⟨rfl, rfl⟩
      go_wp2
      go_ret2
      exact ⟨FIN.out, rfl⟩
    by_cases k2 : 119988 < k
    · go_enter Try.func12, Try.ntmps12
      go_wp2_with fail
      refine (civil_yes _ _ hd).mono ?_; rintro e w' ⟨rfl, rfl⟩
      go_wp2
      go_ret2
      exact ⟨FIN.out, rfl⟩
    have k3 : 12 * Cal.Y n + Cal.M n - 1 + k < 0 := by omega
    go_enter Try.func12, Try.ntmps12
    go_wp2_with fail
    refine (civil_yes _ _ hd).mono ?_; rintro e w' ⟨rfl, rfl⟩
    go_wp2
    go_ret2
    exact ⟨FIN.out, rfl⟩
  obtain ⟨k1, k2, k3⟩ := hk
  by_cases hm : Cal.D n ≤ Cal.dim ((12 * Cal.Y n + Cal.M n - 1 + k) / 12) ((12 * Cal.Y n + Cal.M n - 1 + k) % 12 + 1)
  all_goals
    have HM := Lib.hid hm
    go_enter Try.func12, Try.ntmps12
    go_wp2_with fail
    refine (civil_yes _ _ hd).mono ?_; rintro e w' ⟨rfl, rfl⟩
    go_wp2_with fail
    refine (days_any _ _ _).mono ?_; rintro e w' ⟨rfl, rfl⟩
    go_wp2_with fail
    refine (of_any _ _ _ _).mono ?_; rintro e w' ⟨rfl, rfl⟩
    go_wp2
    go_ret2
    refine ⟨?_, rfl⟩
  · have hday : mday n k = Cal.D n := by unfold mday mat; rw [if_pos HM.out]
    have hb : monB n k = vB (mat n k / 12) (mat n k % 12 + 1) (Cal.D n) := by unfold monB vB; rw [hd, hday]; simp
    exact ret2 (by unfold monN ofN; rw [hb, hday]; rfl) (by rw [hb]; rfl)
  · have hday : mday n k = Cal.dim (mat n k / 12) (mat n k % 12 + 1) := by unfold mday mat; rw [if_neg (by have := HM.out; omega)]
    have hb : monB n k = vB (mat n k / 12) (mat n k % 12 + 1) (Cal.dim (mat n k / 12) (mat n k % 12 + 1)) := by unfold monB vB; rw [hd, hday]; simp
    exact ret2 (by unfold monN ofN; rw [hb, hday]; rfl) (by rw [hb]; rfl)
end Go.Proofs.Ytokinadmeooaoaa
