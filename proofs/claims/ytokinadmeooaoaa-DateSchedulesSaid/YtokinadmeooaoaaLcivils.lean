/- The walk of the law DateCivils: it returns true, for any four numbers. -/
import Derived.Test.YtokinadmeooaoaaDk
import Derived.Test.YtokinadmeooaoaaDj
namespace Go.Proofs.Ytokinadmeooaoaa
open Go.RowKit
theorem civil_any (n : Int) (w : World) :
    Calls Try.prog 18 #[.int .i64 n] w fun e w' => e = .returned (.tuple #[.int .i64 (cY n), .int .i64 (cM n), .int .i64 (cD n), .bool (isD n)]) ∧ w = w' := by
  cases h : isD n with
  | true =>
    refine (civil_yes n w h).mono fun e w' ⟨he, hw⟩ => ⟨?_, hw⟩
    rw [he]; unfold cY cM cD; rw [if_pos h, if_pos h, if_pos h]
  | false =>
    refine (civil_no n w h).mono fun e w' ⟨he, hw⟩ => ⟨?_, hw⟩
    rw [he]; unfold cY cM cD; rw [h]; rfl
theorem told_of (y m d : Int) : toldB (ofN y m d) (vB y m d) (refOf y m d) = true := by
  unfold toldB refOf ofN
  cases h : vB y m d
  · rfl
  · have := (Cal.num_range y m d (by unfold vB at h; simpa using h)).1
    simp [this]
theorem cY_pos (n : Int) (h : isD n = true) : 0 < cY n := by
  obtain ⟨h0, h1⟩ := (isD_iff n).1 h
  have := (Cal.civil_ok n h0 h1).1.1
  unfold cY; rw [if_pos h]; omega
set_option maxHeartbeats 1000000 in
theorem law_civils (n y m d : Int) (w : World) (_h0 : (Lit.int .i64 n).wf = true) (_h1 : (Lit.int .i64 y).wf = true) (_h2 : (Lit.int .i64 m).wf = true) (_h3 : (Lit.int .i64 d).wf = true) :
    Calls Try.prog 6 #[.int .i64 n, .int .i64 y, .int .i64 m, .int .i64 d] w fun e w' => e = .returned (.bool true) ∧ Below w.heap.size w w' := by
  have HT := Lib.hid (told_of y m d)
  clear _h0 _h1 _h2 _h3
  cases hd : isD n
  · have hz : cY n = 0 := cY_zero n hd
    have HZ := Lib.hid hz
    have hw : wkd n = -1 := by unfold wkd; rw [hd]; rfl
    have HW := Lib.hid hw
    have HD := Lib.hid hd
    clear hz hw hd
    go_enter Try.func6, Try.ntmps6
    go_wp2_with fail
    refine (civil_any _ _).mono ?_; rintro e w' ⟨rfl, rfl⟩
    rw [HD.out, HZ.out]
    go_wp2_with fail
    refine (rciv_any _ _).mono ?_; rintro e w1 ⟨rfl, b1⟩
    rw [HZ.out]
    go_wp2_with fail
    refine (of_any _ _ _ _).mono ?_; rintro e w' ⟨rfl, rfl⟩
    go_wp2_with fail
    refine (rof_any _ _ _ _).mono ?_; rintro e w2 ⟨rfl, b2⟩
    go_wp2_with fail
    refine (told_any _ _ _ _).mono ?_; rintro e w' ⟨rfl, rfl⟩
    rw [HT.out]
    go_wp2_with fail
    refine (leap_any _ _).mono ?_; rintro e w' ⟨rfl, rfl⟩
    go_wp2_with fail
    refine (rleap_any _ _).mono ?_; rintro e w' ⟨rfl, rfl⟩
    go_wp2_with fail
    refine (days_any _ _ _).mono ?_; rintro e w' ⟨rfl, rfl⟩
    go_wp2_with fail
    refine (rdays_any _ _ _).mono ?_; rintro e w3 ⟨rfl, b3⟩
    go_wp2_with fail
    refine (weekday_any _ _).mono ?_; rintro e w' ⟨rfl, rfl⟩
    rw [HW.out]
    go_wp2_with fail
    refine (awake_true _).mono ?_; rintro e w4 ⟨rfl, b4⟩
    go_wp2
    go_ret
    have c2 := b1.trans (b2.mono b1.size)
    have c3 := c2.trans (b3.mono c2.size)
    exact ⟨rfl, c3.trans (b4.mono c3.size)⟩
  · have hz : 0 < cY n := cY_pos n hd
    have hw : wkd n = (n + 3) % 7 := by unfold wkd; rw [if_pos hd]
    have HW := Lib.hid hw
    obtain ⟨h0, h1⟩ := (isD_iff n).1 hd
    have HD := Lib.hid hd
    clear hw hd
    go_enter Try.func6, Try.ntmps6
    go_wp2_with fail
    refine (civil_any _ _).mono ?_; rintro e w' ⟨rfl, rfl⟩
    rw [HD.out]
    go_wp2_with fail
    refine (rciv_any _ _).mono ?_; rintro e w1 ⟨rfl, b1⟩
    go_wp2_with fail
    refine (of_any _ _ _ _).mono ?_; rintro e w' ⟨rfl, rfl⟩
    go_wp2_with fail
    refine (rof_any _ _ _ _).mono ?_; rintro e w2 ⟨rfl, b2⟩
    go_wp2_with fail
    refine (told_any _ _ _ _).mono ?_; rintro e w' ⟨rfl, rfl⟩
    rw [HT.out]
    go_wp2_with fail
    refine (leap_any _ _).mono ?_; rintro e w' ⟨rfl, rfl⟩
    go_wp2_with fail
    refine (rleap_any _ _).mono ?_; rintro e w' ⟨rfl, rfl⟩
    go_wp2_with fail
    refine (days_any _ _ _).mono ?_; rintro e w' ⟨rfl, rfl⟩
    go_wp2_with fail
    refine (rdays_any _ _ _).mono ?_; rintro e w3 ⟨rfl, b3⟩
    go_wp2_with fail
    refine (weekday_any _ _).mono ?_; rintro e w' ⟨rfl, rfl⟩
    rw [HW.out]
    go_wp2_with fail
    refine (awake_true _).mono ?_; rintro e w4 ⟨rfl, b4⟩
    go_wp2
    go_ret
    have c2 := b1.trans (b2.mono b1.size)
    have c3 := c2.trans (b3.mono c2.size)
    exact ⟨rfl, c3.trans (b4.mono c3.size)⟩
end Go.Proofs.Ytokinadmeooaoaa
