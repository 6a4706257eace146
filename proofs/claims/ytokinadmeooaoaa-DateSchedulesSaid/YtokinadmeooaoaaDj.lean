/- The contract of the reference's Months, and of told; no conditions. -/
import Derived.Test.YtokinadmeooaoaaDi
import Derived.Test.YtokinadmeooaoaaDe
namespace Go.Proofs.Ytokinadmeooaoaa
open Go.RowKit
def refMon (n k : Int) : Int := if monB n k then monN n k else -1
theorem refMon_no (n k : Int) (h : monB n k = false) : Ending.returned (.int .i64 (-1)) = .returned (.int .i64 (refMon n k)) := ret_int (by unfold refMon; rw [h]; rfl)
theorem cY_zero (n : Int) (h : isD n = false) : cY n = 0 := by unfold cY; rw [h]; rfl
theorem refMon_eq (n k y m d : Int) (hd : isD n = true) (h1 : 1 ≤ m) (h2 : m ≤ 12) (e : 12 * y + m - 1 = mat n k) (hday : d = if Cal.D n ≤ Cal.dim y m then Cal.D n else Cal.dim y m) : refOf y m d = refMon n k := by
  have ey : mat n k / 12 = y := by omega
  have em : mat n k % 12 + 1 = m := by omega
  have ed : mday n k = d := by unfold mday; rw [ey, em, hday]
  have hb : monB n k = vB y m d := by unfold monB vB; rw [hd, ey, em, ed]; simp
  unfold refMon refOf monN
  rw [hb, ey, em, ed]
  cases vB y m d <;> rfl
set_option maxHeartbeats 1000000 in
theorem rmon_in (n k : Int) (w : World) (hd : isD n = true) (k1 : -200000 ≤ k) (k2 : k ≤ 200000) :
    Calls Try.prog 14 #[.int .i64 n, .int .i64 k] w fun e w' => e = .returned (.int .i64 (refMon n k)) ∧ Below w.heap.size w w' := by
  obtain ⟨h3, h4⟩ := (isD_iff n).1 hd
  obtain ⟨⟨a1, a2, a3, a4, a5, a6⟩, _⟩ := Cal.civil_ok n h3 h4
  have hdm := Cal.dim_le (Cal.Y n) (Cal.M n)
  have a7 : Cal.D n ≤ 31 := by omega
  clear a6 hdm h3 h4
  have HE := Lib.hid (fun y m d => refMon_eq n k y m d hd)
  have e1 : cY n = Cal.Y n := by unfold cY; rw [if_pos hd]
  have e2 : cM n = Cal.M n := by unfold cM; rw [if_pos hd]
  have e3 : cD n = Cal.D n := by unfold cD; rw [if_pos hd]
  have HM := Lib.hid (show mat n k = 12 * Cal.Y n + Cal.M n - 1 + k from rfl)
  clear hd
  generalize Cal.Y n = Y at *
  generalize Cal.M n = M at *
  generalize Cal.D n = D at *
  have hY0 : (Y == 0) = false := by simp; omega
  go_enter Try.func14, Try.ntmps14
  go_wp2_with fail
  refine (rciv_any _ _).mono ?_
  rintro e w1 ⟨rfl, b1⟩
  rw [e1, e2, e3]
  clear e1 e2 e3
  go_wp2_with fail
  go_loop [5, 6, 8] (fun y m i => ∃ a b c : Int, y = .int .i64 a ∧ m = .int .i64 b ∧ i = .int .i64 c ∧ 0 ≤ c ∧ c ≤ 200000 ∧ (c ≤ k ∨ c = 0) ∧ 1 ≤ b ∧ b ≤ 12 ∧ Hid (12 * a + b = 12 * Y + M + c) ∧ 0 ≤ a ∧ a ≤ 100000) (fun _ _ i => (200000 - intOf i).toNat)
  case atStart => exact ⟨Y, M, 0, rfl, rfl, rfl, by omega, by omega, .inr rfl, a3, a4, by show _ = _; omega, by omega, by omega⟩
  case round =>
    obtain ⟨a, b, c, rfl, rfl, rfl, c0, c1, c2, b0, b2, HX, y0, y1⟩ := hrel
    by_cases hc : c < k
    · have hy2 : a ≤ 50000 := by have := HX.out; omega
      by_cases hb : b = 12
      · have hb13 : (b + 1 == 13) = true := by simp; omega
        have HB := Lib.hid hb
        clear hb
        go_wp2
        go_round
        case rel => exact ⟨a + 1, 1, c + 1, rfl, rfl, rfl, by omega, by omega, .inl (by omega), by omega, by omega, by show _ = _; have := HX.out; have := HB.out; omega, by omega, by omega⟩
        case measure => simp [intOf]; omega
      · have hb13 : (b + 1 == 13) = false := by simp; omega
        have HB := Lib.hid hb
        clear hb
        go_wp2
        go_round
        case rel => exact ⟨a, b + 1, c + 1, rfl, rfl, rfl, by omega, by omega, .inl (by omega), by omega, by have := HB.out; omega, by show _ = _; have := HX.out; omega, by omega, by omega⟩
        case measure => simp [intOf]; omega
    · go_wp2_with fail
      go_loop [5, 6, 9] (fun y m i => ∃ a b c : Int, y = .int .i64 a ∧ m = .int .i64 b ∧ i = .int .i64 c ∧ c ≤ 0 ∧ -200000 ≤ c ∧ (k ≤ c ∨ c = 0) ∧ 1 ≤ b ∧ b ≤ 12 ∧ Hid (12 * a + b = 12 * Y + M + c + (if 0 ≤ k then k else 0)) ∧ -100000 ≤ a ∧ a ≤ 100000) (fun _ _ i => (200000 + intOf i).toNat)
      case atStart => exact ⟨a, b, 0, rfl, rfl, rfl, by omega, by omega, .inr rfl, b0, b2, by show _ = _; have := HX.out; split <;> omega, by omega, by omega⟩
      case round =>
        clear HX c0 c1 c2 hc y0 y1 b0 b2
        obtain ⟨a, b, c, rfl, rfl, rfl, c0, c1, c2, b0, b2, HX, y0, y1⟩ := hrel
        by_cases hc : k < c
        · have hy2 : -50000 ≤ a := by have := HX.out; split at this <;> omega
          by_cases hb : b = 1
          · have hb13 : (b - 1 == 0) = true := by simp; omega
            have HB := Lib.hid hb
            clear hb
            go_wp2
            go_round
            case rel => exact ⟨a - 1, 12, c - 1, rfl, rfl, rfl, by omega, by omega, .inl (by omega), by omega, by omega, by show _ = _; have := HX.out; have := HB.out; omega, by omega, by omega⟩
            case measure => simp [intOf]; omega
          · have hb13 : (b - 1 == 0) = false := by simp; omega
            have HB := Lib.hid hb
            clear hb
            go_wp2
            go_round
            case rel => exact ⟨a, b - 1, c - 1, rfl, rfl, rfl, by omega, by omega, .inl (by omega), by have := HB.out; omega, by omega, by show _ = _; have := HX.out; omega, by omega, by omega⟩
            case measure => simp [intOf]; omega
        · have HEQ : Hid (12 * a + b - 1 = mat n k) := by show _ = _; have q := HM.out; have := HX.out; split at this <;> omega
          by_cases hdd : Cal.dim a b < D
          · go_wp2_with fail
            refine (rdays_any _ _ _).mono ?_
            rintro e w2 ⟨rfl, b2'⟩
            go_wp2_with fail
            refine (rdays_any _ _ _).mono ?_
            rintro e w3 ⟨rfl, b3⟩
            go_wp2_with fail
            refine (rof_any _ _ _ _).mono ?_
            rintro e w4 ⟨rfl, b4⟩
            go_wp2
            go_ret
            exact ⟨ret_int (HE.out a b _ b0 b2 HEQ.out (by rw [if_neg (by omega)])), ((b1.trans (b2'.mono b1.size)).trans (b3.mono (Nat.le_trans b1.size b2'.size))).trans (b4.mono (Nat.le_trans (Nat.le_trans b1.size b2'.size) b3.size))⟩
          · go_wp2_with fail
            refine (rdays_any _ _ _).mono ?_
            rintro e w2 ⟨rfl, b2'⟩
            go_wp2_with fail
            refine (rof_any _ _ _ _).mono ?_
            rintro e w4 ⟨rfl, b4⟩
            go_wp2
            go_ret
            exact ⟨ret_int (HE.out a b _ b0 b2 HEQ.out (by rw [if_pos (by omega)])), (b1.trans (b2'.mono b1.size)).trans (b4.mono (Nat.le_trans b1.size b2'.size))⟩
theorem rmon_any (n k : Int) (w : World) :
    Calls Try.prog 14 #[.int .i64 n, .int .i64 k] w fun e w' => e = .returned (.int .i64 (refMon n k)) ∧ Below w.heap.size w w' := by
  by_cases hd : isD n = true
  · by_cases hk : -200000 ≤ k ∧ k ≤ 200000
    · exact rmon_in n k w hd hk.1 hk.2
    · have hb : monB n k = false := by
        cases h : monB n k with
        | false => rfl
        | true => obtain ⟨_, b1, b2, _⟩ := mat_bd n k h; exact absurd ⟨by omega, by omega⟩ hk
      have HR := Lib.hid (refMon_no n k hb)
      obtain ⟨h3, h4⟩ := (isD_iff n).1 hd
      obtain ⟨⟨a1, _⟩, _⟩ := Cal.civil_ok n h3 h4
      have e1 : cY n = Cal.Y n := by unfold cY; rw [if_pos hd]
      have hY0 : (Cal.Y n == 0) = false := by simp; omega
      clear hb hd h3 h4
      by_cases k1 : 200000 < k
      · go_enter Try.func14, Try.ntmps14
        go_wp2_with fail
        refine (rciv_any _ _).mono ?_
        rintro e w1 ⟨rfl, b1⟩
        rw [e1]
        go_wp2
        go_ret
        exact ⟨HR.out, b1⟩
      · have k2 : k < -200000 := by omega
        go_enter Try.func14, Try.ntmps14
        go_wp2_with fail
        refine (rciv_any _ _).mono ?_
        rintro e w1 ⟨rfl, b1⟩
        rw [e1]
        go_wp2
        go_ret
        exact ⟨HR.out, b1⟩
  · have hd' : isD n = false := by simpa using hd
    have hb : monB n k = false := by unfold monB; rw [hd']; rfl
    have HR := Lib.hid (refMon_no n k hb)
    have e1 := cY_zero n hd'
    clear hb hd hd'
    go_enter Try.func14, Try.ntmps14
    go_wp2_with fail
    refine (rciv_any _ _).mono ?_
    rintro e w1 ⟨rfl, b1⟩
    rw [e1]
    clear e1
    go_wp2
    go_ret
    exact ⟨HR.out, b1⟩
def toldB (n : Int) (ok : Bool) (want : Int) : Bool := (ok == decide (0 ≤ want)) && decide (n = if 0 ≤ want then want else 0)
theorem told_ret (n : Int) (ok : Bool) (want : Int) (b : Bool) (h : b = (if 0 ≤ want then ok && decide (n = want) else !ok && decide (n = 0))) : Ending.returned (.bool b) = .returned (.bool (toldB n ok want)) := by
  refine ret_bool ?_
  rw [h]; unfold toldB
  by_cases hw : 0 ≤ want
  · rw [if_pos hw, if_pos hw]; cases ok <;> simp [hw]
  · rw [if_neg hw, if_neg hw]; cases ok <;> simp [hw]
theorem told_any (n : Int) (ok : Bool) (want : Int) (w : World) :
    Calls Try.prog 13 #[.int .i64 n, .bool ok, .int .i64 want] w fun e w' => e = .returned (.bool (toldB n ok want)) ∧ w = w' := by
  have HT := Lib.hid (fun b => told_ret n ok want b)
  by_cases h : 0 ≤ want
  · cases ok
    all_goals
      go_enter Try.func13, Try.ntmps13
      go_wp2
      go_ret
      exact ⟨HT.out _ (by rw [if_pos (by omega)]; simp [Bool.beq_eq_decide_eq]), rfl⟩
  · cases ok
    all_goals
      go_enter Try.func13, Try.ntmps13
      go_wp2
      go_ret
      exact ⟨HT.out _ (by rw [if_neg (by omega)]; simp [Bool.beq_eq_decide_eq]), rfl⟩
end Go.Proofs.Ytokinadmeooaoaa
