/- The contract of Adjust; no conditions. -/
import Derived.Test.YtokinadmeooaoaaDo
namespace Go.Proofs.Ytokinadmeooaoaa
open Go.RowKit
def tgB (a b : Int) : Bool := isD a && isD b && decide (cY a = cY b) && decide (cM a = cM b)
theorem together_any (a b : Int) (w : World) :
    Calls Try.prog 46 #[.int .i64 a, .int .i64 b] w fun e w' => e = .returned (.bool (tgB a b)) ∧ w = w' := by
  have HT := Lib.hid (show tgB a b = (isD a && isD b && decide (cY a = cY b) && decide (cM a = cM b)) from rfl)
  cases ha : isD a
  · have FIN := Lib.hid (show tgB a b = false by rw [HT.out, ha]; rfl)
    have HA := Lib.hid ha
    clear ha
    go_enter Try.func46, Try.ntmps46
    go_wp2_with fail
    refine (civil_any _ _).mono ?_; rintro e w' ⟨rfl, rfl⟩
    rw [HA.out]
    go_wp2_with fail
    refine (civil_any _ _).mono ?_; rintro e w' ⟨rfl, rfl⟩
    go_wp2
    go_ret
    exact ⟨ret_bool FIN.out.symm, rfl⟩
  cases hb : isD b
  · have FIN := Lib.hid (show tgB a b = false by rw [HT.out, hb]; simp)
    have HA := Lib.hid ha
    have HB := Lib.hid hb
    clear ha hb
    go_enter Try.func46, Try.ntmps46
    go_wp2_with fail
    refine (civil_any _ _).mono ?_; rintro e w' ⟨rfl, rfl⟩
    rw [HA.out]
    go_wp2_with fail
    refine (civil_any _ _).mono ?_; rintro e w' ⟨rfl, rfl⟩
    rw [HB.out]
    go_wp2
    go_ret
    exact ⟨ret_bool FIN.out.symm, rfl⟩
  have FIN := Lib.hid (show tgB a b = (decide (cY a = cY b) && decide (cM a = cM b)) by rw [HT.out, ha, hb]; rfl)
  have HA := Lib.hid ha
  have HB := Lib.hid hb
  clear ha hb
  by_cases h1 : cY a = cY b
  · have e1 : (cY a == cY b) = true := by simp [h1]
    have F2 := Lib.hid (show tgB a b = (cM a == cM b) by rw [FIN.out]; simp [h1, Bool.beq_eq_decide_eq])
    clear h1
    go_enter Try.func46, Try.ntmps46
    go_wp2_with fail
    refine (civil_any _ _).mono ?_; rintro e w' ⟨rfl, rfl⟩
    rw [HA.out]
    go_wp2_with fail
    refine (civil_any _ _).mono ?_; rintro e w' ⟨rfl, rfl⟩
    rw [HB.out]
    go_wp2
    go_ret
    exact ⟨ret_bool F2.out.symm, rfl⟩
  · have e1 : (cY a == cY b) = false := by simp [h1]
    have F2 := Lib.hid (show tgB a b = false by rw [FIN.out]; simp [h1])
    clear h1
    go_enter Try.func46, Try.ntmps46
    go_wp2_with fail
    refine (civil_any _ _).mono ?_; rintro e w' ⟨rfl, rfl⟩
    rw [HA.out]
    go_wp2_with fail
    refine (civil_any _ _).mono ?_; rintro e w' ⟨rfl, rfl⟩
    rw [HB.out]
    go_wp2
    go_ret
    exact ⟨ret_bool F2.out.symm, rfl⟩
/-- The working day for a day; -1: there is none. -/
def adj (n rule : Int) (l : List Int) : Int :=
  if isD n = true ∧ 0 ≤ rule ∧ rule ≤ 3 then
    (if rule = 0 then n else if rule = 1 then up l n else if rule = 3 then dn l n else if tgB n (up l n) then up l n else dn l n) else -1
def adjN (n rule : Int) (l : List Int) : Int := if 0 ≤ adj n rule l then adj n rule l else 0
def adjB (n rule : Int) (l : List Int) : Bool := decide (0 ≤ adj n rule l)
theorem adj_yes (n rule : Int) (l : List Int) (x : Int) (h : adj n rule l = x) (h0 : 0 ≤ x) : Ending.returned (.tuple #[.int .i64 x, .bool true]) = .returned (.tuple #[.int .i64 (adjN n rule l), .bool (adjB n rule l)]) := by
  unfold adjN adjB; rw [h]; simp [h0]
theorem adj_no (n rule : Int) (l : List Int) (x : Int) (h : adj n rule l = x) (h0 : x < 0) : Ending.returned (.tuple #[.int .i64 0, .bool false]) = .returned (.tuple #[.int .i64 (adjN n rule l), .bool (adjB n rule l)]) := by
  have : ¬ 0 ≤ x := by omega
  unfold adjN adjB; rw [h]; simp [this]
set_option maxHeartbeats 1000000 in
theorem adjust_any (n rule : Int) (a : Option Addr) (len cap : Nat) (l : List Int) (w : World) (hl : Ints w a len l) :
    Calls Try.prog 31 #[.int .i64 n, .int .i64 rule, .slice a len cap] w fun e w' => e = .returned (.tuple #[.int .i64 (adjN n rule l), .bool (adjB n rule l)]) ∧ w = w' := by
  have HY := Lib.hid (adj_yes n rule l)
  have HN := Lib.hid (adj_no n rule l)
  have HA := Lib.hid (show adj n rule l = (if isD n = true ∧ 0 ≤ rule ∧ rule ≤ 3 then (if rule = 0 then n else if rule = 1 then up l n else if rule = 3 then dn l n else if tgB n (up l n) then up l n else dn l n) else -1) from rfl)
  by_cases hd : isD n = true
  case neg =>
    have hd' : isD n = false := by simpa using hd
    have FIN := Lib.hid (HN.out (-1) (by rw [HA.out, if_neg (fun h => hd h.1)]) (by omega))
    clear hd
    have HD := Lib.hid hd'
    clear hd'
    go_enter Try.func31, Try.ntmps31
    go_wp2_with fail
    refine (is_any _ _).mono ?_; rintro e w' ⟨rfl, rfl⟩
    rw [HD.out]
    go_wp2
    go_ret2
    exact ⟨FIN.out, rfl⟩
  obtain ⟨d0, d1⟩ := (isD_iff n).1 hd
  have TU := Lib.hid (show Calls Try.prog 45 #[.int .i64 n, .int .i64 1, .slice a len cap] w fun e w' => e = .returned (.int .i64 (up l n)) ∧ w = w' from toward_any n 1 a len cap l w hl (.inl rfl) (by omega) (by omega))
  have TD := Lib.hid (show Calls Try.prog 45 #[.int .i64 n, .int .i64 (-1), .slice a len cap] w fun e w' => e = .returned (.int .i64 (dn l n)) ∧ w = w' from toward_any n (-1) a len cap l w hl (.inr rfl) (by omega) (by omega))
  have HD := Lib.hid hd
  clear hl
  by_cases r0 : rule < 0
  · have FIN := Lib.hid (HN.out (-1) (by rw [HA.out, if_neg (fun h => by omega)]) (by omega))
    clear hd
    go_enter Try.func31, Try.ntmps31
    go_wp2_with fail
    refine (is_any _ _).mono ?_; rintro e w' ⟨rfl, rfl⟩
    rw [HD.out]
    go_wp2
    go_ret2
    exact ⟨FIN.out, rfl⟩
  by_cases r3 : 3 < rule
  · have FIN := Lib.hid (HN.out (-1) (by rw [HA.out, if_neg (fun h => by omega)]) (by omega))
    clear hd
    go_enter Try.func31, Try.ntmps31
    go_wp2_with fail
    refine (is_any _ _).mono ?_; rintro e w' ⟨rfl, rfl⟩
    rw [HD.out]
    go_wp2
    go_ret2
    exact ⟨FIN.out, rfl⟩
  rw [if_pos ⟨hd, by omega, by omega⟩] at HA
  clear hd
  have : rule = 0 ∨ rule = 1 ∨ rule = 2 ∨ rule = 3 := by omega
  clear r0 r3
  rcases this with rfl | rfl | rfl | rfl
  · have FIN := Lib.hid (HY.out n (by rw [HA.out, if_pos rfl]) d0)
    go_enter Try.func31, Try.ntmps31
    go_wp2_with fail
    refine (is_any _ _).mono ?_; rintro e w' ⟨rfl, rfl⟩
    rw [HD.out]
    go_wp2
    go_ret2
    exact ⟨FIN.out, rfl⟩
  · have E := Lib.hid (show adj n 1 l = up l n by rw [HA.out, if_neg (by decide), if_pos rfl])
    generalize up l n = u at *
    by_cases hu : u < 0
    · have FIN := Lib.hid (HN.out u E.out hu)
      go_enter Try.func31, Try.ntmps31
      go_wp2_with fail
      refine (is_any _ _).mono ?_; rintro e w' ⟨rfl, rfl⟩
      rw [HD.out]
      go_wp2_with fail
      refine TU.out.mono ?_; rintro e w' ⟨rfl, rfl⟩
      go_wp2
      go_ret2
      exact ⟨FIN.out, rfl⟩
    · have FIN := Lib.hid (HY.out u E.out (by omega))
      go_enter Try.func31, Try.ntmps31
      go_wp2_with fail
      refine (is_any _ _).mono ?_; rintro e w' ⟨rfl, rfl⟩
      rw [HD.out]
      go_wp2_with fail
      refine TU.out.mono ?_; rintro e w' ⟨rfl, rfl⟩
      go_wp2
      go_ret2
      exact ⟨FIN.out, rfl⟩
  · have E := Lib.hid (show adj n 2 l = if tgB n (up l n) then up l n else dn l n by rw [HA.out, if_neg (by decide), if_neg (by decide), if_neg (by decide)])
    clear HA
    generalize up l n = u at *
    generalize dn l n = d at *
    cases ht : tgB n u
    · have E2 := Lib.hid (show adj n 2 l = d by rw [E.out, ht]; rfl)
      have HT := Lib.hid ht
      clear ht
      by_cases hu : d < 0
      · have FIN := Lib.hid (HN.out d E2.out hu)
        go_enter Try.func31, Try.ntmps31
        go_wp2_with fail
        refine (is_any _ _).mono ?_; rintro e w' ⟨rfl, rfl⟩
        rw [HD.out]
        go_wp2_with fail
        refine TU.out.mono ?_; rintro e w' ⟨rfl, rfl⟩
        go_wp2_with fail
        refine (together_any _ _ _).mono ?_; rintro e w' ⟨rfl, rfl⟩
        rw [HT.out]
        go_wp2_with fail
        refine TD.out.mono ?_; rintro e w' ⟨rfl, rfl⟩
        go_wp2
        go_ret2
        exact ⟨FIN.out, rfl⟩
      · have FIN := Lib.hid (HY.out d E2.out (by omega))
        go_enter Try.func31, Try.ntmps31
        go_wp2_with fail
        refine (is_any _ _).mono ?_; rintro e w' ⟨rfl, rfl⟩
        rw [HD.out]
        go_wp2_with fail
        refine TU.out.mono ?_; rintro e w' ⟨rfl, rfl⟩
        go_wp2_with fail
        refine (together_any _ _ _).mono ?_; rintro e w' ⟨rfl, rfl⟩
        rw [HT.out]
        go_wp2_with fail
        refine TD.out.mono ?_; rintro e w' ⟨rfl, rfl⟩
        go_wp2
        go_ret2
        exact ⟨FIN.out, rfl⟩
    · have E2 := Lib.hid (show adj n 2 l = u by rw [E.out, ht]; rfl)
      have hu : ¬ u < 0 := by
        unfold tgB at ht
        simp only [Bool.and_eq_true] at ht
        have := (isD_iff u).1 ht.1.1.2
        omega
      have HT := Lib.hid ht
      clear ht
      have FIN := Lib.hid (HY.out u E2.out (by omega))
      go_enter Try.func31, Try.ntmps31
      go_wp2_with fail
      refine (is_any _ _).mono ?_; rintro e w' ⟨rfl, rfl⟩
      rw [HD.out]
      go_wp2_with fail
      refine TU.out.mono ?_; rintro e w' ⟨rfl, rfl⟩
      go_wp2_with fail
      refine (together_any _ _ _).mono ?_; rintro e w' ⟨rfl, rfl⟩
      rw [HT.out]
      go_wp2
      go_ret2
      exact ⟨FIN.out, rfl⟩
  · have E := Lib.hid (show adj n 3 l = dn l n by rw [HA.out, if_neg (by decide), if_neg (by decide), if_pos rfl])
    clear HA
    generalize dn l n = u at *
    by_cases hu : u < 0
    · have FIN := Lib.hid (HN.out u E.out hu)
      go_enter Try.func31, Try.ntmps31
      go_wp2_with fail
      refine (is_any _ _).mono ?_; rintro e w' ⟨rfl, rfl⟩
      rw [HD.out]
      go_wp2_with fail
      refine TD.out.mono ?_; rintro e w' ⟨rfl, rfl⟩
      go_wp2
      go_ret2
      exact ⟨FIN.out, rfl⟩
    · have FIN := Lib.hid (HY.out u E.out (by omega))
      go_enter Try.func31, Try.ntmps31
      go_wp2_with fail
      refine (is_any _ _).mono ?_; rintro e w' ⟨rfl, rfl⟩
      rw [HD.out]
      go_wp2_with fail
      refine TD.out.mono ?_; rintro e w' ⟨rfl, rfl⟩
      go_wp2
      go_ret2
      exact ⟨FIN.out, rfl⟩
end Go.Proofs.Ytokinadmeooaoaa
