/- The contract of Years; no conditions. -/
import Derived.Test.YtokinadmeooaoaaNb
import Derived.Test.YtokinadmeooaoaaDb
namespace Go.Proofs.Ytokinadmeooaoaa
open Go.RowKit
def m30 (d : Int) : Int := if d ≤ 30 then d else 30
def yNum (a b : Int) : Int := 360 * (Cal.Y b - Cal.Y a) + 30 * (Cal.M b - Cal.M a) + m30 (Cal.D b) - m30 (Cal.D a)
/-- What is divided by how much, in years between two days; none: there is no such. -/
def yrs (a b basis : Int) : Option (Int × Nat) :=
  if isD a = true ∧ isD b = true then (if basis = 0 then some (b - a, 365) else if basis = 1 then some (b - a, 360) else if basis = 2 then some (yNum a b, 360) else none) else none
def yP (o : Option (Int × Nat)) : Int := match o with | some (n, d) => ratP n d | none => 0
def yQ (o : Option (Int × Nat)) : Int := match o with | some (n, d) => ratQ n d | none => 0
def yB (o : Option (Int × Nat)) : Bool := match o with | some (n, d) => ratB n d | none => false
def yRet (o : Option (Int × Nat)) : Value := .tuple #[.agg #[.int .i64 (yP o), .int .i64 (yQ o)], .bool (yB o)]
theorem yRet_none (o : Option (Int × Nat)) (h : o = none) : Ending.returned (.tuple #[.agg #[.int .i64 0, .int .i64 0], .bool false]) = .returned (yRet o) := by rw [h]; rfl
theorem yRet_some (o : Option (Int × Nat)) (n : Int) (d : Nat) (h : o = some (n, d)) :
    Ending.returned (.tuple #[.agg #[.int .i64 (formP (decide (n < 0)) n.natAbs d), .int .i64 (formQ (decide (n < 0)) n.natAbs d)], .bool (formB (decide (n < 0)) n.natAbs d)]) = .returned (yRet o) := by rw [h]; rfl
set_option maxHeartbeats 1000000 in
set_option maxRecDepth 100000 in
theorem years_any (a b basis : Int) (w : World) :
    Calls Try.prog 16 #[.int .i64 a, .int .i64 b, .int .i64 basis] w fun e w' => e = .returned (yRet (yrs a b basis)) ∧ Below w.heap.size w w' := by
  have HN := Lib.hid (yRet_none (yrs a b basis))
  have HS := Lib.hid (yRet_some (yrs a b basis))
  have HY := Lib.hid (show yrs a b basis = if isD a = true ∧ isD b = true then (if basis = 0 then some (b - a, 365) else if basis = 1 then some (b - a, 360) else if basis = 2 then some (yNum a b, 360) else none) else none from rfl)
  by_cases ha : isD a = true
  case neg =>
    have ha' : isD a = false := by simpa using ha
    have FIN := Lib.hid (HN.out (by rw [HY.out, if_neg (fun h => ha h.1)]))
    cases hb : isD b
    all_goals
      go_enter Try.func16, Try.ntmps16
      go_wp2_with fail
      refine (civil_no _ _ ha').mono ?_; rintro e w' ⟨rfl, rfl⟩
      go_wp2_with fail
      first | (refine (civil_no _ _ hb).mono ?_; rintro e w' ⟨rfl, rfl⟩) | (refine (civil_yes _ _ hb).mono ?_; rintro e w' ⟨rfl, rfl⟩)
      go_wp2
      refine bodyPost_ret (v := .tuple #[.agg #[.int .i64 0, .int .i64 0], .bool false]) (by simp [results, Try.results16, go_sem]) rfl ⟨FIN.out, (Below.refl _ _).alloc (Nat.le_refl _) _⟩
  by_cases hb : isD b = true
  case neg =>
    have hb' : isD b = false := by simpa using hb
    have FIN := Lib.hid (HN.out (by rw [HY.out, if_neg (fun h => hb h.2)]))
    go_enter Try.func16, Try.ntmps16
    go_wp2_with fail
    refine (civil_yes _ _ ha).mono ?_; rintro e w' ⟨rfl, rfl⟩
    go_wp2_with fail
    refine (civil_no _ _ hb').mono ?_; rintro e w' ⟨rfl, rfl⟩
    go_wp2
    refine bodyPost_ret (v := .tuple #[.agg #[.int .i64 0, .int .i64 0], .bool false]) (by simp [results, Try.results16, go_sem]) rfl ⟨FIN.out, (Below.refl _ _).alloc (Nat.le_refl _) _⟩
  obtain ⟨a0, a1⟩ := (isD_iff a).1 ha
  obtain ⟨b0, b1⟩ := (isD_iff b).1 hb
  obtain ⟨⟨p1, p2, p3, p4, p5, p6⟩, _⟩ := Cal.civil_ok a a0 a1
  obtain ⟨⟨q1, q2, q3, q4, q5, q6⟩, _⟩ := Cal.civil_ok b b0 b1
  have p7 : Cal.D a ≤ 31 := by have := Cal.dim_le (Cal.Y a) (Cal.M a); omega
  have q7 : Cal.D b ≤ 31 := by have := Cal.dim_le (Cal.Y b) (Cal.M b); omega
  clear p6 q6
  by_cases h0 : basis = 0
  case pos =>
    subst h0
    have FIN := Lib.hid (HS.out (b - a) 365 (by rw [HY.out, if_pos ⟨ha, hb⟩, if_pos rfl]))
    go_enter Try.func16, Try.ntmps16
    go_wp2_with fail
    refine (civil_yes _ _ ha).mono ?_; rintro e w' ⟨rfl, rfl⟩
    go_wp2_with fail
    refine (civil_yes _ _ hb).mono ?_; rintro e w' ⟨rfl, rfl⟩
    go_wp2_with fail
    refine (reduce_any (b - a) 365 _ (by omega) (by omega) (by omega) (by omega)).mono ?_
    rintro e w2 ⟨rfl, b2⟩
    obtain ⟨c2, c3, f2, f3⟩ := ((Mem.Blk.new w 29 #[.int .i64 0, .int .i64 0]).below b2).two
    go_wp2
    refine bodyPost_ret (v := .tuple #[.agg #[.int .i64 (formP (decide (b - a < 0)) (b - a).natAbs 365), .int .i64 (formQ (decide (b - a < 0)) (b - a).natAbs 365)], .bool (formB (decide (b - a < 0)) (b - a).natAbs 365)]) (by simp [results, Try.results16, go_sem, c2, c3]) rfl ⟨FIN.out, ?_⟩
    exact ((((Below.refl _ _).alloc (Nat.le_refl _) _).trans (b2.mono (by simp))).setCell (by simp) _).setCell (by simp) _
  by_cases h1 : basis = 1
  case pos =>
    subst h1
    have FIN := Lib.hid (HS.out (b - a) 360 (by rw [HY.out, if_pos ⟨ha, hb⟩, if_neg (by decide), if_pos rfl]))
    go_enter Try.func16, Try.ntmps16
    go_wp2_with fail
    refine (civil_yes _ _ ha).mono ?_; rintro e w' ⟨rfl, rfl⟩
    go_wp2_with fail
    refine (civil_yes _ _ hb).mono ?_; rintro e w' ⟨rfl, rfl⟩
    go_wp2_with fail
    refine (reduce_any (b - a) 360 _ (by omega) (by omega) (by omega) (by omega)).mono ?_
    rintro e w2 ⟨rfl, b2⟩
    obtain ⟨c2, c3, f2, f3⟩ := ((Mem.Blk.new w 29 #[.int .i64 0, .int .i64 0]).below b2).two
    go_wp2
    refine bodyPost_ret (v := .tuple #[.agg #[.int .i64 (formP (decide (b - a < 0)) (b - a).natAbs 360), .int .i64 (formQ (decide (b - a < 0)) (b - a).natAbs 360)], .bool (formB (decide (b - a < 0)) (b - a).natAbs 360)]) (by simp [results, Try.results16, go_sem, c2, c3]) rfl ⟨FIN.out, ?_⟩
    exact ((((Below.refl _ _).alloc (Nat.le_refl _) _).trans (b2.mono (by simp))).setCell (by simp) _).setCell (by simp) _
  by_cases h2 : basis = 2
  case pos =>
    subst h2
    have EN := Lib.hid (show yNum a b = 360 * (Cal.Y b - Cal.Y a) + 30 * (Cal.M b - Cal.M a) + m30 (Cal.D b) - m30 (Cal.D a) from rfl)
    have FIN := Lib.hid (HS.out (yNum a b) 360 (by rw [HY.out, if_pos ⟨ha, hb⟩, if_neg (by decide), if_neg (by decide), if_pos rfl]))
    by_cases m1 : Cal.D b ≤ 30
    all_goals
      by_cases m2 : Cal.D a ≤ 30
      all_goals
        first
          | have E2 := Lib.hid (EN.out.trans (show _ = 360 * (Cal.Y b - Cal.Y a) + 30 * (Cal.M b - Cal.M a) + Cal.D b - Cal.D a by unfold m30; rw [if_pos m1, if_pos m2]))
          | have E2 := Lib.hid (EN.out.trans (show _ = 360 * (Cal.Y b - Cal.Y a) + 30 * (Cal.M b - Cal.M a) + Cal.D b - 30 by unfold m30; rw [if_pos m1, if_neg m2]))
          | have E2 := Lib.hid (EN.out.trans (show _ = 360 * (Cal.Y b - Cal.Y a) + 30 * (Cal.M b - Cal.M a) + 30 - Cal.D a by unfold m30; rw [if_neg m1, if_pos m2]))
          | have E2 := Lib.hid (EN.out.trans (show _ = 360 * (Cal.Y b - Cal.Y a) + 30 * (Cal.M b - Cal.M a) by unfold m30; rw [if_neg m1, if_neg m2]; omega))
        go_enter Try.func16, Try.ntmps16
        go_wp2_with fail
        refine (civil_yes _ _ ha).mono ?_; rintro e w' ⟨rfl, rfl⟩
        go_wp2_with fail
        refine (civil_yes _ _ hb).mono ?_; rintro e w' ⟨rfl, rfl⟩
        go_wp2_with fail
        rw [← E2.out]
        have bd : -5000000 ≤ yNum a b ∧ yNum a b ≤ 5000000 := by rw [E2.out]; omega
        generalize yNum a b = N at *
        refine (reduce_any N 360 _ (by omega) (by omega) (by omega) (by omega)).mono ?_
        rintro e w2 ⟨rfl, b2⟩
        obtain ⟨c2, c3, f2, f3⟩ := ((Mem.Blk.new w 29 #[.int .i64 0, .int .i64 0]).below b2).two
        go_wp2
        refine bodyPost_ret (v := .tuple #[.agg #[.int .i64 (formP (decide (N < 0)) N.natAbs 360), .int .i64 (formQ (decide (N < 0)) N.natAbs 360)], .bool (formB (decide (N < 0)) N.natAbs 360)]) (by simp [results, Try.results16, go_sem, c2, c3]) rfl ⟨FIN.out, ?_⟩
        exact ((((Below.refl _ _).alloc (Nat.le_refl _) _).trans (b2.mono (by simp))).setCell (by simp) _).setCell (by simp) _
  have g0 : (basis == 0) = false := by simp [h0]
  have g1 : (basis == 1) = false := by simp [h1]
  have g2 : (basis == 2) = false := by simp [h2]
  have FIN := Lib.hid (HN.out (by rw [HY.out, if_pos ⟨ha, hb⟩, if_neg h0, if_neg h1, if_neg h2]))
  go_enter Try.func16, Try.ntmps16
  go_wp2_with fail
  refine (civil_yes _ _ ha).mono ?_; rintro e w' ⟨rfl, rfl⟩
  go_wp2_with fail
  refine (civil_yes _ _ hb).mono ?_; rintro e w' ⟨rfl, rfl⟩
  go_wp2
  refine bodyPost_ret (v := .tuple #[.agg #[.int .i64 0, .int .i64 0], .bool false]) (by simp [results, Try.results16, go_sem]) rfl ⟨FIN.out, (Below.refl _ _).alloc (Nat.le_refl _) _⟩
end Go.Proofs.Ytokinadmeooaoaa
