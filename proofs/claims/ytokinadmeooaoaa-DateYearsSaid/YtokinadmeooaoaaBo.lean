/- The contract of the reference's Years; no conditions. -/
import Derived.Test.YtokinadmeooaoaaBn
import Derived.Test.YtokinadmeooaoaaDi
namespace Go.Proofs.Ytokinadmeooaoaa
open Go.RowKit
theorem m31 (d : Int) (h : d ≤ 31) : m30 d = if d = 31 then 30 else d := by unfold m30; split <;> split <;> omega
theorem bigof_eq (x n : Int) (w : World) (h : x = n) (h0 : -9223372036854775808 ≤ n) (h1 : n ≤ 9223372036854775807) :
    Calls Try.prog 40 #[.int .i64 x] w fun e w' => (∃ r, e = .returned r ∧ BigR w' r n) ∧ Below w.heap.size w w' := by subst h; exact bigof_any x w h0 h1
set_option maxHeartbeats 8000000 in
set_option maxRecDepth 100000 in
theorem ryears_any (a b basis : Int) (w : World) :
    Calls Try.prog 17 #[.int .i64 a, .int .i64 b, .int .i64 basis] w fun e w' => e = .returned (yRet (yrs a b basis)) ∧ Below w.heap.size w w' := by
  have HN := Lib.hid (yRet_none (yrs a b basis))
  have HS := Lib.hid (yRet_ref (yrs a b basis))
  have HY := Lib.hid (show yrs a b basis = if isD a = true ∧ isD b = true then (if basis = 0 then some (b - a, 365) else if basis = 1 then some (b - a, 360) else if basis = 2 then some (yNum a b, 360) else none) else none from rfl)
  have AL := Lib.hid ((Below.refl w.heap.size w).alloc (Nat.le_refl _) (.cells #[.int .i64 0, .int .i64 0] 29))
  have CA := Lib.hid (fun W => rciv_any a W)
  have CB := Lib.hid (fun W => rciv_any b W)
  by_cases ha : isD a = true
  case neg =>
    have ya : cY a = 0 := by unfold cY; rw [if_neg ha]
    rw [ya] at CA
    have FIN := Lib.hid (HN.out (by rw [HY.out, if_neg (fun h => ha h.1)]))
    clear ha ya
    go_enter Try.func17, Try.ntmps17
    go_wp2_with fail
    refine (CA.out _).mono ?_; rintro e w1 ⟨rfl, b1⟩
    go_wp2_with fail
    refine (CB.out _).mono ?_; rintro e w2 ⟨rfl, b2⟩
    obtain ⟨c1, c2, f1, f2⟩ := (((Mem.Blk.new w 29 #[.int .i64 0, .int .i64 0]).below b1).below b2).two
    have t2 := Lib.hid ((AL.out.trans (b1.mono (by simp))).trans (b2.mono (AL.out.trans (b1.mono (by simp))).size))
    clear b1 b2
    go_wp2
    refine bodyPost_ret (v := .tuple #[.agg #[.int .i64 0, .int .i64 0], .bool false]) (by simp [results, Try.results17, go_sem, c1, c2]) rfl ⟨FIN.out, (t2.out.setCell (by simp) _).setCell (by simp) _⟩
  obtain ⟨a0, a1⟩ := (isD_iff a).1 ha
  obtain ⟨⟨p1, p2, p3, p4, p5, p6⟩, _⟩ := Cal.civil_ok a a0 a1
  have p7 : Cal.D a ≤ 31 := by have := Cal.dim_le (Cal.Y a) (Cal.M a); omega
  have ya : cY a = Cal.Y a := by unfold cY; rw [if_pos ha]
  have ma : cM a = Cal.M a := by unfold cM; rw [if_pos ha]
  have da : cD a = Cal.D a := by unfold cD; rw [if_pos ha]
  rw [ya, ma, da] at CA
  clear ya ma da p6
  by_cases hb : isD b = true
  case neg =>
    have yb : cY b = 0 := by unfold cY; rw [if_neg hb]
    rw [yb] at CB
    have FIN := Lib.hid (HN.out (by rw [HY.out, if_neg (fun h => hb h.2)]))
    clear hb yb HY HS HN
    go_enter Try.func17, Try.ntmps17
    go_wp2_with fail
    refine (CA.out _).mono ?_; rintro e w1 ⟨rfl, b1⟩
    go_wp2_with fail
    refine (CB.out _).mono ?_; rintro e w2 ⟨rfl, b2⟩
    obtain ⟨c1, c2, f1, f2⟩ := (((Mem.Blk.new w 29 #[.int .i64 0, .int .i64 0]).below b1).below b2).two
    have t2 := Lib.hid ((AL.out.trans (b1.mono (by simp))).trans (b2.mono (AL.out.trans (b1.mono (by simp))).size))
    clear b1 b2
    go_wp2
    refine bodyPost_ret (v := .tuple #[.agg #[.int .i64 0, .int .i64 0], .bool false]) (by simp [results, Try.results17, go_sem, c1, c2]) rfl ⟨FIN.out, (t2.out.setCell (by simp) _).setCell (by simp) _⟩
  obtain ⟨b0, b1⟩ := (isD_iff b).1 hb
  obtain ⟨⟨q1, q2, q3, q4, q5, q6⟩, _⟩ := Cal.civil_ok b b0 b1
  have q7 : Cal.D b ≤ 31 := by have := Cal.dim_le (Cal.Y b) (Cal.M b); omega
  have yb : cY b = Cal.Y b := by unfold cY; rw [if_pos hb]
  have mb : cM b = Cal.M b := by unfold cM; rw [if_pos hb]
  have db : cD b = Cal.D b := by unfold cD; rw [if_pos hb]
  rw [yb, mb, db] at CB
  have HNum := Lib.hid (show yNum a b = 360 * (Cal.Y b - Cal.Y a) + 30 * (Cal.M b - Cal.M a) + (if Cal.D b = 31 then 30 else Cal.D b) - (if Cal.D a = 31 then 30 else Cal.D a) by unfold yNum; rw [m31 _ p7, m31 _ q7])
  clear yb mb db q6
  by_cases hlo : basis < 0
  case pos =>
    have FIN := Lib.hid (HN.out (by rw [HY.out, if_pos ⟨ha, hb⟩, if_neg (by omega), if_neg (by omega), if_neg (by omega)]))
    clear HY HS HN
    go_enter Try.func17, Try.ntmps17
    go_wp2_with fail
    refine (CA.out _).mono ?_; rintro e w1 ⟨rfl, b1⟩
    go_wp2_with fail
    refine (CB.out _).mono ?_; rintro e w2 ⟨rfl, b2⟩
    obtain ⟨c1, c2, f1, f2⟩ := (((Mem.Blk.new w 29 #[.int .i64 0, .int .i64 0]).below b1).below b2).two
    have t2 := Lib.hid ((AL.out.trans (b1.mono (by simp))).trans (b2.mono (AL.out.trans (b1.mono (by simp))).size))
    clear b1 b2
    go_wp2
    refine bodyPost_ret (v := .tuple #[.agg #[.int .i64 0, .int .i64 0], .bool false]) (by simp [results, Try.results17, go_sem, c1, c2]) rfl ⟨FIN.out, (t2.out.setCell (by simp) _).setCell (by simp) _⟩
  by_cases hhi : 2 < basis
  case pos =>
    have FIN := Lib.hid (HN.out (by rw [HY.out, if_pos ⟨ha, hb⟩, if_neg (by omega), if_neg (by omega), if_neg (by omega)]))
    clear HY HS HN
    go_enter Try.func17, Try.ntmps17
    go_wp2_with fail
    refine (CA.out _).mono ?_; rintro e w1 ⟨rfl, b1⟩
    go_wp2_with fail
    refine (CB.out _).mono ?_; rintro e w2 ⟨rfl, b2⟩
    obtain ⟨c1, c2, f1, f2⟩ := (((Mem.Blk.new w 29 #[.int .i64 0, .int .i64 0]).below b1).below b2).two
    have t2 := Lib.hid ((AL.out.trans (b1.mono (by simp))).trans (b2.mono (AL.out.trans (b1.mono (by simp))).size))
    clear b1 b2
    go_wp2
    refine bodyPost_ret (v := .tuple #[.agg #[.int .i64 0, .int .i64 0], .bool false]) (by simp [results, Try.results17, go_sem, c1, c2]) rfl ⟨FIN.out, (t2.out.setCell (by simp) _).setCell (by simp) _⟩
  have hsub : -2932896 ≤ b - a ∧ b - a ≤ 2932896 := by omega
  have H0 : Hid (basis = 0 → Hid (∀ r, r = .tuple #[.agg #[.int .i64 (sg (decide (b - a < 0)) ((b - a).natAbs / Nat.gcd (b - a).natAbs 365)), .int .i64 (sg false (365 / Nat.gcd (b - a).natAbs 365))], .bool true] → Ending.returned r = .returned (yRet (yrs a b basis)))) := by
    intro h r hr; subst h; rw [hr]; exact HS.out (b - a) 365 (by rw [HY.out, if_pos ⟨ha, hb⟩, if_pos rfl]) (by omega) (by omega)
  have H1 : Hid (basis = 1 → Hid (∀ r, r = .tuple #[.agg #[.int .i64 (sg (decide (b - a < 0)) ((b - a).natAbs / Nat.gcd (b - a).natAbs 360)), .int .i64 (sg false (360 / Nat.gcd (b - a).natAbs 360))], .bool true] → Ending.returned r = .returned (yRet (yrs a b basis)))) := by
    intro h r hr; subst h; rw [hr]; exact HS.out (b - a) 360 (by rw [HY.out, if_pos ⟨ha, hb⟩, if_neg (by decide), if_pos rfl]) (by omega) (by omega)
  have H2 : Hid (basis = 2 → Hid (∀ n r, n = yNum a b → r = .tuple #[.agg #[.int .i64 (sg (decide (n < 0)) (n.natAbs / Nat.gcd n.natAbs 360)), .int .i64 (sg false (360 / Nat.gcd n.natAbs 360))], .bool true] → Ending.returned r = .returned (yRet (yrs a b basis)))) := by
    intro h n r hn hr; subst h; subst hn; rw [hr]; exact HS.out (yNum a b) 360 (by rw [HY.out, if_pos ⟨ha, hb⟩, if_neg (by decide), if_neg (by decide), if_pos rfl]) (by rw [HNum.out]; split <;> split <;> omega) (by omega)
  clear HS HY HN ha hb
  generalize yNum a b = YN at *
  generalize Cal.Y a = yA at *
  generalize Cal.Y b = yB at *
  generalize Cal.M a = mA at *
  generalize Cal.M b = mB at *
  generalize Cal.D a = dA at *
  generalize Cal.D b = dB at *
  obtain ⟨uA, eA, nA, xA⟩ : ∃ u : Int, (if dA = 31 then 30 else dA) = u ∧ 0 ≤ u ∧ u ≤ 31 := ⟨_, rfl, by split <;> omega, by split <;> omega⟩
  obtain ⟨uB, eB, nB, xB⟩ : ∃ u : Int, (if dB = 31 then 30 else dB) = u ∧ 0 ≤ u ∧ u ≤ 31 := ⟨_, rfl, by split <;> omega, by split <;> omega⟩
  rw [eA, eB] at HNum
  have z1 : (yA == 0) = false := by simp; omega
  have z2 : (yB == 0) = false := by simp; omega
  have EA := Lib.hid eA
  have EB := Lib.hid eB
  clear eA eB
  obtain h0 | h0 | h0 : basis = 0 ∨ basis = 1 ∨ basis = 2 := by omega
  · subst h0
    have FIN := H0.out rfl
    have bd : Hid ((b - a).natAbs ≤ 4611686018427387904) := by show _ ≤ _; omega
    clear H0 H1 H2 HNum hlo hhi
    by_cases e1 : dA = 31
    all_goals
      by_cases e2 : dB = 31
      all_goals
        have f1 : (dA == 31) = decide (dA = 31) := rfl
        have f2 : (dB == 31) = decide (dB = 31) := rfl
        first | rw [decide_eq_true e1] at f1 | rw [decide_eq_false e1] at f1
        first | rw [decide_eq_true e2] at f2 | rw [decide_eq_false e2] at f2
        clear e1 e2
        go_enter Try.func17, Try.ntmps17
        go_wp2_with fail
        refine (CA.out _).mono ?_; rintro e w1 ⟨rfl, b1⟩
        go_wp2_with fail
        refine (CB.out _).mono ?_; rintro e w2 ⟨rfl, b2⟩
        have B2 := Lib.hid (((Mem.Blk.new w 29 #[.int .i64 0, .int .i64 0]).below b1).below b2)
        have t2 := Lib.hid ((AL.out.trans (b1.mono (by simp))).trans (b2.mono (AL.out.trans (b1.mono (by simp))).size))
        clear b1 b2
        go_wp2_with fail
        refine (bigof_any (b - a) _ (by omega) (by omega)).mono ?_
        rintro e w3 ⟨⟨r3, rfl, hr3⟩, b3⟩
        have R3 := Lib.hid hr3
        clear hr3
        go_wp2_with fail
        refine (bigof_any 365 _ (by omega) (by omega)).mono ?_
        rintro e w4 ⟨⟨r4, rfl, hr4⟩, b4⟩
        have R4 := Lib.hid hr4
        clear hr4
        go_wp2_with fail
        refine (ratio_any _ _ (b - a) 365 _ (R3.out.below b4) R4.out bd.out (by decide) (by decide)).mono ?_
        rintro e w5 ⟨rfl, b5⟩
        obtain ⟨c1, c2, f1, f2⟩ := (((B2.out.below b3).below b4).below b5).two
        have t5 := Lib.hid (((t2.out.trans (b3.mono t2.out.size)).trans (b4.mono (t2.out.trans (b3.mono t2.out.size)).size)).trans (b5.mono ((t2.out.trans (b3.mono t2.out.size)).trans (b4.mono (t2.out.trans (b3.mono t2.out.size)).size)).size))
        clear b3 b4 b5
        go_wp2
        refine bodyPost_ret (v := .tuple #[.agg #[.int .i64 (sg (decide (b - a < 0)) ((b - a).natAbs / Nat.gcd (b - a).natAbs 365)), .int .i64 (sg false (365 / Nat.gcd (b - a).natAbs 365))], .bool true]) (by simp [results, Try.results17, go_sem, c1, c2]) rfl ⟨FIN.out _ rfl, (t5.out.setCell (by simp) _).setCell (by simp) _⟩
  · subst h0
    have FIN := H1.out rfl
    have bd : Hid ((b - a).natAbs ≤ 4611686018427387904) := by show _ ≤ _; omega
    clear H0 H1 H2 HNum hlo hhi
    by_cases e1 : dA = 31
    all_goals
      by_cases e2 : dB = 31
      all_goals
        have f1 : (dA == 31) = decide (dA = 31) := rfl
        have f2 : (dB == 31) = decide (dB = 31) := rfl
        first | rw [decide_eq_true e1] at f1 | rw [decide_eq_false e1] at f1
        first | rw [decide_eq_true e2] at f2 | rw [decide_eq_false e2] at f2
        clear e1 e2
        go_enter Try.func17, Try.ntmps17
        go_wp2_with fail
        refine (CA.out _).mono ?_; rintro e w1 ⟨rfl, b1⟩
        go_wp2_with fail
        refine (CB.out _).mono ?_; rintro e w2 ⟨rfl, b2⟩
        have B2 := Lib.hid (((Mem.Blk.new w 29 #[.int .i64 0, .int .i64 0]).below b1).below b2)
        have t2 := Lib.hid ((AL.out.trans (b1.mono (by simp))).trans (b2.mono (AL.out.trans (b1.mono (by simp))).size))
        clear b1 b2
        go_wp2_with fail
        refine (bigof_any (b - a) _ (by omega) (by omega)).mono ?_
        rintro e w3 ⟨⟨r3, rfl, hr3⟩, b3⟩
        have R3 := Lib.hid hr3
        clear hr3
        go_wp2_with fail
        refine (bigof_any 360 _ (by omega) (by omega)).mono ?_
        rintro e w4 ⟨⟨r4, rfl, hr4⟩, b4⟩
        have R4 := Lib.hid hr4
        clear hr4
        go_wp2_with fail
        refine (ratio_any _ _ (b - a) 360 _ (R3.out.below b4) R4.out bd.out (by decide) (by decide)).mono ?_
        rintro e w5 ⟨rfl, b5⟩
        obtain ⟨c1, c2, f1, f2⟩ := (((B2.out.below b3).below b4).below b5).two
        have t5 := Lib.hid (((t2.out.trans (b3.mono t2.out.size)).trans (b4.mono (t2.out.trans (b3.mono t2.out.size)).size)).trans (b5.mono ((t2.out.trans (b3.mono t2.out.size)).trans (b4.mono (t2.out.trans (b3.mono t2.out.size)).size)).size))
        clear b3 b4 b5
        go_wp2
        refine bodyPost_ret (v := .tuple #[.agg #[.int .i64 (sg (decide (b - a < 0)) ((b - a).natAbs / Nat.gcd (b - a).natAbs 360)), .int .i64 (sg false (360 / Nat.gcd (b - a).natAbs 360))], .bool true]) (by simp [results, Try.results17, go_sem, c1, c2]) rfl ⟨FIN.out _ rfl, (t5.out.setCell (by simp) _).setCell (by simp) _⟩
  · subst h0
    have FIN := H2.out rfl
    have bd : Hid (YN.natAbs ≤ 4611686018427387904) := by have := HNum.out; show _ ≤ _; omega
    clear H0 H1 H2 hlo hhi
    by_cases e1 : dA = 31
    all_goals
      by_cases e2 : dB = 31
      all_goals
        have f1 : (dA == 31) = decide (dA = 31) := rfl
        have f2 : (dB == 31) = decide (dB = 31) := rfl
        first | rw [decide_eq_true e1] at f1 | rw [decide_eq_false e1] at f1
        first | rw [decide_eq_true e2] at f2 | rw [decide_eq_false e2] at f2
        have hA : Hid (uA = if dA = 31 then 30 else dA) := EA.out.symm
        have hB : Hid (uB = if dB = 31 then 30 else dB) := EB.out.symm
        have E1 := Lib.hid e1
        have E2 := Lib.hid e2
        clear e1 e2
        go_enter Try.func17, Try.ntmps17
        go_wp2_with fail
        refine (CA.out _).mono ?_; rintro e w1 ⟨rfl, b1⟩
        go_wp2_with fail
        refine (CB.out _).mono ?_; rintro e w2 ⟨rfl, b2⟩
        have B2 := Lib.hid (((Mem.Blk.new w 29 #[.int .i64 0, .int .i64 0]).below b1).below b2)
        have t2 := Lib.hid ((AL.out.trans (b1.mono (by simp))).trans (b2.mono (AL.out.trans (b1.mono (by simp))).size))
        clear b1 b2
        go_wp2_with fail
        refine (bigof_eq _ YN _ (by have h1 := E1.out; have h2 := E2.out; have h3 := EA.out; have h4 := EB.out; have h5 := HNum.out; clear f1 f2; split at h3 <;> split at h4 <;> omega) (by have := HNum.out; omega) (by have := HNum.out; omega)).mono ?_
        rintro e w3 ⟨⟨r3, rfl, hr3⟩, b3⟩
        have R3 := Lib.hid hr3
        clear hr3
        go_wp2_with fail
        refine (bigof_any 360 _ (by omega) (by omega)).mono ?_
        rintro e w4 ⟨⟨r4, rfl, hr4⟩, b4⟩
        have R4 := Lib.hid hr4
        clear hr4
        go_wp2_with fail
        refine (ratio_any _ _ YN 360 _ (R3.out.below b4) R4.out bd.out (by decide) (by decide)).mono ?_
        rintro e w5 ⟨rfl, b5⟩
        obtain ⟨c1, c2, f1, f2⟩ := (((B2.out.below b3).below b4).below b5).two
        have t5 := Lib.hid (((t2.out.trans (b3.mono t2.out.size)).trans (b4.mono (t2.out.trans (b3.mono t2.out.size)).size)).trans (b5.mono ((t2.out.trans (b3.mono t2.out.size)).trans (b4.mono (t2.out.trans (b3.mono t2.out.size)).size)).size))
        clear b3 b4 b5
        go_wp2
        refine bodyPost_ret (v := .tuple #[.agg #[.int .i64 (sg (decide (YN < 0)) (YN.natAbs / Nat.gcd YN.natAbs 360)), .int .i64 (sg false (360 / Nat.gcd YN.natAbs 360))], .bool true]) (by simp [results, Try.results17, go_sem, c1, c2]) rfl ⟨FIN.out YN _ rfl rfl, (t5.out.setCell (by simp) _).setCell (by simp) _⟩
end Go.Proofs.Ytokinadmeooaoaa
