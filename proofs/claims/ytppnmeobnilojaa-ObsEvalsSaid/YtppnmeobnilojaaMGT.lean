/- A part of the proof: Made, RvJ, one behind another. -/
import Derived.Test.YtppnmeobnilojaaMGA
import Derived.Test.YtppnmeobnilojaaMGB
import Derived.Test.YtppnmeobnilojaaMGC
import Derived.Test.YtppnmeobnilojaaMGD
import Derived.Test.YtppnmeobnilojaaMGE
import Derived.Test.YtppnmeobnilojaaMGF
import Derived.Test.YtppnmeobnilojaaMGG
import Derived.Test.YtppnmeobnilojaaMGH
import Derived.Test.YtppnmeobnilojaaMGI
import Derived.Test.YtppnmeobnilojaaMGJ
import Derived.Test.YtppnmeobnilojaaMGK
import Derived.Test.YtppnmeobnilojaaMGL
import Derived.Test.YtppnmeobnilojaaMGM
import Derived.Test.YtppnmeobnilojaaMGN
import Derived.Test.YtppnmeobnilojaaMGO
import Derived.Test.YtppnmeobnilojaaMGQ
import Derived.Test.YtppnmeobnilojaaMGR
import Derived.Test.YtppnmeobnilojaaMGS
/- The contracts of ref01.MulDiv (by one, rounded down) and ref21.Made. -/
namespace Go.Proofs.Ytppnmeobnilojaa
set_option linter.unusedVariables false
set_option linter.unusedSimpArgs false
open Go.RowKit
theorem Md.i64 {z : Int} (h : I64 z) : Md z.natAbs := by
  unfold I64 at h
  refine Md.of (Nat.lt_of_lt_of_le ?_ (Big.pw_mono (show 5 ≤ 900 by decide)))
  show z.natAbs < 65536 ^ 5
  omega
theorem Sm.big {n : Nat} (h : n ≤ 340282366920938463463374607431768211456) : Sm n := by
  refine Sm.of (Nat.lt_of_lt_of_le ?_ (Big.pw_mono (show 9 ≤ 1000000 by decide)))
  show n < 65536 ^ 9
  omega
theorem sm_fit (z : Int) : Ending.returned (.tuple #[.int .i64 (smN z), .bool (smB z)]) = fitR (fitI z) := by
  unfold fitR fitN fitB fitI smN smB
  by_cases h : -9223372036854775808 ≤ z ∧ z ≤ 9223372036854775807
  · rw [if_pos h]; simp [h]
  · rw [if_neg h]; simp [h]
theorem fdiv_bd {a c : Int} (h : I64 a) (hc : c ≠ 0) : (a.fdiv c).natAbs ≤ 9223372036854775809 := by
  rw [fdiv_abs a c hc]
  have h1 : a.natAbs / c.natAbs ≤ a.natAbs := Nat.div_le_self _ _
  unfold I64 at h
  generalize a.natAbs / c.natAbs = q at *
  generalize a.natAbs % c.natAbs = r at *
  have h2 : a.natAbs ≤ 9223372036854775808 := by omega
  repeat' split
  all_goals omega
set_option maxRecDepth 100000 in
set_option maxHeartbeats 2000000 in
theorem rmuldiv_any (a c : Int) (w : World) (ha : I64 a) (hI : I64 c) : Calls Try.prog 91 #[.int .i64 a, .int .i64 1, .int .i64 c, .int .i64 1] w fun e w' => e = fitR (if c = 0 then none else fitI (a.fdiv c)) ∧ Below w.heap.size w w' := by
  by_cases hc : c = 0
  · subst hc
    rw [if_pos rfl]
    have e : fitR none = .returned (.tuple #[.int .i64 0, .bool false]) := rfl
    rw [e]
    clear e ha hI
    go_enter Try.func91, Try.ntmps91
    go_wp2_with fail
    go_ret2
    exact ⟨rfl, Below.refl _ _⟩
  · rw [if_neg hc]
    have HF := Lib.hid (sm_fit (a.fdiv c))
    have HZ := Lib.hid (Sm.big (n := (a.fdiv c).natAbs) (by have := fdiv_bd ha hc; omega))
    have HA := Lib.hid ha
    have HI := Lib.hid hI
    have HC := Lib.hid hc
    have h1 : (c == 0) = false := beq_eq_false_iff_ne.2 hc
    have HAM : Hid (Md (a * 1).natAbs) := by show Md _; rw [Int.mul_one]; exact Md.i64 ha
    have HA1 : Hid ((a * 1).fdiv c = a.fdiv c) := by show _ = _; rw [Int.mul_one]
    unfold I64 at ha hI
    clear hc
    obtain ⟨ha1, ha2⟩ := ha
    obtain ⟨hI1, hI2⟩ := hI
    generalize a.fdiv c = ZZ at *
    go_enter Try.func91, Try.ntmps91
    go_wp2_with fail
    go_at_call 86
    (with_reducible refine (bigof_any a _ ha1 ha2).mono ?_)
    rintro e w1 ⟨⟨r1, rfl, hr1⟩, b1⟩
    have HW1 := Lib.hid b1
    have HR1 := Lib.hid hr1
    clear b1 hr1
    go_wp2_with fail
    go_at_call 86
    (with_reducible refine (bigof_any 1 _ (by decide) (by decide)).mono ?_)
    rintro e w2 ⟨⟨r2, rfl, hr2⟩, b2⟩
    have HW2 := Lib.hid (HW1.out.trans (b2.mono HW1.out.size))
    have HR2 := Lib.hid hr2
    have HR1' := Lib.hid (HR1.out.below b2)
    clear b2 hr2 HR1 HW1
    go_wp2_with fail
    go_at_call 90
    (with_reducible refine (times_any _ _ a 1 _ HR1'.out HR2.out (Md.i64 HA.out) (Md.i64 (by unfold I64; omega))).mono ?_)
    rintro e w3 ⟨⟨r3, rfl, hr3⟩, b3⟩
    have HW3 := Lib.hid (HW2.out.trans (b3.mono HW2.out.size))
    have HR3 := Lib.hid hr3
    clear b3 hr3 HR1' HR2 HW2
    go_wp2_with fail
    go_at_call 86
    (with_reducible refine (bigof_any c _ hI1 hI2).mono ?_)
    rintro e w4 ⟨⟨r4, rfl, hr4⟩, b4⟩
    have HW4 := Lib.hid (HW3.out.trans (b4.mono HW3.out.size))
    have HR4 := Lib.hid hr4
    have HR3' := Lib.hid (HR3.out.below b4)
    clear b4 hr4 HR3 HW3
    go_wp2_with fail
    go_at_call 117
    (with_reducible refine (over1_any _ _ (a * 1) c _ HR3'.out HR4.out HC.out HAM.out (Md.i64 HI.out)).mono ?_)
    rintro e w5 ⟨⟨r5, rfl, hr5⟩, b5⟩
    rw [HA1.out] at hr5
    have HW5 := Lib.hid (HW4.out.trans (b5.mono HW4.out.size))
    have HR5 := Lib.hid hr5
    clear b5 hr5 HR3' HR4 HW4
    go_wp2_with fail
    go_at_call 87
    (with_reducible refine (small_any _ ZZ _ HR5.out HZ.out).mono ?_)
    rintro e w6 ⟨rfl, b6⟩
    have HW6 := Lib.hid (HW5.out.trans (b6.mono HW5.out.size))
    clear b6 HR5 HW5
    generalize smN ZZ = sn at *
    generalize smB ZZ = sb at *
    go_wp2_with fail
    go_ret2
    exact ⟨HF.out, HW6.out⟩
theorem big_form {w : World} {r : Value} {z : Int} (h : BigR w r z) : ∃ n a len cap, r = .agg #[.bool n, .slice a len cap] := by
  obtain ⟨m, rfl, a, len, cap, l, rfl, -, -, -⟩ := h
  exact ⟨_, a, len, cap, rfl⟩
set_option maxRecDepth 100000 in
set_option maxHeartbeats 4000000 in
theorem made_any (op a b : Int) (w : World) (ha : I64 a) (hb : I64 b) : Calls Try.prog 61 #[.int .i64 op, .int .i64 a, .int .i64 b] w fun e w' => e = fitR (madeM op a b) ∧ Below w.heap.size w w' := by
  have HA := Lib.hid ha
  have HB := Lib.hid hb
  have HMD := Lib.hid (show madeM op a b = if op = 5 then fitI (a + b) else if op = 6 then fitI (a - b) else if op = 7 then fitI (a * b) else if op = 8 then (if b = 0 then none else fitI (a.fdiv b)) else if op = 9 ∨ op = 10 then (if (decide (a < b)) = (decide (op = 9)) then some a else some b) else if op = 20 then fitI (-a) else none from rfl)
  have HS5 : Hid (Sm (a + b).natAbs) := Sm.big (by unfold I64 at ha hb; omega)
  have HS6 : Hid (Sm (a + -b).natAbs) := Sm.big (by unfold I64 at ha hb; omega)
  have HS7 : Hid (Sm (a * b).natAbs) := Sm.big (by
    rw [Int.natAbs_mul]
    have h1 : a.natAbs ≤ 9223372036854775808 := by unfold I64 at ha; omega
    have h2 : b.natAbs ≤ 9223372036854775808 := by unfold I64 at hb; omega
    exact Nat.le_trans (Nat.mul_le_mul h1 h2) (by decide))
  have HS20 : Hid (Sm (-a).natAbs) := Sm.big (by unfold I64 at ha; omega)
  have HSA : Hid (Sm a.natAbs) := Sm.big (by unfold I64 at ha; omega)
  have HSB : Hid (Sm b.natAbs) := Sm.big (by unfold I64 at hb; omega)
  have HSB' : Hid (Sm (-b).natAbs) := Sm.big (by unfold I64 at hb; omega)
  unfold I64 at ha hb
  obtain ⟨ha1, ha2⟩ := ha
  obtain ⟨hb1, hb2⟩ := hb
  generalize madeM op a b = R at *
  go_enter Try.func61, Try.ntmps61
  go_wp2_with fail
  go_at_call 86
  (with_reducible refine (bigof_any a _ ha1 ha2).mono ?_)
  rintro e w1 ⟨⟨r1, rfl, hr1⟩, b1⟩
  obtain ⟨n1, p1, l1, c1, rfl⟩ := big_form hr1
  have HW1 := Lib.hid b1
  have HR1 := Lib.hid hr1
  clear b1 hr1
  go_wp2_with fail
  go_at_call 86
  (with_reducible refine (bigof_any b _ hb1 hb2).mono ?_)
  rintro e w2 ⟨⟨r2, rfl, hr2⟩, b2⟩
  obtain ⟨n2, p2, l2, c2, rfl⟩ := big_form hr2
  have hal := ((Below.refl w2.heap.size w2).alloc (Nat.le_refl _) (.cells #[.bool n1, .slice p1 l1 c1] 125)).alloc (by simp) (.cells #[.bool n2, .slice p2 l2 c2] 125)
  have HV := Lib.hid (HW1.out.trans ((b2.trans (hal.mono b2.size)).mono HW1.out.size))
  have HRA := Lib.hid ((HR1.out.below b2).below hal)
  have HRB := Lib.hid (hr2.below hal)
  have HS := Lib.hid (((Sep.nil w2).new 125 #[.bool n1, .slice p1 l1 c1]).new 125 #[.bool n2, .slice p2 l2 c2])
  rw [show (w2.alloc (.cells #[.bool n1, .slice p1 l1 c1] 125)).heap.size = w2.heap.size + 1 by simp] at HS
  clear hal b2 hr2 HR1 HW1
  go_upto_region 2 with (fail)
  generalize (w2.alloc (.cells #[.bool n1, .slice p1 l1 c1] 125)).alloc (.cells #[.bool n2, .slice p2 l2 c2] 125) = v at *
  generalize w2.heap.size = h at *
  obtain ⟨a0, a1, -, -⟩ := (HS.out.blk 1 rfl).two
  obtain ⟨b0, b1, -, -⟩ := (HS.out.blk 0 rfl).two
  by_cases h5 : op = 5
  · obtain rfl : R = fitI (a + b) := by rw [HMD.out, if_pos h5]
    subst h5
    have HFT := Lib.hid (sm_fit (a + b))
    clear HMD
    go_wp2_with fail
    go_at_call 88
    (with_reducible refine (plus_any _ _ a b _ HRA.out HRB.out HSA.out HSB.out).mono ?_)
    rintro e w3 ⟨⟨r3, rfl, hr3⟩, b3⟩
    have HW3 := Lib.hid (HV.out.trans (b3.mono HV.out.size))
    have HR3 := Lib.hid hr3
    clear b3 hr3 HRA HRB HV HS a0 a1 b0 b1
    go_wp2_with fail
    go_at_call 87
    (with_reducible refine (small_any _ (a + b) _ HR3.out HS5.out).mono ?_)
    rintro e w4 ⟨rfl, b4⟩
    have HW4 := Lib.hid (HW3.out.trans (b4.mono HW3.out.size))
    clear b4 HR3 HW3
    generalize smN (a + b) = sn at *
    generalize smB (a + b) = sb at *
    go_wp2_with fail
    go_ret2
    exact ⟨HFT.out, HW4.out⟩
  have n5 : (op == 5) = false := beq_eq_false_iff_ne.2 h5
  rw [if_neg h5] at HMD
  clear h5
  by_cases h6 : op = 6
  · obtain rfl : R = fitI (a + -b) := by rw [HMD.out, if_pos h6]; rfl
    subst h6
    have HFT := Lib.hid (sm_fit (a + -b))
    clear HMD n5
    go_wp2_with fail
    refine wp_region_till (S := fun W => (W.cell? ⟨h, 0, none⟩ = some (.bool n1) ∧ W.cell? ⟨h, 1, none⟩ = some (.slice p1 l1 c1)) ∧ W.cell? ⟨h + 1, 0, none⟩ = some (.bool n2) ∧ W.cell? ⟨h + 1, 1, none⟩ = some (.slice p2 l2 c2)) 3 (by kernel_rfl) ?_
    refine till_take (i := 0) (v := ?_) rfl (by kernel_rfl) (fun _ _ _ h => h) (Or.inl ⟨by rfl, ?_⟩) ⟨⟨a0,a1⟩,b0,b1⟩ ?_
    rotate_left
    · intro W hS
      try dsimp only at hS
      go_split_ands
      go_simp
      try with_reducible rfl
    try simp only [Act.put, List.getElem_toArray, List.getElem_cons_zero, List.getElem_cons_succ, List.setIfInBounds_toArray, List.set_cons_zero, List.set_cons_succ]
    refine till_take (i := 1) (v := ?_) rfl (by kernel_rfl) (fun _ _ _ h => h) (Or.inl ⟨by rfl, ?_⟩) ⟨⟨a0,a1⟩,b0,b1⟩ ?_
    rotate_left
    · intro W hS
      try dsimp only at hS
      go_split_ands
      go_simp
      try with_reducible rfl
    try simp only [Act.put, List.getElem_toArray, List.getElem_cons_zero, List.getElem_cons_succ, List.setIfInBounds_toArray, List.set_cons_zero, List.set_cons_succ]
    refine till_one (i := 2) (by kernel_rfl) rfl (fun K' hK => ?_)
    go_simp
    go_at_call 89
    (with_reducible refine (minus_any _ b _ (HRB.out.below (Below.refl _ _).drew)).mono ?_)
    rintro e w3 ⟨⟨r3, rfl, hr3⟩, b3⟩
    have HU3 : Hid (Below v.heap.size v w3) := (Below.refl _ _).drew.trans b3
    have HR3 := Lib.hid hr3
    clear b3 hr3 a0 a1 b0 b1
    obtain ⟨a0, a1, -, -⟩ := ((HS.out.blk 1 rfl).below HU3.out).two
    obtain ⟨b0, b1, -, -⟩ := ((HS.out.blk 0 rfl).below HU3.out).two
    refine hK _ _ ⟨⟨a0,a1⟩,b0,b1⟩ ?_
    clear hK K'
    try simp only [Act.put, List.getElem_toArray, List.getElem_cons_zero, List.getElem_cons_succ, List.setIfInBounds_toArray, List.set_cons_zero, List.set_cons_succ]
    refine till_last (by kernel_rfl) rfl (by kernel_rfl) (fun K' hK => ?_)
    go_simp
    go_at_call 88
    (with_reducible refine (plus_any _ _ a (-b) _ (HRA.out.below HU3.out) HR3.out HSA.out HSB'.out).mono ?_)
    rintro e w4 ⟨⟨r4, rfl, hr4⟩, b4⟩
    have HW4 := Lib.hid (HV.out.trans ((HU3.out.trans (b4.mono HU3.out.size)).mono HV.out.size))
    have HR4 := Lib.hid hr4
    clear b4 hr4 HRA HRB HV HS HR3 HU3 a0 a1 b0 b1
    refine hK _ _ ?_
    clear hK K'
    try simp only [Act.put, List.getElem_toArray, List.getElem_cons_zero, List.getElem_cons_succ, List.setIfInBounds_toArray, List.set_cons_zero, List.set_cons_succ]
    refine any_one (i := 4) (by kernel_rfl) rfl (fun K' hK => ?_)
    go_simp
    go_at_call 87
    (with_reducible refine (small_any _ (a + -b) _ HR4.out HS6.out).mono ?_)
    rintro e w5 ⟨rfl, b5⟩
    have HW5 := Lib.hid (HW4.out.trans (b5.mono HW4.out.size))
    clear b5 HR4 HW4
    generalize smN (a + -b) = sn at *
    generalize smB (a + -b) = sb at *
    refine hK _ _ ?_
    clear hK K'
    try simp only [Act.put, List.getElem_toArray, List.getElem_cons_zero, List.getElem_cons_succ, List.setIfInBounds_toArray, List.set_cons_zero, List.set_cons_succ]
    refine any_take (i := 5) (v := ?_) rfl (by kernel_rfl) (fun _ _ _ h => h) (Or.inl ⟨by rfl, ?_⟩) ?_
    rotate_left
    · intro W
      go_simp
      try with_reducible rfl
    try simp only [Act.put, List.getElem_toArray, List.getElem_cons_zero, List.getElem_cons_succ, List.setIfInBounds_toArray, List.set_cons_zero, List.set_cons_succ]
    refine any_take (i := 6) (v := ?_) rfl (by kernel_rfl) (fun _ _ _ h => h) (Or.inl ⟨by rfl, ?_⟩) ?_
    rotate_left
    · intro W
      go_simp
      try with_reducible rfl
    try simp only [Act.put, List.getElem_toArray, List.getElem_cons_zero, List.getElem_cons_succ, List.setIfInBounds_toArray, List.set_cons_zero, List.set_cons_succ]
    refine any_take (i := 7) (v := ?_) rfl (by kernel_rfl) (fun _ _ _ h => h) (Or.inl ⟨by rfl, ?_⟩) ?_
    rotate_left
    · intro W
      go_simp
      try with_reducible rfl
    try simp only [Act.put, List.getElem_toArray, List.getElem_cons_zero, List.getElem_cons_succ, List.setIfInBounds_toArray, List.set_cons_zero, List.set_cons_succ]
    refine any_take (i := 8) (v := ?_) rfl (by kernel_rfl) (fun _ _ _ h => h) (Or.inl ⟨by rfl, ?_⟩) ?_
    rotate_left
    · intro W
      go_simp
      try with_reducible rfl
    try simp only [Act.put, List.getElem_toArray, List.getElem_cons_zero, List.getElem_cons_succ, List.setIfInBounds_toArray, List.set_cons_zero, List.set_cons_succ]
    refine wpAny_done (by kernel_rfl) ?_ _
    go_wp2_with fail
    go_ret2
    exact ⟨HFT.out, HW5.out⟩
  have n6 : (op == 6) = false := beq_eq_false_iff_ne.2 h6
  rw [if_neg h6] at HMD
  clear h6
  by_cases h7 : op = 7
  · obtain rfl : R = fitI (a * b) := by rw [HMD.out, if_pos h7]
    subst h7
    have HFT := Lib.hid (sm_fit (a * b))
    clear HMD n5 n6
    go_wp2_with fail
    go_at_call 90
    (with_reducible refine (times_any _ _ a b _ HRA.out HRB.out (Md.i64 HA.out) (Md.i64 HB.out)).mono ?_)
    rintro e w3 ⟨⟨r3, rfl, hr3⟩, b3⟩
    have HW3 := Lib.hid (HV.out.trans (b3.mono HV.out.size))
    have HR3 := Lib.hid hr3
    clear b3 hr3 HRA HRB HV HS a0 a1 b0 b1
    go_wp2_with fail
    go_at_call 87
    (with_reducible refine (small_any _ (a * b) _ HR3.out HS7.out).mono ?_)
    rintro e w4 ⟨rfl, b4⟩
    have HW4 := Lib.hid (HW3.out.trans (b4.mono HW3.out.size))
    clear b4 HR3 HW3
    generalize smN (a * b) = sn at *
    generalize smB (a * b) = sb at *
    go_wp2_with fail
    go_ret2
    exact ⟨HFT.out, HW4.out⟩
  have n7 : (op == 7) = false := beq_eq_false_iff_ne.2 h7
  rw [if_neg h7] at HMD
  clear h7
  by_cases h8 : op = 8
  · have hR : R = (if b = 0 then none else fitI (a.fdiv b)) := by rw [HMD.out, if_pos h8]
    subst h8
    have hC := rmuldiv_any a b v HA.out HB.out
    rw [← hR] at hC
    have HC := Lib.hid hC
    clear HMD n5 n6 n7 a0 a1 b0 b1 hR hC
    go_wp2_with fail
    go_at_call 91
    (with_reducible refine HC.out.mono ?_)
    rintro e w3 ⟨rfl, b3⟩
    have HW3 := Lib.hid (HV.out.trans (b3.mono HV.out.size))
    clear b3 HC HRA HRB HS HV
    unfold fitR
    go_wp2_with fail
    go_ret2
    exact ⟨rfl, HW3.out⟩
  have n8 : (op == 8) = false := beq_eq_false_iff_ne.2 h8
  rw [if_neg h8] at HMD
  clear h8
  by_cases h9 : op = 9
  · subst h9
    by_cases hab : a < b
    · obtain rfl : R = some a := by rw [HMD.out]; simp [hab]
      clear HMD n5 n6 n7 n8 a0 a1 b0 b1
      go_wp2_with fail
      go_ret2
      exact ⟨rfl, HV.out⟩
    · obtain rfl : R = some b := by rw [HMD.out]; simp [hab]
      clear HMD n5 n6 n7 n8 a0 a1 b0 b1
      go_wp2_with fail
      go_ret2
      exact ⟨rfl, HV.out⟩
  have n9 : (op == 9) = false := beq_eq_false_iff_ne.2 h9
  by_cases h10 : op = 10
  · subst h10
    by_cases hab : a < b
    · obtain rfl : R = some b := by rw [HMD.out]; simp [hab]
      clear HMD n5 n6 n7 n8 n9 a0 a1 b0 b1
      go_wp2_with fail
      go_ret2
      exact ⟨rfl, HV.out⟩
    · obtain rfl : R = some a := by rw [HMD.out]; simp [hab]
      clear HMD n5 n6 n7 n8 n9 a0 a1 b0 b1
      go_wp2_with fail
      go_ret2
      exact ⟨rfl, HV.out⟩
  have n10 : (op == 10) = false := beq_eq_false_iff_ne.2 h10
  rw [if_neg (by omega)] at HMD
  clear h9 h10
  by_cases h20 : op = 20
  · obtain rfl : R = fitI (-a) := by rw [HMD.out, if_pos h20]
    subst h20
    have HFT := Lib.hid (sm_fit (-a))
    clear HMD n5 n6 n7 n8 n9 n10
    go_wp2_with fail
    go_at_call 89
    (with_reducible refine (minus_any _ a _ HRA.out).mono ?_)
    rintro e w3 ⟨⟨r3, rfl, hr3⟩, b3⟩
    have HW3 := Lib.hid (HV.out.trans (b3.mono HV.out.size))
    have HR3 := Lib.hid hr3
    clear b3 hr3 HRA HRB HV HS a0 a1 b0 b1
    go_wp2_with fail
    go_at_call 87
    (with_reducible refine (small_any _ (-a) _ HR3.out HS20.out).mono ?_)
    rintro e w4 ⟨rfl, b4⟩
    have HW4 := Lib.hid (HW3.out.trans (b4.mono HW3.out.size))
    clear b4 HR3 HW3
    generalize smN (-a) = sn at *
    generalize smB (-a) = sb at *
    go_wp2_with fail
    go_ret2
    exact ⟨HFT.out, HW4.out⟩
  have n20 : (op == 20) = false := beq_eq_false_iff_ne.2 h20
  obtain rfl : R = none := by rw [HMD.out, if_neg h20]
  clear HMD h20 a0 a1 b0 b1
  go_wp2_with fail
  go_ret2
  exact ⟨rfl, HV.out⟩
end Go.Proofs.Ytppnmeobnilojaa

/- The document's evaluation: what its loop keeps. -/
namespace Go.Proofs.Ytppnmeobnilojaa
set_option linter.unusedVariables false
set_option linter.unusedSimpArgs false
open Go.RowKit
theorem infoW : (Try.prog.info? 69).map (fun i => (i.zero, i.size, i.bytes)) = some (some (.agg #[.string ⟨#[]⟩, .int .i64 0]), 2, 24) := by kernel_rfl
def vlK : Elt Vl where
  sz := 2
  pos := by decide
  R := fun _ _ v cs => cs = [.string (wd v), .int .i64 v.N]
  kept := fun h _ => h
  less := fun h _ => h
  one := fun h => by subst h; exact ⟨rfl, by simp [Value.oneCell']⟩
def famR (h : Nat) (day : Int) (a : Option Addr) (len cap : Nat) (op n : Int) (nm : ByteArray) (a' : Option Addr) (len' cap' : Nat) (vs : List Vl) (vL : Value) : List Ob :=
  [gr vlK 69 h vs vL, bx (h + 1 + 1) 69 #[.string ⟨#[]⟩, .int .i64 0], bx (h + 1) 58 #[.int .i64 day, .slice a len cap], bx h 46 #[.int .i64 op, .int .i64 n, .string nm, .slice a' len' cap']]
structure RvJ (w W : World) (day : Int) (a : Option Addr) (len cap : Nat) (op n : Int) (nm : ByteArray) (a' : Option Addr) (len' cap' : Nat) (vs : List Vl) (vL : Value) : Prop where
  below : Below w.heap.size w W
  sep : Sep W (famR w.heap.size day a len cap op n nm a' len' cap' vs vL)
/-- With a block of a value more. -/
structure RvK (w W : World) (day : Int) (a : Option Addr) (len cap : Nat) (op n : Int) (nm : ByteArray) (a' : Option Addr) (len' cap' : Nat) (vs : List Vl) (vL : Value) (z : Nat) (c0 c1 : Value) : Prop where
  below : Below w.heap.size w W
  hi : w.heap.size ≤ z
  sep : Sep W (bx z 69 #[c0, c1] :: famR w.heap.size day a len cap op n nm a' len' cap' vs vL)
section
variable {w W W' : World} {day : Int} {a : Option Addr} {len cap : Nat} {op n : Int} {nm : ByteArray} {a' : Option Addr} {len' cap' : Nat} {vs : List Vl} {vL : Value} {z : Nat} {c0 c1 : Value}
theorem RvJ.st (h : RvJ w W day a len cap op n nm a' len' cap' vs vL) : RvSt w W day a len cap op n nm a' len' cap' := ⟨h.below, h.sep.blk 3 rfl, h.sep.blk 2 rfl, h.sep.blk 1 rfl⟩
theorem RvK.st (h : RvK w W day a len cap op n nm a' len' cap' vs vL z c0 c1) : RvSt w W day a len cap op n nm a' len' cap' := ⟨h.below, h.sep.blk 4 rfl, h.sep.blk 3 rfl, h.sep.blk 2 rfl⟩
theorem RvJ.up (h : RvJ w W day a len cap op n nm a' len' cap' vs vL) (hb : Below W.heap.size W W') : RvJ w W' day a len cap op n nm a' len' cap' vs vL := ⟨h.below.trans (hb.mono h.below.size), h.sep.below hb⟩
theorem RvK.up (h : RvK w W day a len cap op n nm a' len' cap' vs vL z c0 c1) (hb : Below W.heap.size W W') : RvK w W' day a len cap op n nm a' len' cap' vs vL z c0 c1 := ⟨h.below.trans (hb.mono h.below.size), h.hi, h.sep.below hb⟩
theorem RvJ.new (h : RvJ w W day a len cap op n nm a' len' cap' vs vL) (c0 c1 : Value) : RvK w (W.alloc (.cells #[c0, c1] 69)) day a len cap op n nm a' len' cap' vs vL W.heap.size c0 c1 :=
  ⟨h.below.alloc h.below.size _, h.below.size, h.sep.new 69 #[c0, c1]⟩
theorem RvK.set2 (h : RvK w W day a len cap op n nm a' len' cap' vs vL z c0 c1) (d0 d1 : Value) : RvK w ((W.setCell ⟨z, 0, none⟩ d0).setCell ⟨z, 1, none⟩ d1) day a len cap op n nm a' len' cap' vs vL z d0 d1 :=
  ⟨(h.below.setCell h.hi _).setCell h.hi _, h.hi, (h.sep.store 0 rfl 0 d0).store 0 rfl 1 d1⟩
/-- One value more. -/
theorem RvK.push {W1 : World} {csl : List (List Value)} {v' : Value} {x : Vl} (h : RvK w W day a len cap op n nm a' len' cap' vs vL z c0 c1)
    (hG : Grow vlK 69 w.heap.size W (others (bx z 69 #[c0, c1] :: famR w.heap.size day a len cap op n nm a' len' cap' vs vL) 1) vs vL csl)
    (ho : W1.ownsRow w.heap.size 69 2 v' (vs.length + 1) (csl.flatten ++ [.string (wd x), .int .i64 x.N])) (hg : W.grownBy W1 vL.ownBlock) (hv : v'.ownBlock = vL.ownBlock ∨ v'.ownBlock = some W.heap.size) :
    RvJ w W1 day a len cap op n nm a' len' cap' (vs ++ [x]) v' := by
  have h1 := h.sep.push 1 rfl hG (x := x) (c := [.string (wd x), .int .i64 x.N]) rfl ho hg hv
  exact ⟨h.below.grown hg h.below.size (fun b hb => (hG.blt hb).1), h1.drop 0⟩
end
theorem RvJ.start (w : World) (day : Int) (a : Option Addr) (len cap : Nat) (op n : Int) (nm : ByteArray) (a' : Option Addr) (len' cap' : Nat) :
    RvJ w (((w.alloc (.cells #[.int .i64 op, .int .i64 n, .string nm, .slice a' len' cap'] 46)).alloc (.cells #[.int .i64 day, .slice a len cap] 58)).alloc (.cells #[.string ⟨#[]⟩, .int .i64 0] 69)) day a len cap op n nm a' len' cap' [] (.slice none 0 0) := by
  have h1 := (((Sep.nil w).new 46 #[.int .i64 op, .int .i64 n, .string nm, .slice a' len' cap']).new 58 #[.int .i64 day, .slice a len cap]).new 69 #[.string ⟨#[]⟩, .int .i64 0]
  have e1 : (w.alloc (.cells #[.int .i64 op, .int .i64 n, .string nm, .slice a' len' cap'] 46)).heap.size = w.heap.size + 1 := by simp
  have e2 : ((w.alloc (.cells #[.int .i64 op, .int .i64 n, .string nm, .slice a' len' cap'] 46)).alloc (.cells #[.int .i64 day, .slice a len cap] 58)).heap.size = w.heap.size + 1 + 1 := by simp
  rw [e1, e2] at h1
  exact ⟨(((Below.refl _ w).alloc (Nat.le_refl _) _).alloc (by simp) _).alloc (by simp; omega) _, h1.addGr vlK 69 (by simp; omega)⟩
/-- A value of those that were met: where it lies. -/
theorem RvJ.val {w W : World} {day : Int} {a : Option Addr} {len cap : Nat} {op n : Int} {nm : ByteArray} {a' : Option Addr} {len' cap' : Nat} {vs : List Vl} {vL : Value} (h : RvJ w W day a len cap op n nm a' len' cap' vs vL) :
    ∃ p cL, vL = .slice p vs.length cL ∧ (0 < vs.length → ∃ g, p = some ⟨g, 0, none⟩ ∧ ∀ k x, vs[k]? = some x → W.cell? ⟨g, k * 2, none⟩ = some (.string (wd x)) ∧ W.cell? ⟨g, k * 2 + 1, none⟩ = some (.int .i64 x.N)) := by
  obtain ⟨p, cL, hv⟩ := h.sep.form 0 rfl
  refine ⟨p, cL, hv, fun hp => ?_⟩
  obtain ⟨g, cL', -, -, hv', -⟩ := h.sep.elt 0 rfl 0 hp
  rw [hv] at hv'
  injection hv' with e1 e2 e3
  subst e1
  refine ⟨g, rfl, fun k x hx => ?_⟩
  obtain ⟨g2, c2, x2, cs2, hv2, -, hx2, hR, -, hc⟩ := h.sep.elt 0 rfl k (List.getElem?_eq_some_iff.1 hx).1
  rw [hv] at hv2
  injection hv2 with e1 _ _
  injection e1 with e1
  injection e1 with e1
  subst e1
  rw [hx] at hx2
  injection hx2 with hx2
  subst hx2
  have hR' : cs2 = [.string (wd x), .int .i64 x.N] := hR
  subst hR'
  exact ⟨hc 0 _ (by decide) rfl, hc 1 _ (by decide) rfl⟩
end Go.Proofs.Ytppnmeobnilojaa
