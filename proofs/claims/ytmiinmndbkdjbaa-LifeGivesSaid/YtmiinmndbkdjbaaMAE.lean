/- A part of the proof: NumC, Right, Reg, Kind, Erl, one behind another. -/
import Derived.Test.YtmiinmndbkdjbaaMAA
import Derived.Test.YtmiinmndbkdjbaaMAB
import Derived.Test.YtmiinmndbkdjbaaMAC
import Derived.Test.YtmiinmndbkdjbaaMAD
import Derived.Deep.DeepCutAuto
import Derived.Deep.RegionHeld3
/- The contracts of num.over and MulDiv; condition: a number over a number, rounded down. -/
namespace Go.Proofs.Ytmiinmndbkdjbaa
set_option linter.unusedVariables false
set_option linter.unusedSimpArgs false
open Go.RowKit
theorem ov_cases (a c : Int) (hc : c ≠ 0) : ∃ q r : Nat, q = a.natAbs / c.natAbs ∧ r = a.natAbs % c.natAbs ∧ r < c.natAbs ∧ q ≤ a.natAbs ∧ (0 < r → q + 1 ≤ a.natAbs + 0 ∨ q = 0) ∧
    a.fdiv c = sgI (sgB a c) (if (sgB a c && decide (0 < r)) = true then q + 1 else q) := by
  refine ⟨_, _, rfl, rfl, Nat.mod_lt _ (by omega), Nat.div_le_self _ _, ?_, ?_⟩
  · intro h
    by_cases h1 : c.natAbs = 1
    · rw [h1, Nat.mod_one] at h; omega
    · by_cases h0 : a.natAbs = 0
      · right; rw [h0]; exact Nat.zero_div _
      · left
        have := Nat.div_lt_self (n := a.natAbs) (k := c.natAbs) (by omega) (by omega)
        omega
  · rw [fdiv_abs a c hc]
    unfold sgI sgB
    generalize decide (a < 0) = x
    generalize decide (c < 0) = y
    by_cases hr : 0 < a.natAbs % c.natAbs
    · cases x <;> cases y <;> simp [hr] <;> omega
    · cases x <;> cases y <;> simp [hr]
set_option maxRecDepth 100000 in
set_option maxHeartbeats 1000000 in
theorem over_any (a c : Int) (w : World) (ha : I64 a) (hI : I64 c) (hc : c ≠ 0) :
    Calls Try.prog 89 #[.agg (wideV a.natAbs (decide (a < 0))), .int .i64 c, .int .i64 1] w fun e w' => e = fitR (fitI (a.fdiv c)) ∧ Below w.heap.size w w' := by
  obtain ⟨q, r, hq, hr, hrc, hqa, hq1, hf⟩ := ov_cases a c hc
  have hA : a.natAbs < 18446744073709551616 := by unfold I64 at ha; omega
  have hC : c.natAbs < 18446744073709551616 := by unfold I64 at hI; omega
  have HS := Lib.hid (fun W => numSize_any c W hI)
  have HD := Lib.hid (fun W => div64_any a.natAbs c.natAbs hA (by omega) hC W)
  rw [← hq, ← hr] at HD
  have HW := Lib.hid (fun odd W => away_any odd (sgB a c) r c.natAbs hrc hC W)
  have hQ : q + 1 < 18446744073709551616 := by unfold I64 at ha; omega
  obtain ⟨Q1, hQ1⟩ : ∃ Q1, q + 1 = Q1 := ⟨_, rfl⟩
  rw [hQ1] at hf
  have HL := Lib.hid (show q ≤ Q1 by omega)
  have hne : ((Q1 : Int) == 0) = false := beq_eq_false_iff_ne.2 (by omega)
  have HY := Lib.hid (fun m (hm : m ≤ Q1) s W => narrow_yes m s W (by omega))
  have HN := Lib.hid (fun m (hm : m ≤ Q1) s W => narrow_no m s W (by omega))
  have hg : ¬ (c.natAbs : Int) ≤ 0 := by omega
  have hwide : wideV a.natAbs (decide (a < 0)) = #[.int .u64 0, .int .u64 (a.natAbs : Int), .bool (decide (a < 0))] := by
    unfold wideV
    rw [show a.natAbs / 18446744073709551616 = 0 by omega, show a.natAbs % 18446744073709551616 = a.natAbs by omega]; rfl
  rw [hwide]
  have HX : Hid (∀ m, m ≤ Q1 → ∀ s, wideV m s = #[.int .u64 0, .int .u64 (m : Int), .bool s]) := by
    intro m hm s
    unfold wideV
    rw [show m / 18446744073709551616 = 0 by omega, show m % 18446744073709551616 = m by omega]; rfl
  have HSG : Hid (sgB a c = (decide (a < 0) != decide (c < 0))) := rfl
  have B := Mem.Blk.new w 111 #[.int .u64 0, .int .u64 (a.natAbs : Int), .bool (decide (a < 0))]
  have c0 := B.cell 0
  have c1 := B.cell 1
  have c2 := B.cell 2
  simp only [List.getElem?_toArray, List.getElem?_cons_zero, List.getElem?_cons_succ] at c0 c1 c2
  have HB0 := Lib.hid ((Below.refl w.heap.size w).alloc (Nat.le_refl _) (.cells #[.int .u64 0, .int .u64 (a.natAbs : Int), .bool (decide (a < 0))] 111))
  generalize a.fdiv c = z at *
  have hw : Hid (IntKind.u64.wrap ((q : Int) + 1) = (Q1 : Int)) := by show _ = _; rw [IntKind.wrap_u64]; omega
  generalize sgB a c = sg at *
  clear hwide hQ hQ1 hq hr hqa hq1 ha hI hA hC B hrc
  generalize (a.natAbs : Int) = A at *
  generalize (c.natAbs : Int) = C at *
  generalize hsa : decide (a < 0) = sa at *
  by_cases hcn : c < 0
  · have HCN := Lib.hid (decide_eq_true hcn)
    rw [decide_eq_true hcn] at HSG
    cases sa
    · obtain rfl : sg = true := HSG.out
      clear HSG
      by_cases hr0 : 0 < r
      · have e0 : (true && decide (0 < r)) = true := by rw [decide_eq_true hr0]; rfl
        rw [e0] at HW
        rw [e0, if_pos rfl] at hf
        clear e0
        by_cases h : -9223372036854775808 ≤ z ∧ z ≤ 9223372036854775807
        · have HY := Lib.hid (fun W => HY.out Q1 (Nat.le_refl _) true W (by rw [← hf]; exact h.1) (by rw [← hf]; exact h.2))
          rw [fitR_yes rfl h.1 h.2]
          rw [HX.out Q1 (Nat.le_refl _), ← hf] at HY
          clear HX HN hf h
          go_enter Try.func89, Try.ntmps89
          go_upto_region 1 with (fail)
          generalize w.alloc (.cells _ 111) = v at *
          go_wp2_with fail
          go_at_call 76
          (with_reducible refine (HS.out _).mono ?_)
          rintro y w1 ⟨rfl, rfl⟩
          go_wp2_with fail
          go_at_call 90
          (with_reducible refine (HD.out _).mono ?_)
          rintro y w1 ⟨rfl, b1⟩
          have c2' := cell_up c2 b1
          have HB1 := Lib.hid (HB0.out.trans (b1.mono HB0.out.size))
          clear HB0 b1
          go_wp2_with fail
          try rw [HCN.out]
          try simp only [Bool.not_true, Bool.not_false]
          go_at_call 91
          (with_reducible refine (HW.out _ _).mono ?_)
          rintro y w2 ⟨rfl, rfl⟩
          clear c0 c1 c2 c2'
          have hw2 := hw.out
          go_wp2_with fail
          go_at_call 62
          (with_reducible refine (HY.out _).mono ?_)
          rintro y w3 ⟨rfl, b3⟩
          go_wp2_with fail
          go_ret2
          exact ⟨rfl, HB1.out.trans (b3.mono HB1.out.size)⟩
        · have HN := Lib.hid (fun W => HN.out Q1 (Nat.le_refl _) true W (by rw [← hf]; exact h))
          rw [fitR_no h]
          rw [HX.out Q1 (Nat.le_refl _)] at HN
          clear HX HY hf h
          go_enter Try.func89, Try.ntmps89
          go_upto_region 1 with (fail)
          generalize w.alloc (.cells _ 111) = v at *
          go_wp2_with fail
          go_at_call 76
          (with_reducible refine (HS.out _).mono ?_)
          rintro y w1 ⟨rfl, rfl⟩
          go_wp2_with fail
          go_at_call 90
          (with_reducible refine (HD.out _).mono ?_)
          rintro y w1 ⟨rfl, b1⟩
          have c2' := cell_up c2 b1
          have HB1 := Lib.hid (HB0.out.trans (b1.mono HB0.out.size))
          clear HB0 b1
          go_wp2_with fail
          try rw [HCN.out]
          try simp only [Bool.not_true, Bool.not_false]
          go_at_call 91
          (with_reducible refine (HW.out _ _).mono ?_)
          rintro y w2 ⟨rfl, rfl⟩
          clear c0 c1 c2 c2'
          have hw2 := hw.out
          go_wp2_with fail
          go_at_call 62
          (with_reducible refine (HN.out _).mono ?_)
          rintro y w3 ⟨⟨v3, rfl⟩, b3⟩
          go_wp2_with fail
          go_ret2
          exact ⟨rfl, HB1.out.trans (b3.mono HB1.out.size)⟩
      · have e0 : (true && decide (0 < r)) = false := by rw [decide_eq_false hr0]; rfl
        rw [e0] at HW
        rw [e0, if_neg (by decide)] at hf
        clear e0
        by_cases h : -9223372036854775808 ≤ z ∧ z ≤ 9223372036854775807
        · have HY := Lib.hid (fun W => HY.out q HL.out true W (by rw [← hf]; exact h.1) (by rw [← hf]; exact h.2))
          rw [fitR_yes rfl h.1 h.2]
          rw [HX.out q HL.out, ← hf] at HY
          clear HX HN hf h
          go_enter Try.func89, Try.ntmps89
          go_upto_region 1 with (fail)
          generalize w.alloc (.cells _ 111) = v at *
          go_wp2_with fail
          go_at_call 76
          (with_reducible refine (HS.out _).mono ?_)
          rintro y w1 ⟨rfl, rfl⟩
          go_wp2_with fail
          go_at_call 90
          (with_reducible refine (HD.out _).mono ?_)
          rintro y w1 ⟨rfl, b1⟩
          have c2' := cell_up c2 b1
          have HB1 := Lib.hid (HB0.out.trans (b1.mono HB0.out.size))
          clear HB0 b1
          go_wp2_with fail
          try rw [HCN.out]
          try simp only [Bool.not_true, Bool.not_false]
          go_at_call 91
          (with_reducible refine (HW.out _ _).mono ?_)
          rintro y w2 ⟨rfl, rfl⟩
          clear c0 c1 c2 c2'
          go_wp2_with fail
          go_at_call 62
          (with_reducible refine (HY.out _).mono ?_)
          rintro y w3 ⟨rfl, b3⟩
          go_wp2_with fail
          go_ret2
          exact ⟨rfl, HB1.out.trans (b3.mono HB1.out.size)⟩
        · have HN := Lib.hid (fun W => HN.out q HL.out true W (by rw [← hf]; exact h))
          rw [fitR_no h]
          rw [HX.out q HL.out] at HN
          clear HX HY hf h
          go_enter Try.func89, Try.ntmps89
          go_upto_region 1 with (fail)
          generalize w.alloc (.cells _ 111) = v at *
          go_wp2_with fail
          go_at_call 76
          (with_reducible refine (HS.out _).mono ?_)
          rintro y w1 ⟨rfl, rfl⟩
          go_wp2_with fail
          go_at_call 90
          (with_reducible refine (HD.out _).mono ?_)
          rintro y w1 ⟨rfl, b1⟩
          have c2' := cell_up c2 b1
          have HB1 := Lib.hid (HB0.out.trans (b1.mono HB0.out.size))
          clear HB0 b1
          go_wp2_with fail
          try rw [HCN.out]
          try simp only [Bool.not_true, Bool.not_false]
          go_at_call 91
          (with_reducible refine (HW.out _ _).mono ?_)
          rintro y w2 ⟨rfl, rfl⟩
          clear c0 c1 c2 c2'
          go_wp2_with fail
          go_at_call 62
          (with_reducible refine (HN.out _).mono ?_)
          rintro y w3 ⟨⟨v3, rfl⟩, b3⟩
          go_wp2_with fail
          go_ret2
          exact ⟨rfl, HB1.out.trans (b3.mono HB1.out.size)⟩
    · obtain rfl : sg = false := HSG.out
      clear HSG
      have e0 : (false && decide (0 < r)) = false := rfl
      rw [e0] at HW
      rw [e0, if_neg (by decide)] at hf
      clear e0
      by_cases h : -9223372036854775808 ≤ z ∧ z ≤ 9223372036854775807
      · have HY := Lib.hid (fun W => HY.out q HL.out false W (by rw [← hf]; exact h.1) (by rw [← hf]; exact h.2))
        rw [fitR_yes rfl h.1 h.2]
        rw [HX.out q HL.out, ← hf] at HY
        clear HX HN hf h
        go_enter Try.func89, Try.ntmps89
        go_upto_region 1 with (fail)
        generalize w.alloc (.cells _ 111) = v at *
        go_wp2_with fail
        go_at_call 76
        (with_reducible refine (HS.out _).mono ?_)
        rintro y w1 ⟨rfl, rfl⟩
        go_wp2_with fail
        go_at_call 90
        (with_reducible refine (HD.out _).mono ?_)
        rintro y w1 ⟨rfl, b1⟩
        have c2' := cell_up c2 b1
        have HB1 := Lib.hid (HB0.out.trans (b1.mono HB0.out.size))
        clear HB0 b1
        go_wp2_with fail
        try rw [HCN.out]
        try simp only [Bool.not_true, Bool.not_false]
        go_at_call 91
        (with_reducible refine (HW.out _ _).mono ?_)
        rintro y w2 ⟨rfl, rfl⟩
        clear c0 c1 c2 c2'
        go_wp2_with fail
        go_at_call 62
        (with_reducible refine (HY.out _).mono ?_)
        rintro y w3 ⟨rfl, b3⟩
        go_wp2_with fail
        go_ret2
        exact ⟨rfl, HB1.out.trans (b3.mono HB1.out.size)⟩
      · have HN := Lib.hid (fun W => HN.out q HL.out false W (by rw [← hf]; exact h))
        rw [fitR_no h]
        rw [HX.out q HL.out] at HN
        clear HX HY hf h
        go_enter Try.func89, Try.ntmps89
        go_upto_region 1 with (fail)
        generalize w.alloc (.cells _ 111) = v at *
        go_wp2_with fail
        go_at_call 76
        (with_reducible refine (HS.out _).mono ?_)
        rintro y w1 ⟨rfl, rfl⟩
        go_wp2_with fail
        go_at_call 90
        (with_reducible refine (HD.out _).mono ?_)
        rintro y w1 ⟨rfl, b1⟩
        have c2' := cell_up c2 b1
        have HB1 := Lib.hid (HB0.out.trans (b1.mono HB0.out.size))
        clear HB0 b1
        go_wp2_with fail
        try rw [HCN.out]
        try simp only [Bool.not_true, Bool.not_false]
        go_at_call 91
        (with_reducible refine (HW.out _ _).mono ?_)
        rintro y w2 ⟨rfl, rfl⟩
        clear c0 c1 c2 c2'
        go_wp2_with fail
        go_at_call 62
        (with_reducible refine (HN.out _).mono ?_)
        rintro y w3 ⟨⟨v3, rfl⟩, b3⟩
        go_wp2_with fail
        go_ret2
        exact ⟨rfl, HB1.out.trans (b3.mono HB1.out.size)⟩
  · have HCN := Lib.hid (decide_eq_false hcn)
    rw [decide_eq_false hcn] at HSG
    cases sa
    · obtain rfl : sg = false := HSG.out
      clear HSG
      have e0 : (false && decide (0 < r)) = false := rfl
      rw [e0] at HW
      rw [e0, if_neg (by decide)] at hf
      clear e0
      by_cases h : -9223372036854775808 ≤ z ∧ z ≤ 9223372036854775807
      · have HY := Lib.hid (fun W => HY.out q HL.out false W (by rw [← hf]; exact h.1) (by rw [← hf]; exact h.2))
        rw [fitR_yes rfl h.1 h.2]
        rw [HX.out q HL.out, ← hf] at HY
        clear HX HN hf h
        go_enter Try.func89, Try.ntmps89
        go_upto_region 1 with (fail)
        generalize w.alloc (.cells _ 111) = v at *
        go_wp2_with fail
        go_at_call 76
        (with_reducible refine (HS.out _).mono ?_)
        rintro y w1 ⟨rfl, rfl⟩
        go_wp2_with fail
        go_at_call 90
        (with_reducible refine (HD.out _).mono ?_)
        rintro y w1 ⟨rfl, b1⟩
        have c2' := cell_up c2 b1
        have HB1 := Lib.hid (HB0.out.trans (b1.mono HB0.out.size))
        clear HB0 b1
        go_wp2_with fail
        try rw [HCN.out]
        try simp only [Bool.not_true, Bool.not_false]
        go_at_call 91
        (with_reducible refine (HW.out _ _).mono ?_)
        rintro y w2 ⟨rfl, rfl⟩
        clear c0 c1 c2 c2'
        go_wp2_with fail
        go_at_call 62
        (with_reducible refine (HY.out _).mono ?_)
        rintro y w3 ⟨rfl, b3⟩
        go_wp2_with fail
        go_ret2
        exact ⟨rfl, HB1.out.trans (b3.mono HB1.out.size)⟩
      · have HN := Lib.hid (fun W => HN.out q HL.out false W (by rw [← hf]; exact h))
        rw [fitR_no h]
        rw [HX.out q HL.out] at HN
        clear HX HY hf h
        go_enter Try.func89, Try.ntmps89
        go_upto_region 1 with (fail)
        generalize w.alloc (.cells _ 111) = v at *
        go_wp2_with fail
        go_at_call 76
        (with_reducible refine (HS.out _).mono ?_)
        rintro y w1 ⟨rfl, rfl⟩
        go_wp2_with fail
        go_at_call 90
        (with_reducible refine (HD.out _).mono ?_)
        rintro y w1 ⟨rfl, b1⟩
        have c2' := cell_up c2 b1
        have HB1 := Lib.hid (HB0.out.trans (b1.mono HB0.out.size))
        clear HB0 b1
        go_wp2_with fail
        try rw [HCN.out]
        try simp only [Bool.not_true, Bool.not_false]
        go_at_call 91
        (with_reducible refine (HW.out _ _).mono ?_)
        rintro y w2 ⟨rfl, rfl⟩
        clear c0 c1 c2 c2'
        go_wp2_with fail
        go_at_call 62
        (with_reducible refine (HN.out _).mono ?_)
        rintro y w3 ⟨⟨v3, rfl⟩, b3⟩
        go_wp2_with fail
        go_ret2
        exact ⟨rfl, HB1.out.trans (b3.mono HB1.out.size)⟩
    · obtain rfl : sg = true := HSG.out
      clear HSG
      by_cases hr0 : 0 < r
      · have e0 : (true && decide (0 < r)) = true := by rw [decide_eq_true hr0]; rfl
        rw [e0] at HW
        rw [e0, if_pos rfl] at hf
        clear e0
        by_cases h : -9223372036854775808 ≤ z ∧ z ≤ 9223372036854775807
        · have HY := Lib.hid (fun W => HY.out Q1 (Nat.le_refl _) true W (by rw [← hf]; exact h.1) (by rw [← hf]; exact h.2))
          rw [fitR_yes rfl h.1 h.2]
          rw [HX.out Q1 (Nat.le_refl _), ← hf] at HY
          clear HX HN hf h
          go_enter Try.func89, Try.ntmps89
          go_upto_region 1 with (fail)
          generalize w.alloc (.cells _ 111) = v at *
          go_wp2_with fail
          go_at_call 76
          (with_reducible refine (HS.out _).mono ?_)
          rintro y w1 ⟨rfl, rfl⟩
          go_wp2_with fail
          go_at_call 90
          (with_reducible refine (HD.out _).mono ?_)
          rintro y w1 ⟨rfl, b1⟩
          have c2' := cell_up c2 b1
          have HB1 := Lib.hid (HB0.out.trans (b1.mono HB0.out.size))
          clear HB0 b1
          go_wp2_with fail
          try rw [HCN.out]
          try simp only [Bool.not_true, Bool.not_false]
          go_at_call 91
          (with_reducible refine (HW.out _ _).mono ?_)
          rintro y w2 ⟨rfl, rfl⟩
          clear c0 c1 c2 c2'
          have hw2 := hw.out
          go_wp2_with fail
          go_at_call 62
          (with_reducible refine (HY.out _).mono ?_)
          rintro y w3 ⟨rfl, b3⟩
          go_wp2_with fail
          go_ret2
          exact ⟨rfl, HB1.out.trans (b3.mono HB1.out.size)⟩
        · have HN := Lib.hid (fun W => HN.out Q1 (Nat.le_refl _) true W (by rw [← hf]; exact h))
          rw [fitR_no h]
          rw [HX.out Q1 (Nat.le_refl _)] at HN
          clear HX HY hf h
          go_enter Try.func89, Try.ntmps89
          go_upto_region 1 with (fail)
          generalize w.alloc (.cells _ 111) = v at *
          go_wp2_with fail
          go_at_call 76
          (with_reducible refine (HS.out _).mono ?_)
          rintro y w1 ⟨rfl, rfl⟩
          go_wp2_with fail
          go_at_call 90
          (with_reducible refine (HD.out _).mono ?_)
          rintro y w1 ⟨rfl, b1⟩
          have c2' := cell_up c2 b1
          have HB1 := Lib.hid (HB0.out.trans (b1.mono HB0.out.size))
          clear HB0 b1
          go_wp2_with fail
          try rw [HCN.out]
          try simp only [Bool.not_true, Bool.not_false]
          go_at_call 91
          (with_reducible refine (HW.out _ _).mono ?_)
          rintro y w2 ⟨rfl, rfl⟩
          clear c0 c1 c2 c2'
          have hw2 := hw.out
          go_wp2_with fail
          go_at_call 62
          (with_reducible refine (HN.out _).mono ?_)
          rintro y w3 ⟨⟨v3, rfl⟩, b3⟩
          go_wp2_with fail
          go_ret2
          exact ⟨rfl, HB1.out.trans (b3.mono HB1.out.size)⟩
      · have e0 : (true && decide (0 < r)) = false := by rw [decide_eq_false hr0]; rfl
        rw [e0] at HW
        rw [e0, if_neg (by decide)] at hf
        clear e0
        by_cases h : -9223372036854775808 ≤ z ∧ z ≤ 9223372036854775807
        · have HY := Lib.hid (fun W => HY.out q HL.out true W (by rw [← hf]; exact h.1) (by rw [← hf]; exact h.2))
          rw [fitR_yes rfl h.1 h.2]
          rw [HX.out q HL.out, ← hf] at HY
          clear HX HN hf h
          go_enter Try.func89, Try.ntmps89
          go_upto_region 1 with (fail)
          generalize w.alloc (.cells _ 111) = v at *
          go_wp2_with fail
          go_at_call 76
          (with_reducible refine (HS.out _).mono ?_)
          rintro y w1 ⟨rfl, rfl⟩
          go_wp2_with fail
          go_at_call 90
          (with_reducible refine (HD.out _).mono ?_)
          rintro y w1 ⟨rfl, b1⟩
          have c2' := cell_up c2 b1
          have HB1 := Lib.hid (HB0.out.trans (b1.mono HB0.out.size))
          clear HB0 b1
          go_wp2_with fail
          try rw [HCN.out]
          try simp only [Bool.not_true, Bool.not_false]
          go_at_call 91
          (with_reducible refine (HW.out _ _).mono ?_)
          rintro y w2 ⟨rfl, rfl⟩
          clear c0 c1 c2 c2'
          go_wp2_with fail
          go_at_call 62
          (with_reducible refine (HY.out _).mono ?_)
          rintro y w3 ⟨rfl, b3⟩
          go_wp2_with fail
          go_ret2
          exact ⟨rfl, HB1.out.trans (b3.mono HB1.out.size)⟩
        · have HN := Lib.hid (fun W => HN.out q HL.out true W (by rw [← hf]; exact h))
          rw [fitR_no h]
          rw [HX.out q HL.out] at HN
          clear HX HY hf h
          go_enter Try.func89, Try.ntmps89
          go_upto_region 1 with (fail)
          generalize w.alloc (.cells _ 111) = v at *
          go_wp2_with fail
          go_at_call 76
          (with_reducible refine (HS.out _).mono ?_)
          rintro y w1 ⟨rfl, rfl⟩
          go_wp2_with fail
          go_at_call 90
          (with_reducible refine (HD.out _).mono ?_)
          rintro y w1 ⟨rfl, b1⟩
          have c2' := cell_up c2 b1
          have HB1 := Lib.hid (HB0.out.trans (b1.mono HB0.out.size))
          clear HB0 b1
          go_wp2_with fail
          try rw [HCN.out]
          try simp only [Bool.not_true, Bool.not_false]
          go_at_call 91
          (with_reducible refine (HW.out _ _).mono ?_)
          rintro y w2 ⟨rfl, rfl⟩
          clear c0 c1 c2 c2'
          go_wp2_with fail
          go_at_call 62
          (with_reducible refine (HN.out _).mono ?_)
          rintro y w3 ⟨⟨v3, rfl⟩, b3⟩
          go_wp2_with fail
          go_ret2
          exact ⟨rfl, HB1.out.trans (b3.mono HB1.out.size)⟩
theorem numMulDiv_any (a c : Int) (w : World) (ha : I64 a) (hI : I64 c) : Calls Try.prog 85 #[.int .i64 a, .int .i64 1, .int .i64 c, .int .i64 1] w fun e w' => e = fitR (if c = 0 then none else fitI (a.fdiv c)) ∧ Below w.heap.size w w' := by
  by_cases hc : c = 0
  · subst hc
    rw [if_pos rfl]
    have e : fitR none = .returned (.tuple #[.int .i64 0, .bool false]) := rfl
    rw [e]
    clear e ha hI
    go_enter Try.func85, Try.ntmps85
    go_wp2_with fail
    go_ret2
    exact ⟨rfl, Below.refl _ _⟩
  · rw [if_neg hc]
    have HP := Lib.hid (fun W => product_any a 1 W ha (by unfold I64; omega))
    have e1 : a.natAbs * Int.natAbs 1 = a.natAbs := Nat.mul_one _
    have e2 : sgB a 1 = decide (a < 0) := by unfold sgB; generalize decide (a < 0) = x; cases x <;> rfl
    rw [e1, e2] at HP
    have HO := Lib.hid (fun W => over_any a c W ha hI hc)
    have hc' : (c == 0) = false := beq_eq_false_iff_ne.2 hc
    generalize wideV a.natAbs (decide (a < 0)) = V at *
    obtain ⟨z1, z2, hz⟩ : ∃ z1 z2, fitR (fitI (a.fdiv c)) = .returned (.tuple #[.int .i64 z1, .bool z2]) := ⟨_, _, rfl⟩
    rw [hz] at HO ⊢
    clear e1 e2 hz
    go_enter Try.func85, Try.ntmps85
    go_wp2_with fail
    go_at_call 61
    (with_reducible refine (HP.out _).mono ?_)
    rintro y w1 ⟨rfl, b1⟩
    go_wp2_with fail
    go_at_call 89
    (with_reducible refine (HO.out _).mono ?_)
    rintro y w2 ⟨rfl, b2⟩
    go_wp2_with fail
    go_ret2
    exact ⟨rfl, b1.trans (b2.mono b1.size)⟩
end Go.Proofs.Ytmiinmndbkdjbaa

/- The contracts of RightExpr, Right, Size; condition: the tree is not more than 1000 deep. -/
namespace Go.Proofs.Ytmiinmndbkdjbaa
set_option linter.unusedVariables false
set_option linter.unusedSimpArgs false
open Go.RowKit
def rE (e : Ex) : Bool := decide (e.nd ≤ 200 ∧ e.rk ≤ 16) && bE e
def rT (e : Te) : Bool := decide (e.nd ≤ 200 ∧ e.rk ≤ 16) && bT e
theorem St.small {X Y : Nat} {x d : Int} (h : St X Y x d) : (decide (x ≤ 200) && decide (d ≤ 16)) = decide (X ≤ 200 ∧ Y ≤ 16) := by
  obtain ⟨rfl, h2, h3, h4⟩ := h
  rw [Bool.eq_iff_iff]
  simp only [Bool.and_eq_true, decide_eq_true_eq]
  constructor
  · rintro ⟨a, b⟩; have := h4 (by omega); omega
  · rintro ⟨a, b⟩; have := h4 (by omega); omega
theorem St.told {X Y : Nat} {x d : Int} (h : St X Y x d) (hY : Y < 1000) : (if tld x d then x else 1000) = (if X < 1000 then (X : Int) else 1000) ∧ (if tld x d then d else 1000) = (if X < 1000 then (Y : Int) else 1000) := by
  obtain ⟨rfl, h2, h3, h4⟩ := h
  by_cases hX : X < 1000
  · have e := h4 hX
    have : tld (min (X : Int) 1000) d = true := by unfold tld; simp; omega
    rw [this, if_pos rfl, if_pos rfl, if_pos hX, if_pos hX]; omega
  · have : tld (min (X : Int) 1000) d = false := by unfold tld; exact decide_eq_false (by omega)
    simp [this, hX]
theorem rightExpr_any (e : Ex) (cs : List Value) (w : World) (hR : RepE w [] e cs) (hk : e.rk ≤ 1000) :
    Calls Try.prog 44 #[.agg cs.toArray] w fun x w' => x = .returned (.bool (rE e)) ∧ Below w.heap.size w w' := by
  have HS := Lib.hid (fun W hW => sizeExpr_any e.rk e (Nat.le_refl _) cs 0 W (hR.kept hW) (by omega) (by omega))
  have HB := Lib.hid (fun W hW => builtExpr_any e.rk e (Nat.le_refl _) cs W (hR.kept hW))
  have HD := Lib.hid (show rE e = (decide (e.nd ≤ 200 ∧ e.rk ≤ 16) && bE e) from rfl)
  obtain ⟨op, n, nm, args, a, len, cap, rfl, rfl, _, _, _, _⟩ := hR.inv
  have hk0 := Lib.hid (Kept.alloc w (.cells #[.int .i64 op, .int .i64 n, .string nm, .slice a len cap] 53) [])
  have HW0 := Lib.hid ((Below.refl w.heap.size w).alloc (Nat.le_refl _) (.cells #[.int .i64 op, .int .i64 n, .string nm, .slice a len cap] 53))
  have BX := Lib.hid (Mem.Blk.new w 53 #[.int .i64 op, .int .i64 n, .string nm, .slice a len cap])
  generalize rE (.mk op n nm args) = R at *
  generalize bE (.mk op n nm args) = B at *
  clear hR hk
  go_enter Try.func44, Try.ntmps44
  go_wp2_with fail
  refine (HS.out _ hk0.out).mono ?_; rintro x w1 ⟨hx, b1⟩
  obtain ⟨x, d, rfl, hst⟩ := hx.st
  have E := Lib.hid hst.small
  clear hst hx
  go_wp2_with fail
  refine (small_size_any _ _ _).mono ?_; rintro x w2 ⟨rfl, b2⟩
  rw [E.out]
  have W2 := Lib.hid ((HW0.out.trans (b1.mono HW0.out.size)).trans (b2.mono (HW0.out.trans (b1.mono HW0.out.size)).size))
  have k2 := Lib.hid ((hk0.out.trans (Kept.of_below b1 [])).trans (Kept.of_below b2 []))
  obtain ⟨c0, c1, c2, c3⟩ : Four w2 w.heap.size 0 (.int .i64 op) (.int .i64 n) (.string nm) (.slice a len cap) := ⟨((BX.out.below b1).below b2).cell 0, ((BX.out.below b1).below b2).cell 1, ((BX.out.below b1).below b2).cell 2, ((BX.out.below b1).below b2).cell 3⟩
  generalize decide ((Ex.mk op n nm args).nd ≤ 200 ∧ (Ex.mk op n nm args).rk ≤ 16) = S at *
  clear b1 b2
  cases S
  · go_wp2
    go_ret
    exact ⟨by rw [HD.out]; rfl, W2.out⟩
  · go_wp2_with fail
    refine (HB.out _ k2.out).mono ?_; rintro x w3 ⟨rfl, b3⟩
    go_wp2
    go_ret
    exact ⟨by rw [HD.out]; rfl, W2.out.trans (b3.mono W2.out.size)⟩
theorem right_any (e : Te) (cs : List Value) (w : World) (hR : RepT w [] e cs) (hk : e.rk ≤ 1000) :
    Calls Try.prog 14 #[.agg cs.toArray] w fun x w' => x = .returned (.bool (rT e)) ∧ Below w.heap.size w w' := by
  have HS := Lib.hid (fun W hW => sizeTerm_any e.rk e (Nat.le_refl _) cs 0 W (hR.kept hW) (by omega) (by omega))
  have HB := Lib.hid (fun W hW => built_any e.rk e (Nat.le_refl _) cs W (hR.kept hW))
  have HD := Lib.hid (show rT e = (decide (e.nd ≤ 200 ∧ e.rk ≤ 16) && bT e) from rfl)
  obtain ⟨op, nm, ex, te, a, len, cap, a2, len2, cap2, rfl, rfl, _, _, _, _⟩ := hR.inv
  have hk0 := Lib.hid (Kept.alloc w (.cells #[.int .i64 op, .string nm, .slice a len cap, .slice a2 len2 cap2] 32) [])
  have HW0 := Lib.hid ((Below.refl w.heap.size w).alloc (Nat.le_refl _) (.cells #[.int .i64 op, .string nm, .slice a len cap, .slice a2 len2 cap2] 32))
  have BX := Lib.hid (Mem.Blk.new w 32 #[.int .i64 op, .string nm, .slice a len cap, .slice a2 len2 cap2])
  generalize rT (.mk op nm ex te) = R at *
  generalize bT (.mk op nm ex te) = B at *
  clear hR hk
  go_enter Try.func14, Try.ntmps14
  go_wp2_with fail
  refine (HS.out _ hk0.out).mono ?_; rintro x w1 ⟨hx, b1⟩
  obtain ⟨x, d, rfl, hst⟩ := hx.st
  have E := Lib.hid hst.small
  clear hst hx
  go_wp2_with fail
  refine (small_size_any _ _ _).mono ?_; rintro x w2 ⟨rfl, b2⟩
  rw [E.out]
  have W2 := Lib.hid ((HW0.out.trans (b1.mono HW0.out.size)).trans (b2.mono (HW0.out.trans (b1.mono HW0.out.size)).size))
  have k2 := Lib.hid ((hk0.out.trans (Kept.of_below b1 [])).trans (Kept.of_below b2 []))
  obtain ⟨c0, c1, c2, c3⟩ : Four w2 w.heap.size 0 (.int .i64 op) (.string nm) (.slice a len cap) (.slice a2 len2 cap2) := ⟨((BX.out.below b1).below b2).cell 0, ((BX.out.below b1).below b2).cell 1, ((BX.out.below b1).below b2).cell 2, ((BX.out.below b1).below b2).cell 3⟩
  generalize decide ((Te.mk op nm ex te).nd ≤ 200 ∧ (Te.mk op nm ex te).rk ≤ 16) = S at *
  clear b1 b2
  cases S
  · go_wp2
    go_ret
    exact ⟨by rw [HD.out]; rfl, W2.out⟩
  · go_wp2_with fail
    refine (HB.out _ k2.out).mono ?_; rintro x w3 ⟨rfl, b3⟩
    go_wp2
    go_ret
    exact ⟨by rw [HD.out]; rfl, W2.out.trans (b3.mono W2.out.size)⟩
theorem rT_built {e : Te} (h : rT e = true) : bT e = true := by
  have : rT e = (decide (e.nd ≤ 200 ∧ e.rk ≤ 16) && bT e) := rfl
  rw [this, Bool.and_eq_true] at h
  exact h.2
end Go.Proofs.Ytmiinmndbkdjbaa

/- A region that draws its order, whose loads are all behind them when operation n (an append) comes up: S, which tells what they read, is asked for till then alone. -/
namespace Go.Proofs.Ytmiinmndbkdjbaa
set_option linter.unusedVariables false
set_option linter.unusedSimpArgs false
open Go
variable {P : Program} {ops : Array Oper} {Q : Exit → Act → World → Prop} {md : Region.Mode} {S : World → Prop} {n : Nat} {l : Array Bool}
/-- In whatever order the rest comes up; S holds till n has come up. -/
def Till (P : Program) (md : Region.Mode) (ops : Array Oper) (Q : Exit → Act → World → Prop) (S : World → Prop) (n : Nat) : Nat → Array Bool → Act → World → Prop
  | 0, l, a, w => Region.ready md ops l = [] ∧ Q .normal a w
  | fuel + 1, l, a, w =>
    (Region.ready md ops l = [] → Q .normal a w) ∧
    ∀ i ∈ Region.ready md ops l, wpOp P ops Q i (fun a' w' => ((l.setIfInBounds i true).getD n true = true ∨ S w') ∧ Till P md ops Q S n fuel (l.setIfInBounds i true) a' w') a w
theorem any_of_till : ∀ (fuel : Nat) (l : Array Bool) (a : Act) (w : World), Till P md ops Q S n fuel l a w → wpAny P md ops Q fuel l a w
  | 0, _, _, _, h => h
  | fuel + 1, _, _, _, h => ⟨h.1, fun i hi => wpOp_mono (fun a' w' h' => any_of_till fuel _ a' w' h'.2) (h.2 i hi)⟩
theorem listed_stays {l : Array Bool} {i : Nat} (h : l.getD n true = true) : (l.setIfInBounds i true).getD n true = true := by
  by_cases hi : i = n
  · subst hi
    rcases Nat.lt_or_ge i l.size with h' | h'
    · simp [h']
    · simp [Array.getElem?_eq_none (by simpa using h')]
  · rw [getD_set_ne true hi]; exact h
/-- Behind n nothing is asked any more. -/
theorem till_of_any : ∀ (fuel : Nat) (l : Array Bool) (a : Act) (w : World), l.getD n true = true → wpAny P md ops Q fuel l a w → Till P md ops Q S n fuel l a w
  | 0, _, _, _, _, h => h
  | fuel + 1, _, _, _, hn, h => ⟨h.1, fun i hi => wpOp_mono (fun a' w' h' => ⟨.inl (listed_stays hn), till_of_any fuel _ a' w' (listed_stays hn) h'⟩) (h.2 i hi)⟩
/-- What has come up had all come up that it waits for. -/
def Clo (md : Region.Mode) (ops : Array Oper) (l : Array Bool) : Prop := ∀ j oj, ops[j]? = some oj → l.getD j true = true → ∀ e ∈ oj.after, Region.binds md e = true → l.getD e.on true = true
def cloB (md : Region.Mode) (ops : Array Oper) (l : Array Bool) : Bool := (List.range ops.size).all fun j => !l.getD j true || match ops[j]? with | some oj => oj.after.all (fun e => !Region.binds md e || l.getD e.on true) | none => true
theorem Clo.of (h : cloB md ops l = true) : Clo md ops l := by
  intro j oj hj hl e he hb
  simp only [cloB, List.all_eq_true, List.mem_range] at h
  have h1 := h j (Array.getElem?_eq_some_iff.1 hj).1
  simp only [hj, hl, Bool.not_true, Bool.false_or, Array.all_eq_true_iff_forall_mem] at h1
  have h2 := h1 e he
  simpa [hb] using h2
theorem getD_up {l : Array Bool} {j : Nat} (h : l.getD j false = true) : l.getD j true = true := by
  rcases Nat.lt_or_ge j l.size with h' | h'
  · simp [h'] at h ⊢; exact h
  · simp [Array.getElem?_eq_none h'] at h
theorem Clo.set {l : Array Bool} {i : Nat} (h : Clo md ops l) (hi : i ∈ Region.ready md ops l) : Clo md ops (l.setIfInBounds i true) := by
  obtain ⟨h0, oi, hoi, hall⟩ := mem_ready.1 hi
  intro j oj hj hl e he hb
  by_cases hij : i = j
  · subst hij
    rw [hoi] at hj
    injection hj with hj
    subst hj
    exact listed_stays (getD_up (hall e he hb))
  · rw [getD_set_ne true hij] at hl
    exact listed_stays (h j oj hj hl e he hb)
/-- Does operation n wait for operation i, through others perhaps? -/
def reach (md : Region.Mode) (ops : Array Oper) (i : Nat) : Nat → Nat → Bool
  | 0, _ => false
  | f + 1, n => match ops[n]? with | some o => o.after.any (fun e => Region.binds md e && (e.on == i || reach md ops i f e.on)) | none => false
theorem reach_spec {l : Array Bool} {i : Nat} (hc : Clo md ops l) : ∀ (f n : Nat), reach md ops i f n = true → (∀ o, ops[n]? = some o → ∀ e ∈ o.after, Region.binds md e = true → l.getD e.on true = true) → l.getD i true = true
  | 0, _, h, _ => by cases h
  | f + 1, n, h, hn => by
    unfold reach at h
    cases ho : ops[n]? with
    | none => rw [ho] at h; cases h
    | some o =>
      rw [ho] at h
      obtain ⟨e, he, hb⟩ := Array.any_eq_true'.1 h
      simp only [Bool.and_eq_true, Bool.or_eq_true, beq_iff_eq] at hb
      have hl := hn o ho e he hb.1
      rcases hb.2 with h1 | h1
      · rw [← h1]; exact hl
      · exact reach_spec hc f e.on h1 (fun o' ho' e' he' hb' => hc e.on o' ho' hl e' he' hb')
theorem till_first {i : Nat} {oi : Oper} {v : Value} (hi : ops[i]? = some oi) (hsel : ∀ (j : Nat) (o : Oper) cs b, ops[j]? = some o → o.op ≠ .select cs b)
    (hQ : ∀ c a w, Q (.panic c) (a.put oi.dst v) w → Q (.panic c) a w) (hin : i ≠ n)
    {f : Nat} (hwait : reach md ops i f n = true) :
    ∀ (fuel : Nat) (l : Array Bool) (a : Act) (w : World), Clo md ops l →
      (∀ j oj, ops[j]? = some oj → j ≠ i → l.getD j true = false → (∀ e ∈ oj.after, Region.binds md e = true → e.on ≠ i) → oi.apart ops oj = true) →
      i ∈ Region.ready md ops l → l.getD n true = false → YieldsIf P ops S oi v a → S w →
      Till P md ops Q S n fuel (l.setIfInBounds i true) (a.put oi.dst v) w → Till P md ops Q S n (fuel + 1) l a w := by
  intro fuel
  induction fuel with
  | zero =>
    intro l a w _ _ hr _ hy hS H
    refine ⟨fun h => (by rw [h] at hr; cases hr), fun j hj => ?_⟩
    by_cases hji : j = i
    · subst hji; exact hy.wpOp hi hS ⟨.inr hS, H⟩
    · have h := ready_mono hj hji
      rw [H.1] at h
      cases h
  | succ fuel ih =>
    intro l a w hclo hfree hr hnl hy hS H
    refine ⟨fun h => (by rw [h] at hr; cases hr), fun j hj => ?_⟩
    by_cases hji : j = i
    · subst hji; exact hy.wpOp hi hS ⟨.inr hS, H⟩
    · have h1 := H.2 j (ready_mono hj hji)
      obtain ⟨hjun, oj, hoj, hall⟩ := mem_ready.1 hj
      have hnot : ∀ e ∈ oj.after, Region.binds md e = true → e.on ≠ i := fun e he hb heq => by
        have g1 := hall e he hb
        have g0 := (mem_ready.1 hr).1
        rw [heq] at g1
        rcases Nat.lt_or_ge i l.size with h' | h'
        · simp [h'] at g0 g1; rw [g0] at g1; cases g1
        · simp [Array.getElem?_eq_none h'] at g1
      have hjn : j ≠ n := by
        rintro rfl
        have g1 := reach_spec hclo f j hwait (fun o ho e he hb => by rw [hoj] at ho; injection ho with ho; subst ho; exact getD_up (hall e he hb))
        rw [(mem_ready.1 hr).1] at g1
        cases g1
      have hnl2 : (l.setIfInBounds j true).getD n true = false := by rw [getD_set_ne true hjn]; exact hnl
      have hnl3 : ((l.setIfInBounds i true).setIfInBounds j true).getD n true = false := by rw [getD_set_ne true hjn, getD_set_ne true hin]; exact hnl
      have h2 := wpOp_putIf hoj (hfree j oj hoj hji hjun hnot) (fun cs b => hsel i oi cs b hi) (fun cs b => hsel j oj cs b hoj) hQ hy h1
      have hfree' : ∀ k ok, ops[k]? = some ok → k ≠ i → (l.setIfInBounds j true).getD k true = false →
          (∀ e ∈ ok.after, Region.binds md e = true → e.on ≠ i) → oi.apart ops ok = true := fun k ok hk hki hun hno => by
        refine hfree k ok hk hki ?_ hno
        by_cases hjk : j = k
        · subst hjk; exact hjun
        · rw [getD_set_ne true hjk] at hun; exact hun
      refine wpOp_mono (fun a' w' h3 => ?_) h2
      have hS' : S w' := h3.2.1.resolve_left (by rw [hnl3]; simp)
      refine ⟨.inr hS', ih (l.setIfInBounds j true) a' w' (hclo.set hj) hfree' (ready_mono hr (Ne.symm hji)) hnl2 h3.1 hS' ?_⟩
      rw [Array.setIfInBounds_comm _ _ hji]
      exact h3.2.2
/-- Operation i first: it yields v while S holds; operation n waits for it. -/
def takeB (md : Region.Mode) (ops : Array Oper) (n : Nat) (l : Array Bool) (i : Nat) : Bool :=
  Region.noSelect ops && Region.free md ops l i && (Region.ready md ops l).contains i && !(i == n) && reach md ops i ops.size n && !l.getD n true && cloB md ops l
theorem till_take {i : Nat} {oi : Oper} {v : Value} {fuel : Nat} {l : Array Bool} {a : Act} {w : World} (hi : ops[i]? = some oi) (hb : takeB md ops n l i = true)
    (hQ : ∀ c a w, Q (.panic c) (a.put oi.dst v) w → Q (.panic c) a w) (hy : YieldsIf P ops S oi v a) (hS : S w)
    (h : Till P md ops Q S n fuel (l.setIfInBounds i true) (a.put oi.dst v) w) : Till P md ops Q S n (fuel + 1) l a w := by
  simp only [takeB, Bool.and_eq_true, Bool.not_eq_true'] at hb
  obtain ⟨⟨⟨⟨⟨⟨h1, h2⟩, h3⟩, h4⟩, h5⟩, h6⟩, h7⟩ := hb
  exact till_first hi (Region.noSelect_spec h1) hQ (by simpa using h4) h5 fuel l a w (Clo.of h7) (Region.free_spec hi h2) (by simpa using h3) h6 hy hS h
/-- The same where nothing is asked of memory. -/
def anyB (md : Region.Mode) (ops : Array Oper) (l : Array Bool) (i : Nat) : Bool := Region.noSelect ops && Region.free md ops l i && (Region.ready md ops l).contains i
theorem any_take {i : Nat} {oi : Oper} {v : Value} {fuel : Nat} {l : Array Bool} {a : Act} {w : World} (hi : ops[i]? = some oi) (hb : anyB md ops l i = true)
    (hQ : ∀ c a w, Q (.panic c) (a.put oi.dst v) w → Q (.panic c) a w) (hy : Yields P ops oi v a)
    (h : wpAny P md ops Q fuel (l.setIfInBounds i true) (a.put oi.dst v) w) : wpAny P md ops Q (fuel + 1) l a w := by
  simp only [anyB, Bool.and_eq_true] at hb
  exact wpAny_take hi hb.1.1 hb.1.2 hb.2 hQ hy h
theorem any_two {i j : Nat} {oi oj : Oper} {fuel : Nat} {l : Array Bool} {a : Act} {w : World} (hr : Region.ready md ops l = [i, j]) (hoi : ops[i]? = some oi) (hoj : ops[j]? = some oj)
    (hi : ∀ K' : Act → World → Prop, Shut (∀ a w, wpAny P md ops Q fuel (l.setIfInBounds i true) a w → K' a w) → if Region.wanted oi (yielded ops a.tmps) = true then Oper.wp P oi a w K' Q else K' (a.put oi.dst undef) w)
    (hj : ∀ K' : Act → World → Prop, Shut (∀ a w, wpAny P md ops Q fuel (l.setIfInBounds j true) a w → K' a w) → if Region.wanted oj (yielded ops a.tmps) = true then Oper.wp P oj a w K' Q else K' (a.put oj.dst undef) w) :
    wpAny P md ops Q (fuel + 1) l a w := by
  refine wpAny_all hr (by simp) fun k hk => ?_
  rcases List.mem_cons.1 hk with rfl | hk
  · exact wpOp_step hoi fun K' hK => hi K' hK
  · rcases List.mem_cons.1 hk with rfl | hk
    · exact wpOp_step hoj fun K' hK => hj K' hK
    · cases hk
theorem any_one {i : Nat} {oi : Oper} {fuel : Nat} {l : Array Bool} {a : Act} {w : World} (hr : Region.ready md ops l = [i]) (hoi : ops[i]? = some oi)
    (hi : ∀ K' : Act → World → Prop, Shut (∀ a w, wpAny P md ops Q fuel (l.setIfInBounds i true) a w → K' a w) → if Region.wanted oi (yielded ops a.tmps) = true then Oper.wp P oi a w K' Q else K' (a.put oi.dst undef) w) :
    wpAny P md ops Q (fuel + 1) l a w := by
  refine wpAny_all hr (by simp) fun k hk => ?_
  rcases List.mem_cons.1 hk with rfl | hk
  · exact wpOp_step hoi fun K' hK => hi K' hK
  · cases hk
theorem till_all {rs : List Nat} {fuel : Nat} {l : Array Bool} {a : Act} {w : World} (hr : Region.ready md ops l = rs) (hne : rs ≠ [])
    (h : ∀ i ∈ rs, wpOp P ops Q i (fun a' w' => ((l.setIfInBounds i true).getD n true = true ∨ S w') ∧ Till P md ops Q S n fuel (l.setIfInBounds i true) a' w') a w) : Till P md ops Q S n (fuel + 1) l a w :=
  ⟨fun h0 => absurd (hr ▸ h0) hne, hr ▸ h⟩
theorem wp_region_till {id : Nat} {a : Act} {w : World} (n : Nat) (hm : P.follows .mixedOrders = true)
    (h : Till P .any ops Q S n ops.size (Array.replicate ops.size false) a w.drew) : (Code.region id ops true).wp P Q a w :=
  wp_region_any hm (any_of_till _ _ _ _ h)
/-- Two may come up: each is carried out; behind it S is shown, and the rest goes on. -/
theorem till_two {i j : Nat} {oi oj : Oper} {fuel : Nat} {l : Array Bool} {a : Act} {w : World} (hr : Region.ready md ops l = [i, j]) (hoi : ops[i]? = some oi) (hoj : ops[j]? = some oj)
    (hi : ∀ K' : Act → World → Prop, Shut (∀ a w, S w → Till P md ops Q S n fuel (l.setIfInBounds i true) a w → K' a w) → if Region.wanted oi (yielded ops a.tmps) = true then Oper.wp P oi a w K' Q else K' (a.put oi.dst undef) w)
    (hj : ∀ K' : Act → World → Prop, Shut (∀ a w, S w → Till P md ops Q S n fuel (l.setIfInBounds j true) a w → K' a w) → if Region.wanted oj (yielded ops a.tmps) = true then Oper.wp P oj a w K' Q else K' (a.put oj.dst undef) w) :
    Till P md ops Q S n (fuel + 1) l a w := by
  refine till_all hr (by simp) fun k hk => ?_
  rcases List.mem_cons.1 hk with rfl | hk
  · exact wpOp_step hoi fun K' hK => hi K' fun a w hS hT => hK a w ⟨.inr hS, hT⟩
  · rcases List.mem_cons.1 hk with rfl | hk
    · exact wpOp_step hoj fun K' hK => hj K' fun a w hS hT => hK a w ⟨.inr hS, hT⟩
    · cases hk
theorem till_one {i : Nat} {oi : Oper} {fuel : Nat} {l : Array Bool} {a : Act} {w : World} (hr : Region.ready md ops l = [i]) (hoi : ops[i]? = some oi)
    (hi : ∀ K' : Act → World → Prop, Shut (∀ a w, S w → Till P md ops Q S n fuel (l.setIfInBounds i true) a w → K' a w) → if Region.wanted oi (yielded ops a.tmps) = true then Oper.wp P oi a w K' Q else K' (a.put oi.dst undef) w) :
    Till P md ops Q S n (fuel + 1) l a w := by
  refine till_all hr (by simp) fun k hk => ?_
  rcases List.mem_cons.1 hk with rfl | hk
  · exact wpOp_step hoi fun K' hK => hi K' fun a w hS hT => hK a w ⟨.inr hS, hT⟩
  · cases hk
/-- n itself comes up, alone: behind it nothing is asked of the world. -/
theorem till_last {oi : Oper} {fuel : Nat} {l : Array Bool} {a : Act} {w : World} (hr : Region.ready md ops l = [n]) (hoi : ops[n]? = some oi) (hl : (l.setIfInBounds n true).getD n true = true)
    (hi : ∀ K' : Act → World → Prop, Shut (∀ a w, wpAny P md ops Q fuel (l.setIfInBounds n true) a w → K' a w) → if Region.wanted oi (yielded ops a.tmps) = true then Oper.wp P oi a w K' Q else K' (a.put oi.dst undef) w) :
    Till P md ops Q S n (fuel + 1) l a w := by
  refine till_all hr (by simp) fun k hk => ?_
  rcases List.mem_cons.1 hk with rfl | hk
  · exact wpOp_step hoi fun K' hK => hi K' fun a w hT => hK a w ⟨.inl hl, till_of_any _ _ _ _ hl hT⟩
  · cases hk
end Go.Proofs.Ytmiinmndbkdjbaa

/- The contracts of check.operands, kind and Kind; condition: the expression is built as it must be. -/
namespace Go.Proofs.Ytmiinmndbkdjbaa
set_option linter.unusedVariables false
set_option linter.unusedSimpArgs false
open Go.RowKit
theorem operands_any (op : Int) (w : World) : Calls Try.prog 59 #[.int .i64 op] w fun e w' => e = .returned (.tuple #[.int .i64 (needK op), .int .i64 (isK op)]) ∧ w = w' := by
  have HF : Hid (∀ x y, needK op = x → isK op = y → Ending.returned (.tuple #[.int .i64 x, .int .i64 y]) = .returned (.tuple #[.int .i64 (needK op), .int .i64 (isK op)])) := fun x y h h' => by rw [h, h']
  have HN := Lib.hid (show needK op = if (5 ≤ op ∧ op ≤ 10) ∨ op = 20 then 1 else if 11 ≤ op ∧ op ≤ 16 then 1 else if op = 17 ∨ op = 18 ∨ op = 19 then 2 else 0 from rfl)
  have HI := Lib.hid (show isK op = if (5 ≤ op ∧ op ≤ 10) ∨ op = 20 then 1 else if 11 ≤ op ∧ op ≤ 16 then 2 else if op = 17 ∨ op = 18 ∨ op = 19 then 2 else 1 from rfl)
  by_cases h1 : 5 ≤ op
  · by_cases h2 : op ≤ 10
    · have e1 : needK op = 1 := by rw [HN.out, if_pos (.inl ⟨h1, h2⟩)]
      have e2 : isK op = 1 := by rw [HI.out, if_pos (.inl ⟨h1, h2⟩)]
      rw [e1, e2]
      clear e1 e2 HF HN HI
      go_enter Try.func59, Try.ntmps59
      go_wp2
      go_ret2
      exact ⟨rfl, rfl⟩
    · by_cases h20 : op = 20
      · subst h20
        have e1 : needK 20 = 1 := rfl
        have e2 : isK 20 = 1 := rfl
        rw [e1, e2]
        clear e1 e2 HF HN HI
        go_enter Try.func59, Try.ntmps59
        go_wp2
        go_ret2
        exact ⟨rfl, rfl⟩
      · have h20' : (op == 20) = false := beq_eq_false_iff_ne.2 h20
        have n1 : ¬ ((5 ≤ op ∧ op ≤ 10) ∨ op = 20) := by omega
        by_cases h16 : op ≤ 16
        · have h11 : 11 ≤ op := by omega
          have e1 : needK op = 1 := by rw [HN.out, if_neg n1, if_pos ⟨h11, h16⟩]
          have e2 : isK op = 2 := by rw [HI.out, if_neg n1, if_pos ⟨h11, h16⟩]
          clear n1
          rw [e1, e2]
          clear e1 e2 HF HN HI
          go_enter Try.func59, Try.ntmps59
          go_wp2
          go_ret2
          exact ⟨rfl, rfl⟩
        · have n2 : ¬ (11 ≤ op ∧ op ≤ 16) := by omega
          have h11 : 11 ≤ op := by omega
          by_cases h17 : op = 17
          · subst h17
            have e1 : needK 17 = 2 := rfl
            have e2 : isK 17 = 2 := rfl
            clear n1 n2
            rw [e1, e2]
            clear e1 e2 HF HN HI
            go_enter Try.func59, Try.ntmps59
            go_wp2
            go_ret2
            exact ⟨rfl, rfl⟩
          · by_cases h18 : op = 18
            · subst h18
              have e1 : needK 18 = 2 := rfl
              have e2 : isK 18 = 2 := rfl
              clear n1 n2
              rw [e1, e2]
              clear e1 e2 HF HN HI
              go_enter Try.func59, Try.ntmps59
              go_wp2
              go_ret2
              exact ⟨rfl, rfl⟩
            · by_cases h19 : op = 19
              · subst h19
                have e1 : needK 19 = 2 := rfl
                have e2 : isK 19 = 2 := rfl
                clear n1 n2
                rw [e1, e2]
                clear e1 e2 HF HN HI
                go_enter Try.func59, Try.ntmps59
                go_wp2
                go_ret2
                exact ⟨rfl, rfl⟩
              · have n3 : ¬ (op = 17 ∨ op = 18 ∨ op = 19) := by omega
                have e1 : needK op = 0 := by rw [HN.out, if_neg n1, if_neg n2, if_neg n3]
                have e2 : isK op = 1 := by rw [HI.out, if_neg n1, if_neg n2, if_neg n3]
                have h17' : (op == 17) = false := beq_eq_false_iff_ne.2 h17
                have h18' : (op == 18) = false := beq_eq_false_iff_ne.2 h18
                have h19' : (op == 19) = false := beq_eq_false_iff_ne.2 h19
                clear n1 n2 n3
                rw [e1, e2]
                clear e1 e2 HF HN HI
                go_enter Try.func59, Try.ntmps59
                go_wp2
                go_ret2
                exact ⟨rfl, rfl⟩
  · have h20 : ¬ op = 20 := by omega
    have h20' : (op == 20) = false := beq_eq_false_iff_ne.2 h20
    have h11 : ¬ 11 ≤ op := by omega
    have h17 : ¬ op = 17 := by omega
    have h18 : ¬ op = 18 := by omega
    have h19 : ¬ op = 19 := by omega
    have e1 : needK op = 0 := by rw [HN.out, if_neg (by omega), if_neg (by omega), if_neg (by omega)]
    have e2 : isK op = 1 := by rw [HI.out, if_neg (by omega), if_neg (by omega), if_neg (by omega)]
    have h17' : (op == 17) = false := beq_eq_false_iff_ne.2 h17
    have h18' : (op == 18) = false := beq_eq_false_iff_ne.2 h18
    have h19' : (op == 19) = false := beq_eq_false_iff_ne.2 h19
    rw [e1, e2]
    clear e1 e2 HF HN HI
    go_enter Try.func59, Try.ntmps59
    go_wp2
    go_ret2
    exact ⟨rfl, rfl⟩
theorem kOf_no {op : Int} {l : List Int} {j : Nat} {x : Int} (h21 : op ≠ 21) (hx : l[j]? = some x) (hne : x ≠ needK op) : kOf op l = 0 := by
  unfold kOf
  rw [if_neg h21, if_neg]
  intro h
  have := List.all_eq_true.1 h x (List.mem_of_getElem? hx)
  exact hne (by simpa using this)
theorem kOf_yes {op : Int} {l : List Int} (h21 : op ≠ 21) (h : ∀ (j : Nat) x, l[j]? = some x → x = needK op) : kOf op l = isK op := by
  unfold kOf
  rw [if_neg h21, if_pos]
  rw [List.all_eq_true]
  intro x hx
  obtain ⟨j, hj⟩ := List.getElem?_of_mem hx
  simpa using h j x hj
set_option maxRecDepth 100000 in
set_option maxHeartbeats 2000000 in
theorem kind_any : ∀ (r : Nat) (e : Ex), e.rk ≤ r → bE e = true → ∀ (cs : List Value) (w : World), RepE w [] e cs →
    Calls Try.prog 45 #[.agg cs.toArray] w fun x w' => x = .returned (.int .i64 (kE e)) ∧ Below w.heap.size w w' := by
  intro r
  induction r with
  | zero => intro e h; have := e.rk_pos; omega
  | succ r ih =>
    intro e hr hb cs w hR
    obtain ⟨op, no, nm, args, a, len, cap, rfl, rfl, i1, i2, i3, hS⟩ := hR.inv
    obtain ⟨g1, -, g3⟩ := bE_inv hb
    obtain ⟨f1, f2, f3⟩ := hS.facts
    have HI : Hid (∀ (k : Nat) e1, args[k]? = some e1 → ∀ cs1 W, RepE W [] e1 cs1 → Calls Try.prog 45 #[.agg cs1.toArray] W fun x w' => x = .returned (.int .i64 (kE e1)) ∧ Below W.heap.size W w') := by
      intro k e1 hk cs1 W hR1
      exact ih e1 (by have := Ex.rk_lt (op := op) (n := no) (nm := nm) hk; omega) (g3 e1 (List.mem_of_getElem? hk)) cs1 W hR1
    have HKM := Lib.hid (kE_mk op no nm args)
    have HB0 := Lib.hid ((Below.refl w.heap.size w).alloc (Nat.le_refl _) (.cells #[.int .i64 op, .int .i64 no, .string nm, .slice a len cap] 53))
    have BX := Lib.hid (Mem.Blk.new w 53 #[.int .i64 op, .int .i64 no, .string nm, .slice a len cap])
    have HSS := Lib.hid hS
    have HL := Lib.hid f1
    have HG := Lib.hid g1
    rw [HKM.out]
    clear ih hr hR hS i1 i2 i3 f1 g1 g3 hb
    by_cases h21 : op = 21
    · subst h21
      have hl3 : args.length = 3 := by have h := HG.out; rw [show ar 21 = 3 by decide] at h; omega
      obtain ⟨x0, x1, x2, rfl⟩ : ∃ x0 x1 x2, args = [x0, x1, x2] := by
        match args, hl3 with
        | [x0, x1, x2], _ => exact ⟨x0, x1, x2, rfl⟩
      obtain rfl : len = 3 := by have h := HL.out; simp at h; omega
      have HKO : Hid (kOf 21 ([x0, x1, x2].map kE) = if kE x0 = 2 ∧ kE x1 = kE x2 then kE x1 else 0) := by show _ = _; unfold kOf; rw [if_pos rfl]; rfl
      generalize kOf 21 ([x0, x1, x2].map kE) = R at HKO ⊢
      go_enter Try.func45, Try.ntmps45
      go_upto_region 1 with (fail)
      generalize w.alloc (.cells #[.int .i64 21, .int .i64 no, .string nm, .slice a 3 cap] 53) = v at *
      obtain ⟨c0, c1, c2, c3, -, -, -, -⟩ := blk4 BX.out
      have hSv := HSS.out.kept (Kept.of_below HB0.out [])
      obtain ⟨b, o, o0, n0, m0, ar0, a0, l0, p0, rfl, -, -, hx0, k1, k2, k3, hS0, u0, u1, u2, u3⟩ := hSv.at 0 (by omega)
      obtain ⟨b', o', o1, n1, m1, ar1, a1, l1, p1, e1, -, -, hx1, k4, k5, k6, hS1, t0, t1, t2, t3⟩ := hSv.at 1 (by omega)
      injection e1 with e1; injection e1 with e1 e2; subst e1; subst e2
      obtain ⟨b', o', o2, n2, m2, ar2, a2, l2, p2, e1, -, -, hx2, k7, k8, k9, hS2, q0, q1, q2, q3⟩ := hSv.at 2 (by omega)
      injection e1 with e1; injection e1 with e1 e2; subst e1; subst e2
      simp at hx0 hx1 hx2
      subst hx0; subst hx1; subst hx2
      have HR0 := Lib.hid (RepE.mk' k1 k2 k3 hS0)
      have HR1 := Lib.hid (RepE.mk' k4 k5 k6 hS1)
      have HR2 := Lib.hid (RepE.mk' k7 k8 k9 hS2)
      rw [Nat.zero_mul, Nat.add_zero] at u0 u1 u2 u3
      rw [Nat.one_mul] at t0 t1 t2 t3
      rw [show 2 * 4 = 8 from rfl] at q0 q1 q2 q3
      clear k1 k2 k3 k4 k5 k6 k7 k8 k9 hS0 hS1 hS2 hSv
      have HC0 := Lib.hid (fun W (hW : Below v.heap.size v W) => HI.out 0 _ rfl _ W (HR0.out.kept (Kept.of_below hW [])))
      have HC1 := Lib.hid (fun W (hW : Below v.heap.size v W) => HI.out 1 _ rfl _ W (HR1.out.kept (Kept.of_below hW [])))
      have HC2 := Lib.hid (fun W (hW : Below v.heap.size v W) => HI.out 2 _ rfl _ W (HR2.out.kept (Kept.of_below hW [])))
      clear HI HR0 HR1 HR2 HKM HSS HL HG hl3
      generalize kE (Ex.mk o0 n0 m0 ar0) = K0 at *
      generalize kE (Ex.mk o1 n1 m1 ar1) = K1 at *
      generalize kE (Ex.mk o2 n2 m2 ar2) = K2 at *
      go_wp2_with fail
      refine wp_region_till (S := fun W => W.cell? ⟨w.heap.size, 3, none⟩ = some (.slice (some ⟨b, o, none⟩) 3 cap) ∧ (W.cell? ⟨b, o, none⟩ = some (.int .i64 o0) ∧ W.cell? ⟨b, o + 1, none⟩ = some (.int .i64 n0) ∧ W.cell? ⟨b, o + 2, none⟩ = some (.string m0) ∧ W.cell? ⟨b, o + 3, none⟩ = some (.slice a0 l0 p0)) ∧
        (W.cell? ⟨b, o + 4, none⟩ = some (.int .i64 o1) ∧ W.cell? ⟨b, o + 4 + 1, none⟩ = some (.int .i64 n1) ∧ W.cell? ⟨b, o + 4 + 2, none⟩ = some (.string m1) ∧ W.cell? ⟨b, o + 4 + 3, none⟩ = some (.slice a1 l1 p1)) ∧
        W.cell? ⟨b, o + 8, none⟩ = some (.int .i64 o2) ∧ W.cell? ⟨b, o + 8 + 1, none⟩ = some (.int .i64 n2) ∧ W.cell? ⟨b, o + 8 + 2, none⟩ = some (.string m2) ∧ W.cell? ⟨b, o + 8 + 3, none⟩ = some (.slice a2 l2 p2)) 17 (by kernel_rfl) ?_
      refine till_take (i := 0) (v := ?_) rfl (by kernel_rfl) (fun _ _ _ h => h) (Or.inl ⟨by rfl, ?_⟩) ⟨c3,⟨u0,u1,u2,u3⟩,⟨t0,t1,t2,t3⟩,q0,q1,q2,q3⟩ ?_
      rotate_left
      · intro W hS
        try dsimp only at hS
        go_split_ands
        go_simp
        try with_reducible rfl
      try simp only [Act.put, List.getElem_toArray, List.getElem_cons_zero, List.getElem_cons_succ, List.setIfInBounds_toArray, List.set_cons_zero, List.set_cons_succ]
      refine till_take (i := 1) (v := ?_) rfl (by kernel_rfl) (fun _ _ _ h => h) (Or.inl ⟨by rfl, ?_⟩) ⟨c3,⟨u0,u1,u2,u3⟩,⟨t0,t1,t2,t3⟩,q0,q1,q2,q3⟩ ?_
      rotate_left
      · intro W hS
        try dsimp only at hS
        go_split_ands
        go_simp
        try with_reducible rfl
      try simp only [Act.put, List.getElem_toArray, List.getElem_cons_zero, List.getElem_cons_succ, List.setIfInBounds_toArray, List.set_cons_zero, List.set_cons_succ]
      refine till_take (i := 2) (v := ?_) rfl (by kernel_rfl) (fun _ _ _ h => h) (Or.inl ⟨by rfl, ?_⟩) ⟨c3,⟨u0,u1,u2,u3⟩,⟨t0,t1,t2,t3⟩,q0,q1,q2,q3⟩ ?_
      rotate_left
      · intro W hS
        try dsimp only at hS
        go_split_ands
        go_simp
        try with_reducible rfl
      try simp only [Act.put, List.getElem_toArray, List.getElem_cons_zero, List.getElem_cons_succ, List.setIfInBounds_toArray, List.set_cons_zero, List.set_cons_succ]
      refine till_take (i := 3) (v := ?_) rfl (by kernel_rfl) (fun _ _ _ h => h) (Or.inl ⟨by rfl, ?_⟩) ⟨c3,⟨u0,u1,u2,u3⟩,⟨t0,t1,t2,t3⟩,q0,q1,q2,q3⟩ ?_
      rotate_left
      · intro W hS
        try dsimp only at hS
        go_split_ands
        go_simp
        try with_reducible rfl
      try simp only [Act.put, List.getElem_toArray, List.getElem_cons_zero, List.getElem_cons_succ, List.setIfInBounds_toArray, List.set_cons_zero, List.set_cons_succ]
      refine till_take (i := 5) (v := ?_) rfl (by kernel_rfl) (fun _ _ _ h => h) (Or.inl ⟨by rfl, ?_⟩) ⟨c3,⟨u0,u1,u2,u3⟩,⟨t0,t1,t2,t3⟩,q0,q1,q2,q3⟩ ?_
      rotate_left
      · intro W hS
        try dsimp only at hS
        go_split_ands
        go_simp
        try with_reducible rfl
      try simp only [Act.put, List.getElem_toArray, List.getElem_cons_zero, List.getElem_cons_succ, List.setIfInBounds_toArray, List.set_cons_zero, List.set_cons_succ]
      refine till_take (i := 6) (v := ?_) rfl (by kernel_rfl) (fun _ _ _ h => h) (Or.inl ⟨by rfl, ?_⟩) ⟨c3,⟨u0,u1,u2,u3⟩,⟨t0,t1,t2,t3⟩,q0,q1,q2,q3⟩ ?_
      rotate_left
      · intro W hS
        try dsimp only at hS
        go_split_ands
        go_simp
        try with_reducible rfl
      try simp only [Act.put, List.getElem_toArray, List.getElem_cons_zero, List.getElem_cons_succ, List.setIfInBounds_toArray, List.set_cons_zero, List.set_cons_succ]
      refine till_take (i := 7) (v := ?_) rfl (by kernel_rfl) (fun _ _ _ h => h) (Or.inl ⟨by rfl, ?_⟩) ⟨c3,⟨u0,u1,u2,u3⟩,⟨t0,t1,t2,t3⟩,q0,q1,q2,q3⟩ ?_
      rotate_left
      · intro W hS
        try dsimp only at hS
        go_split_ands
        go_simp
        try with_reducible rfl
      try simp only [Act.put, List.getElem_toArray, List.getElem_cons_zero, List.getElem_cons_succ, List.setIfInBounds_toArray, List.set_cons_zero, List.set_cons_succ]
      refine till_take (i := 8) (v := ?_) rfl (by kernel_rfl) (fun _ _ _ h => h) (Or.inl ⟨by rfl, ?_⟩) ⟨c3,⟨u0,u1,u2,u3⟩,⟨t0,t1,t2,t3⟩,q0,q1,q2,q3⟩ ?_
      rotate_left
      · intro W hS
        try dsimp only at hS
        go_split_ands
        go_simp
        try with_reducible rfl
      try simp only [Act.put, List.getElem_toArray, List.getElem_cons_zero, List.getElem_cons_succ, List.setIfInBounds_toArray, List.set_cons_zero, List.set_cons_succ]
      refine till_take (i := 10) (v := ?_) rfl (by kernel_rfl) (fun _ _ _ h => h) (Or.inl ⟨by rfl, ?_⟩) ⟨c3,⟨u0,u1,u2,u3⟩,⟨t0,t1,t2,t3⟩,q0,q1,q2,q3⟩ ?_
      rotate_left
      · intro W hS
        try dsimp only at hS
        go_split_ands
        go_simp
        try with_reducible rfl
      try simp only [Act.put, List.getElem_toArray, List.getElem_cons_zero, List.getElem_cons_succ, List.setIfInBounds_toArray, List.set_cons_zero, List.set_cons_succ]
      refine till_take (i := 11) (v := ?_) rfl (by kernel_rfl) (fun _ _ _ h => h) (Or.inl ⟨by rfl, ?_⟩) ⟨c3,⟨u0,u1,u2,u3⟩,⟨t0,t1,t2,t3⟩,q0,q1,q2,q3⟩ ?_
      rotate_left
      · intro W hS
        try dsimp only at hS
        go_split_ands
        go_simp
        try with_reducible rfl
      try simp only [Act.put, List.getElem_toArray, List.getElem_cons_zero, List.getElem_cons_succ, List.setIfInBounds_toArray, List.set_cons_zero, List.set_cons_succ]
      refine till_take (i := 12) (v := ?_) rfl (by kernel_rfl) (fun _ _ _ h => h) (Or.inl ⟨by rfl, ?_⟩) ⟨c3,⟨u0,u1,u2,u3⟩,⟨t0,t1,t2,t3⟩,q0,q1,q2,q3⟩ ?_
      rotate_left
      · intro W hS
        try dsimp only at hS
        go_split_ands
        go_simp
        try with_reducible rfl
      try simp only [Act.put, List.getElem_toArray, List.getElem_cons_zero, List.getElem_cons_succ, List.setIfInBounds_toArray, List.set_cons_zero, List.set_cons_succ]
      refine till_take (i := 13) (v := ?_) rfl (by kernel_rfl) (fun _ _ _ h => h) (Or.inl ⟨by rfl, ?_⟩) ⟨c3,⟨u0,u1,u2,u3⟩,⟨t0,t1,t2,t3⟩,q0,q1,q2,q3⟩ ?_
      rotate_left
      · intro W hS
        try dsimp only at hS
        go_split_ands
        go_simp
        try with_reducible rfl
      try simp only [Act.put, List.getElem_toArray, List.getElem_cons_zero, List.getElem_cons_succ, List.setIfInBounds_toArray, List.set_cons_zero, List.set_cons_succ]
      refine till_one (i := 4) (by kernel_rfl) rfl (fun K' hK => ?_)
      go_simp
      go_at_call 45
      (with_reducible refine (HC0.out _ (Below.refl v.heap.size v).drew).mono ?_)
      rintro y w1 ⟨rfl, bb⟩
      have HB1 := Lib.hid (((Below.refl v.heap.size v).drew).trans (bb.mono ((Below.refl v.heap.size v).drew).size))
      have c3' := cell_up (w := v.drew) c3 bb
      have u0' := cell_up (w := v.drew) u0 bb
      have u1' := cell_up (w := v.drew) u1 bb
      have u2' := cell_up (w := v.drew) u2 bb
      have u3' := cell_up (w := v.drew) u3 bb
      have t0' := cell_up (w := v.drew) t0 bb
      have t1' := cell_up (w := v.drew) t1 bb
      have t2' := cell_up (w := v.drew) t2 bb
      have t3' := cell_up (w := v.drew) t3 bb
      have q0' := cell_up (w := v.drew) q0 bb
      have q1' := cell_up (w := v.drew) q1 bb
      have q2' := cell_up (w := v.drew) q2 bb
      have q3' := cell_up (w := v.drew) q3 bb
      refine hK _ _ ⟨c3',⟨u0',u1',u2',u3'⟩,⟨t0',t1',t2',t3'⟩,q0',q1',q2',q3'⟩ ?_
      clear hK K' bb c3 u0 u1 u2 u3 t0 t1 t2 t3 q0 q1 q2 q3
      have c3 := c3'
      have u0 := u0'
      have u1 := u1'
      have u2 := u2'
      have u3 := u3'
      have t0 := t0'
      have t1 := t1'
      have t2 := t2'
      have t3 := t3'
      have q0 := q0'
      have q1 := q1'
      have q2 := q2'
      have q3 := q3'
      clear c3' u0' u1' u2' u3' t0' t1' t2' t3' q0' q1' q2' q3'
      try simp only [Act.put, List.getElem_toArray, List.getElem_cons_zero, List.getElem_cons_succ, List.setIfInBounds_toArray, List.set_cons_zero, List.set_cons_succ]
      refine till_one (i := 9) (by kernel_rfl) rfl (fun K' hK => ?_)
      go_simp
      go_at_call 45
      (with_reducible refine (HC1.out _ HB1.out).mono ?_)
      rintro y w2 ⟨rfl, bb⟩
      have HB2 := Lib.hid (HB1.out.trans (bb.mono HB1.out.size))
      have c3' := cell_up (w := w1) c3 bb
      have u0' := cell_up (w := w1) u0 bb
      have u1' := cell_up (w := w1) u1 bb
      have u2' := cell_up (w := w1) u2 bb
      have u3' := cell_up (w := w1) u3 bb
      have t0' := cell_up (w := w1) t0 bb
      have t1' := cell_up (w := w1) t1 bb
      have t2' := cell_up (w := w1) t2 bb
      have t3' := cell_up (w := w1) t3 bb
      have q0' := cell_up (w := w1) q0 bb
      have q1' := cell_up (w := w1) q1 bb
      have q2' := cell_up (w := w1) q2 bb
      have q3' := cell_up (w := w1) q3 bb
      refine hK _ _ ⟨c3',⟨u0',u1',u2',u3'⟩,⟨t0',t1',t2',t3'⟩,q0',q1',q2',q3'⟩ ?_
      clear hK K' bb c3 u0 u1 u2 u3 t0 t1 t2 t3 q0 q1 q2 q3
      have c3 := c3'
      have u0 := u0'
      have u1 := u1'
      have u2 := u2'
      have u3 := u3'
      have t0 := t0'
      have t1 := t1'
      have t2 := t2'
      have t3 := t3'
      have q0 := q0'
      have q1 := q1'
      have q2 := q2'
      have q3 := q3'
      clear c3' u0' u1' u2' u3' t0' t1' t2' t3' q0' q1' q2' q3'
      try simp only [Act.put, List.getElem_toArray, List.getElem_cons_zero, List.getElem_cons_succ, List.setIfInBounds_toArray, List.set_cons_zero, List.set_cons_succ]
      refine till_one (i := 14) (by kernel_rfl) rfl (fun K' hK => ?_)
      go_simp
      go_at_call 45
      (with_reducible refine (HC2.out _ HB2.out).mono ?_)
      rintro y w3 ⟨rfl, bb⟩
      have HB3 := Lib.hid (HB2.out.trans (bb.mono HB2.out.size))
      have c3' := cell_up (w := w2) c3 bb
      have u0' := cell_up (w := w2) u0 bb
      have u1' := cell_up (w := w2) u1 bb
      have u2' := cell_up (w := w2) u2 bb
      have u3' := cell_up (w := w2) u3 bb
      have t0' := cell_up (w := w2) t0 bb
      have t1' := cell_up (w := w2) t1 bb
      have t2' := cell_up (w := w2) t2 bb
      have t3' := cell_up (w := w2) t3 bb
      have q0' := cell_up (w := w2) q0 bb
      have q1' := cell_up (w := w2) q1 bb
      have q2' := cell_up (w := w2) q2 bb
      have q3' := cell_up (w := w2) q3 bb
      refine hK _ _ ⟨c3',⟨u0',u1',u2',u3'⟩,⟨t0',t1',t2',t3'⟩,q0',q1',q2',q3'⟩ ?_
      clear hK K' bb c3 u0 u1 u2 u3 t0 t1 t2 t3 q0 q1 q2 q3
      have c3 := c3'
      have u0 := u0'
      have u1 := u1'
      have u2 := u2'
      have u3 := u3'
      have t0 := t0'
      have t1 := t1'
      have t2 := t2'
      have t3 := t3'
      have q0 := q0'
      have q1 := q1'
      have q2 := q2'
      have q3 := q3'
      clear c3' u0' u1' u2' u3' t0' t1' t2' t3' q0' q1' q2' q3'
      try simp only [Act.put, List.getElem_toArray, List.getElem_cons_zero, List.getElem_cons_succ, List.setIfInBounds_toArray, List.set_cons_zero, List.set_cons_succ]
      refine till_take (i := 15) (v := ?_) rfl (by kernel_rfl) (fun _ _ _ h => h) (Or.inl ⟨by rfl, ?_⟩) ⟨c3,⟨u0,u1,u2,u3⟩,⟨t0,t1,t2,t3⟩,q0,q1,q2,q3⟩ ?_
      rotate_left
      · intro W hS
        try dsimp only at hS
        go_split_ands
        go_simp
        try with_reducible rfl
      try simp only [Act.put, List.getElem_toArray, List.getElem_cons_zero, List.getElem_cons_succ, List.setIfInBounds_toArray, List.set_cons_zero, List.set_cons_succ]
      refine till_take (i := 16) (v := ?_) rfl (by kernel_rfl) (fun _ _ _ h => h) (Or.inl ⟨by rfl, ?_⟩) ⟨c3,⟨u0,u1,u2,u3⟩,⟨t0,t1,t2,t3⟩,q0,q1,q2,q3⟩ ?_
      rotate_left
      · intro W hS
        try dsimp only at hS
        go_split_ands
        go_simp
        try with_reducible rfl
      try simp only [Act.put, List.getElem_toArray, List.getElem_cons_zero, List.getElem_cons_succ, List.setIfInBounds_toArray, List.set_cons_zero, List.set_cons_succ]
      refine till_last (by kernel_rfl) rfl (by kernel_rfl) (fun K' hK => ?_)
      go_simp
      refine hK _ _ ?_
      clear hK K'
      refine wpAny_done (by kernel_rfl) ?_ _
      have HBF := Lib.hid (HB0.out.trans (HB3.out.mono HB0.out.size))
      clear HB1 HB2 HB3 HC0 HC1 HC2 c3 u0 u1 u2 u3 t0 t1 t2 t3 q0 q1 q2 q3
      by_cases hk0 : K0 = 2
      · subst hk0
        by_cases hk1 : K1 = K2
        · subst hk1
          obtain rfl : R = K1 := by rw [HKO.out, if_pos ⟨rfl, rfl⟩]
          clear HKO
          go_wp2_with fail
          go_ret
          exact ⟨rfl, HBF.out⟩
        · have hk1' : (K1 == K2) = false := beq_eq_false_iff_ne.2 hk1
          obtain rfl : R = 0 := by rw [HKO.out, if_neg (fun h => hk1 h.2)]
          clear HKO
          go_wp2_with fail
          go_ret
          exact ⟨rfl, HBF.out⟩
      · have hk0' : (K0 == 2) = false := beq_eq_false_iff_ne.2 hk0
        obtain rfl : R = 0 := by rw [HKO.out, if_neg (fun h => hk0 h.1)]
        clear HKO
        go_wp2_with fail
        go_ret
        exact ⟨rfl, HBF.out⟩
    · have h21' : (op == 21) = false := beq_eq_false_iff_ne.2 h21
      have HNO := Lib.hid (fun (j : Nat) x (hx : args[j]? = some x) (hne : kE x ≠ needK op) => kOf_no (l := args.map kE) h21 (by rw [List.getElem?_map, hx]; rfl) hne)
      have HYES : Hid ((∀ (j : Nat) x, args[j]? = some x → kE x = needK op) → kOf op (args.map kE) = isK op) := fun h => kOf_yes h21 (fun j x hx => by
        rw [List.getElem?_map] at hx
        cases hc : args[j]? with
        | none => rw [hc] at hx; cases hx
        | some c => rw [hc] at hx; injection hx with hx; subst hx; exact h j c hc)
      clear h21
      generalize kOf op (args.map kE) = R at *
      go_enter Try.func45, Try.ntmps45
      go_upto_region 1 with (fail)
      generalize w.alloc (.cells #[.int .i64 op, .int .i64 no, .string nm, .slice a len cap] 53) = v at *
      obtain ⟨c0, c1, c2, c3, -, -, -, -⟩ := blk4 BX.out
      go_wp2_with fail
      go_at_call 59
      (with_reducible refine (operands_any _ _).mono ?_)
      rintro y w' ⟨rfl, rfl⟩
      generalize needK op = nd at *
      generalize isK op = is at *
      go_wp2_with fail
      clear c0 c1 c2 c3
      go_loopw [45] (fun i wr => ∃ k : Nat, i = .int .i64 (k : Nat) ∧ k ≤ len ∧ Hid (Below w.heap.size w wr ∧ ∀ (j : Nat) x, j < k → args[j]? = some x → kE x = nd)) (fun i _ => len - (intOf i).toNat)
      case atStart => exact ⟨0, rfl, Nat.zero_le _, HB0.out, fun j x h => by omega⟩
      case round =>
        clear HB0 BX
        obtain ⟨k, rfl, hk, HR⟩ := hrel
        by_cases hlt : k < len
        · obtain ⟨b, o, cop, cn, cnm, cargs, ca, clen, ccap, rfl, -, -, hxe, j1, j2, j3, hSc, v0, v1, v2, v3⟩ := (HSS.out.kept (Kept.of_below HR.out.1 [])).at k hlt
          have j1' : (k : Int) < (len : Int) := by omega
          have j0' : (0 : Int) ≤ (k : Int) := by omega
          have HXE := Lib.hid hxe
          have HSC := Lib.hid (RepE.mk' j1 j2 j3 hSc)
          clear hxe j1 j2 j3 hSc
          go_upto_region 10 with (fail)
          have hfa := (Below.refl wr.heap.size wr).alloc (Nat.le_refl _) (.cells #[.int .i64 cop, .int .i64 cn, .string cnm, .slice ca clen ccap] 53)
          have BV := Lib.hid (Mem.Blk.new wr 53 #[.int .i64 cop, .int .i64 cn, .string cnm, .slice ca clen ccap])
          have HV := Lib.hid (HR.out.1.trans (hfa.mono HR.out.1.size))
          have HC := Lib.hid (HI.out k _ HXE.out _ _ (HSC.out.kept (Kept.of_below hfa [])))
          have HP := Lib.hid HR.out.2
          clear hfa HR HSC v0 v1 v2 v3
          generalize wr.alloc (.cells #[.int .i64 cop, .int .i64 cn, .string cnm, .slice ca clen ccap] 53) = v at *
          generalize wr.heap.size = z at *
          obtain ⟨u0, u1, u2, u3, -, -, -, -⟩ := blk4 BV.out
          have HX2 : Hid (∀ x, args[k]? = some x → kE x = kE (Ex.mk cop cn cnm cargs)) := fun x hx => by rw [HXE.out] at hx; injection hx with hx; rw [hx]
          have HX3 : Hid (kE (Ex.mk cop cn cnm cargs) ≠ nd → R = 0) := fun h => HNO.out k _ HXE.out h
          generalize kE (Ex.mk cop cn cnm cargs) = kc at *
          by_cases hkc : kc = nd
          · subst hkc
            go_wp2_with fail
            go_at_call 45
            (with_reducible refine HC.out.mono ?_)
            rintro y w2 ⟨rfl, bb⟩
            have FIN : Hid (Below w.heap.size w w2 ∧ ∀ (j : Nat) x, j < k + 1 → args[j]? = some x → kE x = kc) := ⟨HV.out.trans (bb.mono HV.out.size), fun j x hj hx => by
              rcases Nat.eq_or_lt_of_le (Nat.le_of_lt_succ hj) with rfl | h
              · exact HX2.out x hx
              · exact HP.out j x h hx⟩
            clear bb HC HV HP BV u0 u1 u2 u3 HX2 HX3 HNO HYES
            go_wp2_with fail
            go_roundw
            case rel => exact ⟨k + 1, by go_num, by omega, FIN.out⟩
            case measure => simp [intOf]; omega
          · have hR := HX3.out hkc
            have hkc' : (kc == nd) = false := beq_eq_false_iff_ne.2 hkc
            clear HX2 HX3 HNO HYES HP
            subst hR
            go_wp2_with fail
            go_at_call 45
            (with_reducible refine HC.out.mono ?_)
            rintro y w2 ⟨rfl, bb⟩
            have HF := Lib.hid (HV.out.trans (bb.mono HV.out.size))
            clear bb HC HV BV u0 u1 u2 u3
            go_wp2_with fail
            go_ret
            exact ⟨rfl, HF.out⟩
        · have hk' : ¬ (k : Int) < (len : Int) := by omega
          have hR : R = is := HYES.out (fun j x hx => HR.out.2 j x (by have h1 := (List.getElem?_eq_some_iff.1 hx).1; have h2 := HL.out; omega) hx)
          have HF := Lib.hid HR.out.1
          clear HR HNO HYES
          subst hR
          go_wp2_with fail
          go_ret
          exact ⟨rfl, HF.out⟩
end Go.Proofs.Ytmiinmndbkdjbaa

/- The contracts of earlier and told. -/
namespace Go.Proofs.Ytmiinmndbkdjbaa
set_option linter.unusedVariables false
set_option linter.unusedSimpArgs false
open Go.RowKit
/-- A node ahead of a place: below 0 where there is none. -/
def earl (k n : Int) : Int := if n = 0 then -1 else n - 1 - (IntKind.u64.wrap k) % n
theorem earl_bd (k n : Int) (h : 0 ≤ n) : -1 ≤ earl k n ∧ earl k n < n ∨ n = 0 ∧ earl k n = -1 := by
  unfold earl
  by_cases h0 : n = 0
  · rw [if_pos h0]; exact .inr ⟨h0, rfl⟩
  · rw [if_neg h0]
    have h1 := Int.emod_nonneg (IntKind.u64.wrap k) h0
    have h2 := Int.emod_lt_of_pos (IntKind.u64.wrap k) (show 0 < n by omega)
    generalize IntKind.u64.wrap k % n = r at *
    left; omega
theorem u64_nonneg (k : Int) : 0 ≤ IntKind.u64.wrap k := by
  simp [IntKind.wrap, IntKind.signed, IntKind.bits]
  omega
theorem ret_earl (k n : Int) (h0 : 0 ≤ n) (h1 : n ≤ 1000) (hz : ¬n = 0) : Ending.returned (.int .i64 (wrap64 (n - 1 - wrap64 ((IntKind.u64.wrap k).tmod n)))) = .returned (.int .i64 (earl k n)) := by
  unfold earl
  rw [if_neg hz, Int.tmod_eq_emod_of_nonneg (u64_nonneg k)]
  have a1 := Int.emod_nonneg (IntKind.u64.wrap k) hz
  have a2 := Int.emod_lt_of_pos (IntKind.u64.wrap k) (show 0 < n by omega)
  generalize IntKind.u64.wrap k % n = r at *
  rw [IntWalk.wrap64_in r ⟨by omega, by omega⟩, IntWalk.wrap64_in (n - 1 - r) ⟨by omega, by omega⟩]
set_option maxHeartbeats 1000000 in
theorem earlier_any (k n : Int) (w : World) (h0 : 0 ≤ n) (h1 : n ≤ 1000) : Calls Try.prog 33 #[.int .i64 k, .int .i64 n] w fun e w' => e = .returned (.int .i64 (earl k n)) ∧ w = w' := by
  by_cases hz : n = 0
  · subst hz
    go_enter Try.func33, Try.ntmps33
    go_wp2
    go_ret
    exact ⟨rfl, rfl⟩
  · have t1 : (n == 0) = false := beq_eq_false_iff_ne.2 hz
    go_enter Try.func33, Try.ntmps33
    go_wp2
    go_ret
    exact ⟨ret_earl _ _ h0 h1 hz, rfl⟩
set_option maxHeartbeats 1000000 in
theorem told_great (a b : Int) (w : World) (h : 1000 ≤ a ∨ 1000 ≤ b) : Calls Try.prog 34 #[.int .i64 a, .int .i64 b] w fun e w' => e = .returned (.tuple #[.int .i64 1000, .int .i64 1000]) ∧ w = w' := by
  by_cases ha : 1000 ≤ a
  · go_enter Try.func34, Try.ntmps34
    go_wp2
    go_ret2
    exact ⟨rfl, rfl⟩
  · have hb : 1000 ≤ b := by omega
    go_enter Try.func34, Try.ntmps34
    go_wp2
    go_ret2
    exact ⟨rfl, rfl⟩
set_option maxHeartbeats 1000000 in
theorem told_small (a b : Int) (w : World) (ha : a < 1000) (hb : b < 1000) : Calls Try.prog 34 #[.int .i64 a, .int .i64 b] w fun e w' => e = .returned (.tuple #[.int .i64 a, .int .i64 b]) ∧ w = w' := by
  have ha' : ¬ 1000 ≤ a := by omega
  have hb' : ¬ 1000 ≤ b := by omega
  go_enter Try.func34, Try.ntmps34
  go_wp2
  go_ret2
  exact ⟨rfl, rfl⟩
theorem told_cnt {k S M : Nat} {N D : Int} (h : Cnt k S M N D) (hM : M < 1000) (w : World) : Calls Try.prog 34 #[.int .i64 N, .int .i64 D] w fun e w' => e = .returned (.tuple #[.int .i64 (ndI S), .int .i64 (rkI S M)]) ∧ w = w' := by
  by_cases hg : 1000 ≤ N ∨ 1000 ≤ D
  · obtain ⟨e1, e2⟩ := h.great hM hg
    rw [e1, e2]
    exact told_great N D w hg
  · obtain ⟨e1, e2⟩ := h.small (by omega) (by omega)
    rw [e1, e2]
    exact told_small N D w (by omega) (by omega)
end Go.Proofs.Ytmiinmndbkdjbaa
