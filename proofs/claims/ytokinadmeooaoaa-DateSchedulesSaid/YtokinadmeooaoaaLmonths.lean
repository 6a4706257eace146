/- The walk of the law DateMonths: it returns true, for any two numbers. -/
import Derived.Test.YtokinadmeooaoaaDk
import Derived.Test.YtokinadmeooaoaaDj
namespace Go.Proofs.Ytokinadmeooaoaa
open Go.RowKit
theorem monN_nonneg (n k : Int) : 0 ≤ monN n k := by
  unfold monN
  split
  · rename_i h
    exact (Cal.num_range _ _ _ ((monB_iff n k).1 h).2).1
  · omega
theorem told_mon (n k : Int) : toldB (monN n k) (monB n k) (refMon n k) = true := by
  have h0 := monN_nonneg n k
  unfold toldB refMon
  cases h : monB n k
  · have : monN n k = 0 := by unfold monN; rw [h]; rfl
    rw [this]; rfl
  · simp [h0]
theorem law_months (n k : Int) (w : World) (_h0 : (Lit.int .i64 n).wf = true) (_h1 : (Lit.int .i64 k).wf = true) :
    Calls Try.prog 3 #[.int .i64 n, .int .i64 k] w fun e w' => e = .returned (.bool true) ∧ Below w.heap.size w w' := by
  have HT := Lib.hid (told_mon n k)
  clear _h0 _h1
  go_enter Try.func3, Try.ntmps3
  go_wp2_with fail
  refine (months_any _ _ _).mono ?_; rintro e w' ⟨rfl, rfl⟩
  go_wp2_with fail
  refine (rmon_any _ _ _).mono ?_; rintro e w1 ⟨rfl, b1⟩
  go_wp2_with fail
  refine (told_any _ _ _ _).mono ?_; rintro e w' ⟨rfl, rfl⟩
  rw [HT.out]
  go_wp2_with fail
  refine (awake_true _).mono ?_; rintro e w2 ⟨rfl, b2⟩
  go_wp2
  go_ret
  exact ⟨rfl, b1.trans (b2.mono b1.size)⟩
end Go.Proofs.Ytokinadmeooaoaa
