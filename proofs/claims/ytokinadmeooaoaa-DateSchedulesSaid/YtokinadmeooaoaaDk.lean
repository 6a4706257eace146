/- awake returns true; no conditions. -/
import Derived.Test.YtokinadmeooaoaaNc
import Derived.Test.YtokinadmeooaoaaDc
import Derived.Test.YtokinadmeooaoaaDf
namespace Go.Proofs.Ytokinadmeooaoaa
open Go.RowKit
theorem aw1 : ofN 2024 1 31 = 19753 ∧ vB 2024 1 31 = true := by decide +kernel
theorem aw2 : monN 19753 1 = 19782 ∧ monB 19753 1 = true := by decide +kernel
theorem aw3 : ofN 2023 1 31 = 19388 ∧ vB 2023 1 31 = true := by decide +kernel
theorem aw4 : ofN 2023 3 31 = 19447 ∧ vB 2023 3 31 = true := by decide +kernel
theorem aw5 : yP (yrs 19388 19447 2) = 1 ∧ yQ (yrs 19388 19447 2) = 6 ∧ yB (yrs 19388 19447 2) = true := by decide +kernel
theorem aw5' : Ending.returned (yRet (yrs 19388 19447 2)) = .returned (.tuple #[.agg #[.int .i64 1, .int .i64 6], .bool true]) := by
  unfold yRet; rw [aw5.1, aw5.2.1, aw5.2.2]
theorem aw6 : dtext 19782 = ⟨#[50, 48, 50, 52, 45, 48, 50, 45, 50, 57]⟩ := by
  unfold dtext; rw [if_pos (by decide)]; decide +kernel
set_option maxHeartbeats 400000 in
theorem awake_true (w : World) : Calls Try.prog 15 #[] w fun e w' => e = .returned (.bool true) ∧ Below w.heap.size w w' := by
  go_enter Try.func15, Try.ntmps15
  go_wp2_with fail
  refine (of_any _ _ _ _).mono ?_; rintro e w' ⟨rfl, rfl⟩
  rw [aw1.1, aw1.2]
  go_wp2_with fail
  refine (months_any _ _ _).mono ?_; rintro e w' ⟨rfl, rfl⟩
  rw [aw2.1, aw2.2]
  go_wp2_with fail
  refine (of_any _ _ _ _).mono ?_; rintro e w' ⟨rfl, rfl⟩
  rw [aw3.1, aw3.2]
  go_wp2_with fail
  refine (of_any _ _ _ _).mono ?_; rintro e w' ⟨rfl, rfl⟩
  rw [aw4.1, aw4.2]
  go_wp2_with fail
  refine (years_any _ _ _ _).mono ?_; rintro e w1 ⟨he, b1⟩
  rw [aw5'] at he
  subst he
  go_wp2_with fail
  refine (print_any _ _).mono ?_; rintro e w2 ⟨rfl, b2⟩
  rw [aw6]
  obtain ⟨c0, c1, _, _⟩ := ((Mem.Blk.new w1 29 #[.int .i64 1, .int .i64 6]).below b2).two
  go_wp2
  go_ret
  exact ⟨rfl, (b1.alloc b1.size _).trans (b2.mono (Nat.le_trans b1.size (by simp)))⟩
end Go.Proofs.Ytokinadmeooaoaa
