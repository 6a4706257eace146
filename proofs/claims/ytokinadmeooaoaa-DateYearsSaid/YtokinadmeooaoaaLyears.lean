/- The walk of the law DateYears: it returns true, for any three numbers. -/
import Derived.Test.YtokinadmeooaoaaBo
import Derived.Test.YtokinadmeooaoaaDk
namespace Go.Proofs.Ytokinadmeooaoaa
open Go.RowKit
set_option maxHeartbeats 1000000 in
theorem law_years (a b basis : Int) (w : World) (_h0 : (Lit.int .i64 a).wf = true) (_h1 : (Lit.int .i64 b).wf = true) (_h2 : (Lit.int .i64 basis).wf = true) :
    Calls Try.prog 4 #[.int .i64 a, .int .i64 b, .int .i64 basis] w fun e w' => e = .returned (.bool true) ∧ Below w.heap.size w w' := by
  have CA := Lib.hid (fun W => years_any a b basis W)
  have CB := Lib.hid (fun W => ryears_any a b basis W)
  clear _h0 _h1 _h2
  generalize yrs a b basis = o at *
  have hy := Lib.hid (show yRet o = .tuple #[.agg #[.int .i64 (yP o), .int .i64 (yQ o)], .bool (yB o)] from rfl)
  generalize yP o = p at *
  generalize yQ o = q at *
  generalize yB o = ok at *
  rw [hy.out] at CA CB
  go_enter Try.func4, Try.ntmps4
  go_wp2_with fail
  refine (CA.out _).mono ?_; rintro e w1 ⟨rfl, b1⟩
  go_wp2_with fail
  refine (CB.out _).mono ?_; rintro e w2 ⟨rfl, b2⟩
  obtain ⟨c0, c1, f0, f1⟩ := ((Mem.Blk.new w1 29 #[.int .i64 p, .int .i64 q]).below b2).two
  have t2 := Lib.hid ((b1.alloc b1.size _).trans (b2.mono (Nat.le_trans b1.size (by simp))))
  have hs := Lib.hid (Nat.le_trans b1.size (Nat.le_trans (show w1.heap.size ≤ (w1.alloc (.cells #[.int .i64 p, .int .i64 q] 29)).heap.size by simp) b2.size))
  have hc := Lib.hid (show ∀ W : World, Below w2.heap.size w2 W → Below w.heap.size w W from fun W hW => t2.out.trans (hW.mono hs.out))
  have hlt : w1.heap.size < w2.heap.size := by have := b2.size; simp at this; omega
  clear b1 b2
  go_wp2_with fail
  refine (awake_true _).mono ?_; rintro e w3 ⟨rfl, b3⟩
  go_wp2
  go_ret
  exact ⟨rfl, hc.out _ (((Below.refl _ _).alloc (Nat.le_refl _) _).trans (b3.mono (by simp)))⟩
end Go.Proofs.Ytokinadmeooaoaa
