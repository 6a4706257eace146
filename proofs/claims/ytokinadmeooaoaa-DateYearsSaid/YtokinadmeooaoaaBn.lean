/- Ratio of two numbers that are not great, the second above nought: in form. -/
import Derived.Test.YtokinadmeooaoaaBm
import Derived.Test.YtokinadmeooaoaaNc
namespace Go.Proofs.Ytokinadmeooaoaa
open Go.RowKit
theorem rt_cells {w w' : World} {x1 y1 x2 y2 x3 y3 : Value} (hb : Below (w.heap.size + 3) (((w.alloc (.cells #[x1, y1] 64)).alloc (.cells #[x2, y2] 64)).alloc (.cells #[x3, y3] 29)) w') :
    w'.cell? ⟨w.heap.size, 0, none⟩ = some x1 ∧ w'.cell? ⟨w.heap.size, 1, none⟩ = some y1 ∧ w'.cell? ⟨w.heap.size + 1, 0, none⟩ = some x2 ∧ w'.cell? ⟨w.heap.size + 1, 1, none⟩ = some y2 := by
  have e1 : (w.alloc (.cells #[x1, y1] 64)).heap.size = w.heap.size + 1 := by simp
  have B1 : Mem.Blk w' w.heap.size 64 #[x1, y1] := (((Mem.Blk.new w 64 #[x1, y1]).alloc _).alloc _).call hb (by omega)
  have B2 : Mem.Blk w' (w.heap.size + 1) 64 #[x2, y2] := by
    have := (Mem.Blk.new (w.alloc (.cells #[x1, y1] 64)) 64 #[x2, y2]).alloc (.cells #[x3, y3] 29)
    rw [e1] at this; exact this.call hb (by omega)
  exact ⟨B1.two.1, B1.two.2.1, B2.two.1, B2.two.2.1⟩
theorem rt_blk {w w' : World} {x1 y1 x2 y2 x3 y3 : Value} (hb : Below (w.heap.size + 3) (((w.alloc (.cells #[x1, y1] 64)).alloc (.cells #[x2, y2] 64)).alloc (.cells #[x3, y3] 29)) w') : Mem.Blk w' (w.heap.size + 2) 29 #[x3, y3] := by
  have e2 : ((w.alloc (.cells #[x1, y1] 64)).alloc (.cells #[x2, y2] 64)).heap.size = w.heap.size + 2 := by simp
  have := Mem.Blk.new ((w.alloc (.cells #[x1, y1] 64)).alloc (.cells #[x2, y2] 64)) 29 #[x3, y3]
  rw [e2] at this; exact this.call hb (by omega)
theorem rt_bel (w : World) (x1 y1 x2 y2 x3 y3 : Value) : Below w.heap.size w (((w.alloc (.cells #[x1, y1] 64)).alloc (.cells #[x2, y2] 64)).alloc (.cells #[x3, y3] 29)) :=
  (((Below.refl _ _).alloc (Nat.le_refl _) _).alloc (by simp) _).alloc (by simp; omega) _
theorem rt_size (w : World) (x1 y1 x2 y2 x3 y3 : Value) : (((w.alloc (.cells #[x1, y1] 64)).alloc (.cells #[x2, y2] 64)).alloc (.cells #[x3, y3] 29)).heap.size = w.heap.size + 3 := by simp
theorem Md.int (n : Nat) (h : n ≤ 9223372036854775808) : Md n := by
  refine Md.of (Nat.lt_of_lt_of_le ?_ (Big.pw_mono (show 5 ≤ 900 by decide)))
  show n < 65536 ^ 5
  omega
theorem sg_small (s : Bool) (n : Nat) (h : n ≤ 4611686018427387904) : smN (sg s n) = sg s n ∧ smB (sg s n) = true := by
  have e : smB (sg s n) = true := by unfold smB sg; cases s <;> simp <;> omega
  refine ⟨?_, e⟩
  unfold smN; rw [e]; rfl
set_option maxHeartbeats 4000000 in
theorem ratio_any (u v : Value) (z : Int) (d : Nat) (w : World) (hu : BigR w u z) (hv : BigR w v (d : Int)) (hz : z.natAbs ≤ 4611686018427387904) (hd : d ≤ 4611686018427387904) (hd0 : 0 < d) :
    Calls Try.prog 39 #[u, v] w fun e w' => e = .returned (.tuple #[.agg #[.int .i64 (sg (decide (z < 0)) (z.natAbs / Nat.gcd z.natAbs d)), .int .i64 (sg false (d / Nat.gcd z.natAbs d))], .bool true]) ∧ Below w.heap.size w w' := by
  obtain ⟨m, rfl, hm⟩ := hu
  obtain ⟨m', rfl, hm'⟩ := hv
  have ed : (d : Int).natAbs = d := by omega
  have es : decide ((d : Int) < 0) = false := by simp
  rw [ed] at hm'
  rw [es]
  clear ed es
  generalize z.natAbs = N at *
  have G0 : 0 < Nat.gcd N d := Nat.gcd_pos_of_pos_right _ hd0
  have L1 : N / Nat.gcd N d ≤ 4611686018427387904 := Nat.le_trans (Nat.div_le_self _ _) hz
  have L2 : d / Nat.gcd N d ≤ 4611686018427387904 := Nat.le_trans (Nat.div_le_self _ _) hd
  have MG := Lib.hid (Md.int (Nat.gcd N d) (by have := Nat.gcd_le_right N hd0; omega))
  have M1 := Lib.hid (Md.int N (by omega))
  have M2 := Lib.hid (Md.int d (by omega))
  generalize hG : Nat.gcd N d = G at *
  have HGG := Lib.hid hG
  clear hG
  generalize decide (z < 0) = s at *
  have S1 := Lib.hid (sg_small s (N / G) L1)
  have S2 := Lib.hid (sg_small false (d / G) L2)
  have Z1 := Lib.hid (show Sm (sg s (N / G)).natAbs by rw [sg_abs]; exact Sm.int _ (by omega))
  have Z2 := Lib.hid (show Sm (sg false (d / G)).natAbs by rw [sg_abs]; exact Sm.int _ (by omega))
  have Y1 := Lib.hid (show sg s (N / G) ≤ 9223372036854775807 by have h := L1; revert h; generalize N / G = q; intro h; unfold sg; split <;> omega)
  have Y2 := Lib.hid (show sg false (d / G) ≤ 9223372036854775807 by have h := L2; revert h; generalize d / G = q; intro h; unfold sg; split <;> omega)
  have HU := Lib.hid hm
  have HV := Lib.hid hm'
  have GP := Lib.hid G0
  obtain ⟨a, len, cap, l, rfl, h1, h2, h3⟩ := hm
  obtain ⟨a', len', cap', l', rfl, h1', h2', h3'⟩ := hm'
  have hlp : ((len' : Int) == 0) = false := by
    have := MagR.zero h1' h2' h3'
    simp; omega
  clear h1 h2 h3 h1' h2' h3' L1 L2 G0 hz hd hd0
  have T := Lib.hid (rt_bel w (.bool s) (.slice a len cap) (.bool false) (.slice a' len' cap') (.int .i64 0) (.int .i64 0))
  have TB := Lib.hid (fun w' hb => rt_blk (w := w) (w' := w') (x1 := .bool s) (y1 := .slice a len cap) (x2 := .bool false) (y2 := .slice a' len' cap') (x3 := .int .i64 0) (y3 := .int .i64 0) hb)
  have TC := Lib.hid (fun w' hb => rt_cells (w := w) (w' := w') (x1 := .bool s) (y1 := .slice a len cap) (x2 := .bool false) (y2 := .slice a' len' cap') (x3 := .int .i64 0) (y3 := .int .i64 0) hb)
  have TS := Lib.hid (rt_size w (.bool s) (.slice a len cap) (.bool false) (.slice a' len' cap') (.int .i64 0) (.int .i64 0))
  go_enter Try.func39, Try.ntmps39
  go_wp2_with fail
  refine (gcd_any _ _ N d _ (HU.out.below T.out) (HV.out.below T.out) M1.out M2.out).mono ?_
  rintro e w1 ⟨⟨g, rfl, hg⟩, b1⟩
  rw [HGG.out] at hg
  have k1 : Hid (Below (w.heap.size + 3) _ w1) := b1.mono (Nat.le_of_eq TS.out.symm)
  have t1 := Lib.hid (T.out.trans (k1.out.mono (by omega)))
  obtain ⟨c1, c2, c3, c4⟩ := TC.out w1 k1.out
  have HG := Lib.hid hg
  obtain ⟨ag, lg, cg, dg, rfl, q1, q2, q3⟩ := hg
  clear q1 q2 q3 b1
  go_wp2_with fail
  refine (div_any _ _ N G _ (HU.out.below t1.out) HG.out GP.out M1.out MG.out).mono ?_
  rintro e w2 ⟨⟨q, r, rfl, hq, hr⟩, b2⟩
  have HG2 := Lib.hid (HG.out.below b2)
  have k2 : Hid (Below (w.heap.size + 3) _ w2) := k1.out.trans (b2.mono (Nat.le_trans (Nat.le_of_eq TS.out.symm) k1.out.size))
  have t2 := Lib.hid (T.out.trans (k2.out.mono (by omega)))
  clear c1 c2 c3 c4 b2 hr
  obtain ⟨c1, c2, c3, c4⟩ := TC.out w2 k2.out
  have HQ := Lib.hid hq
  clear hq
  go_wp2_with fail
  refine (div_any _ _ d G _ (HV.out.below t2.out) HG2.out GP.out M2.out MG.out).mono ?_
  rintro e w3 ⟨⟨q', r', rfl, hq', hr'⟩, b3⟩
  have HQ3 := Lib.hid (HQ.out.below b3)
  have k3 : Hid (Below (w.heap.size + 3) _ w3) := k2.out.trans (b3.mono (Nat.le_trans (Nat.le_of_eq TS.out.symm) k2.out.size))
  clear c1 c2 c3 c4 b3 hr'
  obtain ⟨c1, c2, c3, c4⟩ := TC.out w3 k3.out
  have HQ' := Lib.hid hq'
  clear hq'
  go_wp2_with fail
  refine (sign_any _ _ _ _ HQ3.out).mono ?_
  rintro e w4 ⟨⟨r4, rfl, hr4⟩, b4⟩
  have HR4 := Lib.hid hr4
  have k4 : Hid (Below (w.heap.size + 3) _ w4) := k3.out.trans (b4.mono (Nat.le_trans (Nat.le_of_eq TS.out.symm) k3.out.size))
  have HQ4 := Lib.hid (HQ'.out.below b4)
  clear c1 c2 c3 c4 b4 hr4
  go_wp2_with fail
  refine (small_le _ _ _ HR4.out Z1.out Y1.out).mono ?_
  rintro e w5 ⟨rfl, b5⟩
  rw [S1.out.1, S1.out.2]
  have k5 : Hid (Below (w.heap.size + 3) _ w5) := k4.out.trans (b5.mono (Nat.le_trans (Nat.le_of_eq TS.out.symm) k4.out.size))
  have HQ5 := Lib.hid (HQ4.out.below b5)
  clear b5
  go_wp2_with fail
  refine (sign_any _ _ _ _ HQ5.out).mono ?_
  rintro e w6 ⟨⟨r6, rfl, hr6⟩, b6⟩
  have HR6 := Lib.hid hr6
  have k6 : Hid (Below (w.heap.size + 3) _ w6) := k5.out.trans (b6.mono (Nat.le_trans (Nat.le_of_eq TS.out.symm) k5.out.size))
  clear b6 hr6
  go_wp2_with fail
  refine (small_le _ _ _ HR6.out Z2.out Y2.out).mono ?_
  rintro e w7 ⟨rfl, b7⟩
  rw [S2.out.1, S2.out.2]
  have k7 : Hid (Below (w.heap.size + 3) _ w7) := k6.out.trans (b7.mono (Nat.le_trans (Nat.le_of_eq TS.out.symm) k6.out.size))
  have t7 := Lib.hid (T.out.trans (k7.out.mono (by omega)))
  obtain ⟨c1, c2, f1, f2⟩ := (TB.out w7 k7.out).two
  clear b7
  go_wp2
  refine bodyPost_ret (v := .tuple #[.agg #[.int .i64 (sg s (N / G)), .int .i64 (sg false (d / G))], .bool true]) (by simp [results, Try.results39, go_sem, c1, c2]) rfl ⟨rfl, ?_⟩
  exact (t7.out.setCell (by simp; omega) _).setCell (by simp; omega) _
theorem form_small (s : Bool) (N d : Nat) (hz : N ≤ 4611686018427387904) (hd : d ≤ 4611686018427387904) :
    formP s N d = sg s (N / Nat.gcd N d) ∧ formQ s N d = sg false (d / Nat.gcd N d) ∧ formB s N d = true := by
  have L1 : N / Nat.gcd N d ≤ 4611686018427387904 := Nat.le_trans (Nat.div_le_self _ _) hz
  have L2 : d / Nat.gcd N d ≤ 4611686018427387904 := Nat.le_trans (Nat.div_le_self _ _) hd
  have e1 : (N : Int) / (Nat.gcd N d : Nat) = ((N / Nat.gcd N d : Nat) : Int) := by omega
  have e2 : (d : Int) / (Nat.gcd N d : Nat) = ((d / Nat.gcd N d : Nat) : Int) := by omega
  have hB : formB s N d = true := by
    unfold formB narB; rw [e1, e2]
    cases s <;> simp <;> omega
  refine ⟨?_, ?_, hB⟩
  · unfold formP; rw [if_pos hB, e1]; generalize N / Nat.gcd N d = q at *; unfold narN sgn sg wrap64; cases s <;> simp only [Bool.false_eq_true, if_false, if_true] <;> omega
  · unfold formQ; rw [if_pos hB, e2]; rfl
theorem yRet_ref (o : Option (Int × Nat)) (n : Int) (d : Nat) (h : o = some (n, d)) (hz : n.natAbs ≤ 4611686018427387904) (hd : d ≤ 4611686018427387904) :
    Ending.returned (.tuple #[.agg #[.int .i64 (sg (decide (n < 0)) (n.natAbs / Nat.gcd n.natAbs d)), .int .i64 (sg false (d / Nat.gcd n.natAbs d))], .bool true]) = .returned (yRet o) := by
  obtain ⟨h1, h2, h3⟩ := form_small (decide (n < 0)) n.natAbs d hz hd
  rw [← yRet_some o n d h, h1, h2, h3]
end Go.Proofs.Ytokinadmeooaoaa
