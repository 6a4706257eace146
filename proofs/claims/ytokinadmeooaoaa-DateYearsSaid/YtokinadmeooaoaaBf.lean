import Derived.Test.YtokinadmeooaoaaBe
import Derived.Deep.RegionHeld3
namespace Go.Proofs.Ytokinadmeooaoaa
open Go.RowKit
theorem three_cells {w w' : World} {x1 y1 x2 y2 x3 y3 : Value} (hb : Below (w.heap.size + 3) (((w.alloc (.cells #[x1, y1] 64)).alloc (.cells #[x2, y2] 64)).alloc (.cells #[x3, y3] 64)) w') :
    w'.cell? ⟨w.heap.size, 0, none⟩ = some x1 ∧ w'.cell? ⟨w.heap.size, 1, none⟩ = some y1 ∧ w'.cell? ⟨w.heap.size + 1, 0, none⟩ = some x2 ∧ w'.cell? ⟨w.heap.size + 1, 1, none⟩ = some y2 ∧ w'.cell? ⟨w.heap.size + 2, 0, none⟩ = some x3 ∧ w'.cell? ⟨w.heap.size + 2, 1, none⟩ = some y3 ∧ w'.frozen? ⟨w.heap.size + 2, 0, none⟩ = false ∧ w'.frozen? ⟨w.heap.size + 2, 1, none⟩ = false := by
  have e1 : (w.alloc (.cells #[x1, y1] 64)).heap.size = w.heap.size + 1 := by simp
  have e2 : ((w.alloc (.cells #[x1, y1] 64)).alloc (.cells #[x2, y2] 64)).heap.size = w.heap.size + 2 := by simp
  have B1 : Mem.Blk w' w.heap.size 64 #[x1, y1] := (((Mem.Blk.new w 64 #[x1, y1]).alloc _).alloc _).call hb (by omega)
  have B2 : Mem.Blk w' (w.heap.size + 1) 64 #[x2, y2] := by
    have := (Mem.Blk.new (w.alloc (.cells #[x1, y1] 64)) 64 #[x2, y2]).alloc (.cells #[x3, y3] 64)
    rw [e1] at this; exact this.call hb (by omega)
  have B3 : Mem.Blk w' (w.heap.size + 2) 64 #[x3, y3] := by
    have := Mem.Blk.new ((w.alloc (.cells #[x1, y1] 64)).alloc (.cells #[x2, y2] 64)) 64 #[x3, y3]
    rw [e2] at this; exact this.call hb (by omega)
  obtain ⟨a1, a2, _, _⟩ := B1.two
  obtain ⟨a3, a4, _, _⟩ := B2.two
  obtain ⟨a5, a6, a7, a8⟩ := B3.two
  exact ⟨a1, a2, a3, a4, a5, a6, a7, a8⟩
theorem three_blk {w w' : World} {x1 y1 x2 y2 x3 y3 : Value} (hb : Below (w.heap.size + 3) (((w.alloc (.cells #[x1, y1] 64)).alloc (.cells #[x2, y2] 64)).alloc (.cells #[x3, y3] 64)) w') : Mem.Blk w' (w.heap.size + 2) 64 #[x3, y3] := by
  have e2 : ((w.alloc (.cells #[x1, y1] 64)).alloc (.cells #[x2, y2] 64)).heap.size = w.heap.size + 2 := by simp
  have := Mem.Blk.new ((w.alloc (.cells #[x1, y1] 64)).alloc (.cells #[x2, y2] 64)) 64 #[x3, y3]
  rw [e2] at this; exact this.call hb (by omega)
theorem three_bel (w : World) (x1 y1 x2 y2 x3 y3 : Value) : Below w.heap.size w (((w.alloc (.cells #[x1, y1] 64)).alloc (.cells #[x2, y2] 64)).alloc (.cells #[x3, y3] 64)) :=
  (((Below.refl _ _).alloc (Nat.le_refl _) _).alloc (by simp) _).alloc (by simp; omega) _
theorem three_size (w : World) (x1 y1 x2 y2 x3 y3 : Value) : (((w.alloc (.cells #[x1, y1] 64)).alloc (.cells #[x2, y2] 64)).alloc (.cells #[x3, y3] 64)).heap.size = w.heap.size + 3 := by simp
/-- No more digits than a million. -/
@[irreducible] def Sm (n : Nat) : Prop := n < Big.pw 1000000
theorem Sm.lt {n : Nat} (h : Sm n) : n < Big.pw 1000000 := by unfold Sm at h; exact h
theorem Sm.of {n : Nat} (h : n < Big.pw 1000000) : Sm n := by unfold Sm; exact h
theorem far_cell {w : World} {h g i j : Nat} {u x : Value} (hc : w.cell? ⟨h, i, none⟩ = some x) (hne : h ≠ g) : (w.setCell ⟨g, j, none⟩ u).cell? ⟨h, i, none⟩ = some x := by
  rw [World.cell?_of_block (w := w) (Below.heap_setCell w ⟨g, j, none⟩ u h hne)]; exact hc
theorem keep4 {w : World} {h : Nat} {a b c d u v : Value} (h1 : w.cell? ⟨h, 0, none⟩ = some a) (h2 : w.cell? ⟨h, 1, none⟩ = some b) (h3 : w.cell? ⟨h + 1, 0, none⟩ = some c) (h4 : w.cell? ⟨h + 1, 1, none⟩ = some d) :
    ((w.setCell ⟨h + 1 + 1, 0, none⟩ u).setCell ⟨h + 1 + 1, 1, none⟩ v).cell? ⟨h, 0, none⟩ = some a ∧ ((w.setCell ⟨h + 1 + 1, 0, none⟩ u).setCell ⟨h + 1 + 1, 1, none⟩ v).cell? ⟨h, 1, none⟩ = some b ∧ ((w.setCell ⟨h + 1 + 1, 0, none⟩ u).setCell ⟨h + 1 + 1, 1, none⟩ v).cell? ⟨h + 1, 0, none⟩ = some c ∧ ((w.setCell ⟨h + 1 + 1, 0, none⟩ u).setCell ⟨h + 1 + 1, 1, none⟩ v).cell? ⟨h + 1, 1, none⟩ = some d :=
  ⟨far_cell (far_cell h1 (by omega)) (by omega), far_cell (far_cell h2 (by omega)) (by omega), far_cell (far_cell h3 (by omega)) (by omega), far_cell (far_cell h4 (by omega)) (by omega)⟩
set_option maxHeartbeats 4000000 in
theorem plus_same (s : Bool) (m m' : Value) (n n' : Nat) (w : World) (hm : MagR w m n) (hm' : MagR w m' n') (bn : Sm n) (bn' : Sm n') :
    Calls Try.prog 77 #[.agg #[.bool s, m], .agg #[.bool s, m']] w fun e w' => (∃ r, e = .returned r ∧ BigR w' r (sg s (n + n'))) ∧ Below w.heap.size w w' := by
  have HM := Lib.hid hm
  have HM' := Lib.hid hm'
  have BN := Lib.hid bn
  have BN' := Lib.hid bn'
  obtain ⟨a, len, cap, l, rfl, h1, h2, h3⟩ := hm
  obtain ⟨a', len', cap', l', rfl, h1', h2', h3'⟩ := hm'
  clear h1 h2 h3 h1' h2' h3' bn bn'
  obtain ⟨c1, c2, c3, c4, c5, c6, c7, c8⟩ := three_cells (w := w) (x1 := .bool s) (y1 := .slice a len cap) (x2 := .bool s) (y2 := .slice a' len' cap') (x3 := .bool false) (y3 := .slice none 0 0) (Below.refl _ _)
  have T := Lib.hid (three_bel w (.bool s) (.slice a len cap) (.bool s) (.slice a' len' cap') (.bool false) (.slice none 0 0))
  have TB := Lib.hid (fun w' hb => three_blk (w := w) (w' := w') (x1 := .bool s) (y1 := .slice a len cap) (x2 := .bool s) (y2 := .slice a' len' cap') (x3 := .bool false) (y3 := .slice none 0 0) hb)
  have TC := Lib.hid (fun w' hb => three_cells (w := w) (w' := w') (x1 := .bool s) (y1 := .slice a len cap) (x2 := .bool s) (y2 := .slice a' len' cap') (x3 := .bool false) (y3 := .slice none 0 0) hb)
  have TS := Lib.hid (three_size w (.bool s) (.slice a len cap) (.bool s) (.slice a' len' cap') (.bool false) (.slice none 0 0))
  go_enter Try.func77, Try.ntmps77
  go_wp2_with fail
  generalize ((w.alloc (.cells #[.bool s, .slice a len cap] 64)).alloc (.cells #[.bool s, .slice a' len' cap'] 64)).alloc (.cells #[.bool false, .slice none 0 0] 64) = v at *
  have K0 := Lib.hid (Below.refl (w.heap.size + 3) v)
  go_region_held3 (fun w' => w'.cell? ⟨w.heap.size, 0, none⟩ = some (.bool s) ∧ w'.cell? ⟨w.heap.size, 1, none⟩ = some (.slice a len cap) ∧ w'.cell? ⟨w.heap.size + 1, 0, none⟩ = some (.bool s) ∧ w'.cell? ⟨w.heap.size + 1, 1, none⟩ = some (.slice a' len' cap')) (first | exact keep4 g1 g2 g3 g4 | go_keep)
    (first
      | (go_at_call 62
         refine (add_any _ _ n n' _ (HM.out.below T.out.drew) (HM'.out.below T.out.drew) BN.out.lt BN'.out.lt).mono ?_
         rintro e w1 ⟨⟨r, rfl, hr⟩, b1⟩
         have k1 : Below (w.heap.size + 3) v w1 := (K0.out.drew).trans (b1.mono (Nat.le_trans (Nat.le_of_eq TS.out.symm) K0.out.size))
         obtain ⟨d1, d2, d3, d4, d5, d6, d7, d8⟩ := TC.out w1 k1)
      | (go_at_call 55
         refine (sign_any _ _ _ _ hr).mono ?_
         rintro e w2 ⟨⟨r2, rfl, hr2⟩, b2⟩
         have k2 : Below (w.heap.size + 3) v w2 := k1.trans (b2.mono (Nat.le_trans (Nat.le_of_eq TS.out.symm) k1.size))
         obtain ⟨g1, g2, g3, g4, g5, g6, g7, g8⟩ := TC.out w2 k2
         have hr3 := hr2
         obtain ⟨m2, rfl, a2, len2, cap2, l2, rfl, q1, q2, q3⟩ := hr2))
  have HR := Lib.hid (fun x y => hr3.put2 (x := x) (y := y) (TB.out w2 k2))
  have BW := Lib.hid (T.out.trans (k2.mono (by omega)))
  clear TC TB hr hr3 q1 q2 q3 d1 d2 d3 d4 d5 d6 d7 d8 c1 c2 c3 c4 c5 c6 c7 c8 b1 b2 k1 k2
  go_wp2
  refine bodyPost_ret (v := .agg #[.bool (decide (sg s (n + n') < 0)), .slice a2 len2 cap2]) (by simp [results, Try.results77, go_sem, g5, g6]) rfl ⟨⟨_, rfl, HR.out _ _⟩, ?_⟩
  exact (BW.out.setCell (by simp; omega) _).setCell (by simp; omega) _
set_option maxHeartbeats 4000000 in
theorem plus_ge (s : Bool) (m m' : Value) (n n' : Nat) (w : World) (hm : MagR w m n) (hm' : MagR w m' n') (bn : Sm n) (bn' : Sm n') (hle : n' ≤ n) :
    Calls Try.prog 77 #[.agg #[.bool s, m], .agg #[.bool (!s), m']] w fun e w' => (∃ r, e = .returned r ∧ BigR w' r (sg s (n - n'))) ∧ Below w.heap.size w w' := by
  have HM := Lib.hid hm
  have HM' := Lib.hid hm'
  have BN := Lib.hid bn
  have BN' := Lib.hid bn'
  obtain ⟨a, len, cap, l, rfl, h1, h2, h3⟩ := hm
  obtain ⟨a', len', cap', l', rfl, h1', h2', h3'⟩ := hm'
  clear h1 h2 h3 h1' h2' h3' bn bn'
  obtain ⟨c1, c2, c3, c4, c5, c6, c7, c8⟩ := three_cells (w := w) (x1 := .bool s) (y1 := .slice a len cap) (x2 := .bool (!s)) (y2 := .slice a' len' cap') (x3 := .bool false) (y3 := .slice none 0 0) (Below.refl _ _)
  have T := Lib.hid (three_bel w (.bool s) (.slice a len cap) (.bool (!s)) (.slice a' len' cap') (.bool false) (.slice none 0 0))
  have TB := Lib.hid (fun w' hb => three_blk (w := w) (w' := w') (x1 := .bool s) (y1 := .slice a len cap) (x2 := .bool (!s)) (y2 := .slice a' len' cap') (x3 := .bool false) (y3 := .slice none 0 0) hb)
  have TC := Lib.hid (fun w' hb => three_cells (w := w) (w' := w') (x1 := .bool s) (y1 := .slice a len cap) (x2 := .bool (!s)) (y2 := .slice a' len' cap') (x3 := .bool false) (y3 := .slice none 0 0) hb)
  have TS := Lib.hid (three_size w (.bool s) (.slice a len cap) (.bool (!s)) (.slice a' len' cap') (.bool false) (.slice none 0 0))
  have HLE := Lib.hid hle
  obtain ⟨cv, hcv, hcv0⟩ : ∃ cv, cmpN n n' = cv ∧ 0 ≤ cv := ⟨_, rfl, by unfold cmpN; rw [if_neg (by omega)]; split <;> decide⟩
  have HCV := Lib.hid hcv
  clear hcv hle
  have hs : (s == !s) = false := by cases s <;> rfl
  go_enter Try.func77, Try.ntmps77
  go_wp2_with fail
  have hv0 : Hid (Below w.heap.size w (((w.alloc (.cells #[.bool s, .slice a len cap] 64)).alloc (.cells #[.bool (!s), .slice a' len' cap'] 64)).alloc (.cells #[.bool false, .slice none 0 0] 64))) := T
  generalize ((w.alloc (.cells #[.bool s, .slice a len cap] 64)).alloc (.cells #[.bool (!s), .slice a' len' cap'] 64)).alloc (.cells #[.bool false, .slice none 0 0] 64) = v at *
  refine (cmpm_any _ _ n n' _ (HM.out.below T.out) (HM'.out.below T.out)).mono ?_
  rintro e w0 ⟨rfl, b0⟩
  rw [HCV.out]
  have K0 : Hid (Below (w.heap.size + 3) v w0) := b0.mono (Nat.le_of_eq TS.out.symm)
  obtain ⟨p1, p2, p3, p4, p5, p6, p7, p8⟩ := TC.out w0 K0.out
  go_wp2_with fail
  go_region_held3 (fun w' => w'.cell? ⟨w.heap.size, 0, none⟩ = some (.bool s) ∧ w'.cell? ⟨w.heap.size, 1, none⟩ = some (.slice a len cap) ∧ w'.cell? ⟨w.heap.size + 1, 0, none⟩ = some (.bool (!s)) ∧ w'.cell? ⟨w.heap.size + 1, 1, none⟩ = some (.slice a' len' cap')) (first | exact keep4 g1 g2 g3 g4 | go_keep)
    (first
      | (go_at_call 64
         refine (sub_any _ _ n n' _ (HM.out.below (T.out.trans (K0.out.mono (by omega))).drew) (HM'.out.below (T.out.trans (K0.out.mono (by omega))).drew) BN.out.lt HLE.out).mono ?_
         rintro e w1 ⟨⟨r, rfl, hr⟩, b1⟩
         have k1 : Below (w.heap.size + 3) v w1 := (K0.out.drew).trans (b1.mono (Nat.le_trans (Nat.le_of_eq TS.out.symm) K0.out.size))
         obtain ⟨d1, d2, d3, d4, d5, d6, d7, d8⟩ := TC.out w1 k1)
      | (go_at_call 55
         refine (sign_any _ _ _ _ hr).mono ?_
         rintro e w2 ⟨⟨r2, rfl, hr2⟩, b2⟩
         have k2 : Below (w.heap.size + 3) v w2 := k1.trans (b2.mono (Nat.le_trans (Nat.le_of_eq TS.out.symm) k1.size))
         obtain ⟨g1, g2, g3, g4, g5, g6, g7, g8⟩ := TC.out w2 k2
         have hr3 := hr2
         obtain ⟨m2, rfl, a2, len2, cap2, l2, rfl, q1, q2, q3⟩ := hr2))
  have HR := Lib.hid (fun x y => hr3.put2 (x := x) (y := y) (TB.out w2 k2))
  have BW := Lib.hid (T.out.trans (k2.mono (by omega)))
  clear TC TB hr hr3 q1 q2 q3 d1 d2 d3 d4 d5 d6 d7 d8 c1 c2 c3 c4 c5 c6 c7 c8 b1 b2 k1 k2
  go_wp2
  refine bodyPost_ret (v := .agg #[.bool (decide (sg s (n - n') < 0)), .slice a2 len2 cap2]) (by simp [results, Try.results77, go_sem, g5, g6]) rfl ⟨⟨_, rfl, HR.out _ _⟩, ?_⟩
  exact (BW.out.setCell (by simp; omega) _).setCell (by simp; omega) _
set_option maxHeartbeats 4000000 in
theorem plus_lt (s : Bool) (m m' : Value) (n n' : Nat) (w : World) (hm : MagR w m n) (hm' : MagR w m' n') (bn : Sm n) (bn' : Sm n') (hle : n < n') :
    Calls Try.prog 77 #[.agg #[.bool s, m], .agg #[.bool (!s), m']] w fun e w' => (∃ r, e = .returned r ∧ BigR w' r (sg (!s) (n' - n))) ∧ Below w.heap.size w w' := by
  have HM := Lib.hid hm
  have HM' := Lib.hid hm'
  have BN := Lib.hid bn
  have BN' := Lib.hid bn'
  obtain ⟨a, len, cap, l, rfl, h1, h2, h3⟩ := hm
  obtain ⟨a', len', cap', l', rfl, h1', h2', h3'⟩ := hm'
  clear h1 h2 h3 h1' h2' h3' bn bn'
  obtain ⟨c1, c2, c3, c4, c5, c6, c7, c8⟩ := three_cells (w := w) (x1 := .bool s) (y1 := .slice a len cap) (x2 := .bool (!s)) (y2 := .slice a' len' cap') (x3 := .bool false) (y3 := .slice none 0 0) (Below.refl _ _)
  have T := Lib.hid (three_bel w (.bool s) (.slice a len cap) (.bool (!s)) (.slice a' len' cap') (.bool false) (.slice none 0 0))
  have TB := Lib.hid (fun w' hb => three_blk (w := w) (w' := w') (x1 := .bool s) (y1 := .slice a len cap) (x2 := .bool (!s)) (y2 := .slice a' len' cap') (x3 := .bool false) (y3 := .slice none 0 0) hb)
  have TC := Lib.hid (fun w' hb => three_cells (w := w) (w' := w') (x1 := .bool s) (y1 := .slice a len cap) (x2 := .bool (!s)) (y2 := .slice a' len' cap') (x3 := .bool false) (y3 := .slice none 0 0) hb)
  have TS := Lib.hid (three_size w (.bool s) (.slice a len cap) (.bool (!s)) (.slice a' len' cap') (.bool false) (.slice none 0 0))
  have HLE := Lib.hid hle
  obtain ⟨cv, hcv, hcv0⟩ : ∃ cv, cmpN n n' = cv ∧ cv < 0 := ⟨_, rfl, by unfold cmpN; rw [if_pos hle]; decide⟩
  have HCV := Lib.hid hcv
  clear hcv hle
  have hs : (s == !s) = false := by cases s <;> rfl
  go_enter Try.func77, Try.ntmps77
  go_wp2_with fail
  have hv0 : Hid (Below w.heap.size w (((w.alloc (.cells #[.bool s, .slice a len cap] 64)).alloc (.cells #[.bool (!s), .slice a' len' cap'] 64)).alloc (.cells #[.bool false, .slice none 0 0] 64))) := T
  generalize ((w.alloc (.cells #[.bool s, .slice a len cap] 64)).alloc (.cells #[.bool (!s), .slice a' len' cap'] 64)).alloc (.cells #[.bool false, .slice none 0 0] 64) = v at *
  refine (cmpm_any _ _ n n' _ (HM.out.below T.out) (HM'.out.below T.out)).mono ?_
  rintro e w0 ⟨rfl, b0⟩
  rw [HCV.out]
  have K0 : Hid (Below (w.heap.size + 3) v w0) := b0.mono (Nat.le_of_eq TS.out.symm)
  obtain ⟨p1, p2, p3, p4, p5, p6, p7, p8⟩ := TC.out w0 K0.out
  go_wp2_with fail
  go_region_held3 (fun w' => w'.cell? ⟨w.heap.size, 0, none⟩ = some (.bool s) ∧ w'.cell? ⟨w.heap.size, 1, none⟩ = some (.slice a len cap) ∧ w'.cell? ⟨w.heap.size + 1, 0, none⟩ = some (.bool (!s)) ∧ w'.cell? ⟨w.heap.size + 1, 1, none⟩ = some (.slice a' len' cap')) (first | exact keep4 g1 g2 g3 g4 | go_keep)
    (first
      | (go_at_call 64
         refine (sub_any _ _ n' n _ (HM'.out.below (T.out.trans (K0.out.mono (by omega))).drew) (HM.out.below (T.out.trans (K0.out.mono (by omega))).drew) BN'.out.lt (Nat.le_of_lt HLE.out)).mono ?_
         rintro e w1 ⟨⟨r, rfl, hr⟩, b1⟩
         have k1 : Below (w.heap.size + 3) v w1 := (K0.out.drew).trans (b1.mono (Nat.le_trans (Nat.le_of_eq TS.out.symm) K0.out.size))
         obtain ⟨d1, d2, d3, d4, d5, d6, d7, d8⟩ := TC.out w1 k1)
      | (go_at_call 55
         refine (sign_any _ _ _ _ hr).mono ?_
         rintro e w2 ⟨⟨r2, rfl, hr2⟩, b2⟩
         have k2 : Below (w.heap.size + 3) v w2 := k1.trans (b2.mono (Nat.le_trans (Nat.le_of_eq TS.out.symm) k1.size))
         obtain ⟨g1, g2, g3, g4, g5, g6, g7, g8⟩ := TC.out w2 k2
         have hr3 := hr2
         obtain ⟨m2, rfl, a2, len2, cap2, l2, rfl, q1, q2, q3⟩ := hr2))
  have HR := Lib.hid (fun x y => hr3.put2 (x := x) (y := y) (TB.out w2 k2))
  have BW := Lib.hid (T.out.trans (k2.mono (by omega)))
  clear TC TB hr hr3 q1 q2 q3 d1 d2 d3 d4 d5 d6 d7 d8 c1 c2 c3 c4 c5 c6 c7 c8 b1 b2 k1 k2
  go_wp2
  refine bodyPost_ret (v := .agg #[.bool (decide (sg (!s) (n' - n) < 0)), .slice a2 len2 cap2]) (by simp [results, Try.results77, go_sem, g5, g6]) rfl ⟨⟨_, rfl, HR.out _ _⟩, ?_⟩
  exact (BW.out.setCell (by simp; omega) _).setCell (by simp; omega) _
theorem big_add_same (z z' : Int) (h : decide (z < 0) = decide (z' < 0)) : sg (decide (z < 0)) (z.natAbs + z'.natAbs) = z + z' := by
  unfold sg
  by_cases h1 : z < 0 <;> by_cases h2 : z' < 0 <;> simp [h1, h2] at h ⊢ <;> omega
theorem big_add_ge (z z' : Int) (h : decide (z' < 0) = !decide (z < 0)) (hle : z'.natAbs ≤ z.natAbs) : sg (decide (z < 0)) (z.natAbs - z'.natAbs) = z + z' := by
  unfold sg
  by_cases h1 : z < 0 <;> by_cases h2 : z' < 0 <;> simp [h1, h2] at h ⊢ <;> omega
theorem big_add_lt (z z' : Int) (h : decide (z' < 0) = !decide (z < 0)) (hle : z.natAbs < z'.natAbs) : sg (!decide (z < 0)) (z'.natAbs - z.natAbs) = z + z' := by
  unfold sg
  by_cases h1 : z < 0 <;> by_cases h2 : z' < 0 <;> simp [h1, h2] at h ⊢ <;> omega
theorem plus_any (u v : Value) (z z' : Int) (w : World) (hu : BigR w u z) (hv : BigR w v z') (bn : Sm z.natAbs) (bn' : Sm z'.natAbs) :
    Calls Try.prog 77 #[u, v] w fun e w' => (∃ r, e = .returned r ∧ BigR w' r (z + z')) ∧ Below w.heap.size w w' := by
  obtain ⟨m, rfl, hm⟩ := hu
  obtain ⟨m', rfl, hm'⟩ := hv
  have BN := Lib.hid bn
  have BN' := Lib.hid bn'
  clear bn bn'
  by_cases h : decide (z < 0) = decide (z' < 0)
  · have := plus_same (decide (z < 0)) m m' _ _ w hm hm' BN.out BN'.out
    rw [big_add_same z z' h] at this
    rw [← h]; exact this
  · have h2 : decide (z' < 0) = !decide (z < 0) := by
      revert h
      cases decide (z < 0) <;> cases decide (z' < 0) <;> simp
    by_cases hle : z'.natAbs ≤ z.natAbs
    · have := plus_ge (decide (z < 0)) m m' _ _ w hm hm' BN.out BN'.out hle
      rw [big_add_ge z z' h2 hle] at this
      rw [h2]; exact this
    · have := plus_lt (decide (z < 0)) m m' _ _ w hm hm' BN.out BN'.out (by omega)
      rw [big_add_lt z z' h2 (by omega)] at this
      rw [h2]; exact this
end Go.Proofs.Ytokinadmeooaoaa
