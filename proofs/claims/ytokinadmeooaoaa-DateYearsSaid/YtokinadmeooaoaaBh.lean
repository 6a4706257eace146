import Derived.Test.YtokinadmeooaoaaBf
namespace Go.Proofs.Ytokinadmeooaoaa
open Go.RowKit
theorem two_cells64 {w w' : World} {x1 y1 x2 y2 : Value} (hb : Below (w.heap.size + 2) ((w.alloc (.cells #[x1, y1] 64)).alloc (.cells #[x2, y2] 64)) w') :
    w'.cell? ⟨w.heap.size, 0, none⟩ = some x1 ∧ w'.cell? ⟨w.heap.size, 1, none⟩ = some y1 ∧ w'.cell? ⟨w.heap.size + 1, 0, none⟩ = some x2 ∧ w'.cell? ⟨w.heap.size + 1, 1, none⟩ = some y2 := by
  have e1 : (w.alloc (.cells #[x1, y1] 64)).heap.size = w.heap.size + 1 := by simp
  have B1 : Mem.Blk w' w.heap.size 64 #[x1, y1] := (((Mem.Blk.new w 64 #[x1, y1]).alloc _)).call hb (by omega)
  have B2 : Mem.Blk w' (w.heap.size + 1) 64 #[x2, y2] := by
    have := (Mem.Blk.new (w.alloc (.cells #[x1, y1] 64)) 64 #[x2, y2])
    rw [e1] at this; exact this.call hb (by omega)
  exact ⟨B1.two.1, B1.two.2.1, B2.two.1, B2.two.2.1⟩
theorem keep4g {w : World} {h g : Nat} {a b c d u v : Value} (hg : h + 2 ≤ g) (h1 : w.cell? ⟨h, 0, none⟩ = some a) (h2 : w.cell? ⟨h, 1, none⟩ = some b) (h3 : w.cell? ⟨h + 1, 0, none⟩ = some c) (h4 : w.cell? ⟨h + 1, 1, none⟩ = some d) :
    ((w.setCell ⟨g, 0, none⟩ u).setCell ⟨g, 1, none⟩ v).cell? ⟨h, 0, none⟩ = some a ∧ ((w.setCell ⟨g, 0, none⟩ u).setCell ⟨g, 1, none⟩ v).cell? ⟨h, 1, none⟩ = some b ∧ ((w.setCell ⟨g, 0, none⟩ u).setCell ⟨g, 1, none⟩ v).cell? ⟨h + 1, 0, none⟩ = some c ∧ ((w.setCell ⟨g, 0, none⟩ u).setCell ⟨g, 1, none⟩ v).cell? ⟨h + 1, 1, none⟩ = some d :=
  ⟨far_cell (far_cell h1 (by omega)) (by omega), far_cell (far_cell h2 (by omega)) (by omega), far_cell (far_cell h3 (by omega)) (by omega), far_cell (far_cell h4 (by omega)) (by omega)⟩
def cmpZ (z z' : Int) : Int := if z < z' then -1 else if z = z' then 0 else 1
set_option maxHeartbeats 2000000 in
theorem bigcmp_any (u v : Value) (z z' : Int) (w : World) (hu : BigR w u z) (hv : BigR w v z') (bn : Sm z.natAbs) (bn' : Sm (-z').natAbs) :
    Calls Try.prog 65 #[u, v] w fun e w' => e = .returned (.int .i64 (cmpZ z z')) ∧ Below w.heap.size w w' := by
  have HR := Lib.hid (fun (x : Int) (h : cmpZ z z' = x) => (ret_int h.symm : Ending.returned (.int .i64 x) = .returned (.int .i64 (cmpZ z z'))))
  have HU := Lib.hid hu
  have HV := Lib.hid hv
  obtain ⟨m, rfl, a, len, cap, l, rfl, h1, h2, h3⟩ := hu
  obtain ⟨m', rfl, a', len', cap', l', rfl, h1', h2', h3'⟩ := hv
  clear h1 h2 h3 h1' h2' h3'
  generalize decide (z < 0) = s at *
  generalize decide (z' < 0) = s' at *
  have T := Lib.hid ((((Below.refl _ w).alloc (Nat.le_refl _) (.cells #[.bool s, .slice a len cap] 64)).alloc (by simp) (.cells #[.bool s', .slice a' len' cap'] 64)) : Below w.heap.size w _)
  have TC := Lib.hid (fun w' hb => two_cells64 (w := w) (w' := w') (x1 := .bool s) (y1 := .slice a len cap) (x2 := .bool s') (y2 := .slice a' len' cap') hb)
  have TS := Lib.hid (show ((w.alloc (.cells #[.bool s, .slice a len cap] 64)).alloc (.cells #[.bool s', .slice a' len' cap'] 64)).heap.size = w.heap.size + 2 by simp)
  have TL : Hid (w.heap.size ≤ ((w.alloc (.cells #[.bool s, .slice a len cap] 64)).alloc (.cells #[.bool s', .slice a' len' cap'] 64)).heap.size) := by show _ ≤ _; rw [TS.out]; omega
  go_enter Try.func65, Try.ntmps65
  go_wp2_with fail
  obtain ⟨c1, c2, c3, c4⟩ := TC.out _ (Below.refl _ _)
  generalize (w.alloc (.cells #[.bool s, .slice a len cap] 64)).alloc (.cells #[.bool s', .slice a' len' cap'] 64) = v at *
  go_region_held3 (fun w' => w'.cell? ⟨w.heap.size, 0, none⟩ = some (.bool s) ∧ w'.cell? ⟨w.heap.size, 1, none⟩ = some (.slice a len cap) ∧ w'.cell? ⟨w.heap.size + 1, 0, none⟩ = some (.bool s') ∧ w'.cell? ⟨w.heap.size + 1, 1, none⟩ = some (.slice a' len' cap')) (first | exact keep4g (Nat.le_trans (Nat.le_of_eq TS.out.symm) k1.size) g1 g2 g3 g4 | exact keep4g (Nat.le_of_eq TS.out.symm) g1 g2 g3 g4 | go_keep)
    (first
      | (go_at_call 78
         refine (minus_any _ z' _ (HV.out.below (by first | exact T.out.drew | exact (T.out.alloc TL.out _).drew))).mono ?_
         rintro e w1 ⟨⟨r, rfl, hr⟩, b1⟩
         have k1 : Below (w.heap.size + 2) v w1 := by
           first
             | exact ((Below.refl _ v).drew).trans (b1.mono (Nat.le_of_eq TS.out.symm))
             | exact (((Below.refl (w.heap.size + 2) v).alloc (Nat.le_of_eq TS.out.symm) (.cells #[.bool false, .slice none 0 0] 64)).drew).trans (b1.mono (Nat.le_trans (Nat.le_of_eq TS.out.symm) ((Below.refl (w.heap.size + 2) v).alloc (Nat.le_of_eq TS.out.symm) (.cells #[.bool false, .slice none 0 0] 64)).size))
         have k0 : Below w.heap.size w w1 := T.out.trans (k1.mono (by omega))
         obtain ⟨d1, d2, d3, d4⟩ := TC.out w1 k1
         have a1 : Below w1.heap.size w1 (w1.alloc (.cells #[.bool false, .slice none 0 0] 64)) := (Below.refl _ _).alloc (Nat.le_refl _) _
         have a2 : Below (w.heap.size + 2) v (w1.alloc (.cells #[.bool false, .slice none 0 0] 64)) := k1.trans (a1.mono (Nat.le_trans (Nat.le_of_eq TS.out.symm) k1.size))
         obtain ⟨n1, n2, n3, n4⟩ := TC.out _ a2
         try (have BA := (Mem.Blk.new v 64 #[.bool false, .slice none 0 0]).drew.below b1))
      | (go_at_call 77
         refine (plus_any _ _ z (-z') _ (HU.out.below (by first | exact k0 | exact T.out.trans (a2.mono (by omega)))) (by first | exact hr | exact hr.below a1) bn bn').mono ?_
         rintro e w2 ⟨⟨r2, rfl, hr2⟩, b2⟩
         have k2 : Below (w.heap.size + 2) v w2 := by
           first
             | exact k1.trans (b2.mono (Nat.le_trans (Nat.le_of_eq TS.out.symm) k1.size))
             | exact a2.trans (b2.mono (Nat.le_trans (Nat.le_of_eq TS.out.symm) a2.size))
         obtain ⟨g1, g2, g3, g4⟩ := TC.out w2 k2
         obtain ⟨m2, rfl, a2, len2, cap2, l2, rfl, q1, q2, q3⟩ := hr2
         try (have B3 := (Mem.Blk.new w1 64 #[.bool false, .slice none 0 0]).below b2; obtain ⟨e0, e1, f0, f1⟩ := B3.two)
         try (have B4 := BA.below b2; obtain ⟨e0, e1, f0, f1⟩ := B4.two)))
  all_goals
    have hz := MagR.zero q1 q2 q3
    have K := Lib.hid (T.out.trans (k2.mono (by omega)))
    have S1 := Lib.hid k0.size
    clear TC HU HV q1 q2 q3 hr k0 k1 k2 b1 b2 d1 d2 d3 d4 g1 g2 g3 g4 a1 n1 n2 n3 n4 c1 c2 c3 c4 bn bn'
    rcases Int.lt_trichotomy z z' with hlt | heq | hlt
    · have FIN := Lib.hid (HR.out (-1) (by unfold cmpZ; rw [if_pos hlt]))
      have e1 : decide (z + -z' < 0) = true := by simp; omega
      have hne : ((len2 : Int) == 0) = false := by simp; omega
      generalize decide (z + -z' < 0) = neg at *
      subst e1
      clear hz hlt
      go_wp2
      go_ret
      exact ⟨FIN.out, by first | exact K.out.alloc K.out.size _ | exact (K.out.setCell S1.out _).setCell S1.out _ | exact (K.out.setCell TL.out _).setCell TL.out _⟩
    · have FIN := Lib.hid (HR.out 0 (by unfold cmpZ; rw [if_neg (by omega), if_pos heq]))
      have hl0 : len2 = 0 := by omega
      subst hl0
      clear hz heq
      go_wp2
      go_ret
      exact ⟨FIN.out, by first | exact K.out.alloc K.out.size _ | exact (K.out.setCell S1.out _).setCell S1.out _ | exact (K.out.setCell TL.out _).setCell TL.out _⟩
    · have FIN := Lib.hid (HR.out 1 (by unfold cmpZ; rw [if_neg (by omega), if_neg (by omega)]))
      have e1 : decide (z + -z' < 0) = false := by simp; omega
      have hne : ((len2 : Int) == 0) = false := by simp; omega
      generalize decide (z + -z' < 0) = neg at *
      subst e1
      clear hz hlt
      go_wp2
      go_ret
      exact ⟨FIN.out, by first | exact K.out.alloc K.out.size _ | exact (K.out.setCell S1.out _).setCell S1.out _ | exact (K.out.setCell TL.out _).setCell TL.out _⟩
end Go.Proofs.Ytokinadmeooaoaa
