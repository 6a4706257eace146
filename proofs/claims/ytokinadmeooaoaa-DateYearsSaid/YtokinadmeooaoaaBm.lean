/- Small: an int64 of a number, or that it is beyond; condition: the number has at most a million digits. -/
import Derived.Test.YtokinadmeooaoaaBh
import Derived.Test.YtokinadmeooaoaaBg
import Derived.Test.YtokinadmeooaoaaBl
namespace Go.Proofs.Ytokinadmeooaoaa
open Go.RowKit
def smB (z : Int) : Bool := decide (-9223372036854775808 ≤ z ∧ z ≤ 9223372036854775807)
def smN (z : Int) : Int := if smB z then z else 0
theorem sm_no (z : Int) (h : ¬(-9223372036854775808 ≤ z ∧ z ≤ 9223372036854775807)) : Ending.returned (.tuple #[.int .i64 0, .bool false]) = .returned (.tuple #[.int .i64 (smN z), .bool (smB z)]) := by
  have e : smB z = false := by unfold smB; simpa using h
  unfold smN; rw [e]; rfl
theorem sm_yes (z : Int) (h : -9223372036854775808 ≤ z ∧ z ≤ 9223372036854775807) (x : Int) (hx : x = z) : Ending.returned (.tuple #[.int .i64 x, .bool true]) = .returned (.tuple #[.int .i64 (smN z), .bool (smB z)]) := by
  have e : smB z = true := by unfold smB; simpa using h
  unfold smN; rw [e, hx]; rfl
theorem cmpZ_gt (z y : Int) (h : y < z) : cmpZ z y = 1 := by unfold cmpZ; rw [if_neg (by omega), if_neg (by omega)]
theorem cmpZ_lt (z y : Int) (h : z < y) : cmpZ z y = -1 := by unfold cmpZ; rw [if_pos h]
theorem cmpZ_le (z y : Int) (h : z ≤ y) : cmpZ z y ≤ 0 := by unfold cmpZ; split <;> (try split) <;> omega
theorem cmpZ_ge (z y : Int) (h : y ≤ z) : 0 ≤ cmpZ z y := by unfold cmpZ; split <;> (try split) <;> omega
theorem Sm.int (n : Nat) (h : n ≤ 9223372036854775808) : Sm n := by
  refine Sm.of (Nat.lt_of_lt_of_le ?_ (Big.pw_mono (show 5 ≤ 1000000 by decide)))
  show n < 65536 ^ 5
  omega
theorem Nums.drop_step (l : List Nat) (k : Nat) (h : k < l.length) : Big.val (l.drop k) = l.getD k 0 + 65536 * Big.val (l.drop (k + 1)) := by
  rw [List.drop_eq_getElem_cons h, List.getD_eq_getElem?_getD, List.getElem?_eq_getElem h]; rfl
theorem val_drop_le (l : List Nat) : ∀ k, Big.val (l.drop k) ≤ Big.val l := by
  induction l with
  | nil => intro k; simp
  | cons d t ih =>
    intro k
    cases k with
    | zero => simp
    | succ j => have := ih j; simp only [List.drop_succ_cons]; show _ ≤ d + 65536 * Big.val t; omega
theorem one_cells64 {w w' : World} {x1 y1 : Value} (hb : Below (w.heap.size + 1) (w.alloc (.cells #[x1, y1] 64)) w') :
    w'.cell? ⟨w.heap.size, 0, none⟩ = some x1 ∧ w'.cell? ⟨w.heap.size, 1, none⟩ = some y1 := by
  have B1 : Mem.Blk w' w.heap.size 64 #[x1, y1] := ((Mem.Blk.new w 64 #[x1, y1])).call hb (by omega)
  exact ⟨B1.two.1, B1.two.2.1⟩
theorem wrapneg64 (n : Nat) (h : n ≤ 9223372036854775808) : IntKind.i64.wrap (IntKind.u64.wrap (-(n : Int))) = -(n : Int) := by
  simp only [IntKind.wrap_u64, IntKind.wrap_i64]; omega
theorem c_le (c : Int) (h : c ≤ 0) : decide (0 < c) = false := by simp; omega
theorem c_ge (c : Int) (h : 0 ≤ c) : decide (c < 0) = false := by simp; omega
set_option maxHeartbeats 4000000 in
theorem small_le (v : Value) (z : Int) (w : World) (hv : BigR w v z) (hz : Sm z.natAbs) (hle : z ≤ 9223372036854775807) :
    Calls Try.prog 54 #[v] w fun e w' => e = .returned (.tuple #[.int .i64 (smN z), .bool (smB z)]) ∧ Below w.heap.size w w' := by
  have HV := Lib.hid hv
  have HZ := Lib.hid hz
  have HM := Lib.hid (Sm.int (-9223372036854775807 : Int).natAbs (by decide))
  have HM2 := Lib.hid (Sm.int (-(-9223372036854775808) : Int).natAbs (by decide))
  have HLE := Lib.hid hle
  obtain ⟨c, hc, hc0⟩ : ∃ c, cmpZ z 9223372036854775807 = c ∧ decide (0 < c) = false := ⟨_, rfl, c_le _ (cmpZ_le _ _ hle)⟩
  have HC := Lib.hid hc
  obtain ⟨m, rfl, a, len, cap, l, rfl, h1, h2, h3⟩ := hv
  have HN := Lib.hid h1
  have HO := Lib.hid h2
  have HL := Lib.hid h3
  have hl2 := h1.2.1
  have hl3 := h1.2.2.1
  clear h1 h2 h3 hz hle hc
  have HS := Lib.hid (rfl : decide (z < 0) = decide (z < 0))
  generalize hs : decide (z < 0) = s at *
  have HS := Lib.hid hs
  clear hs
  have T := Lib.hid (((Below.refl _ w).alloc (Nat.le_refl _) (.cells #[.bool s, .slice a len cap] 64)) : Below w.heap.size w _)
  have TC := Lib.hid (fun w' hb => one_cells64 (w := w) (w' := w') (x1 := .bool s) (y1 := .slice a len cap) hb)
  have TS := Lib.hid (show (w.alloc (.cells #[.bool s, .slice a len cap] 64)).heap.size = w.heap.size + 1 by simp)
  by_cases hlt : z < -9223372036854775808
  · have FIN := Lib.hid (sm_no z (by omega))
    have HD := Lib.hid (cmpZ_lt z (-9223372036854775808) hlt)
    clear hlt
    go_enter Try.func54, Try.ntmps54
    go_wp2_with fail
    obtain ⟨p1, p2⟩ := TC.out _ (Below.refl _ _)
    generalize (w.alloc (.cells #[.bool s, .slice a len cap] 64)) = v at *
    first
    | go_region_held3 (fun w' => w'.cell? ⟨w.heap.size, 0, none⟩ = some (.bool s) ∧ w'.cell? ⟨w.heap.size, 1, none⟩ = some (.slice a len cap)) (first | exact ⟨j1, j2⟩ | exact ⟨i1, i2⟩ | exact ⟨g1, g2⟩ | exact ⟨d1, d2⟩ | go_keep)
      (first
        | (go_at_call 40
           (with_reducible refine (bigof_any 9223372036854775807 _ (by decide) (by decide)).mono ?_)
           rintro e w1 ⟨⟨r, rfl, hr⟩, b1⟩
           have k1 : Below (w.heap.size + 1) v w1 := ((Below.refl _ v).drew).trans (b1.mono (Nat.le_of_eq TS.out.symm))
           have k0 : Below w.heap.size w w1 := T.out.trans (k1.mono (by omega))
           obtain ⟨d1, d2⟩ := TC.out w1 k1)
        | (go_at_call 65
           (with_reducible refine (bigcmp_any _ _ z 9223372036854775807 _ (HV.out.below k0) hr HZ.out HM.out).mono ?_)
           rintro e w2 ⟨rfl, b2⟩
           have k2 : Below (w.heap.size + 1) v w2 := k1.trans (b2.mono (Nat.le_trans (Nat.le_of_eq TS.out.symm) k1.size))
           obtain ⟨g1, g2⟩ := TC.out w2 k2
           rw [HC.out])
        | (go_at_call 40
           (with_reducible refine (bigof_any (-9223372036854775808) _ (by decide) (by decide)).mono ?_)
           rintro e w3 ⟨⟨r3, rfl, hr3⟩, b3⟩
           have k3 : Below (w.heap.size + 1) v w3 := k2.trans (b3.mono (Nat.le_trans (Nat.le_of_eq TS.out.symm) k2.size))
           have k30 : Below w.heap.size w w3 := T.out.trans (k3.mono (by omega))
           obtain ⟨i1, i2⟩ := TC.out w3 k3)
        | (go_at_call 65
           (with_reducible refine (bigcmp_any _ _ z (-9223372036854775808) _ (HV.out.below k30) hr3 HZ.out HM2.out).mono ?_)
           rintro e w4 ⟨rfl, b4⟩
           have k4 : Below (w.heap.size + 1) v w4 := k3.trans (b4.mono (Nat.le_trans (Nat.le_of_eq TS.out.symm) k3.size))
           obtain ⟨j1, j2⟩ := TC.out w4 k4
           rw [HD.out]))
    | fail "region"
    all_goals
      have K := Lib.hid (T.out.trans (k4.mono (by omega)))
      clear TC HV hr k0 k1 k2 k3 k4 b1 b2 b3 b4 d1 d2 g1 g2 i1 i2 j1 j2 p1 p2 k30
      go_wp2
      go_ret2
      exact ⟨FIN.out, K.out⟩
  · have hle := HLE.out
    have FIN := Lib.hid (sm_yes z (by omega))
    have hlen : len ≤ 4 := MagR.small HN.out HO.out (by rw [HL.out]; show _ < 65536 ^ 4; omega)
    have HV4 := Lib.hid (show Big.val l ≤ 9223372036854775808 by rw [HL.out]; omega)
    obtain ⟨c', hc', hc0'⟩ : ∃ c', cmpZ z (-9223372036854775808) = c' ∧ decide (c' < 0) = false := ⟨_, rfl, c_ge _ (cmpZ_ge _ _ (by omega))⟩
    have HD := Lib.hid hc'
    have HLT := Lib.hid hlt
    clear hlt hc' hle
    go_enter Try.func54, Try.ntmps54
    go_wp2_with fail
    obtain ⟨p1, p2⟩ := TC.out _ (Below.refl _ _)
    generalize (w.alloc (.cells #[.bool s, .slice a len cap] 64)) = v at *
    first
    | go_region_held3 (fun w' => w'.cell? ⟨w.heap.size, 0, none⟩ = some (.bool s) ∧ w'.cell? ⟨w.heap.size, 1, none⟩ = some (.slice a len cap)) (first | exact ⟨j1, j2⟩ | exact ⟨i1, i2⟩ | exact ⟨g1, g2⟩ | exact ⟨d1, d2⟩ | go_keep)
      (first
        | (go_at_call 40
           (with_reducible refine (bigof_any 9223372036854775807 _ (by decide) (by decide)).mono ?_)
           rintro e w1 ⟨⟨r, rfl, hr⟩, b1⟩
           have k1 : Below (w.heap.size + 1) v w1 := ((Below.refl _ v).drew).trans (b1.mono (Nat.le_of_eq TS.out.symm))
           have k0 : Below w.heap.size w w1 := T.out.trans (k1.mono (by omega))
           obtain ⟨d1, d2⟩ := TC.out w1 k1)
        | (go_at_call 65
           (with_reducible refine (bigcmp_any _ _ z 9223372036854775807 _ (HV.out.below k0) hr HZ.out HM.out).mono ?_)
           rintro e w2 ⟨rfl, b2⟩
           have k2 : Below (w.heap.size + 1) v w2 := k1.trans (b2.mono (Nat.le_trans (Nat.le_of_eq TS.out.symm) k1.size))
           obtain ⟨g1, g2⟩ := TC.out w2 k2
           rw [HC.out])
        | (go_at_call 40
           (with_reducible refine (bigof_any (-9223372036854775808) _ (by decide) (by decide)).mono ?_)
           rintro e w3 ⟨⟨r3, rfl, hr3⟩, b3⟩
           have k3 : Below (w.heap.size + 1) v w3 := k2.trans (b3.mono (Nat.le_trans (Nat.le_of_eq TS.out.symm) k2.size))
           have k30 : Below w.heap.size w w3 := T.out.trans (k3.mono (by omega))
           obtain ⟨i1, i2⟩ := TC.out w3 k3)
        | (go_at_call 65
           (with_reducible refine (bigcmp_any _ _ z (-9223372036854775808) _ (HV.out.below k30) hr3 HZ.out HM2.out).mono ?_)
           rintro e w4 ⟨rfl, b4⟩
           have k4 : Below (w.heap.size + 1) v w4 := k3.trans (b4.mono (Nat.le_trans (Nat.le_of_eq TS.out.symm) k3.size))
           obtain ⟨j1, j2⟩ := TC.out w4 k4
           rw [HD.out]))
    | fail "region"
    all_goals
      have K4 := Lib.hid k4
      have K := Lib.hid (T.out.trans (k4.mono (by omega)))
      clear HV hr k0 k1 k2 k3 k4 b1 b2 b3 b4 d1 d2 g1 g2 i1 i2 j1 j2 p1 p2 k30
      have T4 : Below w.heap.size w w4 := K.out
      have J1 := (TC.out w4 K4.out).1
      have J2 := (TC.out w4 K4.out).2
      go_wp2_with fail
      go_loop [4, 5] (fun u i => ∃ k : Nat, i = .int .i64 ((k : Int) - 1) ∧ k ≤ len ∧ u = .int .u64 (Big.val (l.drop k) : Nat)) (fun _ i => (intOf i + 1).toNat)
      case atStart => exact ⟨len, by go_num, Nat.le_refl _, by rw [List.drop_of_length_le (by rw [HN.out.1]; exact Nat.le_refl _)]; rfl⟩
      case round =>
        obtain ⟨k, rfl, hk, rfl⟩ := hrel
        have hle1 := Nat.le_trans (val_drop_le l k) HV4.out
        cases k with
        | zero =>
          cases s with
          | false =>
            have FIN2 := Lib.hid (FIN.out (wrap64 (Big.val (l.drop 0) : Nat)) (by have h1 := HS.out; have h2 := HL.out; have h3 := HLE.out; simp at h1; simp only [List.drop_zero, wrap64]; omega))
            generalize Big.val (l.drop 0) = x at *
            go_wp2
            go_ret2
            exact ⟨FIN2.out, K.out⟩
          | true =>
            have FIN2 := Lib.hid (FIN.out (wrap64 (IntKind.u64.wrap (-(Big.val (l.drop 0) : Nat)))) (by have h1 := HS.out; have h2 := HL.out; have h3 := HLT.out; simp at h1; simp only [List.drop_zero, wrap64, IntKind.wrap_u64]; omega))
            generalize Big.val (l.drop 0) = x at *
            go_wp2
            go_ret2
            exact ⟨FIN2.out, K.out⟩
        | succ j =>
          obtain ⟨b, o, rfl, hb, hc⟩ := (HN.out.below T4).at j (by omega)
          have hst := Nums.drop_step l j (by rw [HN.out.1]; exact hk)
          have hle2 := Nat.le_trans (val_drop_le l j) HV4.out
          have REL := Lib.hid hst
          generalize l.getD j 0 = x at *
          generalize Big.val (l.drop (j + 1)) = y at *
          generalize hvv : Big.val (l.drop j) = vv at *
          have HVV := Lib.hid hvv
          clear hvv
          go_wp2
          go_round
          case rel => exact ⟨j, by go_num, by omega, by rw [HVV.out, REL.out]; go_num⟩
          case measure => simp [intOf]
end Go.Proofs.Ytokinadmeooaoaa
