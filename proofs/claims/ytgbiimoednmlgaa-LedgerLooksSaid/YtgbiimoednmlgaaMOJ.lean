/- A part of the proof: BgG, BgM, BgS, LdPp, LcA, LcB, one behind another. -/
import Derived.Test.YtgbiimoednmlgaaMOA
import Derived.Test.YtgbiimoednmlgaaMOB
import Derived.Test.YtgbiimoednmlgaaMOC
import Derived.Test.YtgbiimoednmlgaaMOD
import Derived.Test.YtgbiimoednmlgaaMOE
import Derived.Test.YtgbiimoednmlgaaMOF
import Derived.Test.YtgbiimoednmlgaaMOG
import Derived.Test.YtgbiimoednmlgaaMOH
import Derived.Test.YtgbiimoednmlgaaMOI
import Derived.OpenShut
import Derived.BigQuiet
namespace Go.Proofs.Ytgbiimoednmlgaa
set_option linter.unusedVariables false
set_option linter.unusedSimpArgs false
open Go.RowKit
theorem lit4 (w : World) (g : Nat) (z1 z2 z3 z4 : Int) (n1 n2 n3 n4 : Nat) (hg : g = w.heap.size) (h1 : z1 = n1) (h2 : z2 = n2) (h3 : z3 = n3) (h4 : z4 = n4) :
    Nums (w.alloc (.cells #[.int .u64 z1, .int .u64 z2, .int .u64 z3, .int .u64 z4] 113)) (some ⟨g, 0, none⟩) 4 4 [n1, n2, n3, n4] := by
  subst hg h1 h2 h3 h4
  refine ⟨rfl, Nat.le_refl _, by decide, fun _ => ⟨w.heap.size, 0, rfl, by simp, fun i x hx => ?_⟩⟩
  have := (Mem.Blk.new w 113 #[.int .u64 (n1 : Int), .int .u64 (n2 : Int), .int .u64 (n3 : Int), .int .u64 (n4 : Int)]).cell (0 + i)
  rw [this, Nat.zero_add]
  match i, hx with
  | 0, hx => simp at hx; subst hx; rfl
  | 1, hx => simp at hx; subst hx; rfl
  | 2, hx => simp at hx; subst hx; rfl
  | 3, hx => simp at hx; subst hx; rfl
  | k + 4, hx => simp at hx
def ofD (n : Nat) : List Nat := [n % 65536, n / 65536 % 65536, n / 4294967296 % 65536, n / 281474976710656]
theorem ofD_dig (n : Nat) (h : n ≤ 9223372036854775808) : Big.Dig (ofD n) := by
  intro d hd; unfold ofD at hd; simp at hd
  rcases hd with rfl | rfl | rfl | rfl <;> omega
theorem ofD_val (n : Nat) : Big.val (ofD n) = n := by
  unfold ofD; simp [Big.val]; omega
theorem wrap_neg2 (n : Nat) (h : n ≤ 9223372036854775808) : IntKind.u64.wrap (-IntKind.u64.wrap (-(n : Int))) = n := by
  simp only [IntKind.wrap_u64]; omega
set_option maxRecDepth 100000 in
set_option maxHeartbeats 1000000 in
theorem bigof_any (a : Int) (w : World) (h0 : -9223372036854775808 ≤ a) (h1 : a ≤ 9223372036854775807) :
    Calls Try.prog 40 #[.int .i64 a] w fun e w' => (∃ r, e = .returned r ∧ BigR w' r a) ∧ Below w.heap.size w w' := by
  have HD := Lib.hid (ofD_dig a.natAbs (by omega))
  have HV := Lib.hid (ofD_val a.natAbs)
  have BW := Lib.hid (fun o o2 : Obj => (((Below.refl _ w).alloc (Nat.le_refl _) o).alloc (by simp) o2 : Below w.heap.size w _))
  by_cases hz : a < 0
  · obtain ⟨n, hn, rfl⟩ : ∃ n : Nat, 1 ≤ n ∧ a = -(n : Int) := ⟨a.natAbs, by omega, by omega⟩
    have e : Hid ((-(n : Int)).natAbs = n) := by show _ = _; omega
    have hwr := wrap_neg2 n (by omega)
    rw [e.out] at HD HV
    go_enter Try.func40, Try.ntmps40
    go_wp2_with fail
    refine (trim_any _ _ _ (ofD n) _ (lit4 _ _ _ _ _ _ _ _ _ _ (by simp) (by omega) (by omega) (by omega) (by omega))).mono ?_
    rintro e' w' ⟨rfl, rfl⟩
    have N1 := fun o : Obj => lit4 (w.alloc o) (w.heap.size + 1) ((n : Int) % 65536) ((n : Int) / 65536 % 65536) ((n : Int) / 4294967296 % 65536) ((n : Int) / 281474976710656) (n % 65536) (n / 65536 % 65536) (n / 4294967296 % 65536) (n / 281474976710656) (by simp) (by omega) (by omega) (by omega) (by omega)
    have hb : ∀ o : Obj, BigR ((w.alloc o).alloc (.cells #[.int .u64 ((n : Int) % 65536), .int .u64 ((n : Int) / 65536 % 65536), .int .u64 ((n : Int) / 4294967296 % 65536), .int .u64 ((n : Int) / 281474976710656)] 113)) (.agg #[.bool true, .slice (some ⟨w.heap.size + 1, 0, none⟩) (Big.trim (ofD n)).length 4]) (-(n : Int)) := by
      intro o
      refine ⟨.slice (some ⟨w.heap.size + 1, 0, none⟩) (Big.trim (ofD n)).length 4, by first | (simp; omega) | simp, ?_⟩
      rw [e.out]
      have := (N1 o).take (Big.trim (ofD n)).length (trim_le (ofD n))
      rw [show [n % 65536, n / 65536 % 65536, n / 4294967296 % 65536, n / 281474976710656] = ofD n from rfl, ← trim_len] at this
      have h := MagR.trim this HD.out
      rw [HV.out] at h
      exact h
    have HB := Lib.hid hb
    clear N1 hb
    generalize (Big.trim (ofD n)).length = k at *
    go_wp2
    refine bodyPost_ret (v := .agg #[.bool true, .slice (some ⟨w.heap.size + 1, 0, none⟩) k 4]) (by simp [results, Try.results40, go_sem]) rfl ⟨⟨_, rfl, HB.out _⟩, ?_⟩
    exact BW.out _ _
  · obtain ⟨n, rfl⟩ : ∃ n : Nat, a = (n : Int) := ⟨a.toNat, by omega⟩
    have e : Hid ((n : Int).natAbs = n) := by show _ = _; omega
    rw [e.out] at HD HV
    go_enter Try.func40, Try.ntmps40
    go_wp2_with fail
    refine (trim_any _ _ _ (ofD n) _ (lit4 _ _ _ _ _ _ _ _ _ _ (by simp) (by omega) (by omega) (by omega) (by omega))).mono ?_
    rintro e' w' ⟨rfl, rfl⟩
    have N1 := fun o : Obj => lit4 (w.alloc o) (w.heap.size + 1) ((n : Int) % 65536) ((n : Int) / 65536 % 65536) ((n : Int) / 4294967296 % 65536) ((n : Int) / 281474976710656) (n % 65536) (n / 65536 % 65536) (n / 4294967296 % 65536) (n / 281474976710656) (by simp) (by omega) (by omega) (by omega) (by omega)
    have hb : ∀ o : Obj, BigR ((w.alloc o).alloc (.cells #[.int .u64 ((n : Int) % 65536), .int .u64 ((n : Int) / 65536 % 65536), .int .u64 ((n : Int) / 4294967296 % 65536), .int .u64 ((n : Int) / 281474976710656)] 113)) (.agg #[.bool false, .slice (some ⟨w.heap.size + 1, 0, none⟩) (Big.trim (ofD n)).length 4]) ((n : Int)) := by
      intro o
      refine ⟨.slice (some ⟨w.heap.size + 1, 0, none⟩) (Big.trim (ofD n)).length 4, by first | (simp; omega) | simp, ?_⟩
      rw [e.out]
      have := (N1 o).take (Big.trim (ofD n)).length (trim_le (ofD n))
      rw [show [n % 65536, n / 65536 % 65536, n / 4294967296 % 65536, n / 281474976710656] = ofD n from rfl, ← trim_len] at this
      have h := MagR.trim this HD.out
      rw [HV.out] at h
      exact h
    have HB := Lib.hid hb
    clear N1 hb
    generalize (Big.trim (ofD n)).length = k at *
    go_wp2
    refine bodyPost_ret (v := .agg #[.bool false, .slice (some ⟨w.heap.size + 1, 0, none⟩) k 4]) (by simp [results, Try.results40, go_sem]) rfl ⟨⟨_, rfl, HB.out _⟩, ?_⟩
    exact BW.out _ _
end Go.Proofs.Ytgbiimoednmlgaa

/- Small: an int64 of a number, or that it is beyond; condition: the number has at most a million digits. -/
namespace Go.Proofs.Ytgbiimoednmlgaa
set_option linter.unusedVariables false
set_option linter.unusedSimpArgs false
open Go.RowKit
def smB (z : Int) : Bool := decide (-9223372036854775808 ≤ z ∧ z ≤ 9223372036854775807)
def smN (z : Int) : Int := if smB z then z else 0
theorem sm_no (z : Int) (h : ¬(-9223372036854775808 ≤ z ∧ z ≤ 9223372036854775807)) : Ending.returned (.tuple #[.int .i64 0, .bool false]) = .returned (.tuple #[.int .i64 (smN z), .bool (smB z)]) := by
  have e : smB z = false := by unfold smB; simpa using h
  unfold smN; rw [e]; rfl
theorem sm_yes (z : Int) (h : -9223372036854775808 ≤ z ∧ z ≤ 9223372036854775807) (x : Int) (hx : x = z) : Ending.returned (.tuple #[.int .i64 x, .bool true]) = .returned (.tuple #[.int .i64 (smN z), .bool (smB z)]) := by
  have e : smB z = true := by unfold smB; simpa using h
  unfold smN; rw [e, hx]; rfl
theorem cmpZ_gt (z y : Int) (h : y < z) : cmpZ z y = 1 := by unfold cmpZ; rw [if_neg (by omega), if_neg (by omega)]
theorem cmpZ_lt (z y : Int) (h : z < y) : cmpZ z y = -1 := by unfold cmpZ; rw [if_pos h]
theorem cmpZ_le (z y : Int) (h : z ≤ y) : cmpZ z y ≤ 0 := by unfold cmpZ; split <;> (try split) <;> omega
theorem cmpZ_ge (z y : Int) (h : y ≤ z) : 0 ≤ cmpZ z y := by unfold cmpZ; split <;> (try split) <;> omega
theorem Sm.int (n : Nat) (h : n ≤ 9223372036854775808) : Sm n := by
  refine Sm.of (Nat.lt_of_lt_of_le ?_ (Big.pw_mono (show 5 ≤ 1000000 by decide)))
  show n < 65536 ^ 5
  omega
theorem Nums.drop_step (l : List Nat) (k : Nat) (h : k < l.length) : Big.val (l.drop k) = l.getD k 0 + 65536 * Big.val (l.drop (k + 1)) := by
  rw [List.drop_eq_getElem_cons h, List.getD_eq_getElem?_getD, List.getElem?_eq_getElem h]; rfl
theorem val_drop_le (l : List Nat) : ∀ k, Big.val (l.drop k) ≤ Big.val l := by
  induction l with
  | nil => intro k; simp
  | cons d t ih =>
    intro k
    cases k with
    | zero => simp
    | succ j => have := ih j; simp only [List.drop_succ_cons]; show _ ≤ d + 65536 * Big.val t; omega
theorem one_cells64 {w w' : World} {x1 y1 : Value} (hb : Below (w.heap.size + 1) (w.alloc (.cells #[x1, y1] 86)) w') :
    w'.cell? ⟨w.heap.size, 0, none⟩ = some x1 ∧ w'.cell? ⟨w.heap.size, 1, none⟩ = some y1 := by
  have B1 : Mem.Blk w' w.heap.size 86 #[x1, y1] := ((Mem.Blk.new w 86 #[x1, y1])).call hb (by omega)
  exact ⟨B1.two.1, B1.two.2.1⟩
theorem wrapneg64 (n : Nat) (h : n ≤ 9223372036854775808) : IntKind.i64.wrap (IntKind.u64.wrap (-(n : Int))) = -(n : Int) := by
  simp only [IntKind.wrap_u64, IntKind.wrap_i64]; omega
theorem c_le (c : Int) (h : c ≤ 0) : decide (0 < c) = false := by simp; omega
theorem c_ge (c : Int) (h : 0 ≤ c) : decide (c < 0) = false := by simp; omega
set_option maxRecDepth 100000 in
set_option maxHeartbeats 4000000 in
theorem small_le (v : Value) (z : Int) (w : World) (hv : BigR w v z) (hz : Sm z.natAbs) (hle : z ≤ 9223372036854775807) :
    Calls Try.prog 43 #[v] w fun e w' => e = .returned (.tuple #[.int .i64 (smN z), .bool (smB z)]) ∧ Below w.heap.size w w' := by
  have HV := Lib.hid hv
  have HZ := Lib.hid hz
  have HM := Lib.hid (Sm.int (-9223372036854775807 : Int).natAbs (by decide))
  have HM2 := Lib.hid (Sm.int (-(-9223372036854775808) : Int).natAbs (by decide))
  have HLE := Lib.hid hle
  obtain ⟨c, hc, hc0⟩ : ∃ c, cmpZ z 9223372036854775807 = c ∧ decide (0 < c) = false := ⟨_, rfl, c_le _ (cmpZ_le _ _ hle)⟩
  have HC := Lib.hid hc
  obtain ⟨m, rfl, a, len, cap, l, rfl, h1, h2, h3⟩ := hv
  have HN := Lib.hid h1
  have HO := Lib.hid h2
  have HL := Lib.hid h3
  have hl2 := h1.2.1
  have hl3 := h1.2.2.1
  clear h1 h2 h3 hz hle hc
  have HS := Lib.hid (rfl : decide (z < 0) = decide (z < 0))
  generalize hs : decide (z < 0) = s at *
  have HS := Lib.hid hs
  clear hs
  have T := Lib.hid (((Below.refl _ w).alloc (Nat.le_refl _) (.cells #[.bool s, .slice a len cap] 86)) : Below w.heap.size w _)
  have TC := Lib.hid (fun w' hb => one_cells64 (w := w) (w' := w') (x1 := .bool s) (y1 := .slice a len cap) hb)
  have TS := Lib.hid (show (w.alloc (.cells #[.bool s, .slice a len cap] 86)).heap.size = w.heap.size + 1 by simp)
  by_cases hlt : z < -9223372036854775808
  · have FIN := Lib.hid (sm_no z (by omega))
    have HD := Lib.hid (cmpZ_lt z (-9223372036854775808) hlt)
    clear hlt
    go_enter Try.func43, Try.ntmps43
    go_wp2_with fail
    obtain ⟨p1, p2⟩ := TC.out _ (Below.refl _ _)
    generalize (w.alloc (.cells #[.bool s, .slice a len cap] 86)) = v at *
    first
    | go_region_held3 (fun w' => w'.cell? ⟨w.heap.size, 0, none⟩ = some (.bool s) ∧ w'.cell? ⟨w.heap.size, 1, none⟩ = some (.slice a len cap)) (first | exact ⟨j1, j2⟩ | exact ⟨i1, i2⟩ | exact ⟨g1, g2⟩ | exact ⟨d1, d2⟩ | go_keep)
      (first
        | (go_at_call 40
           (with_reducible refine (bigof_any 9223372036854775807 _ (by decide) (by decide)).mono ?_)
           rintro e w1 ⟨⟨r, rfl, hr⟩, b1⟩
           have k1 : Below (w.heap.size + 1) v w1 := ((Below.refl _ v).drew).trans (b1.mono (Nat.le_of_eq TS.out.symm))
           have k0 : Below w.heap.size w w1 := T.out.trans (k1.mono (by omega))
           obtain ⟨d1, d2⟩ := TC.out w1 k1)
        | (go_at_call 58
           (with_reducible refine (bigcmp_any _ _ z 9223372036854775807 _ (HV.out.below k0) hr HZ.out HM.out).mono ?_)
           rintro e w2 ⟨rfl, b2⟩
           have k2 : Below (w.heap.size + 1) v w2 := k1.trans (b2.mono (Nat.le_trans (Nat.le_of_eq TS.out.symm) k1.size))
           obtain ⟨g1, g2⟩ := TC.out w2 k2
           rw [HC.out])
        | (go_at_call 40
           (with_reducible refine (bigof_any (-9223372036854775808) _ (by decide) (by decide)).mono ?_)
           rintro e w3 ⟨⟨r3, rfl, hr3⟩, b3⟩
           have k3 : Below (w.heap.size + 1) v w3 := k2.trans (b3.mono (Nat.le_trans (Nat.le_of_eq TS.out.symm) k2.size))
           have k30 : Below w.heap.size w w3 := T.out.trans (k3.mono (by omega))
           obtain ⟨i1, i2⟩ := TC.out w3 k3)
        | (go_at_call 58
           (with_reducible refine (bigcmp_any _ _ z (-9223372036854775808) _ (HV.out.below k30) hr3 HZ.out HM2.out).mono ?_)
           rintro e w4 ⟨rfl, b4⟩
           have k4 : Below (w.heap.size + 1) v w4 := k3.trans (b4.mono (Nat.le_trans (Nat.le_of_eq TS.out.symm) k3.size))
           obtain ⟨j1, j2⟩ := TC.out w4 k4
           rw [HD.out]))
    | fail "region"
    all_goals
      have K := Lib.hid (T.out.trans (k4.mono (by omega)))
      clear TC HV hr k0 k1 k2 k3 k4 b1 b2 b3 b4 d1 d2 g1 g2 i1 i2 j1 j2 p1 p2 k30
      go_wp2
      go_ret2
      exact ⟨FIN.out, K.out⟩
  · have hle := HLE.out
    have FIN := Lib.hid (sm_yes z (by omega))
    have hlen : len ≤ 4 := MagR.small HN.out HO.out (by rw [HL.out]; show _ < 65536 ^ 4; omega)
    have HV4 := Lib.hid (show Big.val l ≤ 9223372036854775808 by rw [HL.out]; omega)
    obtain ⟨c', hc', hc0'⟩ : ∃ c', cmpZ z (-9223372036854775808) = c' ∧ decide (c' < 0) = false := ⟨_, rfl, c_ge _ (cmpZ_ge _ _ (by omega))⟩
    have HD := Lib.hid hc'
    have HLT := Lib.hid hlt
    clear hlt hc' hle
    go_enter Try.func43, Try.ntmps43
    go_wp2_with fail
    obtain ⟨p1, p2⟩ := TC.out _ (Below.refl _ _)
    generalize (w.alloc (.cells #[.bool s, .slice a len cap] 86)) = v at *
    first
    | go_region_held3 (fun w' => w'.cell? ⟨w.heap.size, 0, none⟩ = some (.bool s) ∧ w'.cell? ⟨w.heap.size, 1, none⟩ = some (.slice a len cap)) (first | exact ⟨j1, j2⟩ | exact ⟨i1, i2⟩ | exact ⟨g1, g2⟩ | exact ⟨d1, d2⟩ | go_keep)
      (first
        | (go_at_call 40
           (with_reducible refine (bigof_any 9223372036854775807 _ (by decide) (by decide)).mono ?_)
           rintro e w1 ⟨⟨r, rfl, hr⟩, b1⟩
           have k1 : Below (w.heap.size + 1) v w1 := ((Below.refl _ v).drew).trans (b1.mono (Nat.le_of_eq TS.out.symm))
           have k0 : Below w.heap.size w w1 := T.out.trans (k1.mono (by omega))
           obtain ⟨d1, d2⟩ := TC.out w1 k1)
        | (go_at_call 58
           (with_reducible refine (bigcmp_any _ _ z 9223372036854775807 _ (HV.out.below k0) hr HZ.out HM.out).mono ?_)
           rintro e w2 ⟨rfl, b2⟩
           have k2 : Below (w.heap.size + 1) v w2 := k1.trans (b2.mono (Nat.le_trans (Nat.le_of_eq TS.out.symm) k1.size))
           obtain ⟨g1, g2⟩ := TC.out w2 k2
           rw [HC.out])
        | (go_at_call 40
           (with_reducible refine (bigof_any (-9223372036854775808) _ (by decide) (by decide)).mono ?_)
           rintro e w3 ⟨⟨r3, rfl, hr3⟩, b3⟩
           have k3 : Below (w.heap.size + 1) v w3 := k2.trans (b3.mono (Nat.le_trans (Nat.le_of_eq TS.out.symm) k2.size))
           have k30 : Below w.heap.size w w3 := T.out.trans (k3.mono (by omega))
           obtain ⟨i1, i2⟩ := TC.out w3 k3)
        | (go_at_call 58
           (with_reducible refine (bigcmp_any _ _ z (-9223372036854775808) _ (HV.out.below k30) hr3 HZ.out HM2.out).mono ?_)
           rintro e w4 ⟨rfl, b4⟩
           have k4 : Below (w.heap.size + 1) v w4 := k3.trans (b4.mono (Nat.le_trans (Nat.le_of_eq TS.out.symm) k3.size))
           obtain ⟨j1, j2⟩ := TC.out w4 k4
           rw [HD.out]))
    | fail "region"
    all_goals
      have K4 := Lib.hid k4
      have K := Lib.hid (T.out.trans (k4.mono (by omega)))
      clear HV hr k0 k1 k2 k3 k4 b1 b2 b3 b4 d1 d2 g1 g2 i1 i2 j1 j2 p1 p2 k30
      have T4 : Below w.heap.size w w4 := K.out
      have J1 := (TC.out w4 K4.out).1
      have J2 := (TC.out w4 K4.out).2
      go_wp2_with fail
      go_loop [4, 5] (fun u i => ∃ k : Nat, i = .int .i64 ((k : Int) - 1) ∧ k ≤ len ∧ u = .int .u64 (Big.val (l.drop k) : Nat)) (fun _ i => (intOf i + 1).toNat)
      case atStart => exact ⟨len, by go_num, Nat.le_refl _, by rw [List.drop_of_length_le (by rw [HN.out.1]; exact Nat.le_refl _)]; rfl⟩
      case round =>
        obtain ⟨k, rfl, hk, rfl⟩ := hrel
        have hle1 := Nat.le_trans (val_drop_le l k) HV4.out
        cases k with
        | zero =>
          cases s with
          | false =>
            have FIN2 := Lib.hid (FIN.out (wrap64 (Big.val (l.drop 0) : Nat)) (by have h1 := HS.out; have h2 := HL.out; have h3 := HLE.out; simp at h1; simp only [List.drop_zero, wrap64]; omega))
            generalize Big.val (l.drop 0) = x at *
            go_wp2
            go_ret2
            exact ⟨FIN2.out, K.out⟩
          | true =>
            have FIN2 := Lib.hid (FIN.out (wrap64 (IntKind.u64.wrap (-(Big.val (l.drop 0) : Nat)))) (by have h1 := HS.out; have h2 := HL.out; have h3 := HLT.out; simp at h1; simp only [List.drop_zero, wrap64, IntKind.wrap_u64]; omega))
            generalize Big.val (l.drop 0) = x at *
            go_wp2
            go_ret2
            exact ⟨FIN2.out, K.out⟩
        | succ j =>
          obtain ⟨b, o, rfl, hb, hc⟩ := (HN.out.below T4).at j (by omega)
          have hst := Nums.drop_step l j (by rw [HN.out.1]; exact hk)
          have hle2 := Nat.le_trans (val_drop_le l j) HV4.out
          have REL := Lib.hid hst
          generalize l.getD j 0 = x at *
          generalize Big.val (l.drop (j + 1)) = y at *
          generalize hvv : Big.val (l.drop j) = vv at *
          have HVV := Lib.hid hvv
          clear hvv
          go_wp2
          go_round
          case rel => exact ⟨j, by go_num, by omega, by rw [HVV.out, REL.out]; go_num⟩
          case measure => simp [intOf]
end Go.Proofs.Ytgbiimoednmlgaa

/- Small of a number above all int64s, and of any. -/
namespace Go.Proofs.Ytgbiimoednmlgaa
set_option linter.unusedVariables false
set_option linter.unusedSimpArgs false
open Go.RowKit
set_option maxRecDepth 100000 in
set_option maxHeartbeats 4000000 in
theorem small_gt (v : Value) (z : Int) (w : World) (hv : BigR w v z) (hz : Sm z.natAbs) (hgt : 9223372036854775807 < z) :
    Calls Try.prog 43 #[v] w fun e w' => e = .returned (.tuple #[.int .i64 (smN z), .bool (smB z)]) ∧ Below w.heap.size w w' := by
  have FIN := Lib.hid (sm_no z (by omega))
  have HC := Lib.hid (cmpZ_gt z 9223372036854775807 hgt)
  have HV := Lib.hid hv
  have HZ := Lib.hid hz
  have HM := Lib.hid (Sm.int (-9223372036854775807 : Int).natAbs (by decide))
  obtain ⟨m, rfl, a, len, cap, l, rfl, h1, h2, h3⟩ := hv
  clear h1 h2 h3 hz hgt
  generalize decide (z < 0) = s at *
  have T := Lib.hid (((Below.refl _ w).alloc (Nat.le_refl _) (.cells #[.bool s, .slice a len cap] 86)) : Below w.heap.size w _)
  have BX := Lib.hid (Mem.Blk.new w 86 #[.bool s, .slice a len cap])
  go_enter Try.func43, Try.ntmps43
  go_wp2_with fail
  generalize (w.alloc (.cells #[.bool s, .slice a len cap] 86)) = v at *
  obtain ⟨c0, c1, -, -⟩ := BX.out.two
  refine wp_region_till (S := fun W => W.cell? ⟨w.heap.size, 0, none⟩ = some (.bool s) ∧ W.cell? ⟨w.heap.size, 1, none⟩ = some (.slice a len cap)) 9 (by kernel_rfl) ?_
  refine till_take (i := 0) (v := ?_) rfl (by kernel_rfl) (fun _ _ _ h => h) (Or.inl ⟨by rfl, ?_⟩) ⟨c0,c1⟩ ?_
  rotate_left
  · intro W hS
    try dsimp only at hS
    go_split_ands
    go_simp
    try with_reducible rfl
  try simp only [Act.put, List.getElem_toArray, List.getElem_cons_zero, List.getElem_cons_succ, List.setIfInBounds_toArray, List.set_cons_zero, List.set_cons_succ]
  refine till_one (i := 1) (by kernel_rfl) rfl (fun K' hK => ?_)
  go_simp
  go_at_call 40
  (with_reducible refine (bigof_any 9223372036854775807 _ (by decide) (by decide)).mono ?_)
  rintro e w1 ⟨⟨r, rfl, hr⟩, b1⟩
  have K1 : Hid (Below v.heap.size v w1) := ((Below.refl _ v).drew).trans b1
  have HR1 := Lib.hid hr
  clear b1 hr c0 c1
  obtain ⟨c0, c1, -, -⟩ := (BX.out.below K1.out).two
  refine hK _ _ ⟨c0, c1⟩ ?_
  clear hK K'
  try simp only [Act.put, List.getElem_toArray, List.getElem_cons_zero, List.getElem_cons_succ, List.setIfInBounds_toArray, List.set_cons_zero, List.set_cons_succ]
  refine till_one (i := 2) (by kernel_rfl) rfl (fun K' hK => ?_)
  go_simp
  go_at_call 58
  (with_reducible refine (bigcmp_any _ _ z 9223372036854775807 _ (HV.out.below (T.out.trans (K1.out.mono T.out.size))) HR1.out HZ.out HM.out).mono ?_)
  rintro e w2 ⟨rfl, b2⟩
  rw [HC.out]
  have K2 := Lib.hid (K1.out.trans (b2.mono K1.out.size))
  clear b2 c0 c1 K1 HR1
  obtain ⟨c0, c1, -, -⟩ := (BX.out.below K2.out).two
  refine hK _ _ ⟨c0, c1⟩ ?_
  clear hK K'
  try simp only [Act.put, List.getElem_toArray, List.getElem_cons_zero, List.getElem_cons_succ, List.setIfInBounds_toArray, List.set_cons_zero, List.set_cons_succ]
  refine till_take (i := 3) (v := ?_) rfl (by kernel_rfl) (fun _ _ _ h => h) (Or.inl ⟨by rfl, ?_⟩) ⟨c0,c1⟩ ?_
  rotate_left
  · intro W hS
    try dsimp only at hS
    go_split_ands
    go_simp
    try with_reducible rfl
  try simp only [Act.put, List.getElem_toArray, List.getElem_cons_zero, List.getElem_cons_succ, List.setIfInBounds_toArray, List.set_cons_zero, List.set_cons_succ]
  refine till_take (i := 4) (v := ?_) rfl (by kernel_rfl) (fun _ _ _ h => h) (Or.inl ⟨by rfl, ?_⟩) ⟨c0,c1⟩ ?_
  rotate_left
  · intro W hS
    try dsimp only at hS
    go_split_ands
    go_simp
    try with_reducible rfl
  try simp only [Act.put, List.getElem_toArray, List.getElem_cons_zero, List.getElem_cons_succ, List.setIfInBounds_toArray, List.set_cons_zero, List.set_cons_succ]
  refine till_take (i := 5) (v := undef) rfl (by kernel_rfl) (fun _ _ _ h => h) (Or.inr ⟨by rfl, rfl⟩) ⟨c0,c1⟩ ?_
  try simp only [Act.put, List.getElem_toArray, List.getElem_cons_zero, List.getElem_cons_succ, List.setIfInBounds_toArray, List.set_cons_zero, List.set_cons_succ]
  refine till_one (i := 6) (by kernel_rfl) rfl (fun K' hK => ?_)
  go_simp
  refine hK _ _ ⟨c0,c1⟩ ?_
  clear hK K'
  try simp only [Act.put, List.getElem_toArray, List.getElem_cons_zero, List.getElem_cons_succ, List.setIfInBounds_toArray, List.set_cons_zero, List.set_cons_succ]
  refine till_one (i := 7) (by kernel_rfl) rfl (fun K' hK => ?_)
  go_simp
  refine hK _ _ ⟨c0,c1⟩ ?_
  clear hK K'
  try simp only [Act.put, List.getElem_toArray, List.getElem_cons_zero, List.getElem_cons_succ, List.setIfInBounds_toArray, List.set_cons_zero, List.set_cons_succ]
  refine till_take (i := 8) (v := undef) rfl (by kernel_rfl) (fun _ _ _ h => h) (Or.inr ⟨by rfl, rfl⟩) ⟨c0,c1⟩ ?_
  try simp only [Act.put, List.getElem_toArray, List.getElem_cons_zero, List.getElem_cons_succ, List.setIfInBounds_toArray, List.set_cons_zero, List.set_cons_succ]
  refine till_last (by kernel_rfl) rfl (by kernel_rfl) (fun K' hK => ?_)
  go_simp
  refine hK _ _ ?_
  clear hK K'
  try simp only [Act.put, List.getElem_toArray, List.getElem_cons_zero, List.getElem_cons_succ, List.setIfInBounds_toArray, List.set_cons_zero, List.set_cons_succ]
  refine wpAny_done (by kernel_rfl) ?_ _
  have K := Lib.hid (T.out.trans (K2.out.mono T.out.size))
  clear c0 c1 K2 BX T
  go_wp2_with fail
  go_ret2
  exact ⟨FIN.out, K.out⟩
theorem small_any (v : Value) (z : Int) (w : World) (hv : BigR w v z) (hz : Sm z.natAbs) :
    Calls Try.prog 43 #[v] w fun e w' => e = .returned (.tuple #[.int .i64 (smN z), .bool (smB z)]) ∧ Below w.heap.size w w' := by
  by_cases h : 9223372036854775807 < z
  · exact small_gt v z w hv hz h
  · exact small_le v z w hv hz (by omega)
end Go.Proofs.Ytgbiimoednmlgaa

/- The document's Post: plain, and where its walk stands. -/
namespace Go.Proofs.Ytgbiimoednmlgaa
set_option linter.unusedVariables false
set_option linter.unusedSimpArgs false
open Go.RowKit
theorem below_newL (w : World) (o : Obj) : Below w.heap.size w (w.alloc o) := (Below.refl w.heap.size w).alloc (Nat.le_refl _) o
theorem Sm.bigL {n : Nat} (h : n ≤ 340282366920938463463374607431768211456) : Sm n := by
  refine Sm.of (Nat.lt_of_lt_of_le ?_ (Big.pw_mono (show 9 ≤ 1000000 by decide)))
  show n < 65536 ^ 9
  omega
/-- What has come to a key behind j moves. -/
def stM (l : List Acct) (m : List Mv) (j : Nat) (k : Ky) : Int := tot (conA l ++ conM (m.take j)) k
theorem stM_zero {l : List Acct} {m : List Mv} {k : Ky} (hu : UpK Acct.key l) : stM l m 0 k = getR l k := by
  unfold stM
  rw [List.take_zero, getR_tot hu]
  show tot (conA l ++ []) k = _
  rw [List.append_nil]
theorem stM_next {l : List Acct} {m : List Mv} {j : Nat} {x : Mv} (k : Ky) (h : m[j]? = some x) : stM l m (j + 1) k = stM l m j k + (if x.kf = k then -x.amt else 0) + (if x.kt = k then x.amt else 0) := by
  unfold stM
  rw [conM_take h, ← List.append_assoc, ← List.append_assoc, tot_append, tot_append, tot_one, tot_one]
theorem stM_end {l : List Acct} {m : List Mv} {j : Nat} (k : Ky) (h : m.length ≤ j) : stM l m j k = tot (conA l ++ conM m) k := by
  unfold stM; rw [List.take_of_length_le h]
theorem kf_eq {y : Mv} {x : Acct} : y.kf = x.key ↔ y.src.data.toList = x.party.data.toList ∧ y.coin.data.toList = x.coin.data.toList :=
  ⟨fun h => ⟨congrArg Prod.fst h, congrArg Prod.snd h⟩, fun h => Prod.ext h.1 h.2⟩
theorem kt_eq {y : Mv} {x : Acct} : y.kt = x.key ↔ y.dst.data.toList = x.party.data.toList ∧ y.coin.data.toList = x.coin.data.toList :=
  ⟨fun h => ⟨congrArg Prod.fst h, congrArg Prod.snd h⟩, fun h => Prod.ext h.1 h.2⟩
def Bd (z : Int) (j : Nat) : Prop := z.natAbs ≤ 9223372036854775808 * (j + 1)
theorem Bd.zero {z : Int} (h : I64 z) : Bd z 0 := by unfold Bd; unfold I64 at h; omega
theorem Bd.add {z n : Int} {j : Nat} (h : Bd z j) (hn : I64 n) : Bd (z + n) (j + 1) := by unfold Bd at *; unfold I64 at hn; omega
theorem Bd.sub {z n : Int} {j : Nat} (h : Bd z j) (hn : I64 n) : Bd (z + -n) (j + 1) := by unfold Bd at *; unfold I64 at hn; omega
theorem Bd.up {z : Int} {j k : Nat} (h : Bd z j) (hk : j ≤ k) : Bd z k := by
  unfold Bd at *
  exact Nat.le_trans h (Nat.mul_le_mul_left _ (by omega))
theorem Bd.sm {z : Int} {j : Nat} (h : Bd z j) (hj : j ≤ 3000) : Sm z.natAbs := by
  unfold Bd at h
  exact Sm.bigL (Nat.le_trans h (Nat.le_trans (Nat.mul_le_mul_left _ (show j + 1 ≤ 3001 by omega)) (by decide)))
/-- The accounts that come of keys. -/
def oK (L : List (Ky × Int)) (ks : List Acct) : List Acct := ks.filterMap (fun a => if tot L a.key = 0 then none else some ⟨a.party, a.coin, tot L a.key⟩)
theorem oK_mem {L : List (Ky × Int)} {ks : List Acct} {a : Acct} : a ∈ oK L ks ↔ ∃ e ∈ ks, tot L e.key ≠ 0 ∧ a = ⟨e.party, e.coin, tot L e.key⟩ := by
  unfold oK
  rw [List.mem_filterMap]
  constructor
  · rintro ⟨e, he, h⟩
    by_cases h0 : tot L e.key = 0
    · rw [if_pos h0] at h; cases h
    · rw [if_neg h0] at h; injection h with h
      exact ⟨e, he, h0, h.symm⟩
  · rintro ⟨e, he, h0, rfl⟩
    exact ⟨e, he, by rw [if_neg h0]⟩
theorem oK_take {L : List (Ky × Int)} {ks : List Acct} {k : Nat} {e : Acct} (h : ks[k]? = some e) : oK L (ks.take (k + 1)) = oK L (ks.take k) ++ (if tot L e.key = 0 then [] else [⟨e.party, e.coin, tot L e.key⟩]) := by
  obtain ⟨hk, e1⟩ := List.getElem?_eq_some_iff.1 h
  rw [← List.take_append_getElem hk, e1]
  unfold oK
  rw [List.filterMap_append]
  congr 1
  by_cases h0 : tot L e.key = 0
  · rw [if_pos h0, List.filterMap_cons, if_pos h0]; rfl
  · rw [if_neg h0, List.filterMap_cons, if_neg h0]; rfl
theorem oK_len (L : List (Ky × Int)) (ks : List Acct) : (oK L ks).length ≤ ks.length := List.length_filterMap_le ..
theorem allK_len (l : List Acct) (m : List Mv) : (allK l m).length = l.length + 2 * m.length := by
  unfold allK
  rw [List.length_append, List.length_map]
  congr 1
  induction m with
  | nil => rfl
  | cons x t ih => rw [List.flatMap_cons, List.length_append, ih]; show 2 + 2 * t.length = 2 * (t.length + 1); omega
theorem con_all {l : List Acct} {m : List Mv} {p : Ky × Int} (hp : p ∈ conA l ++ conM m) : ∃ a ∈ allK l m, a.key = p.1 := by
  unfold allK
  rcases List.mem_append.1 hp with hp | hp
  · unfold conA at hp
    obtain ⟨a, ha, rfl⟩ := List.mem_map.1 hp
    exact ⟨zA a, List.mem_append_left _ (List.mem_map.2 ⟨a, ha, rfl⟩), rfl⟩
  · unfold conM at hp
    obtain ⟨x, hx, hxp⟩ := List.mem_flatMap.1 hp
    rw [List.mem_cons, List.mem_singleton] at hxp
    rcases hxp with rfl | rfl
    · exact ⟨⟨x.src, x.coin, 0⟩, List.mem_append_right _ (List.mem_flatMap.2 ⟨x, hx, by unfold zM; simp⟩), rfl⟩
    · exact ⟨⟨x.dst, x.coin, 0⟩, List.mem_append_right _ (List.mem_flatMap.2 ⟨x, hx, by unfold zM; simp⟩), rfl⟩
theorem keys_out {l : List Acct} {m : List Mv} {ks : List Acct} (h : KeySt ks (allK l m)) : OutOf (oK (conA l ++ conM m) ks) (conA l ++ conM m) := by
  refine ⟨?_, fun a ha => ?_, fun k hk => ?_⟩
  · unfold oK UpK
    rw [List.pairwise_filterMap]
    refine h.up.imp (fun {x y} hxy b hb b' hb' => ?_)
    split at hb
    · cases hb
    · split at hb'
      · cases hb'
      · injection hb with hb; injection hb' with hb'
        subst hb; subst hb'; exact hxy
  · obtain ⟨e, he, h0, rfl⟩ := oK_mem.1 ha
    exact ⟨rfl, h0⟩
  · have : ∃ p ∈ conA l ++ conM m, p.1 = k := by
      refine Classical.byContradiction (fun hn => hk (tot_none (fun p hp e => hn ⟨p, hp, e⟩)))
    obtain ⟨p, hp, hpk⟩ := this
    obtain ⟨a, ha, hak⟩ := con_all hp
    obtain ⟨b, hb, hbk⟩ := h.all a ha
    have e : b.key = k := hbk.trans (hak.trans hpk)
    exact ⟨⟨b.party, b.coin, tot (conA l ++ conM m) b.key⟩, oK_mem.2 ⟨b, hb, by rw [e]; exact hk, rfl⟩, e⟩
theorem keys_fit {l : List Acct} {m : List Mv} {ks : List Acct} (h : KeySt ks (allK l m)) : FitL (conA l ++ conM m) ↔ ∀ a ∈ ks, fits64 (tot (conA l ++ conM m) a.key) = true := by
  constructor
  · intro hf a _; exact hf a.key
  · intro hf
    refine FitL.of (fun p hp => ?_)
    obtain ⟨a, ha, hak⟩ := con_all hp
    obtain ⟨b, hb, hbk⟩ := h.all a ha
    rw [← hak, ← hbk]; exact hf b hb
theorem fits_smB (z : Int) : smB z = fits64 z := by
  unfold smB fits64
  by_cases h : -9223372036854775808 ≤ z ∧ z ≤ 9223372036854775807
  · rw [decide_eq_true h, decide_eq_true h.1, decide_eq_true h.2]; rfl
  · rw [decide_eq_false h]
    by_cases h1 : -9223372036854775808 ≤ z
    · rw [decide_eq_true h1, decide_eq_false (fun h2 => h ⟨h1, h2⟩)]; rfl
    · rw [decide_eq_false h1]; rfl
/-- What the document's Post answers. -/
def RpoR (w' : World) (l : List Acct) (m : List Mv) (x : Ending) : Prop := ∃ (out : List Acct) (a : Option Addr) (c : Nat) (b : Bool), x = .returned (.tuple #[.slice a out.length c, .bool b]) ∧ SlR acctK w' [] out a out.length c ∧ out.length ≤ l.length + 2 * m.length ∧ ((b = false ∧ ¬ FitL (conA l ++ conM m)) ∨ (b = true ∧ FitL (conA l ++ conM m) ∧ OutOf out (conA l ++ conM m)))
/-- The number that grows, beside the row that grows. -/
structure PoSt (w1 wr : World) (v : Value) (n : Nat) (xs : List Value) (g : Nat) (z : Int) : Prop where
  bel : Below w1.heap.size w1 wr
  row : wr.ownsRow w1.heap.size 58 3 v n xs
  lo : w1.heap.size ≤ g
  big : ∃ b a len cap, Mem.Blk wr g 86 #[.bool b, .slice a len cap] ∧ BigR wr (.agg #[.bool b, .slice a len cap]) z
theorem grown_set (w : World) (g j : Nat) (u : Value) : w.grownBy (w.setCell ⟨g, j, none⟩ u) (some g) :=
  ⟨rfl, rfl, rfl, by simp [World.setCell], fun i hi hne => Below.heap_setCell w ⟨g, j, none⟩ u i (fun e => hne (by rw [e]))⟩
theorem row_far {w : World} {base sz n g : Nat} {t e : TypeId} {v : Value} {xs : List Value} {cs : Array Value} (h : w.ownsRow base e sz v n xs) (hb : Mem.Blk w g t cs) (ht : t ≠ e) (j : Nat) (u : Value) : (w.setCell ⟨g, j, none⟩ u).ownsRow base e sz v n xs :=
  h.kept (grown_set w g j u) (by
    cases hv : v.ownBlock with
    | none => exact .inl rfl
    | some k => exact .inr (fun e2 => blkRow hb h ht (hv.trans e2)))
theorem PoSt.below {w1 wr w' : World} {v : Value} {n : Nat} {xs : List Value} {g : Nat} {z : Int} (h : PoSt w1 wr v n xs g z) (b : Below wr.heap.size wr w') : PoSt w1 w' v n xs g z := by
  obtain ⟨bb, a, len, cap, h1, h2⟩ := h.big
  exact ⟨h.bel.trans (b.mono h.bel.size), own_below h.row b, h.lo, bb, a, len, cap, h1.below b, h2.below b⟩
theorem PoSt.put {w1 wr : World} {v : Value} {n : Nat} {xs : List Value} {g : Nat} {z z' : Int} (h : PoSt w1 wr v n xs g z) {r : Value} (hr : BigR wr r z') : ∃ b a len cap, r = .agg #[.bool b, .slice a len cap] ∧ PoSt w1 ((wr.setCell ⟨g, 0, none⟩ (.bool b)).setCell ⟨g, 1, none⟩ (.slice a len cap)) v n xs g z' := by
  obtain ⟨bb, aa, ll, cc, h1, h2⟩ := h.big
  have hr3 := hr
  obtain ⟨mm, rfl, a, len, cap, l, rfl, q1, q2, q3⟩ := hr
  refine ⟨_, a, len, cap, rfl, (h.bel.setCell h.lo _).setCell h.lo _, row_far (row_far h.row h1 (by decide) _ _) (h1.set_ 0 _) (by decide) _ _, h.lo, _, a, len, cap, (h1.set_ 0 _).set_ 1 _, hr3.put2 h1⟩
/-- A new number. -/
theorem PoSt.new {w1 wr : World} {v : Value} {n : Nat} {xs : List Value} {z : Int} {g : Nat} {r : Value} {b0 : Bool} {a0 : Option Addr} {l0 c0 : Nat} (hb : Below w1.heap.size w1 wr) (ho : wr.ownsRow w1.heap.size 58 3 v n xs) (hg : w1.heap.size ≤ g) (h1 : Mem.Blk wr g 86 #[.bool b0, .slice a0 l0 c0]) (hr : BigR wr r z) : ∃ b a len cap, r = .agg #[.bool b, .slice a len cap] ∧ PoSt w1 ((wr.setCell ⟨g, 0, none⟩ (.bool b)).setCell ⟨g, 1, none⟩ (.slice a len cap)) v n xs g z := by
  have hr3 := hr
  obtain ⟨mm, rfl, a, len, cap, l, rfl, q1, q2, q3⟩ := hr
  refine ⟨_, a, len, cap, rfl, (hb.setCell hg _).setCell hg _, row_far (row_far ho h1 (by decide) _ _) (h1.set_ 0 _) (by decide) _ _, hg, _, a, len, cap, (h1.set_ 0 _).set_ 1 _, hr3.put2 h1⟩
end Go.Proofs.Ytgbiimoednmlgaa

/- The document's Even. -/
namespace Go.Proofs.Ytgbiimoednmlgaa
set_option linter.unusedVariables false
set_option linter.unusedSimpArgs false
open Go.RowKit
theorem coinA_take {l : List Acct} {k : Nat} {x : Acct} (h : l[k]? = some x) (c : List UInt8) : coinA (l.take (k + 1)) c = coinA (l.take k) c + (if x.coin.data.toList = c then x.amt else 0) := by
  rw [← amtA_sum, ← amtA_sum, amtA_take h, List.sum_append]
  split <;> simp
theorem evenA_yes {l : List Acct} (h : ∀ (j : Nat) a, l[j]? = some a → coinA l a.coin.data.toList = 0) : evenA l = rightA l := by
  unfold evenA
  rw [List.all_eq_true.2 (fun a ha => by
    obtain ⟨j, hj⟩ := List.getElem?_of_mem ha
    simpa using h j a hj), Bool.and_true]
theorem evenA_no {l : List Acct} {j : Nat} {a : Acct} (hj : l[j]? = some a) (h : coinA l a.coin.data.toList ≠ 0) : evenA l = false := by
  unfold evenA
  rw [Bool.and_eq_false_iff]
  right
  rw [List.all_eq_false]
  exact ⟨a, List.mem_of_getElem? hj, by simpa using h⟩
theorem nums_nil (w : World) : Nums w none 0 0 [] := ⟨rfl, Nat.le_refl _, by decide, fun h => absurd h (by omega)⟩
theorem bigr_len {w : World} {b : Bool} {a : Option Addr} {len cap : Nat} {z : Int} (h : BigR w (.agg #[.bool b, .slice a len cap]) z) : (len : Nat) = 0 ↔ z = 0 := by
  obtain ⟨m, e, a', len', cap', l, rfl, h1, h2, h3⟩ := h
  injection e with e
  injection e with e
  simp only [List.cons.injEq, Value.slice.injEq, and_true] at e
  obtain ⟨-, rfl, rfl, rfl⟩ := e
  have hz := MagR.zero h1 h2 h3
  omega
set_option maxRecDepth 100000 in
set_option maxHeartbeats 8000000 in
theorem reven_any (l : List Acct) (a : Option Addr) (len cap : Nat) (w : World) (h : SlR acctK w [] l a len cap) (hlen : len ≤ 1000) :
    Calls Try.prog 23 #[.slice a len cap] w fun x w' => x = .returned (.bool (evenA l)) ∧ Below w.heap.size w w' := by
  have HS := Lib.hid h
  have HL := Lib.hid h.facts.1
  have HN := Lib.hid hlen
  obtain ⟨R, hR⟩ : ∃ R, R = evenA l := ⟨_, rfl⟩
  have HR := Lib.hid hR
  rw [← hR]
  clear h hR hlen
  go_enter Try.func23, Try.ntmps23
  go_wp2_with fail
  go_loopw [3] (fun i wr => ∃ (k : Nat), i = .int .i64 (k : Nat) ∧ k ≤ len ∧ Hid ((∀ (j : Nat) a, j < k → l[j]? = some a → coinA l a.coin.data.toList = 0) ∧ Below w.heap.size w wr)) (fun i _ => len - (intOf i).toNat)
  case atStart => exact ⟨0, rfl, Nat.zero_le _, fun j b h => absurd h (by omega), Below.refl _ _⟩
  case round =>
    obtain ⟨k, rfl, hk, HT⟩ := hrel
    by_cases hkt : k < len
    · have hkt' : (k : Int) < (len : Int) := by omega
      have k0 : (0 : Int) ≤ (k : Int) := by omega
      have k1 : (k : Int) ≤ 1000 := by have := HN.out; omega
      obtain ⟨b, o, x, hxa, hx, hxo, x0, x1, x2⟩ := acct_at HS.out k hkt
      have HX1 := Lib.hid x1
      have HX := Lib.hid hx
      have HKT := Lib.hid hkt
      have HXA := Lib.hid hxa
      subst hxa
      clear x0 x1 x2 hx hxo hkt
      go_upto_region 5 with (fail)
      have HP0 : Hid (PoSt w (wr.alloc (.cells #[.bool false, .slice none 0 0] 86)) (.slice none 0 0) 0 [] wr.heap.size 0) := ⟨HT.out.2.alloc HT.out.2.size _, World.ownsRow_nil _ _ _ _, HT.out.2.size, _, _, _, _, Mem.Blk.new wr 86 #[.bool false, .slice none 0 0], ⟨.slice none 0 0, rfl, none, 0, 0, [], rfl, nums_nil _, Big.Norm.nil, rfl⟩⟩
      have HTT := Lib.hid HT.out.1
      clear HT
      generalize (wr.alloc (.cells #[.bool false, .slice none 0 0] 86)) = w5 at *
      obtain ⟨g, hg⟩ : ∃ g, g = wr.heap.size := ⟨_, rfl⟩
      rw [← hg] at HP0 ⊢
      clear hg
      go_wp2_with fail
      go_loopw [5] (fun i wr => ∃ (j : Nat) (z : Int), i = .int .i64 (j : Nat) ∧ j ≤ len ∧ Hid (PoSt w wr (.slice none 0 0) 0 [] g z ∧ z = coinA (l.take j) x.coin.data.toList ∧ Bd z j)) (fun i _ => len - (intOf i).toNat)
      case atStart => exact ⟨0, 0, rfl, Nat.zero_le _, HP0.out, rfl, Bd.zero (by unfold I64; omega)⟩
      case round =>
        clear HP0
        rename World => wi
        obtain ⟨j, z, rfl, hj, HPZ⟩ := hrel
        by_cases hjt : j < len
        · have hjt' : (j : Int) < (len : Int) := by omega
          have j0 : (0 : Int) ≤ (j : Int) := by omega
          have j1 : (j : Int) ≤ 1000 := by have := HN.out; omega
          obtain ⟨bm, om, y, hma, hy, hyo, v0, v1, v2⟩ := acct_at HS.out j hjt
          injection hma with hma
          injection hma with e1 e2
          subst e1; subst e2
          have HV1 := Lib.hid v1
          have HV2 := Lib.hid v2
          have HJT := Lib.hid hjt
          have HST := Lib.hid (coinA_take hy x.coin.data.toList)
          have HYA : Hid (I64 y.amt) := hyo.amt
          have HYB : Hid (-9223372036854775808 ≤ y.amt ∧ y.amt ≤ 9223372036854775807) := hyo.amt
          have HYS : Hid (Sm y.amt.natAbs) := Sm.int _ (by have := HYB.out; omega)
          have HSM : Hid (Sm z.natAbs) := HPZ.out.2.2.sm (by have := HN.out; omega)
          clear v0 v1 v2 hy hyo hjt
          have HPS := Lib.hid HPZ.out.1
          have HZE := Lib.hid HPZ.out.2.1
          have HZB := Lib.hid HPZ.out.2.2
          clear HPZ
          have hc := same_b y.coin x.coin
          have e1 : wi.cell? ⟨b, o + k * 3 + 1, none⟩ = some (.string x.coin) := cellUp HX1.out HPS.out.bel
          have u1 : wi.cell? ⟨b, o + j * 3 + 1, none⟩ = some (.string y.coin) := cellUp HV1.out HPS.out.bel
          by_cases hcc : y.coin.data.toList = x.coin.data.toList
          · rw [decide_eq_true hcc] at hc
            go_upto_region 8 with (fail)
            go_quiet (fail)
            have bq : Below wi.heap.size wi (wi.drewN nq) := below_dN (Below.refl wi.heap.size wi) nq
            have HPQ := Lib.hid (HPS.out.below bq)
            clear bq e1 u1 HPS
            generalize wi.drewN nq = wq at *
            have HZN : Hid (z + y.amt = coinA (l.take (j + 1)) x.coin.data.toList ∧ Bd (z + y.amt) (j + 1)) := by
              have h := HST.out
              rw [if_pos hcc, ← HZE.out] at h
              exact ⟨h.symm, HZB.out.add HYA.out⟩
            clear HST HZE HZB hcc
            go_upto_region 9 with (fail)
            obtain ⟨gb, ga, gl, gc, hgb, hgr⟩ := HPQ.out.big
            obtain ⟨c0, c1, -, -⟩ := hgb.two
            have u3 : wq.cell? ⟨b, o + j * 3 + 2, none⟩ = some (.int .i64 y.amt) := cellUp HV2.out HPQ.out.bel
            refine wp_region_till (S := fun W => W.cell? ⟨g, 0, none⟩ = some (.bool gb) ∧ W.cell? ⟨g, 1, none⟩ = some (.slice ga gl gc) ∧ W.cell? ⟨b, o + j * 3 + 2, none⟩ = some (.int .i64 y.amt)) 8 (by kernel_rfl) ?_
            refine till_take (i := 0) (v := ?_) rfl (by kernel_rfl) (fun _ _ _ h => h) (Or.inl ⟨by rfl, ?_⟩) ⟨c0,c1,u3⟩ ?_
            rotate_left
            · intro W hS
              try dsimp only at hS
              go_split_ands
              go_simp
              try with_reducible rfl
            try simp only [Act.put, List.getElem_toArray, List.getElem_cons_zero, List.getElem_cons_succ, List.setIfInBounds_toArray, List.set_cons_zero, List.set_cons_succ]
            refine till_take (i := 1) (v := ?_) rfl (by kernel_rfl) (fun _ _ _ h => h) (Or.inl ⟨by rfl, ?_⟩) ⟨c0,c1,u3⟩ ?_
            rotate_left
            · intro W hS
              try dsimp only at hS
              go_split_ands
              go_simp
              try with_reducible rfl
            try simp only [Act.put, List.getElem_toArray, List.getElem_cons_zero, List.getElem_cons_succ, List.setIfInBounds_toArray, List.set_cons_zero, List.set_cons_succ]
            refine till_take (i := 2) (v := ?_) rfl (by kernel_rfl) (fun _ _ _ h => h) (Or.inl ⟨by rfl, ?_⟩) ⟨c0,c1,u3⟩ ?_
            rotate_left
            · intro W hS
              try dsimp only at hS
              go_split_ands
              go_simp
              try with_reducible rfl
            try simp only [Act.put, List.getElem_toArray, List.getElem_cons_zero, List.getElem_cons_succ, List.setIfInBounds_toArray, List.set_cons_zero, List.set_cons_succ]
            refine till_take (i := 3) (v := ?_) rfl (by kernel_rfl) (fun _ _ _ h => h) (Or.inl ⟨by rfl, ?_⟩) ⟨c0,c1,u3⟩ ?_
            rotate_left
            · intro W hS
              try dsimp only at hS
              go_split_ands
              go_simp
              try with_reducible rfl
            try simp only [Act.put, List.getElem_toArray, List.getElem_cons_zero, List.getElem_cons_succ, List.setIfInBounds_toArray, List.set_cons_zero, List.set_cons_succ]
            refine till_take (i := 4) (v := ?_) rfl (by kernel_rfl) (fun _ _ _ h => h) (Or.inl ⟨by rfl, ?_⟩) ⟨c0,c1,u3⟩ ?_
            rotate_left
            · intro W hS
              try dsimp only at hS
              go_split_ands
              go_simp
              try with_reducible rfl
            try simp only [Act.put, List.getElem_toArray, List.getElem_cons_zero, List.getElem_cons_succ, List.setIfInBounds_toArray, List.set_cons_zero, List.set_cons_succ]
            refine till_take (i := 5) (v := ?_) rfl (by kernel_rfl) (fun _ _ _ h => h) (Or.inl ⟨by rfl, ?_⟩) ⟨c0,c1,u3⟩ ?_
            rotate_left
            · intro W hS
              try dsimp only at hS
              go_split_ands
              go_simp
              try with_reducible rfl
            try simp only [Act.put, List.getElem_toArray, List.getElem_cons_zero, List.getElem_cons_succ, List.setIfInBounds_toArray, List.set_cons_zero, List.set_cons_succ]
            refine till_one (i := 6) (by kernel_rfl) rfl (fun K' hK => ?_)
            go_simp
            go_at_call 40
            (with_reducible refine (bigof_any y.amt _ HYB.out.1 HYB.out.2).mono ?_)
            rintro e w6 ⟨⟨r6, rfl, hr6⟩, b6⟩
            have p1 := (Below.refl wq.heap.size wq).drew.trans (b6.mono (Below.refl wq.heap.size wq).drew.size)
            replace c0 := cellUp c0 p1
            replace c1 := cellUp c1 p1
            replace u3 := cellUp u3 p1
            refine hK _ _ ⟨c0,c1,u3⟩ ?_
            clear hK K' b6
            try simp only [Act.put, List.getElem_toArray, List.getElem_cons_zero, List.getElem_cons_succ, List.setIfInBounds_toArray, List.set_cons_zero, List.set_cons_succ]
            refine till_one (i := 7) (by kernel_rfl) rfl (fun K' hK => ?_)
            go_simp
            go_at_call 41
            (with_reducible refine (plus_any _ _ z (y.amt) _ (hgr.below p1) hr6 HSM.out HYS.out).mono ?_)
            rintro e w7 ⟨⟨r7, rfl, hr7⟩, b7⟩
            have p2 := p1.trans (b7.mono p1.size)
            replace c0 := cellUp c0 b7
            replace c1 := cellUp c1 b7
            replace u3 := cellUp u3 b7
            refine hK _ _ ⟨c0,c1,u3⟩ ?_
            clear hK K' b7 p1 hr6 u3
            obtain ⟨nb2, na2, nl2, nc2, rfl, hps⟩ := (HPQ.out.below p2).put hr7
            have HPS3 := Lib.hid hps
            obtain ⟨-, -, f0, f1⟩ := (hgb.below p2).two
            clear hps hr7 p2 hgb hgr
            try simp only [Act.put, List.getElem_toArray, List.getElem_cons_zero, List.getElem_cons_succ, List.setIfInBounds_toArray, List.set_cons_zero, List.set_cons_succ]
            refine till_last (by kernel_rfl) rfl (by kernel_rfl) (fun K' hK => ?_)
            go_simp
            refine hK _ _ ?_
            clear hK K' c0 c1 f0 f1
            try simp only [Act.put, List.getElem_toArray, List.getElem_cons_zero, List.getElem_cons_succ, List.setIfInBounds_toArray, List.set_cons_zero, List.set_cons_succ]
            refine wpAny_done (by kernel_rfl) ?_ _
            go_wp2_with fail
            go_roundw
            case rel => exact ⟨j + 1, _, by go_num, by have := HJT.out; omega, HPS3.out, HZN.out⟩
            case measure => simp [intOf]; have := HJT.out; omega
          · rw [decide_eq_false hcc] at hc
            go_upto_region 8 with (fail)
            go_quiet (fail)
            have bq : Below wi.heap.size wi (wi.drewN nq) := below_dN (Below.refl wi.heap.size wi) nq
            have HPQ := Lib.hid (HPS.out.below bq)
            clear bq e1 u1 HPS
            generalize wi.drewN nq = wq at *
            have HZN : Hid (z = coinA (l.take (j + 1)) x.coin.data.toList ∧ Bd z (j + 1)) := by
              have h := HST.out
              rw [if_neg hcc, ← HZE.out, Int.add_zero] at h
              exact ⟨h.symm, HZB.out.up (by omega)⟩
            clear HST HZE HZB hcc
            go_wp2_with fail
            go_roundw
            case rel => exact ⟨j + 1, _, by go_num, by have := HJT.out; omega, HPQ.out, HZN.out⟩
            case measure => simp [intOf]; have := HJT.out; omega
        · have hjt' : ¬ (j : Int) < (len : Int) := by omega
          have HZE : Hid (z = coinA l x.coin.data.toList) := by
            have h := HPZ.out.2.1
            rw [List.take_of_length_le (by rw [HL.out]; omega)] at h
            exact h
          have HPS := Lib.hid HPZ.out.1
          clear HPZ hjt
          obtain ⟨gb, ga, gl, gc, hgb, hgr⟩ := HPS.out.big
          obtain ⟨c0, c1, -, -⟩ := hgb.two
          have hgz := bigr_len hgr
          clear hgb hgr
          by_cases hz : z = 0
          · have hgl : gl = 0 := hgz.2 hz
            subst hgl
            have HTN : Hid ((∀ (j : Nat) a, j < k + 1 → l[j]? = some a → coinA l a.coin.data.toList = 0) ∧ Below w.heap.size w wi) := by
              refine ⟨fun i a hi ha => ?_, HPS.out.bel⟩
              by_cases h : i < k
              · exact HTT.out i a h ha
              · obtain rfl : i = k := by omega
                rw [HX.out] at ha; rw [← Option.some.inj ha, ← HZE.out, hz]
            clear hz hgz HTT HPS
            go_wp2_with fail
            go_roundw
            case rel => exact ⟨k + 1, by go_num, by have := HKT.out; omega, HTN.out⟩
            case measure => simp [intOf]; have := HKT.out; omega
          · have hgl : (0 : Int) < (gl : Int) := by
              have : gl ≠ 0 := fun e => hz (hgz.1 e)
              omega
            have HF : Hid (R = false) := by
              show _ = _
              rw [HR.out]
              exact evenA_no HX.out (by rw [← HZE.out]; exact hz)
            clear hz hgz HR
            go_wp2_with fail
            go_ret
            exact ⟨by rw [HF.out]; rfl, HPS.out.bel⟩
    · have hkt' : ¬ (k : Int) < (len : Int) := by omega
      have HF : Hid (R = rightA l) := by
        show _ = _
        rw [HR.out]
        exact evenA_yes (fun j a ha => HT.out.1 j a (by have := (List.getElem?_eq_some_iff.1 ha).1; rw [HL.out] at this; omega) ha)
      have HB := Lib.hid HT.out.2
      have HRT := Lib.hid (rright_any l a len cap wr (HS.out.kept (Kept.of_below HT.out.2 [])) (by have := HN.out; omega))
      rw [← HF.out] at HRT
      clear HT HR hkt
      go_wp2_with fail
      go_at_call 17
      (with_reducible refine HRT.out.mono ?_)
      rintro y w2 ⟨rfl, b2⟩
      have HB2 := Lib.hid (HB.out.trans (b2.mono HB.out.size))
      clear b2
      go_wp2_with fail
      go_ret
      exact ⟨rfl, HB2.out⟩
end Go.Proofs.Ytgbiimoednmlgaa

/- slices.MaxFunc, MinFunc over accounts, by their amounts. -/
namespace Go.Proofs.Ytgbiimoednmlgaa
set_option linter.unusedVariables false
set_option linter.unusedSimpArgs false
open Go.RowKit
def icmp (a b : Int) : Int := if a < b then -1 else if b < a then 1 else 0
theorem isNaNi_any (n : Int) (w : World) : Calls Try.prog 82 #[.int .i64 n] w fun e w' => e = .returned (.bool false) ∧ w = w' := by
  have h : (n != n) = false := by simp
  go_enter Try.func82, Try.ntmps82
  go_wp2_with fail
  go_ret
  exact ⟨rfl, rfl⟩
theorem cmpi_any (a b : Int) (w : World) : Calls Try.prog 53 #[.int .i64 a, .int .i64 b] w fun e w' => e = .returned (.int .i64 (icmp a b)) ∧ w = w' := by
  have HR := Lib.hid (show icmp a b = if a < b then -1 else if b < a then 1 else 0 from rfl)
  obtain ⟨R, hR⟩ : ∃ R, R = icmp a b := ⟨_, rfl⟩
  rw [← hR] at HR ⊢
  clear hR
  by_cases hl : a < b
  · obtain rfl : R = -1 := by rw [HR.out, if_pos hl]
    clear HR
    go_enter Try.func53, Try.ntmps53
    go_wp2_with fail
    go_at_call 82
    (with_reducible refine (isNaNi_any _ _).mono ?_)
    rintro x w1 ⟨rfl, rfl⟩
    go_wp2_with fail
    go_at_call 82
    (with_reducible refine (isNaNi_any _ _).mono ?_)
    rintro x w1 ⟨rfl, rfl⟩
    go_wp2_with fail
    go_ret
    exact ⟨rfl, rfl⟩
  · by_cases hg : b < a
    · obtain rfl : R = 1 := by rw [HR.out, if_neg hl, if_pos hg]
      clear HR
      go_enter Try.func53, Try.ntmps53
      go_wp2_with fail
      go_at_call 82
      (with_reducible refine (isNaNi_any _ _).mono ?_)
      rintro x w1 ⟨rfl, rfl⟩
      go_wp2_with fail
      go_at_call 82
      (with_reducible refine (isNaNi_any _ _).mono ?_)
      rintro x w1 ⟨rfl, rfl⟩
      go_wp2_with fail
      go_ret
      exact ⟨rfl, rfl⟩
    · obtain rfl : R = 0 := by rw [HR.out, if_neg hl, if_neg hg]
      clear HR
      go_enter Try.func53, Try.ntmps53
      go_wp2_with fail
      go_at_call 82
      (with_reducible refine (isNaNi_any _ _).mono ?_)
      rintro x w1 ⟨rfl, rfl⟩
      go_wp2_with fail
      go_at_call 82
      (with_reducible refine (isNaNi_any _ _).mono ?_)
      rintro x w1 ⟨rfl, rfl⟩
      go_wp2_with fail
      go_ret
      exact ⟨rfl, rfl⟩
set_option maxRecDepth 100000 in
set_option maxHeartbeats 4000000 in
theorem by_any (x y : Acct) (w : World) : Calls Try.prog 52 #[.agg #[.string x.party, .string x.coin, .int .i64 x.amt], .agg #[.string y.party, .string y.coin, .int .i64 y.amt]] w fun e w' => e = .returned (.int .i64 (icmp x.amt y.amt)) ∧ Below w.heap.size w w' := by
  obtain ⟨R, hR⟩ : ∃ R, R = icmp x.amt y.amt := ⟨_, rfl⟩
  have HC := Lib.hid (fun W => cmpi_any x.amt y.amt W)
  rw [← hR] at HC ⊢
  clear hR
  go_enter Try.func52, Try.ntmps52
  go_upto_region 1 with (fail)
  have hb1 := below_newL w (.cells #[.string x.party, .string x.coin, .int .i64 x.amt] 51)
  have hb2 := below_newL (w.alloc (.cells #[.string x.party, .string x.coin, .int .i64 x.amt] 51)) (.cells #[.string y.party, .string y.coin, .int .i64 y.amt] 51)
  have BX := Lib.hid ((Mem.Blk.new w 51 #[.string x.party, .string x.coin, .int .i64 x.amt]).below hb2)
  have BY := Lib.hid (Mem.Blk.new (w.alloc (.cells #[.string x.party, .string x.coin, .int .i64 x.amt] 51)) 51 #[.string y.party, .string y.coin, .int .i64 y.amt])
  have HB := Lib.hid (hb1.trans (hb2.mono hb1.size))
  have ez : (w.alloc (.cells #[.string x.party, .string x.coin, .int .i64 x.amt] 51)).heap.size = w.heap.size + 1 := by simp
  rw [ez] at BY
  clear ez hb1 hb2
  generalize (w.alloc (.cells #[.string x.party, .string x.coin, .int .i64 x.amt] 51)).alloc (.cells #[.string y.party, .string y.coin, .int .i64 y.amt] 51) = w2 at *
  have c2 : w2.cell? ⟨w.heap.size, 2, none⟩ = some (.int .i64 x.amt) := BX.out.cell 2
  have d2 : w2.cell? ⟨w.heap.size + 1, 2, none⟩ = some (.int .i64 y.amt) := BY.out.cell 2
  go_wp2_with fail
  go_at_call 53
  (with_reducible refine (HC.out _).mono ?_)
  rintro e w3 ⟨rfl, rfl⟩
  go_wp2_with fail
  go_ret
  exact ⟨rfl, HB.out⟩
/-- The first of the greatest amount (s = 1), of the least (s = -1), of the first k. -/
def ExSt (s : Int) (l : List Acct) (k : Nat) (x : Acct) : Prop := ∃ i, i < k ∧ l[i]? = some x ∧ ∀ (j : Nat) y, j < k → l[j]? = some y → s * y.amt ≤ s * x.amt ∧ (j < i → s * y.amt < s * x.amt)
theorem ExSt.one (s : Int) {l : List Acct} {x : Acct} (h : l[0]? = some x) : ExSt s l 1 x := ⟨0, by omega, h, fun j y hj hy => by
  obtain rfl : j = 0 := by omega
  rw [h] at hy; rw [← Option.some.inj hy]
  exact ⟨Int.le_refl _, fun h => absurd h (by omega)⟩⟩
theorem ExSt.keep {s : Int} {l : List Acct} {k : Nat} {x y : Acct} (h : ExSt s l k x) (hy : l[k]? = some y) (hn : ¬ s * x.amt < s * y.amt) : ExSt s l (k + 1) x := by
  obtain ⟨i, hi, hx, h⟩ := h
  refine ⟨i, by omega, hx, fun j z hj hz => ?_⟩
  by_cases e : j < k
  · exact h j z e hz
  · obtain rfl : j = k := by omega
    rw [hy] at hz; rw [← Option.some.inj hz]
    exact ⟨by omega, fun h => absurd h (by omega)⟩
theorem ExSt.turn {s : Int} {l : List Acct} {k : Nat} {x y : Acct} (h : ExSt s l k x) (hy : l[k]? = some y) (hn : s * x.amt < s * y.amt) : ExSt s l (k + 1) y := by
  obtain ⟨i, hi, hx, h⟩ := h
  refine ⟨k, by omega, hy, fun j z hj hz => ?_⟩
  by_cases e : j < k
  · have := (h j z e hz).1
    exact ⟨by omega, fun _ => by omega⟩
  · obtain rfl : j = k := by omega
    rw [hy] at hz; rw [← Option.some.inj hz]
    exact ⟨by omega, fun h => absurd h (by omega)⟩
theorem blk3 {w : World} {g : Nat} {t : TypeId} {a b c : Value} (h : Mem.Blk w g t #[a, b, c]) : w.cell? ⟨g, 0, none⟩ = some a ∧ w.cell? ⟨g, 1, none⟩ = some b ∧ w.cell? ⟨g, 2, none⟩ = some c ∧ w.frozen? ⟨g, 0, none⟩ = false ∧ w.frozen? ⟨g, 1, none⟩ = false ∧ w.frozen? ⟨g, 2, none⟩ = false :=
  ⟨h.cell 0, h.cell 1, h.cell 2, h.frozen 0, h.frozen 1, h.frozen 2⟩
set_option maxRecDepth 100000 in
set_option maxHeartbeats 4000000 in
theorem maxA_any (l : List Acct) (a : Option Addr) (len cap : Nat) (w : World) (h : SlR acctK w [] l a len cap) (hlen : len ≤ 1000000) (h0 : 0 < len) :
    Calls Try.prog 54 #[.slice a len cap, .func (.func 52) #[] #[]] w fun e w' => (∃ x, e = .returned (.agg #[.string x.party, .string x.coin, .int .i64 x.amt]) ∧ ExSt 1 l len x) ∧ Below w.heap.size w w' := by
  have HS := Lib.hid h
  have HN := Lib.hid hlen
  have eg := entersL (P := Try.prog) Try.func52 (by kernel_rfl) rfl
  obtain ⟨b, o, x0, hao, hx0, -, y0, y1, y2⟩ := acct_at h 0 h0
  have HX0 := Lib.hid hx0
  subst hao
  have hl1 : ¬ (len : Int) < 1 := by omega
  have hl2 : (0 : Int) < (len : Int) := by omega
  clear h hlen hx0
  go_enter Try.func54, Try.ntmps54
  go_upto_region 3 with (fail)
  have hb1 := below_newL w (.cells #[.string ⟨#[]⟩, .string ⟨#[]⟩, .int .i64 0] 51)
  have hb2 := below_newL (w.alloc (.cells #[.string ⟨#[]⟩, .string ⟨#[]⟩, .int .i64 0] 51)) (.cells #[.string x0.party, .string x0.coin, .int .i64 x0.amt] 51)
  have BX := Lib.hid ((Mem.Blk.new w 51 #[.string ⟨#[]⟩, .string ⟨#[]⟩, .int .i64 0]).below hb2)
  have BY := Lib.hid (Mem.Blk.new (w.alloc (.cells #[.string ⟨#[]⟩, .string ⟨#[]⟩, .int .i64 0] 51)) 51 #[.string x0.party, .string x0.coin, .int .i64 x0.amt])
  have HB := Lib.hid (hb1.trans (hb2.mono hb1.size))
  have ez : (w.alloc (.cells #[.string ⟨#[]⟩, .string ⟨#[]⟩, .int .i64 0] 51)).heap.size = w.heap.size + 1 := by simp
  rw [ez] at BY
  have z0 := cellUp y0 hb1
  have z1 := cellUp y1 hb1
  have z2 := cellUp y2 hb1
  rw [Nat.zero_mul, Nat.add_zero] at y0 y1 y2 z0 z1 z2
  clear ez hb1 hb2
  go_upto_region 4 with (fail)
  generalize (w.alloc (.cells #[.string ⟨#[]⟩, .string ⟨#[]⟩, .int .i64 0] 51)).alloc (.cells #[.string x0.party, .string x0.coin, .int .i64 x0.amt] 51) = w2 at *
  clear y0 y1 y2 z0 z1 z2 hl1
  go_wp2_with fail
  go_loopw [6] (fun i wr => ∃ (k : Nat) (x : Acct), i = .int .i64 (k : Nat) ∧ 1 ≤ k ∧ k ≤ len ∧ Hid (ExSt 1 l k x ∧ Below w.heap.size w wr ∧ Mem.Blk wr w.heap.size 51 #[.string ⟨#[]⟩, .string ⟨#[]⟩, .int .i64 0] ∧ Mem.Blk wr (w.heap.size + 1) 51 #[.string x.party, .string x.coin, .int .i64 x.amt])) (fun i _ => len - (intOf i).toNat)
  case atStart => exact ⟨1, x0, rfl, Nat.le_refl _, h0, ExSt.one _ HX0.out, HB.out, BX.out, BY.out⟩
  case round =>
    clear BX BY HB
    obtain ⟨k, x, rfl, hk1, hk, HT⟩ := hrel
    have HE := Lib.hid HT.out.1
    have HB := Lib.hid HT.out.2.1
    have BX := Lib.hid HT.out.2.2.1
    have BY := Lib.hid HT.out.2.2.2
    clear HT
    by_cases hlt : k < len
    · have hlt' : (k : Int) < (len : Int) := by omega
      have i0 : (0 : Int) ≤ (k : Int) := by omega
      have i1 : (k : Int) ≤ 1000000 := by have := HN.out; omega
      obtain ⟨b', o', y, hao, hy, -, u0, u1, u2⟩ := acct_at (HS.out.kept (Kept.of_below HB.out [])) k hlt
      injection hao with hao
      injection hao with e1 e2
      subst e1; subst e2
      have HY := Lib.hid hy
      have HP : Hid (∀ W, Calls Try.prog 52 #[.agg #[.string y.party, .string y.coin, .int .i64 y.amt], .agg #[.string x.party, .string x.coin, .int .i64 x.amt]] W _) := fun W => by_any y x W
      obtain ⟨R, hR⟩ : ∃ R, R = icmp y.amt x.amt := ⟨_, rfl⟩
      have HR : Hid ((0 < R) ↔ 1 * x.amt < 1 * y.amt) := by
        rw [hR]
        show _ ↔ _
        unfold icmp
        split
        · constructor <;> intro <;> omega
        · split <;> (constructor <;> intro <;> omega)
      rw [← hR] at HP
      obtain ⟨v0, v1, v2, -, -, -⟩ := blk3 BY.out
      have HLT := Lib.hid hlt
      clear hy hR hlt
      go_upto_region 7 with (fail)
      go_still_tail 6, (by kernel_rfl)
      change wpList _ _ _ _ _ wr.drew
      go_wp2_with fail
      go_at_call 52
      (with_reducible refine (HP.out _).mono ?_)
      rintro e w5 ⟨rfl, b5⟩
      have hq := (Below.refl wr.heap.size wr).drew.trans (b5.mono (Below.refl wr.heap.size wr).drew.size)
      replace HB := Lib.hid (HB.out.trans (hq.mono HB.out.size))
      replace BX := Lib.hid (BX.out.below hq)
      replace BY := Lib.hid (BY.out.below hq)
      replace u0 := cellUp u0 hq
      replace u1 := cellUp u1 hq
      replace u2 := cellUp u2 hq
      clear b5 v0 v1 v2 HP hq
      by_cases hq : 0 < R
      · have HE2 := Lib.hid (HE.out.turn HY.out (HR.out.1 hq))
        have hd : decide (0 < R) = true := decide_eq_true hq
        have BZ : Hid (Mem.Blk (((w5.setCell ⟨w.heap.size + 1, 0, none⟩ (.string y.party)).setCell ⟨w.heap.size + 1, 1, none⟩ (.string y.coin)).setCell ⟨w.heap.size + 1, 2, none⟩ (.int .i64 y.amt)) (w.heap.size + 1) 51 #[.string y.party, .string y.coin, .int .i64 y.amt]) := ((BY.out.set_ 0 _).set_ 1 _).set_ 2 _
        have BW : Hid (Mem.Blk (((w5.setCell ⟨w.heap.size + 1, 0, none⟩ (.string y.party)).setCell ⟨w.heap.size + 1, 1, none⟩ (.string y.coin)).setCell ⟨w.heap.size + 1, 2, none⟩ (.int .i64 y.amt)) w.heap.size 51 #[.string ⟨#[]⟩, .string ⟨#[]⟩, .int .i64 0]) := ((BX.out.far (by show _ ≠ w.heap.size + 1; omega) _).far (by show _ ≠ w.heap.size + 1; omega) _).far (by show _ ≠ w.heap.size + 1; omega) _
        have HBZ : Hid (Below w.heap.size w (((w5.setCell ⟨w.heap.size + 1, 0, none⟩ (.string y.party)).setCell ⟨w.heap.size + 1, 1, none⟩ (.string y.coin)).setCell ⟨w.heap.size + 1, 2, none⟩ (.int .i64 y.amt))) := ((HB.out.setCell (by show _ ≤ w.heap.size + 1; omega) _).setCell (by show _ ≤ w.heap.size + 1; omega) _).setCell (by show _ ≤ w.heap.size + 1; omega) _
        obtain ⟨v0, v1, v2, f0, f1, f2⟩ := blk3 BY.out
        clear HR HE BX BY HB HX0 hq
        go_wp2_with fail
        go_roundw
        case rel => exact ⟨k + 1, y, by go_num, by omega, by have := HLT.out; omega, HE2.out, HBZ.out, BW.out, BZ.out⟩
        case measure => simp [intOf]; have := HLT.out; omega
      · have HE2 := Lib.hid (HE.out.keep HY.out (fun h => hq (HR.out.2 h)))
        have hd : decide (0 < R) = false := decide_eq_false hq
        clear HR HE hq u0 u1 u2
        go_wp2_with fail
        go_roundw
        case rel => exact ⟨k + 1, x, by go_num, by omega, by have := HLT.out; omega, HE2.out, HB.out, BX.out, BY.out⟩
        case measure => simp [intOf]; have := HLT.out; omega
    · have hlt' : ¬ (k : Int) < (len : Int) := by omega
      obtain rfl : k = len := by omega
      obtain ⟨v0, v1, v2, -, -, -⟩ := blk3 BY.out
      obtain ⟨t0, t1, t2, f0, f1, f2⟩ := blk3 BX.out
      have BZ : Hid (Mem.Blk (((wr.setCell ⟨w.heap.size, 0, none⟩ (.string x.party)).setCell ⟨w.heap.size, 1, none⟩ (.string x.coin)).setCell ⟨w.heap.size, 2, none⟩ (.int .i64 x.amt)) w.heap.size 51 #[.string x.party, .string x.coin, .int .i64 x.amt]) := ((BX.out.set_ 0 _).set_ 1 _).set_ 2 _
      have HBZ : Hid (Below w.heap.size w (((wr.setCell ⟨w.heap.size, 0, none⟩ (.string x.party)).setCell ⟨w.heap.size, 1, none⟩ (.string x.coin)).setCell ⟨w.heap.size, 2, none⟩ (.int .i64 x.amt))) := ((HB.out.setCell (by show _ ≤ w.heap.size; omega) _).setCell (by show _ ≤ w.heap.size; omega) _).setCell (by show _ ≤ w.heap.size; omega) _
      clear HB BX BY hlt
      go_wp2_with fail
      generalize ((wr.setCell ⟨w.heap.size, 0, none⟩ (.string x.party)).setCell ⟨w.heap.size, 1, none⟩ (.string x.coin)).setCell ⟨w.heap.size, 2, none⟩ (.int .i64 x.amt) = w9 at *
      clear v0 v1 v2 t0 t1 t2 f0 f1 f2
      obtain ⟨r0, r1, r2, -, -, -⟩ := blk3 BZ.out
      refine bodyPost_ret (v := .agg #[.string x.party, .string x.coin, .int .i64 x.amt]) (by simp [results, Try.results54, go_sem, r0, r1, r2]) rfl ⟨⟨x, rfl, HE.out⟩, HBZ.out⟩
set_option maxRecDepth 100000 in
set_option maxHeartbeats 4000000 in
theorem minA_any (l : List Acct) (a : Option Addr) (len cap : Nat) (w : World) (h : SlR acctK w [] l a len cap) (hlen : len ≤ 1000000) (h0 : 0 < len) :
    Calls Try.prog 55 #[.slice a len cap, .func (.func 52) #[] #[]] w fun e w' => (∃ x, e = .returned (.agg #[.string x.party, .string x.coin, .int .i64 x.amt]) ∧ ExSt (-1) l len x) ∧ Below w.heap.size w w' := by
  have HS := Lib.hid h
  have HN := Lib.hid hlen
  have eg := entersL (P := Try.prog) Try.func52 (by kernel_rfl) rfl
  obtain ⟨b, o, x0, hao, hx0, -, y0, y1, y2⟩ := acct_at h 0 h0
  have HX0 := Lib.hid hx0
  subst hao
  have hl1 : ¬ (len : Int) < 1 := by omega
  have hl2 : (0 : Int) < (len : Int) := by omega
  clear h hlen hx0
  go_enter Try.func55, Try.ntmps55
  go_upto_region 3 with (fail)
  have hb1 := below_newL w (.cells #[.string ⟨#[]⟩, .string ⟨#[]⟩, .int .i64 0] 51)
  have hb2 := below_newL (w.alloc (.cells #[.string ⟨#[]⟩, .string ⟨#[]⟩, .int .i64 0] 51)) (.cells #[.string x0.party, .string x0.coin, .int .i64 x0.amt] 51)
  have BX := Lib.hid ((Mem.Blk.new w 51 #[.string ⟨#[]⟩, .string ⟨#[]⟩, .int .i64 0]).below hb2)
  have BY := Lib.hid (Mem.Blk.new (w.alloc (.cells #[.string ⟨#[]⟩, .string ⟨#[]⟩, .int .i64 0] 51)) 51 #[.string x0.party, .string x0.coin, .int .i64 x0.amt])
  have HB := Lib.hid (hb1.trans (hb2.mono hb1.size))
  have ez : (w.alloc (.cells #[.string ⟨#[]⟩, .string ⟨#[]⟩, .int .i64 0] 51)).heap.size = w.heap.size + 1 := by simp
  rw [ez] at BY
  have z0 := cellUp y0 hb1
  have z1 := cellUp y1 hb1
  have z2 := cellUp y2 hb1
  rw [Nat.zero_mul, Nat.add_zero] at y0 y1 y2 z0 z1 z2
  clear ez hb1 hb2
  go_upto_region 4 with (fail)
  generalize (w.alloc (.cells #[.string ⟨#[]⟩, .string ⟨#[]⟩, .int .i64 0] 51)).alloc (.cells #[.string x0.party, .string x0.coin, .int .i64 x0.amt] 51) = w2 at *
  clear y0 y1 y2 z0 z1 z2 hl1
  go_wp2_with fail
  go_loopw [6] (fun i wr => ∃ (k : Nat) (x : Acct), i = .int .i64 (k : Nat) ∧ 1 ≤ k ∧ k ≤ len ∧ Hid (ExSt (-1) l k x ∧ Below w.heap.size w wr ∧ Mem.Blk wr w.heap.size 51 #[.string ⟨#[]⟩, .string ⟨#[]⟩, .int .i64 0] ∧ Mem.Blk wr (w.heap.size + 1) 51 #[.string x.party, .string x.coin, .int .i64 x.amt])) (fun i _ => len - (intOf i).toNat)
  case atStart => exact ⟨1, x0, rfl, Nat.le_refl _, h0, ExSt.one _ HX0.out, HB.out, BX.out, BY.out⟩
  case round =>
    clear BX BY HB
    obtain ⟨k, x, rfl, hk1, hk, HT⟩ := hrel
    have HE := Lib.hid HT.out.1
    have HB := Lib.hid HT.out.2.1
    have BX := Lib.hid HT.out.2.2.1
    have BY := Lib.hid HT.out.2.2.2
    clear HT
    by_cases hlt : k < len
    · have hlt' : (k : Int) < (len : Int) := by omega
      have i0 : (0 : Int) ≤ (k : Int) := by omega
      have i1 : (k : Int) ≤ 1000000 := by have := HN.out; omega
      obtain ⟨b', o', y, hao, hy, -, u0, u1, u2⟩ := acct_at (HS.out.kept (Kept.of_below HB.out [])) k hlt
      injection hao with hao
      injection hao with e1 e2
      subst e1; subst e2
      have HY := Lib.hid hy
      have HP : Hid (∀ W, Calls Try.prog 52 #[.agg #[.string y.party, .string y.coin, .int .i64 y.amt], .agg #[.string x.party, .string x.coin, .int .i64 x.amt]] W _) := fun W => by_any y x W
      obtain ⟨R, hR⟩ : ∃ R, R = icmp y.amt x.amt := ⟨_, rfl⟩
      have HR : Hid ((R < 0) ↔ (-1) * x.amt < (-1) * y.amt) := by
        rw [hR]
        show _ ↔ _
        unfold icmp
        split
        · constructor <;> intro <;> omega
        · split <;> (constructor <;> intro <;> omega)
      rw [← hR] at HP
      obtain ⟨v0, v1, v2, -, -, -⟩ := blk3 BY.out
      have HLT := Lib.hid hlt
      clear hy hR hlt
      go_upto_region 7 with (fail)
      go_still_tail 6, (by kernel_rfl)
      change wpList _ _ _ _ _ wr.drew
      go_wp2_with fail
      go_at_call 52
      (with_reducible refine (HP.out _).mono ?_)
      rintro e w5 ⟨rfl, b5⟩
      have hq := (Below.refl wr.heap.size wr).drew.trans (b5.mono (Below.refl wr.heap.size wr).drew.size)
      replace HB := Lib.hid (HB.out.trans (hq.mono HB.out.size))
      replace BX := Lib.hid (BX.out.below hq)
      replace BY := Lib.hid (BY.out.below hq)
      replace u0 := cellUp u0 hq
      replace u1 := cellUp u1 hq
      replace u2 := cellUp u2 hq
      clear b5 v0 v1 v2 HP hq
      by_cases hq : R < 0
      · have HE2 := Lib.hid (HE.out.turn HY.out (HR.out.1 hq))
        have hd : decide (R < 0) = true := decide_eq_true hq
        have BZ : Hid (Mem.Blk (((w5.setCell ⟨w.heap.size + 1, 0, none⟩ (.string y.party)).setCell ⟨w.heap.size + 1, 1, none⟩ (.string y.coin)).setCell ⟨w.heap.size + 1, 2, none⟩ (.int .i64 y.amt)) (w.heap.size + 1) 51 #[.string y.party, .string y.coin, .int .i64 y.amt]) := ((BY.out.set_ 0 _).set_ 1 _).set_ 2 _
        have BW : Hid (Mem.Blk (((w5.setCell ⟨w.heap.size + 1, 0, none⟩ (.string y.party)).setCell ⟨w.heap.size + 1, 1, none⟩ (.string y.coin)).setCell ⟨w.heap.size + 1, 2, none⟩ (.int .i64 y.amt)) w.heap.size 51 #[.string ⟨#[]⟩, .string ⟨#[]⟩, .int .i64 0]) := ((BX.out.far (by show _ ≠ w.heap.size + 1; omega) _).far (by show _ ≠ w.heap.size + 1; omega) _).far (by show _ ≠ w.heap.size + 1; omega) _
        have HBZ : Hid (Below w.heap.size w (((w5.setCell ⟨w.heap.size + 1, 0, none⟩ (.string y.party)).setCell ⟨w.heap.size + 1, 1, none⟩ (.string y.coin)).setCell ⟨w.heap.size + 1, 2, none⟩ (.int .i64 y.amt))) := ((HB.out.setCell (by show _ ≤ w.heap.size + 1; omega) _).setCell (by show _ ≤ w.heap.size + 1; omega) _).setCell (by show _ ≤ w.heap.size + 1; omega) _
        obtain ⟨v0, v1, v2, f0, f1, f2⟩ := blk3 BY.out
        clear HR HE BX BY HB HX0 hq
        go_wp2_with fail
        go_roundw
        case rel => exact ⟨k + 1, y, by go_num, by omega, by have := HLT.out; omega, HE2.out, HBZ.out, BW.out, BZ.out⟩
        case measure => simp [intOf]; have := HLT.out; omega
      · have HE2 := Lib.hid (HE.out.keep HY.out (fun h => hq (HR.out.2 h)))
        have hd : decide (R < 0) = false := decide_eq_false hq
        clear HR HE hq u0 u1 u2
        go_wp2_with fail
        go_roundw
        case rel => exact ⟨k + 1, x, by go_num, by omega, by have := HLT.out; omega, HE2.out, HB.out, BX.out, BY.out⟩
        case measure => simp [intOf]; have := HLT.out; omega
    · have hlt' : ¬ (k : Int) < (len : Int) := by omega
      obtain rfl : k = len := by omega
      obtain ⟨v0, v1, v2, -, -, -⟩ := blk3 BY.out
      obtain ⟨t0, t1, t2, f0, f1, f2⟩ := blk3 BX.out
      have BZ : Hid (Mem.Blk (((wr.setCell ⟨w.heap.size, 0, none⟩ (.string x.party)).setCell ⟨w.heap.size, 1, none⟩ (.string x.coin)).setCell ⟨w.heap.size, 2, none⟩ (.int .i64 x.amt)) w.heap.size 51 #[.string x.party, .string x.coin, .int .i64 x.amt]) := ((BX.out.set_ 0 _).set_ 1 _).set_ 2 _
      have HBZ : Hid (Below w.heap.size w (((wr.setCell ⟨w.heap.size, 0, none⟩ (.string x.party)).setCell ⟨w.heap.size, 1, none⟩ (.string x.coin)).setCell ⟨w.heap.size, 2, none⟩ (.int .i64 x.amt))) := ((HB.out.setCell (by show _ ≤ w.heap.size; omega) _).setCell (by show _ ≤ w.heap.size; omega) _).setCell (by show _ ≤ w.heap.size; omega) _
      clear HB BX BY hlt
      go_wp2_with fail
      generalize ((wr.setCell ⟨w.heap.size, 0, none⟩ (.string x.party)).setCell ⟨w.heap.size, 1, none⟩ (.string x.coin)).setCell ⟨w.heap.size, 2, none⟩ (.int .i64 x.amt) = w9 at *
      clear v0 v1 v2 t0 t1 t2 f0 f1 f2
      obtain ⟨r0, r1, r2, -, -, -⟩ := blk3 BZ.out
      refine bodyPost_ret (v := .agg #[.string x.party, .string x.coin, .int .i64 x.amt]) (by simp [results, Try.results55, go_sem, r0, r1, r2]) rfl ⟨⟨x, rfl, HE.out⟩, HBZ.out⟩
end Go.Proofs.Ytgbiimoednmlgaa
