/- A part of the proof: BgG, BgM, BgS, LdPp, one behind another. -/
import Derived.Test.YtgbiimoednmlgaaMPA
import Derived.Test.YtgbiimoednmlgaaMPB
import Derived.Test.YtgbiimoednmlgaaMPC
import Derived.Test.YtgbiimoednmlgaaMPD
import Derived.Test.YtgbiimoednmlgaaMPE
import Derived.Test.YtgbiimoednmlgaaMPF
import Derived.Test.YtgbiimoednmlgaaMPG
import Derived.Test.YtgbiimoednmlgaaMPH
import Derived.Test.YtgbiimoednmlgaaMPI
import Derived.OpenShut
namespace Go.Proofs.Ytgbiimoednmlgaa
set_option linter.unusedVariables false
set_option linter.unusedSimpArgs false
open Go.RowKit
theorem lit4 (w : World) (g : Nat) (z1 z2 z3 z4 : Int) (n1 n2 n3 n4 : Nat) (hg : g = w.heap.size) (h1 : z1 = n1) (h2 : z2 = n2) (h3 : z3 = n3) (h4 : z4 = n4) :
    Nums (w.alloc (.cells #[.int .u64 z1, .int .u64 z2, .int .u64 z3, .int .u64 z4] 113)) (some ⟨g, 0, none⟩) 4 4 [n1, n2, n3, n4] := by
  subst hg h1 h2 h3 h4
  refine ⟨rfl, Nat.le_refl _, by decide, fun _ => ⟨w.heap.size, 0, rfl, by simp, fun i x hx => ?_⟩⟩
  have := (Mem.Blk.new w 113 #[.int .u64 (n1 : Int), .int .u64 (n2 : Int), .int .u64 (n3 : Int), .int .u64 (n4 : Int)]).cell (0 + i)
  rw [this, Nat.zero_add]
  match i, hx with
  | 0, hx => simp at hx; subst hx; rfl
  | 1, hx => simp at hx; subst hx; rfl
  | 2, hx => simp at hx; subst hx; rfl
  | 3, hx => simp at hx; subst hx; rfl
  | k + 4, hx => simp at hx
def ofD (n : Nat) : List Nat := [n % 65536, n / 65536 % 65536, n / 4294967296 % 65536, n / 281474976710656]
theorem ofD_dig (n : Nat) (h : n ≤ 9223372036854775808) : Big.Dig (ofD n) := by
  intro d hd; unfold ofD at hd; simp at hd
  rcases hd with rfl | rfl | rfl | rfl <;> omega
theorem ofD_val (n : Nat) : Big.val (ofD n) = n := by
  unfold ofD; simp [Big.val]; omega
theorem wrap_neg2 (n : Nat) (h : n ≤ 9223372036854775808) : IntKind.u64.wrap (-IntKind.u64.wrap (-(n : Int))) = n := by
  simp only [IntKind.wrap_u64]; omega
set_option maxRecDepth 100000 in
set_option maxHeartbeats 1000000 in
theorem bigof_any (a : Int) (w : World) (h0 : -9223372036854775808 ≤ a) (h1 : a ≤ 9223372036854775807) :
    Calls Try.prog 40 #[.int .i64 a] w fun e w' => (∃ r, e = .returned r ∧ BigR w' r a) ∧ Below w.heap.size w w' := by
  have HD := Lib.hid (ofD_dig a.natAbs (by omega))
  have HV := Lib.hid (ofD_val a.natAbs)
  have BW := Lib.hid (fun o o2 : Obj => (((Below.refl _ w).alloc (Nat.le_refl _) o).alloc (by simp) o2 : Below w.heap.size w _))
  by_cases hz : a < 0
  · obtain ⟨n, hn, rfl⟩ : ∃ n : Nat, 1 ≤ n ∧ a = -(n : Int) := ⟨a.natAbs, by omega, by omega⟩
    have e : Hid ((-(n : Int)).natAbs = n) := by show _ = _; omega
    have hwr := wrap_neg2 n (by omega)
    rw [e.out] at HD HV
    go_enter Try.func40, Try.ntmps40
    go_wp2_with fail
    refine (trim_any _ _ _ (ofD n) _ (lit4 _ _ _ _ _ _ _ _ _ _ (by simp) (by omega) (by omega) (by omega) (by omega))).mono ?_
    rintro e' w' ⟨rfl, rfl⟩
    have N1 := fun o : Obj => lit4 (w.alloc o) (w.heap.size + 1) ((n : Int) % 65536) ((n : Int) / 65536 % 65536) ((n : Int) / 4294967296 % 65536) ((n : Int) / 281474976710656) (n % 65536) (n / 65536 % 65536) (n / 4294967296 % 65536) (n / 281474976710656) (by simp) (by omega) (by omega) (by omega) (by omega)
    have hb : ∀ o : Obj, BigR ((w.alloc o).alloc (.cells #[.int .u64 ((n : Int) % 65536), .int .u64 ((n : Int) / 65536 % 65536), .int .u64 ((n : Int) / 4294967296 % 65536), .int .u64 ((n : Int) / 281474976710656)] 113)) (.agg #[.bool true, .slice (some ⟨w.heap.size + 1, 0, none⟩) (Big.trim (ofD n)).length 4]) (-(n : Int)) := by
      intro o
      refine ⟨.slice (some ⟨w.heap.size + 1, 0, none⟩) (Big.trim (ofD n)).length 4, by first | (simp; omega) | simp, ?_⟩
      rw [e.out]
      have := (N1 o).take (Big.trim (ofD n)).length (trim_le (ofD n))
      rw [show [n % 65536, n / 65536 % 65536, n / 4294967296 % 65536, n / 281474976710656] = ofD n from rfl, ← trim_len] at this
      have h := MagR.trim this HD.out
      rw [HV.out] at h
      exact h
    have HB := Lib.hid hb
    clear N1 hb
    generalize (Big.trim (ofD n)).length = k at *
    go_wp2
    refine bodyPost_ret (v := .agg #[.bool true, .slice (some ⟨w.heap.size + 1, 0, none⟩) k 4]) (by simp [results, Try.results40, go_sem]) rfl ⟨⟨_, rfl, HB.out _⟩, ?_⟩
    exact BW.out _ _
  · obtain ⟨n, rfl⟩ : ∃ n : Nat, a = (n : Int) := ⟨a.toNat, by omega⟩
    have e : Hid ((n : Int).natAbs = n) := by show _ = _; omega
    rw [e.out] at HD HV
    go_enter Try.func40, Try.ntmps40
    go_wp2_with fail
    refine (trim_any _ _ _ (ofD n) _ (lit4 _ _ _ _ _ _ _ _ _ _ (by simp) (by omega) (by omega) (by omega) (by omega))).mono ?_
    rintro e' w' ⟨rfl, rfl⟩
    have N1 := fun o : Obj => lit4 (w.alloc o) (w.heap.size + 1) ((n : Int) % 65536) ((n : Int) / 65536 % 65536) ((n : Int) / 4294967296 % 65536) ((n : Int) / 281474976710656) (n % 65536) (n / 65536 % 65536) (n / 4294967296 % 65536) (n / 281474976710656) (by simp) (by omega) (by omega) (by omega) (by omega)
    have hb : ∀ o : Obj, BigR ((w.alloc o).alloc (.cells #[.int .u64 ((n : Int) % 65536), .int .u64 ((n : Int) / 65536 % 65536), .int .u64 ((n : Int) / 4294967296 % 65536), .int .u64 ((n : Int) / 281474976710656)] 113)) (.agg #[.bool false, .slice (some ⟨w.heap.size + 1, 0, none⟩) (Big.trim (ofD n)).length 4]) ((n : Int)) := by
      intro o
      refine ⟨.slice (some ⟨w.heap.size + 1, 0, none⟩) (Big.trim (ofD n)).length 4, by first | (simp; omega) | simp, ?_⟩
      rw [e.out]
      have := (N1 o).take (Big.trim (ofD n)).length (trim_le (ofD n))
      rw [show [n % 65536, n / 65536 % 65536, n / 4294967296 % 65536, n / 281474976710656] = ofD n from rfl, ← trim_len] at this
      have h := MagR.trim this HD.out
      rw [HV.out] at h
      exact h
    have HB := Lib.hid hb
    clear N1 hb
    generalize (Big.trim (ofD n)).length = k at *
    go_wp2
    refine bodyPost_ret (v := .agg #[.bool false, .slice (some ⟨w.heap.size + 1, 0, none⟩) k 4]) (by simp [results, Try.results40, go_sem]) rfl ⟨⟨_, rfl, HB.out _⟩, ?_⟩
    exact BW.out _ _
end Go.Proofs.Ytgbiimoednmlgaa

/- Small: an int64 of a number, or that it is beyond; condition: the number has at most a million digits. -/
namespace Go.Proofs.Ytgbiimoednmlgaa
set_option linter.unusedVariables false
set_option linter.unusedSimpArgs false
open Go.RowKit
def smB (z : Int) : Bool := decide (-9223372036854775808 ≤ z ∧ z ≤ 9223372036854775807)
def smN (z : Int) : Int := if smB z then z else 0
theorem sm_no (z : Int) (h : ¬(-9223372036854775808 ≤ z ∧ z ≤ 9223372036854775807)) : Ending.returned (.tuple #[.int .i64 0, .bool false]) = .returned (.tuple #[.int .i64 (smN z), .bool (smB z)]) := by
  have e : smB z = false := by unfold smB; simpa using h
  unfold smN; rw [e]; rfl
theorem sm_yes (z : Int) (h : -9223372036854775808 ≤ z ∧ z ≤ 9223372036854775807) (x : Int) (hx : x = z) : Ending.returned (.tuple #[.int .i64 x, .bool true]) = .returned (.tuple #[.int .i64 (smN z), .bool (smB z)]) := by
  have e : smB z = true := by unfold smB; simpa using h
  unfold smN; rw [e, hx]; rfl
theorem cmpZ_gt (z y : Int) (h : y < z) : cmpZ z y = 1 := by unfold cmpZ; rw [if_neg (by omega), if_neg (by omega)]
theorem cmpZ_lt (z y : Int) (h : z < y) : cmpZ z y = -1 := by unfold cmpZ; rw [if_pos h]
theorem cmpZ_le (z y : Int) (h : z ≤ y) : cmpZ z y ≤ 0 := by unfold cmpZ; split <;> (try split) <;> omega
theorem cmpZ_ge (z y : Int) (h : y ≤ z) : 0 ≤ cmpZ z y := by unfold cmpZ; split <;> (try split) <;> omega
theorem Sm.int (n : Nat) (h : n ≤ 9223372036854775808) : Sm n := by
  refine Sm.of (Nat.lt_of_lt_of_le ?_ (Big.pw_mono (show 5 ≤ 1000000 by decide)))
  show n < 65536 ^ 5
  omega
theorem Nums.drop_step (l : List Nat) (k : Nat) (h : k < l.length) : Big.val (l.drop k) = l.getD k 0 + 65536 * Big.val (l.drop (k + 1)) := by
  rw [List.drop_eq_getElem_cons h, List.getD_eq_getElem?_getD, List.getElem?_eq_getElem h]; rfl
theorem val_drop_le (l : List Nat) : ∀ k, Big.val (l.drop k) ≤ Big.val l := by
  induction l with
  | nil => intro k; simp
  | cons d t ih =>
    intro k
    cases k with
    | zero => simp
    | succ j => have := ih j; simp only [List.drop_succ_cons]; show _ ≤ d + 65536 * Big.val t; omega
theorem one_cells64 {w w' : World} {x1 y1 : Value} (hb : Below (w.heap.size + 1) (w.alloc (.cells #[x1, y1] 86)) w') :
    w'.cell? ⟨w.heap.size, 0, none⟩ = some x1 ∧ w'.cell? ⟨w.heap.size, 1, none⟩ = some y1 := by
  have B1 : Mem.Blk w' w.heap.size 86 #[x1, y1] := ((Mem.Blk.new w 86 #[x1, y1])).call hb (by omega)
  exact ⟨B1.two.1, B1.two.2.1⟩
theorem wrapneg64 (n : Nat) (h : n ≤ 9223372036854775808) : IntKind.i64.wrap (IntKind.u64.wrap (-(n : Int))) = -(n : Int) := by
  simp only [IntKind.wrap_u64, IntKind.wrap_i64]; omega
theorem c_le (c : Int) (h : c ≤ 0) : decide (0 < c) = false := by simp; omega
theorem c_ge (c : Int) (h : 0 ≤ c) : decide (c < 0) = false := by simp; omega
set_option maxRecDepth 100000 in
set_option maxHeartbeats 4000000 in
theorem small_le (v : Value) (z : Int) (w : World) (hv : BigR w v z) (hz : Sm z.natAbs) (hle : z ≤ 9223372036854775807) :
    Calls Try.prog 43 #[v] w fun e w' => e = .returned (.tuple #[.int .i64 (smN z), .bool (smB z)]) ∧ Below w.heap.size w w' := by
  have HV := Lib.hid hv
  have HZ := Lib.hid hz
  have HM := Lib.hid (Sm.int (-9223372036854775807 : Int).natAbs (by decide))
  have HM2 := Lib.hid (Sm.int (-(-9223372036854775808) : Int).natAbs (by decide))
  have HLE := Lib.hid hle
  obtain ⟨c, hc, hc0⟩ : ∃ c, cmpZ z 9223372036854775807 = c ∧ decide (0 < c) = false := ⟨_, rfl, c_le _ (cmpZ_le _ _ hle)⟩
  have HC := Lib.hid hc
  obtain ⟨m, rfl, a, len, cap, l, rfl, h1, h2, h3⟩ := hv
  have HN := Lib.hid h1
  have HO := Lib.hid h2
  have HL := Lib.hid h3
  have hl2 := h1.2.1
  have hl3 := h1.2.2.1
  clear h1 h2 h3 hz hle hc
  have HS := Lib.hid (rfl : decide (z < 0) = decide (z < 0))
  generalize hs : decide (z < 0) = s at *
  have HS := Lib.hid hs
  clear hs
  have T := Lib.hid (((Below.refl _ w).alloc (Nat.le_refl _) (.cells #[.bool s, .slice a len cap] 86)) : Below w.heap.size w _)
  have TC := Lib.hid (fun w' hb => one_cells64 (w := w) (w' := w') (x1 := .bool s) (y1 := .slice a len cap) hb)
  have TS := Lib.hid (show (w.alloc (.cells #[.bool s, .slice a len cap] 86)).heap.size = w.heap.size + 1 by simp)
  by_cases hlt : z < -9223372036854775808
  · have FIN := Lib.hid (sm_no z (by omega))
    have HD := Lib.hid (cmpZ_lt z (-9223372036854775808) hlt)
    clear hlt
    go_enter Try.func43, Try.ntmps43
    go_wp2_with fail
    obtain ⟨p1, p2⟩ := TC.out _ (Below.refl _ _)
    generalize (w.alloc (.cells #[.bool s, .slice a len cap] 86)) = v at *
    first
    | go_region_held3 (fun w' => w'.cell? ⟨w.heap.size, 0, none⟩ = some (.bool s) ∧ w'.cell? ⟨w.heap.size, 1, none⟩ = some (.slice a len cap)) (first | exact ⟨j1, j2⟩ | exact ⟨i1, i2⟩ | exact ⟨g1, g2⟩ | exact ⟨d1, d2⟩ | go_keep)
      (first
        | (go_at_call 40
           (with_reducible refine (bigof_any 9223372036854775807 _ (by decide) (by decide)).mono ?_)
           rintro e w1 ⟨⟨r, rfl, hr⟩, b1⟩
           have k1 : Below (w.heap.size + 1) v w1 := ((Below.refl _ v).drew).trans (b1.mono (Nat.le_of_eq TS.out.symm))
           have k0 : Below w.heap.size w w1 := T.out.trans (k1.mono (by omega))
           obtain ⟨d1, d2⟩ := TC.out w1 k1)
        | (go_at_call 58
           (with_reducible refine (bigcmp_any _ _ z 9223372036854775807 _ (HV.out.below k0) hr HZ.out HM.out).mono ?_)
           rintro e w2 ⟨rfl, b2⟩
           have k2 : Below (w.heap.size + 1) v w2 := k1.trans (b2.mono (Nat.le_trans (Nat.le_of_eq TS.out.symm) k1.size))
           obtain ⟨g1, g2⟩ := TC.out w2 k2
           rw [HC.out])
        | (go_at_call 40
           (with_reducible refine (bigof_any (-9223372036854775808) _ (by decide) (by decide)).mono ?_)
           rintro e w3 ⟨⟨r3, rfl, hr3⟩, b3⟩
           have k3 : Below (w.heap.size + 1) v w3 := k2.trans (b3.mono (Nat.le_trans (Nat.le_of_eq TS.out.symm) k2.size))
           have k30 : Below w.heap.size w w3 := T.out.trans (k3.mono (by omega))
           obtain ⟨i1, i2⟩ := TC.out w3 k3)
        | (go_at_call 58
           (with_reducible refine (bigcmp_any _ _ z (-9223372036854775808) _ (HV.out.below k30) hr3 HZ.out HM2.out).mono ?_)
           rintro e w4 ⟨rfl, b4⟩
           have k4 : Below (w.heap.size + 1) v w4 := k3.trans (b4.mono (Nat.le_trans (Nat.le_of_eq TS.out.symm) k3.size))
           obtain ⟨j1, j2⟩ := TC.out w4 k4
           rw [HD.out]))
    | fail "region"
    all_goals
      have K := Lib.hid (T.out.trans (k4.mono (by omega)))
      clear TC HV hr k0 k1 k2 k3 k4 b1 b2 b3 b4 d1 d2 g1 g2 i1 i2 j1 j2 p1 p2 k30
      go_wp2
      go_ret2
      exact ⟨FIN.out, K.out⟩
  · have hle := HLE.out
    have FIN := Lib.hid (sm_yes z (by omega))
    have hlen : len ≤ 4 := MagR.small HN.out HO.out (by rw [HL.out]; show _ < 65536 ^ 4; omega)
    have HV4 := Lib.hid (show Big.val l ≤ 9223372036854775808 by rw [HL.out]; omega)
    obtain ⟨c', hc', hc0'⟩ : ∃ c', cmpZ z (-9223372036854775808) = c' ∧ decide (c' < 0) = false := ⟨_, rfl, c_ge _ (cmpZ_ge _ _ (by omega))⟩
    have HD := Lib.hid hc'
    have HLT := Lib.hid hlt
    clear hlt hc' hle
    go_enter Try.func43, Try.ntmps43
    go_wp2_with fail
    obtain ⟨p1, p2⟩ := TC.out _ (Below.refl _ _)
    generalize (w.alloc (.cells #[.bool s, .slice a len cap] 86)) = v at *
    first
    | go_region_held3 (fun w' => w'.cell? ⟨w.heap.size, 0, none⟩ = some (.bool s) ∧ w'.cell? ⟨w.heap.size, 1, none⟩ = some (.slice a len cap)) (first | exact ⟨j1, j2⟩ | exact ⟨i1, i2⟩ | exact ⟨g1, g2⟩ | exact ⟨d1, d2⟩ | go_keep)
      (first
        | (go_at_call 40
           (with_reducible refine (bigof_any 9223372036854775807 _ (by decide) (by decide)).mono ?_)
           rintro e w1 ⟨⟨r, rfl, hr⟩, b1⟩
           have k1 : Below (w.heap.size + 1) v w1 := ((Below.refl _ v).drew).trans (b1.mono (Nat.le_of_eq TS.out.symm))
           have k0 : Below w.heap.size w w1 := T.out.trans (k1.mono (by omega))
           obtain ⟨d1, d2⟩ := TC.out w1 k1)
        | (go_at_call 58
           (with_reducible refine (bigcmp_any _ _ z 9223372036854775807 _ (HV.out.below k0) hr HZ.out HM.out).mono ?_)
           rintro e w2 ⟨rfl, b2⟩
           have k2 : Below (w.heap.size + 1) v w2 := k1.trans (b2.mono (Nat.le_trans (Nat.le_of_eq TS.out.symm) k1.size))
           obtain ⟨g1, g2⟩ := TC.out w2 k2
           rw [HC.out])
        | (go_at_call 40
           (with_reducible refine (bigof_any (-9223372036854775808) _ (by decide) (by decide)).mono ?_)
           rintro e w3 ⟨⟨r3, rfl, hr3⟩, b3⟩
           have k3 : Below (w.heap.size + 1) v w3 := k2.trans (b3.mono (Nat.le_trans (Nat.le_of_eq TS.out.symm) k2.size))
           have k30 : Below w.heap.size w w3 := T.out.trans (k3.mono (by omega))
           obtain ⟨i1, i2⟩ := TC.out w3 k3)
        | (go_at_call 58
           (with_reducible refine (bigcmp_any _ _ z (-9223372036854775808) _ (HV.out.below k30) hr3 HZ.out HM2.out).mono ?_)
           rintro e w4 ⟨rfl, b4⟩
           have k4 : Below (w.heap.size + 1) v w4 := k3.trans (b4.mono (Nat.le_trans (Nat.le_of_eq TS.out.symm) k3.size))
           obtain ⟨j1, j2⟩ := TC.out w4 k4
           rw [HD.out]))
    | fail "region"
    all_goals
      have K4 := Lib.hid k4
      have K := Lib.hid (T.out.trans (k4.mono (by omega)))
      clear HV hr k0 k1 k2 k3 k4 b1 b2 b3 b4 d1 d2 g1 g2 i1 i2 j1 j2 p1 p2 k30
      have T4 : Below w.heap.size w w4 := K.out
      have J1 := (TC.out w4 K4.out).1
      have J2 := (TC.out w4 K4.out).2
      go_wp2_with fail
      go_loop [4, 5] (fun u i => ∃ k : Nat, i = .int .i64 ((k : Int) - 1) ∧ k ≤ len ∧ u = .int .u64 (Big.val (l.drop k) : Nat)) (fun _ i => (intOf i + 1).toNat)
      case atStart => exact ⟨len, by go_num, Nat.le_refl _, by rw [List.drop_of_length_le (by rw [HN.out.1]; exact Nat.le_refl _)]; rfl⟩
      case round =>
        obtain ⟨k, rfl, hk, rfl⟩ := hrel
        have hle1 := Nat.le_trans (val_drop_le l k) HV4.out
        cases k with
        | zero =>
          cases s with
          | false =>
            have FIN2 := Lib.hid (FIN.out (wrap64 (Big.val (l.drop 0) : Nat)) (by have h1 := HS.out; have h2 := HL.out; have h3 := HLE.out; simp at h1; simp only [List.drop_zero, wrap64]; omega))
            generalize Big.val (l.drop 0) = x at *
            go_wp2
            go_ret2
            exact ⟨FIN2.out, K.out⟩
          | true =>
            have FIN2 := Lib.hid (FIN.out (wrap64 (IntKind.u64.wrap (-(Big.val (l.drop 0) : Nat)))) (by have h1 := HS.out; have h2 := HL.out; have h3 := HLT.out; simp at h1; simp only [List.drop_zero, wrap64, IntKind.wrap_u64]; omega))
            generalize Big.val (l.drop 0) = x at *
            go_wp2
            go_ret2
            exact ⟨FIN2.out, K.out⟩
        | succ j =>
          obtain ⟨b, o, rfl, hb, hc⟩ := (HN.out.below T4).at j (by omega)
          have hst := Nums.drop_step l j (by rw [HN.out.1]; exact hk)
          have hle2 := Nat.le_trans (val_drop_le l j) HV4.out
          have REL := Lib.hid hst
          generalize l.getD j 0 = x at *
          generalize Big.val (l.drop (j + 1)) = y at *
          generalize hvv : Big.val (l.drop j) = vv at *
          have HVV := Lib.hid hvv
          clear hvv
          go_wp2
          go_round
          case rel => exact ⟨j, by go_num, by omega, by rw [HVV.out, REL.out]; go_num⟩
          case measure => simp [intOf]
end Go.Proofs.Ytgbiimoednmlgaa

/- Small of a number above all int64s, and of any. -/
namespace Go.Proofs.Ytgbiimoednmlgaa
set_option linter.unusedVariables false
set_option linter.unusedSimpArgs false
open Go.RowKit
set_option maxRecDepth 100000 in
set_option maxHeartbeats 4000000 in
theorem small_gt (v : Value) (z : Int) (w : World) (hv : BigR w v z) (hz : Sm z.natAbs) (hgt : 9223372036854775807 < z) :
    Calls Try.prog 43 #[v] w fun e w' => e = .returned (.tuple #[.int .i64 (smN z), .bool (smB z)]) ∧ Below w.heap.size w w' := by
  have FIN := Lib.hid (sm_no z (by omega))
  have HC := Lib.hid (cmpZ_gt z 9223372036854775807 hgt)
  have HV := Lib.hid hv
  have HZ := Lib.hid hz
  have HM := Lib.hid (Sm.int (-9223372036854775807 : Int).natAbs (by decide))
  obtain ⟨m, rfl, a, len, cap, l, rfl, h1, h2, h3⟩ := hv
  clear h1 h2 h3 hz hgt
  generalize decide (z < 0) = s at *
  have T := Lib.hid (((Below.refl _ w).alloc (Nat.le_refl _) (.cells #[.bool s, .slice a len cap] 86)) : Below w.heap.size w _)
  have BX := Lib.hid (Mem.Blk.new w 86 #[.bool s, .slice a len cap])
  go_enter Try.func43, Try.ntmps43
  go_wp2_with fail
  generalize (w.alloc (.cells #[.bool s, .slice a len cap] 86)) = v at *
  obtain ⟨c0, c1, -, -⟩ := BX.out.two
  refine wp_region_till (S := fun W => W.cell? ⟨w.heap.size, 0, none⟩ = some (.bool s) ∧ W.cell? ⟨w.heap.size, 1, none⟩ = some (.slice a len cap)) 9 (by kernel_rfl) ?_
  refine till_take (i := 0) (v := ?_) rfl (by kernel_rfl) (fun _ _ _ h => h) (Or.inl ⟨by rfl, ?_⟩) ⟨c0,c1⟩ ?_
  rotate_left
  · intro W hS
    try dsimp only at hS
    go_split_ands
    go_simp
    try with_reducible rfl
  try simp only [Act.put, List.getElem_toArray, List.getElem_cons_zero, List.getElem_cons_succ, List.setIfInBounds_toArray, List.set_cons_zero, List.set_cons_succ]
  refine till_one (i := 1) (by kernel_rfl) rfl (fun K' hK => ?_)
  go_simp
  go_at_call 40
  (with_reducible refine (bigof_any 9223372036854775807 _ (by decide) (by decide)).mono ?_)
  rintro e w1 ⟨⟨r, rfl, hr⟩, b1⟩
  have K1 : Hid (Below v.heap.size v w1) := ((Below.refl _ v).drew).trans b1
  have HR1 := Lib.hid hr
  clear b1 hr c0 c1
  obtain ⟨c0, c1, -, -⟩ := (BX.out.below K1.out).two
  refine hK _ _ ⟨c0, c1⟩ ?_
  clear hK K'
  try simp only [Act.put, List.getElem_toArray, List.getElem_cons_zero, List.getElem_cons_succ, List.setIfInBounds_toArray, List.set_cons_zero, List.set_cons_succ]
  refine till_one (i := 2) (by kernel_rfl) rfl (fun K' hK => ?_)
  go_simp
  go_at_call 58
  (with_reducible refine (bigcmp_any _ _ z 9223372036854775807 _ (HV.out.below (T.out.trans (K1.out.mono T.out.size))) HR1.out HZ.out HM.out).mono ?_)
  rintro e w2 ⟨rfl, b2⟩
  rw [HC.out]
  have K2 := Lib.hid (K1.out.trans (b2.mono K1.out.size))
  clear b2 c0 c1 K1 HR1
  obtain ⟨c0, c1, -, -⟩ := (BX.out.below K2.out).two
  refine hK _ _ ⟨c0, c1⟩ ?_
  clear hK K'
  try simp only [Act.put, List.getElem_toArray, List.getElem_cons_zero, List.getElem_cons_succ, List.setIfInBounds_toArray, List.set_cons_zero, List.set_cons_succ]
  refine till_take (i := 3) (v := ?_) rfl (by kernel_rfl) (fun _ _ _ h => h) (Or.inl ⟨by rfl, ?_⟩) ⟨c0,c1⟩ ?_
  rotate_left
  · intro W hS
    try dsimp only at hS
    go_split_ands
    go_simp
    try with_reducible rfl
  try simp only [Act.put, List.getElem_toArray, List.getElem_cons_zero, List.getElem_cons_succ, List.setIfInBounds_toArray, List.set_cons_zero, List.set_cons_succ]
  refine till_take (i := 4) (v := ?_) rfl (by kernel_rfl) (fun _ _ _ h => h) (Or.inl ⟨by rfl, ?_⟩) ⟨c0,c1⟩ ?_
  rotate_left
  · intro W hS
    try dsimp only at hS
    go_split_ands
    go_simp
    try with_reducible rfl
  try simp only [Act.put, List.getElem_toArray, List.getElem_cons_zero, List.getElem_cons_succ, List.setIfInBounds_toArray, List.set_cons_zero, List.set_cons_succ]
  refine till_take (i := 5) (v := undef) rfl (by kernel_rfl) (fun _ _ _ h => h) (Or.inr ⟨by rfl, rfl⟩) ⟨c0,c1⟩ ?_
  try simp only [Act.put, List.getElem_toArray, List.getElem_cons_zero, List.getElem_cons_succ, List.setIfInBounds_toArray, List.set_cons_zero, List.set_cons_succ]
  refine till_one (i := 6) (by kernel_rfl) rfl (fun K' hK => ?_)
  go_simp
  refine hK _ _ ⟨c0,c1⟩ ?_
  clear hK K'
  try simp only [Act.put, List.getElem_toArray, List.getElem_cons_zero, List.getElem_cons_succ, List.setIfInBounds_toArray, List.set_cons_zero, List.set_cons_succ]
  refine till_one (i := 7) (by kernel_rfl) rfl (fun K' hK => ?_)
  go_simp
  refine hK _ _ ⟨c0,c1⟩ ?_
  clear hK K'
  try simp only [Act.put, List.getElem_toArray, List.getElem_cons_zero, List.getElem_cons_succ, List.setIfInBounds_toArray, List.set_cons_zero, List.set_cons_succ]
  refine till_take (i := 8) (v := undef) rfl (by kernel_rfl) (fun _ _ _ h => h) (Or.inr ⟨by rfl, rfl⟩) ⟨c0,c1⟩ ?_
  try simp only [Act.put, List.getElem_toArray, List.getElem_cons_zero, List.getElem_cons_succ, List.setIfInBounds_toArray, List.set_cons_zero, List.set_cons_succ]
  refine till_last (by kernel_rfl) rfl (by kernel_rfl) (fun K' hK => ?_)
  go_simp
  refine hK _ _ ?_
  clear hK K'
  try simp only [Act.put, List.getElem_toArray, List.getElem_cons_zero, List.getElem_cons_succ, List.setIfInBounds_toArray, List.set_cons_zero, List.set_cons_succ]
  refine wpAny_done (by kernel_rfl) ?_ _
  have K := Lib.hid (T.out.trans (K2.out.mono T.out.size))
  clear c0 c1 K2 BX T
  go_wp2_with fail
  go_ret2
  exact ⟨FIN.out, K.out⟩
theorem small_any (v : Value) (z : Int) (w : World) (hv : BigR w v z) (hz : Sm z.natAbs) :
    Calls Try.prog 43 #[v] w fun e w' => e = .returned (.tuple #[.int .i64 (smN z), .bool (smB z)]) ∧ Below w.heap.size w w' := by
  by_cases h : 9223372036854775807 < z
  · exact small_gt v z w hv hz h
  · exact small_le v z w hv hz (by omega)
end Go.Proofs.Ytgbiimoednmlgaa

/- The document's Post: plain, and where its walk stands. -/
namespace Go.Proofs.Ytgbiimoednmlgaa
set_option linter.unusedVariables false
set_option linter.unusedSimpArgs false
open Go.RowKit
theorem below_newL (w : World) (o : Obj) : Below w.heap.size w (w.alloc o) := (Below.refl w.heap.size w).alloc (Nat.le_refl _) o
theorem Sm.bigL {n : Nat} (h : n ≤ 340282366920938463463374607431768211456) : Sm n := by
  refine Sm.of (Nat.lt_of_lt_of_le ?_ (Big.pw_mono (show 9 ≤ 1000000 by decide)))
  show n < 65536 ^ 9
  omega
/-- What has come to a key behind j moves. -/
def stM (l : List Acct) (m : List Mv) (j : Nat) (k : Ky) : Int := tot (conA l ++ conM (m.take j)) k
theorem stM_zero {l : List Acct} {m : List Mv} {k : Ky} (hu : UpK Acct.key l) : stM l m 0 k = getR l k := by
  unfold stM
  rw [List.take_zero, getR_tot hu]
  show tot (conA l ++ []) k = _
  rw [List.append_nil]
theorem stM_next {l : List Acct} {m : List Mv} {j : Nat} {x : Mv} (k : Ky) (h : m[j]? = some x) : stM l m (j + 1) k = stM l m j k + (if x.kf = k then -x.amt else 0) + (if x.kt = k then x.amt else 0) := by
  unfold stM
  rw [conM_take h, ← List.append_assoc, ← List.append_assoc, tot_append, tot_append, tot_one, tot_one]
theorem stM_end {l : List Acct} {m : List Mv} {j : Nat} (k : Ky) (h : m.length ≤ j) : stM l m j k = tot (conA l ++ conM m) k := by
  unfold stM; rw [List.take_of_length_le h]
theorem kf_eq {y : Mv} {x : Acct} : y.kf = x.key ↔ y.src.data.toList = x.party.data.toList ∧ y.coin.data.toList = x.coin.data.toList :=
  ⟨fun h => ⟨congrArg Prod.fst h, congrArg Prod.snd h⟩, fun h => Prod.ext h.1 h.2⟩
theorem kt_eq {y : Mv} {x : Acct} : y.kt = x.key ↔ y.dst.data.toList = x.party.data.toList ∧ y.coin.data.toList = x.coin.data.toList :=
  ⟨fun h => ⟨congrArg Prod.fst h, congrArg Prod.snd h⟩, fun h => Prod.ext h.1 h.2⟩
def Bd (z : Int) (j : Nat) : Prop := z.natAbs ≤ 9223372036854775808 * (j + 1)
theorem Bd.zero {z : Int} (h : I64 z) : Bd z 0 := by unfold Bd; unfold I64 at h; omega
theorem Bd.add {z n : Int} {j : Nat} (h : Bd z j) (hn : I64 n) : Bd (z + n) (j + 1) := by unfold Bd at *; unfold I64 at hn; omega
theorem Bd.sub {z n : Int} {j : Nat} (h : Bd z j) (hn : I64 n) : Bd (z + -n) (j + 1) := by unfold Bd at *; unfold I64 at hn; omega
theorem Bd.up {z : Int} {j k : Nat} (h : Bd z j) (hk : j ≤ k) : Bd z k := by
  unfold Bd at *
  exact Nat.le_trans h (Nat.mul_le_mul_left _ (by omega))
theorem Bd.sm {z : Int} {j : Nat} (h : Bd z j) (hj : j ≤ 3000) : Sm z.natAbs := by
  unfold Bd at h
  exact Sm.bigL (Nat.le_trans h (Nat.le_trans (Nat.mul_le_mul_left _ (show j + 1 ≤ 3001 by omega)) (by decide)))
/-- The accounts that come of keys. -/
def oK (L : List (Ky × Int)) (ks : List Acct) : List Acct := ks.filterMap (fun a => if tot L a.key = 0 then none else some ⟨a.party, a.coin, tot L a.key⟩)
theorem oK_mem {L : List (Ky × Int)} {ks : List Acct} {a : Acct} : a ∈ oK L ks ↔ ∃ e ∈ ks, tot L e.key ≠ 0 ∧ a = ⟨e.party, e.coin, tot L e.key⟩ := by
  unfold oK
  rw [List.mem_filterMap]
  constructor
  · rintro ⟨e, he, h⟩
    by_cases h0 : tot L e.key = 0
    · rw [if_pos h0] at h; cases h
    · rw [if_neg h0] at h; injection h with h
      exact ⟨e, he, h0, h.symm⟩
  · rintro ⟨e, he, h0, rfl⟩
    exact ⟨e, he, by rw [if_neg h0]⟩
theorem oK_take {L : List (Ky × Int)} {ks : List Acct} {k : Nat} {e : Acct} (h : ks[k]? = some e) : oK L (ks.take (k + 1)) = oK L (ks.take k) ++ (if tot L e.key = 0 then [] else [⟨e.party, e.coin, tot L e.key⟩]) := by
  obtain ⟨hk, e1⟩ := List.getElem?_eq_some_iff.1 h
  rw [← List.take_append_getElem hk, e1]
  unfold oK
  rw [List.filterMap_append]
  congr 1
  by_cases h0 : tot L e.key = 0
  · rw [if_pos h0, List.filterMap_cons, if_pos h0]; rfl
  · rw [if_neg h0, List.filterMap_cons, if_neg h0]; rfl
theorem oK_len (L : List (Ky × Int)) (ks : List Acct) : (oK L ks).length ≤ ks.length := List.length_filterMap_le ..
theorem allK_len (l : List Acct) (m : List Mv) : (allK l m).length = l.length + 2 * m.length := by
  unfold allK
  rw [List.length_append, List.length_map]
  congr 1
  induction m with
  | nil => rfl
  | cons x t ih => rw [List.flatMap_cons, List.length_append, ih]; show 2 + 2 * t.length = 2 * (t.length + 1); omega
theorem con_all {l : List Acct} {m : List Mv} {p : Ky × Int} (hp : p ∈ conA l ++ conM m) : ∃ a ∈ allK l m, a.key = p.1 := by
  unfold allK
  rcases List.mem_append.1 hp with hp | hp
  · unfold conA at hp
    obtain ⟨a, ha, rfl⟩ := List.mem_map.1 hp
    exact ⟨zA a, List.mem_append_left _ (List.mem_map.2 ⟨a, ha, rfl⟩), rfl⟩
  · unfold conM at hp
    obtain ⟨x, hx, hxp⟩ := List.mem_flatMap.1 hp
    rw [List.mem_cons, List.mem_singleton] at hxp
    rcases hxp with rfl | rfl
    · exact ⟨⟨x.src, x.coin, 0⟩, List.mem_append_right _ (List.mem_flatMap.2 ⟨x, hx, by unfold zM; simp⟩), rfl⟩
    · exact ⟨⟨x.dst, x.coin, 0⟩, List.mem_append_right _ (List.mem_flatMap.2 ⟨x, hx, by unfold zM; simp⟩), rfl⟩
theorem keys_out {l : List Acct} {m : List Mv} {ks : List Acct} (h : KeySt ks (allK l m)) : OutOf (oK (conA l ++ conM m) ks) (conA l ++ conM m) := by
  refine ⟨?_, fun a ha => ?_, fun k hk => ?_⟩
  · unfold oK UpK
    rw [List.pairwise_filterMap]
    refine h.up.imp (fun {x y} hxy b hb b' hb' => ?_)
    split at hb
    · cases hb
    · split at hb'
      · cases hb'
      · injection hb with hb; injection hb' with hb'
        subst hb; subst hb'; exact hxy
  · obtain ⟨e, he, h0, rfl⟩ := oK_mem.1 ha
    exact ⟨rfl, h0⟩
  · have : ∃ p ∈ conA l ++ conM m, p.1 = k := by
      refine Classical.byContradiction (fun hn => hk (tot_none (fun p hp e => hn ⟨p, hp, e⟩)))
    obtain ⟨p, hp, hpk⟩ := this
    obtain ⟨a, ha, hak⟩ := con_all hp
    obtain ⟨b, hb, hbk⟩ := h.all a ha
    have e : b.key = k := hbk.trans (hak.trans hpk)
    exact ⟨⟨b.party, b.coin, tot (conA l ++ conM m) b.key⟩, oK_mem.2 ⟨b, hb, by rw [e]; exact hk, rfl⟩, e⟩
theorem keys_fit {l : List Acct} {m : List Mv} {ks : List Acct} (h : KeySt ks (allK l m)) : FitL (conA l ++ conM m) ↔ ∀ a ∈ ks, fits64 (tot (conA l ++ conM m) a.key) = true := by
  constructor
  · intro hf a _; exact hf a.key
  · intro hf
    refine FitL.of (fun p hp => ?_)
    obtain ⟨a, ha, hak⟩ := con_all hp
    obtain ⟨b, hb, hbk⟩ := h.all a ha
    rw [← hak, ← hbk]; exact hf b hb
theorem fits_smB (z : Int) : smB z = fits64 z := by
  unfold smB fits64
  by_cases h : -9223372036854775808 ≤ z ∧ z ≤ 9223372036854775807
  · rw [decide_eq_true h, decide_eq_true h.1, decide_eq_true h.2]; rfl
  · rw [decide_eq_false h]
    by_cases h1 : -9223372036854775808 ≤ z
    · rw [decide_eq_true h1, decide_eq_false (fun h2 => h ⟨h1, h2⟩)]; rfl
    · rw [decide_eq_false h1]; rfl
/-- What the document's Post answers. -/
def RpoR (w' : World) (l : List Acct) (m : List Mv) (x : Ending) : Prop := ∃ (out : List Acct) (a : Option Addr) (c : Nat) (b : Bool), x = .returned (.tuple #[.slice a out.length c, .bool b]) ∧ SlR acctK w' [] out a out.length c ∧ out.length ≤ l.length + 2 * m.length ∧ ((b = false ∧ ¬ FitL (conA l ++ conM m)) ∨ (b = true ∧ FitL (conA l ++ conM m) ∧ OutOf out (conA l ++ conM m)))
/-- The number that grows, beside the row that grows. -/
structure PoSt (w1 wr : World) (v : Value) (n : Nat) (xs : List Value) (g : Nat) (z : Int) : Prop where
  bel : Below w1.heap.size w1 wr
  row : wr.ownsRow w1.heap.size 58 3 v n xs
  lo : w1.heap.size ≤ g
  big : ∃ b a len cap, Mem.Blk wr g 86 #[.bool b, .slice a len cap] ∧ BigR wr (.agg #[.bool b, .slice a len cap]) z
theorem grown_set (w : World) (g j : Nat) (u : Value) : w.grownBy (w.setCell ⟨g, j, none⟩ u) (some g) :=
  ⟨rfl, rfl, rfl, by simp [World.setCell], fun i hi hne => Below.heap_setCell w ⟨g, j, none⟩ u i (fun e => hne (by rw [e]))⟩
theorem row_far {w : World} {base sz n g : Nat} {t e : TypeId} {v : Value} {xs : List Value} {cs : Array Value} (h : w.ownsRow base e sz v n xs) (hb : Mem.Blk w g t cs) (ht : t ≠ e) (j : Nat) (u : Value) : (w.setCell ⟨g, j, none⟩ u).ownsRow base e sz v n xs :=
  h.kept (grown_set w g j u) (by
    cases hv : v.ownBlock with
    | none => exact .inl rfl
    | some k => exact .inr (fun e2 => blkRow hb h ht (hv.trans e2)))
theorem PoSt.below {w1 wr w' : World} {v : Value} {n : Nat} {xs : List Value} {g : Nat} {z : Int} (h : PoSt w1 wr v n xs g z) (b : Below wr.heap.size wr w') : PoSt w1 w' v n xs g z := by
  obtain ⟨bb, a, len, cap, h1, h2⟩ := h.big
  exact ⟨h.bel.trans (b.mono h.bel.size), own_below h.row b, h.lo, bb, a, len, cap, h1.below b, h2.below b⟩
theorem PoSt.put {w1 wr : World} {v : Value} {n : Nat} {xs : List Value} {g : Nat} {z z' : Int} (h : PoSt w1 wr v n xs g z) {r : Value} (hr : BigR wr r z') : ∃ b a len cap, r = .agg #[.bool b, .slice a len cap] ∧ PoSt w1 ((wr.setCell ⟨g, 0, none⟩ (.bool b)).setCell ⟨g, 1, none⟩ (.slice a len cap)) v n xs g z' := by
  obtain ⟨bb, aa, ll, cc, h1, h2⟩ := h.big
  have hr3 := hr
  obtain ⟨mm, rfl, a, len, cap, l, rfl, q1, q2, q3⟩ := hr
  refine ⟨_, a, len, cap, rfl, (h.bel.setCell h.lo _).setCell h.lo _, row_far (row_far h.row h1 (by decide) _ _) (h1.set_ 0 _) (by decide) _ _, h.lo, _, a, len, cap, (h1.set_ 0 _).set_ 1 _, hr3.put2 h1⟩
/-- A new number. -/
theorem PoSt.new {w1 wr : World} {v : Value} {n : Nat} {xs : List Value} {z : Int} {g : Nat} {r : Value} {b0 : Bool} {a0 : Option Addr} {l0 c0 : Nat} (hb : Below w1.heap.size w1 wr) (ho : wr.ownsRow w1.heap.size 58 3 v n xs) (hg : w1.heap.size ≤ g) (h1 : Mem.Blk wr g 86 #[.bool b0, .slice a0 l0 c0]) (hr : BigR wr r z) : ∃ b a len cap, r = .agg #[.bool b, .slice a len cap] ∧ PoSt w1 ((wr.setCell ⟨g, 0, none⟩ (.bool b)).setCell ⟨g, 1, none⟩ (.slice a len cap)) v n xs g z := by
  have hr3 := hr
  obtain ⟨mm, rfl, a, len, cap, l, rfl, q1, q2, q3⟩ := hr
  refine ⟨_, a, len, cap, rfl, (hb.setCell hg _).setCell hg _, row_far (row_far ho h1 (by decide) _ _) (h1.set_ 0 _) (by decide) _ _, hg, _, a, len, cap, (h1.set_ 0 _).set_ 1 _, hr3.put2 h1⟩
end Go.Proofs.Ytgbiimoednmlgaa
