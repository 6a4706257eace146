/- A part of the proof: BgG, BgM, BgS, BgU, BgV, FoldD, one behind another. -/
import Derived.Test.YtppnmeobnilojaaMGA
import Derived.Test.YtppnmeobnilojaaMGB
import Derived.Test.YtppnmeobnilojaaMGC
import Derived.Test.YtppnmeobnilojaaMGD
import Derived.Test.YtppnmeobnilojaaMGE
import Derived.Test.YtppnmeobnilojaaMGF
import Derived.Test.YtppnmeobnilojaaMGG
import Derived.Test.YtppnmeobnilojaaMGH
import Derived.Test.YtppnmeobnilojaaMGI
import Derived.Test.YtppnmeobnilojaaMGJ
import Derived.Test.YtppnmeobnilojaaMGK
import Derived.Test.YtppnmeobnilojaaMGL
import Derived.Test.YtppnmeobnilojaaMGM
import Derived.Test.YtppnmeobnilojaaMGN
import Derived.Test.YtppnmeobnilojaaMGO
import Derived.Test.YtppnmeobnilojaaMGQ
import Derived.Test.YtppnmeobnilojaaMGR
import Derived.OpenShut
import Derived.IntWalk
import Derived.Deep.DeepCutAuto
import Derived.Deep.CutBlock
namespace Go.Proofs.Ytppnmeobnilojaa
set_option linter.unusedVariables false
set_option linter.unusedSimpArgs false
open Go.RowKit
theorem lit4 (w : World) (g : Nat) (z1 z2 z3 z4 : Int) (n1 n2 n3 n4 : Nat) (hg : g = w.heap.size) (h1 : z1 = n1) (h2 : z2 = n2) (h3 : z3 = n3) (h4 : z4 = n4) :
    Nums (w.alloc (.cells #[.int .u64 z1, .int .u64 z2, .int .u64 z3, .int .u64 z4] 141)) (some ⟨g, 0, none⟩) 4 4 [n1, n2, n3, n4] := by
  subst hg h1 h2 h3 h4
  refine ⟨rfl, Nat.le_refl _, by decide, fun _ => ⟨w.heap.size, 0, rfl, by simp, fun i x hx => ?_⟩⟩
  have := (Mem.Blk.new w 141 #[.int .u64 (n1 : Int), .int .u64 (n2 : Int), .int .u64 (n3 : Int), .int .u64 (n4 : Int)]).cell (0 + i)
  rw [this, Nat.zero_add]
  match i, hx with
  | 0, hx => simp at hx; subst hx; rfl
  | 1, hx => simp at hx; subst hx; rfl
  | 2, hx => simp at hx; subst hx; rfl
  | 3, hx => simp at hx; subst hx; rfl
  | k + 4, hx => simp at hx
def ofD (n : Nat) : List Nat := [n % 65536, n / 65536 % 65536, n / 4294967296 % 65536, n / 281474976710656]
theorem ofD_dig (n : Nat) (h : n ≤ 9223372036854775808) : Big.Dig (ofD n) := by
  intro d hd; unfold ofD at hd; simp at hd
  rcases hd with rfl | rfl | rfl | rfl <;> omega
theorem ofD_val (n : Nat) : Big.val (ofD n) = n := by
  unfold ofD; simp [Big.val]; omega
theorem wrap_neg2 (n : Nat) (h : n ≤ 9223372036854775808) : IntKind.u64.wrap (-IntKind.u64.wrap (-(n : Int))) = n := by
  simp only [IntKind.wrap_u64]; omega
set_option maxRecDepth 100000 in
set_option maxHeartbeats 1000000 in
theorem bigof_any (a : Int) (w : World) (h0 : -9223372036854775808 ≤ a) (h1 : a ≤ 9223372036854775807) :
    Calls Try.prog 86 #[.int .i64 a] w fun e w' => (∃ r, e = .returned r ∧ BigR w' r a) ∧ Below w.heap.size w w' := by
  have HD := Lib.hid (ofD_dig a.natAbs (by omega))
  have HV := Lib.hid (ofD_val a.natAbs)
  have BW := Lib.hid (fun o o2 : Obj => (((Below.refl _ w).alloc (Nat.le_refl _) o).alloc (by simp) o2 : Below w.heap.size w _))
  by_cases hz : a < 0
  · obtain ⟨n, hn, rfl⟩ : ∃ n : Nat, 1 ≤ n ∧ a = -(n : Int) := ⟨a.natAbs, by omega, by omega⟩
    have e : Hid ((-(n : Int)).natAbs = n) := by show _ = _; omega
    have hwr := wrap_neg2 n (by omega)
    rw [e.out] at HD HV
    go_enter Try.func86, Try.ntmps86
    go_wp2_with fail
    refine (trim_any _ _ _ (ofD n) _ (lit4 _ _ _ _ _ _ _ _ _ _ (by simp) (by omega) (by omega) (by omega) (by omega))).mono ?_
    rintro e' w' ⟨rfl, rfl⟩
    have N1 := fun o : Obj => lit4 (w.alloc o) (w.heap.size + 1) ((n : Int) % 65536) ((n : Int) / 65536 % 65536) ((n : Int) / 4294967296 % 65536) ((n : Int) / 281474976710656) (n % 65536) (n / 65536 % 65536) (n / 4294967296 % 65536) (n / 281474976710656) (by simp) (by omega) (by omega) (by omega) (by omega)
    have hb : ∀ o : Obj, BigR ((w.alloc o).alloc (.cells #[.int .u64 ((n : Int) % 65536), .int .u64 ((n : Int) / 65536 % 65536), .int .u64 ((n : Int) / 4294967296 % 65536), .int .u64 ((n : Int) / 281474976710656)] 141)) (.agg #[.bool true, .slice (some ⟨w.heap.size + 1, 0, none⟩) (Big.trim (ofD n)).length 4]) (-(n : Int)) := by
      intro o
      refine ⟨.slice (some ⟨w.heap.size + 1, 0, none⟩) (Big.trim (ofD n)).length 4, by first | (simp; omega) | simp, ?_⟩
      rw [e.out]
      have := (N1 o).take (Big.trim (ofD n)).length (trim_le (ofD n))
      rw [show [n % 65536, n / 65536 % 65536, n / 4294967296 % 65536, n / 281474976710656] = ofD n from rfl, ← trim_len] at this
      have h := MagR.trim this HD.out
      rw [HV.out] at h
      exact h
    have HB := Lib.hid hb
    clear N1 hb
    generalize (Big.trim (ofD n)).length = k at *
    go_wp2
    refine bodyPost_ret (v := .agg #[.bool true, .slice (some ⟨w.heap.size + 1, 0, none⟩) k 4]) (by simp [results, Try.results86, go_sem]) rfl ⟨⟨_, rfl, HB.out _⟩, ?_⟩
    exact BW.out _ _
  · obtain ⟨n, rfl⟩ : ∃ n : Nat, a = (n : Int) := ⟨a.toNat, by omega⟩
    have e : Hid ((n : Int).natAbs = n) := by show _ = _; omega
    rw [e.out] at HD HV
    go_enter Try.func86, Try.ntmps86
    go_wp2_with fail
    refine (trim_any _ _ _ (ofD n) _ (lit4 _ _ _ _ _ _ _ _ _ _ (by simp) (by omega) (by omega) (by omega) (by omega))).mono ?_
    rintro e' w' ⟨rfl, rfl⟩
    have N1 := fun o : Obj => lit4 (w.alloc o) (w.heap.size + 1) ((n : Int) % 65536) ((n : Int) / 65536 % 65536) ((n : Int) / 4294967296 % 65536) ((n : Int) / 281474976710656) (n % 65536) (n / 65536 % 65536) (n / 4294967296 % 65536) (n / 281474976710656) (by simp) (by omega) (by omega) (by omega) (by omega)
    have hb : ∀ o : Obj, BigR ((w.alloc o).alloc (.cells #[.int .u64 ((n : Int) % 65536), .int .u64 ((n : Int) / 65536 % 65536), .int .u64 ((n : Int) / 4294967296 % 65536), .int .u64 ((n : Int) / 281474976710656)] 141)) (.agg #[.bool false, .slice (some ⟨w.heap.size + 1, 0, none⟩) (Big.trim (ofD n)).length 4]) ((n : Int)) := by
      intro o
      refine ⟨.slice (some ⟨w.heap.size + 1, 0, none⟩) (Big.trim (ofD n)).length 4, by first | (simp; omega) | simp, ?_⟩
      rw [e.out]
      have := (N1 o).take (Big.trim (ofD n)).length (trim_le (ofD n))
      rw [show [n % 65536, n / 65536 % 65536, n / 4294967296 % 65536, n / 281474976710656] = ofD n from rfl, ← trim_len] at this
      have h := MagR.trim this HD.out
      rw [HV.out] at h
      exact h
    have HB := Lib.hid hb
    clear N1 hb
    generalize (Big.trim (ofD n)).length = k at *
    go_wp2
    refine bodyPost_ret (v := .agg #[.bool false, .slice (some ⟨w.heap.size + 1, 0, none⟩) k 4]) (by simp [results, Try.results86, go_sem]) rfl ⟨⟨_, rfl, HB.out _⟩, ?_⟩
    exact BW.out _ _
end Go.Proofs.Ytppnmeobnilojaa

/- Small: an int64 of a number, or that it is beyond; condition: the number has at most a million digits. -/
namespace Go.Proofs.Ytppnmeobnilojaa
set_option linter.unusedVariables false
set_option linter.unusedSimpArgs false
open Go.RowKit
def smB (z : Int) : Bool := decide (-9223372036854775808 ≤ z ∧ z ≤ 9223372036854775807)
def smN (z : Int) : Int := if smB z then z else 0
theorem sm_no (z : Int) (h : ¬(-9223372036854775808 ≤ z ∧ z ≤ 9223372036854775807)) : Ending.returned (.tuple #[.int .i64 0, .bool false]) = .returned (.tuple #[.int .i64 (smN z), .bool (smB z)]) := by
  have e : smB z = false := by unfold smB; simpa using h
  unfold smN; rw [e]; rfl
theorem sm_yes (z : Int) (h : -9223372036854775808 ≤ z ∧ z ≤ 9223372036854775807) (x : Int) (hx : x = z) : Ending.returned (.tuple #[.int .i64 x, .bool true]) = .returned (.tuple #[.int .i64 (smN z), .bool (smB z)]) := by
  have e : smB z = true := by unfold smB; simpa using h
  unfold smN; rw [e, hx]; rfl
theorem cmpZ_gt (z y : Int) (h : y < z) : cmpZ z y = 1 := by unfold cmpZ; rw [if_neg (by omega), if_neg (by omega)]
theorem cmpZ_lt (z y : Int) (h : z < y) : cmpZ z y = -1 := by unfold cmpZ; rw [if_pos h]
theorem cmpZ_le (z y : Int) (h : z ≤ y) : cmpZ z y ≤ 0 := by unfold cmpZ; split <;> (try split) <;> omega
theorem cmpZ_ge (z y : Int) (h : y ≤ z) : 0 ≤ cmpZ z y := by unfold cmpZ; split <;> (try split) <;> omega
theorem Sm.int (n : Nat) (h : n ≤ 9223372036854775808) : Sm n := by
  refine Sm.of (Nat.lt_of_lt_of_le ?_ (Big.pw_mono (show 5 ≤ 1000000 by decide)))
  show n < 65536 ^ 5
  omega
theorem Nums.drop_step (l : List Nat) (k : Nat) (h : k < l.length) : Big.val (l.drop k) = l.getD k 0 + 65536 * Big.val (l.drop (k + 1)) := by
  rw [List.drop_eq_getElem_cons h, List.getD_eq_getElem?_getD, List.getElem?_eq_getElem h]; rfl
theorem val_drop_le (l : List Nat) : ∀ k, Big.val (l.drop k) ≤ Big.val l := by
  induction l with
  | nil => intro k; simp
  | cons d t ih =>
    intro k
    cases k with
    | zero => simp
    | succ j => have := ih j; simp only [List.drop_succ_cons]; show _ ≤ d + 65536 * Big.val t; omega
theorem one_cells64 {w w' : World} {x1 y1 : Value} (hb : Below (w.heap.size + 1) (w.alloc (.cells #[x1, y1] 125)) w') :
    w'.cell? ⟨w.heap.size, 0, none⟩ = some x1 ∧ w'.cell? ⟨w.heap.size, 1, none⟩ = some y1 := by
  have B1 : Mem.Blk w' w.heap.size 125 #[x1, y1] := ((Mem.Blk.new w 125 #[x1, y1])).call hb (by omega)
  exact ⟨B1.two.1, B1.two.2.1⟩
theorem wrapneg64 (n : Nat) (h : n ≤ 9223372036854775808) : IntKind.i64.wrap (IntKind.u64.wrap (-(n : Int))) = -(n : Int) := by
  simp only [IntKind.wrap_u64, IntKind.wrap_i64]; omega
theorem c_le (c : Int) (h : c ≤ 0) : decide (0 < c) = false := by simp; omega
theorem c_ge (c : Int) (h : 0 ≤ c) : decide (c < 0) = false := by simp; omega
set_option maxRecDepth 100000 in
set_option maxHeartbeats 4000000 in
theorem small_le (v : Value) (z : Int) (w : World) (hv : BigR w v z) (hz : Sm z.natAbs) (hle : z ≤ 9223372036854775807) :
    Calls Try.prog 87 #[v] w fun e w' => e = .returned (.tuple #[.int .i64 (smN z), .bool (smB z)]) ∧ Below w.heap.size w w' := by
  have HV := Lib.hid hv
  have HZ := Lib.hid hz
  have HM := Lib.hid (Sm.int (-9223372036854775807 : Int).natAbs (by decide))
  have HM2 := Lib.hid (Sm.int (-(-9223372036854775808) : Int).natAbs (by decide))
  have HLE := Lib.hid hle
  obtain ⟨c, hc, hc0⟩ : ∃ c, cmpZ z 9223372036854775807 = c ∧ decide (0 < c) = false := ⟨_, rfl, c_le _ (cmpZ_le _ _ hle)⟩
  have HC := Lib.hid hc
  obtain ⟨m, rfl, a, len, cap, l, rfl, h1, h2, h3⟩ := hv
  have HN := Lib.hid h1
  have HO := Lib.hid h2
  have HL := Lib.hid h3
  have hl2 := h1.2.1
  have hl3 := h1.2.2.1
  clear h1 h2 h3 hz hle hc
  have HS := Lib.hid (rfl : decide (z < 0) = decide (z < 0))
  generalize hs : decide (z < 0) = s at *
  have HS := Lib.hid hs
  clear hs
  have T := Lib.hid (((Below.refl _ w).alloc (Nat.le_refl _) (.cells #[.bool s, .slice a len cap] 125)) : Below w.heap.size w _)
  have TC := Lib.hid (fun w' hb => one_cells64 (w := w) (w' := w') (x1 := .bool s) (y1 := .slice a len cap) hb)
  have TS := Lib.hid (show (w.alloc (.cells #[.bool s, .slice a len cap] 125)).heap.size = w.heap.size + 1 by simp)
  by_cases hlt : z < -9223372036854775808
  · have FIN := Lib.hid (sm_no z (by omega))
    have HD := Lib.hid (cmpZ_lt z (-9223372036854775808) hlt)
    clear hlt
    go_enter Try.func87, Try.ntmps87
    go_wp2_with fail
    obtain ⟨p1, p2⟩ := TC.out _ (Below.refl _ _)
    generalize (w.alloc (.cells #[.bool s, .slice a len cap] 125)) = v at *
    first
    | go_region_held3 (fun w' => w'.cell? ⟨w.heap.size, 0, none⟩ = some (.bool s) ∧ w'.cell? ⟨w.heap.size, 1, none⟩ = some (.slice a len cap)) (first | exact ⟨j1, j2⟩ | exact ⟨i1, i2⟩ | exact ⟨g1, g2⟩ | exact ⟨d1, d2⟩ | go_keep)
      (first
        | (go_at_call 86
           (with_reducible refine (bigof_any 9223372036854775807 _ (by decide) (by decide)).mono ?_)
           rintro e w1 ⟨⟨r, rfl, hr⟩, b1⟩
           have k1 : Below (w.heap.size + 1) v w1 := ((Below.refl _ v).drew).trans (b1.mono (Nat.le_of_eq TS.out.symm))
           have k0 : Below w.heap.size w w1 := T.out.trans (k1.mono (by omega))
           obtain ⟨d1, d2⟩ := TC.out w1 k1)
        | (go_at_call 112
           (with_reducible refine (bigcmp_any _ _ z 9223372036854775807 _ (HV.out.below k0) hr HZ.out HM.out).mono ?_)
           rintro e w2 ⟨rfl, b2⟩
           have k2 : Below (w.heap.size + 1) v w2 := k1.trans (b2.mono (Nat.le_trans (Nat.le_of_eq TS.out.symm) k1.size))
           obtain ⟨g1, g2⟩ := TC.out w2 k2
           rw [HC.out])
        | (go_at_call 86
           (with_reducible refine (bigof_any (-9223372036854775808) _ (by decide) (by decide)).mono ?_)
           rintro e w3 ⟨⟨r3, rfl, hr3⟩, b3⟩
           have k3 : Below (w.heap.size + 1) v w3 := k2.trans (b3.mono (Nat.le_trans (Nat.le_of_eq TS.out.symm) k2.size))
           have k30 : Below w.heap.size w w3 := T.out.trans (k3.mono (by omega))
           obtain ⟨i1, i2⟩ := TC.out w3 k3)
        | (go_at_call 112
           (with_reducible refine (bigcmp_any _ _ z (-9223372036854775808) _ (HV.out.below k30) hr3 HZ.out HM2.out).mono ?_)
           rintro e w4 ⟨rfl, b4⟩
           have k4 : Below (w.heap.size + 1) v w4 := k3.trans (b4.mono (Nat.le_trans (Nat.le_of_eq TS.out.symm) k3.size))
           obtain ⟨j1, j2⟩ := TC.out w4 k4
           rw [HD.out]))
    | fail "region"
    all_goals
      have K := Lib.hid (T.out.trans (k4.mono (by omega)))
      clear TC HV hr k0 k1 k2 k3 k4 b1 b2 b3 b4 d1 d2 g1 g2 i1 i2 j1 j2 p1 p2 k30
      go_wp2
      go_ret2
      exact ⟨FIN.out, K.out⟩
  · have hle := HLE.out
    have FIN := Lib.hid (sm_yes z (by omega))
    have hlen : len ≤ 4 := MagR.small HN.out HO.out (by rw [HL.out]; show _ < 65536 ^ 4; omega)
    have HV4 := Lib.hid (show Big.val l ≤ 9223372036854775808 by rw [HL.out]; omega)
    obtain ⟨c', hc', hc0'⟩ : ∃ c', cmpZ z (-9223372036854775808) = c' ∧ decide (c' < 0) = false := ⟨_, rfl, c_ge _ (cmpZ_ge _ _ (by omega))⟩
    have HD := Lib.hid hc'
    have HLT := Lib.hid hlt
    clear hlt hc' hle
    go_enter Try.func87, Try.ntmps87
    go_wp2_with fail
    obtain ⟨p1, p2⟩ := TC.out _ (Below.refl _ _)
    generalize (w.alloc (.cells #[.bool s, .slice a len cap] 125)) = v at *
    first
    | go_region_held3 (fun w' => w'.cell? ⟨w.heap.size, 0, none⟩ = some (.bool s) ∧ w'.cell? ⟨w.heap.size, 1, none⟩ = some (.slice a len cap)) (first | exact ⟨j1, j2⟩ | exact ⟨i1, i2⟩ | exact ⟨g1, g2⟩ | exact ⟨d1, d2⟩ | go_keep)
      (first
        | (go_at_call 86
           (with_reducible refine (bigof_any 9223372036854775807 _ (by decide) (by decide)).mono ?_)
           rintro e w1 ⟨⟨r, rfl, hr⟩, b1⟩
           have k1 : Below (w.heap.size + 1) v w1 := ((Below.refl _ v).drew).trans (b1.mono (Nat.le_of_eq TS.out.symm))
           have k0 : Below w.heap.size w w1 := T.out.trans (k1.mono (by omega))
           obtain ⟨d1, d2⟩ := TC.out w1 k1)
        | (go_at_call 112
           (with_reducible refine (bigcmp_any _ _ z 9223372036854775807 _ (HV.out.below k0) hr HZ.out HM.out).mono ?_)
           rintro e w2 ⟨rfl, b2⟩
           have k2 : Below (w.heap.size + 1) v w2 := k1.trans (b2.mono (Nat.le_trans (Nat.le_of_eq TS.out.symm) k1.size))
           obtain ⟨g1, g2⟩ := TC.out w2 k2
           rw [HC.out])
        | (go_at_call 86
           (with_reducible refine (bigof_any (-9223372036854775808) _ (by decide) (by decide)).mono ?_)
           rintro e w3 ⟨⟨r3, rfl, hr3⟩, b3⟩
           have k3 : Below (w.heap.size + 1) v w3 := k2.trans (b3.mono (Nat.le_trans (Nat.le_of_eq TS.out.symm) k2.size))
           have k30 : Below w.heap.size w w3 := T.out.trans (k3.mono (by omega))
           obtain ⟨i1, i2⟩ := TC.out w3 k3)
        | (go_at_call 112
           (with_reducible refine (bigcmp_any _ _ z (-9223372036854775808) _ (HV.out.below k30) hr3 HZ.out HM2.out).mono ?_)
           rintro e w4 ⟨rfl, b4⟩
           have k4 : Below (w.heap.size + 1) v w4 := k3.trans (b4.mono (Nat.le_trans (Nat.le_of_eq TS.out.symm) k3.size))
           obtain ⟨j1, j2⟩ := TC.out w4 k4
           rw [HD.out]))
    | fail "region"
    all_goals
      have K4 := Lib.hid k4
      have K := Lib.hid (T.out.trans (k4.mono (by omega)))
      clear HV hr k0 k1 k2 k3 k4 b1 b2 b3 b4 d1 d2 g1 g2 i1 i2 j1 j2 p1 p2 k30
      have T4 : Below w.heap.size w w4 := K.out
      have J1 := (TC.out w4 K4.out).1
      have J2 := (TC.out w4 K4.out).2
      go_wp2_with fail
      go_loop [4, 5] (fun u i => ∃ k : Nat, i = .int .i64 ((k : Int) - 1) ∧ k ≤ len ∧ u = .int .u64 (Big.val (l.drop k) : Nat)) (fun _ i => (intOf i + 1).toNat)
      case atStart => exact ⟨len, by go_num, Nat.le_refl _, by rw [List.drop_of_length_le (by rw [HN.out.1]; exact Nat.le_refl _)]; rfl⟩
      case round =>
        obtain ⟨k, rfl, hk, rfl⟩ := hrel
        have hle1 := Nat.le_trans (val_drop_le l k) HV4.out
        cases k with
        | zero =>
          cases s with
          | false =>
            have FIN2 := Lib.hid (FIN.out (wrap64 (Big.val (l.drop 0) : Nat)) (by have h1 := HS.out; have h2 := HL.out; have h3 := HLE.out; simp at h1; simp only [List.drop_zero, wrap64]; omega))
            generalize Big.val (l.drop 0) = x at *
            go_wp2
            go_ret2
            exact ⟨FIN2.out, K.out⟩
          | true =>
            have FIN2 := Lib.hid (FIN.out (wrap64 (IntKind.u64.wrap (-(Big.val (l.drop 0) : Nat)))) (by have h1 := HS.out; have h2 := HL.out; have h3 := HLT.out; simp at h1; simp only [List.drop_zero, wrap64, IntKind.wrap_u64]; omega))
            generalize Big.val (l.drop 0) = x at *
            go_wp2
            go_ret2
            exact ⟨FIN2.out, K.out⟩
        | succ j =>
          obtain ⟨b, o, rfl, hb, hc⟩ := (HN.out.below T4).at j (by omega)
          have hst := Nums.drop_step l j (by rw [HN.out.1]; exact hk)
          have hle2 := Nat.le_trans (val_drop_le l j) HV4.out
          have REL := Lib.hid hst
          generalize l.getD j 0 = x at *
          generalize Big.val (l.drop (j + 1)) = y at *
          generalize hvv : Big.val (l.drop j) = vv at *
          have HVV := Lib.hid hvv
          clear hvv
          go_wp2
          go_round
          case rel => exact ⟨j, by go_num, by omega, by rw [HVV.out, REL.out]; go_num⟩
          case measure => simp [intOf]
end Go.Proofs.Ytppnmeobnilojaa

/- Small of a number above all int64s, and of any. -/
namespace Go.Proofs.Ytppnmeobnilojaa
set_option linter.unusedVariables false
set_option linter.unusedSimpArgs false
open Go.RowKit
set_option maxRecDepth 100000 in
set_option maxHeartbeats 4000000 in
theorem small_gt (v : Value) (z : Int) (w : World) (hv : BigR w v z) (hz : Sm z.natAbs) (hgt : 9223372036854775807 < z) :
    Calls Try.prog 87 #[v] w fun e w' => e = .returned (.tuple #[.int .i64 (smN z), .bool (smB z)]) ∧ Below w.heap.size w w' := by
  have FIN := Lib.hid (sm_no z (by omega))
  have HC := Lib.hid (cmpZ_gt z 9223372036854775807 hgt)
  have HV := Lib.hid hv
  have HZ := Lib.hid hz
  have HM := Lib.hid (Sm.int (-9223372036854775807 : Int).natAbs (by decide))
  obtain ⟨m, rfl, a, len, cap, l, rfl, h1, h2, h3⟩ := hv
  clear h1 h2 h3 hz hgt
  generalize decide (z < 0) = s at *
  have T := Lib.hid (((Below.refl _ w).alloc (Nat.le_refl _) (.cells #[.bool s, .slice a len cap] 125)) : Below w.heap.size w _)
  have BX := Lib.hid (Mem.Blk.new w 125 #[.bool s, .slice a len cap])
  go_enter Try.func87, Try.ntmps87
  go_wp2_with fail
  generalize (w.alloc (.cells #[.bool s, .slice a len cap] 125)) = v at *
  obtain ⟨c0, c1, -, -⟩ := BX.out.two
  refine wp_region_till (S := fun W => W.cell? ⟨w.heap.size, 0, none⟩ = some (.bool s) ∧ W.cell? ⟨w.heap.size, 1, none⟩ = some (.slice a len cap)) 9 (by kernel_rfl) ?_
  refine till_take (i := 0) (v := ?_) rfl (by kernel_rfl) (fun _ _ _ h => h) (Or.inl ⟨by rfl, ?_⟩) ⟨c0,c1⟩ ?_
  rotate_left
  · intro W hS
    try dsimp only at hS
    go_split_ands
    go_simp
    try with_reducible rfl
  try simp only [Act.put, List.getElem_toArray, List.getElem_cons_zero, List.getElem_cons_succ, List.setIfInBounds_toArray, List.set_cons_zero, List.set_cons_succ]
  refine till_one (i := 1) (by kernel_rfl) rfl (fun K' hK => ?_)
  go_simp
  go_at_call 86
  (with_reducible refine (bigof_any 9223372036854775807 _ (by decide) (by decide)).mono ?_)
  rintro e w1 ⟨⟨r, rfl, hr⟩, b1⟩
  have K1 : Hid (Below v.heap.size v w1) := ((Below.refl _ v).drew).trans b1
  have HR1 := Lib.hid hr
  clear b1 hr c0 c1
  obtain ⟨c0, c1, -, -⟩ := (BX.out.below K1.out).two
  refine hK _ _ ⟨c0, c1⟩ ?_
  clear hK K'
  try simp only [Act.put, List.getElem_toArray, List.getElem_cons_zero, List.getElem_cons_succ, List.setIfInBounds_toArray, List.set_cons_zero, List.set_cons_succ]
  refine till_one (i := 2) (by kernel_rfl) rfl (fun K' hK => ?_)
  go_simp
  go_at_call 112
  (with_reducible refine (bigcmp_any _ _ z 9223372036854775807 _ (HV.out.below (T.out.trans (K1.out.mono T.out.size))) HR1.out HZ.out HM.out).mono ?_)
  rintro e w2 ⟨rfl, b2⟩
  rw [HC.out]
  have K2 := Lib.hid (K1.out.trans (b2.mono K1.out.size))
  clear b2 c0 c1 K1 HR1
  obtain ⟨c0, c1, -, -⟩ := (BX.out.below K2.out).two
  refine hK _ _ ⟨c0, c1⟩ ?_
  clear hK K'
  try simp only [Act.put, List.getElem_toArray, List.getElem_cons_zero, List.getElem_cons_succ, List.setIfInBounds_toArray, List.set_cons_zero, List.set_cons_succ]
  refine till_take (i := 3) (v := ?_) rfl (by kernel_rfl) (fun _ _ _ h => h) (Or.inl ⟨by rfl, ?_⟩) ⟨c0,c1⟩ ?_
  rotate_left
  · intro W hS
    try dsimp only at hS
    go_split_ands
    go_simp
    try with_reducible rfl
  try simp only [Act.put, List.getElem_toArray, List.getElem_cons_zero, List.getElem_cons_succ, List.setIfInBounds_toArray, List.set_cons_zero, List.set_cons_succ]
  refine till_take (i := 4) (v := ?_) rfl (by kernel_rfl) (fun _ _ _ h => h) (Or.inl ⟨by rfl, ?_⟩) ⟨c0,c1⟩ ?_
  rotate_left
  · intro W hS
    try dsimp only at hS
    go_split_ands
    go_simp
    try with_reducible rfl
  try simp only [Act.put, List.getElem_toArray, List.getElem_cons_zero, List.getElem_cons_succ, List.setIfInBounds_toArray, List.set_cons_zero, List.set_cons_succ]
  refine till_take (i := 5) (v := undef) rfl (by kernel_rfl) (fun _ _ _ h => h) (Or.inr ⟨by rfl, rfl⟩) ⟨c0,c1⟩ ?_
  try simp only [Act.put, List.getElem_toArray, List.getElem_cons_zero, List.getElem_cons_succ, List.setIfInBounds_toArray, List.set_cons_zero, List.set_cons_succ]
  refine till_one (i := 6) (by kernel_rfl) rfl (fun K' hK => ?_)
  go_simp
  refine hK _ _ ⟨c0,c1⟩ ?_
  clear hK K'
  try simp only [Act.put, List.getElem_toArray, List.getElem_cons_zero, List.getElem_cons_succ, List.setIfInBounds_toArray, List.set_cons_zero, List.set_cons_succ]
  refine till_one (i := 7) (by kernel_rfl) rfl (fun K' hK => ?_)
  go_simp
  refine hK _ _ ⟨c0,c1⟩ ?_
  clear hK K'
  try simp only [Act.put, List.getElem_toArray, List.getElem_cons_zero, List.getElem_cons_succ, List.setIfInBounds_toArray, List.set_cons_zero, List.set_cons_succ]
  refine till_take (i := 8) (v := undef) rfl (by kernel_rfl) (fun _ _ _ h => h) (Or.inr ⟨by rfl, rfl⟩) ⟨c0,c1⟩ ?_
  try simp only [Act.put, List.getElem_toArray, List.getElem_cons_zero, List.getElem_cons_succ, List.setIfInBounds_toArray, List.set_cons_zero, List.set_cons_succ]
  refine till_last (by kernel_rfl) rfl (by kernel_rfl) (fun K' hK => ?_)
  go_simp
  refine hK _ _ ?_
  clear hK K'
  try simp only [Act.put, List.getElem_toArray, List.getElem_cons_zero, List.getElem_cons_succ, List.setIfInBounds_toArray, List.set_cons_zero, List.set_cons_succ]
  refine wpAny_done (by kernel_rfl) ?_ _
  have K := Lib.hid (T.out.trans (K2.out.mono T.out.size))
  clear c0 c1 K2 BX T
  go_wp2_with fail
  go_ret2
  exact ⟨FIN.out, K.out⟩
theorem small_any (v : Value) (z : Int) (w : World) (hv : BigR w v z) (hz : Sm z.natAbs) :
    Calls Try.prog 87 #[v] w fun e w' => e = .returned (.tuple #[.int .i64 (smN z), .bool (smB z)]) ∧ Below w.heap.size w w' := by
  by_cases h : 9223372036854775807 < z
  · exact small_gt v z w hv hz h
  · exact small_le v z w hv hz (by omega)
end Go.Proofs.Ytppnmeobnilojaa

/- The contract of ref01.Times; condition: numbers of at most 900 digits. -/
namespace Go.Proofs.Ytppnmeobnilojaa
set_option linter.unusedVariables false
set_option linter.unusedSimpArgs false
open Go.RowKit
theorem sg_mul (z z' : Int) : sg (decide (z < 0) != decide (z' < 0)) (z.natAbs * z'.natAbs) = z * z' := by
  have h1 := Int.natAbs_mul z z'
  rw [← h1]
  unfold sg
  by_cases a : z < 0 <;> by_cases b : z' < 0
  · have := Int.mul_pos_of_neg_of_neg a b
    simp [a, b]; omega
  · have : z * z' ≤ 0 := Int.mul_nonpos_of_nonpos_of_nonneg (by omega) (by omega)
    simp [a, b]; omega
  · have : z * z' ≤ 0 := Int.mul_nonpos_of_nonneg_of_nonpos (by omega) (by omega)
    simp [a, b]; omega
  · have := Int.mul_nonneg (show 0 ≤ z by omega) (show 0 ≤ z' by omega)
    simp [a, b]; omega
theorem dv_get (q : List Nat) (j : Nat) (h : j < q.length) : (dv q).toArray[j]? = some (.int .u64 ((q.getD j 0 : Nat) : Int)) := by
  simp [dv, List.getD_eq_getElem?_getD, List.getElem?_eq_getElem h]
set_option maxRecDepth 100000 in
set_option maxHeartbeats 8000000 in
theorem times_any (u v : Value) (z z' : Int) (w : World) (hu : BigR w u z) (hv : BigR w v z') (bn : Md z.natAbs) (bn' : Md z'.natAbs) :
    Calls Try.prog 90 #[u, v] w fun e w' => (∃ r, e = .returned r ∧ BigR w' r (z * z')) ∧ Below w.heap.size w w' := by
  obtain ⟨m, rfl, a, len, cap, l, rfl, h1, h2, h3⟩ := hu
  obtain ⟨m', rfl, a', len', cap', l', rfl, h1', h2', h3'⟩ := hv
  have hl : len ≤ 900 := MagR.small h1 h2 (by rw [h3]; exact bn.lt)
  have hl' : len' ≤ 900 := MagR.small h1' h2' (by rw [h3']; exact bn'.lt)
  have HL := Lib.hid h1
  have HN := Lib.hid h2
  have HX := Lib.hid h3
  have HL' := Lib.hid h1'
  have HN' := Lib.hid h2'
  have HX' := Lib.hid h3'
  have hc := h1.2.1
  have hc' := h1'.2.1
  have HSG := Lib.hid (sg_mul z z')
  rw [← h3, ← h3'] at HSG
  clear h1 h2 h3 h1' h2' h3' bn bn' HX HX'
  generalize z * z' = ZZ at *
  generalize decide (z < 0) = s at *
  generalize decide (z' < 0) = s' at *
  have hmk : ∀ w, (Instr.makeSlice 123 (.int .i64 ((len : Int) + (len' : Int) + 1)) (.int .i64 ((len : Int) + (len' : Int) + 1))).run Try.prog w = .ok (.slice (some ⟨w.heap.size, 0, none⟩) (len + len' + 1) (len + len' + 1)) (w.alloc (.cells (dv (List.replicate (len + len' + 1) 0)).toArray 141)) := by
    intro w
    have e : (len : Int) + (len' : Int) + 1 = ((len + len' + 1 : Nat) : Int) := by omega
    rw [← mk_eq, e]; exact run_make_row' 123 141 (.int .u64 0) 8 Try.underlying123 infoU64 rfl _ _ (len + len' + 1) (by omega) (by omega) w
  have HS := Lib.hid ((((Sep.nil w).new 125 #[.bool s, .slice a len cap]).new 125 #[.bool s', .slice a' len' cap']).new 125 #[.bool false, .slice none 0 0])
  have e1 : (w.alloc (.cells #[.bool s, .slice a len cap] 125)).heap.size = w.heap.size + 1 := by simp
  have e2 : ((w.alloc (.cells #[.bool s, .slice a len cap] 125)).alloc (.cells #[.bool s', .slice a' len' cap'] 125)).heap.size = w.heap.size + 1 + 1 := by simp
  rw [e1, e2] at HS
  have T := Lib.hid ((((Below.refl _ w).alloc (Nat.le_refl _) (.cells #[.bool s, .slice a len cap] 125)).alloc (by simp) (.cells #[.bool s', .slice a' len' cap'] 125)).alloc (by simp; omega) (.cells #[.bool false, .slice none 0 0] 125))
  clear e1 e2
  go_enter Try.func90, Try.ntmps90
  go_upto_region 1 with (fail)
  generalize ((w.alloc (.cells #[.bool s, .slice a len cap] 125)).alloc (.cells #[.bool s', .slice a' len' cap'] 125)).alloc (.cells #[.bool false, .slice none 0 0] 125) = v at *
  obtain ⟨a0, a1, -, -⟩ := (HS.out.blk 2 rfl).two
  obtain ⟨b0, b1, -, -⟩ := (HS.out.blk 1 rfl).two
  go_wp2_with fail
  clear a0 a1 b0 b1 hmk
  have HBU := Lib.hid (Mem.Blk.new v 141 (dv (List.replicate (len + len' + 1) 0)).toArray)
  have HV0 : Hid (Below v.heap.size v (v.alloc (.cells (dv (List.replicate (len + len' + 1) 0)).toArray 141))) := (Below.refl _ _).alloc (Nat.le_refl _) _
  have hzero := Big.MulOut.zero l l'
  rw [HL.out.1, HL'.out.1] at hzero
  have HZ := Lib.hid hzero
  clear hzero
  generalize v.alloc (.cells (dv (List.replicate (len + len' + 1) 0)).toArray 141) = v1 at *
  go_loopw [6] (fun i wr => ∃ (k : Nat) (q : List Nat), i = .int .i64 (k : Nat) ∧ k ≤ len ∧ Hid (Big.MulOut l l' q k) ∧ Hid (Mem.Blk wr v.heap.size 141 (dv q).toArray) ∧ Hid (Below v.heap.size v wr)) (fun i _ => len - (intOf i).toNat)
  case atStart => exact ⟨0, _, rfl, Nat.zero_le _, HZ.out, HBU.out, HV0.out⟩
  case round =>
    clear HZ HBU HV0
    obtain ⟨i, q, rfl, hi, HM, HQ, HB⟩ := hrel
    obtain ⟨a0, a1, -, -⟩ := ((HS.out.blk 2 rfl).below HB.out).two
    obtain ⟨b0, b1, -, -⟩ := ((HS.out.blk 1 rfl).below HB.out).two
    by_cases hlt : i < len
    · have i0 : (0 : Int) ≤ (i : Int) := by omega
      have i1 : (i : Int) < (len : Int) := by omega
      have HM0 := Lib.hid HM.out.start
      clear HM
      obtain ⟨wo, rfl⟩ : ∃ wo : World, wo = wr := ⟨_, rfl⟩
      go_wp2_with fail
      clear a0 a1 b0 b1
      go_loopw [7, 8] (fun c kk wr => ∃ (j cN : Nat) (q : List Nat), c = .int .u64 (cN : Nat) ∧ kk = .int .i64 (j : Nat) ∧ j ≤ len' ∧ Hid (Big.MulIn l l' q i j cN) ∧ Hid (Mem.Blk wr v.heap.size 141 (dv q).toArray) ∧ Hid (Below v.heap.size v wr)) (fun _ kk _ => len' - (intOf kk).toNat)
      case atStart => exact ⟨0, 0, q, rfl, rfl, Nat.zero_le _, HM0.out, HQ.out, HB.out⟩
      case round =>
        clear HM0 HQ HB
        obtain ⟨j, cN, q, rfl, rfl, hj, HM, HQ, HB⟩ := hrel
        obtain ⟨a0, a1, -, -⟩ := ((HS.out.blk 2 rfl).below HB.out).two
        obtain ⟨b0, b1, -, -⟩ := ((HS.out.blk 1 rfl).below HB.out).two
        have j0 : (0 : Int) ≤ (j : Int) := by omega
        have hcar := HM.out.car
        have hql : q.length = len + len' + 1 := by rw [HM.out.len, HL.out.1, HL'.out.1]
        have hij0 : (0 : Int) ≤ (i : Int) + (j : Int) := by omega
        have hij1 : (i : Int) + (j : Int) < ((len + len' + 1 : Nat) : Int) := by omega
        have hijn : ((i : Int) + (j : Int)).toNat = i + j := by omega
        have hqs := HQ.out.lt
        by_cases hjl : j < len'
        · have j1 : (j : Int) < (len' : Int) := by omega
          have hz9 : wr.cell? ⟨v.heap.size, i + j, none⟩ = some (.int .u64 ((q.getD (i + j) 0 : Nat) : Int)) := (HQ.out.cell (i + j)).trans (dv_get q (i + j) (by omega))
          obtain ⟨b, o, rfl, -, hx9⟩ := (HL.out.below (T.out.trans (HB.out.mono T.out.size))).at i hlt
          obtain ⟨b', o', rfl, -, hy9⟩ := (HL'.out.below (T.out.trans (HB.out.mono T.out.size))).at j hjl
          have hbd := Big.mul_bd (HN.out.1.getD i) (HN'.out.1.getD j) (HM.out.dig.getD (i + j)) hcar
          have hst := HM.out.step HN.out.1 HN'.out.1 (by rw [HL.out.1]; exact hlt) (by rw [HL'.out.1]; exact hjl)
          have HST := Lib.hid hst
          clear hst HM
          generalize l.getD i 0 = x at *
          generalize l'.getD j 0 = y at *
          generalize q.getD (i + j) 0 = z9 at *
          have hq1 : IntKind.i64.wrap ((i : Int) + (j : Int)) = (i : Int) + (j : Int) := IntWalk.i64_in _ (by omega)
          have hxy : (x : Int) * (y : Int) = ((x * y : Nat) : Int) := by simp
          have hm1 : IntKind.u64.wrap ((x : Int) * (y : Int)) = (x : Int) * (y : Int) := IntWalk.u64_in _ (by rw [hxy]; omega)
          have hm2 : IntKind.u64.wrap ((z9 : Int) + (x : Int) * (y : Int)) = (z9 : Int) + (x : Int) * (y : Int) := IntWalk.u64_in _ (by rw [hxy]; omega)
          have hm3 : IntKind.u64.wrap ((z9 : Int) + (x : Int) * (y : Int) + (cN : Int)) = (z9 : Int) + (x : Int) * (y : Int) + (cN : Int) := IntWalk.u64_in _ (by rw [hxy]; omega)
          have HXY := Lib.hid hxy
          have HBD := Lib.hid hbd
          clear hxy hbd
          go_wp2_with fail
          go_quiet (fail)
          have hV : (z9 : Int) + (x : Int) * (y : Int) + (cN : Int) = ((z9 + x * y + cN : Nat) : Int) := by rw [HXY.out]; omega
          rw [hV]
          have hVb : z9 + x * y + cN < 4294967296 := HBD.out.2
          clear hm1 hm2 hm3 hV HXY HBD hq1
          generalize z9 + x * y + cN = V at *
          have hV0 : (0 : Int) ≤ (V : Int) := by omega
          have hV1 : (V : Int) < 4294967296 := by omega
          have hQd : Mem.Blk (wr.drewN nq) v.heap.size 141 (dv q).toArray := (below_drewN (Below.refl wr.heap.size wr) nq).block v.heap.size hqs |>.trans HQ.out
          have HQd := Lib.hid hQd
          have HBd := Lib.hid (below_drewN HB.out nq)
          have hqs' : v.heap.size < (wr.drewN nq).heap.size := hQd.lt
          have hfz : (wr.drewN nq).frozen? ⟨v.heap.size, i + j, none⟩ = false := hQd.frozen (i + j)
          have hcl : (wr.drewN nq).cell? ⟨v.heap.size, i + j, none⟩ = some (.int .u64 (z9 : Int)) := (hQd.cell (i + j)).trans ((HQ.out.cell (i + j)).symm.trans hz9)
          clear a0 a1 b0 b1 hQd HB HQ hz9 hx9 hy9
          generalize wr.drewN nq = wd at *
          have HQ2 := Lib.hid (HQd.out.set_ (i + j) (.int .u64 ((V : Int) % 65536)))
          rw [dv_set q (i + j) (V % 65536) _ (by omega)] at HQ2
          have HB2 : Hid (Below v.heap.size v (wd.setCell ⟨v.heap.size, i + j, none⟩ (.int .u64 ((V : Int) % 65536)))) := HBd.out.setCell (Nat.le_refl _) _
          go_wp2_with fail
          go_roundw
          case rel => exact ⟨j + 1, V / 65536, _, by go_num, by go_num, by omega, HST.out, HQ2.out, HB2.out⟩
          case measure => simp [intOf]; omega
        · have j1 : ¬ (j : Int) < (len' : Int) := by omega
          obtain rfl : j = len' := by omega
          have hM2 : Big.MulIn l l' q i l'.length cN := by rw [HL'.out.1]; exact HM.out
          obtain ⟨hq0, hdone⟩ := hM2.done (by rw [HL.out.1]; exact hlt)
          rw [HL'.out.1] at hq0 hdone
          have HDN := Lib.hid hdone
          have HQ0 := Lib.hid hq0
          clear hM2 hq0 hdone HM hjl
          have hc1 : wr.cell? ⟨v.heap.size, i + j, none⟩ = some (.int .u64 ((q.getD (i + j) 0 : Nat) : Int)) := (HQ.out.cell (i + j)).trans (dv_get q (i + j) (by omega))
          have hfz : wr.frozen? ⟨v.heap.size, i + j, none⟩ = false := HQ.out.frozen (i + j)
          rw [HQ0.out] at hc1 HDN
          have hq1 : IntKind.i64.wrap ((i : Int) + (j : Int)) = (i : Int) + (j : Int) := IntWalk.i64_in _ (by omega)
          go_wp2_with fail
          have hij2 : (i : Int) + (j : Int) < (len : Int) + (j : Int) + 1 := by omega
          clear a0 a1 b0
          refine wp_region_till (S := fun W => W.cell? ⟨w.heap.size + 1, 1, none⟩ = some (.slice a' j cap') ∧ W.cell? ⟨v.heap.size, i + j, none⟩ = some (.int .u64 ((0 : Nat) : Int)) ∧ W.frozen? ⟨v.heap.size, i + j, none⟩ = false) 17 (by kernel_rfl) ?_
          refine till_take (i := 0) (v := ?_) rfl (by kernel_rfl) (fun _ _ _ h => h) (Or.inl ⟨by rfl, ?_⟩) ⟨b1,hc1,hfz⟩ ?_
          rotate_left
          · intro W hS
            try dsimp only at hS
            go_split_ands
            go_simp
            try with_reducible rfl
          try simp only [Act.put, List.getElem_toArray, List.getElem_cons_zero, List.getElem_cons_succ, List.setIfInBounds_toArray, List.set_cons_zero, List.set_cons_succ]
          refine till_take (i := 1) (v := ?_) rfl (by kernel_rfl) (fun _ _ _ h => h) (Or.inl ⟨by rfl, ?_⟩) ⟨b1,hc1,hfz⟩ ?_
          rotate_left
          · intro W hS
            try dsimp only at hS
            go_split_ands
            go_simp
            try with_reducible rfl
          try simp only [Act.put, List.getElem_toArray, List.getElem_cons_zero, List.getElem_cons_succ, List.setIfInBounds_toArray, List.set_cons_zero, List.set_cons_succ]
          refine till_take (i := 2) (v := ?_) rfl (by kernel_rfl) (fun _ _ _ h => h) (Or.inl ⟨by rfl, ?_⟩) ⟨b1,hc1,hfz⟩ ?_
          rotate_left
          · intro W hS
            try dsimp only at hS
            go_split_ands
            go_simp
            try with_reducible rfl
          try simp only [Act.put, List.getElem_toArray, List.getElem_cons_zero, List.getElem_cons_succ, List.setIfInBounds_toArray, List.set_cons_zero, List.set_cons_succ]
          refine till_take (i := 3) (v := ?_) rfl (by kernel_rfl) (fun _ _ _ h => h) (Or.inl ⟨by rfl, ?_⟩) ⟨b1,hc1,hfz⟩ ?_
          rotate_left
          · intro W hS
            try dsimp only at hS
            go_split_ands
            go_simp
            try with_reducible rfl
          try simp only [Act.put, List.getElem_toArray, List.getElem_cons_zero, List.getElem_cons_succ, List.setIfInBounds_toArray, List.set_cons_zero, List.set_cons_succ]
          refine till_take (i := 4) (v := ?_) rfl (by kernel_rfl) (fun _ _ _ h => h) (Or.inl ⟨by rfl, ?_⟩) ⟨b1,hc1,hfz⟩ ?_
          rotate_left
          · intro W hS
            try dsimp only at hS
            go_split_ands
            go_simp
            try with_reducible rfl
          try simp only [Act.put, List.getElem_toArray, List.getElem_cons_zero, List.getElem_cons_succ, List.setIfInBounds_toArray, List.set_cons_zero, List.set_cons_succ]
          refine till_take (i := 5) (v := ?_) rfl (by kernel_rfl) (fun _ _ _ h => h) (Or.inl ⟨by rfl, ?_⟩) ⟨b1,hc1,hfz⟩ ?_
          rotate_left
          · intro W hS
            try dsimp only at hS
            go_split_ands
            go_simp
            try with_reducible rfl
          try simp only [Act.put, List.getElem_toArray, List.getElem_cons_zero, List.getElem_cons_succ, List.setIfInBounds_toArray, List.set_cons_zero, List.set_cons_succ]
          refine till_take (i := 6) (v := ?_) rfl (by kernel_rfl) (fun _ _ _ h => h) (Or.inl ⟨by rfl, ?_⟩) ⟨b1,hc1,hfz⟩ ?_
          rotate_left
          · intro W hS
            try dsimp only at hS
            go_split_ands
            go_simp
            try with_reducible rfl
          try simp only [Act.put, List.getElem_toArray, List.getElem_cons_zero, List.getElem_cons_succ, List.setIfInBounds_toArray, List.set_cons_zero, List.set_cons_succ]
          refine till_take (i := 7) (v := ?_) rfl (by kernel_rfl) (fun _ _ _ h => h) (Or.inl ⟨by rfl, ?_⟩) ⟨b1,hc1,hfz⟩ ?_
          rotate_left
          · intro W hS
            try dsimp only at hS
            go_split_ands
            go_simp
            try with_reducible rfl
          try simp only [Act.put, List.getElem_toArray, List.getElem_cons_zero, List.getElem_cons_succ, List.setIfInBounds_toArray, List.set_cons_zero, List.set_cons_succ]
          refine till_take (i := 8) (v := ?_) rfl (by kernel_rfl) (fun _ _ _ h => h) (Or.inl ⟨by rfl, ?_⟩) ⟨b1,hc1,hfz⟩ ?_
          rotate_left
          · intro W hS
            try dsimp only at hS
            go_split_ands
            go_simp
            try with_reducible rfl
          try simp only [Act.put, List.getElem_toArray, List.getElem_cons_zero, List.getElem_cons_succ, List.setIfInBounds_toArray, List.set_cons_zero, List.set_cons_succ]
          refine till_take (i := 9) (v := ?_) rfl (by kernel_rfl) (fun _ _ _ h => h) (Or.inl ⟨by rfl, ?_⟩) ⟨b1,hc1,hfz⟩ ?_
          rotate_left
          · intro W hS
            try dsimp only at hS
            go_split_ands
            go_simp
            try with_reducible rfl
          try simp only [Act.put, List.getElem_toArray, List.getElem_cons_zero, List.getElem_cons_succ, List.setIfInBounds_toArray, List.set_cons_zero, List.set_cons_succ]
          refine till_take (i := 10) (v := ?_) rfl (by kernel_rfl) (fun _ _ _ h => h) (Or.inl ⟨by rfl, ?_⟩) ⟨b1,hc1,hfz⟩ ?_
          rotate_left
          · intro W hS
            try dsimp only at hS
            go_split_ands
            go_simp
            try with_reducible rfl
          try simp only [Act.put, List.getElem_toArray, List.getElem_cons_zero, List.getElem_cons_succ, List.setIfInBounds_toArray, List.set_cons_zero, List.set_cons_succ]
          refine till_take (i := 11) (v := ?_) rfl (by kernel_rfl) (fun _ _ _ h => h) (Or.inl ⟨by rfl, ?_⟩) ⟨b1,hc1,hfz⟩ ?_
          rotate_left
          · intro W hS
            try dsimp only at hS
            go_split_ands
            go_simp
            try with_reducible rfl
          try simp only [Act.put, List.getElem_toArray, List.getElem_cons_zero, List.getElem_cons_succ, List.setIfInBounds_toArray, List.set_cons_zero, List.set_cons_succ]
          refine till_take (i := 12) (v := ?_) rfl (by kernel_rfl) (fun _ _ _ h => h) (Or.inl ⟨by rfl, ?_⟩) ⟨b1,hc1,hfz⟩ ?_
          rotate_left
          · intro W hS
            try dsimp only at hS
            go_split_ands
            go_simp
            try with_reducible rfl
          try simp only [Act.put, List.getElem_toArray, List.getElem_cons_zero, List.getElem_cons_succ, List.setIfInBounds_toArray, List.set_cons_zero, List.set_cons_succ]
          refine till_take (i := 13) (v := ?_) rfl (by kernel_rfl) (fun _ _ _ h => h) (Or.inl ⟨by rfl, ?_⟩) ⟨b1,hc1,hfz⟩ ?_
          rotate_left
          · intro W hS
            try dsimp only at hS
            go_split_ands
            go_simp
            try with_reducible rfl
          try simp only [Act.put, List.getElem_toArray, List.getElem_cons_zero, List.getElem_cons_succ, List.setIfInBounds_toArray, List.set_cons_zero, List.set_cons_succ]
          refine till_take (i := 14) (v := ?_) rfl (by kernel_rfl) (fun _ _ _ h => h) (Or.inl ⟨by rfl, ?_⟩) ⟨b1,hc1,hfz⟩ ?_
          rotate_left
          · intro W hS
            try dsimp only at hS
            go_split_ands
            go_simp
            try with_reducible rfl
          try simp only [Act.put, List.getElem_toArray, List.getElem_cons_zero, List.getElem_cons_succ, List.setIfInBounds_toArray, List.set_cons_zero, List.set_cons_succ]
          refine till_take (i := 15) (v := ?_) rfl (by kernel_rfl) (fun _ _ _ h => h) (Or.inl ⟨by rfl, ?_⟩) ⟨b1,hc1,hfz⟩ ?_
          rotate_left
          · intro W hS
            try dsimp only at hS
            go_split_ands
            go_simp
            try with_reducible rfl
          try simp only [Act.put, List.getElem_toArray, List.getElem_cons_zero, List.getElem_cons_succ, List.setIfInBounds_toArray, List.set_cons_zero, List.set_cons_succ]
          refine till_take (i := 16) (v := ?_) rfl (by kernel_rfl) (fun _ _ _ h => h) (Or.inl ⟨by rfl, ?_⟩) ⟨b1,hc1,hfz⟩ ?_
          rotate_left
          · intro W hS
            try dsimp only at hS
            go_split_ands
            go_simp
            try with_reducible rfl
          try simp only [Act.put, List.getElem_toArray, List.getElem_cons_zero, List.getElem_cons_succ, List.setIfInBounds_toArray, List.set_cons_zero, List.set_cons_succ]
          refine till_last (by kernel_rfl) rfl (by kernel_rfl) (fun K' hK => ?_)
          go_simp
          have HQ3 := Lib.hid (HQ.out.set_ (i + j) (.int .u64 (cN : Int)))
          rw [dv_set q (i + j) (0 + cN) _ (by omega)] at HQ3
          have HB3 : Hid (Below v.heap.size v (wr.setCell ⟨v.heap.size, i + j, none⟩ (.int .u64 (cN : Int)))) := HB.out.setCell (Nat.le_refl _) _
          refine hK _ _ ?_
          clear hK K' b1 hc1 hfz
          refine wpAny_done (by kernel_rfl) ?_ _
          go_wp2_with fail
          go_roundw
          case rel => exact ⟨i + 1, _, by go_num, by omega, HDN.out, HQ3.out.drew, HB3.out.drew⟩
          case measure => simp [intOf]; omega
    · have i1 : ¬ (i : Int) < (len : Int) := by omega
      obtain rfl : i = len := by omega
      have hM2 : Big.MulOut l l' q l.length := by rw [HL.out.1]; exact HM.out
      have hall := hM2.all
      have hql : q.length = i + len' + 1 := by rw [HM.out.len, HL.out.1, HL'.out.1]
      have hqn : Nums wr (some ⟨v.heap.size, 0, none⟩) (i + len' + 1) (i + len' + 1) q := by
        refine ⟨hql, Nat.le_refl _, by omega, fun hp => ⟨v.heap.size, 0, rfl, HQ.out.lt, fun k x hx => ?_⟩⟩
        rw [HQ.out.cell, Nat.zero_add]; simp [dv, hx]
      have hmt := hqn.take (Big.trim q).length (by rw [← hql]; exact trim_le q)
      rw [← trim_len] at hmt
      have FQ := Lib.hid (MagR.trim hmt HM.out.dig)
      rw [hall] at FQ
      have HQN := Lib.hid hqn
      clear hM2 hall hqn hmt HM hlt
      go_wp2_with fail
      clear a1 b1
      refine wp_region_till (S := fun W => W.cell? ⟨w.heap.size, 0, none⟩ = some (.bool s) ∧ W.cell? ⟨w.heap.size + 1, 0, none⟩ = some (.bool s')) 8 (by kernel_rfl) ?_
      refine till_take (i := 0) (v := ?_) rfl (by kernel_rfl) (fun _ _ _ h => h) (Or.inl ⟨by rfl, ?_⟩) ⟨a0,b0⟩ ?_
      rotate_left
      · intro W hS
        try dsimp only at hS
        go_split_ands
        go_simp
        try with_reducible rfl
      try simp only [Act.put, List.getElem_toArray, List.getElem_cons_zero, List.getElem_cons_succ, List.setIfInBounds_toArray, List.set_cons_zero, List.set_cons_succ]
      refine till_take (i := 1) (v := ?_) rfl (by kernel_rfl) (fun _ _ _ h => h) (Or.inl ⟨by rfl, ?_⟩) ⟨a0,b0⟩ ?_
      rotate_left
      · intro W hS
        try dsimp only at hS
        go_split_ands
        go_simp
        try with_reducible rfl
      try simp only [Act.put, List.getElem_toArray, List.getElem_cons_zero, List.getElem_cons_succ, List.setIfInBounds_toArray, List.set_cons_zero, List.set_cons_succ]
      refine till_take (i := 2) (v := ?_) rfl (by kernel_rfl) (fun _ _ _ h => h) (Or.inl ⟨by rfl, ?_⟩) ⟨a0,b0⟩ ?_
      rotate_left
      · intro W hS
        try dsimp only at hS
        go_split_ands
        go_simp
        try with_reducible rfl
      try simp only [Act.put, List.getElem_toArray, List.getElem_cons_zero, List.getElem_cons_succ, List.setIfInBounds_toArray, List.set_cons_zero, List.set_cons_succ]
      refine till_take (i := 3) (v := ?_) rfl (by kernel_rfl) (fun _ _ _ h => h) (Or.inl ⟨by rfl, ?_⟩) ⟨a0,b0⟩ ?_
      rotate_left
      · intro W hS
        try dsimp only at hS
        go_split_ands
        go_simp
        try with_reducible rfl
      try simp only [Act.put, List.getElem_toArray, List.getElem_cons_zero, List.getElem_cons_succ, List.setIfInBounds_toArray, List.set_cons_zero, List.set_cons_succ]
      refine till_take (i := 4) (v := ?_) rfl (by kernel_rfl) (fun _ _ _ h => h) (Or.inl ⟨by rfl, ?_⟩) ⟨a0,b0⟩ ?_
      rotate_left
      · intro W hS
        try dsimp only at hS
        go_split_ands
        go_simp
        try with_reducible rfl
      try simp only [Act.put, List.getElem_toArray, List.getElem_cons_zero, List.getElem_cons_succ, List.setIfInBounds_toArray, List.set_cons_zero, List.set_cons_succ]
      refine till_take (i := 5) (v := ?_) rfl (by kernel_rfl) (fun _ _ _ h => h) (Or.inl ⟨by rfl, ?_⟩) ⟨a0,b0⟩ ?_
      rotate_left
      · intro W hS
        try dsimp only at hS
        go_split_ands
        go_simp
        try with_reducible rfl
      try simp only [Act.put, List.getElem_toArray, List.getElem_cons_zero, List.getElem_cons_succ, List.setIfInBounds_toArray, List.set_cons_zero, List.set_cons_succ]
      refine till_one (i := 6) (by kernel_rfl) rfl (fun K' hK => ?_)
      go_simp
      go_at_call 111
      (with_reducible refine (trim_any _ _ _ q _ (HQN.out.below (Below.refl _ _).drew)).mono ?_)
      rintro e w' ⟨rfl, rfl⟩
      refine hK _ _ ⟨a0, b0⟩ ?_
      clear hK K'
      try simp only [Act.put, List.getElem_toArray, List.getElem_cons_zero, List.getElem_cons_succ, List.setIfInBounds_toArray, List.set_cons_zero, List.set_cons_succ]
      refine till_one (i := 7) (by kernel_rfl) rfl (fun K' hK => ?_)
      go_simp
      go_at_call 113
      (with_reducible refine (sign_any _ _ _ _ (FQ.out.below (Below.refl _ _).drew)).mono ?_)
      rintro e w2 ⟨⟨r2, rfl, hr2⟩, b2⟩
      rw [show sg (!s == s') (Big.val l * Big.val l') = ZZ from HSG.out] at hr2
      have HB2 := Lib.hid (HB.out.drew.trans (b2.mono HB.out.drew.size))
      have HS2 := Lib.hid (HS.out.below HB2.out)
      have HR2 := Lib.hid hr2
      obtain ⟨m2, rfl, a2, len2, cap2, l2, rfl, -, -, -⟩ := hr2
      clear b2 a0 b0 HB HS HQN FQ HQ
      obtain ⟨a0, -, -, -⟩ := (HS2.out.blk 2 rfl).two
      obtain ⟨b0, -, -, -⟩ := (HS2.out.blk 1 rfl).two
      refine hK _ _ ⟨a0, b0⟩ ?_
      clear hK K'
      try simp only [Act.put, List.getElem_toArray, List.getElem_cons_zero, List.getElem_cons_succ, List.setIfInBounds_toArray, List.set_cons_zero, List.set_cons_succ]
      refine till_last (by kernel_rfl) rfl (by kernel_rfl) (fun K' hK => ?_)
      have hB0 := HS2.out.blk 0 rfl
      obtain ⟨r0, r1, r3, r4⟩ := hB0.two
      have hrl := hB0.lt
      have HRP := Lib.hid (HR2.out.put2 (x := .bool (decide (ZZ < 0))) (y := .slice a2 len2 cap2) (HS2.out.blk 0 rfl))
      have hBN := (hB0.set_ 0 (.bool (decide (ZZ < 0)))).set_ 1 (.slice a2 len2 cap2)
      have HBN := Lib.hid hBN
      have hbw := T.out.trans (HB2.out.mono T.out.size)
      have HBW := Lib.hid ((hbw.setCell (p := ⟨w.heap.size + 1 + 1, 0, none⟩) (by show w.heap.size ≤ w.heap.size + 1 + 1; omega) (.bool (decide (ZZ < 0)))).setCell (p := ⟨w.heap.size + 1 + 1, 1, none⟩) (by show w.heap.size ≤ w.heap.size + 1 + 1; omega) (.slice a2 len2 cap2))
      clear hbw
      clear hB0 hBN a0 b0
      go_simp
      refine hK _ _ ?_
      clear hK K'
      refine wpAny_done (by kernel_rfl) ?_ _
      go_wp2_with fail
      generalize (w2.setCell ⟨w.heap.size + 1 + 1, 0, none⟩ (.bool (decide (ZZ < 0)))).setCell ⟨w.heap.size + 1 + 1, 1, none⟩ (.slice a2 len2 cap2) = W9 at *
      obtain ⟨g5, g6, -, -⟩ := (show Mem.Blk W9 (w.heap.size + 1 + 1) 125 #[.bool (decide (ZZ < 0)), .slice a2 len2 cap2] from HBN.out).two
      exact bodyPost_ret (v := .agg #[.bool (decide (ZZ < 0)), .slice a2 len2 cap2]) (by simp [results, Try.results90, go_sem, g5, g6]) rfl ⟨⟨_, rfl, HRP.out⟩, HBW.out⟩
end Go.Proofs.Ytppnmeobnilojaa

/- The contract of ref01.Over, rounded down; condition: numbers of at most 900 digits, the second not nought. -/
namespace Go.Proofs.Ytppnmeobnilojaa
set_option linter.unusedVariables false
set_option linter.unusedSimpArgs false
open Go.RowKit
theorem Md.sm {n : Nat} (h : Md n) : Sm n := Sm.of (Nat.lt_of_lt_of_le h.lt (Big.pw_mono (by omega)))
theorem sg_over (z z' : Int) (h : z' ≠ 0) : sg (decide (z < 0) != decide (z' < 0)) (if (decide (z < 0) != decide (z' < 0)) = true ∧ 0 < z.natAbs % z'.natAbs then z.natAbs / z'.natAbs + 1 else z.natAbs / z'.natAbs) = z.fdiv z' := by
  rw [fdiv_abs z z' h]
  unfold sg
  by_cases a : decide (z < 0) = decide (z' < 0)
  · have : (decide (z < 0) != decide (z' < 0)) = false := by rw [a]; simp
    rw [this, if_pos a]; simp
  · have : (decide (z < 0) != decide (z' < 0)) = true := by simpa [bne] using a
    rw [this, if_neg a]
    by_cases b : 0 < z.natAbs % z'.natAbs
    · rw [if_pos rfl, if_pos ⟨rfl, b⟩, if_pos b]; omega
    · rw [if_pos rfl, if_neg (fun h => b h.2), if_neg b]
theorem one_mag (w : World) : MagR (w.alloc (.cells #[.int .u64 1] 141)) (.slice (some ⟨w.heap.size, 0, none⟩) 1 1) 1 := by
  refine ⟨_, _, _, [1], rfl, ⟨rfl, Nat.le_refl _, by decide, fun _ => ⟨w.heap.size, 0, rfl, by simp, fun j y hy => ?_⟩⟩, ⟨by intro d hd; simp at hd; omega, by intro d hd; simp at hd; omega⟩, rfl⟩
  have := (Mem.Blk.new w 141 #[.int .u64 1]).cell (0 + j)
  rw [this, Nat.zero_add]
  match j, hy with
  | 0, hy => simp at hy; subst hy; rfl
  | k + 1, hy => simp at hy
set_option maxRecDepth 100000 in
set_option maxHeartbeats 8000000 in
theorem over1_any (u v : Value) (z z' : Int) (w : World) (hu : BigR w u z) (hv : BigR w v z') (h0 : z' ≠ 0) (bn : Md z.natAbs) (bn' : Md z'.natAbs) :
    Calls Try.prog 117 #[u, v, .int .i64 1] w fun e w' => (∃ r, e = .returned r ∧ BigR w' r (z.fdiv z')) ∧ Below w.heap.size w w' := by
  obtain ⟨m, rfl, hm⟩ := hu
  obtain ⟨m', rfl, hm'⟩ := hv
  have HU := Lib.hid hm
  have HV := Lib.hid hm'
  obtain ⟨a, len, cap, l, rfl, -, -, -⟩ := hm
  obtain ⟨a', len', cap', l', rfl, -, -, -⟩ := hm'
  have HSG := Lib.hid (sg_over z z' h0)
  have HPOS : Hid (0 < z'.natAbs) := by show _ < _; omega
  have HM := Lib.hid bn
  have HM' := Lib.hid bn'
  clear h0 bn bn'
  generalize z.fdiv z' = ZZ at *
  generalize decide (z < 0) = s at *
  generalize decide (z' < 0) = s' at *
  generalize z.natAbs = A at *
  generalize z'.natAbs = B at *
  have HS := Lib.hid ((((Sep.nil w).new 125 #[.bool s, .slice a len cap]).new 125 #[.bool s', .slice a' len' cap']).new 125 #[.bool false, .slice none 0 0])
  have e1 : (w.alloc (.cells #[.bool s, .slice a len cap] 125)).heap.size = w.heap.size + 1 := by simp
  have e2 : ((w.alloc (.cells #[.bool s, .slice a len cap] 125)).alloc (.cells #[.bool s', .slice a' len' cap'] 125)).heap.size = w.heap.size + 1 + 1 := by simp
  rw [e1, e2] at HS
  have T := Lib.hid ((((Below.refl _ w).alloc (Nat.le_refl _) (.cells #[.bool s, .slice a len cap] 125)).alloc (by simp) (.cells #[.bool s', .slice a' len' cap'] 125)).alloc (by simp; omega) (.cells #[.bool false, .slice none 0 0] 125))
  clear e1 e2
  go_enter Try.func117, Try.ntmps117
  go_upto_region 1 with (fail)
  generalize ((w.alloc (.cells #[.bool s, .slice a len cap] 125)).alloc (.cells #[.bool s', .slice a' len' cap'] 125)).alloc (.cells #[.bool false, .slice none 0 0] 125) = v at *
  obtain ⟨a0, a1, -, -⟩ := (HS.out.blk 2 rfl).two
  obtain ⟨b0, b1, -, -⟩ := (HS.out.blk 1 rfl).two
  go_wp2_with fail
  go_at_call 130
  (with_reducible refine (div_any _ _ A B _ (HU.out.below T.out) (HV.out.below T.out) HPOS.out HM.out HM'.out).mono ?_)
  rintro e w1 ⟨⟨q, r, rfl, hq, hr⟩, b1'⟩
  have HW1 := Lib.hid b1'
  have HQ := Lib.hid hq
  have HR := Lib.hid hr
  obtain ⟨ar, lr, cr, dr, rfl, n1, n2, n3⟩ := hr
  have hz := MagR.zero n1 n2 n3
  clear n1 n2 n3 hq a0 a1 b0 b1 b1'
  obtain ⟨a0, a1, -, -⟩ := ((HS.out.blk 2 rfl).below HW1.out).two
  obtain ⟨b0, b1, -, -⟩ := ((HS.out.blk 1 rfl).below HW1.out).two
  have HRS : Hid (Sm (A % B)) := (Sm.of (Nat.lt_of_lt_of_le (Nat.lt_trans (Nat.mod_lt _ HPOS.out) HM'.out.lt) (Big.pw_mono (by omega))))
  have HQS : Hid (Sm (A / B)) := (Sm.of (Nat.lt_of_lt_of_le (Nat.lt_of_le_of_lt (Nat.div_le_self _ _) HM.out.lt) (Big.pw_mono (by omega))))
  have HS1 : Hid (Sm 1) := Sm.of (Nat.lt_of_lt_of_le (show 1 < Big.pw 1 by decide) (Big.pw_mono (by decide)))
  generalize A / B = qq at *
  generalize A % B = rr at *
  go_wp2_with fail
  clear a0 a1 b0
  refine wp_region_till (S := fun W => W.cell? ⟨w.heap.size + 1, 1, none⟩ = some (.slice a' len' cap')) 5 (by kernel_rfl) ?_
  refine till_take (i := 0) (v := ?_) rfl (by kernel_rfl) (fun _ _ _ h => h) (Or.inl ⟨by rfl, ?_⟩) b1 ?_
  rotate_left
  · intro W hS
    try dsimp only at hS
    go_split_ands
    go_simp
    try with_reducible rfl
  try simp only [Act.put, List.getElem_toArray, List.getElem_cons_zero, List.getElem_cons_succ, List.setIfInBounds_toArray, List.set_cons_zero, List.set_cons_succ]
  refine till_take (i := 1) (v := ?_) rfl (by kernel_rfl) (fun _ _ _ h => h) (Or.inl ⟨by rfl, ?_⟩) b1 ?_
  rotate_left
  · intro W hS
    try dsimp only at hS
    go_split_ands
    go_simp
    try with_reducible rfl
  try simp only [Act.put, List.getElem_toArray, List.getElem_cons_zero, List.getElem_cons_succ, List.setIfInBounds_toArray, List.set_cons_zero, List.set_cons_succ]
  refine till_take (i := 3) (v := ?_) rfl (by kernel_rfl) (fun _ _ _ h => h) (Or.inl ⟨by rfl, ?_⟩) b1 ?_
  rotate_left
  · intro W hS
    try dsimp only at hS
    go_split_ands
    go_simp
    try with_reducible rfl
  try simp only [Act.put, List.getElem_toArray, List.getElem_cons_zero, List.getElem_cons_succ, List.setIfInBounds_toArray, List.set_cons_zero, List.set_cons_succ]
  refine till_take (i := 4) (v := ?_) rfl (by kernel_rfl) (fun _ _ _ h => h) (Or.inl ⟨by rfl, ?_⟩) b1 ?_
  rotate_left
  · intro W hS
    try dsimp only at hS
    go_split_ands
    go_simp
    try with_reducible rfl
  try simp only [Act.put, List.getElem_toArray, List.getElem_cons_zero, List.getElem_cons_succ, List.setIfInBounds_toArray, List.set_cons_zero, List.set_cons_succ]
  refine till_one (i := 2) (by kernel_rfl) rfl (fun K' hK => ?_)
  go_simp
  go_at_call 114
  (with_reducible refine (add_any _ _ rr rr _ (HR.out.below (Below.refl _ _).drew) (HR.out.below (Below.refl _ _).drew) HRS.out.lt HRS.out.lt).mono ?_)
  rintro e w2 ⟨⟨r2, rfl, hr2⟩, b2⟩
  have HW2 := Lib.hid (HW1.out.drew.trans (b2.mono HW1.out.drew.size))
  have HR2 := Lib.hid hr2
  have HQ2 := Lib.hid (HQ.out.below ((Below.refl _ _).drew.trans b2))
  clear b1 b2 hr2 HR HQ HW1
  obtain ⟨b0, b1, -, -⟩ := ((HS.out.blk 1 rfl).below HW2.out).two
  refine hK _ _ b1 ?_
  clear hK K'
  try simp only [Act.put, List.getElem_toArray, List.getElem_cons_zero, List.getElem_cons_succ, List.setIfInBounds_toArray, List.set_cons_zero, List.set_cons_succ]
  refine till_last (by kernel_rfl) rfl (by kernel_rfl) (fun K' hK => ?_)
  go_simp
  go_at_call 115
  (with_reducible refine (cmpm_any _ _ (rr + rr) B _ HR2.out (HV.out.below (T.out.trans (HW2.out.mono T.out.size)))).mono ?_)
  rintro e w3 ⟨rfl, b3⟩
  have HW3 := Lib.hid (HW2.out.trans (b3.mono HW2.out.size))
  have HQ3 := Lib.hid (HQ2.out.below b3)
  clear b3 b0 b1 HR2 HQ2 HW2
  generalize cmpN (rr + rr) B = tw at *
  refine hK _ _ ?_
  clear hK K'
  try simp only [Act.put, List.getElem_toArray, List.getElem_cons_zero, List.getElem_cons_succ, List.setIfInBounds_toArray, List.set_cons_zero, List.set_cons_succ]
  refine any_take (i := 6) (v := ?_) rfl (by kernel_rfl) (fun _ _ _ h => h) (Or.inl ⟨by rfl, ?_⟩) ?_
  rotate_left
  · intro W
    go_simp
    try with_reducible rfl
  try simp only [Act.put, List.getElem_toArray, List.getElem_cons_zero, List.getElem_cons_succ, List.setIfInBounds_toArray, List.set_cons_zero, List.set_cons_succ]
  refine wpAny_done (by kernel_rfl) ?_ _
  obtain ⟨aq, lq, cq, dq, rfl, -, -, -⟩ := id HQ3.out
  generalize hne : (s != s') = ne at *
  cases ne with
  | false =>
    have hne' : (!s == s') = false := hne
    rw [if_neg (fun h => absurd h.1 (by decide))] at HSG
    have HNE := Lib.hid hne
    clear hne
    go_wp2_with fail
    go_at_call 113
    (with_reducible refine (sign_any _ _ _ _ HQ3.out).mono ?_)
    rintro e w7 ⟨⟨r7, rfl, hr7⟩, b7⟩
    rw [HSG.out] at hr7
    have HB7 := Lib.hid (HW3.out.trans (b7.mono HW3.out.size))
    have HS7 := Lib.hid (HS.out.below HB7.out)
    have HR7 := Lib.hid hr7
    obtain ⟨m2, rfl, a2, len2, cap2, l2, rfl, -, -, -⟩ := hr7
    clear b7 HW3 HS HQ3
    have hB0 := HS7.out.blk 0 rfl
    obtain ⟨r0, r1, r3, r4⟩ := hB0.two
    have hrl := hB0.lt
    have HRP := Lib.hid (HR7.out.put2 (x := .bool (decide (ZZ < 0))) (y := .slice a2 len2 cap2) (HS7.out.blk 0 rfl))
    have HBN := Lib.hid ((hB0.set_ 0 (.bool (decide (ZZ < 0)))).set_ 1 (.slice a2 len2 cap2))
    have hbw := T.out.trans (HB7.out.mono T.out.size)
    have HBW := Lib.hid ((hbw.setCell (p := ⟨w.heap.size + 1 + 1, 0, none⟩) (by show w.heap.size ≤ w.heap.size + 1 + 1; omega) (.bool (decide (ZZ < 0)))).setCell (p := ⟨w.heap.size + 1 + 1, 1, none⟩) (by show w.heap.size ≤ w.heap.size + 1 + 1; omega) (.slice a2 len2 cap2))
    clear hB0 hbw
    go_wp2_with fail
    generalize (w7.setCell ⟨w.heap.size + 1 + 1, 0, none⟩ (.bool (decide (ZZ < 0)))).setCell ⟨w.heap.size + 1 + 1, 1, none⟩ (.slice a2 len2 cap2) = W9 at *
    obtain ⟨g5, g6, -, -⟩ := (show Mem.Blk W9 (w.heap.size + 1 + 1) 125 #[.bool (decide (ZZ < 0)), .slice a2 len2 cap2] from HBN.out).two
    exact bodyPost_ret (v := .agg #[.bool (decide (ZZ < 0)), .slice a2 len2 cap2]) (by simp [results, Try.results117, go_sem, g5, g6]) rfl ⟨⟨_, rfl, HRP.out⟩, HBW.out⟩
  | true =>
    have hne' : (!s == s') = true := hne
    have HNE := Lib.hid hne
    clear hne
    by_cases hlr : lr = 0
    · have hrr := hz.1 hlr
      subst hrr
      subst hlr
      rw [if_neg (fun h => absurd h.2 (by decide))] at HSG
      go_wp2_with fail
      go_at_call 113
      (with_reducible refine (sign_any _ _ _ _ HQ3.out).mono ?_)
      rintro e w7 ⟨⟨r7, rfl, hr7⟩, b7⟩
      rw [HSG.out] at hr7
      have HB7 := Lib.hid (HW3.out.trans (b7.mono HW3.out.size))
      have HS7 := Lib.hid (HS.out.below HB7.out)
      have HR7 := Lib.hid hr7
      obtain ⟨m2, rfl, a2, len2, cap2, l2, rfl, -, -, -⟩ := hr7
      clear b7 HW3 HS HQ3
      have hB0 := HS7.out.blk 0 rfl
      obtain ⟨r0, r1, r3, r4⟩ := hB0.two
      have hrl := hB0.lt
      have HRP := Lib.hid (HR7.out.put2 (x := .bool (decide (ZZ < 0))) (y := .slice a2 len2 cap2) (HS7.out.blk 0 rfl))
      have HBN := Lib.hid ((hB0.set_ 0 (.bool (decide (ZZ < 0)))).set_ 1 (.slice a2 len2 cap2))
      have hbw := T.out.trans (HB7.out.mono T.out.size)
      have HBW := Lib.hid ((hbw.setCell (p := ⟨w.heap.size + 1 + 1, 0, none⟩) (by show w.heap.size ≤ w.heap.size + 1 + 1; omega) (.bool (decide (ZZ < 0)))).setCell (p := ⟨w.heap.size + 1 + 1, 1, none⟩) (by show w.heap.size ≤ w.heap.size + 1 + 1; omega) (.slice a2 len2 cap2))
      clear hB0 hbw
      go_wp2_with fail
      generalize (w7.setCell ⟨w.heap.size + 1 + 1, 0, none⟩ (.bool (decide (ZZ < 0)))).setCell ⟨w.heap.size + 1 + 1, 1, none⟩ (.slice a2 len2 cap2) = W9 at *
      obtain ⟨g5, g6, -, -⟩ := (show Mem.Blk W9 (w.heap.size + 1 + 1) 125 #[.bool (decide (ZZ < 0)), .slice a2 len2 cap2] from HBN.out).two
      exact bodyPost_ret (v := .agg #[.bool (decide (ZZ < 0)), .slice a2 len2 cap2]) (by simp [results, Try.results117, go_sem, g5, g6]) rfl ⟨⟨_, rfl, HRP.out⟩, HBW.out⟩
    · have hrr : 0 < rr := Nat.pos_of_ne_zero (fun h => hlr (hz.2 h))
      have hlr0 : (0 : Int) < (lr : Int) := by omega
      rw [if_pos ⟨rfl, hrr⟩] at HSG
      clear hz hlr hrr
      have hal := (Below.refl w3.heap.size w3).alloc (Nat.le_refl _) (.cells #[.int .u64 1] 141)
      have HQ4 := Lib.hid (HQ3.out.below hal)
      have HO4 := Lib.hid (one_mag w3)
      have HW4 := Lib.hid (HW3.out.trans (hal.mono HW3.out.size))
      clear hal HQ3 HW3
      go_wp2_with fail
      go_at_call 114
      (with_reducible refine (add_any _ _ qq 1 _ HQ4.out HO4.out HQS.out.lt HS1.out.lt).mono ?_)
      rintro e w5 ⟨⟨r5, rfl, hr5⟩, b5⟩
      have HW5 := Lib.hid (HW4.out.trans (b5.mono HW4.out.size))
      have HQ5 := Lib.hid hr5
      clear b5 hr5 HQ4 HO4 HW4
      obtain ⟨aq5, lq5, cq5, dq5, rfl, -, -, -⟩ := id HQ5.out
      go_wp2_with fail
      go_at_call 113
      (with_reducible refine (sign_any _ _ _ _ HQ5.out).mono ?_)
      rintro e w7 ⟨⟨r7, rfl, hr7⟩, b7⟩
      rw [HSG.out] at hr7
      have HB7 := Lib.hid (HW5.out.trans (b7.mono HW5.out.size))
      have HS7 := Lib.hid (HS.out.below HB7.out)
      have HR7 := Lib.hid hr7
      obtain ⟨m2, rfl, a2, len2, cap2, l2, rfl, -, -, -⟩ := hr7
      clear b7 HW5 HS HQ5
      have hB0 := HS7.out.blk 0 rfl
      obtain ⟨r0, r1, r3, r4⟩ := hB0.two
      have hrl := hB0.lt
      have HRP := Lib.hid (HR7.out.put2 (x := .bool (decide (ZZ < 0))) (y := .slice a2 len2 cap2) (HS7.out.blk 0 rfl))
      have HBN := Lib.hid ((hB0.set_ 0 (.bool (decide (ZZ < 0)))).set_ 1 (.slice a2 len2 cap2))
      have hbw := T.out.trans (HB7.out.mono T.out.size)
      have HBW := Lib.hid ((hbw.setCell (p := ⟨w.heap.size + 1 + 1, 0, none⟩) (by show w.heap.size ≤ w.heap.size + 1 + 1; omega) (.bool (decide (ZZ < 0)))).setCell (p := ⟨w.heap.size + 1 + 1, 1, none⟩) (by show w.heap.size ≤ w.heap.size + 1 + 1; omega) (.slice a2 len2 cap2))
      clear hB0 hbw
      go_wp2_with fail
      generalize (w7.setCell ⟨w.heap.size + 1 + 1, 0, none⟩ (.bool (decide (ZZ < 0)))).setCell ⟨w.heap.size + 1 + 1, 1, none⟩ (.slice a2 len2 cap2) = W9 at *
      obtain ⟨g5, g6, -, -⟩ := (show Mem.Blk W9 (w.heap.size + 1 + 1) 125 #[.bool (decide (ZZ < 0)), .slice a2 len2 cap2] from HBN.out).two
      exact bodyPost_ret (v := .agg #[.bool (decide (ZZ < 0)), .slice a2 len2 cap2]) (by simp [results, Try.results117, go_sem, g5, g6]) rfl ⟨⟨_, rfl, HRP.out⟩, HBW.out⟩
end Go.Proofs.Ytppnmeobnilojaa

/- What is folded, by the document: the same; what fits fits within: plain. -/
namespace Go.Proofs.Ytppnmeobnilojaa
set_option linter.unusedVariables false
set_option linter.unusedSimpArgs false
open Go.RowKit
/-- What an op makes of two numbers, by the document. -/
def madeM (op a b : Int) : Option Int :=
  if op = 5 then fitI (a + b) else if op = 6 then fitI (a - b) else if op = 7 then fitI (a * b) else if op = 8 then (if b = 0 then none else fitI (a.fdiv b))
  else if op = 9 ∨ op = 10 then (if (decide (a < b)) = (decide (op = 9)) then some a else some b) else if op = 20 then fitI (-a) else none
/-- Each one's value, nought if it is no constant; are all constants, and is there one? -/
def valsD (l : List Ex) : List Int := l.map fun e => (knownE e).getD 0
def allK (l : List Ex) : Bool := decide (0 < l.length) && l.all fun e => (knownE e).isSome
def foldOD (op n : Int) (nm : ByteArray) (l : List Ex) : Ex :=
  if allK l = true then (match madeM op ((valsD l).getD 0 0) ((valsD l).getD 1 0) with | some v => if v = minI then .mk op n nm l else constE v | none => .mk op n nm l) else .mk op n nm l
def foldD : Ex → Ex
  | .mk op n nm l => foldOD op n nm (go l)
  where go : List Ex → List Ex
  | [] => []
  | e :: t => foldD e :: go t
theorem foldD_go (l : List Ex) : foldD.go l = l.map foldD := by
  induction l with
  | nil => rfl
  | cons x t ih => simp only [foldD.go, ih, List.map_cons]
theorem foldD_mk (op n : Int) (nm : ByteArray) (l : List Ex) : foldD (.mk op n nm l) = foldOD op n nm (l.map foldD) := by rw [foldD, foldD_go]
theorem allK_iff {l : List Ex} : allK l = true ↔ ¬ ((l.filterMap knownE).length < l.length ∨ (l.filterMap knownE).length = 0) := by
  have hle := List.length_filterMap_le knownE l
  constructor
  · intro h
    unfold allK at h
    rw [Bool.and_eq_true, decide_eq_true_eq, List.all_eq_true] at h
    have hlen : (l.filterMap knownE).length = l.length := by
      obtain ⟨-, h2⟩ := h
      clear hle
      induction l with
      | nil => rfl
      | cons x t ih =>
        cases hx : knownE x with
        | none => have := h2 x (by simp); rw [hx] at this; cases this
        | some v => rw [List.filterMap_cons_some hx, List.length_cons, List.length_cons, ih (fun e he => h2 e (by simp [he]))]
    omega
  · intro h
    unfold allK
    rw [Bool.and_eq_true, decide_eq_true_eq, List.all_eq_true]
    refine ⟨by omega, fun e he => ?_⟩
    obtain ⟨v, hv⟩ := all_known (by omega) e he
    rw [hv]; rfl
theorem vals_known {l : List Ex} (h : allK l = true) : l.filterMap knownE = valsD l := by
  have h' := allK_iff.1 h
  have hle := List.length_filterMap_le knownE l
  have hlen : (l.filterMap knownE).length = l.length := by omega
  clear h h' hle
  unfold valsD
  induction l with
  | nil => rfl
  | cons x t ih =>
    cases hx : knownE x with
    | none =>
      rw [List.filterMap_cons_none hx] at hlen
      have := List.length_filterMap_le knownE t
      simp only [List.length_cons] at hlen; omega
    | some v =>
      rw [List.filterMap_cons_some hx] at hlen ⊢
      rw [List.map_cons, hx, ih (by simp only [List.length_cons] at hlen; omega)]
      rfl
theorem made_value {op : Int} {l : List Int} (ha : ar op = (l.length : Nat)) : madeM op (l.getD 0 0) (l.getD 1 0) = valueM op l := by
  unfold madeM valueM
  by_cases h5 : op = 5
  · rw [if_pos h5, if_pos h5]
  rw [if_neg h5, if_neg h5]
  by_cases h6 : op = 6
  · rw [if_pos h6, if_pos h6]
  rw [if_neg h6, if_neg h6]
  by_cases h7 : op = 7
  · rw [if_pos h7, if_pos h7]
  rw [if_neg h7, if_neg h7]
  by_cases h8 : op = 8
  · rw [if_pos h8, if_pos h8]
  rw [if_neg h8, if_neg h8]
  by_cases h9 : op = 9
  · subst h9
    generalize l.getD 0 0 = a
    generalize l.getD 1 0 = b
    by_cases hlt : a < b <;> simp [hlt] <;> omega
  by_cases h10 : op = 10
  · subst h10
    generalize l.getD 0 0 = a
    generalize l.getD 1 0 = b
    by_cases hlt : a < b <;> simp [hlt] <;> omega
  rw [if_neg (by omega), if_neg h9, if_neg h10]
theorem foldD_eq : ∀ (r : Nat) (e : Ex), e.rk ≤ r → bE e = true → foldD e = foldE e := by
  intro r
  induction r with
  | zero => intro e h; have := e.rk_pos; omega
  | succ r ih =>
    intro e hr hb
    obtain ⟨op, n, nm, l⟩ := e
    obtain ⟨h1, -, h3⟩ := bE_inv hb
    have hmap : l.map foldD = l.map foldE := List.map_congr_left (fun c hc => by
      obtain ⟨k, hkk⟩ := List.getElem?_of_mem hc
      exact ih c (by have := Ex.rk_lt (op := op) (n := n) (nm := nm) hkk; omega) (h3 c hc))
    rw [foldD_mk, foldE_mk, hmap]
    have h1' : ar op = ((l.map foldE).length : Nat) := by rw [List.length_map]; exact h1
    generalize l.map foldE = l' at *
    unfold foldOD foldO
    by_cases hk : allK l' = true
    · rw [if_pos hk, if_neg (allK_iff.1 hk), vals_known hk, made_value (by unfold valsD; rw [List.length_map]; exact h1')]
      cases valueM op (valsD l') <;> rfl
    · rw [if_neg hk]
      have := fun h => hk (allK_iff.2 h)
      rw [if_pos (Classical.byContradiction this)]
def foldT : Te → Te
  | .mk op nm x l => .mk op nm (x.map foldE) (go l)
  where go : List Te → List Te
  | [] => []
  | e :: t => foldT e :: go t
theorem foldT_go (l : List Te) : foldT.go l = l.map foldT := by
  induction l with
  | nil => rfl
  | cons x t ih => simp only [foldT.go, ih, List.map_cons]
/-- What fits fits within. -/
theorem fitT_mk (op : Int) (nm : ByteArray) (x : List Ex) (l : List Te) : fitT (.mk op nm x l) = (x.all (fun e => decide (kE e = needT op)) && l.all fitT) := by rw [fitT, fitT_go]
theorem fitT_in {op : Int} {nm : ByteArray} {x : List Ex} {l : List Te} (h : fitT (.mk op nm x l) = true) : ∀ t ∈ l, fitT t = true := by
  rw [fitT_mk, Bool.and_eq_true] at h
  exact fun t ht => List.all_eq_true.1 h.2 t ht
theorem fitT_give (nm : ByteArray) (op : Int) (t : Te) : fitT (.mk op nm [] [t]) = fitT t := by rw [fitT_mk]; simp
theorem fitT_or (nm : ByteArray) (op : Int) (t : Te) : fitT (.mk op nm [] [t, .mk 1 ⟨#[]⟩ [] []]) = fitT t := by rw [fitT_mk]; simp [fitT_mk]
theorem right_in {op : Int} {nm : ByteArray} {x : List Ex} {l : List Te} (h : bT (.mk op nm x l) = true ∧ (Te.mk op nm x l).nd ≤ 200 ∧ (Te.mk op nm x l).rk ≤ 16) : ∀ t ∈ l, bT t = true ∧ t.nd ≤ 200 ∧ t.rk ≤ 16 := by
  intro t ht
  obtain ⟨-, -, -, -, h5⟩ := bT_inv h.1
  obtain ⟨k, hk⟩ := List.getElem?_of_mem ht
  have h1 := nd_go_mem ht
  have h2 := Te.rk_lt (op := op) (nm := nm) (x := x) hk
  have h3 : (Te.mk op nm x l).nd = 1 + Ex.nd.go x + Te.nd.go l := rfl
  exact ⟨h5 t ht, by omega, by omega⟩
end Go.Proofs.Ytppnmeobnilojaa
