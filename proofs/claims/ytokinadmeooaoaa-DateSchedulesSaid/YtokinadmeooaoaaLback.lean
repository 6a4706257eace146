/- The walk of the law DateBack: it returns true, for any number of its kind. -/
import Derived.Test.YtokinadmeooaoaaLcivils
import Derived.OpenShut
namespace Go.Proofs.Ytokinadmeooaoaa
open Go.RowKit
theorem dig_u8 (d : Int) (h0 : 0 ≤ d) (h9 : d ≤ 9) : ((UInt8.ofNat (48 + d).toNat).toNat : Int) = 48 + d := by
  rw [UInt8.toNat_ofNat']; omega
theorem decF_cons (v : Int) (d : Int) (l : List UInt8) (h0 : 0 ≤ d) (h9 : d ≤ 9) : decF v (UInt8.ofNat (48 + d).toNat :: l) = decF (10 * v + d) l := by
  have e := dig_u8 d h0 h9
  have : decF v (UInt8.ofNat (48 + d).toNat :: l) = if 48 ≤ ((UInt8.ofNat (48 + d).toNat).toNat : Int) ∧ ((UInt8.ofNat (48 + d).toNat).toNat : Int) ≤ 57 then decF (10 * v + (((UInt8.ofNat (48 + d).toNat).toNat : Int) - 48)) l else -1 := rfl
  rw [this, e, if_pos (by omega)]; congr 1; omega
theorem ptext_list (y m d : Int) : (strOfNums (ptext y m d)).data.toList = [UInt8.ofNat (48 + y / 100 / 10 % 10).toNat, UInt8.ofNat (48 + y / 100 % 10).toNat, UInt8.ofNat (48 + y / 10 % 10).toNat, UInt8.ofNat (48 + y % 10).toNat, 45,
    UInt8.ofNat (48 + m / 10 % 10).toNat, UInt8.ofNat (48 + m % 10).toNat, 45, UInt8.ofNat (48 + d / 10 % 10).toNat, UInt8.ofNat (48 + d % 10).toNat] := rfl
theorem parN_text (y m d : Int) (y0 : 0 ≤ y) (y1 : y ≤ 9999) (m0 : 0 ≤ m) (m1 : m ≤ 99) (d0 : 0 ≤ d) (d1 : d ≤ 99) :
    parN (strOfNums (ptext y m d)) 0 4 = y ∧ parN (strOfNums (ptext y m d)) 5 7 = m ∧ parN (strOfNums (ptext y m d)) 8 10 = d := by
  unfold parN
  rw [ptext_list]
  simp only [List.drop_succ_cons, List.drop_zero, List.take_succ_cons, List.take_zero, Nat.reduceSub]
  rw [decF_cons _ _ _ (by omega) (by omega), decF_cons _ _ _ (by omega) (by omega), decF_cons _ _ _ (by omega) (by omega), decF_cons _ _ _ (by omega) (by omega),
    decF_cons _ _ _ (by omega) (by omega), decF_cons _ _ _ (by omega) (by omega), decF_cons _ _ _ (by omega) (by omega), decF_cons _ _ _ (by omega) (by omega)]
  simp only [decF]
  omega
theorem parse_print (n : Int) (h : isD n = true) : parseB (dtext n) = true ∧ parseN (dtext n) = n := by
  obtain ⟨h0, h1⟩ := (isD_iff n).1 h
  obtain ⟨hv, an⟩ := Cal.civil_ok n h0 h1
  obtain ⟨a1, a2, a3, a4, a5, a6⟩ := hv
  have hd31 := Cal.dim_le (Cal.Y n) (Cal.M n)
  have et : dtext n = strOfNums (ptext (Cal.Y n) (Cal.M n) (Cal.D n)) := by unfold dtext; rw [if_pos h]
  obtain ⟨p1, p2, p3⟩ := parN_text (Cal.Y n) (Cal.M n) (Cal.D n) (by omega) a2 (by omega) (by omega) (by omega) (by omega)
  have hdash : dash (dtext n) := by
    rw [et]; refine ⟨rfl, ?_, ?_⟩
    · rw [ptext_list]; rfl
    · rw [ptext_list]; rfl
  have hb : parseB (dtext n) = true := by
    unfold parseB; rw [et] at hdash ⊢; rw [p1, p2, p3]
    simp [hdash, vB, Cal.vld, a1, a2, a3, a4, a5, a6]
  refine ⟨hb, ?_⟩
  unfold parseN; rw [if_pos hb, et, p1, p2, p3, an]
theorem dtext_size (n : Int) : (dtext n).size ≤ maxLen := by
  unfold dtext; split
  · show 10 ≤ maxLen; decide
  · show 0 ≤ maxLen; decide
theorem back_of (n : Int) (h : isD n = true) : ofN (cY n) (cM n) (cD n) = n ∧ vB (cY n) (cM n) (cD n) = true := by
  obtain ⟨h0, h1⟩ := (isD_iff n).1 h
  obtain ⟨hv, an⟩ := Cal.civil_ok n h0 h1
  have e1 : cY n = Cal.Y n := by unfold cY; rw [if_pos h]
  have e2 : cM n = Cal.M n := by unfold cM; rw [if_pos h]
  have e3 : cD n = Cal.D n := by unfold cD; rw [if_pos h]
  have hb : vB (Cal.Y n) (Cal.M n) (Cal.D n) = true := by unfold vB; simp [hv]
  rw [e1, e2, e3]
  exact ⟨by unfold ofN; rw [if_pos hb, an], hb⟩
set_option maxHeartbeats 1000000 in
theorem law_back (k : Int) (w : World) (h0 : (Lit.int .u32 k).wf = true) :
    Calls Try.prog 8 #[.int .u32 k] w fun e w' => e = .returned (.bool true) ∧ Below w.heap.size w w' := by
  have k0 := bounds_u32 h0
  obtain ⟨k1, k2⟩ := k0
  clear h0
  have hn0 : 0 ≤ k % 2932897 := by omega
  have hn1 : k % 2932897 ≤ 2932896 := by omega
  have hd : isD (k % 2932897) = true := (isD_iff _).2 ⟨hn0, hn1⟩
  have HB := Lib.hid (back_of _ hd)
  have HP := Lib.hid (parse_print _ hd)
  have HS := Lib.hid (dtext_size (k % 2932897))
  have hw : wkd (k % 2932897) = (k % 2932897 + 3) % 7 := by unfold wkd; rw [if_pos hd]
  have HW := Lib.hid hw
  have HD := Lib.hid hd
  have hnx : k % 2932897 = 2932896 ∧ wkd (k % 2932897 + 1) = -1 ∨ k % 2932897 < 2932896 ∧ wkd (k % 2932897 + 1) = (k % 2932897 + 1 + 3) % 7 := by
    by_cases e : k % 2932897 = 2932896
    · exact .inl ⟨e, by unfold wkd isD; rw [e]; rfl⟩
    · refine .inr ⟨by omega, ?_⟩
      have : isD (k % 2932897 + 1) = true := (isD_iff _).2 ⟨by omega, by omega⟩
      unfold wkd; rw [if_pos this]
  clear hw hd
  rcases hnx with ⟨e1, e2⟩ | ⟨e1, e2⟩
  · have E1 := Lib.hid e1
    have E2 := Lib.hid e2
    have t1 : (k % 2932897 == 2932896) = true := by simp [e1]
    clear e1 e2
    go_enter Try.func8, Try.ntmps8
    go_wp2_with fail
    refine (civil_any _ _).mono ?_; rintro e w' ⟨rfl, rfl⟩
    rw [HD.out]
    go_wp2_with fail
    refine (of_any _ _ _ _).mono ?_; rintro e w' ⟨rfl, rfl⟩
    rw [HB.out.1, HB.out.2]
    go_wp2_with fail
    refine (print_any _ _).mono ?_; rintro e w1 ⟨rfl, b1⟩
    go_wp2_with fail
    refine (parse_any _ _ HS.out).mono ?_; rintro e w2 ⟨rfl, b2⟩
    rw [HP.out.1, HP.out.2]
    go_wp2_with fail
    refine (weekday_any _ _).mono ?_; rintro e w' ⟨rfl, rfl⟩
    rw [E2.out]
    go_wp2_with fail
    refine (awake_true _).mono ?_; rintro e w4 ⟨rfl, b4⟩
    go_wp2
    go_ret
    have c2 := b1.trans (b2.mono b1.size)
    exact ⟨rfl, c2.trans (b4.mono c2.size)⟩
  · have E2 := Lib.hid e2
    have t1 : (k % 2932897 == 2932896) = false := by simp; omega
    have E3 : Hid (((k % 2932897 + 1 + 3) % 7 == ((k % 2932897 + 3) % 7 + 1) % 7) = true) := by show _ = _; simp; omega
    clear e2
    go_enter Try.func8, Try.ntmps8
    go_wp2_with fail
    refine (civil_any _ _).mono ?_; rintro e w' ⟨rfl, rfl⟩
    rw [HD.out]
    go_wp2_with fail
    refine (of_any _ _ _ _).mono ?_; rintro e w' ⟨rfl, rfl⟩
    rw [HB.out.1, HB.out.2]
    go_wp2_with fail
    refine (print_any _ _).mono ?_; rintro e w1 ⟨rfl, b1⟩
    go_wp2_with fail
    refine (parse_any _ _ HS.out).mono ?_; rintro e w2 ⟨rfl, b2⟩
    rw [HP.out.1, HP.out.2]
    go_wp2_with fail
    refine (weekday_any _ _).mono ?_; rintro e w' ⟨rfl, rfl⟩
    rw [E2.out]
    go_wp2_with fail
    refine (weekday_any _ _).mono ?_; rintro e w' ⟨rfl, rfl⟩
    rw [HW.out]
    have e3 := E3.out
    go_wp2_with fail
    refine (awake_true _).mono ?_; rintro e w4 ⟨rfl, b4⟩
    go_wp2
    go_ret
    have c2 := b1.trans (b2.mono b1.size)
    exact ⟨rfl, c2.trans (b4.mono c2.size)⟩
end Go.Proofs.Ytokinadmeooaoaa
