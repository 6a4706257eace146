/- The walk of the law DateSteps: it returns true, for any two numbers of their kinds. -/
import Derived.Test.YtokinadmeooaoaaLcivils
import Derived.OpenShut
namespace Go.Proofs.Ytokinadmeooaoaa
open Go.RowKit
theorem monN_eq (n k : Int) (h : monB n k = true) : monN n k = Cal.num (mat n k / 12) (mat n k % 12 + 1) (mday n k) := by unfold monN; rw [if_pos h]
theorem steps_plain (n k : Int) (h : monB n k = true) :
    isD n = true ∧ monB (monN n k) (-k) = true ∧ monN (monN n k) (-k) ≤ n ∧ cY (monN (monN n k) (-k)) = cY n ∧ cM (monN (monN n k) (-k)) = cM n ∧
      (cD (monN (monN n k) (-k)) = cD n ∨ 28 < cD n ∧ cD (monN (monN n k) (-k)) < cD n) := by
  obtain ⟨hd, hv⟩ := (monB_iff n k).1 h
  obtain ⟨h0, h1⟩ := (isD_iff n).1 hd
  obtain ⟨⟨a1, a2, a3, a4, a5, a6⟩, an⟩ := Cal.civil_ok n h0 h1
  have ea : monN n k = Cal.num (mat n k / 12) (mat n k % 12 + 1) (mday n k) := by unfold monN; rw [if_pos h]
  have ra := Cal.num_range _ _ _ hv
  rw [← ea] at ra
  have hda : isD (monN n k) = true := (isD_iff _).2 ra
  obtain ⟨u1, u2, u3⟩ := Cal.civil_uniq (monN n k) _ _ _ hv ea.symm
  have hm : mat n k = 12 * Cal.Y n + Cal.M n - 1 + k := rfl
  have hm2 : mat (monN n k) (-k) = 12 * Cal.Y (monN n k) + Cal.M (monN n k) - 1 + -k := rfl
  have e1 : mat (monN n k) (-k) / 12 = Cal.Y n := by omega
  have e2 : mat (monN n k) (-k) % 12 + 1 = Cal.M n := by omega
  have hday : mday n k = if Cal.D n ≤ Cal.dim (mat n k / 12) (mat n k % 12 + 1) then Cal.D n else Cal.dim (mat n k / 12) (mat n k % 12 + 1) := rfl
  have hbd := Cal.dim_bd (mat n k / 12) (mat n k % 12 + 1) hv.2.2.1 hv.2.2.2.1
  have hle : mday n k ≤ Cal.D n := by rw [hday]; split <;> omega
  have hcase : mday n k = Cal.D n ∨ 28 < Cal.D n ∧ mday n k < Cal.D n := by rw [hday]; split <;> omega
  have hday2 : mday (monN n k) (-k) = mday n k := by
    have : mday (monN n k) (-k) = if Cal.D (monN n k) ≤ Cal.dim (mat (monN n k) (-k) / 12) (mat (monN n k) (-k) % 12 + 1) then Cal.D (monN n k) else Cal.dim (mat (monN n k) (-k) / 12) (mat (monN n k) (-k) % 12 + 1) := rfl
    rw [this, e1, e2, u3, if_pos (by omega)]
  have hvb : Cal.vld (Cal.Y n) (Cal.M n) (mday n k) := ⟨a1, a2, a3, a4, hv.2.2.2.2.1, by omega⟩
  have hb2 : monB (monN n k) (-k) = true := (monB_iff _ _).2 ⟨hda, by rw [e1, e2, hday2]; exact hvb⟩
  have eb : monN (monN n k) (-k) = Cal.num (Cal.Y n) (Cal.M n) (mday n k) := by
    have := monN_eq (monN n k) (-k) hb2
    rw [this, e1, e2, hday2]
  have rb := Cal.num_range _ _ _ hvb
  rw [← eb] at rb
  have hdb : isD (monN (monN n k) (-k)) = true := (isD_iff _).2 rb
  obtain ⟨v1, v2, v3⟩ := Cal.civil_uniq _ _ _ _ hvb eb.symm
  refine ⟨hd, hb2, ?_, ?_, ?_, ?_⟩
  · rw [eb]; unfold Cal.num at an ⊢; omega
  · unfold cY; rw [if_pos hd, if_pos hdb, v1]
  · unfold cM; rw [if_pos hd, if_pos hdb, v2]
  · unfold cD; rw [if_pos hd, if_pos hdb, v3]; exact hcase
set_option maxHeartbeats 1000000 in
theorem law_steps (k m : Int) (w : World) (h0 : (Lit.int .u32 k).wf = true) (h1 : (Lit.int .i16 m).wf = true) :
    Calls Try.prog 5 #[.int .u32 k, .int .i16 m] w fun e w' => e = .returned (.bool true) ∧ Below w.heap.size w w' := by
  have k0 := bounds_u32 h0
  have m0 := bounds_i16 h1
  obtain ⟨k1, k2⟩ := k0
  obtain ⟨m1, m2⟩ := m0
  clear h0 h1
  cases hb : monB (k % 2932897) m
  · have hz : monN (k % 2932897) m = 0 := by unfold monN; rw [hb]; rfl
    have HZ := Lib.hid hz
    have HB := Lib.hid hb
    clear hz hb
    go_enter Try.func5, Try.ntmps5
    go_wp2_with fail
    refine (months_any _ _ _).mono ?_; rintro e w' ⟨rfl, rfl⟩
    rw [HZ.out, HB.out]
    go_wp2_with fail
    refine (awake_true _).mono ?_; rintro e w4 ⟨rfl, b4⟩
    go_wp2
    go_ret
    exact ⟨rfl, b4⟩
  · have hp := steps_plain _ _ hb
    have HP := Lib.hid hp
    have HB := Lib.hid hb
    clear hp hb
    go_enter Try.func5, Try.ntmps5
    go_wp2_with fail
    refine (months_any _ _ _).mono ?_; rintro e w' ⟨rfl, rfl⟩
    rw [HB.out]
    go_wp2_with fail
    refine (months_any _ _ _).mono ?_; rintro e w' ⟨rfl, rfl⟩
    rw [HP.out.2.1]
    go_wp2_with fail
    refine (civil_any _ _).mono ?_; rintro e w' ⟨rfl, rfl⟩
    go_wp2_with fail
    refine (civil_any _ _).mono ?_; rintro e w' ⟨rfl, rfl⟩
    rw [HP.out.2.2.2.1, HP.out.2.2.2.2.1]
    have hle := HP.out.2.2.1
    rcases HP.out.2.2.2.2.2 with hc | ⟨hc1, hc2⟩
    · rw [hc]
      go_wp2_with fail
      refine (awake_true _).mono ?_; rintro e w4 ⟨rfl, b4⟩
      go_wp2
      go_ret
      exact ⟨rfl, b4⟩
    · have hne : (cD (monN (monN (k % 2932897) m) (-m)) == cD (k % 2932897)) = false := by simp; omega
      go_wp2_with fail
      refine (awake_true _).mono ?_; rintro e w4 ⟨rfl, b4⟩
      go_wp2
      go_ret
      exact ⟨rfl, b4⟩
end Go.Proofs.Ytokinadmeooaoaa
