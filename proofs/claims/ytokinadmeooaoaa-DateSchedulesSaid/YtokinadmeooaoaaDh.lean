/- The contract of the reference's Of; no conditions. -/
import Derived.Test.YtokinadmeooaoaaDg
namespace Go.Proofs.Ytokinadmeooaoaa
open Go.RowKit
def refOf (y m d : Int) : Int := if vB y m d then Cal.num y m d else -1
set_option maxHeartbeats 1000000 in
theorem rof_yes (y m d : Int) (w : World) (h : Cal.vld y m d) :
    Calls Try.prog 21 #[.int .i64 y, .int .i64 m, .int .i64 d] w fun e w' => e = .returned (.int .i64 (Cal.num y m d)) ∧ Below w.heap.size w w' := by
  obtain ⟨h1, h2, h3, h4, h5, h6⟩ := h
  have hdm := Cal.dim_le y m
  have h7 : d ≤ 31 := by omega
  have hnum : Cal.num y m d = Cal.dby y + Cal.cum y m + d - 1 := rfl
  have HN := Lib.hid hnum
  clear hnum hdm
  have hb0 : 0 ≤ Cal.dby y := by have := Cal.dby_mono 1970 y h1; rw [Cal.dby_1970] at this; exact this
  have hb1 : Cal.dby y ≤ 2932897 := by have := Cal.dby_mono y 10000 (by omega); rw [Cal.dby_10000] at this; exact this
  go_enter Try.func21, Try.ntmps21
  go_wp2_with (go_at_call 25; refine (rdays_any _ _ _).mono ?_; rintro e w1 ⟨rfl, b1⟩)
  go_loop [7, 8] (fun n z => ∃ t : Int, 1970 ≤ t ∧ t ≤ y ∧ z = .int .i64 t ∧ n = .int .i64 (Cal.dby t)) (fun _ z => (y - intOf z).toNat)
  case atStart => exact ⟨1970, by omega, h1, rfl, rfl⟩
  case round =>
    obtain ⟨t, t1, t2, rfl, rfl⟩ := hrel
    have c0 : 0 ≤ Cal.dby t := by have := Cal.dby_mono 1970 t t1; rw [Cal.dby_1970] at this; exact this
    have c1 := Cal.dby_mono t y t2
    by_cases hlt : t < y
    · have hs := Cal.dby_succ t
      have HS := Lib.hid hs
      clear hs
      have hl := lpB_eq t
      have HL := Lib.hid hl
      clear hl
      cases hlp : lpB t
      all_goals
        go_wp2_with (go_at_call 23; refine (rleap_any _ _).mono ?_; rintro e w2 ⟨rfl, rfl⟩)
        go_round
        case rel => exact ⟨t + 1, by omega, by omega, rfl, by rw [HS.out, HL.out, hlp]; first | rfl | (simp; done)⟩
        case measure => simp [intOf]; omega
    · have : t = y := by omega
      subst this
      go_wp2_with fail
      go_loopw [7, 9] (fun n z wr => ∃ k : Int, 1 ≤ k ∧ k ≤ m ∧ z = .int .i64 k ∧ n = .int .i64 (Cal.dby t + Cal.cum t k) ∧ Below w.heap.size w wr) (fun _ z _ => (m - intOf z).toNat)
      case atStart => exact ⟨1, by omega, h3, rfl, by rw [Cal.cum_1]; simp, b1⟩
      case round =>
        obtain ⟨k, k1, k2, rfl, rfl, hbel⟩ := hrel
        have hcb := Cal.cum_bd t k k1 (by omega)
        have hdl := Cal.dim_le t k
        have hll := Cal.lp_01 t
        have hcu : Cal.cum t k ≤ 366 := by omega
        have hcu0 := hcb.1
        clear hcb hll
        by_cases hk : k < m
        · have hs := Cal.cum_succ t k k1 (by omega)
          have HS := Lib.hid hs
          clear hs
          go_wp2_with (go_at_call 25; refine (rdays_any _ _ _).mono ?_; rintro e w2 ⟨rfl, b2⟩)
          go_roundw
          case rel => exact ⟨k + 1, by omega, by omega, rfl, by rw [HS.out, Int.add_assoc], hbel.trans (b2.mono hbel.size)⟩
          case measure => simp [intOf]; omega
        · have : k = m := by omega
          subst this
          go_wp2
          go_ret
          exact ⟨ret_int (by rw [HN.out]), hbel⟩
theorem refOf_ret (y m d : Int) (h : ¬ Cal.vld y m d) : Ending.returned (.int .i64 (-1)) = .returned (.int .i64 (refOf y m d)) := by
  have hb : vB y m d = false := by unfold vB; simp [h]
  exact ret_int (by unfold refOf; rw [hb]; rfl)
theorem rof_no (y m d : Int) (w : World) (h : ¬ Cal.vld y m d) :
    Calls Try.prog 21 #[.int .i64 y, .int .i64 m, .int .i64 d] w fun e w' => e = .returned (.int .i64 (refOf y m d)) ∧ Below w.heap.size w w' := by
  have HR := Lib.hid (refOf_ret y m d h)
  by_cases h1 : y < 1970
  · clear h; go_enter Try.func21, Try.ntmps21
    go_wp2
    go_ret
    exact ⟨HR.out, Below.refl _ _⟩
  by_cases h2 : 9999 < y
  · clear h; go_enter Try.func21, Try.ntmps21
    go_wp2
    go_ret
    exact ⟨HR.out, Below.refl _ _⟩
  by_cases h3 : m < 1
  · clear h; go_enter Try.func21, Try.ntmps21
    go_wp2
    go_ret
    exact ⟨HR.out, Below.refl _ _⟩
  by_cases h4 : 12 < m
  · clear h; go_enter Try.func21, Try.ntmps21
    go_wp2
    go_ret
    exact ⟨HR.out, Below.refl _ _⟩
  by_cases h5 : d < 1
  · clear h; go_enter Try.func21, Try.ntmps21
    go_wp2
    go_ret
    exact ⟨HR.out, Below.refl _ _⟩
  have h6 : Cal.dim y m < d := by unfold Cal.vld at h; omega
  clear h
  go_enter Try.func21, Try.ntmps21
  go_wp2_with (go_at_call 25; refine (rdays_any _ _ _).mono ?_; rintro e w1 ⟨rfl, b1⟩)
  go_ret
  exact ⟨HR.out, b1⟩
theorem rof_any (y m d : Int) (w : World) :
    Calls Try.prog 21 #[.int .i64 y, .int .i64 m, .int .i64 d] w fun e w' => e = .returned (.int .i64 (refOf y m d)) ∧ Below w.heap.size w w' := by
  by_cases h : Cal.vld y m d
  · refine (rof_yes y m d w h).mono fun e w' ⟨he, hb⟩ => ⟨?_, hb⟩
    rw [he]; exact ret_int (by unfold refOf vB; simp [h])
  · exact rof_no y m d w h
end Go.Proofs.Ytokinadmeooaoaa
