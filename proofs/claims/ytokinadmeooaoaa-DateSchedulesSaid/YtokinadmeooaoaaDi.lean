/- The contract of the reference's Civil; no conditions. -/
import Derived.Test.YtokinadmeooaoaaDh
namespace Go.Proofs.Ytokinadmeooaoaa
open Go.RowKit
def cY (n : Int) : Int := if isD n then Cal.Y n else 0
def cM (n : Int) : Int := if isD n then Cal.M n else 0
def cD (n : Int) : Int := if isD n then Cal.D n else 0
theorem ret3 {a b c a' b' c' : Int} (h : a = a') (h' : b = b') (h'' : c = c') :
    Ending.returned (.tuple #[.int .i64 a, .int .i64 b, .int .i64 c]) = .returned (.tuple #[.int .i64 a', .int .i64 b', .int .i64 c']) := by rw [h, h', h'']
theorem rciv_uniq (n y m r : Int) (hd : isD n = true) (h1 : 1970 ≤ y) (h2 : y ≤ 9999) (h3 : 1 ≤ m) (h4 : m ≤ 12) (h5 : 0 ≤ r) (h6 : r < Cal.dim y m) (e : Cal.dby y + Cal.cum y m + r = n) :
    Ending.returned (.tuple #[.int .i64 y, .int .i64 m, .int .i64 (r + 1)]) = .returned (.tuple #[.int .i64 (cY n), .int .i64 (cM n), .int .i64 (cD n)]) := by
  obtain ⟨u1, u2, u3⟩ := Cal.civil_uniq n y m (r + 1) ⟨h1, h2, h3, h4, by omega, by omega⟩ (by unfold Cal.num; omega)
  exact ret3 (by unfold cY; rw [if_pos hd, u1]) (by unfold cM; rw [if_pos hd, u2]) (by unfold cD; rw [if_pos hd, u3])
set_option maxHeartbeats 1000000 in
theorem rciv_yes (n : Int) (w : World) (h : isD n = true) :
    Calls Try.prog 19 #[.int .i64 n] w fun e w' => e = .returned (.tuple #[.int .i64 (cY n), .int .i64 (cM n), .int .i64 (cD n)]) ∧ Below w.heap.size w w' := by
  obtain ⟨h0, h1⟩ := (isD_iff n).1 h
  have HU := Lib.hid (fun y m r => rciv_uniq n y m r h)
  clear h
  go_enter Try.func19, Try.ntmps19
  go_wp2_with fail
  go_loop [0, 5] (fun r z => ∃ t x : Int, 1970 ≤ t ∧ t ≤ 9999 ∧ z = .int .i64 t ∧ r = .int .i64 x ∧ 0 ≤ x ∧ x ≤ 2932896 ∧ Hid (Cal.dby t + x = n)) (fun r _ => (intOf r).toNat)
  case atStart => exact ⟨1970, n, by omega, by omega, rfl, rfl, h0, h1, by show _ = _; rw [Cal.dby_1970]; omega⟩
  case round =>
    obtain ⟨t, x, t1, t2, rfl, rfl, x0, x1, HX⟩ := hrel
    have hs := Cal.dby_succ t
    have hl := lpB_eq t
    have h10 : Cal.dby t + 365 + Cal.lp t ≤ n → t < 9999 := by
      intro g
      by_cases e : t = 9999
      · have e2 : Cal.dby (t + 1) = 2932897 := by rw [e]; exact Cal.dby_10000
        omega
      · omega
    have H10 := Lib.hid h10
    have HS := Lib.hid hs
    have HL := Lib.hid hl
    clear hs hl h10
    cases hlp : lpB t
    · have l0 : Cal.lp t = 0 := by rw [HL.out, hlp]; rfl
      have L0 := Lib.hid l0
      clear l0
      by_cases hx : 365 ≤ x
      · by_cases hx2 : 366 ≤ x
        all_goals
          go_wp2_with (go_at_call 23; refine (rleap_any _ _).mono ?_; rintro e w2 ⟨rfl, rfl⟩)
          go_round
          case rel =>
            have := H10.out (by have := HX.out; have := L0.out; omega)
            exact ⟨t + 1, x - 365, by omega, by omega, rfl, rfl, by omega, by omega, by show _ = _; have := HX.out; have := L0.out; have := HS.out; omega⟩
          case measure => simp [intOf]; omega
      · go_wp2_with fail
        have hy : x < 365 + Cal.lp t := by have := L0.out; omega
        have HY := Lib.hid hy
        clear hy hlp H10 HS HL L0
        go_loopw [0, 6] (fun r z wr => ∃ k q : Int, 1 ≤ k ∧ k ≤ 12 ∧ z = .int .i64 k ∧ r = .int .i64 q ∧ 0 ≤ q ∧ q ≤ 366 ∧ Hid (Cal.dby t + Cal.cum t k + q = n) ∧ Hid (Cal.cum t k + q < 365 + Cal.lp t) ∧ Below w.heap.size w wr) (fun _ z _ => (12 - intOf z).toNat)
        case atStart => exact ⟨1, x, by omega, by omega, rfl, rfl, x0, by have := HY.out; have := Cal.lp_01 t; omega, by show _ = _; rw [Cal.cum_1]; have := HX.out; omega, by show _ < _; rw [Cal.cum_1]; have := HY.out; omega, Below.refl _ _⟩
        case round =>
          obtain ⟨k, q, k1, k2, rfl, rfl, q0, q1, HQ, HZ, hbel⟩ := hrel
          have hdl := Cal.dim_le t k
          by_cases hk : Cal.dim t k ≤ q
          · have k3 : k < 12 := by
              by_cases e : k = 12
              · have h1 := Cal.cum_succ t 12 (by omega) (by omega)
                have h2 := Cal.cum_13 t
                have h3 := HZ.out
                rw [e] at hk h3
                simp at h1
                omega
              · omega
            have HS2 := Lib.hid (Cal.cum_succ t k k1 k2)
            go_wp2_with fail
            refine (rdays_any _ _ _).mono ?_
            rintro e w2 ⟨rfl, b2⟩
            go_wp2_with fail
            refine (rdays_any _ _ _).mono ?_
            rintro e w3 ⟨rfl, b3⟩
            go_wp2_with fail
            go_roundw
            case rel => exact ⟨k + 1, q - Cal.dim t k, by omega, by omega, rfl, rfl, by omega, by omega, by show _ = _; rw [HS2.out]; have := HQ.out; omega, by show _ < _; rw [HS2.out]; have := HZ.out; omega, (hbel.trans (b2.mono hbel.size)).trans (b3.mono (Nat.le_trans hbel.size b2.size))⟩
            case measure => simp [intOf]; omega
          · go_wp2_with fail
            refine (rdays_any _ _ _).mono ?_
            rintro e w2 ⟨rfl, b2⟩
            go_wp2
            go_ret3
            exact ⟨HU.out t k q t1 t2 k1 k2 q0 (by omega) HQ.out, hbel.trans (b2.mono hbel.size)⟩
    · have l0 : Cal.lp t = 1 := by rw [HL.out, hlp]; rfl
      have L0 := Lib.hid l0
      clear l0
      by_cases hx : 365 ≤ x
      · by_cases hx2 : 366 ≤ x
        · go_wp2_with (go_at_call 23; refine (rleap_any _ _).mono ?_; rintro e w2 ⟨rfl, rfl⟩)
          go_round
          case rel =>
            have := H10.out (by have := HX.out; have := L0.out; omega)
            exact ⟨t + 1, x - 366, by omega, by omega, rfl, by go_num, by omega, by omega, by show _ = _; have := HX.out; have := L0.out; have := HS.out; omega⟩
          case measure => simp [intOf]; omega
        · go_wp2_with (go_at_call 23; refine (rleap_any _ _).mono ?_; rintro e w2 ⟨rfl, rfl⟩)
          have hy : x < 365 + Cal.lp t := by have := L0.out; omega
          have HY := Lib.hid hy
          clear hy hlp H10 HS HL L0
          go_loopw [0, 6] (fun r z wr => ∃ k q : Int, 1 ≤ k ∧ k ≤ 12 ∧ z = .int .i64 k ∧ r = .int .i64 q ∧ 0 ≤ q ∧ q ≤ 366 ∧ Hid (Cal.dby t + Cal.cum t k + q = n) ∧ Hid (Cal.cum t k + q < 365 + Cal.lp t) ∧ Below w.heap.size w wr) (fun _ z _ => (12 - intOf z).toNat)
          case atStart => exact ⟨1, x, by omega, by omega, rfl, rfl, x0, by have := HY.out; have := Cal.lp_01 t; omega, by show _ = _; rw [Cal.cum_1]; have := HX.out; omega, by show _ < _; rw [Cal.cum_1]; have := HY.out; omega, Below.refl _ _⟩
          case round =>
            obtain ⟨k, q, k1, k2, rfl, rfl, q0, q1, HQ, HZ, hbel⟩ := hrel
            have hdl := Cal.dim_le t k
            by_cases hk : Cal.dim t k ≤ q
            · have k3 : k < 12 := by
                by_cases e : k = 12
                · have h1 := Cal.cum_succ t 12 (by omega) (by omega)
                  have h2 := Cal.cum_13 t
                  have h3 := HZ.out
                  rw [e] at hk h3
                  simp at h1
                  omega
                · omega
              have HS2 := Lib.hid (Cal.cum_succ t k k1 k2)
              go_wp2_with fail
              refine (rdays_any _ _ _).mono ?_
              rintro e w2 ⟨rfl, b2⟩
              go_wp2_with fail
              refine (rdays_any _ _ _).mono ?_
              rintro e w3 ⟨rfl, b3⟩
              go_wp2_with fail
              go_roundw
              case rel => exact ⟨k + 1, q - Cal.dim t k, by omega, by omega, rfl, rfl, by omega, by omega, by show _ = _; rw [HS2.out]; have := HQ.out; omega, by show _ < _; rw [HS2.out]; have := HZ.out; omega, (hbel.trans (b2.mono hbel.size)).trans (b3.mono (Nat.le_trans hbel.size b2.size))⟩
              case measure => simp [intOf]; omega
            · go_wp2_with fail
              refine (rdays_any _ _ _).mono ?_
              rintro e w2 ⟨rfl, b2⟩
              go_wp2
              go_ret3
              exact ⟨HU.out t k q t1 t2 k1 k2 q0 (by omega) HQ.out, hbel.trans (b2.mono hbel.size)⟩
      · go_wp2_with fail
        have hy : x < 365 + Cal.lp t := by have := L0.out; omega
        have HY := Lib.hid hy
        clear hy hlp H10 HS HL L0
        go_loopw [0, 6] (fun r z wr => ∃ k q : Int, 1 ≤ k ∧ k ≤ 12 ∧ z = .int .i64 k ∧ r = .int .i64 q ∧ 0 ≤ q ∧ q ≤ 366 ∧ Hid (Cal.dby t + Cal.cum t k + q = n) ∧ Hid (Cal.cum t k + q < 365 + Cal.lp t) ∧ Below w.heap.size w wr) (fun _ z _ => (12 - intOf z).toNat)
        case atStart => exact ⟨1, x, by omega, by omega, rfl, rfl, x0, by have := HY.out; have := Cal.lp_01 t; omega, by show _ = _; rw [Cal.cum_1]; have := HX.out; omega, by show _ < _; rw [Cal.cum_1]; have := HY.out; omega, Below.refl _ _⟩
        case round =>
          obtain ⟨k, q, k1, k2, rfl, rfl, q0, q1, HQ, HZ, hbel⟩ := hrel
          have hdl := Cal.dim_le t k
          by_cases hk : Cal.dim t k ≤ q
          · have k3 : k < 12 := by
              by_cases e : k = 12
              · have h1 := Cal.cum_succ t 12 (by omega) (by omega)
                have h2 := Cal.cum_13 t
                have h3 := HZ.out
                rw [e] at hk h3
                simp at h1
                omega
              · omega
            have HS2 := Lib.hid (Cal.cum_succ t k k1 k2)
            go_wp2_with fail
            refine (rdays_any _ _ _).mono ?_
            rintro e w2 ⟨rfl, b2⟩
            go_wp2_with fail
            refine (rdays_any _ _ _).mono ?_
            rintro e w3 ⟨rfl, b3⟩
            go_wp2_with fail
            go_roundw
            case rel => exact ⟨k + 1, q - Cal.dim t k, by omega, by omega, rfl, rfl, by omega, by omega, by show _ = _; rw [HS2.out]; have := HQ.out; omega, by show _ < _; rw [HS2.out]; have := HZ.out; omega, (hbel.trans (b2.mono hbel.size)).trans (b3.mono (Nat.le_trans hbel.size b2.size))⟩
            case measure => simp [intOf]; omega
          · go_wp2_with fail
            refine (rdays_any _ _ _).mono ?_
            rintro e w2 ⟨rfl, b2⟩
            go_wp2
            go_ret3
            exact ⟨HU.out t k q t1 t2 k1 k2 q0 (by omega) HQ.out, hbel.trans (b2.mono hbel.size)⟩
theorem rciv_no (n : Int) (w : World) (h : isD n = false) :
    Calls Try.prog 19 #[.int .i64 n] w fun e w' => e = .returned (.tuple #[.int .i64 (cY n), .int .i64 (cM n), .int .i64 (cD n)]) ∧ Below w.heap.size w w' := by
  have hR : Ending.returned (.tuple #[.int .i64 0, .int .i64 0, .int .i64 0]) = .returned (.tuple #[.int .i64 (cY n), .int .i64 (cM n), .int .i64 (cD n)]) :=
    ret3 (by unfold cY; rw [h]; rfl) (by unfold cM; rw [h]; rfl) (by unfold cD; rw [h]; rfl)
  have HR := Lib.hid hR
  clear hR
  by_cases h0 : n < 0
  · clear h; go_enter Try.func19, Try.ntmps19
    go_wp2
    go_ret3
    exact ⟨HR.out, Below.refl _ _⟩
  have h1 : 2932896 < n := by unfold isD at h; simp at h; omega
  clear h; go_enter Try.func19, Try.ntmps19
  go_wp2
  go_ret3
  exact ⟨HR.out, Below.refl _ _⟩
theorem rciv_any (n : Int) (w : World) :
    Calls Try.prog 19 #[.int .i64 n] w fun e w' => e = .returned (.tuple #[.int .i64 (cY n), .int .i64 (cM n), .int .i64 (cD n)]) ∧ Below w.heap.size w w' := by
  cases h : isD n with
  | true => exact rciv_yes n w h
  | false => exact rciv_no n w h
end Go.Proofs.Ytokinadmeooaoaa
