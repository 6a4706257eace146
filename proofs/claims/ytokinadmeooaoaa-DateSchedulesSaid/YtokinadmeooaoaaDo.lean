/- Contracts of the reference's Working and of toward. -/
import Derived.Test.YtokinadmeooaoaaDn
import Derived.Test.YtokinadmeooaoaaLcivils
namespace Go.Proofs.Ytokinadmeooaoaa
open Go.RowKit
set_option maxHeartbeats 400000 in
theorem rworking_any (n : Int) (a : Option Addr) (len cap : Nat) (l : List Int) (w : World) (hl : Ints w a len l) :
    Calls Try.prog 34 #[.int .i64 n, .slice a len cap] w fun e w' => e = .returned (.bool (wkB n l)) ∧ w = w' := by
  have HW := Lib.hid (wkB_iff n l)
  have HF : Hid (wkB n l = false ∨ isD n = true ∧ (n + 3) % 7 < 5) := by
    show _ ∨ _
    cases h : wkB n l
    · exact .inl rfl
    · obtain ⟨h1, h2, _⟩ := (wkB_iff n l).1 h; exact .inr ⟨h1, h2⟩
  have ret_no : ∀ _h : wkB n l = false, Ending.returned (.bool false) = .returned (.bool (wkB n l)) := fun h => ret_bool h.symm
  have RN := Lib.hid ret_no
  clear ret_no
  by_cases h0 : n < 0
  · have FIN : Hid (wkB n l = false) := by
      rcases HF.out with h | ⟨h, _⟩
      · exact h
      · have := (isD_iff n).1 h; omega
    go_enter Try.func34, Try.ntmps34
    go_wp2
    go_ret
    exact ⟨RN.out FIN.out, rfl⟩
  by_cases h1 : 2932896 < n
  · have FIN : Hid (wkB n l = false) := by
      rcases HF.out with h | ⟨h, _⟩
      · exact h
      · have := (isD_iff n).1 h; omega
    go_enter Try.func34, Try.ntmps34
    go_wp2
    go_ret
    exact ⟨RN.out FIN.out, rfl⟩
  by_cases h5 : 5 ≤ (n + 3) % 7
  · have FIN : Hid (wkB n l = false) := by
      rcases HF.out with h | ⟨_, h⟩
      · exact h
      · omega
    go_enter Try.func34, Try.ntmps34
    go_wp2
    go_ret
    exact ⟨RN.out FIN.out, rfl⟩
  have HE : Hid (wkB n l = !mem n l) := by
    show _ = _
    have hd : isD n = true := (isD_iff n).2 ⟨by omega, by omega⟩
    unfold wkB; rw [hd]; simp; omega
  obtain ⟨l1, l2, l3⟩ := hl
  have H1 := Lib.hid l1
  have H3 := Lib.hid l3
  clear l1 l3 HF HW
  go_enter Try.func34, Try.ntmps34
  go_wp2_with fail
  go_loop [5] (fun i => ∃ k : Nat, i = .int .i64 k ∧ k ≤ len ∧ Hid (mem n l = decide (n ∈ l.drop k))) (fun i => len - (intOf i).toNat)
  case atStart => exact ⟨0, rfl, Nat.zero_le _, rfl⟩
  case round =>
    obtain ⟨k, rfl, hk, HX⟩ := hrel
    by_cases hlt : k < len
    · obtain ⟨b, o, rfl, hb, hc⟩ := H3.out (by omega)
      have hkl : k < l.length := by rw [H1.out]; exact hlt
      have hcell : w.cell? ⟨b, o + k, none⟩ = some (.int .i64 (l.getD k 0)) := by
        rw [hc k _ (List.getElem?_eq_getElem hkl), List.getD_eq_getElem?_getD, List.getElem?_eq_getElem hkl]; rfl
      have HM := Lib.hid (index_loop n l k hkl)
      clear hc hkl H3
      generalize l.getD k 0 = y at *
      by_cases hxy : n = y
      · have hbb : (y == n) = true := by simp [hxy]
        have FIN : Hid (wkB n l = false) := by
          show _ = _
          rw [HE.out, HX.out]; simp; rw [HM.out]; exact .inl hxy
        clear hxy
        go_wp2
        go_ret
        exact ⟨RN.out FIN.out, rfl⟩
      · have hbb : (y == n) = false := by simp; omega
        have HN : Hid (mem n l = decide (n ∈ l.drop (k + 1))) := by
          show _ = _
          rw [HX.out, decide_eq_decide, HM.out]
          exact ⟨fun h => h.resolve_left hxy, fun h => .inr h⟩
        clear hxy
        go_wp2
        go_round
        case rel => exact ⟨k + 1, by go_num, by omega, HN⟩
        case measure => simp [intOf]; omega
    · have FIN : Hid (wkB n l = true) := by
        show _ = _
        rw [HE.out, HX.out, List.drop_of_length_le (by rw [H1.out]; omega)]; simp
      go_wp2
      go_ret
      exact ⟨ret_bool FIN.out.symm, rfl⟩
/-- The first working day from n on, upwards, or downwards; -1: there is none. -/
def upF (l : List Int) : Nat → Int → Int
  | 0, _ => -1
  | k + 1, n => if isD n then (if wkB n l then n else upF l k (n + 1)) else -1
def up (l : List Int) (n : Int) : Int := upF l (2932897 - n).toNat n
def dnF (l : List Int) : Nat → Int → Int
  | 0, _ => -1
  | k + 1, n => if isD n then (if wkB n l then n else dnF l k (n - 1)) else -1
def dn (l : List Int) (n : Int) : Int := dnF l (n + 1).toNat n
theorem up_eq (l : List Int) (n : Int) : up l n = if isD n then (if wkB n l then n else up l (n + 1)) else -1 := by
  unfold up
  by_cases h : isD n = true
  · have := (isD_iff n).1 h
    have e : (2932897 - n).toNat = (2932897 - (n + 1)).toNat + 1 := by omega
    rw [e]; rfl
  · rw [if_neg h]
    cases hk : (2932897 - n).toNat with
    | zero => rfl
    | succ k => simp [upF, h]
theorem dn_eq (l : List Int) (n : Int) : dn l n = if isD n then (if wkB n l then n else dn l (n - 1)) else -1 := by
  unfold dn
  by_cases h : isD n = true
  · have := (isD_iff n).1 h
    have e : (n + 1).toNat = (n - 1 + 1).toNat + 1 := by omega
    rw [e]; rfl
  · rw [if_neg h]
    cases hk : (n + 1).toNat with
    | zero => rfl
    | succ k => simp [dnF, h]
def tw (step : Int) (l : List Int) (n : Int) : Int := if step = 1 then up l n else dn l n
set_option maxHeartbeats 400000 in
theorem toward_any (n step : Int) (a : Option Addr) (len cap : Nat) (l : List Int) (w : World) (hl : Ints w a len l) (hs : step = 1 ∨ step = -1) (n0 : -1 ≤ n) (n1 : n ≤ 2932897) :
    Calls Try.prog 45 #[.int .i64 n, .int .i64 step, .slice a len cap] w fun e w' => e = .returned (.int .i64 (tw step l n)) ∧ w = w' := by
  have HT : Hid (∀ m, tw step l m = if isD m then (if wkB m l then m else tw step l (m + step)) else -1) := by
    show ∀ m, _
    intro m
    rcases hs with rfl | rfl
    · exact up_eq l m
    · exact dn_eq l m
  have hs2 : -1 ≤ step ∧ step ≤ 1 ∧ step ≠ 0 := by omega
  have HS := Lib.hid hs
  obtain ⟨s1, s2, s3⟩ := hs2
  have HR := Lib.hid (fun (x : Int) (h : tw step l n = x) => (ret_int h.symm : Ending.returned (.int .i64 x) = .returned (.int .i64 (tw step l n))))
  have HW := Lib.hid (fun m => working_any m a len cap l w hl)
  clear hs hl
  go_enter Try.func45, Try.ntmps45
  go_wp2_with fail
  go_loop [0] (fun i => ∃ m : Int, i = .int .i64 m ∧ -1 ≤ m ∧ m ≤ 2932897 ∧ Hid (tw step l n = tw step l m)) (fun i => if step = 1 then (2932898 - intOf i).toNat else (intOf i + 2).toNat)
  case atStart => exact ⟨n, rfl, n0, n1, rfl⟩
  case round =>
    obtain ⟨m, rfl, m0, m1, HX⟩ := hrel
    have E := Lib.hid (HT.out m)
    cases hd : isD m
    · have FIN : Hid (tw step l n = -1) := by show _ = _; rw [HX.out, E.out, hd]; rfl
      go_wp2_with fail
      refine (is_any _ _).mono ?_; rintro e w' ⟨rfl, rfl⟩
      rw [hd]
      go_wp2
      go_ret
      exact ⟨HR.out _ FIN.out, rfl⟩
    · obtain ⟨d0, d1⟩ := (isD_iff m).1 hd
      cases hw : wkB m l
      · have HN : Hid (tw step l n = tw step l (m + step)) := by show _ = _; rw [HX.out, E.out, hd, hw]; rfl
        have HD := Lib.hid hd
        have HW2 := Lib.hid hw
        clear hd hw
        go_wp2_with fail
        refine (is_any _ _).mono ?_; rintro e w' ⟨rfl, rfl⟩
        rw [HD.out]
        go_wp2_with fail
        refine (HW.out _).mono ?_; rintro e w' ⟨rfl, rfl⟩
        rw [HW2.out]
        go_wp2
        go_round
        case rel => exact ⟨m + step, by go_num, by omega, by omega, HN⟩
        case measure => simp only [intOf]; have := HS.out; split <;> omega
      · have FIN : Hid (tw step l n = m) := by show _ = _; rw [HX.out, E.out, hd, hw]; rfl
        have HD := Lib.hid hd
        have HW2 := Lib.hid hw
        clear hd hw
        go_wp2_with fail
        refine (is_any _ _).mono ?_; rintro e w' ⟨rfl, rfl⟩
        rw [HD.out]
        go_wp2_with fail
        refine (HW.out _).mono ?_; rintro e w' ⟨rfl, rfl⟩
        rw [HW2.out]
        go_wp2
        go_ret
        exact ⟨HR.out _ FIN.out, rfl⟩
end Go.Proofs.Ytokinadmeooaoaa
