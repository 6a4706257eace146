/- Contracts of slices.Index and Contains over []int, and of Working; no conditions. -/
import Derived.Test.YtokinadmeooaoaaDc
import Derived.Test.YtokinadmeooaoaaMem
namespace Go.Proofs.Ytokinadmeooaoaa
open Go.RowKit
/-- A slice of integers: its elements are l. -/
def Ints (w : World) (a : Option Addr) (len : Nat) (l : List Int) : Prop :=
  l.length = len ∧ len ≤ 9223372036854775807 ∧ (0 < len → ∃ b o, a = some ⟨b, o, none⟩ ∧ b < w.heap.size ∧ ∀ i x, l[i]? = some x → w.cell? ⟨b, o + i, none⟩ = some (.int .i64 x))
theorem Ints.below {w w' : World} {a : Option Addr} {len : Nat} {l : List Int} (h : Ints w a len l) (hb : Below w.heap.size w w') : Ints w' a len l := by
  obtain ⟨h1, h2, h3⟩ := h
  refine ⟨h1, h2, fun hl => ?_⟩
  obtain ⟨b, o, ha, hlt, hc⟩ := h3 hl
  exact ⟨b, o, ha, Nat.lt_of_lt_of_le hlt hb.size, fun i x hx => (hb.cell (p := ⟨b, o + i, none⟩) hlt).trans (hc i x hx)⟩
theorem index_loop (x : Int) (l : List Int) (k : Nat) (h : k < l.length) : x ∈ l.drop k ↔ (x = l.getD k 0 ∨ x ∈ l.drop (k + 1)) := by
  rw [List.drop_eq_getElem_cons h, List.mem_cons, List.getD_eq_getElem?_getD, List.getElem?_eq_getElem h]; rfl
set_option maxHeartbeats 400000 in
theorem index_any (a : Option Addr) (len cap : Nat) (l : List Int) (x : Int) (w : World) (hl : Ints w a len l) (r : Bool) (hr : decide (x ∈ l) = r) :
    Calls Try.prog 57 #[.slice a len cap, .int .i64 x] w fun e w' => (∃ k : Int, e = .returned (.int .i64 k) ∧ Hid (decide (0 ≤ k) = r)) ∧ w = w' := by
  obtain ⟨h1, h2, h3⟩ := hl
  have H1 := Lib.hid h1
  have HR := Lib.hid hr
  have H3 := Lib.hid h3
  clear h1 hr h3
  go_enter Try.func57, Try.ntmps57
  go_wp2_with fail
  go_loop [8] (fun i => ∃ k : Nat, i = .int .i64 k ∧ k ≤ len ∧ Hid (decide (x ∈ l.drop k) = r)) (fun i => len - (intOf i).toNat)
  case atStart => exact ⟨0, rfl, Nat.zero_le _, HR⟩
  case round =>
    obtain ⟨k, rfl, hk, HX⟩ := hrel
    by_cases hlt : k < len
    · obtain ⟨b, o, rfl, hb, hc⟩ := H3.out (by omega)
      have hkl : k < l.length := by rw [H1.out]; exact hlt
      have hcell : w.cell? ⟨b, o + k, none⟩ = some (.int .i64 (l.getD k 0)) := by
        rw [hc k _ (List.getElem?_eq_getElem hkl), List.getD_eq_getElem?_getD, List.getElem?_eq_getElem hkl]; rfl
      have HM := Lib.hid (index_loop x l k hkl)
      clear hc hkl H3
      generalize l.getD k 0 = y at *
      by_cases hxy : x = y
      · have hbb : (x == y) = true := by simp [hxy]
        have FIN : Hid (decide (0 ≤ (k : Int)) = r) := by
          show _ = _
          rw [← HX.out, decide_eq_decide, HM.out]
          exact ⟨fun _ => .inl hxy, fun _ => by omega⟩
        clear hxy
        go_wp2
        go_ret
        exact ⟨⟨k, rfl, FIN⟩, rfl⟩
      · have hbb : (x == y) = false := by simp [hxy]
        have HN : Hid (decide (x ∈ l.drop (k + 1)) = r) := by
          show _ = _
          rw [← HX.out, decide_eq_decide, HM.out]
          exact ⟨fun h => .inr h, fun h => h.resolve_left hxy⟩
        clear hxy
        go_wp2
        go_round
        case rel => exact ⟨k + 1, by go_num, by omega, HN⟩
        case measure => simp [intOf]; omega
    · have FIN : Hid (decide (0 ≤ (-1 : Int)) = r) := by
        show _ = _
        rw [← HX.out, List.drop_of_length_le (by rw [H1.out]; omega)]; simp
      go_wp2
      go_ret
      exact ⟨⟨-1, rfl, FIN⟩, rfl⟩
def mem (x : Int) (l : List Int) : Bool := decide (x ∈ l)
theorem contains_any (a : Option Addr) (len cap : Nat) (l : List Int) (x : Int) (w : World) (hl : Ints w a len l) :
    Calls Try.prog 47 #[.slice a len cap, .int .i64 x] w fun e w' => e = .returned (.bool (mem x l)) ∧ w = w' := by
  have HI := Lib.hid (index_any a len cap l x w hl (mem x l) rfl)
  generalize mem x l = r at *
  clear hl
  go_enter Try.func47, Try.ntmps47
  go_wp2_with fail
  refine HI.out.mono ?_
  rintro e w' ⟨⟨k, rfl, hk⟩, rfl⟩
  go_wp2
  go_ret
  exact ⟨ret_bool hk.out, rfl⟩
def wkB (n : Int) (l : List Int) : Bool := isD n && decide ((n + 3) % 7 < 5) && !mem n l
theorem wkB_iff (n : Int) (l : List Int) : wkB n l = true ↔ isD n = true ∧ (n + 3) % 7 < 5 ∧ mem n l = false := by
  unfold wkB; simp [and_assoc]
theorem working_any (n : Int) (a : Option Addr) (len cap : Nat) (l : List Int) (w : World) (hl : Ints w a len l) :
    Calls Try.prog 33 #[.int .i64 n, .slice a len cap] w fun e w' => e = .returned (.bool (wkB n l)) ∧ w = w' := by
  have HC := Lib.hid (contains_any a len cap l n w hl)
  have HW := Lib.hid (show wkB n l = (isD n && decide ((n + 3) % 7 < 5) && !mem n l) from rfl)
  clear hl
  cases hd : isD n
  · have FIN := Lib.hid (show wkB n l = false by rw [HW.out, hd]; rfl)
    have HD := Lib.hid hd
    clear hd
    go_enter Try.func33, Try.ntmps33
    go_wp2_with fail
    refine (is_any _ _).mono ?_; rintro e w' ⟨rfl, rfl⟩
    rw [HD.out]
    go_wp2
    go_ret
    exact ⟨ret_bool FIN.out.symm, rfl⟩
  · have hk : wkd n = (n + 3) % 7 := by unfold wkd; rw [if_pos hd]
    have HK := Lib.hid hk
    have HD := Lib.hid hd
    by_cases h5 : (n + 3) % 7 < 5
    · have FIN := Lib.hid (show wkB n l = !mem n l by rw [HW.out, hd]; simp [h5])
      clear hd hk
      go_enter Try.func33, Try.ntmps33
      go_wp2_with fail
      refine (is_any _ _).mono ?_; rintro e w' ⟨rfl, rfl⟩
      rw [HD.out]
      go_wp2_with fail
      refine (weekday_any _ _).mono ?_; rintro e w' ⟨rfl, rfl⟩
      rw [HK.out]
      go_wp2_with fail
      refine HC.out.mono ?_; rintro e w' ⟨rfl, rfl⟩
      go_wp2
      go_ret
      exact ⟨ret_bool FIN.out.symm, rfl⟩
    · have FIN := Lib.hid (show wkB n l = false by rw [HW.out, hd]; simp [h5])
      clear hd hk
      go_enter Try.func33, Try.ntmps33
      go_wp2_with fail
      refine (is_any _ _).mono ?_; rintro e w' ⟨rfl, rfl⟩
      rw [HD.out]
      go_wp2_with fail
      refine (weekday_any _ _).mono ?_; rintro e w' ⟨rfl, rfl⟩
      rw [HK.out]
      go_wp2
      go_ret
      exact ⟨ret_bool FIN.out.symm, rfl⟩
end Go.Proofs.Ytokinadmeooaoaa
