/- The contract of same: are two lists of numbers one? -/
import Derived.Test.YtokinadmeooaoaaSd
namespace Go.Proofs.Ytokinadmeooaoaa
set_option linter.unusedVariables false
set_option linter.unusedSimpArgs false
open Go.RowKit
theorem Ints.get {w : World} {a : Option Addr} {len : Nat} {l : List Int} (h : Ints w a len l) (k : Nat) (hk : k < len) : ∃ b o x, a = some ⟨b, o, none⟩ ∧ l[k]? = some x ∧ w.cell? ⟨b, o + k, none⟩ = some (.int .i64 x) := by
  obtain ⟨b, o, ha, -, hc⟩ := h.2.2 (by omega)
  have hx : l[k]? = some (l[k]'(by rw [h.1]; exact hk)) := List.getElem?_eq_getElem _
  exact ⟨b, o, _, ha, hx, hc k _ hx⟩
set_option maxRecDepth 100000 in
set_option maxHeartbeats 1000000 in
theorem same_any (a a' : Option Addr) (len cap len' cap' : Nat) (l l' : List Int) (w : World) (h : Ints w a len l) (h' : Ints w a' len' l') (hm : len ≤ 1000000) (hm' : len' ≤ 1000000) :
    Calls Try.prog 37 #[.slice a len cap, .slice a' len' cap'] w fun e w' => e = .returned (.bool (decide (l = l'))) ∧ Below w.heap.size w w' := by
  by_cases hl : len = len'
  · subst hl
    have H := Lib.hid h
    have H' := Lib.hid h'
    have HL := Lib.hid h.1
    have HL' := Lib.hid h'.1
    have HNO : Hid (∀ (k : Nat) x y, l[k]? = some x → l'[k]? = some y → x ≠ y → decide (l = l') = false) := fun k x y hx hy hne => decide_eq_false (fun e => by subst e; rw [hx] at hy; injection hy with hy; exact hne hy)
    have HYES : Hid ((∀ k, k < len → l[k]? = l'[k]?) → decide (l = l') = true) := fun hh => decide_eq_true (List.ext_getElem? (fun k => by
      rcases Nat.lt_or_ge k len with hk | hk
      · exact hh k hk
      · rw [List.getElem?_eq_none (by rw [HL.out]; exact hk), List.getElem?_eq_none (by rw [HL'.out]; exact hk)]))
    clear h h'
    generalize decide (l = l') = R at *
    go_enter Try.func37, Try.ntmps37
    go_wp2_with fail
    go_loopw [5] (fun i wr => ∃ k : Nat, i = .int .i64 (k : Nat) ∧ k ≤ len ∧ Hid (Below w.heap.size w wr ∧ ∀ j, j < k → l[j]? = l'[j]?)) (fun i _ => len - (intOf i).toNat)
    case atStart => exact ⟨0, rfl, Nat.zero_le _, Below.refl _ _, fun j hj => by omega⟩
    case round =>
      obtain ⟨k, rfl, hk, HR⟩ := hrel
      by_cases hlt : k < len
      · obtain ⟨b, o, x, rfl, hx, c0⟩ := (H.out.below HR.out.1).get k hlt
        obtain ⟨b', o', y, rfl, hy, c1⟩ := (H'.out.below HR.out.1).get k hlt
        have j0 : (0 : Int) ≤ (k : Int) := by omega
        have j1 : (k : Int) < (len : Int) := by omega
        have HX := Lib.hid hx
        have HY := Lib.hid hy
        clear hx hy
        by_cases hxy : x = y
        · subst hxy
          have FIN : Hid (Below w.heap.size w wr.drew ∧ ∀ j, j < k + 1 → l[j]? = l'[j]?) := ⟨HR.out.1.drew, fun j hj => by
            rcases Nat.eq_or_lt_of_le (Nat.le_of_lt_succ hj) with rfl | h1
            · rw [HX.out, HY.out]
            · exact HR.out.2 j h1⟩
          clear HR HX HY
          go_wp2_with fail
          go_region
          go_wp2_with fail
          go_roundw
          case rel => exact ⟨k + 1, by go_num, by omega, FIN.out⟩
          case measure => simp [intOf]; omega
        · have hR := HNO.out k x y HX.out HY.out hxy
          have hB := Lib.hid HR.out.1.drew
          have hxy' : (x == y) = false := beq_eq_false_iff_ne.2 hxy
          clear HR HX HY HNO HYES
          subst hR
          go_wp2_with fail
          go_region
          go_wp2_with fail
          go_ret
          exact ⟨rfl, hB.out⟩
      · have hR := HYES.out (fun j hj => HR.out.2 j (by omega))
        have hB := Lib.hid HR.out.1
        have hk' : ¬ (k : Int) < (len : Int) := by omega
        clear HR HNO HYES
        subst hR
        go_wp2_with fail
        go_ret
        exact ⟨rfl, hB.out⟩
  · have hR : decide (l = l') = false := decide_eq_false (fun e => hl (by rw [← h.1, ← h'.1, e]))
    rw [hR]
    have hl' : ¬ (len : Int) = (len' : Int) := by omega
    have hl2 : ((len : Int) == (len' : Int)) = false := beq_eq_false_iff_ne.2 hl'
    clear hR h h'
    go_enter Try.func37, Try.ntmps37
    go_wp2_with fail
    go_ret
    exact ⟨rfl, Below.refl _ _⟩
end Go.Proofs.Ytokinadmeooaoaa
