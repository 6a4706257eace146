import Derived.Test.YtokinadmeooaoaaBa
import Derived.WalkSmall
import Derived.BigQuiet
namespace Go.Proofs.Ytokinadmeooaoaa
open Go.RowKit
def cmpI (a b : List Nat) : Int := if Big.val a < Big.val b then -1 else if Big.val a = Big.val b then 0 else 1
theorem cmp_bel (w : World) (n : Nat) : Below w.heap.size w (w.drewN n) := below_drewN (Below.refl _ _) n
set_option maxHeartbeats 1000000 in
theorem cmp_any (a : Option Addr) (len cap : Nat) (l : List Nat) (a' : Option Addr) (len' cap' : Nat) (l' : List Nat) (w : World) (hl : Nums w a len cap l) (hl' : Nums w a' len' cap' l') (hn : Big.Norm l) (hn' : Big.Norm l') :
    Calls Try.prog 63 #[.slice a len cap, .slice a' len' cap'] w fun e w' => e = .returned (.int .i64 (cmpI l l')) ∧ Below w.heap.size w w' := by
  have HR := Lib.hid (fun (x : Int) (h : cmpI l l' = x) => (ret_int h.symm : Ending.returned (.int .i64 x) = .returned (.int .i64 (cmpI l l'))))
  have h2 := hl.2.1
  have h3 := hl.2.2.1
  have h2' := hl'.2.1
  have h3' := hl'.2.2.1
  have HL := Lib.hid hl
  have HL' := Lib.hid hl'
  rcases Nat.lt_trichotomy len len' with hlt | rfl | hlt
  · have FIN := Lib.hid (HR.out (-1) (by unfold cmpI; rw [if_pos (hn.length_lt_val hn' (by rw [hl.1, hl'.1]; exact hlt))]))
    have t1 : ((len : Int) == (len' : Int)) = false := by simp; omega
    clear hl hl' hn hn'
    go_enter Try.func63, Try.ntmps63
    go_wp2
    go_ret
    exact ⟨FIN.out, Below.refl _ _⟩
  · have HN := Lib.hid hn
    have HN' := Lib.hid hn'
    have HE := Lib.hid (show l.length = l'.length by rw [hl.1, hl'.1])
    have H1 := Lib.hid hl.1
    clear hl hl' hn hn'
    go_enter Try.func63, Try.ntmps63
    go_wp2_with fail
    go_loopw [5] (fun i wr => ∃ k : Nat, i = .int .i64 ((k : Int) - 1) ∧ k ≤ len ∧ Hid (l.drop k = l'.drop k) ∧ Below w.heap.size w wr) (fun i _ => (intOf i + 1).toNat)
    case atStart => exact ⟨len, rfl, Nat.le_refl _, by show _ = _; rw [List.drop_of_length_le (by rw [H1.out]; exact Nat.le_refl _), List.drop_of_length_le (by rw [← HE.out, H1.out]; exact Nat.le_refl _)], Below.refl _ _⟩
    case round =>
      obtain ⟨k, rfl, hk, HX, hbel⟩ := hrel
      cases k with
      | zero =>
        have FIN := Lib.hid (HR.out 0 (by
          have e : l = l' := by simpa using HX.out
          unfold cmpI; rw [e, if_neg (Nat.lt_irrefl _), if_pos rfl]))
        go_wp2
        go_ret
        exact ⟨FIN.out, hbel⟩
      | succ j =>
        obtain ⟨b, o, rfl, hb, hc⟩ := (HL.out.below hbel).at j (by omega)
        obtain ⟨b', o', rfl, hb', hc'⟩ := (HL'.out.below hbel).at j (by omega)
        have hj : j < l.length := by rw [H1.out]; omega
        have C1 := Lib.hid (Big.cmp_lt l l' j HN.out.1 HE.out hj HX.out)
        have C2 := Lib.hid (Big.cmp_lt l' l j HN'.out.1 HE.out.symm (by rw [← HE.out]; exact hj) HX.out.symm)
        have hd : Hid (l.getD j 0 = l'.getD j 0 → l.drop j = l'.drop j) := by
          show _ → _
          intro h
          have hj' : j < l'.length := by rw [← HE.out]; exact hj
          rw [List.drop_eq_getElem_cons hj, List.drop_eq_getElem_cons hj', HX.out]
          rw [List.getD_eq_getElem?_getD, List.getD_eq_getElem?_getD, List.getElem?_eq_getElem hj, List.getElem?_eq_getElem hj'] at h
          simp at h
          rw [h]
        clear hj
        generalize l.getD j 0 = x at *
        generalize l'.getD j 0 = y at *
        rcases Nat.lt_trichotomy x y with hxy | rfl | hxy
        · have FIN := Lib.hid (HR.out (-1) (by unfold cmpI; rw [if_pos (C1.out hxy)]))
          go_wp2_with fail
          go_quiet (fail)
          go_wp2
          go_ret
          exact ⟨FIN.out, below_drewN hbel _⟩
        · have HN2 := Lib.hid (hd.out rfl)
          go_wp2_with fail
          go_quiet (fail)
          go_wp2_with fail
          go_quiet (fail)
          go_wp2_with fail
          go_roundw
          case rel => exact ⟨j, by go_num, by omega, HN2, below_drewN hbel _⟩
          case measure => simp [intOf]
        · have FIN := Lib.hid (HR.out 1 (by unfold cmpI; have := C2.out hxy; rw [if_neg (by omega), if_neg (by omega)]))
          go_wp2_with fail
          go_quiet (fail)
          go_wp2_with fail
          go_quiet (fail)
          go_wp2
          go_ret
          exact ⟨FIN.out, below_drewN (below_drewN hbel _) _⟩
  · have hv := hn'.length_lt_val hn (by rw [hl.1, hl'.1]; exact hlt)
    have FIN := Lib.hid (HR.out 1 (by unfold cmpI; rw [if_neg (by omega), if_neg (by omega)]))
    have t1 : ((len : Int) == (len' : Int)) = false := by simp; omega
    clear hl hl' hn hn' hv
    go_enter Try.func63, Try.ntmps63
    go_wp2
    go_ret
    exact ⟨FIN.out, Below.refl _ _⟩
end Go.Proofs.Ytokinadmeooaoaa
