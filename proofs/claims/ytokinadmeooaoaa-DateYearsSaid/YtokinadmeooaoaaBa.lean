/- Contracts over slices of digits: trim, cmp. -/
import Derived.Test.YtokinadmeooaoaaDc
import Derived.Test.YtokinadmeooaoaaBig
namespace Go.Proofs.Ytokinadmeooaoaa
open Go.RowKit
/-- A slice of digits: its elements are l. -/
def Nums (w : World) (a : Option Addr) (len cap : Nat) (l : List Nat) : Prop :=
  l.length = len ∧ len ≤ cap ∧ cap ≤ 9223372036854775807 ∧ (0 < len → ∃ b o, a = some ⟨b, o, none⟩ ∧ b < w.heap.size ∧ ∀ i x, l[i]? = some x → w.cell? ⟨b, o + i, none⟩ = some (.int .u64 (x : Nat)))
theorem Nums.below {w w' : World} {a : Option Addr} {len cap : Nat} {l : List Nat} (h : Nums w a len cap l) (hb : Below w.heap.size w w') : Nums w' a len cap l := by
  obtain ⟨h1, h2, h2', h3⟩ := h
  refine ⟨h1, h2, h2', fun hl => ?_⟩
  obtain ⟨b, o, ha, hlt, hc⟩ := h3 hl
  exact ⟨b, o, ha, Nat.lt_of_lt_of_le hlt hb.size, fun i x hx => (hb.cell (p := ⟨b, o + i, none⟩) hlt).trans (hc i x hx)⟩
theorem Nums.take {w : World} {a : Option Addr} {len cap : Nat} {l : List Nat} (h : Nums w a len cap l) (k : Nat) (hk : k ≤ len) : Nums w a k cap (l.take k) := by
  obtain ⟨h1, h2, h2', h3⟩ := h
  refine ⟨by simp; omega, by omega, h2', fun hl => ?_⟩
  obtain ⟨b, o, ha, hlt, hc⟩ := h3 (by omega)
  refine ⟨b, o, ha, hlt, fun i x hx => hc i x ?_⟩
  rw [List.getElem?_take] at hx
  split at hx
  · exact hx
  · cases hx
theorem Nums.at {w : World} {a : Option Addr} {len cap : Nat} {l : List Nat} (h : Nums w a len cap l) (k : Nat) (hk : k < len) : ∃ b o, a = some ⟨b, o, none⟩ ∧ b < w.heap.size ∧ w.cell? ⟨b, o + k, none⟩ = some (.int .u64 (l.getD k 0 : Nat)) := by
  obtain ⟨h1, h2, h2', h3⟩ := h
  obtain ⟨b, o, ha, hlt, hc⟩ := h3 (by omega)
  refine ⟨b, o, ha, hlt, ?_⟩
  rw [hc k (l.getD k 0) (by rw [List.getD_eq_getElem?_getD, List.getElem?_eq_getElem (by omega)]; rfl)]
theorem trim_len (l : List Nat) : Big.trim l = l.take (Big.trim l).length := by
  unfold Big.trim
  have h := List.dropWhile_suffix (fun x : Nat => x == 0) (l := l.reverse)
  have h2 : (l.reverse.dropWhile (· == 0)).reverse <+: l := by
    have := List.reverse_prefix.2 h
    rwa [List.reverse_reverse] at this
  exact List.prefix_iff_eq_take.1 h2
theorem trim_le (l : List Nat) : (Big.trim l).length ≤ l.length := by
  rw [trim_len l, List.length_take]; exact Nat.min_le_right _ _
def lenOf : Value → Nat | .slice _ n _ => n | _ => 0
set_option maxHeartbeats 400000 in
theorem trim_any (a : Option Addr) (len cap : Nat) (l : List Nat) (w : World) (hl : Nums w a len cap l) :
    Calls Try.prog 56 #[.slice a len cap] w fun e w' => e = .returned (.slice a (Big.trim l).length cap) ∧ w = w' := by
  have HL := Lib.hid hl
  have h1 := hl.1
  have h2 := hl.2.1
  have h3 := hl.2.2.1
  have H1 := Lib.hid h1
  clear hl h1
  go_enter Try.func56, Try.ntmps56
  go_wp2_with fail
  go_loop [0] (fun i => ∃ k : Nat, i = .slice a k cap ∧ k ≤ len ∧ Hid (Big.trim l = Big.trim (l.take k))) (fun i => lenOf i)
  case atStart => exact ⟨len, rfl, Nat.le_refl _, by show _ = _; rw [List.take_of_length_le (by rw [H1.out]; exact Nat.le_refl _)]⟩
  case round =>
    obtain ⟨k, rfl, hk, HX⟩ := hrel
    cases k with
    | zero =>
      have FIN : Hid ((Big.trim l).length = 0) := by show _ = _; rw [HX.out]; rfl
      go_wp2
      go_ret
      rw [FIN.out]; exact ⟨rfl, rfl⟩
    | succ j =>
      obtain ⟨b, o, rfl, hb, hc⟩ := HL.out.at j (by omega)
      have hj : j < l.length := by rw [H1.out]; omega
      have T0 := Lib.hid (Big.trim_take_succ l j hj)
      have T1 := Lib.hid (Big.trim_take_stop l j hj)
      clear hj
      generalize l.getD j 0 = x at *
      by_cases hx : x = 0
      · have HN : Hid (Big.trim l = Big.trim (l.take j)) := by show _ = _; rw [HX.out, T0.out hx]
        subst hx
        go_wp2
        go_round
        case rel => exact ⟨j, by go_num, by omega, HN⟩
        case measure => simp [lenOf]
      · have hx2 : ((x : Int) == 0) = false := by simp [hx]
        have FIN : Hid ((Big.trim l).length = j + 1) := by
          show _ = _
          rw [HX.out, T1.out hx, List.length_take, H1.out]; omega
        clear hx
        go_wp2
        go_ret
        rw [FIN.out]; exact ⟨rfl, rfl⟩
end Go.Proofs.Ytokinadmeooaoaa
