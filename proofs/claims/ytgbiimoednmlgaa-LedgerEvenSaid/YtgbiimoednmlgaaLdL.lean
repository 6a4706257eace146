/- The contracts of ref24.Same, ref24.SameMoves, of two lists that are one. -/
import Derived.Test.YtgbiimoednmlgaaLdK
namespace Go.Proofs.Ytgbiimoednmlgaa
set_option linter.unusedVariables false
set_option linter.unusedSimpArgs false
open Go.RowKit
set_option maxRecDepth 100000 in
set_option maxHeartbeats 4000000 in
theorem sameA_any (L : List Acct) (a a' : Option Addr) (len cap cap' : Nat) (w : World) (h1 : SlR acctK w [] L a len cap) (h2 : SlR acctK w [] L a' len cap') (hn : len ≤ 1000000) :
    Calls Try.prog 13 #[.slice a len cap, .slice a' len cap'] w fun x w' => x = .returned (.bool true) ∧ Below w.heap.size w w' := by
  have HA := Lib.hid h1
  have HB := Lib.hid h2
  clear h1 h2
  go_enter Try.func13, Try.ntmps13
  go_wp2_with fail
  go_loopw [5] (fun i wr => ∃ (k : Nat), i = .int .i64 (k : Nat) ∧ k ≤ len ∧ Hid (Below w.heap.size w wr)) (fun i _ => len - (intOf i).toNat)
  case atStart => exact ⟨0, rfl, Nat.zero_le _, Below.refl _ _⟩
  case round =>
    obtain ⟨k, rfl, hk, HR⟩ := hrel
    by_cases hlt : k < len
    · have hk' : (k : Int) < (len : Int) := by omega
      have i0 : (0 : Int) ≤ (k : Int) := by omega
      obtain ⟨b, o, s, rfl, hs, -, u0, u1, u2⟩ := acct_at (HA.out.kept (Kept.of_below HR.out [])) k hlt
      obtain ⟨b', o', s', rfl, hs', -, v0, v1, v2⟩ := acct_at (HB.out.kept (Kept.of_below HR.out [])) k hlt
      obtain rfl : s = s' := by rw [hs] at hs'; injection hs'
      clear hs hs'
      go_wp2_with fail
      go_quiet (fail)
      go_wp2_with fail
      go_roundw
      case rel => exact ⟨k + 1, by go_num, by omega, below_dN HR.out _⟩
      case measure => simp [intOf]; omega
    · have hk' : ¬ (k : Int) < (len : Int) := by omega
      go_wp2_with fail
      go_ret
      exact ⟨rfl, HR.out⟩
set_option maxRecDepth 100000 in
set_option maxHeartbeats 4000000 in
theorem sameM_any (L : List Mv) (a a' : Option Addr) (len cap cap' : Nat) (w : World) (h1 : SlR mvK w [] L a len cap) (h2 : SlR mvK w [] L a' len cap') (hn : len ≤ 1000000) :
    Calls Try.prog 15 #[.slice a len cap, .slice a' len cap'] w fun x w' => x = .returned (.bool true) ∧ Below w.heap.size w w' := by
  have HA := Lib.hid h1
  have HB := Lib.hid h2
  clear h1 h2
  go_enter Try.func15, Try.ntmps15
  go_wp2_with fail
  go_loopw [5] (fun i wr => ∃ (k : Nat), i = .int .i64 (k : Nat) ∧ k ≤ len ∧ Hid (Below w.heap.size w wr)) (fun i _ => len - (intOf i).toNat)
  case atStart => exact ⟨0, rfl, Nat.zero_le _, Below.refl _ _⟩
  case round =>
    obtain ⟨k, rfl, hk, HR⟩ := hrel
    by_cases hlt : k < len
    · have hk' : (k : Int) < (len : Int) := by omega
      have i0 : (0 : Int) ≤ (k : Int) := by omega
      obtain ⟨b, o, s, rfl, hs, -, u0, u1, u2, u3⟩ := mv_at (HA.out.kept (Kept.of_below HR.out [])) k hlt
      obtain ⟨b', o', s', rfl, hs', -, v0, v1, v2, v3⟩ := mv_at (HB.out.kept (Kept.of_below HR.out [])) k hlt
      obtain rfl : s = s' := by rw [hs] at hs'; injection hs'
      clear hs hs'
      go_wp2_with fail
      go_quiet (fail)
      go_wp2_with fail
      go_roundw
      case rel => exact ⟨k + 1, by go_num, by omega, below_dN HR.out _⟩
      case measure => simp [intOf]; omega
    · have hk' : ¬ (k : Int) < (len : Int) := by omega
      go_wp2_with fail
      go_ret
      exact ⟨rfl, HR.out⟩
end Go.Proofs.Ytgbiimoednmlgaa
