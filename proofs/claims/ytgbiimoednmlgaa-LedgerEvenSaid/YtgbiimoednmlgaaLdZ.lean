/- The contract of great. -/
import Derived.Test.YtgbiimoednmlgaaLdY
namespace Go.Proofs.Ytgbiimoednmlgaa
set_option linter.unusedVariables false
set_option linter.unusedSimpArgs false
open Go.RowKit
def GrR (x : Ending) (ll ml : Nat) : Prop := ∃ b : Bool, x = .returned (.bool b) ∧ (b = false → ll ≤ 40 ∧ ml ≤ 40)
set_option maxRecDepth 100000 in
set_option maxHeartbeats 4000000 in
theorem great_any (l : List Acct) (m : List Mv) (la : Option Addr) (ll lc : Nat) (ma : Option Addr) (ml mc : Nat) (w : World) (hl : SlR acctK w [] l la ll lc) (hm : SlR mvK w [] m ma ml mc) :
    Calls Try.prog 8 #[.slice la ll lc, .slice ma ml mc] w fun x w' => GrR x ll ml ∧ w' = w := by
  have HS := Lib.hid hl
  have HM := Lib.hid hm
  clear hl hm
  go_enter Try.func8, Try.ntmps8
  by_cases h1 : 40 < ll
  · have h1' : (40 : Int) < (ll : Int) := by omega
    clear h1
    go_wp2_with fail
    go_ret
    exact ⟨⟨true, rfl, fun h => by cases h⟩, rfl⟩
  · have h1' : ¬ (40 : Int) < (ll : Int) := by omega
    have h1d : decide ((40 : Int) < (ll : Int)) = false := decide_eq_false h1'
    have h1n : decide (40 < ll) = false := decide_eq_false h1
    by_cases h2 : 40 < ml
    · have h2' : (40 : Int) < (ml : Int) := by omega
      have h2d : decide ((40 : Int) < (ml : Int)) = true := decide_eq_true h2'
      clear h1 h2
      go_wp2_with fail
      go_ret
      exact ⟨⟨true, rfl, fun h => by cases h⟩, rfl⟩
    · have h2' : ¬ (40 : Int) < (ml : Int) := by omega
      have h2d : decide ((40 : Int) < (ml : Int)) = false := decide_eq_false h2'
      have h2n : decide (40 < ml) = false := decide_eq_false h2
      have HA := Lib.hid h1
      have HB := Lib.hid h2
      clear h1 h2
      go_wp2_with fail
      go_loopw [5] (fun i wr => ∃ (k : Nat), i = .int .i64 (k : Nat) ∧ k ≤ ll ∧ wr = w) (fun i _ => ll - (intOf i).toNat)
      case atStart => exact ⟨0, rfl, Nat.zero_le _, rfl⟩
      case round =>
        obtain ⟨k, rfl, hk, rfl⟩ := hrel
        by_cases hlt : k < ll
        · have hlt' : (k : Int) < (ll : Int) := by omega
          have i0 : (0 : Int) ≤ (k : Int) := by omega
          have i1 : (k : Int) ≤ 40 := by have := HA.out; omega
          obtain ⟨b, o, x, rfl, -, -, u0, u1, u2⟩ := acct_at HS.out k hlt
          have HKL := Lib.hid hlt
          clear hlt
          by_cases g1 : 100 < x.party.size
          · have g1' : (100 : Int) < (x.party.size : Int) := by omega
            have g1d : decide ((100 : Int) < (x.party.size : Int)) = true := decide_eq_true g1'
            clear g1
            go_wp2_with fail
            go_ret
            exact ⟨⟨true, rfl, fun h => by cases h⟩, rfl⟩
          · have g1' : ¬ (100 : Int) < (x.party.size : Int) := by omega
            have g1d : decide ((100 : Int) < (x.party.size : Int)) = false := decide_eq_false g1'
            have g1n : decide (100 < x.party.size) = false := decide_eq_false g1
            clear g1
            by_cases g2 : 100 < x.coin.size
            · have g2' : (100 : Int) < (x.coin.size : Int) := by omega
              have g2d : decide ((100 : Int) < (x.coin.size : Int)) = true := decide_eq_true g2'
              clear g2
              go_wp2_with fail
              go_ret
              exact ⟨⟨true, rfl, fun h => by cases h⟩, rfl⟩
            · have g2' : ¬ (100 : Int) < (x.coin.size : Int) := by omega
              have g2d : decide ((100 : Int) < (x.coin.size : Int)) = false := decide_eq_false g2'
              have g2n : decide (100 < x.coin.size) = false := decide_eq_false g2
              clear g2
              go_wp2_with fail
              go_roundw
              case rel => exact ⟨k + 1, by go_num, by have := HKL.out; omega, trivial⟩
              case measure => simp [intOf]; have := HKL.out; omega
        · have hlt' : ¬ (k : Int) < (ll : Int) := by omega
          clear hlt
          go_wp2_with fail
          go_loopw [6] (fun i wr2 => ∃ (k : Nat), i = .int .i64 (k : Nat) ∧ k ≤ ml ∧ wr2 = wr) (fun i _ => ml - (intOf i).toNat)
          case atStart => exact ⟨0, rfl, Nat.zero_le _, rfl⟩
          case round =>
            obtain ⟨j, rfl, hj, rfl⟩ := hrel
            by_cases hjt : j < ml
            · have hjt' : (j : Int) < (ml : Int) := by omega
              have j0 : (0 : Int) ≤ (j : Int) := by omega
              have j1 : (j : Int) ≤ 40 := by have := HB.out; omega
              obtain ⟨b, o, x, rfl, -, -, u0, u1, u2, u3⟩ := mv_at HM.out j hjt
              have HJL := Lib.hid hjt
              clear hjt
              by_cases g1 : 100 < x.src.size
              · have g1' : (100 : Int) < (x.src.size : Int) := by omega
                have g1d : decide ((100 : Int) < (x.src.size : Int)) = true := decide_eq_true g1'
                clear g1
                go_wp2_with fail
                go_ret
                exact ⟨⟨true, rfl, fun h => by cases h⟩, rfl⟩
              · have g1' : ¬ (100 : Int) < (x.src.size : Int) := by omega
                have g1d : decide ((100 : Int) < (x.src.size : Int)) = false := decide_eq_false g1'
                have g1n : decide (100 < x.src.size) = false := decide_eq_false g1
                clear g1
                by_cases g2 : 100 < x.dst.size
                · have g2' : (100 : Int) < (x.dst.size : Int) := by omega
                  have g2d : decide ((100 : Int) < (x.dst.size : Int)) = true := decide_eq_true g2'
                  clear g2
                  go_wp2_with fail
                  go_ret
                  exact ⟨⟨true, rfl, fun h => by cases h⟩, rfl⟩
                · have g2' : ¬ (100 : Int) < (x.dst.size : Int) := by omega
                  have g2d : decide ((100 : Int) < (x.dst.size : Int)) = false := decide_eq_false g2'
                  have g2n : decide (100 < x.dst.size) = false := decide_eq_false g2
                  clear g2
                  by_cases g3 : 100 < x.coin.size
                  · have g3' : (100 : Int) < (x.coin.size : Int) := by omega
                    have g3d : decide ((100 : Int) < (x.coin.size : Int)) = true := decide_eq_true g3'
                    clear g3
                    go_wp2_with fail
                    go_ret
                    exact ⟨⟨true, rfl, fun h => by cases h⟩, rfl⟩
                  · have g3' : ¬ (100 : Int) < (x.coin.size : Int) := by omega
                    have g3d : decide ((100 : Int) < (x.coin.size : Int)) = false := decide_eq_false g3'
                    have g3n : decide (100 < x.coin.size) = false := decide_eq_false g3
                    clear g3
                    go_wp2_with fail
                    go_roundw
                    case rel => exact ⟨j + 1, by go_num, by have := HJL.out; omega, trivial⟩
                    case measure => simp [intOf]; have := HJL.out; omega
            · have hjt' : ¬ (j : Int) < (ml : Int) := by omega
              clear hjt
              go_wp2_with fail
              go_ret
              exact ⟨⟨false, rfl, fun _ => ⟨by have := HA.out; omega, by have := HB.out; omega⟩⟩, rfl⟩
end Go.Proofs.Ytgbiimoednmlgaa
