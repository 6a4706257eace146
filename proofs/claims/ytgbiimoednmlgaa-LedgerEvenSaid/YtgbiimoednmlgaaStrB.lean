/- Contracts of Named and Reserved, of the program and of the document's answer. -/
import Derived.Test.YtgbiimoednmlgaaStr
namespace Go.Proofs.Ytgbiimoednmlgaa
set_option linter.unusedVariables false
set_option linter.unusedSimpArgs false
open Go.RowKit
/-- Is a text a name? -/
def nmd (s : ByteArray) : Bool := decide (1 ≤ s.size) && decide (s.size ≤ 16) && ltr ((bs s).getD 0 0) && (bs s).all prt
theorem ne_nil_size (s : ByteArray) : (s.data.toList.isEmpty = false) ↔ 1 ≤ s.size := by
  have e : s.data.toList.length = s.size := rfl
  cases h : s.data.toList with
  | nil => rw [h] at e; exact ⟨(fun h => by cases h), (fun h => by simp only [List.length_nil] at e; omega)⟩
  | cons a t => rw [h] at e; exact ⟨(fun _ => by simp only [List.length_cons] at e; omega), (fun _ => rfl)⟩
set_option maxHeartbeats 1000000 in
theorem named_any (s : ByteArray) (w : World) (hs : s.size ≤ 9223372036854775807) : Calls Try.prog 47 #[.string s] w fun e w' => e = .returned (.bool (nmd s)) ∧ w = w' := by
  have HF : Hid (∀ b, nmd s = b → Ending.returned (.bool b) = .returned (.bool (nmd s))) := fun b h => ret_bool h.symm
  have HR := Lib.hid (fun W => run_any s W hs)
  have HN := Lib.hid (show nmd s = (decide (1 ≤ s.size) && decide (s.size ≤ 16) && ltr ((bs s).getD 0 0) && (bs s).all prt) from rfl)
  have HE := Lib.hid (ne_nil_size s)
  have HA := Lib.hid (runN_all prt (bs s))
  have HB := Lib.hid (bs_len s)
  have HG := Lib.hid (fun k h => bs_get s k h)
  by_cases h1 : 1 ≤ s.size
  case neg =>
    have h0 : s.toList = [] := by
      cases hh : s.toList with
      | nil => rfl
      | cons a t => exfalso; have := (HE.out).1 (by rw [← ByteArray.toList_eq, hh]; rfl); omega
    have F := Lib.hid (HF.out false (by rw [HN.out]; simp [h1]))
    clear h1
    go_enter Try.func47, Try.ntmps47
    go_wp2
    go_ret
    exact ⟨F.out, rfl⟩
  have h0 : s.toList.isEmpty = false := by rw [ByteArray.toList_eq]; exact (HE.out).2 h1
  have h0' : (!s.toList.isEmpty) = true := by rw [h0]; rfl
  by_cases h2 : s.size ≤ 16
  case neg =>
    have F := Lib.hid (HF.out false (by rw [HN.out]; simp [h2]))
    go_enter Try.func47, Try.ntmps47
    go_wp2
    go_ret
    exact ⟨F.out, rfl⟩
  have HL := Lib.hid (fun W => letter_any (s[0].toNat : Nat) W)
  have eg : (bs s).getD 0 0 = (s[0].toNat : Nat) := by rw [List.getD_eq_getElem?_getD, HG.out 0 h1]; rfl
  have HL2 := Lib.hid (show nmd s = (ltr (s[0].toNat : Nat) && (bs s).all prt) by rw [HN.out, eg]; simp [h1, h2])
  clear eg
  cases hl : ltr (s[0].toNat : Nat)
  · rw [hl] at HL HL2
    have F := Lib.hid (HF.out false (by rw [HL2.out]; rfl))
    clear hl
    go_enter Try.func47, Try.ntmps47
    go_wp2_with fail
    refine (HL.out _).mono ?_; rintro e w' ⟨rfl, rfl⟩
    go_wp2
    go_ret
    exact ⟨F.out, rfl⟩
  · rw [hl] at HL HL2
    have F := Lib.hid (HF.out (((runN prt (bs s) : Nat) : Int) == (s.size : Nat)) (by
      rw [HL2.out, Bool.eq_iff_iff, Bool.true_and, ← HA.out, HB.out]; simp; omega))
    clear hl
    generalize runN prt (bs s) = r at *
    go_enter Try.func47, Try.ntmps47
    go_wp2_with fail
    refine (HL.out _).mono ?_; rintro e w' ⟨rfl, rfl⟩
    go_wp2_with fail
    refine (HR.out _).mono ?_; rintro e w' ⟨rfl, rfl⟩
    go_wp2
    go_ret
    exact ⟨F.out, rfl⟩
set_option maxHeartbeats 1000000 in
theorem rnamed_any (s : ByteArray) (w : World) (hs : s.size ≤ 9223372036854775807) : Calls Try.prog 31 #[.string s] w fun e w' => e = .returned (.bool (nmd s)) ∧ w = w' := by
  have HF : Hid (∀ b, nmd s = b → Ending.returned (.bool b) = .returned (.bool (nmd s))) := fun b h => ret_bool h.symm
  have HN := Lib.hid (show nmd s = (decide (1 ≤ s.size) && decide (s.size ≤ 16) && ltr ((bs s).getD 0 0) && (bs s).all prt) from rfl)
  have HB := Lib.hid (bs_len s)
  have HG := Lib.hid (fun k h => bs_get s k h)
  by_cases h1 : 1 ≤ s.size
  case neg =>
    have F := Lib.hid (HF.out false (by rw [HN.out]; simp [h1]))
    have h0 : decide (s.size < 1) = true := decide_eq_true (by omega)
    go_enter Try.func31, Try.ntmps31
    go_wp2
    go_ret
    exact ⟨F.out, rfl⟩
  by_cases h2 : s.size ≤ 16
  case neg =>
    have F := Lib.hid (HF.out false (by rw [HN.out]; simp [h2]))
    go_enter Try.func31, Try.ntmps31
    go_wp2
    go_ret
    exact ⟨F.out, rfl⟩
  have HL := Lib.hid (fun W => rletter_any (s[0].toNat : Nat) W)
  have eg : (bs s).getD 0 0 = (s[0].toNat : Nat) := by rw [List.getD_eq_getElem?_getD, HG.out 0 h1]; rfl
  have HL2 := Lib.hid (show nmd s = (ltr (s[0].toNat : Nat) && (bs s).all prt) by rw [HN.out, eg]; simp [h1, h2])
  clear eg
  cases hl : ltr (s[0].toNat : Nat)
  · rw [hl] at HL HL2
    have F := Lib.hid (HF.out false (by rw [HL2.out]; rfl))
    clear hl
    go_enter Try.func31, Try.ntmps31
    go_wp2_with fail
    refine (HL.out _).mono ?_; rintro e w' ⟨rfl, rfl⟩
    go_wp2
    go_ret
    exact ⟨F.out, rfl⟩
  · rw [hl] at HL HL2
    have HA := Lib.hid (fun k c => runN_at prt (bs s) k c)
    have HT := Lib.hid (runN_all prt (bs s))
    have HQ := Lib.hid (runN_le prt (bs s))
    have FT : Hid (s.size ≤ runN prt (bs s) → Ending.returned (.bool true) = .returned (.bool (nmd s))) := fun h => HF.out true (by
      rw [HL2.out, Bool.true_and, ← HT.out, HB.out]; have := HQ.out; have := HB.out; omega)
    have FF : Hid (runN prt (bs s) < s.size → Ending.returned (.bool false) = .returned (.bool (nmd s))) := fun h => HF.out false (by
      rw [HL2.out, Bool.true_and]
      cases hh : (bs s).all prt with
      | false => rfl
      | true => exfalso; have := HT.out.2 hh; rw [HB.out] at this; omega)
    clear hl
    generalize runN prt (bs s) = r at *
    go_enter Try.func31, Try.ntmps31
    go_wp2_with fail
    refine (HL.out _).mono ?_; rintro e w' ⟨rfl, rfl⟩
    go_wp2_with fail
    go_loop [3] (fun n => ∃ k : Nat, n = .int .i64 k ∧ k ≤ r ∧ k ≤ s.size) (fun n => s.size - (intOf n).toNat)
    case atStart => exact ⟨0, rfl, Nat.zero_le _, Nat.zero_le _⟩
    case round =>
      obtain ⟨k, rfl, hk, hk2⟩ := hrel
      by_cases hlt : k < s.size
      · have ha := HA.out k _ (HG.out k hlt) hk
        have HC := Lib.hid (fun W => rpart_any (s[k].toNat : Nat) W)
        cases hp : prt (s[k].toNat : Nat)
        · rw [hp] at HC
          have e := ha.2 hp
          clear ha hp
          have F := Lib.hid (FF.out (by omega))
          clear e
          go_wp2_with fail
          refine (HC.out _).mono ?_; rintro e w' ⟨rfl, rfl⟩
          go_wp2
          go_ret
          exact ⟨F.out, rfl⟩
        · rw [hp] at HC
          have e := ha.1 hp
          clear ha hp
          go_wp2_with fail
          refine (HC.out _).mono ?_; rintro e w' ⟨rfl, rfl⟩
          go_wp2
          go_round
          case rel => exact ⟨k + 1, by go_num, e, by omega⟩
          case measure => simp [intOf]; omega
      · have F := Lib.hid (FT.out (by omega))
        go_wp2
        go_ret
        exact ⟨F.out, rfl⟩
end Go.Proofs.Ytgbiimoednmlgaa
