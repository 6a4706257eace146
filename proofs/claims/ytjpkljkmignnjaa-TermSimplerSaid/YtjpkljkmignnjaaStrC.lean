/- Contracts of Reserved and free, of the program and of the document's answer. -/
import Derived.Test.YtjpkljkmignnjaaStrB
import Derived.Test.YtjpkljkmignnjaaMem
namespace Go.Proofs.Ytjpkljkmignnjaa
set_option linter.unusedVariables false
set_option linter.unusedSimpArgs false
open Go.RowKit
/-- The reserved words. -/
def words : List ByteArray := [⟨#[122, 101, 114, 111]⟩, ⟨#[111, 110, 101]⟩, ⟨#[103, 105, 118, 101]⟩, ⟨#[97, 110, 100]⟩, ⟨#[111, 114]⟩, ⟨#[115, 99, 97, 108, 101]⟩, ⟨#[119, 104, 101, 110]⟩, ⟨#[117, 110, 116, 105, 108]⟩, ⟨#[97, 110, 121, 116, 105, 109, 101]⟩, ⟨#[100, 97, 121]⟩, ⟨#[109, 105, 110]⟩, ⟨#[109, 97, 120]⟩, ⟨#[105, 102]⟩]
def rsv (s : ByteArray) : Bool := words.any fun k => s.toList == k.toList
theorem rsv_eq (s : ByteArray) : rsv s = (s.toList == [122, 101, 114, 111] || s.toList == [111, 110, 101] || s.toList == [103, 105, 118, 101] || s.toList == [97, 110, 100] || s.toList == [111, 114] || s.toList == [115, 99, 97, 108, 101] || s.toList == [119, 104, 101, 110] || s.toList == [117, 110, 116, 105, 108] || s.toList == [97, 110, 121, 116, 105, 109, 101] || s.toList == [100, 97, 121] || s.toList == [109, 105, 110] || s.toList == [109, 97, 120] || s.toList == [105, 102]) := by
  unfold rsv words
  simp only [List.any_cons, List.any_nil, ByteArray.toList_eq, Bool.or_false, Bool.or_assoc]
set_option maxHeartbeats 1000000 in
theorem reserved_any (s : ByteArray) (w : World) : Calls Try.prog 13 #[.string s] w fun e w' => e = .returned (.bool (rsv s)) ∧ w = w' := by
  have HF : Hid (∀ b, rsv s = b → Ending.returned (.bool b) = .returned (.bool (rsv s))) := fun b h => ret_bool h.symm
  have HR := Lib.hid (rsv_eq s)
  go_enter Try.func13, Try.ntmps13
  go_wp2
  all_goals
    go_ret
    exact ⟨HF.out _ (by rw [HR.out]; simp_all), rfl⟩
theorem words_len : words.length = 13 := rfl
theorem rsv_at (s : ByteArray) (k : Nat) (h : k < 13) (he : ((words.getD k ByteArray.empty).toList == s.toList) = true) : rsv s = true := by
  unfold rsv
  rw [List.any_eq_true]
  refine ⟨words.getD k ByteArray.empty, ?_, ?_⟩
  · rw [List.getD_eq_getElem?_getD, List.getElem?_eq_getElem (by rw [words_len]; exact h)]; exact List.getElem_mem _
  · have := eq_of_beq he; rw [this]; exact beq_self_eq_true _
theorem rsv_none (s : ByteArray) (h : ∀ k, k < 13 → ((words.getD k ByteArray.empty).toList == s.toList) = false) : rsv s = false := by
  unfold rsv
  rw [List.any_eq_false]
  intro x hx
  obtain ⟨k, hk, rfl⟩ := List.getElem_of_mem hx
  have := h k (by rw [words_len] at hk; exact hk)
  rw [List.getD_eq_getElem?_getD, List.getElem?_eq_getElem hk] at this
  intro he
  have e := eq_of_beq he
  simp only [Option.getD_some] at this
  rw [e, beq_self_eq_true] at this; cases this
set_option maxHeartbeats 1000000 in
theorem rreserved_any (s : ByteArray) (w : World) : Calls Try.prog 14 #[.string s] w fun e w' => e = .returned (.bool (rsv s)) ∧ Below w.heap.size w w' := by
  have HT : Hid (∀ k, k < 13 → ((words.getD k ByteArray.empty).toList == s.toList) = true → Ending.returned (.bool true) = .returned (.bool (rsv s))) := fun k h he => ret_bool (rsv_at s k h he).symm
  have HF : Hid ((∀ k, k < 13 → ((words.getD k ByteArray.empty).toList == s.toList) = false) → Ending.returned (.bool false) = .returned (.bool (rsv s))) := fun h => ret_bool (rsv_none s h).symm
  have HC : Hid (∀ k, k < 13 → (w.alloc (.cells (words.map Value.string).toArray 9)).cell? ⟨w.heap.size, k, none⟩ = some (.string (words.getD k ByteArray.empty))) := by
    intro k hk
    have B : Mem.Blk _ w.heap.size 9 (words.map Value.string).toArray := Mem.Blk.new w 9 _
    rw [B.cell]
    match k, hk with
    | 0, _ => rfl
    | 1, _ => rfl
    | 2, _ => rfl
    | 3, _ => rfl
    | 4, _ => rfl
    | 5, _ => rfl
    | 6, _ => rfl
    | 7, _ => rfl
    | 8, _ => rfl
    | 9, _ => rfl
    | 10, _ => rfl
    | 11, _ => rfl
    | 12, _ => rfl
    | n + 13, h => omega
  have HB := Lib.hid ((Below.refl w.heap.size w).alloc (Nat.le_refl _) (.cells (words.map Value.string).toArray 9))
  go_enter Try.func14, Try.ntmps14
  go_wp2_with fail
  have HE : Hid (∀ W, W = w.alloc (.cells (words.map Value.string).toArray 9) → Below w.heap.size w W ∧ ∀ k, k < 13 → W.cell? ⟨w.heap.size, k, none⟩ = some (.string (words.getD k ByteArray.empty))) := fun W h => by subst h; exact ⟨HB.out, HC.out⟩
  generalize hW : w.alloc _ = v
  obtain ⟨HB, HC⟩ := HE.out v (by rw [← hW]; rfl)
  have HC2 := Lib.hid HC
  clear HE hW HC
  go_loop [4] (fun n => ∃ k : Nat, n = .int .i64 k ∧ k ≤ 13 ∧ Hid (∀ j, j < k → ((words.getD j ByteArray.empty).toList == s.toList) = false)) (fun n => 13 - (intOf n).toNat)
  case atStart => exact ⟨0, rfl, Nat.zero_le _, fun j hj => absurd hj (Nat.not_lt_zero _)⟩
  case round =>
    obtain ⟨k, rfl, hk, HP⟩ := hrel
    by_cases hlt : k < 13
    · have hc := HC2.out k hlt
      have F := HT.out k hlt
      have HN : Hid (((words.getD k ByteArray.empty).toList == s.toList) = false → ∀ j, j < k + 1 → ((words.getD j ByteArray.empty).toList == s.toList) = false) := by
        intro h j hj
        rcases Nat.lt_or_ge j k with h1 | h1
        · exact HP.out j h1
        · obtain rfl : j = k := by omega
          exact h
      have F2 := Lib.hid F
      clear F
      generalize words.getD k ByteArray.empty = x at *
      cases hx : (x.toList == s.toList)
      · have HN2 := Lib.hid (HN.out hx)
        go_wp2
        go_round
        case rel => exact ⟨k + 1, by go_num, by omega, HN2.out⟩
        case measure => simp [intOf]; omega
      · have F3 := Lib.hid (F2.out hx)
        go_wp2
        go_ret
        exact ⟨F3.out, HB⟩
    · have F := Lib.hid (HF.out (fun j hj => HP.out j (by omega)))
      go_wp2
      go_ret
      exact ⟨F.out, HB⟩
/-- A name that isn't reserved. -/
def fre (s : ByteArray) : Bool := nmd s && !rsv s
theorem free_any (s : ByteArray) (w : World) (hs : s.size ≤ 9223372036854775807) : Calls Try.prog 45 #[.string s] w fun e w' => e = .returned (.bool (fre s)) ∧ w = w' := by
  have HF : Hid (∀ b, fre s = b → Ending.returned (.bool b) = .returned (.bool (fre s))) := fun b h => ret_bool h.symm
  have HD := Lib.hid (show fre s = (nmd s && !rsv s) from rfl)
  have H1 := Lib.hid (fun W => named_any s W hs)
  have H2 := Lib.hid (fun W => reserved_any s W)
  generalize nmd s = a at *
  generalize rsv s = b at *
  cases a
  · have F := Lib.hid (HF.out false (by rw [HD.out]; rfl))
    go_enter Try.func45, Try.ntmps45
    go_wp2_with fail
    refine (H1.out _).mono ?_; rintro e w' ⟨rfl, rfl⟩
    go_wp2
    go_ret
    exact ⟨F.out, rfl⟩
  · have F := Lib.hid (HF.out (!b) (by rw [HD.out]; rfl))
    go_enter Try.func45, Try.ntmps45
    go_wp2_with fail
    refine (H1.out _).mono ?_; rintro e w' ⟨rfl, rfl⟩
    go_wp2_with fail
    refine (H2.out _).mono ?_; rintro e w' ⟨rfl, rfl⟩
    go_wp2
    go_ret
    exact ⟨F.out, rfl⟩
theorem rfree_any (s : ByteArray) (w : World) (hs : s.size ≤ 9223372036854775807) : Calls Try.prog 16 #[.string s] w fun e w' => e = .returned (.bool (fre s)) ∧ Below w.heap.size w w' := by
  have HF : Hid (∀ b, fre s = b → Ending.returned (.bool b) = .returned (.bool (fre s))) := fun b h => ret_bool h.symm
  have HD := Lib.hid (show fre s = (nmd s && !rsv s) from rfl)
  have H1 := Lib.hid (fun W => rnamed_any s W hs)
  have H2 := Lib.hid (fun W => rreserved_any s W)
  generalize nmd s = a at *
  generalize rsv s = b at *
  cases a
  · have F := Lib.hid (HF.out false (by rw [HD.out]; rfl))
    go_enter Try.func16, Try.ntmps16
    go_wp2_with fail
    refine (H1.out _).mono ?_; rintro e w' ⟨rfl, rfl⟩
    go_wp2
    go_ret
    exact ⟨F.out, Below.refl _ _⟩
  · have F := Lib.hid (HF.out (!b) (by rw [HD.out]; rfl))
    go_enter Try.func16, Try.ntmps16
    go_wp2_with fail
    refine (H1.out _).mono ?_; rintro e w' ⟨rfl, rfl⟩
    go_wp2_with fail
    refine (H2.out _).mono ?_; rintro e w1 ⟨rfl, b1⟩
    go_wp2
    go_ret
    exact ⟨F.out, b1⟩
end Go.Proofs.Ytjpkljkmignnjaa
