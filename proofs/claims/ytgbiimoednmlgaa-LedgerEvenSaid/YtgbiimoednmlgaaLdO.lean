/- The contracts of cmp.Compare at strings, cmp.Or at int, order. -/
import Derived.Test.YtgbiimoednmlgaaLdC
import Derived.Laws.Cover1
import Derived.Sort.Walk0
import Derived.BigQuiet
import Derived.BigRegion
import Derived.StillTailTactics
import Derived.Deep.CutBlock
import Derived.Deep.DeepCutAuto
import Derived.Deep.QuietTactic
import Derived.IntWalk
import Derived.LoopTactic
namespace Go.Proofs.Ytgbiimoednmlgaa
set_option linter.unusedVariables false
set_option linter.unusedSimpArgs false
open Go.RowKit
theorem less_b (a b : ByteArray) : Op.bytesLess a.toList b.toList = decide (a.data.toList < b.data.toList) := by
  rw [ByteArray.toList_eq, ByteArray.toList_eq, Go.Proofs.bytesLess_eq]
theorem same_b (a b : ByteArray) : (a.toList == b.toList) = decide (a.data.toList = b.data.toList) := by
  rw [ByteArray.toList_eq, ByteArray.toList_eq]
  by_cases h : a.data.toList = b.data.toList
  · rw [decide_eq_true h, beq_iff_eq]; exact h
  · rw [decide_eq_false h, beq_eq_false_iff_ne]; exact h
set_option maxHeartbeats 1000000
theorem isNaNs_any (s : ByteArray) (w : World) : Calls Try.prog 90 #[.string s] w fun e w' => e = .returned (.bool false) ∧ w = w' := by
  go_enter Try.func90, Try.ntmps90
  go_wp2_with fail
  go_ret
  exact ⟨rfl, rfl⟩
theorem cmps_any (a b : ByteArray) (w : World) : Calls Try.prog 81 #[.string a, .string b] w fun e w' => e = .returned (.int .i64 (scmp a.data.toList b.data.toList)) ∧ w = w' := by
  have h1 := less_b a b
  have h2 := same_b a b
  have HR := Lib.hid (show scmp a.data.toList b.data.toList = if a.data.toList < b.data.toList then -1 else if b.data.toList < a.data.toList then 1 else 0 from rfl)
  obtain ⟨R, hR⟩ : ∃ R, R = scmp a.data.toList b.data.toList := ⟨_, rfl⟩
  rw [← hR] at HR ⊢
  clear hR
  by_cases hl : a.data.toList < b.data.toList
  · rw [decide_eq_true hl] at h1
    obtain rfl : R = -1 := by rw [HR.out, if_pos hl]
    clear HR hl h2
    go_enter Try.func81, Try.ntmps81
    go_wp2_with fail
    go_at_call 90
    (with_reducible refine (isNaNs_any _ _).mono ?_)
    rintro e w1 ⟨rfl, rfl⟩
    go_wp2_with fail
    go_at_call 90
    (with_reducible refine (isNaNs_any _ _).mono ?_)
    rintro e w1 ⟨rfl, rfl⟩
    go_wp2_with fail
    go_ret
    exact ⟨rfl, rfl⟩
  · rw [decide_eq_false hl] at h1
    by_cases hg : b.data.toList < a.data.toList
    · obtain rfl : R = 1 := by rw [HR.out, if_neg hl, if_pos hg]
      have hne : a.data.toList ≠ b.data.toList := fun e => List.lt_irrefl _ (e ▸ hg)
      rw [decide_eq_false hne] at h2
      clear HR hl hg hne
      go_enter Try.func81, Try.ntmps81
      go_wp2_with fail
      go_at_call 90
      (with_reducible refine (isNaNs_any _ _).mono ?_)
      rintro e w1 ⟨rfl, rfl⟩
      go_wp2_with fail
      go_at_call 90
      (with_reducible refine (isNaNs_any _ _).mono ?_)
      rintro e w1 ⟨rfl, rfl⟩
      go_wp2_with fail
      go_ret
      exact ⟨rfl, rfl⟩
    · obtain rfl : R = 0 := by rw [HR.out, if_neg hl, if_neg hg]
      have he : a.data.toList = b.data.toList := List.le_antisymm (List.not_lt.1 hg) (List.not_lt.1 hl)
      rw [decide_eq_true he] at h2
      clear HR hl hg he
      go_enter Try.func81, Try.ntmps81
      go_wp2_with fail
      go_at_call 90
      (with_reducible refine (isNaNs_any _ _).mono ?_)
      rintro e w1 ⟨rfl, rfl⟩
      go_wp2_with fail
      go_at_call 90
      (with_reducible refine (isNaNs_any _ _).mono ?_)
      rintro e w1 ⟨rfl, rfl⟩
      go_wp2_with fail
      go_ret
      exact ⟨rfl, rfl⟩
/-- cmp.Or of two. -/
theorem or2_any (x y : Int) (g cap : Nat) (w : World) (h0 : w.cell? ⟨g, 0, none⟩ = some (.int .i64 x)) (h1 : w.cell? ⟨g, 1, none⟩ = some (.int .i64 y)) :
    Calls Try.prog 80 #[.slice (some ⟨g, 0, none⟩) 2 cap] w fun e w' => e = .returned (.int .i64 (if x ≠ 0 then x else y)) ∧ w = w' := by
  obtain ⟨R, hR⟩ : ∃ R, R = (if x ≠ 0 then x else y) := ⟨_, rfl⟩
  have HR := Lib.hid hR
  rw [← hR]
  clear hR
  go_enter Try.func80, Try.ntmps80
  go_wp2_with fail
  go_loopw [8] (fun i wr => ∃ (k : Nat), i = .int .i64 (k : Nat) ∧ k ≤ 2 ∧ wr = w ∧ Hid ((0 < k → x = 0) ∧ (1 < k → y = 0))) (fun i _ => 2 - (intOf i).toNat)
  case atStart => exact ⟨0, rfl, by omega, rfl, fun h => absurd h (by omega), fun h => absurd h (by omega)⟩
  case round =>
    obtain ⟨k, rfl, hk, rfl, HK⟩ := hrel
    have hk3 : k = 0 ∨ k = 1 ∨ k = 2 := by omega
    rcases hk3 with rfl | rfl | rfl
    · by_cases hx : x = 0
      · have hx' : (x != 0) = false := by simpa using hx
        have HX := Lib.hid hx
        clear hx
        go_wp2_with fail
        go_roundw
        case rel => exact ⟨1, rfl, by omega, trivial, fun _ => HX.out, fun h => absurd h (by omega)⟩
        case measure => simp [intOf]
      · have hx' : (x != 0) = true := by simpa using hx
        have HX : Hid (R = x) := by show R = x; rw [HR.out, if_pos hx]
        clear hx HR
        go_wp2_with fail
        go_ret
        exact ⟨by rw [HX.out]; rfl, rfl⟩
    · have hx := HK.out.1 (by omega)
      by_cases hy : y = 0
      · have hy' : (y != 0) = false := by simpa using hy
        have HY := Lib.hid hy
        have HX := Lib.hid hx
        clear hy hx
        go_wp2_with fail
        go_roundw
        case rel => exact ⟨2, rfl, by omega, trivial, fun _ => HX.out, fun _ => HY.out⟩
        case measure => simp [intOf]
      · have hy' : (y != 0) = true := by simpa using hy
        have HX : Hid (R = y) := by show R = y; rw [HR.out, if_neg (by simpa using hx)]
        clear hy HR hx
        go_wp2_with fail
        go_ret
        exact ⟨by rw [HX.out]; rfl, rfl⟩
    · have HX : Hid (R = 0) := by
        show R = 0
        rw [HR.out, if_neg (by simpa using HK.out.1 (by omega)), HK.out.2 (by omega)]
      clear HR
      go_wp2_with fail
      go_ret
      exact ⟨by rw [HX.out]; rfl, rfl⟩
set_option maxRecDepth 100000 in
set_option maxHeartbeats 4000000 in
theorem order_any (x y : Acct) (w : World) : Calls Try.prog 48 #[.agg (acctC x).toArray, .agg (acctC y).toArray] w fun e w' => e = .returned (.int .i64 (kcmp x.key y.key)) ∧ Below w.heap.size w w' := by
  have h1 := (Below.refl w.heap.size w).alloc (Nat.le_refl _) (.cells (acctC x).toArray 51)
  have h2 := h1.alloc h1.size (.cells (acctC y).toArray 51)
  have BX := Lib.hid ((Mem.Blk.new w 51 (acctC x).toArray).below ((Below.refl (w.alloc (.cells (acctC x).toArray 51)).heap.size _).alloc (Nat.le_refl _) (.cells (acctC y).toArray 51)))
  have BY := Lib.hid (Mem.Blk.new (w.alloc (.cells (acctC x).toArray 51)) 51 (acctC y).toArray)
  have HB := Lib.hid h2
  clear h1 h2
  show Calls Try.prog 48 #[.agg #[.string x.party, .string x.coin, .int .i64 x.amt], .agg #[.string y.party, .string y.coin, .int .i64 y.amt]] w _
  go_enter Try.func48, Try.ntmps48
  go_upto_region 1 with (fail)
  have BX' : Hid (Mem.Blk ((w.alloc (.cells #[.string x.party, .string x.coin, .int .i64 x.amt] 51)).alloc (.cells #[.string y.party, .string y.coin, .int .i64 y.amt] 51)) w.heap.size 51 (acctC x).toArray) := BX.out
  have BY' : Hid (Mem.Blk ((w.alloc (.cells #[.string x.party, .string x.coin, .int .i64 x.amt] 51)).alloc (.cells #[.string y.party, .string y.coin, .int .i64 y.amt] 51)) (w.alloc (.cells #[.string x.party, .string x.coin, .int .i64 x.amt] 51)).heap.size 51 (acctC y).toArray) := BY.out
  have HB' : Hid (Below w.heap.size w ((w.alloc (.cells #[.string x.party, .string x.coin, .int .i64 x.amt] 51)).alloc (.cells #[.string y.party, .string y.coin, .int .i64 y.amt] 51))) := HB.out
  clear BX BY HB
  have ez : (w.alloc (.cells #[.string x.party, .string x.coin, .int .i64 x.amt] 51)).heap.size = w.heap.size + 1 := by simp
  rw [ez] at BY'
  clear ez
  generalize (w.alloc (.cells #[.string x.party, .string x.coin, .int .i64 x.amt] 51)).alloc (.cells #[.string y.party, .string y.coin, .int .i64 y.amt] 51) = w1 at *
  have c0 : w1.cell? ⟨w.heap.size, 0, none⟩ = some (.string x.party) := BX'.out.cell 0
  have c1 : w1.cell? ⟨w.heap.size, 1, none⟩ = some (.string x.coin) := BX'.out.cell 1
  have d0 : w1.cell? ⟨w.heap.size + 1, 0, none⟩ = some (.string y.party) := BY'.out.cell 0
  have d1 : w1.cell? ⟨w.heap.size + 1, 1, none⟩ = some (.string y.coin) := BY'.out.cell 1
  go_still_tail 10, (by kernel_rfl)
  still_call ((cmps_any x.party y.party _).mono fun _ _ h => ⟨h.1, h.2.symm⟩)
  repeat still_step
  still_call ((cmps_any x.coin y.coin _).mono fun _ _ h => ⟨h.1, h.2.symm⟩)
  refine wpStill_nil ?_
  change wpList _ _ _ _ _ w1.drew
  have HB2 := Lib.hid (HB'.out.trans ((Below.refl w1.heap.size w1).drew.mono HB'.out.size))
  clear c0 c1 d0 d1 BX' BY' HB'
  have e1 : w1.drew.heap.size = w1.heap.size := rfl
  obtain ⟨A, hA⟩ : ∃ A, A = scmp x.party.data.toList y.party.data.toList := ⟨_, rfl⟩
  obtain ⟨B, hB⟩ : ∃ B, B = scmp x.coin.data.toList y.coin.data.toList := ⟨_, rfl⟩
  have HK : Hid (kcmp x.key y.key = if A ≠ 0 then A else B) := by show kcmp _ _ = _; rw [hA, hB]; rfl
  rw [← hA, ← hB]
  clear hA hB
  generalize w1.drew = w2 at *
  have BN := Mem.Blk.new w2 3 #[.int .i64 A, .int .i64 B]
  rw [e1] at BN
  have HB3 := Lib.hid (HB2.out.trans ((by have := (Below.refl w2.heap.size w2).alloc (Nat.le_refl _) (.cells #[.int .i64 A, .int .i64 B] 3); exact this : Below w2.heap.size w2 _).mono HB2.out.size))
  have HO := Lib.hid (or2_any A B w1.heap.size 2 _ (BN.cell 0) (BN.cell 1))
  obtain ⟨R, hR⟩ : ∃ R, R = (if A ≠ 0 then A else B) := ⟨_, rfl⟩
  rw [← hR] at HO HK
  clear BN HB2 hR
  go_wp2_with fail
  go_at_call 80
  (with_reducible refine HO.out.mono ?_)
  rintro e w3 ⟨rfl, rfl⟩
  go_wp2_with fail
  go_ret
  exact ⟨by rw [HK.out]; rfl, HB3.out⟩
end Go.Proofs.Ytgbiimoednmlgaa
