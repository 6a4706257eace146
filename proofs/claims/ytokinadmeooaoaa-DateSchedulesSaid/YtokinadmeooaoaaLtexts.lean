/- The contract of the reference's Parse, and the walk of the law DateTexts. -/
import Derived.Test.YtokinadmeooaoaaDm
import Derived.Deep.RegionHeld3
namespace Go.Proofs.Ytokinadmeooaoaa
open Go.RowKit
theorem toList_ne (a b : ByteArray) (h : a ≠ b) : (a.toList == b.toList) = false := by
  rw [← beq_toListBytes]
  cases a with | mk a =>
  cases b with | mk b =>
  have hab : a ≠ b := fun e => h (by rw [e])
  show (a == b) = false
  simpa using hab
def aV (s : ByteArray) (i : Nat) : Array Value := #[.int .i64 (accs s i).1, .int .i64 (accs s i).2.1, .int .i64 (accs s i).2.2]
theorem aV_step (s : ByteArray) (k : Nat) : aV s (k + 1) = if k = 4 ∨ k = 7 then aV s k else if 7 < k then (aV s k).setIfInBounds 2 (.int .i64 (10 * (accs s k).2.2 + bt s k - 48)) else if 4 < k then (aV s k).setIfInBounds 1 (.int .i64 (10 * (accs s k).2.1 + bt s k - 48)) else (aV s k).setIfInBounds 0 (.int .i64 (10 * (accs s k).1 + bt s k - 48)) := by
  have h : accs s (k + 1) = (if k = 4 ∨ k = 7 then accs s k else if 7 < k then ((accs s k).1, (accs s k).2.1, 10 * (accs s k).2.2 + bt s k - 48) else if 4 < k then ((accs s k).1, 10 * (accs s k).2.1 + bt s k - 48, (accs s k).2.2) else (10 * (accs s k).1 + bt s k - 48, (accs s k).2.1, (accs s k).2.2)) := rfl
  unfold aV
  rw [h]
  split
  · rfl
  · split
    · rfl
    · split <;> rfl
theorem blk3 {w : World} {g : Nat} {t : TypeId} {a b c : Value} (h : Mem.Blk w g t #[a, b, c]) : w.cell? ⟨g, 0, none⟩ = some a ∧ w.cell? ⟨g, 1, none⟩ = some b ∧ w.cell? ⟨g, 2, none⟩ = some c ∧ w.frozen? ⟨g, 0, none⟩ = false ∧ w.frozen? ⟨g, 1, none⟩ = false ∧ w.frozen? ⟨g, 2, none⟩ = false :=
  ⟨h.cell 0, h.cell 1, h.cell 2, h.frozen 0, h.frozen 1, h.frozen 2⟩
set_option maxHeartbeats 4000000 in
theorem rparse_10 (s : ByteArray) (w : World) (h10 : s.size = 10) :
    Calls Try.prog 28 #[.string s] w fun e w' => e = .returned (.int .i64 (refParse s)) ∧ Below w.heap.size w w' := by
  have hB0 : Mem.Blk (w.alloc (.cells #[.int .i64 0, .int .i64 0, .int .i64 0] 3)) w.heap.size 3 (aV s 0) := Mem.Blk.new _ _ _
  have HB0 := Lib.hid hB0
  clear hB0
  have H10 := Lib.hid h10
  have hsz : s.size ≤ 10 := by omega
  have HST := Lib.hid (aV_step s)
  go_enter Try.func28, Try.ntmps28
  go_wp2_with fail
  go_loopw [4] (fun i wr => ∃ k : Nat, k ≤ 10 ∧ i = .int .i64 k ∧ Hid (Mem.Blk wr w.heap.size 3 (aV s k)) ∧ Below w.heap.size w wr) (fun i _ => 10 - (intOf i).toNat)
  case atStart => exact ⟨0, by omega, rfl, HB0, (Below.refl _ _).alloc (Nat.le_refl _) _⟩
  case round =>
    obtain ⟨k, hk, rfl, HK, hbel⟩ := hrel
    have hbd := accs_bd s k hk
    obtain ⟨a1, a2, b1, b2, c1, c2⟩ := hbd
    obtain ⟨x0, x1, x2, f0, f1, f2⟩ := blk3 HK.out
    have hst := HST.out k
    have HS2 := Lib.hid hst
    clear hst
    have : k = 0 ∨ k = 1 ∨ k = 2 ∨ k = 3 ∨ k = 4 ∨ k = 5 ∨ k = 6 ∨ k = 7 ∨ k = 8 ∨ k = 9 ∨ k = 10 := by omega
    rcases this with rfl | rfl | rfl | rfl | rfl | rfl | rfl | rfl | rfl | rfl | rfl
    case inr.inr.inr.inr.inr.inr.inr.inr.inr.inr =>
      have HRR := Lib.hid (show refParse s = (if s.size = 10 then (if refOf (accs s 10).1 (accs s 10).2.1 (accs s 10).2.2 < 0 then -1 else if dtext (refOf (accs s 10).1 (accs s 10).2.1 (accs s 10).2.2) = s then refOf (accs s 10).1 (accs s 10).2.1 (accs s 10).2.2 else -1) else -1) from rfl)
      clear HST HS2 hk
      generalize hA : accs s 10 = A at *
      obtain ⟨A0, A1, A2⟩ := A
      simp only at a1 a2 b1 b2 c1 c2 x0 x1 x2
      have HA := Lib.hid hA
      clear hA a1 a2 b1 b2 c1 c2
      simp only at HRR
      go_wp2_with fail
      go_region_held3 (fun w' => w'.cell? ⟨w.heap.size, 0, none⟩ = some (.int .i64 A0) ∧ w'.cell? ⟨w.heap.size, 1, none⟩ = some (.int .i64 A1) ∧ w'.cell? ⟨w.heap.size, 2, none⟩ = some (.int .i64 A2)) (go_keep) (first | (go_at_call 21; refine (rof_any A0 A1 A2 _).mono ?_; rintro e w2 ⟨rfl, b2⟩; obtain ⟨y0, y1, y2, _, _, _⟩ := blk3 (HK.out.drew.below b2); simp only [HA.out] at y0 y1 y2))
      have bw2 := hbel.drew.trans (b2.mono hbel.drew.size)
      generalize refOf A0 A1 A2 = n at *
      by_cases hn : n < 0
      · have FIN := Lib.hid (show (-1 : Int) = refParse s by rw [HRR.out, if_pos h10, if_pos hn])
        go_wp2
        go_ret
        exact ⟨ret_int FIN.out, bw2⟩
      · by_cases ht : dtext n = s
        · have FIN := Lib.hid (show n = refParse s by rw [HRR.out, if_pos h10, if_neg hn, if_pos ht])
          have HT := Lib.hid ht
          clear ht
          go_wp2_with fail
          refine (rprint_any _ _).mono ?_; rintro e w3 ⟨rfl, b3⟩
          rw [HT.out]
          go_wp2
          go_ret
          exact ⟨ret_int FIN.out, bw2.trans (b3.mono bw2.size)⟩
        · have FIN := Lib.hid (show (-1 : Int) = refParse s by rw [HRR.out, if_pos h10, if_neg hn, if_neg ht])
          have hne : ((dtext n).toList == s.toList) = false := toList_ne _ _ ht
          clear ht
          go_wp2_with fail
          refine (rprint_any _ _).mono ?_; rintro e w3 ⟨rfl, b3⟩
          go_wp2
          go_ret
          exact ⟨ret_int FIN.out, bw2.trans (b3.mono bw2.size)⟩
    case inl =>
      obtain ⟨hb1, hb2⟩ := bt_bd s 0
      have he := bt_eq s 0 (by omega)
      have HB := Lib.hid (HK.out.set_ 0 (.int .i64 (10 * (accs s 0).1 + bt s 0 - 48)))
      have HS3 := HS2.out
      simp only [Nat.reduceAdd] at HS3
      have HC := Lib.hid HS3
      clear HS3 HS2
      generalize bt s 0 = c at *
      generalize hA : accs s 0 = A at *
      obtain ⟨A0, A1, A2⟩ := A
      simp only at a1 a2 b1 b2 c1 c2 x0 x1 x2
      have HA := Lib.hid hA
      clear hA
      go_wp2_with fail
      go_region
      go_wp2
      go_roundw
      case rel => exact ⟨1, by omega, rfl, Lib.hid (by rw [HC.out]; exact HB.out), (hbel.setCell (Nat.le_refl _) _).drew⟩
      case measure => simp [intOf]
    case inr.inl =>
      obtain ⟨hb1, hb2⟩ := bt_bd s 1
      have he := bt_eq s 1 (by omega)
      have HB := Lib.hid (HK.out.set_ 0 (.int .i64 (10 * (accs s 1).1 + bt s 1 - 48)))
      have HS3 := HS2.out
      simp only [Nat.reduceAdd] at HS3
      have HC := Lib.hid HS3
      clear HS3 HS2
      generalize bt s 1 = c at *
      generalize hA : accs s 1 = A at *
      obtain ⟨A0, A1, A2⟩ := A
      simp only at a1 a2 b1 b2 c1 c2 x0 x1 x2
      have HA := Lib.hid hA
      clear hA
      go_wp2_with fail
      go_region
      go_wp2
      go_roundw
      case rel => exact ⟨2, by omega, rfl, Lib.hid (by rw [HC.out]; exact HB.out), (hbel.setCell (Nat.le_refl _) _).drew⟩
      case measure => simp [intOf]
    case inr.inr.inl =>
      obtain ⟨hb1, hb2⟩ := bt_bd s 2
      have he := bt_eq s 2 (by omega)
      have HB := Lib.hid (HK.out.set_ 0 (.int .i64 (10 * (accs s 2).1 + bt s 2 - 48)))
      have HS3 := HS2.out
      simp only [Nat.reduceAdd] at HS3
      have HC := Lib.hid HS3
      clear HS3 HS2
      generalize bt s 2 = c at *
      generalize hA : accs s 2 = A at *
      obtain ⟨A0, A1, A2⟩ := A
      simp only at a1 a2 b1 b2 c1 c2 x0 x1 x2
      have HA := Lib.hid hA
      clear hA
      go_wp2_with fail
      go_region
      go_wp2
      go_roundw
      case rel => exact ⟨3, by omega, rfl, Lib.hid (by rw [HC.out]; exact HB.out), (hbel.setCell (Nat.le_refl _) _).drew⟩
      case measure => simp [intOf]
    case inr.inr.inr.inl =>
      obtain ⟨hb1, hb2⟩ := bt_bd s 3
      have he := bt_eq s 3 (by omega)
      have HB := Lib.hid (HK.out.set_ 0 (.int .i64 (10 * (accs s 3).1 + bt s 3 - 48)))
      have HS3 := HS2.out
      simp only [Nat.reduceAdd] at HS3
      have HC := Lib.hid HS3
      clear HS3 HS2
      generalize bt s 3 = c at *
      generalize hA : accs s 3 = A at *
      obtain ⟨A0, A1, A2⟩ := A
      simp only at a1 a2 b1 b2 c1 c2 x0 x1 x2
      have HA := Lib.hid hA
      clear hA
      go_wp2_with fail
      go_region
      go_wp2
      go_roundw
      case rel => exact ⟨4, by omega, rfl, Lib.hid (by rw [HC.out]; exact HB.out), (hbel.setCell (Nat.le_refl _) _).drew⟩
      case measure => simp [intOf]
    case inr.inr.inr.inr.inl =>
      go_wp2
      go_roundw
      case rel => exact ⟨5, by omega, rfl, Lib.hid (by have := HS2.out; simp only [Nat.reduceAdd] at this; rw [this]; exact HK.out), hbel⟩
      case measure => simp [intOf]
    case inr.inr.inr.inr.inr.inl =>
      obtain ⟨hb1, hb2⟩ := bt_bd s 5
      have he := bt_eq s 5 (by omega)
      have HB := Lib.hid (HK.out.set_ 1 (.int .i64 (10 * (accs s 5).2.1 + bt s 5 - 48)))
      have HS3 := HS2.out
      simp only [Nat.reduceAdd] at HS3
      have HC := Lib.hid HS3
      clear HS3 HS2
      generalize bt s 5 = c at *
      generalize hA : accs s 5 = A at *
      obtain ⟨A0, A1, A2⟩ := A
      simp only at a1 a2 b1 b2 c1 c2 x0 x1 x2
      have HA := Lib.hid hA
      clear hA
      go_wp2_with fail
      go_region
      go_wp2
      go_roundw
      case rel => exact ⟨6, by omega, rfl, Lib.hid (by rw [HC.out]; exact HB.out), (hbel.setCell (Nat.le_refl _) _).drew⟩
      case measure => simp [intOf]
    case inr.inr.inr.inr.inr.inr.inl =>
      obtain ⟨hb1, hb2⟩ := bt_bd s 6
      have he := bt_eq s 6 (by omega)
      have HB := Lib.hid (HK.out.set_ 1 (.int .i64 (10 * (accs s 6).2.1 + bt s 6 - 48)))
      have HS3 := HS2.out
      simp only [Nat.reduceAdd] at HS3
      have HC := Lib.hid HS3
      clear HS3 HS2
      generalize bt s 6 = c at *
      generalize hA : accs s 6 = A at *
      obtain ⟨A0, A1, A2⟩ := A
      simp only at a1 a2 b1 b2 c1 c2 x0 x1 x2
      have HA := Lib.hid hA
      clear hA
      go_wp2_with fail
      go_region
      go_wp2
      go_roundw
      case rel => exact ⟨7, by omega, rfl, Lib.hid (by rw [HC.out]; exact HB.out), (hbel.setCell (Nat.le_refl _) _).drew⟩
      case measure => simp [intOf]
    case inr.inr.inr.inr.inr.inr.inr.inl =>
      go_wp2
      go_roundw
      case rel => exact ⟨8, by omega, rfl, Lib.hid (by have := HS2.out; simp only [Nat.reduceAdd] at this; rw [this]; exact HK.out), hbel⟩
      case measure => simp [intOf]
    case inr.inr.inr.inr.inr.inr.inr.inr.inl =>
      obtain ⟨hb1, hb2⟩ := bt_bd s 8
      have he := bt_eq s 8 (by omega)
      have HB := Lib.hid (HK.out.set_ 2 (.int .i64 (10 * (accs s 8).2.2 + bt s 8 - 48)))
      have HS3 := HS2.out
      simp only [Nat.reduceAdd] at HS3
      have HC := Lib.hid HS3
      clear HS3 HS2
      generalize bt s 8 = c at *
      generalize hA : accs s 8 = A at *
      obtain ⟨A0, A1, A2⟩ := A
      simp only at a1 a2 b1 b2 c1 c2 x0 x1 x2
      have HA := Lib.hid hA
      clear hA
      go_wp2_with fail
      go_region
      go_wp2
      go_roundw
      case rel => exact ⟨9, by omega, rfl, Lib.hid (by rw [HC.out]; exact HB.out), (hbel.setCell (Nat.le_refl _) _).drew⟩
      case measure => simp [intOf]
    case inr.inr.inr.inr.inr.inr.inr.inr.inr.inl =>
      obtain ⟨hb1, hb2⟩ := bt_bd s 9
      have he := bt_eq s 9 (by omega)
      have HB := Lib.hid (HK.out.set_ 2 (.int .i64 (10 * (accs s 9).2.2 + bt s 9 - 48)))
      have HS3 := HS2.out
      simp only [Nat.reduceAdd] at HS3
      have HC := Lib.hid HS3
      clear HS3 HS2
      generalize bt s 9 = c at *
      generalize hA : accs s 9 = A at *
      obtain ⟨A0, A1, A2⟩ := A
      simp only at a1 a2 b1 b2 c1 c2 x0 x1 x2
      have HA := Lib.hid hA
      clear hA
      go_wp2_with fail
      go_region
      go_wp2
      go_roundw
      case rel => exact ⟨10, by omega, rfl, Lib.hid (by rw [HC.out]; exact HB.out), (hbel.setCell (Nat.le_refl _) _).drew⟩
      case measure => simp [intOf]
theorem rparse_any (s : ByteArray) (w : World) (_hs : s.size ≤ maxLen) :
    Calls Try.prog 28 #[.string s] w fun e w' => e = .returned (.int .i64 (refParse s)) ∧ Below w.heap.size w w' := by
  by_cases h : s.size = 10
  · exact rparse_10 s w h
  · have FIN := Lib.hid (show (-1 : Int) = refParse s by unfold refParse; rw [if_neg h])
    have hne : ((s.size : Int) != 10) = true := by simp; omega
    go_enter Try.func28, Try.ntmps28
    go_wp2
    go_ret
    exact ⟨ret_int FIN.out, Below.refl _ _⟩
set_option maxHeartbeats 400000 in
theorem law_texts (s : ByteArray) (n : Int) (w : World) (h0 : s.size ≤ maxLen) (_h1 : (Lit.int .i64 n).wf = true) :
    Calls Try.prog 7 #[.string s, .int .i64 n] w fun e w' => e = .returned (.bool true) ∧ Below w.heap.size w w' := by
  have HT := Lib.hid (told_parse s)
  have H0 := Lib.hid h0
  clear _h1 h0
  go_enter Try.func7, Try.ntmps7
  go_wp2_with fail
  refine (parse_any _ _ H0.out).mono ?_; rintro e w1 ⟨rfl, b1⟩
  go_wp2_with fail
  refine (rparse_any _ _ H0.out).mono ?_; rintro e w2 ⟨rfl, b2⟩
  go_wp2_with fail
  refine (told_any _ _ _ _).mono ?_; rintro e w' ⟨rfl, rfl⟩
  rw [HT.out]
  go_wp2_with fail
  refine (print_any _ _).mono ?_; rintro e w3 ⟨rfl, b3⟩
  go_wp2_with fail
  refine (rprint_any _ _).mono ?_; rintro e w4 ⟨rfl, b4⟩
  go_wp2_with fail
  refine (awake_true _).mono ?_; rintro e w5 ⟨rfl, b5⟩
  go_wp2
  go_ret
  have c2 := b1.trans (b2.mono b1.size)
  have c3 := c2.trans (b3.mono c2.size)
  have c4 := c3.trans (b4.mono c3.size)
  exact ⟨rfl, c4.trans (b5.mono c4.size)⟩
end Go.Proofs.Ytokinadmeooaoaa
