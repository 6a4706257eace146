import Derived.Test.YtokinadmeooaoaaDq
import Derived.OpenShut
namespace Go.Proofs.Ytokinadmeooaoaa
open Go.RowKit
theorem told_adj (n rule : Int) (l : List Int) : toldB (adjN n rule l) (adjB n rule l) (adj n rule l) = true := by
  unfold toldB adjN adjB
  by_cases h : 0 ≤ adj n rule l
  · simp [h]
  · simp [h]
theorem law_adjusts (n rule : Int) (a : Option Addr) (len cap : Nat) (l : List Int) (w : World) (_h0 : (Lit.int .i64 n).wf = true) (_h1 : (Lit.int .i64 rule).wf = true) (hl : Ints w a len l) (_h2 : ∀ x ∈ l, (Lit.int .i64 x).wf = true) :
    Calls Try.prog 9 #[.int .i64 n, .int .i64 rule, .slice a len cap] w fun e w' => e = .returned (.bool true) ∧ Below w.heap.size w w' := by
  have HT := Lib.hid (told_adj n rule l)
  have HL := Lib.hid hl
  have hlen := hl.2.1
  clear _h0 _h1 _h2 hl
  by_cases h : 100 < (len : Int)
  · go_enter Try.func9, Try.ntmps9
    go_wp2_with fail
    refine (awake_true _).mono ?_; rintro e w2 ⟨rfl, b2⟩
    go_wp2
    go_ret
    exact ⟨rfl, b2⟩
  · go_enter Try.func9, Try.ntmps9
    go_wp2_with fail
    refine (adjust_any _ _ _ _ _ l _ HL.out).mono ?_; rintro e w' ⟨rfl, rfl⟩
    go_wp2_with fail
    refine (radjust_any _ _ _ _ _ l _ HL.out).mono ?_; rintro e w1 ⟨rfl, b1⟩
    go_wp2_with fail
    refine (told_any _ _ _ _).mono ?_; rintro e w' ⟨rfl, rfl⟩
    rw [HT.out]
    go_wp2_with fail
    refine (working_any _ _ _ _ l _ (HL.out.below b1)).mono ?_; rintro e w' ⟨rfl, rfl⟩
    go_wp2_with fail
    refine (rworking_any _ _ _ _ l _ (HL.out.below b1)).mono ?_; rintro e w' ⟨rfl, rfl⟩
    go_wp2_with fail
    refine (awake_true _).mono ?_; rintro e w2 ⟨rfl, b2⟩
    go_wp2
    go_ret
    exact ⟨rfl, b1.trans (b2.mono b1.size)⟩
theorem upF_ge (l : List Int) (k : Nat) : ∀ n, upF l k n = -1 ∨ (n ≤ upF l k n ∧ wkB (upF l k n) l = true) := by
  induction k with
  | zero => intro n; exact .inl rfl
  | succ k ih =>
    intro n
    unfold upF
    split
    · split
      · rename_i h; exact .inr ⟨by omega, h⟩
      · rcases ih (n + 1) with h | ⟨h, h'⟩
        · exact .inl h
        · exact .inr ⟨by omega, h'⟩
    · exact .inl rfl
theorem dnF_le (l : List Int) (k : Nat) : ∀ n, dnF l k n = -1 ∨ (dnF l k n ≤ n ∧ wkB (dnF l k n) l = true) := by
  induction k with
  | zero => intro n; exact .inl rfl
  | succ k ih =>
    intro n
    unfold dnF
    split
    · split
      · rename_i h; exact .inr ⟨by omega, h⟩
      · rcases ih (n - 1) with h | ⟨h, h'⟩
        · exact .inl h
        · exact .inr ⟨by omega, h'⟩
    · exact .inl rfl
theorem adj_holds (n rule : Int) (l : List Int) (r1 : 1 ≤ rule) (r3 : rule ≤ 3) (h : 0 ≤ adj n rule l) :
    wkB (adj n rule l) l = true ∧ (rule = 1 → n ≤ adj n rule l) ∧ (rule = 3 → adj n rule l ≤ n) := by
  have HU := upF_ge l (2932897 - n).toNat n
  have HD := dnF_le l (n + 1).toNat n
  have e : adj n rule l = (if isD n = true ∧ 0 ≤ rule ∧ rule ≤ 3 then (if rule = 0 then n else if rule = 1 then up l n else if rule = 3 then dn l n else if tgB n (up l n) then up l n else dn l n) else -1) := rfl
  rw [e] at h ⊢
  split at h
  · rename_i hc
    rw [if_pos hc, if_neg (by omega)]
    rw [if_neg (by omega)] at h
    by_cases h1 : rule = 1
    · rw [if_pos h1] at h ⊢
      unfold up at *
      rcases HU with hu | ⟨hu, hu'⟩
      · omega
      · exact ⟨hu', fun _ => hu, fun h3 => by omega⟩
    · rw [if_neg h1] at h ⊢
      by_cases h3 : rule = 3
      · rw [if_pos h3] at h ⊢
        unfold dn at *
        rcases HD with hd | ⟨hd, hd'⟩
        · omega
        · exact ⟨hd', fun h => by omega, fun _ => hd⟩
      · rw [if_neg h3] at h ⊢
        refine ⟨?_, fun h => by omega, fun h => by omega⟩
        split at h
        · rename_i ht; rw [if_pos ht]; unfold up at *
          rcases HU with hu | ⟨_, hu'⟩
          · omega
          · exact hu'
        · rename_i ht; rw [if_neg ht]; unfold dn at *
          rcases HD with hd | ⟨_, hd'⟩
          · omega
          · exact hd'
  · omega
set_option maxHeartbeats 1000000 in
theorem law_adjusted (k r : Int) (a : Option Addr) (len cap : Nat) (l : List Int) (w : World) (h0 : (Lit.int .u32 k).wf = true) (h1 : (Lit.int .u8 r).wf = true) (hl : Ints w a len l) (_h2 : ∀ x ∈ l, (Lit.int .i64 x).wf = true) :
    Calls Try.prog 10 #[.int .u32 k, .int .u8 r, .slice a len cap] w fun e w' => e = .returned (.bool true) ∧ Below w.heap.size w w' := by
  obtain ⟨k0, k1⟩ := bounds_u32 h0
  obtain ⟨r0, r1⟩ := bounds_u8 h1
  have HL := Lib.hid hl
  have hlen := hl.2.1
  clear h0 h1 _h2 hl
  by_cases h : 15 < (len : Int)
  · go_enter Try.func10, Try.ntmps10
    go_wp2_with fail
    refine (awake_true _).mono ?_; rintro e w2 ⟨rfl, b2⟩
    go_wp2
    go_ret
    exact ⟨rfl, b2⟩
  obtain ⟨q, hq, er⟩ : ∃ q, (q = 1 ∨ q = 2 ∨ q = 3) ∧ r % 3 = q - 1 := ⟨1 + r % 3, by omega, by omega⟩
  by_cases hadj : 0 ≤ adj (k % 2932897) q l
  · have HB : Hid (adjB (k % 2932897) q l = true) := by show _ = _; unfold adjB; simp [hadj]
    have HN : Hid (adjN (k % 2932897) q l = adj (k % 2932897) q l) := by show _ = _; unfold adjN; simp [hadj]
    obtain ⟨a1, a2, a3⟩ := adj_holds (k % 2932897) q l (by omega) (by omega) hadj
    have HG := Lib.hid (adj_wk _ q l a1 (by omega) (by omega))
    have HW := Lib.hid a1
    have hz := hadj
    have HX : Hid (∃ x, adj (k % 2932897) q l = x) := ⟨_, rfl⟩
    obtain ⟨x, hx⟩ := HX
    rw [hx] at hz a2 a3 HG HN HW
    have HB2 : Hid (adjB x q l = true) := by show _ = _; unfold adjB; rw [HG.out]; simp [hz]
    have HN2 : Hid (adjN x q l = x) := by show _ = _; unfold adjN; rw [HG.out]; simp [hz]
    clear hx hadj a1
    rcases hq with rfl | rfl | rfl
    · have t := a2 rfl
      clear a2 a3
      simp at er
      go_enter Try.func10, Try.ntmps10
      go_wp2_with fail
      refine (adjust_any _ _ _ _ _ l _ HL.out).mono ?_; rintro e w' ⟨rfl, rfl⟩
      rw [HB.out, HN.out]
      go_wp2_with fail
      refine (adjust_any _ _ _ _ _ l _ HL.out).mono ?_; rintro e w' ⟨rfl, rfl⟩
      rw [HB2.out, HN2.out]
      go_wp2_with fail
      refine (working_any _ _ _ _ l _ HL.out).mono ?_; rintro e w' ⟨rfl, rfl⟩
      rw [HW.out]
      go_wp2_with fail
      refine (awake_true _).mono ?_; rintro e w2 ⟨rfl, b2⟩
      go_wp2
      go_ret
      exact ⟨rfl, b2⟩
    · clear a2 a3
      simp at er
      go_enter Try.func10, Try.ntmps10
      go_wp2_with fail
      refine (adjust_any _ _ _ _ _ l _ HL.out).mono ?_; rintro e w' ⟨rfl, rfl⟩
      rw [HB.out, HN.out]
      go_wp2_with fail
      refine (adjust_any _ _ _ _ _ l _ HL.out).mono ?_; rintro e w' ⟨rfl, rfl⟩
      rw [HB2.out, HN2.out]
      go_wp2_with fail
      refine (working_any _ _ _ _ l _ HL.out).mono ?_; rintro e w' ⟨rfl, rfl⟩
      rw [HW.out]
      go_wp2_with fail
      refine (awake_true _).mono ?_; rintro e w2 ⟨rfl, b2⟩
      go_wp2
      go_ret
      exact ⟨rfl, b2⟩
    · have t := a3 rfl
      clear a2 a3
      simp at er
      go_enter Try.func10, Try.ntmps10
      go_wp2_with fail
      refine (adjust_any _ _ _ _ _ l _ HL.out).mono ?_; rintro e w' ⟨rfl, rfl⟩
      rw [HB.out, HN.out]
      go_wp2_with fail
      refine (adjust_any _ _ _ _ _ l _ HL.out).mono ?_; rintro e w' ⟨rfl, rfl⟩
      rw [HB2.out, HN2.out]
      go_wp2_with fail
      refine (working_any _ _ _ _ l _ HL.out).mono ?_; rintro e w' ⟨rfl, rfl⟩
      rw [HW.out]
      go_wp2_with fail
      refine (awake_true _).mono ?_; rintro e w2 ⟨rfl, b2⟩
      go_wp2
      go_ret
      exact ⟨rfl, b2⟩
  · have HB : Hid (adjB (k % 2932897) q l = false) := by show _ = _; unfold adjB; simp [hadj]
    have HN : Hid (adjN (k % 2932897) q l = 0) := by show _ = _; unfold adjN; simp [hadj]
    clear hadj
    rcases hq with rfl | rfl | rfl
    ·
      simp at er
      go_enter Try.func10, Try.ntmps10
      go_wp2_with fail
      refine (adjust_any _ _ _ _ _ l _ HL.out).mono ?_; rintro e w' ⟨rfl, rfl⟩
      rw [HB.out, HN.out]
      go_wp2_with fail
      refine (awake_true _).mono ?_; rintro e w2 ⟨rfl, b2⟩
      go_wp2
      go_ret
      exact ⟨rfl, b2⟩
    ·
      simp at er
      go_enter Try.func10, Try.ntmps10
      go_wp2_with fail
      refine (adjust_any _ _ _ _ _ l _ HL.out).mono ?_; rintro e w' ⟨rfl, rfl⟩
      rw [HB.out, HN.out]
      go_wp2_with fail
      refine (awake_true _).mono ?_; rintro e w2 ⟨rfl, b2⟩
      go_wp2
      go_ret
      exact ⟨rfl, b2⟩
    ·
      simp at er
      go_enter Try.func10, Try.ntmps10
      go_wp2_with fail
      refine (adjust_any _ _ _ _ _ l _ HL.out).mono ?_; rintro e w' ⟨rfl, rfl⟩
      rw [HB.out, HN.out]
      go_wp2_with fail
      refine (awake_true _).mono ?_; rintro e w2 ⟨rfl, b2⟩
      go_wp2
      go_ret
      exact ⟨rfl, b2⟩
end Go.Proofs.Ytokinadmeooaoaa
