/- The contract of Even. -/
import Derived.Test.YtgbiimoednmlgaaLdF
namespace Go.Proofs.Ytgbiimoednmlgaa
set_option linter.unusedVariables false
set_option linter.unusedSimpArgs false
open Go.RowKit
set_option maxRecDepth 100000 in
set_option maxHeartbeats 4000000 in
theorem evenf_any (l : List Acct) (a : Option Addr) (len cap : Nat) (x : Acct) (bx : Nat) (w : World) (h : SlR acctK w [] l a len cap) (hlen : len ≤ 1000000) (hbx : w.cell? ⟨bx, 0, none⟩ = some (.slice a len cap)) :
    Calls Try.prog 45 #[.agg (acctC x).toArray, .pointer (some ⟨bx, 0, none⟩)] w fun y w' => y = .returned (.bool (!decide (coinA l x.coin.data.toList = 0))) ∧ Below w.heap.size w w' := by
  have hal := (Below.refl w.heap.size w).alloc (Nat.le_refl _) (.cells (acctC x).toArray 51)
  have HB := Lib.hid hal
  have BX := Lib.hid (Mem.Blk.new w 51 (acctC x).toArray)
  have HQ := Lib.hid (sums_any l a len cap x.coin _ (h.kept (Kept.of_below hal [])) hlen)
  have hbx' := cellUp hbx hal
  obtain ⟨R, hR⟩ : ∃ R, R = decide (coinA l x.coin.data.toList = 0) := ⟨_, rfl⟩
  rw [← hR] at HQ ⊢
  clear hal h hbx hR
  show Calls Try.prog 45 #[.agg #[.string x.party, .string x.coin, .int .i64 x.amt], .pointer (some ⟨bx, 0, none⟩)] w _
  go_enter Try.func45, Try.ntmps45
  go_upto_region 1 with (fail)
  have HB' : Hid (Below w.heap.size w (w.alloc (.cells #[.string x.party, .string x.coin, .int .i64 x.amt] 51))) := HB.out
  have BX' : Hid (Mem.Blk (w.alloc (.cells #[.string x.party, .string x.coin, .int .i64 x.amt] 51)) w.heap.size 51 (acctC x).toArray) := BX.out
  have HQ' : Hid (Calls Try.prog 46 #[.slice a len cap, .string x.coin] (w.alloc (.cells #[.string x.party, .string x.coin, .int .i64 x.amt] 51)) fun y w' => y = .returned (.bool R) ∧ Below (w.alloc (.cells #[.string x.party, .string x.coin, .int .i64 x.amt] 51)).heap.size (w.alloc (.cells #[.string x.party, .string x.coin, .int .i64 x.amt] 51)) w') := HQ.out
  have hb : (w.alloc (.cells #[.string x.party, .string x.coin, .int .i64 x.amt] 51)).cell? ⟨bx, 0, none⟩ = some (.slice a len cap) := hbx'
  clear HB BX HQ hbx'
  generalize w.alloc (.cells #[.string x.party, .string x.coin, .int .i64 x.amt] 51) = w1 at *
  have c1 : w1.cell? ⟨w.heap.size, 1, none⟩ = some (.string x.coin) := BX'.out.cell 1
  go_wp2_with fail
  go_at_call 46
  (with_reducible refine HQ'.out.mono ?_)
  rintro y w2 ⟨rfl, b2⟩
  have HB2 := Lib.hid (HB'.out.trans (b2.mono HB'.out.size))
  clear b2 HQ'
  go_wp2_with fail
  go_ret
  exact ⟨rfl, HB2.out⟩
set_option maxRecDepth 100000 in
set_option maxHeartbeats 4000000 in
theorem indexA_any (l : List Acct) (a : Option Addr) (len cap bx : Nat) (w : World) (h : SlR acctK w [] l a len cap) (hlen : len ≤ 1000000) (hbx : w.cell? ⟨bx, 0, none⟩ = some (.slice a len cap)) :
    Calls Try.prog 76 #[.slice a len cap, .func (.func 45) #[] #[.pointer (some ⟨bx, 0, none⟩)]] w fun x w' => (∃ i : Int, x = .returned (.int .i64 i) ∧ (0 ≤ i ↔ l.all (fun a => decide (coinA l a.coin.data.toList = 0)) = false)) ∧ Below w.heap.size w w' := by
  have HS := Lib.hid h
  have HL := Lib.hid h.facts.1
  have HN := Lib.hid hlen
  have HBX := Lib.hid hbx
  have eg := entersL (P := Try.prog) Try.func45 (by kernel_rfl) rfl
  obtain ⟨B, hB⟩ : ∃ B, B = l.all (fun a => decide (coinA l a.coin.data.toList = 0)) := ⟨_, rfl⟩
  have HBB := Lib.hid hB
  rw [← hB]
  clear h hlen hB hbx
  go_enter Try.func76, Try.ntmps76
  go_wp2_with fail
  go_loopw [8] (fun i wr => ∃ (k : Nat), i = .int .i64 (k : Nat) ∧ k ≤ len ∧ Hid ((∀ (j : Nat) x, j < k → l[j]? = some x → decide (coinA l x.coin.data.toList = 0) = true) ∧ Below w.heap.size w wr)) (fun i _ => len - (intOf i).toNat)
  case atStart => exact ⟨0, rfl, Nat.zero_le _, fun j x h => absurd h (by omega), Below.refl _ _⟩
  case round =>
    obtain ⟨k, rfl, hk, HT⟩ := hrel
    by_cases hlt : k < len
    · have hlt' : (k : Int) < (len : Int) := by omega
      have i0 : (0 : Int) ≤ (k : Int) := by omega
      have i1 : (k : Int) ≤ 1000000 := by have := HN.out; omega
      have HSR := Lib.hid (HS.out.kept (Kept.of_below HT.out.2 []))
      obtain ⟨b, o, x, hao, hx, -, u0, u1, u2⟩ := acct_at HSR.out k hlt
      have HX := Lib.hid hx
      have HP : Hid (Calls Try.prog 45 #[.agg #[.string x.party, .string x.coin, .int .i64 x.amt], .pointer (some ⟨bx, 0, none⟩)] wr _) := evenf_any l a len cap x bx wr HSR.out HN.out (cellUp HBX.out HT.out.2)
      obtain ⟨R, hR⟩ : ∃ R, R = decide (coinA l x.coin.data.toList = 0) := ⟨_, rfl⟩
      have HR := Lib.hid hR
      rw [← hR] at HP
      subst hao
      have HTR := Lib.hid HT.out.1
      have HB0 := Lib.hid HT.out.2
      have HKL := Lib.hid hlt
      clear hx hlt HT HSR hR
      go_wp2_with fail
      go_at_call 45
      (with_reducible refine HP.out.mono ?_)
      rintro e w2 ⟨rfl, b2⟩
      have HB2 := Lib.hid (HB0.out.trans (b2.mono HB0.out.size))
      clear b2 HP u0 u1 u2 HB0
      cases hm : R with
      | true =>
        have HT2 : Hid (∀ (j : Nat) x, j < k + 1 → l[j]? = some x → decide (coinA l x.coin.data.toList = 0) = true) := by
          intro j y hj hy
          by_cases e : j < k
          · exact HTR.out j y e hy
          · obtain rfl : j = k := by omega
            rw [HX.out] at hy; rw [← Option.some.inj hy, ← HR.out]; exact hm
        clear hm
        go_wp2_with fail
        go_roundw
        case rel => exact ⟨k + 1, by go_num, by have := HKL.out; omega, HT2.out, HB2.out⟩
        case measure => simp [intOf]; have := HKL.out; omega
      | false =>
        have HF : Hid (l.all (fun a => decide (coinA l a.coin.data.toList = 0)) = false) := List.all_eq_false.2 ⟨x, List.mem_of_getElem? HX.out, by rw [← HR.out, hm]; simp⟩
        clear hm
        go_wp2_with fail
        go_ret
        exact ⟨⟨_, rfl, ⟨fun _ => by rw [HBB.out, HF.out], fun _ => i0⟩⟩, HB2.out⟩
    · have hlt' : ¬ (k : Int) < (len : Int) := by omega
      have HF : Hid (l.all (fun a => decide (coinA l a.coin.data.toList = 0)) = true) := List.all_eq_true.2 (fun x hx => by
        obtain ⟨j, hj⟩ := List.getElem?_of_mem hx
        exact HT.out.1 j x (by have := (List.getElem?_eq_some_iff.1 hj).1; have := HL.out; omega) hj)
      have HB2 := Lib.hid HT.out.2
      clear HT
      go_wp2_with fail
      go_ret
      exact ⟨⟨_, rfl, ⟨fun h => absurd h (by decide), fun h => by rw [HBB.out, HF.out] at h; cases h⟩⟩, HB2.out⟩
set_option maxRecDepth 100000 in
set_option maxHeartbeats 2000000 in
theorem containsA_any (l : List Acct) (a : Option Addr) (len cap bx : Nat) (w : World) (h : SlR acctK w [] l a len cap) (hlen : len ≤ 1000000) (hbx : w.cell? ⟨bx, 0, none⟩ = some (.slice a len cap)) :
    Calls Try.prog 44 #[.slice a len cap, .func (.func 45) #[] #[.pointer (some ⟨bx, 0, none⟩)]] w fun x w' => x = .returned (.bool (!(l.all (fun a => decide (coinA l a.coin.data.toList = 0))))) ∧ Below w.heap.size w w' := by
  have HI := Lib.hid (indexA_any l a len cap bx w h hlen hbx)
  clear h hlen hbx
  generalize l.all (fun a => decide (coinA l a.coin.data.toList = 0)) = R at *
  go_enter Try.func44, Try.ntmps44
  go_wp2_with fail
  go_at_call 76
  (with_reducible refine HI.out.mono ?_)
  rintro e w2 ⟨⟨i, rfl, hi⟩, b2⟩
  have HB2 := Lib.hid b2
  clear b2 HI
  have HQ : Hid (decide (0 ≤ i) = !R) := by
    show _ = _
    cases hm : R with
    | true =>
      rw [hm] at hi
      exact decide_eq_false (fun h => by simpa using hi.1 h)
    | false => exact decide_eq_true (hi.2 hm)
  clear hi
  go_wp2_with fail
  go_ret
  exact ⟨by rw [← HQ.out]; rfl, HB2.out⟩
set_option maxRecDepth 100000 in
set_option maxHeartbeats 2000000 in
theorem even_any (l : List Acct) (a : Option Addr) (len cap : Nat) (w : World) (h : SlR acctK w [] l a len cap) (hlen : len ≤ 1000000) :
    Calls Try.prog 21 #[.slice a len cap] w fun x w' => x = .returned (.bool (evenA l)) ∧ Below w.heap.size w w' := by
  have hal := (Below.refl w.heap.size w).alloc (Nat.le_refl _) (.cells #[.slice a len cap] 26)
  have HB := Lib.hid hal
  have BX := Lib.hid (Mem.Blk.new w 26 #[.slice a len cap])
  have HS := Lib.hid (h.kept (Kept.of_below hal []))
  have HN := Lib.hid hlen
  obtain ⟨R, hR⟩ : ∃ R, R = evenA l := ⟨_, rfl⟩
  have HR := Lib.hid hR
  rw [← hR]
  clear hal h hlen hR
  go_enter Try.func21, Try.ntmps21
  go_upto_region 1 with (fail)
  generalize hb0 : w.heap.size = b0 at BX ⊢
  clear hb0
  generalize w.alloc (.cells #[.slice a len cap] 26) = w1 at *
  have c0 : w1.cell? ⟨b0, 0, none⟩ = some (.slice a len cap) := BX.out.cell 0
  have HRT := Lib.hid (right_any l a len cap w1 HS.out HN.out)
  have HCT : Hid (∀ w2, Below w1.heap.size w1 w2 → Calls Try.prog 44 #[.slice a len cap, .func (.func 45) #[] #[.pointer (some ⟨b0, 0, none⟩)]] w2 _) := fun w2 b => containsA_any l a len cap b0 w2 (HS.out.kept (Kept.of_below b [])) HN.out (cellUp (BX.out.cell 0) b)
  go_wp2_with fail
  go_at_call 22
  (with_reducible refine HRT.out.mono ?_)
  rintro y w2 ⟨rfl, b2⟩
  have c0' := cellUp c0 b2
  have HB2 := Lib.hid (HB.out.trans (b2.mono HB.out.size))
  have HCT2 := Lib.hid (HCT.out w2 b2)
  clear HCT HRT c0 b2
  cases hr : rightA l with
  | false =>
    have HF : Hid (R = false) := by show _ = _; rw [HR.out]; unfold evenA; rw [hr]; rfl
    clear HR hr HCT2
    go_wp2_with fail
    go_ret
    exact ⟨by rw [HF.out]; rfl, HB2.out⟩
  | true =>
    have HF : Hid (R = l.all (fun a => decide (coinA l a.coin.data.toList = 0))) := by show _ = _; rw [HR.out]; unfold evenA; rw [hr]; rfl
    clear HR hr
    rw [← HF.out] at HCT2
    go_wp2_with fail
    go_at_call 44
    (with_reducible refine HCT2.out.mono ?_)
    rintro y w3 ⟨rfl, b3⟩
    have HB3 := Lib.hid (HB2.out.trans (b3.mono HB2.out.size))
    clear HCT2 b3 HF
    go_wp2_with fail
    go_ret
    exact ⟨by simp, HB3.out⟩
end Go.Proofs.Ytgbiimoednmlgaa
