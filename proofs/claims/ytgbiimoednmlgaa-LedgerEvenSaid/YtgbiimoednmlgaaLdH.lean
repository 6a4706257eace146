/- The contracts of may, and whether all moves may be. -/
import Derived.Test.YtgbiimoednmlgaaLdN
namespace Go.Proofs.Ytgbiimoednmlgaa
set_option linter.unusedVariables false
set_option linter.unusedSimpArgs false
open Go.RowKit
set_option maxRecDepth 100000 in
set_option maxHeartbeats 2000000 in
theorem may_any (x : Mv) (hx : MvOk x) (w : World) : Calls Try.prog 35 #[.agg (mvC x).toArray] w fun e w' => e = .returned (.bool (mayM x)) ∧ Below w.heap.size w w' := by
  have HB := Lib.hid ((Below.refl w.heap.size w).alloc (Nat.le_refl _) (.cells (mvC x).toArray 72))
  have BX := Lib.hid (Mem.Blk.new w 72 (mvC x).toArray)
  have HSP : Hid (∀ W, Calls Try.prog 47 #[.string x.src] W fun e w' => e = .returned (.bool (nmd x.src)) ∧ w' = W) := fun W => (named_any x.src W (by have := hx.src; unfold maxLen at this; omega)).mono fun _ _ h => ⟨h.1, h.2.symm⟩
  have HSD : Hid (∀ W, Calls Try.prog 47 #[.string x.dst] W fun e w' => e = .returned (.bool (nmd x.dst)) ∧ w' = W) := fun W => (named_any x.dst W (by have := hx.dst; unfold maxLen at this; omega)).mono fun _ _ h => ⟨h.1, h.2.symm⟩
  have HSC : Hid (∀ W, Calls Try.prog 47 #[.string x.coin] W fun e w' => e = .returned (.bool (nmd x.coin)) ∧ w' = W) := fun W => (named_any x.coin W (by have := hx.coin; unfold maxLen at this; omega)).mono fun _ _ h => ⟨h.1, h.2.symm⟩
  have hsm := same_b x.src x.dst
  obtain ⟨R, hR⟩ : ∃ R, R = mayM x := ⟨_, rfl⟩
  have HR := Lib.hid hR
  rw [← hR]
  clear hR hx
  show Calls Try.prog 35 #[.agg #[.string x.src, .string x.dst, .string x.coin, .int .i64 x.amt]] w _
  go_enter Try.func35, Try.ntmps35
  go_upto_region 1 with (fail)
  have HB' : Hid (Below w.heap.size w (w.alloc (.cells #[.string x.src, .string x.dst, .string x.coin, .int .i64 x.amt] 72))) := HB.out
  have BX' : Hid (Mem.Blk (w.alloc (.cells #[.string x.src, .string x.dst, .string x.coin, .int .i64 x.amt] 72)) w.heap.size 72 (mvC x).toArray) := BX.out
  clear HB BX
  generalize w.alloc (.cells #[.string x.src, .string x.dst, .string x.coin, .int .i64 x.amt] 72) = w1 at *
  have c0 : w1.cell? ⟨w.heap.size, 0, none⟩ = some (.string x.src) := BX'.out.cell 0
  have c1 : w1.cell? ⟨w.heap.size, 1, none⟩ = some (.string x.dst) := BX'.out.cell 1
  have c2 : w1.cell? ⟨w.heap.size, 2, none⟩ = some (.string x.coin) := BX'.out.cell 2
  have c3 : w1.cell? ⟨w.heap.size, 3, none⟩ = some (.int .i64 x.amt) := BX'.out.cell 3
  cases h1 : nmd x.src with
  | false =>
    rw [h1] at HSP
    have HQ : Hid (R = false) := by show R = false; rw [HR.out]; unfold mayM; rw [h1]; simp
    clear HR h1
    go_wp2_with fail
    go_at_call 47
    (with_reducible refine (HSP.out _).mono ?_)
    rintro e w2 ⟨rfl, hw2⟩
    rw [hw2]
    clear hw2 w2
    go_wp2_with fail
    go_ret
    exact ⟨by rw [HQ.out]; rfl, HB'.out⟩
  | true =>
    rw [h1] at HSP
    go_wp2_with fail
    go_at_call 47
    (with_reducible refine (HSP.out _).mono ?_)
    rintro e w2 ⟨rfl, hw2⟩
    rw [hw2]
    clear hw2 w2
    cases h2 : nmd x.dst with
    | false =>
      rw [h2] at HSD
      have HQ : Hid (R = false) := by show R = false; rw [HR.out]; unfold mayM; rw [h2]; simp
      clear HR h1 h2
      go_wp2_with fail
      go_at_call 47
      (with_reducible refine (HSD.out _).mono ?_)
      rintro e w2 ⟨rfl, hw2⟩
      rw [hw2]
      clear hw2 w2
      go_wp2_with fail
      go_ret
      exact ⟨by rw [HQ.out]; rfl, HB'.out⟩
    | true =>
      rw [h2] at HSD
      go_wp2_with fail
      go_at_call 47
      (with_reducible refine (HSD.out _).mono ?_)
      rintro e w2 ⟨rfl, hw2⟩
      rw [hw2]
      clear hw2 w2
      cases h3 : nmd x.coin with
      | false =>
        rw [h3] at HSC
        have HQ : Hid (R = false) := by show R = false; rw [HR.out]; unfold mayM; rw [h3]; simp
        clear HR h1 h2 h3
        go_wp2_with fail
        go_at_call 47
        (with_reducible refine (HSC.out _).mono ?_)
        rintro e w2 ⟨rfl, hw2⟩
        rw [hw2]
        clear hw2 w2
        go_wp2_with fail
        go_ret
        exact ⟨by rw [HQ.out]; rfl, HB'.out⟩
      | true =>
        rw [h3] at HSC
        go_wp2_with fail
        go_at_call 47
        (with_reducible refine (HSC.out _).mono ?_)
        rintro e w2 ⟨rfl, hw2⟩
        rw [hw2]
        clear hw2 w2
        by_cases h4 : x.src.data.toList = x.dst.data.toList
        · rw [decide_eq_true h4] at hsm
          have HQ : Hid (R = false) := by show R = false; rw [HR.out]; unfold mayM; rw [decide_eq_false (by simpa using h4)]; simp
          clear HR h1 h2 h3 h4
          go_wp2_with fail
          go_ret
          exact ⟨by rw [HQ.out]; rfl, HB'.out⟩
        · rw [decide_eq_false h4] at hsm
          by_cases h5 : 1 ≤ x.amt
          · have HQ : Hid (R = true) := by show R = true; rw [HR.out]; unfold mayM; rw [h1, h2, h3, decide_eq_true h4, decide_eq_true h5]; rfl
            have h5d : decide (1 ≤ x.amt) = true := decide_eq_true h5
            clear HR h1 h2 h3 h4 h5
            go_wp2_with fail
            go_ret
            exact ⟨by rw [HQ.out]; rfl, HB'.out⟩
          · have HQ : Hid (R = false) := by show R = false; rw [HR.out]; unfold mayM; rw [decide_eq_false h5]; simp
            have h5d : decide (1 ≤ x.amt) = false := decide_eq_false h5
            clear HR h1 h2 h3 h4 h5
            go_wp2_with fail
            go_ret
            exact ⟨by rw [HQ.out]; rfl, HB'.out⟩
set_option maxRecDepth 100000 in
set_option maxHeartbeats 2000000 in
theorem postf_any (x : Mv) (hx : MvOk x) (w : World) : Calls Try.prog 34 #[.agg (mvC x).toArray] w fun e w' => e = .returned (.bool (!mayM x)) ∧ Below w.heap.size w w' := by
  have HB := Lib.hid ((Below.refl w.heap.size w).alloc (Nat.le_refl _) (.cells (mvC x).toArray 72))
  have BX := Lib.hid (Mem.Blk.new w 72 (mvC x).toArray)
  have HM : Hid (∀ W, Calls Try.prog 35 #[.agg #[.string x.src, .string x.dst, .string x.coin, .int .i64 x.amt]] W _) := fun W => may_any x hx W
  show Calls Try.prog 34 #[.agg #[.string x.src, .string x.dst, .string x.coin, .int .i64 x.amt]] w _
  go_enter Try.func34, Try.ntmps34
  go_upto_region 1 with (fail)
  have HB' : Hid (Below w.heap.size w (w.alloc (.cells #[.string x.src, .string x.dst, .string x.coin, .int .i64 x.amt] 72))) := HB.out
  have BX' : Hid (Mem.Blk (w.alloc (.cells #[.string x.src, .string x.dst, .string x.coin, .int .i64 x.amt] 72)) w.heap.size 72 (mvC x).toArray) := BX.out
  clear HB BX hx
  generalize w.alloc (.cells #[.string x.src, .string x.dst, .string x.coin, .int .i64 x.amt] 72) = w1 at *
  have c0 : w1.cell? ⟨w.heap.size, 0, none⟩ = some (.string x.src) := BX'.out.cell 0
  have c1 : w1.cell? ⟨w.heap.size, 1, none⟩ = some (.string x.dst) := BX'.out.cell 1
  have c2 : w1.cell? ⟨w.heap.size, 2, none⟩ = some (.string x.coin) := BX'.out.cell 2
  have c3 : w1.cell? ⟨w.heap.size, 3, none⟩ = some (.int .i64 x.amt) := BX'.out.cell 3
  go_wp2_with fail
  go_at_call 35
  (with_reducible refine (HM.out _).mono ?_)
  rintro e w2 ⟨rfl, b2⟩
  have HB2 := Lib.hid (HB'.out.trans (b2.mono HB'.out.size))
  clear b2
  go_wp2_with fail
  go_ret
  exact ⟨rfl, HB2.out⟩
set_option maxRecDepth 100000 in
set_option maxHeartbeats 2000000 in
/-- Is there a move that may not be? -/
theorem indexM_any (l : List Mv) (a : Option Addr) (len cap : Nat) (w : World) (h : SlR mvK w [] l a len cap) (hlen : len ≤ 1000000) :
    Calls Try.prog 66 #[.slice a len cap, .func (.func 34) #[] #[]] w fun x w' => (∃ i : Int, x = .returned (.int .i64 i) ∧ (0 ≤ i ↔ l.all mayM = false)) ∧ Below w.heap.size w w' := by
  have HS := Lib.hid h
  have HL := Lib.hid h.facts.1
  have HN := Lib.hid hlen
  have eg := entersL (P := Try.prog) Try.func34 (by kernel_rfl) rfl
  obtain ⟨B, hB⟩ : ∃ B, B = l.all mayM := ⟨_, rfl⟩
  have HBB := Lib.hid hB
  rw [← hB]
  clear h hlen hB
  go_enter Try.func66, Try.ntmps66
  go_wp2_with fail
  go_loopw [8] (fun i wr => ∃ (k : Nat), i = .int .i64 (k : Nat) ∧ k ≤ len ∧ Hid ((∀ (j : Nat) x, j < k → l[j]? = some x → mayM x = true) ∧ Below w.heap.size w wr)) (fun i _ => len - (intOf i).toNat)
  case atStart => exact ⟨0, rfl, Nat.zero_le _, fun j x h => absurd h (by omega), Below.refl _ _⟩
  case round =>
    obtain ⟨k, rfl, hk, HT⟩ := hrel
    by_cases hlt : k < len
    · have hlt' : (k : Int) < (len : Int) := by omega
      have i0 : (0 : Int) ≤ (k : Int) := by omega
      have i1 : (k : Int) ≤ 1000000 := by have := HN.out; omega
      have HSR := Lib.hid (HS.out.kept (Kept.of_below HT.out.2 []))
      obtain ⟨b, o, x, rfl, hx, hok, u0, u1, u2, u3⟩ := mv_at HSR.out k hlt
      have HX := Lib.hid hx
      have HP : Hid (∀ W, Calls Try.prog 34 #[.agg #[.string x.src, .string x.dst, .string x.coin, .int .i64 x.amt]] W _) := fun W => postf_any x hok W
      have HTR := Lib.hid HT.out.1
      have HB0 := Lib.hid HT.out.2
      have HKL := Lib.hid hlt
      clear hx hok hlt HT HSR
      go_wp2_with fail
      go_at_call 34
      (with_reducible refine (HP.out _).mono ?_)
      rintro e w2 ⟨rfl, b2⟩
      have HB2 := Lib.hid (HB0.out.trans (b2.mono HB0.out.size))
      clear b2 HP u0 u1 u2 u3 HB0
      cases hm : mayM x with
      | true =>
        have HT2 : Hid (∀ (j : Nat) x, j < k + 1 → l[j]? = some x → mayM x = true) := by
          intro j y hj hy
          by_cases e : j < k
          · exact HTR.out j y e hy
          · obtain rfl : j = k := by omega
            rw [HX.out] at hy; rw [← Option.some.inj hy]; exact hm
        clear hm
        go_wp2_with fail
        go_roundw
        case rel => exact ⟨k + 1, by go_num, by have := HKL.out; omega, HT2.out, HB2.out⟩
        case measure => simp [intOf]; have := HKL.out; omega
      | false =>
        have HF : Hid (l.all mayM = false) := List.all_eq_false.2 ⟨x, List.mem_of_getElem? HX.out, by rw [hm]; simp⟩
        clear hm
        go_wp2_with fail
        go_ret
        exact ⟨⟨_, rfl, ⟨fun _ => by rw [HBB.out, HF.out], fun _ => i0⟩⟩, HB2.out⟩
    · have hlt' : ¬ (k : Int) < (len : Int) := by omega
      have HF : Hid (l.all mayM = true) := List.all_eq_true.2 (fun x hx => by
        obtain ⟨j, hj⟩ := List.getElem?_of_mem hx
        exact HT.out.1 j x (by have := (List.getElem?_eq_some_iff.1 hj).1; have := HL.out; omega) hj)
      have HB2 := Lib.hid HT.out.2
      clear HT
      go_wp2_with fail
      go_ret
      exact ⟨⟨_, rfl, ⟨fun h => absurd h (by decide), fun h => by rw [HBB.out, HF.out] at h; cases h⟩⟩, HB2.out⟩
set_option maxRecDepth 100000 in
set_option maxHeartbeats 2000000 in
theorem containsM_any (l : List Mv) (a : Option Addr) (len cap : Nat) (w : World) (h : SlR mvK w [] l a len cap) (hlen : len ≤ 1000000) :
    Calls Try.prog 33 #[.slice a len cap, .func (.func 34) #[] #[]] w fun x w' => x = .returned (.bool (!(l.all mayM))) ∧ Below w.heap.size w w' := by
  have HI := Lib.hid (indexM_any l a len cap w h hlen)
  clear h hlen
  go_enter Try.func33, Try.ntmps33
  go_wp2_with fail
  go_at_call 66
  (with_reducible refine HI.out.mono ?_)
  rintro e w2 ⟨⟨i, rfl, hi⟩, b2⟩
  have HB2 := Lib.hid b2
  clear b2 HI
  have HQ : Hid (decide (0 ≤ i) = !(l.all mayM)) := by
    show _ = _
    cases hm : l.all mayM with
    | true =>
      rw [hm] at hi
      exact decide_eq_false (fun h => by simpa using hi.1 h)
    | false => exact decide_eq_true (hi.2 hm)
  clear hi
  go_wp2_with fail
  go_ret
  exact ⟨by rw [← HQ.out]; rfl, HB2.out⟩
end Go.Proofs.Ytgbiimoednmlgaa
