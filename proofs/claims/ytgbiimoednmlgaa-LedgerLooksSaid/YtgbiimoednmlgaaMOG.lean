/- A part of the proof: LdA, LdGe, LdKp, one behind another. -/
import Derived.Test.YtgbiimoednmlgaaMOA
import Derived.Test.YtgbiimoednmlgaaMOB
import Derived.Test.YtgbiimoednmlgaaMOC
import Derived.Test.YtgbiimoednmlgaaMOD
import Derived.Test.YtgbiimoednmlgaaMOE
import Derived.Test.YtgbiimoednmlgaaMOF
/- The document's Right, May, Get. -/
namespace Go.Proofs.Ytgbiimoednmlgaa
set_option linter.unusedVariables false
set_option linter.unusedSimpArgs false
open Go.RowKit
set_option maxRecDepth 100000 in
set_option maxHeartbeats 4000000 in
theorem ahead_any (x y : Acct) (w : World) : Calls Try.prog 38 #[.agg (acctC x).toArray, .agg (acctC y).toArray] w fun e w' => e = .returned (.bool (decide (kcmp x.key y.key < 0))) ∧ Below w.heap.size w w' := by
  have h1 := (Below.refl w.heap.size w).alloc (Nat.le_refl _) (.cells (acctC x).toArray 58)
  have h2 := h1.alloc h1.size (.cells (acctC y).toArray 58)
  have BX := Lib.hid ((Mem.Blk.new w 58 (acctC x).toArray).below ((Below.refl (w.alloc (.cells (acctC x).toArray 58)).heap.size _).alloc (Nat.le_refl _) (.cells (acctC y).toArray 58)))
  have BY := Lib.hid (Mem.Blk.new (w.alloc (.cells (acctC x).toArray 58)) 58 (acctC y).toArray)
  have HB := Lib.hid h2
  clear h1 h2
  have q1 := less_b x.party y.party
  have q2 := same_b x.party y.party
  have q3 := less_b x.coin y.coin
  obtain ⟨R, hR⟩ : ∃ R, R = decide (kcmp x.key y.key < 0) := ⟨_, rfl⟩
  have HR : Hid (R = decide (x.party.data.toList < y.party.data.toList ∨ (x.party.data.toList = y.party.data.toList ∧ x.coin.data.toList < y.coin.data.toList))) := by
    show R = _
    rw [hR]
    exact decide_eq_decide.2 kcmp_neg
  rw [← hR]
  clear hR
  show Calls Try.prog 38 #[.agg #[.string x.party, .string x.coin, .int .i64 x.amt], .agg #[.string y.party, .string y.coin, .int .i64 y.amt]] w _
  go_enter Try.func38, Try.ntmps38
  go_upto_region 1 with (fail)
  have BX' : Hid (Mem.Blk ((w.alloc (.cells #[.string x.party, .string x.coin, .int .i64 x.amt] 58)).alloc (.cells #[.string y.party, .string y.coin, .int .i64 y.amt] 58)) w.heap.size 58 (acctC x).toArray) := BX.out
  have BY' : Hid (Mem.Blk ((w.alloc (.cells #[.string x.party, .string x.coin, .int .i64 x.amt] 58)).alloc (.cells #[.string y.party, .string y.coin, .int .i64 y.amt] 58)) (w.alloc (.cells #[.string x.party, .string x.coin, .int .i64 x.amt] 58)).heap.size 58 (acctC y).toArray) := BY.out
  have HB' : Hid (Below w.heap.size w ((w.alloc (.cells #[.string x.party, .string x.coin, .int .i64 x.amt] 58)).alloc (.cells #[.string y.party, .string y.coin, .int .i64 y.amt] 58))) := HB.out
  clear BX BY HB
  have ez : (w.alloc (.cells #[.string x.party, .string x.coin, .int .i64 x.amt] 58)).heap.size = w.heap.size + 1 := by simp
  rw [ez] at BY'
  clear ez
  generalize (w.alloc (.cells #[.string x.party, .string x.coin, .int .i64 x.amt] 58)).alloc (.cells #[.string y.party, .string y.coin, .int .i64 y.amt] 58) = w1 at *
  have c0 : w1.cell? ⟨w.heap.size, 0, none⟩ = some (.string x.party) := BX'.out.cell 0
  have c1 : w1.cell? ⟨w.heap.size, 1, none⟩ = some (.string x.coin) := BX'.out.cell 1
  have d0 : w1.cell? ⟨w.heap.size + 1, 0, none⟩ = some (.string y.party) := BY'.out.cell 0
  have d1 : w1.cell? ⟨w.heap.size + 1, 1, none⟩ = some (.string y.coin) := BY'.out.cell 1
  by_cases h1 : x.party.data.toList < y.party.data.toList
  · rw [decide_eq_true h1] at q1
    have HF : Hid (R = true) := by show _ = _; rw [HR.out]; exact decide_eq_true (.inl h1)
    clear HR h1
    go_wp2_with fail
    go_ret
    exact ⟨by rw [HF.out]; rfl, HB'.out⟩
  · rw [decide_eq_false h1] at q1
    by_cases h2 : x.party.data.toList = y.party.data.toList
    · rw [decide_eq_true h2] at q2
      by_cases h3 : x.coin.data.toList < y.coin.data.toList
      · rw [decide_eq_true h3] at q3
        have HF : Hid (R = true) := by show _ = _; rw [HR.out]; exact decide_eq_true (.inr ⟨h2, h3⟩)
        clear HR h1 h2 h3
        go_wp2_with fail
        go_ret
        exact ⟨by rw [HF.out]; rfl, HB'.out⟩
      · rw [decide_eq_false h3] at q3
        have HF : Hid (R = false) := by show _ = _; rw [HR.out]; exact decide_eq_false (fun h => h.elim h1 (fun h => h3 h.2))
        clear HR h1 h2 h3
        go_wp2_with fail
        go_ret
        exact ⟨by rw [HF.out]; rfl, HB'.out⟩
    · rw [decide_eq_false h2] at q2
      have HF : Hid (R = false) := by show _ = _; rw [HR.out]; exact decide_eq_false (fun h => h.elim h1 (fun h => h2 h.1))
      clear HR h1 h2
      go_wp2_with fail
      go_ret
      exact ⟨by rw [HF.out]; rfl, HB'.out⟩
set_option maxRecDepth 100000 in
set_option maxHeartbeats 2000000 in
theorem rmay_any (x : Mv) (hx : MvOk x) (w : World) : Calls Try.prog 18 #[.agg (mvC x).toArray] w fun e w' => e = .returned (.bool (mayM x)) ∧ Below w.heap.size w w' := by
  have HB := Lib.hid ((Below.refl w.heap.size w).alloc (Nat.le_refl _) (.cells (mvC x).toArray 40))
  have BX := Lib.hid (Mem.Blk.new w 40 (mvC x).toArray)
  have HSP : Hid (∀ W, Calls Try.prog 31 #[.string x.src] W fun e w' => e = .returned (.bool (nmd x.src)) ∧ w' = W) := fun W => (rnamed_any x.src W (by have := hx.src; unfold maxLen at this; omega)).mono fun _ _ h => ⟨h.1, h.2.symm⟩
  have HSD : Hid (∀ W, Calls Try.prog 31 #[.string x.dst] W fun e w' => e = .returned (.bool (nmd x.dst)) ∧ w' = W) := fun W => (rnamed_any x.dst W (by have := hx.dst; unfold maxLen at this; omega)).mono fun _ _ h => ⟨h.1, h.2.symm⟩
  have HSC : Hid (∀ W, Calls Try.prog 31 #[.string x.coin] W fun e w' => e = .returned (.bool (nmd x.coin)) ∧ w' = W) := fun W => (rnamed_any x.coin W (by have := hx.coin; unfold maxLen at this; omega)).mono fun _ _ h => ⟨h.1, h.2.symm⟩
  have hsm := same_b x.src x.dst
  obtain ⟨R, hR⟩ : ∃ R, R = mayM x := ⟨_, rfl⟩
  have HR := Lib.hid hR
  rw [← hR]
  clear hR hx
  show Calls Try.prog 18 #[.agg #[.string x.src, .string x.dst, .string x.coin, .int .i64 x.amt]] w _
  go_enter Try.func18, Try.ntmps18
  go_upto_region 1 with (fail)
  have HB' : Hid (Below w.heap.size w (w.alloc (.cells #[.string x.src, .string x.dst, .string x.coin, .int .i64 x.amt] 40))) := HB.out
  have BX' : Hid (Mem.Blk (w.alloc (.cells #[.string x.src, .string x.dst, .string x.coin, .int .i64 x.amt] 40)) w.heap.size 40 (mvC x).toArray) := BX.out
  clear HB BX
  generalize w.alloc (.cells #[.string x.src, .string x.dst, .string x.coin, .int .i64 x.amt] 40) = w1 at *
  have c0 : w1.cell? ⟨w.heap.size, 0, none⟩ = some (.string x.src) := BX'.out.cell 0
  have c1 : w1.cell? ⟨w.heap.size, 1, none⟩ = some (.string x.dst) := BX'.out.cell 1
  have c2 : w1.cell? ⟨w.heap.size, 2, none⟩ = some (.string x.coin) := BX'.out.cell 2
  have c3 : w1.cell? ⟨w.heap.size, 3, none⟩ = some (.int .i64 x.amt) := BX'.out.cell 3
  cases h1 : nmd x.src with
  | false =>
    rw [h1] at HSP
    have HQ : Hid (R = false) := by show R = false; rw [HR.out]; unfold mayM; rw [h1]; simp
    clear HR h1
    go_wp2_with fail
    go_at_call 31
    (with_reducible refine (HSP.out _).mono ?_)
    rintro e w2 ⟨rfl, hw2⟩
    rw [hw2]
    clear hw2 w2
    go_wp2_with fail
    go_ret
    exact ⟨by rw [HQ.out]; rfl, HB'.out⟩
  | true =>
    rw [h1] at HSP
    go_wp2_with fail
    go_at_call 31
    (with_reducible refine (HSP.out _).mono ?_)
    rintro e w2 ⟨rfl, hw2⟩
    rw [hw2]
    clear hw2 w2
    cases h2 : nmd x.dst with
    | false =>
      rw [h2] at HSD
      have HQ : Hid (R = false) := by show R = false; rw [HR.out]; unfold mayM; rw [h2]; simp
      clear HR h1 h2
      go_wp2_with fail
      go_at_call 31
      (with_reducible refine (HSD.out _).mono ?_)
      rintro e w2 ⟨rfl, hw2⟩
      rw [hw2]
      clear hw2 w2
      go_wp2_with fail
      go_ret
      exact ⟨by rw [HQ.out]; rfl, HB'.out⟩
    | true =>
      rw [h2] at HSD
      go_wp2_with fail
      go_at_call 31
      (with_reducible refine (HSD.out _).mono ?_)
      rintro e w2 ⟨rfl, hw2⟩
      rw [hw2]
      clear hw2 w2
      cases h3 : nmd x.coin with
      | false =>
        rw [h3] at HSC
        have HQ : Hid (R = false) := by show R = false; rw [HR.out]; unfold mayM; rw [h3]; simp
        clear HR h1 h2 h3
        go_wp2_with fail
        go_at_call 31
        (with_reducible refine (HSC.out _).mono ?_)
        rintro e w2 ⟨rfl, hw2⟩
        rw [hw2]
        clear hw2 w2
        go_wp2_with fail
        go_ret
        exact ⟨by rw [HQ.out]; rfl, HB'.out⟩
      | true =>
        rw [h3] at HSC
        go_wp2_with fail
        go_at_call 31
        (with_reducible refine (HSC.out _).mono ?_)
        rintro e w2 ⟨rfl, hw2⟩
        rw [hw2]
        clear hw2 w2
        by_cases h4 : x.src.data.toList = x.dst.data.toList
        · rw [decide_eq_true h4] at hsm
          have HQ : Hid (R = false) := by show R = false; rw [HR.out]; unfold mayM; rw [decide_eq_false (by simpa using h4)]; simp
          clear HR h1 h2 h3 h4
          go_wp2_with fail
          go_ret
          exact ⟨by rw [HQ.out]; rfl, HB'.out⟩
        · rw [decide_eq_false h4] at hsm
          by_cases h5 : 1 ≤ x.amt
          · have HQ : Hid (R = true) := by show R = true; rw [HR.out]; unfold mayM; rw [h1, h2, h3, decide_eq_true h4, decide_eq_true h5]; rfl
            have h5d : decide (1 ≤ x.amt) = true := decide_eq_true h5
            clear HR h1 h2 h3 h4 h5
            go_wp2_with fail
            go_ret
            exact ⟨by rw [HQ.out]; rfl, HB'.out⟩
          · have HQ : Hid (R = false) := by show R = false; rw [HR.out]; unfold mayM; rw [decide_eq_false h5]; simp
            have h5d : decide (1 ≤ x.amt) = false := decide_eq_false h5
            clear HR h1 h2 h3 h4 h5
            go_wp2_with fail
            go_ret
            exact ⟨by rw [HQ.out]; rfl, HB'.out⟩
set_option maxRecDepth 100000 in
set_option maxHeartbeats 4000000 in
theorem rright_any (l : List Acct) (a : Option Addr) (len cap : Nat) (w : World) (h : SlR acctK w [] l a len cap) (hlen : len ≤ 1000000) :
    Calls Try.prog 17 #[.slice a len cap] w fun x w' => x = .returned (.bool (rightA l)) ∧ Below w.heap.size w w' := by
  have HS := Lib.hid h
  have HL := Lib.hid h.facts.1
  have HN := Lib.hid hlen
  obtain ⟨R, hR⟩ : ∃ R, R = rightA l := ⟨_, rfl⟩
  have HR := Lib.hid hR
  rw [← hR]
  clear h hR hlen
  go_enter Try.func17, Try.ntmps17
  go_wp2_with fail
  go_loopw [3] (fun i wr => ∃ (k : Nat), i = .int .i64 (k : Nat) ∧ k ≤ len ∧ Hid (RtSt l k ∧ Below w.heap.size w wr)) (fun i _ => len - (intOf i).toNat)
  case atStart => exact ⟨0, rfl, Nat.zero_le _, RtSt.zero l, Below.refl _ _⟩
  case round =>
    obtain ⟨k, rfl, hk, HT⟩ := hrel
    by_cases hlt : k < len
    · have hlt' : (k : Int) < (len : Int) := by omega
      have i0 : (0 : Int) ≤ (k : Int) := by omega
      have i1 : (k : Int) ≤ 1000000 := by have := HN.out; omega
      have HSA := Lib.hid (HS.out.kept (Kept.of_below HT.out.2 []))
      obtain ⟨b, o, x, rfl, hx, hok, z0, z1, z2⟩ := acct_at HSA.out k hlt
      have HBA := Lib.hid HT.out.2
      have HX := Lib.hid hx
      have HOK := Lib.hid hok
      have HTR := Lib.hid HT.out.1
      have HKL := Lib.hid hlt
      obtain ⟨w1, hw1⟩ : ∃ W, W = wr := ⟨_, rfl⟩
      rw [← hw1] at HSA HBA z0 z1 z2 ⊢
      clear hx hok hlt HT hw1
      go_upto_region 4 with (fail)
      have HNP : Hid (∀ n, Calls Try.prog 31 #[.string x.party] (w1.drewN n) fun e w' => e = .returned (.bool (nmd x.party)) ∧ ∃ m, w' = w1.drewN m) := fun n => (rnamed_any x.party _ (by have := HOK.out.party; unfold maxLen at this; omega)).mono fun _ _ h => ⟨h.1, n, h.2.symm⟩
      have HNC : Hid (∀ n, Calls Try.prog 31 #[.string x.coin] (w1.drewN n) fun e w' => e = .returned (.bool (nmd x.coin)) ∧ ∃ m, w' = w1.drewN m) := fun n => (rnamed_any x.coin _ (by have := HOK.out.coin; unfold maxLen at this; omega)).mono fun _ _ h => ⟨h.1, n, h.2.symm⟩
      have HSP : Hid (∀ W, Calls Try.prog 31 #[.string x.party] W fun e w' => e = .returned (.bool (nmd x.party)) ∧ w' = W) := fun W => (rnamed_any x.party W (by have := HOK.out.party; unfold maxLen at this; omega)).mono fun _ _ h => ⟨h.1, h.2.symm⟩
      have HSC : Hid (∀ W, Calls Try.prog 31 #[.string x.coin] W fun e w' => e = .returned (.bool (nmd x.coin)) ∧ w' = W) := fun W => (rnamed_any x.coin W (by have := HOK.out.coin; unfold maxLen at this; omega)).mono fun _ _ h => ⟨h.1, h.2.symm⟩
      cases hnp : nmd x.party with
      | false =>
        rw [hnp] at HNP
        have HB : Hid (R = false) := by show R = false; rw [HR.out]; exact right_bad HX.out (by unfold okA; rw [hnp]; rfl)
        clear HR hnp
        go_quiet ((first | (go_at_call 31; with_reducible exact HNP.out _) | (go_at_call 31; with_reducible exact HNC.out _)))
        have HB2 := Lib.hid (HBA.out.trans ((below_dN (Below.refl w1.heap.size w1) nq).mono HBA.out.size))
        go_wp2_with fail
        go_ret
        exact ⟨by rw [HB.out]; rfl, HB2.out⟩
      | true =>
        rw [hnp] at HNP HSP
        cases hnc : nmd x.coin with
        | false =>
          rw [hnc] at HNC
          have HB : Hid (R = false) := by show R = false; rw [HR.out]; exact right_bad HX.out (by unfold okA; rw [hnp, hnc]; rfl)
          clear HR hnp hnc
          go_quiet ((first | (go_at_call 31; with_reducible exact HNP.out _) | (go_at_call 31; with_reducible exact HNC.out _)))
          have HB2 := Lib.hid (HBA.out.trans ((below_dN (Below.refl w1.heap.size w1) nq).mono HBA.out.size))
          go_wp2_with fail
          go_ret
          exact ⟨by rw [HB.out]; rfl, HB2.out⟩
        | true =>
          rw [hnc] at HNC HSC
          by_cases hz : x.amt = 0
          · have hz' : (x.amt == 0) = true := by simpa using hz
            have HB : Hid (R = false) := by show R = false; rw [HR.out]; exact right_bad HX.out (by unfold okA; rw [hnp, hnc, decide_eq_false (by simpa using hz)]; rfl)
            clear HR hnp hnc hz
            go_quiet ((first | (go_at_call 31; with_reducible exact HNP.out _) | (go_at_call 31; with_reducible exact HNC.out _)))
            have HB2 := Lib.hid (HBA.out.trans ((below_dN (Below.refl w1.heap.size w1) nq).mono HBA.out.size))
            go_wp2_with fail
            go_ret
            exact ⟨by rw [HB.out]; rfl, HB2.out⟩
          · have hz' : (x.amt == 0) = false := by simpa using hz
            have HO : Hid (okA x = true) := by show okA x = true; unfold okA; rw [hnp, hnc, decide_eq_true hz]; rfl
            clear hnp hnc hz
            by_cases hk0 : 0 < k
            · obtain ⟨j, hj⟩ : ∃ j, k = j + 1 := ⟨k - 1, by omega⟩
              obtain ⟨b', o', y, hbo, hy, -, v0, v1, v2⟩ := acct_at HSA.out j (by have := HKL.out; omega)
              obtain ⟨rfl, rfl⟩ : b = b' ∧ o = o' := by injection hbo with hbo; injection hbo with e1 e2; exact ⟨e1, e2⟩
              have HY := Lib.hid hy
              have HJ := Lib.hid hj
              have hwk : IntKind.i64.wrap ((k : Int) - 1) = (j : Int) := by rw [IntWalk.i64_in _ (by omega)]; omega
              have hwk3 : (k : Int) - 1 = (j : Int) := by omega
              have hwk4 : IntKind.i64.wrap ((j : Nat) : Int) = (j : Int) := IntWalk.i64_in _ (by omega)
              have hjl : (j : Int) < (len : Int) := by have := HKL.out; omega
              have hj0 : (0 : Int) ≤ (j : Int) := by omega
              have hk0' : (0 : Int) < (k : Int) := by omega
              have HOR : Hid (∀ W, Calls Try.prog 38 #[.agg #[.string y.party, .string y.coin, .int .i64 y.amt], .agg #[.string x.party, .string x.coin, .int .i64 x.amt]] W _) := fun W => ahead_any y x W
              obtain ⟨Q, hQ⟩ : ∃ Q, Q = kcmp y.key x.key := ⟨_, rfl⟩
              rw [← hQ] at HOR
              have HQ := Lib.hid hQ
              clear hy hQ hbo hj
              go_still_tail 37, (by kernel_rfl)
              still_call (HSP.out _)
              repeat still_step
              still_call (HSC.out _)
              repeat still_step
              refine wpStill_nil ?_
              change wpList _ _ _ _ _ w1.drew
              go_wp2_with fail
              go_at_call 38
              (with_reducible refine (HOR.out _).mono ?_)
              rintro e w2 ⟨rfl, b2⟩
              have HB2 := Lib.hid (HBA.out.trans (((Below.refl w1.heap.size w1).drew.trans b2).mono HBA.out.size))
              clear b2 HOR HSP HSC HNP HNC v0 v1 v2 z0 z1 z2 hwk hwk3 hwk4 hjl hj0
              by_cases hq : Q < 0
              · have HT2 := Lib.hid (HTR.out.next HX.out HO.out (fun b' _ hb' => by
                  rw [show k - 1 = j by have := HJ.out; omega, HY.out] at hb'
                  have hb2 := Option.some.inj hb'
                  rw [← hb2, ← HQ.out]; omega))
                rw [decide_eq_true hq]
                clear hq
                go_wp2_with fail
                go_roundw
                case rel => exact ⟨k + 1, by go_num, by have := HKL.out; omega, HT2.out, HB2.out⟩
                case measure => simp [intOf]; have := HKL.out; omega
              · have HB : Hid (R = false) := by
                  show R = false
                  rw [HR.out]
                  exact right_bad2 (b := y) (by omega) (by rw [show k - 1 = j by have := HJ.out; omega]; exact HY.out) HX.out (by rw [← HQ.out]; omega)
                rw [decide_eq_false hq]
                clear HR hq
                go_wp2_with fail
                go_ret
                exact ⟨by rw [HB.out]; rfl, HB2.out⟩
            · have hk0' : decide ((0 : Int) < (k : Int)) = false := decide_eq_false (by omega)
              have hk0'' : decide (0 < k) = false := decide_eq_false hk0
              have HT2 := Lib.hid (HTR.out.next HX.out HO.out (fun b h => absurd h hk0))
              clear hk0
              go_quiet ((first | (go_at_call 31; with_reducible exact HNP.out _) | (go_at_call 31; with_reducible exact HNC.out _)))
              have HB2 := Lib.hid (HBA.out.trans ((below_dN (Below.refl w1.heap.size w1) nq).mono HBA.out.size))
              go_wp2_with fail
              go_roundw
              case rel => exact ⟨k + 1, by go_num, by have := HKL.out; omega, HT2.out, HB2.out⟩
              case measure => simp [intOf]; have := HKL.out; omega
    · have hlt' : ¬ (k : Int) < (len : Int) := by omega
      have HB : Hid (R = true) := by
        show R = true
        have e : k = l.length := by rw [HL.out]; omega
        rw [HR.out]
        have := HT.out.1
        rw [e] at this
        exact this.all
      have HB2 := Lib.hid HT.out.2
      clear HR HT
      go_wp2_with fail
      go_ret
      exact ⟨by rw [HB.out]; rfl, HB2.out⟩
end Go.Proofs.Ytgbiimoednmlgaa

/- The document's Get. -/
namespace Go.Proofs.Ytgbiimoednmlgaa
set_option linter.unusedVariables false
set_option linter.unusedSimpArgs false
open Go.RowKit
def getR (l : List Acct) (k : Ky) : Int := ((l.find? (fun a => decide (a.key = k))).map Acct.amt).getD 0
theorem getR_none {l : List Acct} {k : Ky} (h : ∀ (j : Nat) a, l[j]? = some a → a.key ≠ k) : getR l k = 0 := by
  unfold getR
  rw [List.find?_eq_none.2 (fun a ha => by
    obtain ⟨j, hj⟩ := List.getElem?_of_mem ha
    simpa using h j a hj)]
  rfl
theorem getR_some {l : List Acct} {k : Ky} {i : Nat} {a : Acct} (hi : l[i]? = some a) (hk : a.key = k) (h : ∀ (j : Nat) b, j < i → l[j]? = some b → b.key ≠ k) : getR l k = a.amt := by
  unfold getR
  have : l.find? (fun a => decide (a.key = k)) = some a := by
    rw [List.find?_eq_some_iff_getElem]
    obtain ⟨hil, hia⟩ := List.getElem?_eq_some_iff.1 hi
    refine ⟨by simpa using hk, i, hil, hia, fun j hj => ?_⟩
    have := h j (l[j]'(by omega)) hj (List.getElem?_eq_getElem (by omega))
    simpa using this
  rw [this]; rfl
theorem getR_tot {l : List Acct} {k : Ky} (hu : UpK Acct.key l) : getR l k = tot (conA l) k := by
  by_cases h : ∃ a ∈ l, a.key = k
  · obtain ⟨a, ha, hk⟩ := h
    obtain ⟨i, hi⟩ := List.getElem?_of_mem ha
    rw [getR_some hi hk (fun j b hj hb e => by
      have := hu.at hb hi hj
      rw [e, hk] at this; exact klt_irrefl _ this), ← hk]
    exact (tot_conA hu ha).symm
  · rw [getR_none (fun j a ha e => h ⟨a, List.mem_of_getElem? ha, e⟩)]
    exact (tot_conA_none (fun a ha e => h ⟨a, ha, e⟩)).symm
theorem getR_rng {l : List Acct} {k : Ky} (h : ∀ a ∈ l, AcctOk a) : I64 (getR l k) := by
  unfold getR
  cases hf : l.find? (fun a => decide (a.key = k)) with
  | none => show I64 0; unfold I64; omega
  | some a => exact (h a (List.mem_of_find?_eq_some hf)).amt
theorem key_eq {a : Acct} {p c : ByteArray} : a.key = (p.data.toList, c.data.toList) ↔ a.party.data.toList = p.data.toList ∧ a.coin.data.toList = c.data.toList :=
  ⟨fun h => ⟨congrArg Prod.fst h, congrArg Prod.snd h⟩, fun h => Prod.ext h.1 h.2⟩
set_option maxRecDepth 100000 in
set_option maxHeartbeats 4000000 in
theorem rget_any (l : List Acct) (a : Option Addr) (len cap : Nat) (p c : ByteArray) (w : World) (h : SlR acctK w [] l a len cap) (hlen : len ≤ 1000000) :
    Calls Try.prog 26 #[.slice a len cap, .string p, .string c] w fun x w' => x = .returned (.int .i64 (getR l (p.data.toList, c.data.toList))) ∧ w' = w := by
  have HS := Lib.hid h
  have HL := Lib.hid h.facts.1
  have HN := Lib.hid hlen
  obtain ⟨R, hR⟩ : ∃ R, R = getR l (p.data.toList, c.data.toList) := ⟨_, rfl⟩
  have HR := Lib.hid hR
  rw [← hR]
  clear h hR hlen
  go_enter Try.func26, Try.ntmps26
  go_wp2_with fail
  go_loopw [7] (fun i wr => ∃ (k : Nat), i = .int .i64 (k : Nat) ∧ k ≤ len ∧ wr = w ∧ Hid (∀ (j : Nat) b, j < k → l[j]? = some b → b.key ≠ (p.data.toList, c.data.toList))) (fun i _ => len - (intOf i).toNat)
  case atStart => exact ⟨0, rfl, Nat.zero_le _, rfl, fun j b h => absurd h (by omega)⟩
  case round =>
    obtain ⟨k, rfl, hk, rfl, HT⟩ := hrel
    by_cases hlt : k < len
    · have hlt' : (k : Int) < (len : Int) := by omega
      have i0 : (0 : Int) ≤ (k : Int) := by omega
      have i1 : (k : Int) ≤ 1000000 := by have := HN.out; omega
      obtain ⟨b, o, x, rfl, hx, -, u0, u1, u2⟩ := acct_at HS.out k hlt
      have HX := Lib.hid hx
      have HKL := Lib.hid hlt
      have q1 := same_b x.party p
      have q2 := same_b x.coin c
      clear hx hlt
      by_cases h1 : x.party.data.toList = p.data.toList
      · rw [decide_eq_true h1] at q1
        by_cases h2 : x.coin.data.toList = c.data.toList
        · rw [decide_eq_true h2] at q2
          have HF : Hid (R = x.amt) := by show _ = _; rw [HR.out]; exact getR_some HX.out (key_eq.2 ⟨h1, h2⟩) HT.out
          clear HR h1 h2
          go_wp2_with fail
          go_ret
          exact ⟨by rw [HF.out]; rfl, rfl⟩
        · rw [decide_eq_false h2] at q2
          have HT2 : Hid (∀ (j : Nat) b, j < k + 1 → l[j]? = some b → b.key ≠ (p.data.toList, c.data.toList)) := by
            intro j y hj hy
            by_cases e : j < k
            · exact HT.out j y e hy
            · obtain rfl : j = k := by omega
              rw [HX.out] at hy; rw [← Option.some.inj hy]
              exact fun h => h2 (key_eq.1 h).2
          clear h1 h2
          go_wp2_with fail
          go_roundw
          case rel => exact ⟨k + 1, by go_num, by have := HKL.out; omega, trivial, HT2.out⟩
          case measure => simp [intOf]; have := HKL.out; omega
      · rw [decide_eq_false h1] at q1
        have HT2 : Hid (∀ (j : Nat) b, j < k + 1 → l[j]? = some b → b.key ≠ (p.data.toList, c.data.toList)) := by
          intro j y hj hy
          by_cases e : j < k
          · exact HT.out j y e hy
          · obtain rfl : j = k := by omega
            rw [HX.out] at hy; rw [← Option.some.inj hy]
            exact fun h => h1 (key_eq.1 h).1
        clear h1
        go_wp2_with fail
        go_roundw
        case rel => exact ⟨k + 1, by go_num, by have := HKL.out; omega, trivial, HT2.out⟩
        case measure => simp [intOf]; have := HKL.out; omega
    · have hlt' : ¬ (k : Int) < (len : Int) := by omega
      have HF : Hid (R = 0) := by
        show _ = _
        rw [HR.out]
        exact getR_none (fun j a ha => HT.out j a (by have := (List.getElem?_eq_some_iff.1 ha).1; have := HL.out; omega) ha)
      clear HR HT hlt
      go_wp2_with fail
      go_ret
      exact ⟨by rw [HF.out]; rfl, rfl⟩
end Go.Proofs.Ytgbiimoednmlgaa

/- The document's keys: plain, and rows of accounts. -/
namespace Go.Proofs.Ytgbiimoednmlgaa
set_option linter.unusedVariables false
set_option linter.unusedSimpArgs false
open Go.RowKit
def zA (a : Acct) : Acct := ⟨a.party, a.coin, 0⟩
def zM (x : Mv) : List Acct := [⟨x.src, x.coin, 0⟩, ⟨x.dst, x.coin, 0⟩]
def allK (l : List Acct) (m : List Mv) : List Acct := l.map zA ++ m.flatMap zM
def insA (l : List Acct) (i : Nat) (x : Acct) : List Acct := l.take i ++ x :: l.drop i
theorem insA_up {l : List Acct} (h : UpK Acct.key l) {i : Nat} {x : Acct} (a : AtK Acct.key l x.key i) (hh : hitK Acct.key l x.key i = false) : UpK Acct.key (insA l i x) := by
  unfold insA UpK
  rw [List.pairwise_append]
  refine ⟨h.sublist (List.take_sublist ..), List.pairwise_cons.2 ⟨fun y hy => ?_, h.sublist (List.drop_sublist ..)⟩, fun y hy z hz => ?_⟩
  · obtain ⟨j, hj⟩ := List.getElem?_of_mem hy
    rw [List.getElem?_drop] at hj
    cases j with
    | zero => exact a.here hh hj
    | succ j => exact a.above h _ _ (by omega) hj
  · obtain ⟨j, hj⟩ := List.getElem?_of_mem hy
    rw [List.getElem?_take] at hj
    split at hj
    · rename_i hji
      have h1 := a.below h j y hji hj
      rcases List.mem_cons.1 hz with rfl | hz
      · exact h1
      · obtain ⟨k, hk⟩ := List.getElem?_of_mem hz
        rw [List.getElem?_drop] at hk
        exact h.at hj hk (by omega)
    · cases hj
theorem insA_len (l : List Acct) (i : Nat) (x : Acct) (h : i ≤ l.length) : (insA l i x).length = l.length + 1 := by
  unfold insA
  rw [List.length_append, List.length_cons, List.length_take, List.length_drop]; omega
theorem mem_insA {l : List Acct} {i : Nat} {x y : Acct} : y ∈ insA l i x ↔ y = x ∨ y ∈ l := by
  unfold insA
  rw [List.mem_append, List.mem_cons]
  have := List.take_append_drop i l
  constructor
  · rintro (h | h | h)
    · exact .inr (List.mem_of_mem_take h)
    · exact .inl h
    · exact .inr (List.mem_of_mem_drop h)
  · rintro (h | h)
    · exact .inr (.inl h)
    · rw [← this, List.mem_append] at h
      rcases h with h | h
      · exact .inl h
      · exact .inr (.inr h)
structure KeySt (out seen : List Acct) : Prop where
  up : UpK Acct.key out
  sub : ∀ a ∈ out, a ∈ seen
  all : ∀ a ∈ seen, ∃ b ∈ out, b.key = a.key
  len : out.length ≤ seen.length
theorem KeySt.nil : KeySt [] [] := ⟨List.Pairwise.nil, fun a h => (nomatch h), fun a h => (nomatch h), Nat.le_refl _⟩
theorem KeySt.skip {out seen : List Acct} (h : KeySt out seen) {x y : Acct} (hy : y ∈ out) (hx : y.key = x.key) : KeySt out (seen ++ [x]) :=
  ⟨h.up, fun a ha => List.mem_append_left _ (h.sub a ha), fun a ha => by
    rcases List.mem_append.1 ha with ha | ha
    · exact h.all a ha
    · rw [List.mem_singleton] at ha; subst ha; exact ⟨y, hy, hx⟩, by rw [List.length_append]; have := h.len; omega⟩
theorem KeySt.ins {out seen : List Acct} (h : KeySt out seen) {x : Acct} {p : Nat} (a : AtK Acct.key out x.key p) (hh : hitK Acct.key out x.key p = false) : KeySt (insA out p x) (seen ++ [x]) :=
  ⟨insA_up h.up a hh, fun b hb => by
    rcases mem_insA.1 hb with rfl | hb
    · exact List.mem_append_right _ (List.mem_singleton_self _)
    · exact List.mem_append_left _ (h.sub b hb), fun b hb => by
    rcases List.mem_append.1 hb with hb | hb
    · obtain ⟨c, hc, hk⟩ := h.all b hb
      exact ⟨c, mem_insA.2 (.inr hc), hk⟩
    · rw [List.mem_singleton] at hb; subst hb; exact ⟨b, mem_insA.2 (.inl rfl), rfl⟩, by rw [insA_len _ _ _ a.le, List.length_append]; have := h.len; simp only [List.length_singleton]; omega⟩
theorem outR_len (l : List Acct) : (outR l).length = l.length * 3 := by
  unfold outR
  rw [flat_len 3 _ (fun c hc => by obtain ⟨x, _, rfl⟩ := List.mem_map.1 hc; rfl), List.length_map]
theorem outR_at (l : List Acct) {k : Nat} {x : Acct} (h : l[k]? = some x) (j : Nat) (hj : j < 3) : (outR l)[k * 3 + j]? = (acctC x)[j]? := by
  unfold outR
  exact flat_get 3 _ (fun c hc => by obtain ⟨x, _, rfl⟩ := List.mem_map.1 hc; rfl) k j (acctC x) (by rw [List.getElem?_map, h]; rfl) hj
theorem rowA_at {t : TypeId} {base : Nat} {w : World} {v : Value} {l : List Acct} {n : Nat} (h : w.ownsRow base t 3 v n (outR l)) (hn : l.length = n) (k : Nat) (hk : k < n) : ∃ g cap x, v = .slice (some ⟨g, 0, none⟩) n cap ∧ l[k]? = some x ∧ w.cell? ⟨g, k * 3, none⟩ = some (.string x.party) ∧ w.cell? ⟨g, k * 3 + 1, none⟩ = some (.string x.coin) ∧ w.cell? ⟨g, k * 3 + 2, none⟩ = some (.int .i64 x.amt) ∧ (∀ j, w.frozen? ⟨g, j, none⟩ = false) := by
  obtain ⟨g, cap, rfl, -⟩ := own_form h (by omega)
  have hf : l[k]? = some (l[k]'(by omega)) := List.getElem?_eq_getElem (by omega)
  have hc : ∀ j u, j < 3 → (acctC (l[k]'(by omega)))[j]? = some u → w.cell? ⟨g, k * 3 + j, none⟩ = some u := by
    intro j u hj hu
    rw [h.cellAt (k * 3 + j) (by omega), outR_at l hf j hj]; exact hu
  exact ⟨g, cap, l[k]'(by omega), rfl, hf, hc 0 _ (by omega) rfl, hc 1 _ (by omega) rfl, hc 2 _ (by omega) rfl, fun j => h.frozenAt j⟩
theorem outR_put (A B : List Acct) (y x : Acct) : (((outR (A ++ y :: B)).set (A.length * 3) (.string x.party)).set (A.length * 3 + 1) (.string x.coin)).set (A.length * 3 + 2) (.int .i64 x.amt) = outR (A ++ x :: B) := by
  have e : ∀ z, outR (A ++ z :: B) = outR A ++ (acctC z ++ outR B) := fun z => by rw [outR_append, show z :: B = [z] ++ B from rfl, outR_append, outR_one]
  have hl := outR_len A
  rw [e, e, List.set_append_right _ _ (by omega), List.set_append_right _ _ (by omega), List.set_append_right _ _ (by omega), hl, Nat.sub_self, Nat.add_sub_cancel_left, Nat.add_sub_cancel_left]
  rfl
def put3 (w : World) (g k : Nat) (x : Acct) : World := ((w.setCell ⟨g, k * 3, none⟩ (.string x.party)).setCell ⟨g, k * 3 + 1, none⟩ (.string x.coin)).setCell ⟨g, k * 3 + 2, none⟩ (.int .i64 x.amt)
theorem rowA_put {t : TypeId} {base g cap n : Nat} {w : World} {A B : List Acct} {y : Acct} (h : w.ownsRow base t 3 (.slice (some ⟨g, 0, none⟩) n cap) n (outR (A ++ y :: B))) (x : Acct) (k : Nat) (hk : A.length = k) :
    (put3 w g k x).ownsRow base t 3 (.slice (some ⟨g, 0, none⟩) n cap) n (outR (A ++ x :: B)) := by
  subst hk
  rw [← outR_put A B y x]
  exact (((h.stored (A.length * 3) (.string x.party)).1.stored (A.length * 3 + 1) (.string x.coin)).1.stored (A.length * 3 + 2) (.int .i64 x.amt)).1
theorem below_put3 {base g k : Nat} {w0 w : World} (h : Below base w0 w) (hg : base ≤ g) (x : Acct) : Below base w0 (put3 w g k x) := ((h.setCell (p := ⟨g, k * 3, none⟩) hg _).setCell (p := ⟨g, k * 3 + 1, none⟩) hg _).setCell (p := ⟨g, k * 3 + 2, none⟩) hg _
theorem row_cell {t : TypeId} {base g cap n : Nat} {w : World} {xs : List Value} (h : w.ownsRow base t 3 (.slice (some ⟨g, 0, none⟩) n cap) n xs) (hx : xs.length = n * 3) (k : Nat) (hk : k < n * 3) : ∃ u, w.cell? ⟨g, k, none⟩ = some u := by
  rw [h.cellAt k hk]
  exact ⟨_, List.getElem?_eq_getElem (by omega)⟩
/-- What a store of three cells asks on its way. -/
theorem put3_way {t : TypeId} {base g cap n : Nat} {w : World} {xs : List Value} (h : w.ownsRow base t 3 (.slice (some ⟨g, 0, none⟩) n cap) n xs) (hx : xs.length = n * 3) (x : Acct) (k : Nat) (hk : k < n) :
    (∃ u, w.cell? ⟨g, k * 3, none⟩ = some u) ∧ w.frozen? ⟨g, k * 3, none⟩ = false ∧
    (∃ u, (w.setCell ⟨g, k * 3, none⟩ (.string x.party)).cell? ⟨g, k * 3 + 1, none⟩ = some u) ∧ (w.setCell ⟨g, k * 3, none⟩ (.string x.party)).frozen? ⟨g, k * 3 + 1, none⟩ = false ∧
    (∃ u, ((w.setCell ⟨g, k * 3, none⟩ (.string x.party)).setCell ⟨g, k * 3 + 1, none⟩ (.string x.coin)).cell? ⟨g, k * 3 + 2, none⟩ = some u) ∧ ((w.setCell ⟨g, k * 3, none⟩ (.string x.party)).setCell ⟨g, k * 3 + 1, none⟩ (.string x.coin)).frozen? ⟨g, k * 3 + 2, none⟩ = false := by
  have h1 := (h.stored (k * 3) (.string x.party)).1
  have h2 := (h1.stored (k * 3 + 1) (.string x.coin)).1
  exact ⟨row_cell h hx _ (by omega), h.frozenAt _, row_cell h1 (by rw [List.length_set]; exact hx) _ (by omega), h1.frozenAt _, row_cell h2 (by rw [List.length_set, List.length_set]; exact hx) _ (by omega), h2.frozenAt _⟩
end Go.Proofs.Ytgbiimoednmlgaa
