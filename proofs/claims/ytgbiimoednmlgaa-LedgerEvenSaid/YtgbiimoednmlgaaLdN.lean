/- The contracts of Right, may, and whether all moves may be. -/
import Derived.Test.YtgbiimoednmlgaaLdU
namespace Go.Proofs.Ytgbiimoednmlgaa
set_option linter.unusedVariables false
set_option linter.unusedSimpArgs false
open Go.RowKit
structure RtSt (l : List Acct) (k : Nat) : Prop where
  ok : ∀ (j : Nat) a, j < k → l[j]? = some a → okA a = true
  adj : ∀ (j : Nat) a b, j + 1 < k → l[j]? = some a → l[j + 1]? = some b → kcmp a.key b.key < 0
theorem RtSt.zero (l : List Acct) : RtSt l 0 := ⟨fun j a h => absurd h (by omega), fun j a b h => absurd h (by omega)⟩
theorem RtSt.next {l : List Acct} {k : Nat} {a : Acct} (h : RtSt l k) (ha : l[k]? = some a) (ok : okA a = true) (hadj : ∀ b, 0 < k → l[k - 1]? = some b → kcmp b.key a.key < 0) : RtSt l (k + 1) := by
  refine ⟨fun j x hj hx => ?_, fun j x y hj hx hy => ?_⟩
  · by_cases e : j < k
    · exact h.ok j x e hx
    · obtain rfl : j = k := by omega
      rw [ha] at hx; injection hx with hx; rw [← hx]; exact ok
  · by_cases e : j + 1 < k
    · exact h.adj j x y e hx hy
    · have e2 : j + 1 = k := by omega
      rw [e2, ha] at hy; injection hy with hy
      rw [← hy]
      exact hadj x (by omega) (by rw [show k - 1 = j by omega]; exact hx)
theorem RtSt.all {l : List Acct} (h : RtSt l l.length) : rightA l = true := by
  unfold rightA
  rw [Bool.and_eq_true, List.all_eq_true, adjK_get]
  refine ⟨fun a ha => ?_, fun i a b hi hj => h.adj i a b (List.getElem?_eq_some_iff.1 hj).1 hi hj⟩
  obtain ⟨j, hj⟩ := List.getElem?_of_mem ha
  exact h.ok j a (List.getElem?_eq_some_iff.1 hj).1 hj
theorem right_bad {l : List Acct} {k : Nat} {a : Acct} (ha : l[k]? = some a) (ok : okA a = false) : rightA l = false := by
  cases hr : rightA l with
  | false => rfl
  | true =>
    unfold rightA at hr
    rw [Bool.and_eq_true, List.all_eq_true] at hr
    rw [hr.1 a (List.mem_of_getElem? ha)] at ok; cases ok
theorem right_bad2 {l : List Acct} {k : Nat} {a b : Acct} (h0 : 0 < k) (hb : l[k - 1]? = some b) (ha : l[k]? = some a) (hc : ¬ kcmp b.key a.key < 0) : rightA l = false := by
  cases hr : rightA l with
  | false => rfl
  | true =>
    unfold rightA at hr
    rw [Bool.and_eq_true, adjK_get] at hr
    exact absurd (hr.2 (k - 1) b a hb (by rw [show k - 1 + 1 = k by omega]; exact ha)) hc
set_option maxRecDepth 100000 in
set_option maxHeartbeats 4000000 in
theorem right_any (l : List Acct) (a : Option Addr) (len cap : Nat) (w : World) (h : SlR acctK w [] l a len cap) (hlen : len ≤ 1000000) :
    Calls Try.prog 22 #[.slice a len cap] w fun x w' => x = .returned (.bool (rightA l)) ∧ Below w.heap.size w w' := by
  have HS := Lib.hid h
  have HL := Lib.hid h.facts.1
  have HN := Lib.hid hlen
  obtain ⟨R, hR⟩ : ∃ R, R = rightA l := ⟨_, rfl⟩
  have HR := Lib.hid hR
  rw [← hR]
  clear h hR hlen
  go_enter Try.func22, Try.ntmps22
  go_wp2_with fail
  go_loopw [7] (fun i wr => ∃ (k : Nat), i = .int .i64 (k : Nat) ∧ k ≤ len ∧ Hid (RtSt l k ∧ Below w.heap.size w wr)) (fun i _ => len - (intOf i).toNat)
  case atStart => exact ⟨0, rfl, Nat.zero_le _, RtSt.zero l, Below.refl _ _⟩
  case round =>
    obtain ⟨k, rfl, hk, HT⟩ := hrel
    by_cases hlt : k < len
    · have hlt' : (k : Int) < (len : Int) := by omega
      have i0 : (0 : Int) ≤ (k : Int) := by omega
      have i1 : (k : Int) ≤ 1000000 := by have := HN.out; omega
      have HSR := Lib.hid (HS.out.kept (Kept.of_below HT.out.2 []))
      obtain ⟨b, o, x, rfl, hx, hok, u0, u1, u2⟩ := acct_at HSR.out k hlt
      have hal := (Below.refl wr.heap.size wr).alloc (Nat.le_refl _) (.cells #[.string x.party, .string x.coin, .int .i64 x.amt] 51)
      have BZ := Lib.hid (Mem.Blk.new wr 51 #[.string x.party, .string x.coin, .int .i64 x.amt])
      have HSA := Lib.hid (HSR.out.kept (Kept.of_below hal []))
      have HBA := Lib.hid (HT.out.2.trans (hal.mono HT.out.2.size))
      have HX := Lib.hid hx
      have HOK := Lib.hid hok
      have HTR := Lib.hid HT.out.1
      have HKL := Lib.hid hlt
      clear hal hx hok hlt HT HSR
      go_upto_region 4 with (fail)
      generalize wr.heap.size = zb at *
      generalize wr.alloc (.cells #[.string x.party, .string x.coin, .int .i64 x.amt] 51) = w1 at *
      clear u0 u1 u2
      have z0 : w1.cell? ⟨zb, 0, none⟩ = some (.string x.party) := BZ.out.cell 0
      have z1 : w1.cell? ⟨zb, 1, none⟩ = some (.string x.coin) := BZ.out.cell 1
      have z2 : w1.cell? ⟨zb, 2, none⟩ = some (.int .i64 x.amt) := BZ.out.cell 2
      have HNP : Hid (∀ n, Calls Try.prog 47 #[.string x.party] (w1.drewN n) fun e w' => e = .returned (.bool (nmd x.party)) ∧ ∃ m, w' = w1.drewN m) := fun n => (named_any x.party _ (by have := HOK.out.party; unfold maxLen at this; omega)).mono fun _ _ h => ⟨h.1, n, h.2.symm⟩
      have HNC : Hid (∀ n, Calls Try.prog 47 #[.string x.coin] (w1.drewN n) fun e w' => e = .returned (.bool (nmd x.coin)) ∧ ∃ m, w' = w1.drewN m) := fun n => (named_any x.coin _ (by have := HOK.out.coin; unfold maxLen at this; omega)).mono fun _ _ h => ⟨h.1, n, h.2.symm⟩
      have HSP : Hid (∀ W, Calls Try.prog 47 #[.string x.party] W fun e w' => e = .returned (.bool (nmd x.party)) ∧ w' = W) := fun W => (named_any x.party W (by have := HOK.out.party; unfold maxLen at this; omega)).mono fun _ _ h => ⟨h.1, h.2.symm⟩
      have HSC : Hid (∀ W, Calls Try.prog 47 #[.string x.coin] W fun e w' => e = .returned (.bool (nmd x.coin)) ∧ w' = W) := fun W => (named_any x.coin W (by have := HOK.out.coin; unfold maxLen at this; omega)).mono fun _ _ h => ⟨h.1, h.2.symm⟩
      cases hnp : nmd x.party with
      | false =>
        rw [hnp] at HNP
        have HB : Hid (R = false) := by show R = false; rw [HR.out]; exact right_bad HX.out (by unfold okA; rw [hnp]; rfl)
        clear HR hnp
        go_quiet ((first | (go_at_call 47; with_reducible exact HNP.out _) | (go_at_call 47; with_reducible exact HNC.out _)))
        have HB2 := Lib.hid (HBA.out.trans ((below_dN (Below.refl w1.heap.size w1) nq).mono HBA.out.size))
        go_wp2_with fail
        go_ret
        exact ⟨by rw [HB.out]; rfl, HB2.out⟩
      | true =>
        rw [hnp] at HNP HSP
        cases hnc : nmd x.coin with
        | false =>
          rw [hnc] at HNC
          have HB : Hid (R = false) := by show R = false; rw [HR.out]; exact right_bad HX.out (by unfold okA; rw [hnp, hnc]; rfl)
          clear HR hnp hnc
          go_quiet ((first | (go_at_call 47; with_reducible exact HNP.out _) | (go_at_call 47; with_reducible exact HNC.out _)))
          have HB2 := Lib.hid (HBA.out.trans ((below_dN (Below.refl w1.heap.size w1) nq).mono HBA.out.size))
          go_wp2_with fail
          go_ret
          exact ⟨by rw [HB.out]; rfl, HB2.out⟩
        | true =>
          rw [hnc] at HNC HSC
          by_cases hz : x.amt = 0
          · have hz' : (x.amt == 0) = true := by simpa using hz
            have HB : Hid (R = false) := by show R = false; rw [HR.out]; exact right_bad HX.out (by unfold okA; rw [hnp, hnc, decide_eq_false (by simpa using hz)]; rfl)
            clear HR hnp hnc hz
            go_quiet ((first | (go_at_call 47; with_reducible exact HNP.out _) | (go_at_call 47; with_reducible exact HNC.out _)))
            have HB2 := Lib.hid (HBA.out.trans ((below_dN (Below.refl w1.heap.size w1) nq).mono HBA.out.size))
            go_wp2_with fail
            go_ret
            exact ⟨by rw [HB.out]; rfl, HB2.out⟩
          · have hz' : (x.amt == 0) = false := by simpa using hz
            have HO : Hid (okA x = true) := by show okA x = true; unfold okA; rw [hnp, hnc, decide_eq_true hz]; rfl
            clear hnp hnc hz
            by_cases hk0 : 0 < k
            · obtain ⟨j, hj⟩ : ∃ j, k = j + 1 := ⟨k - 1, by omega⟩
              obtain ⟨b', o', y, hbo, hy, -, v0, v1, v2⟩ := acct_at HSA.out j (by have := HKL.out; omega)
              obtain ⟨rfl, rfl⟩ : b = b' ∧ o = o' := by injection hbo with hbo; injection hbo with e1 e2; exact ⟨e1, e2⟩
              have HY := Lib.hid hy
              have HJ := Lib.hid hj
              have hwk : IntKind.i64.wrap ((k : Int) - 1) = (j : Int) := by rw [IntWalk.i64_in _ (by omega)]; omega
              have hwk3 : (k : Int) - 1 = (j : Int) := by omega
              have hwk4 : IntKind.i64.wrap ((j : Nat) : Int) = (j : Int) := IntWalk.i64_in _ (by omega)
              have hjl : (j : Int) < (len : Int) := by have := HKL.out; omega
              have hj0 : (0 : Int) ≤ (j : Int) := by omega
              have hk0' : (0 : Int) < (k : Int) := by omega
              have HOR : Hid (∀ W, Calls Try.prog 48 #[.agg #[.string y.party, .string y.coin, .int .i64 y.amt], .agg #[.string x.party, .string x.coin, .int .i64 x.amt]] W _) := fun W => order_any y x W
              obtain ⟨Q, hQ⟩ : ∃ Q, Q = kcmp y.key x.key := ⟨_, rfl⟩
              rw [← hQ] at HOR
              have HQ := Lib.hid hQ
              clear hy hQ hbo hj
              go_still_tail 25, (by kernel_rfl)
              still_call (HSP.out _)
              repeat still_step
              still_call (HSC.out _)
              repeat still_step
              refine wpStill_nil ?_
              change wpList _ _ _ _ _ w1.drew
              go_wp2_with fail
              go_at_call 48
              (with_reducible refine (HOR.out _).mono ?_)
              rintro e w2 ⟨rfl, b2⟩
              have HB2 := Lib.hid (HBA.out.trans (((Below.refl w1.heap.size w1).drew.trans b2).mono HBA.out.size))
              clear b2 HOR HSP HSC HNP HNC v0 v1 v2 z0 z1 z2 hwk hwk3 hwk4 hjl hj0
              by_cases hq : 0 ≤ Q
              · have HB : Hid (R = false) := by
                  show R = false
                  rw [HR.out]
                  exact right_bad2 (b := y) (by omega) (by rw [show k - 1 = j by have := HJ.out; omega]; exact HY.out) HX.out (by rw [← HQ.out]; omega)
                clear HR
                go_wp2_with fail
                go_ret
                exact ⟨by rw [HB.out]; rfl, HB2.out⟩
              · have HT2 := Lib.hid (HTR.out.next HX.out HO.out (fun b' _ hb' => by
                  rw [show k - 1 = j by have := HJ.out; omega, HY.out] at hb'
                  have hb2 := Option.some.inj hb'
                  rw [← hb2, ← HQ.out]; omega))
                go_wp2_with fail
                go_roundw
                case rel => exact ⟨k + 1, by go_num, by have := HKL.out; omega, HT2.out, HB2.out⟩
                case measure => simp [intOf]; have := HKL.out; omega
            · have hk0' : decide ((0 : Int) < (k : Int)) = false := decide_eq_false (by omega)
              have hk0'' : decide (0 < k) = false := decide_eq_false hk0
              have HT2 := Lib.hid (HTR.out.next HX.out HO.out (fun b h => absurd h hk0))
              clear hk0
              go_quiet ((first | (go_at_call 47; with_reducible exact HNP.out _) | (go_at_call 47; with_reducible exact HNC.out _)))
              have HB2 := Lib.hid (HBA.out.trans ((below_dN (Below.refl w1.heap.size w1) nq).mono HBA.out.size))
              go_wp2_with fail
              go_roundw
              case rel => exact ⟨k + 1, by go_num, by have := HKL.out; omega, HT2.out, HB2.out⟩
              case measure => simp [intOf]; have := HKL.out; omega
    · have hlt' : ¬ (k : Int) < (len : Int) := by omega
      have HB : Hid (R = true) := by
        show R = true
        have e : k = l.length := by rw [HL.out]; omega
        rw [HR.out]
        have := HT.out.1
        rw [e] at this
        exact this.all
      have HB2 := Lib.hid HT.out.2
      clear HR HT
      go_wp2_with fail
      go_ret
      exact ⟨by rw [HB.out]; rfl, HB2.out⟩
end Go.Proofs.Ytgbiimoednmlgaa
