/- Same of the document's answer. -/
import Derived.Test.YtjpkljkmignnjaaSameT
namespace Go.Proofs.Ytjpkljkmignnjaa
set_option linter.unusedVariables false
set_option linter.unusedSimpArgs false
open Go.RowKit
set_option maxRecDepth 100000 in
set_option maxHeartbeats 4000000 in
theorem rsame_any : ∀ (r : Nat) (e : Te), e.rk ≤ r → ∀ (e2 : Te) (cs cs2 : List Value) (w : World), RepT w [] e cs → RepT w [] e2 cs2 →
    Calls Try.prog 12 #[.agg cs.toArray, .agg cs2.toArray] w fun x w' => x = .returned (.bool (eqv e e2)) ∧ Below w.heap.size w w' := by
  intro r
  induction r with
  | zero => intro e h; have := e.rk_pos'; omega
  | succ r ih =>
    intro e hr e2 cs cs2 w hR hR2
    obtain ⟨op, nm, ex, te, a, len, cap, b, ben, bap, rfl, rfl, i1, i3, hS, hB⟩ := hR.inv
    obtain ⟨op2, nm2, ex2, te2, a2, len2, cap2, b2, ben2, bap2, rfl, rfl, i12, i32, hS2, hB2⟩ := hR2.inv
    have HI : Hid (∀ (k : Nat) e1 e1' cs1 cs1' W, te[k]? = some e1 → RepT W [] e1 cs1 → RepT W [] e1' cs1' → Calls Try.prog 12 #[.agg cs1.toArray, .agg cs1'.toArray] W fun x w' => x = .returned (.bool (eqv e1 e1')) ∧ Below W.heap.size W w') := by
      intro k e1 e1' cs1 cs1' W hk hR1 hR1'
      exact ih e1 (by have := Te.rk_lt (op := op) (nm := nm) (x := ex) hk; omega) e1' cs1 cs1' W hR1 hR1'
    have HF : Hid (∀ x, eqv (Te.mk op nm ex te) (Te.mk op2 nm2 ex2 te2) = x → Ending.returned (.bool x) = .returned (.bool (eqv (Te.mk op nm ex te) (Te.mk op2 nm2 ex2 te2)))) := fun x h => by rw [h]
    have HS := Lib.hid hS
    have HS2 := Lib.hid hS2
    have HB := Lib.hid hB
    have HB2 := Lib.hid hB2
    obtain ⟨f1, f2, f3⟩ := hS.facts
    obtain ⟨f4, f5, f6⟩ := hS2.facts
    obtain ⟨f1', f2', f3'⟩ := hB.facts
    obtain ⟨f4', f5', f6'⟩ := hB2.facts
    have HL := Lib.hid f1
    have HL2 := Lib.hid f4
    have HM := Lib.hid f1'
    have HM2 := Lib.hid f4'
    have HW0 := Lib.hid (((Below.refl w.heap.size w).alloc (Nat.le_refl _) (.cells #[.int .i64 op, .string nm, .slice a len cap, .slice b ben bap] 33)).alloc (by simp) (.cells #[.int .i64 op2, .string nm2, .slice a2 len2 cap2, .slice b2 ben2 bap2] 33))
    have BX := Lib.hid ((Mem.Blk.new w 33 #[.int .i64 op, .string nm, .slice a len cap, .slice b ben bap]).alloc (.cells #[.int .i64 op2, .string nm2, .slice a2 len2 cap2, .slice b2 ben2 bap2] 33))
    have BY := Lib.hid (Mem.Blk.new (w.alloc (.cells #[.int .i64 op, .string nm, .slice a len cap, .slice b ben bap] 33)) 33 #[.int .i64 op2, .string nm2, .slice a2 len2 cap2, .slice b2 ben2 bap2])
    rw [show (w.alloc (.cells #[.int .i64 op, .string nm, .slice a len cap, .slice b ben bap] 33)).heap.size = w.heap.size + 1 by simp] at BY
    clear ih hr hR hR2 hS hS2 hB hB2 i1 i12 f1 f4 f1' f4'
    by_cases ho : op = op2
    case neg =>
      have F := Lib.hid (HF.out false (eqv_no (fun h => ho (by injection h))))
      have t1 : (op != op2) = true := by simp [ho]
      clear ho
      go_enter Try.func12, Try.ntmps12
      go_wp2
      go_ret
      exact ⟨F.out, HW0.out⟩
    by_cases hm : nm = nm2
    case neg =>
      have F := Lib.hid (HF.out false (eqv_no (fun h => hm (by injection h))))
      have t1 : (nm.toList == nm2.toList) = false := tl_ne hm
      have t2 : (nm.toList != nm2.toList) = true := by rw [bne, t1]; rfl
      subst ho
      clear hm
      go_enter Try.func12, Try.ntmps12
      go_wp2
      go_ret
      exact ⟨F.out, HW0.out⟩
    subst ho hm
    have F : Hid (∀ x, (eqv ex ex2 && eqv te te2) = x → Ending.returned (.bool x) = .returned (.bool (eqv (Te.mk op nm ex te) (Te.mk op nm ex2 te2)))) := fun x hx => by rw [eqT, hx]
    clear HF
    generalize eqv (Te.mk op nm ex te) (Te.mk op nm ex2 te2) = R at *
    by_cases hl : len = len2
    case neg =>
      have F := Lib.hid (F.out false (by rw [eqv_no (fun h => hl (by rw [← HL.out, ← HL2.out, h]))]; rfl))
      have t1 : ((len : Int) != (len2 : Int)) = true := by rw [bne_iff_ne]; omega
      clear hl
      go_enter Try.func12, Try.ntmps12
      go_wp2
      go_ret
      exact ⟨F.out, HW0.out⟩
    by_cases hl2 : ben = ben2
    case neg =>
      have F := Lib.hid (F.out false (by rw [eqv_no (a := te) (fun h => hl2 (by rw [← HM.out, ← HM2.out, h]))]; simp))
      have t1 : ((ben : Int) != (ben2 : Int)) = true := by rw [bne_iff_ne]; omega
      subst hl
      clear hl2
      go_enter Try.func12, Try.ntmps12
      go_wp2
      go_ret
      exact ⟨F.out, HW0.out⟩
    subst hl hl2
    go_enter Try.func12, Try.ntmps12
    go_wp2_with fail
    go_loopw [5] (fun i wr => ∃ k : Nat, i = .int .i64 (k : Nat) ∧ k ≤ len ∧ Hid (Below w.heap.size w wr) ∧ Hid (Mem.Blk wr w.heap.size 33 #[.int .i64 op, .string nm, .slice a len cap, .slice b ben bap]) ∧ Hid (Mem.Blk wr (w.heap.size + 1) 33 #[.int .i64 op, .string nm, .slice a2 len cap2, .slice b2 ben bap2]) ∧ Hid (∀ (j : Nat) x, j < k → ex[j]? = some x → ex2[j]? = some x)) (fun i _ => len - (intOf i).toNat)
    case atStart => exact ⟨0, rfl, Nat.zero_le _, HW0.out, BX.out, BY.out, fun j y hj => absurd hj (Nat.not_lt_zero _)⟩
    case round =>
      clear BX BY HW0
      obtain ⟨k, rfl, hk, HW, HX, HY, HN⟩ := hrel
      have x2 : wr.cell? ⟨w.heap.size, 2, none⟩ = some (.slice a len cap) := HX.out.cell 2
      have y2 : wr.cell? ⟨w.heap.size + 1, 2, none⟩ = some (.slice a2 len cap2) := HY.out.cell 2
      by_cases hlt : k < len
      · obtain ⟨bb, o, op', n', nm', args', a', len', cap', rfl, hb, hbx, hle, j1, j2, j3, hS', g0, g1, g2, g3⟩ := (HS.out.kept (Kept.of_below HW.out [])).at k hlt
        obtain ⟨b4, o4, op4, n4, nm4, args4, a4, len4, cap4, rfl, hb4, hbx4, hle4, j41, j42, j43, hS4, g40, g41, g42, g43⟩ := (HS2.out.kept (Kept.of_below HW.out [])).at k hlt
        have HC := Lib.hid (fun W hW => rsameExpr_any (Ex.mk op' n' nm' args').rk (Ex.mk op' n' nm' args') (Nat.le_refl _) (Ex.mk op4 n4 nm4 args4) _ [.int .i64 op4, .int .i64 n4, .string nm4, .slice a4 len4 cap4] W (RepE.mk' j1 j2 j3 (hS'.kept hW)) (RepE.mk' j41 j42 j43 (hS4.kept hW)))
        have HK : Hid (Kept [] wr wr.drew) := ⟨Nat.le_refl _, fun _ _ _ => rfl⟩
        have HWD := Lib.hid HW.out.drew
        have HXD := Lib.hid HX.out.drew
        have HYD := Lib.hid HY.out.drew
        have HLE := Lib.hid hle
        have HLE4 := Lib.hid hle4
        have hidx : (0 : Int) ≤ (k : Int) := by omega
        have hidx2 : (k : Int) < (len : Int) := by omega
        clear hle hle4 hS' hS4
        generalize Ex.mk op' n' nm' args' = e' at *
        generalize Ex.mk op4 n4 nm4 args4 = e4 at *
        by_cases hp : e' = e4
        · have HN2 : Hid (∀ (j : Nat) x, j < k + 1 → ex[j]? = some x → ex2[j]? = some x) := by
            intro j y hj hy
            rcases Nat.lt_or_ge j k with h | h
            · exact HN.out j y h hy
            · obtain rfl : j = k := by omega
              rw [HLE.out] at hy; injection hy with hy; subst hy; rw [HLE4.out, hp]
          rw [eqv_yes hp] at HC
          clear hp
          go_wp2_with fail
          go_still_tail 10, (by kernel_rfl)
          change wpList _ _ _ _ _ wr.drew
          go_wp2_with fail
          refine (HC.out _ HK.out).mono ?_; rintro r w1 ⟨rfl, b1⟩
          go_wp2
          go_roundw
          case rel => exact ⟨k + 1, by go_num, by omega, HWD.out.trans (b1.mono HWD.out.size), HXD.out.below b1, HYD.out.below b1, HN2⟩
          case measure => simp [intOf]; omega
        · have F := Lib.hid (F.out false (by rw [eqv_no (list_ne HLE.out HLE4.out hp)]; rfl))
          rw [eqv_no hp] at HC
          clear hp
          go_wp2_with fail
          go_still_tail 10, (by kernel_rfl)
          change wpList _ _ _ _ _ wr.drew
          go_wp2_with fail
          refine (HC.out _ HK.out).mono ?_; rintro r w1 ⟨rfl, b1⟩
          go_wp2
          go_ret
          exact ⟨F.out, HWD.out.trans (b1.mono HWD.out.size)⟩
      · have F3 : Hid (∀ x, eqv te te2 = x → Ending.returned (.bool x) = .returned (.bool R)) := fun x hx => F.out x (by rw [eqv_yes (list_eq_of (by rw [HL.out, HL2.out]) (fun j x hj hx => HN.out j x (by rw [HL.out] at hj; omega) hx)), hx]; rfl)
        have W2 := HW
        have X2 := HX
        have Y2 := HY
        clear HW HX HY HN F HS HS2 HL HL2
        go_wp2_with fail
        clear x2 y2
        go_loopw [6] (fun i wr => ∃ k : Nat, i = .int .i64 (k : Nat) ∧ k ≤ ben ∧ Hid (Below w.heap.size w wr) ∧ Hid (Mem.Blk wr w.heap.size 33 #[.int .i64 op, .string nm, .slice a len cap, .slice b ben bap]) ∧ Hid (Mem.Blk wr (w.heap.size + 1) 33 #[.int .i64 op, .string nm, .slice a2 len cap2, .slice b2 ben bap2]) ∧ Hid (∀ (j : Nat) x, j < k → te[j]? = some x → te2[j]? = some x)) (fun i _ => ben - (intOf i).toNat)
        case atStart => exact ⟨0, rfl, Nat.zero_le _, W2.out, X2.out, Y2.out, fun j y hj => absurd hj (Nat.not_lt_zero _)⟩
        case round =>
          clear X2 Y2 W2
          obtain ⟨k2, rfl, hk2, HW, HX, HY, HN⟩ := hrel
          have x3 : wr.cell? ⟨w.heap.size, 3, none⟩ = some (.slice b ben bap) := HX.out.cell 3
          have y3 : wr.cell? ⟨w.heap.size + 1, 3, none⟩ = some (.slice b2 ben bap2) := HY.out.cell 3
          by_cases hlt2 : k2 < ben
          · obtain ⟨bb, o, op', nm', ex', te', a', len', cap', a3, len3, cap3, rfl, hb, hbx, hle, j1, j3, hS', hS3, g0, g1, g2, g3⟩ := (HB.out.kept (Kept.of_below HW.out [])).at k2 hlt2
            obtain ⟨b4, o4, op4, nm4, ex4, te4, a4, len4, cap4, a5, len5, cap5, rfl, hb4, hbx4, hle4, j41, j43, hS4, hS5, g40, g41, g42, g43⟩ := (HB2.out.kept (Kept.of_below HW.out [])).at k2 hlt2
            have HC := Lib.hid (fun W hW => HI.out k2 _ (Te.mk op4 nm4 ex4 te4) _ [.int .i64 op4, .string nm4, .slice a4 len4 cap4, .slice a5 len5 cap5] W hle (RepT.mk' j1 j3 (hS'.kept hW) (hS3.kept hW)) (RepT.mk' j41 j43 (hS4.kept hW) (hS5.kept hW)))
            have HK : Hid (Kept [] wr wr.drew) := ⟨Nat.le_refl _, fun _ _ _ => rfl⟩
            have HWD := Lib.hid HW.out.drew
            have HXD := Lib.hid HX.out.drew
            have HYD := Lib.hid HY.out.drew
            have HLE := Lib.hid hle
            have HLE4 := Lib.hid hle4
            have hidx : (0 : Int) ≤ (k2 : Int) := by omega
            have hidx2 : (k2 : Int) < (ben : Int) := by omega
            clear hle hle4 hS' hS4 hS3 hS5
            generalize Te.mk op' nm' ex' te' = e' at *
            generalize Te.mk op4 nm4 ex4 te4 = e4 at *
            by_cases hp : e' = e4
            · have HN2 : Hid (∀ (j : Nat) x, j < k2 + 1 → te[j]? = some x → te2[j]? = some x) := by
                intro j y hj hy
                rcases Nat.lt_or_ge j k2 with h | h
                · exact HN.out j y h hy
                · obtain rfl : j = k2 := by omega
                  rw [HLE.out] at hy; injection hy with hy; subst hy; rw [HLE4.out, hp]
              rw [eqv_yes hp] at HC
              clear hp
              go_wp2_with fail
              go_still_tail 10, (by kernel_rfl)
              change wpList _ _ _ _ _ wr.drew
              go_wp2_with fail
              refine (HC.out _ HK.out).mono ?_; rintro r w1 ⟨rfl, b1⟩
              go_wp2
              go_roundw
              case rel => exact ⟨k2 + 1, by go_num, by omega, HWD.out.trans (b1.mono HWD.out.size), HXD.out.below b1, HYD.out.below b1, HN2⟩
              case measure => simp [intOf]; omega
            · have F := Lib.hid (F3.out false (eqv_no (list_ne HLE.out HLE4.out hp)))
              rw [eqv_no hp] at HC
              clear hp
              go_wp2_with fail
              go_still_tail 10, (by kernel_rfl)
              change wpList _ _ _ _ _ wr.drew
              go_wp2_with fail
              refine (HC.out _ HK.out).mono ?_; rintro r w1 ⟨rfl, b1⟩
              go_wp2
              go_ret
              exact ⟨F.out, HWD.out.trans (b1.mono HWD.out.size)⟩
          · have F := Lib.hid (F3.out true (eqv_yes (list_eq_of (by rw [HM.out, HM2.out]) (fun j x hj hx => HN.out j x (by rw [HM.out] at hj; omega) hx))))
            go_wp2
            go_ret
            exact ⟨F.out, HW.out⟩
end Go.Proofs.Ytjpkljkmignnjaa
