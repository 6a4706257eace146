/- SameExpr of the document's answer. -/
import Derived.Test.YtjpkljkmignnjaaSameE
namespace Go.Proofs.Ytjpkljkmignnjaa
set_option linter.unusedVariables false
set_option linter.unusedSimpArgs false
open Go.RowKit
set_option maxRecDepth 100000 in
set_option maxHeartbeats 2000000 in
theorem rsameExpr_any : ∀ (r : Nat) (e : Ex), e.rk ≤ r → ∀ (e2 : Ex) (cs cs2 : List Value) (w : World), RepE w [] e cs → RepE w [] e2 cs2 →
    Calls Try.prog 26 #[.agg cs.toArray, .agg cs2.toArray] w fun x w' => x = .returned (.bool (eqv e e2)) ∧ Below w.heap.size w w' := by
  intro r
  induction r with
  | zero => intro e h; have : 1 ≤ e.rk := by cases e; simp only [Ex.rk]; omega
            omega
  | succ r ih =>
    intro e hr e2 cs cs2 w hR hR2
    obtain ⟨op, n, nm, args, a, len, cap, rfl, rfl, i1, i2, i3, hS⟩ := hR.inv
    obtain ⟨op2, n2, nm2, args2, a2, len2, cap2, rfl, rfl, i12, i22, i32, hS2⟩ := hR2.inv
    have HI : Hid (∀ (k : Nat) e1 e1' cs1 cs1' W, args[k]? = some e1 → RepE W [] e1 cs1 → RepE W [] e1' cs1' → Calls Try.prog 26 #[.agg cs1.toArray, .agg cs1'.toArray] W fun x w' => x = .returned (.bool (eqv e1 e1')) ∧ Below W.heap.size W w') := by
      intro k e1 e1' cs1 cs1' W hk hR1 hR1'
      exact ih e1 (by have := Ex.rk_lt (op := op) (n := n) (nm := nm) hk; omega) e1' cs1 cs1' W hR1 hR1'
    have HF : Hid (∀ x, eqv (Ex.mk op n nm args) (Ex.mk op2 n2 nm2 args2) = x → Ending.returned (.bool x) = .returned (.bool (eqv (Ex.mk op n nm args) (Ex.mk op2 n2 nm2 args2)))) := fun x h => by rw [h]
    have HE : Hid (op = op2 → n = n2 → nm = nm2 → eqv (Ex.mk op n nm args) (Ex.mk op2 n2 nm2 args2) = eqv args args2) := by
      intro h1 h2 h3; subst h1 h2 h3
      by_cases h : args = args2
      · rw [eqv_yes h, eqv_yes (by rw [h])]
      · rw [eqv_no h, eqv_no (fun hh => h (by injection hh))]
    have HS := Lib.hid hS
    have HS2 := Lib.hid hS2
    obtain ⟨f1, f2, f3⟩ := hS.facts
    obtain ⟨f4, f5, f6⟩ := hS2.facts
    have HL := Lib.hid f1
    have HL2 := Lib.hid f4
    have HW0 := Lib.hid (((Below.refl w.heap.size w).alloc (Nat.le_refl _) (.cells #[.int .i64 op, .int .i64 n, .string nm, .slice a len cap] 38)).alloc (by simp) (.cells #[.int .i64 op2, .int .i64 n2, .string nm2, .slice a2 len2 cap2] 38))
    clear ih hr hR hR2 hS hS2 i1 i2 i12 i22 f1 f4
    by_cases ho : op = op2
    case neg =>
      have F := Lib.hid (HF.out false (eqv_no (fun h => ho (by injection h))))
      have t1 : (op != op2) = true := by simp [ho]
      clear ho
      go_enter Try.func26, Try.ntmps26
      go_wp2
      go_ret
      exact ⟨F.out, HW0.out⟩
    by_cases hn : n = n2
    case neg =>
      have F := Lib.hid (HF.out false (eqv_no (fun h => hn (by injection h))))
      have t1 : (n != n2) = true := by simp [hn]
      subst ho
      clear hn
      go_enter Try.func26, Try.ntmps26
      go_wp2
      go_ret
      exact ⟨F.out, HW0.out⟩
    by_cases hm : nm = nm2
    case neg =>
      have F := Lib.hid (HF.out false (eqv_no (fun h => hm (by injection h))))
      have t1 : (nm.toList == nm2.toList) = false := tl_ne hm
      have t2 : (nm.toList != nm2.toList) = true := by rw [bne, t1]; rfl
      subst ho hn
      clear hm
      go_enter Try.func26, Try.ntmps26
      go_wp2
      go_ret
      exact ⟨F.out, HW0.out⟩
    have E := Lib.hid (HE.out ho hn hm)
    subst ho hn hm
    have F : Hid (∀ b, eqv args args2 = b → Ending.returned (.bool b) = .returned (.bool (eqv (Ex.mk op n nm args) (Ex.mk op n nm args2)))) := fun b hb => by rw [E.out, hb]
    clear HE HF E
    generalize eqv (Ex.mk op n nm args) (Ex.mk op n nm args2) = R at *
    by_cases hl : len = len2
    case neg =>
      have F := Lib.hid (F.out false (eqv_no (fun h => hl (by rw [← HL.out, ← HL2.out, h]))))
      have t1 : ((len : Int) != (len2 : Int)) = true := by rw [bne_iff_ne]; omega
      clear hl
      go_enter Try.func26, Try.ntmps26
      go_wp2
      go_ret
      exact ⟨F.out, HW0.out⟩
    subst hl
    have BX := Lib.hid ((Mem.Blk.new w 38 #[.int .i64 op, .int .i64 n, .string nm, .slice a len cap]).alloc (.cells #[.int .i64 op, .int .i64 n, .string nm, .slice a2 len cap2] 38))
    have BY := Lib.hid (Mem.Blk.new (w.alloc (.cells #[.int .i64 op, .int .i64 n, .string nm, .slice a len cap] 38)) 38 #[.int .i64 op, .int .i64 n, .string nm, .slice a2 len cap2])
    rw [show (w.alloc (.cells #[.int .i64 op, .int .i64 n, .string nm, .slice a len cap] 38)).heap.size = w.heap.size + 1 by simp] at BY
    go_enter Try.func26, Try.ntmps26
    go_wp2_with fail
    go_loopw [5] (fun i wr => ∃ k : Nat, i = .int .i64 (k : Nat) ∧ k ≤ len ∧ Hid (Below w.heap.size w wr) ∧ Hid (Mem.Blk wr w.heap.size 38 #[.int .i64 op, .int .i64 n, .string nm, .slice a len cap]) ∧ Hid (Mem.Blk wr (w.heap.size + 1) 38 #[.int .i64 op, .int .i64 n, .string nm, .slice a2 len cap2]) ∧ Hid (∀ (j : Nat) x, j < k → args[j]? = some x → args2[j]? = some x)) (fun i _ => len - (intOf i).toNat)
    case atStart => exact ⟨0, rfl, Nat.zero_le _, HW0.out, BX.out, BY.out, fun j y hj => absurd hj (Nat.not_lt_zero _)⟩
    case round =>
      clear BX BY HW0
      obtain ⟨k, rfl, hk, HW, HX, HY, HN⟩ := hrel
      have x3 : wr.cell? ⟨w.heap.size, 3, none⟩ = some (.slice a len cap) := HX.out.cell 3
      have y3 : wr.cell? ⟨w.heap.size + 1, 3, none⟩ = some (.slice a2 len cap2) := HY.out.cell 3
      by_cases hlt : k < len
      · obtain ⟨b, o, op', n', nm', args', a', len', cap', rfl, hb, hbx, hle, j1, j2, j3, hS', g0, g1, g2, g3⟩ := (HS.out.kept (Kept.of_below HW.out [])).at k hlt
        obtain ⟨b4, o4, op4, n4, nm4, args4, a4, len4, cap4, rfl, hb4, hbx4, hle4, j41, j42, j43, hS4, g40, g41, g42, g43⟩ := (HS2.out.kept (Kept.of_below HW.out [])).at k hlt
        have HC := Lib.hid (fun W hW => HI.out k _ (Ex.mk op4 n4 nm4 args4) _ [.int .i64 op4, .int .i64 n4, .string nm4, .slice a4 len4 cap4] W hle (RepE.mk' j1 j2 j3 (hS'.kept hW)) (RepE.mk' j41 j42 j43 (hS4.kept hW)))
        have HK : Hid (Kept [] wr wr.drew) := ⟨Nat.le_refl _, fun _ _ _ => rfl⟩
        have HWD := Lib.hid HW.out.drew
        have HXD := Lib.hid HX.out.drew
        have HYD := Lib.hid HY.out.drew
        have HLE := Lib.hid hle
        have HLE4 := Lib.hid hle4
        have hidx : (0 : Int) ≤ (k : Int) := by omega
        have hidx2 : (k : Int) < (len : Int) := by omega
        clear hle hle4 hS' hS4
        generalize Ex.mk op' n' nm' args' = e' at *
        generalize Ex.mk op4 n4 nm4 args4 = e4 at *
        by_cases hp : e' = e4
        · have HN2 : Hid (∀ (j : Nat) x, j < k + 1 → args[j]? = some x → args2[j]? = some x) := by
            intro j y hj hy
            rcases Nat.lt_or_ge j k with h | h
            · exact HN.out j y h hy
            · obtain rfl : j = k := by omega
              rw [HLE.out] at hy; injection hy with hy; subst hy; rw [HLE4.out, hp]
          rw [eqv_yes hp] at HC
          clear hp
          go_wp2_with fail
          go_still_tail 10, (by kernel_rfl)
          change wpList _ _ _ _ _ wr.drew
          go_wp2_with fail
          refine (HC.out _ HK.out).mono ?_; rintro r w1 ⟨rfl, b1⟩
          go_wp2
          go_roundw
          case rel => exact ⟨k + 1, by go_num, by omega, HWD.out.trans (b1.mono HWD.out.size), HXD.out.below b1, HYD.out.below b1, HN2⟩
          case measure => simp [intOf]; omega
        · have F := Lib.hid (F.out false (eqv_no (list_ne HLE.out HLE4.out hp)))
          rw [eqv_no hp] at HC
          clear hp
          go_wp2_with fail
          go_still_tail 10, (by kernel_rfl)
          change wpList _ _ _ _ _ wr.drew
          go_wp2_with fail
          refine (HC.out _ HK.out).mono ?_; rintro r w1 ⟨rfl, b1⟩
          go_wp2
          go_ret
          exact ⟨F.out, HWD.out.trans (b1.mono HWD.out.size)⟩
      · have F := Lib.hid (F.out true (eqv_yes (list_eq_of (by rw [HL.out, HL2.out]) (fun j x hj hx => HN.out j x (by rw [HL.out] at hj; omega) hx))))
        go_wp2
        go_ret
        exact ⟨F.out, HW.out⟩
end Go.Proofs.Ytjpkljkmignnjaa
