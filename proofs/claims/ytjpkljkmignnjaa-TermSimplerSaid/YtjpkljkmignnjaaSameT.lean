/- Same of the program and of the document's answer: true just where the two terms are the same tree. -/
import Derived.Test.YtjpkljkmignnjaaSameR
namespace Go.Proofs.Ytjpkljkmignnjaa
set_option linter.unusedVariables false
set_option linter.unusedSimpArgs false
open Go.RowKit
set_option maxHeartbeats 1000000 in
theorem equalT_any (g : FuncId) (l l' : List Te) (a : Option Addr) (len cap : Nat) (a2 : Option Addr) (len2 cap2 : Nat) (w : World) (eg : ∀ args w, (callFunc g args).run Try.prog w = .ok (.enter g args) w) (hS : SlT w [] l a len cap) (hS2 : SlT w [] l' a2 len2 cap2)
    (hP : ∀ (k : Nat) (e e' : Te) (cs cs' : List Value) (W : World), l[k]? = some e → RepT W [] e cs → RepT W [] e' cs' → Calls Try.prog g #[.agg cs.toArray, .agg cs'.toArray] W fun r W' => r = .returned (.bool (eqv e e')) ∧ Below W.heap.size W W') :
    Calls Try.prog 39 #[.slice a len cap, .slice a2 len2 cap2, .func (.func g) #[] #[]] w fun e w' => e = .returned (.bool (eqv l l')) ∧ Below w.heap.size w w' := by
  have HF : Hid (∀ x, eqv l l' = x → Ending.returned (.bool x) = .returned (.bool (eqv l l'))) := fun x h => by rw [h]
  have HS := Lib.hid hS
  have HS2 := Lib.hid hS2
  have HP := Lib.hid hP
  obtain ⟨f1, f2, f3⟩ := hS.facts
  obtain ⟨f4, f5, f6⟩ := hS2.facts
  have HL := Lib.hid f1
  have HL2 := Lib.hid f4
  clear hS hS2 hP f1 f4
  by_cases hl : len = len2
  case neg =>
    have F := Lib.hid (HF.out false (eqv_no (fun h => hl (by rw [← HL.out, ← HL2.out, h]))))
    have t1 : ((len : Int) != (len2 : Int)) = true := by rw [bne_iff_ne]; omega
    clear hl
    go_enter Try.func39, Try.ntmps39
    go_wp2
    go_ret
    exact ⟨F.out, Below.refl _ _⟩
  subst hl
  go_enter Try.func39, Try.ntmps39
  go_wp2_with fail
  go_loopw [17] (fun i wr => ∃ k : Nat, i = .int .i64 (k : Nat) ∧ k ≤ len ∧ Hid (Below w.heap.size w wr) ∧ Hid (∀ (j : Nat) x, j < k → l[j]? = some x → l'[j]? = some x)) (fun i _ => len - (intOf i).toNat)
  case atStart => exact ⟨0, rfl, Nat.zero_le _, Below.refl _ _, fun j y hj => absurd hj (Nat.not_lt_zero _)⟩
  case round =>
    obtain ⟨k, rfl, hk, HW, HN⟩ := hrel
    by_cases hlt : k < len
    · obtain ⟨b, o, op', nm', ex', te', a', len', cap', a3, len3, cap3, rfl, hb, hbx, hle, j1, j3, hS', hS3, g0, g1, g2, g3⟩ := (HS.out.kept (Kept.of_below HW.out [])).at k hlt
      obtain ⟨b4, o4, op4, nm4, ex4, te4, a4, len4, cap4, a5, len5, cap5, rfl, hb4, hbx4, hle4, j41, j43, hS4, hS5, g40, g41, g42, g43⟩ := (HS2.out.kept (Kept.of_below HW.out [])).at k hlt
      have HC := Lib.hid (fun W hW => HP.out k _ (Te.mk op4 nm4 ex4 te4) _ [.int .i64 op4, .string nm4, .slice a4 len4 cap4, .slice a5 len5 cap5] W hle (RepT.mk' j1 j3 (hS'.kept hW) (hS3.kept hW)) (RepT.mk' j41 j43 (hS4.kept hW) (hS5.kept hW)))
      have HK := Lib.hid ((Kept.alloc wr (.cells #[.int .i64 op', .string nm', .slice a' len' cap', .slice a3 len3 cap3] 33) []).trans (Kept.alloc _ (.cells #[.int .i64 op4, .string nm4, .slice a4 len4 cap4, .slice a5 len5 cap5] 33) []))
      have HW2 := Lib.hid ((HW.out.alloc HW.out.size (.cells #[.int .i64 op', .string nm', .slice a' len' cap', .slice a3 len3 cap3] 33)).alloc (Nat.le_trans HW.out.size (by simp)) (.cells #[.int .i64 op4, .string nm4, .slice a4 len4 cap4, .slice a5 len5 cap5] 33))
      have HLE := Lib.hid hle
      have HLE4 := Lib.hid hle4
      clear hle hle4 hS' hS4 hS3 hS5
      generalize Te.mk op' nm' ex' te' = e' at *
      generalize Te.mk op4 nm4 ex4 te4 = e4 at *
      by_cases hp : e' = e4
      · have HN2 : Hid (∀ (j : Nat) x, j < k + 1 → l[j]? = some x → l'[j]? = some x) := by
          intro j y hj hy
          rcases Nat.lt_or_ge j k with h | h
          · exact HN.out j y h hy
          · obtain rfl : j = k := by omega
            rw [HLE.out] at hy; injection hy with hy; subst hy; rw [HLE4.out, hp]
        rw [eqv_yes hp] at HC
        clear hp
        go_wp2_with fail
        refine (HC.out _ HK.out).mono ?_; rintro r w1 ⟨rfl, b1⟩
        go_wp2
        go_roundw
        case rel => exact ⟨k + 1, by go_num, by omega, HW2.out.trans (b1.mono HW2.out.size), HN2⟩
        case measure => simp [intOf]; omega
      · have F := Lib.hid (HF.out false (eqv_no (list_ne HLE.out HLE4.out hp)))
        rw [eqv_no hp] at HC
        clear hp
        go_wp2_with fail
        refine (HC.out _ HK.out).mono ?_; rintro r w1 ⟨rfl, b1⟩
        go_wp2
        go_ret
        exact ⟨F.out, HW2.out.trans (b1.mono HW2.out.size)⟩
    · have F := Lib.hid (HF.out true (eqv_yes (list_eq_of (by rw [HL.out, HL2.out]) (fun j x hj hx => HN.out j x (by rw [HL.out] at hj; omega) hx))))
      go_wp2
      go_ret
      exact ⟨F.out, HW.out⟩
theorem Te.rk_pos' (e : Te) : 1 ≤ e.rk := by cases e; simp only [Te.rk]; omega
theorem eqT {op : Int} {nm : ByteArray} {x x2 : List Ex} {t t2 : List Te} : eqv (Te.mk op nm x t) (Te.mk op nm x2 t2) = (eqv x x2 && eqv t t2) := by
  rw [Bool.eq_iff_iff, Bool.and_eq_true, eqv_iff, eqv_iff, eqv_iff]
  constructor
  · intro h; injection h with _ _ h1 h2; exact ⟨h1, h2⟩
  · rintro ⟨rfl, rfl⟩; rfl
set_option maxRecDepth 100000 in
set_option maxHeartbeats 2000000 in
theorem same_any : ∀ (r : Nat) (e : Te), e.rk ≤ r → ∀ (e2 : Te) (cs cs2 : List Value) (w : World), RepT w [] e cs → RepT w [] e2 cs2 →
    Calls Try.prog 21 #[.agg cs.toArray, .agg cs2.toArray] w fun x w' => x = .returned (.bool (eqv e e2)) ∧ Below w.heap.size w w' := by
  intro r
  induction r with
  | zero => intro e h; have := e.rk_pos'; omega
  | succ r ih =>
    intro e hr e2 cs cs2 w hR hR2
    obtain ⟨op, nm, ex, te, a, len, cap, b, ben, bap, rfl, rfl, i1, i3, hS, hB⟩ := hR.inv
    obtain ⟨op2, nm2, ex2, te2, a2, len2, cap2, b2, ben2, bap2, rfl, rfl, i12, i32, hS2, hB2⟩ := hR2.inv
    have HC : Hid (∀ W, Kept [] w W → Calls Try.prog 37 #[.slice a len cap, .slice a2 len2 cap2, .func (.func 38) #[] #[]] W fun e w' => e = .returned (.bool (eqv ex ex2)) ∧ Below W.heap.size W w') := by
      intro W hW
      refine equalE_any 38 ex ex2 a len cap a2 len2 cap2 W (enters_of Try.func38 (by kernel_rfl) rfl) (hS.kept hW) (hS2.kept hW) ?_
      intro k e1 e1' cs1 cs1' W' hk hR1 hR1'
      exact sameExpr_any e1.rk e1 (Nat.le_refl _) e1' cs1 cs1' W' hR1 hR1'
    have HD : Hid (∀ W, Kept [] w W → Calls Try.prog 39 #[.slice b ben bap, .slice b2 ben2 bap2, .func (.func 21) #[] #[]] W fun e w' => e = .returned (.bool (eqv te te2)) ∧ Below W.heap.size W w') := by
      intro W hW
      refine equalT_any 21 te te2 b ben bap b2 ben2 bap2 W (enters_of Try.func21 (by kernel_rfl) rfl) (hB.kept hW) (hB2.kept hW) ?_
      intro k e1 e1' cs1 cs1' W' hk hR1 hR1'
      exact ih e1 (by have := Te.rk_lt (op := op) (nm := nm) (x := ex) hk; omega) e1' cs1 cs1' W' hR1 hR1'
    have HF : Hid (∀ x, eqv (Te.mk op nm ex te) (Te.mk op2 nm2 ex2 te2) = x → Ending.returned (.bool x) = .returned (.bool (eqv (Te.mk op nm ex te) (Te.mk op2 nm2 ex2 te2)))) := fun x h => by rw [h]
    have HK := Lib.hid ((Kept.alloc w (.cells #[.int .i64 op, .string nm, .slice a len cap, .slice b ben bap] 33) []).trans (Kept.alloc _ (.cells #[.int .i64 op2, .string nm2, .slice a2 len2 cap2, .slice b2 ben2 bap2] 33) []))
    have HW0 := Lib.hid (((Below.refl w.heap.size w).alloc (Nat.le_refl _) (.cells #[.int .i64 op, .string nm, .slice a len cap, .slice b ben bap] 33)).alloc (by simp) (.cells #[.int .i64 op2, .string nm2, .slice a2 len2 cap2, .slice b2 ben2 bap2] 33))
    have BX := Lib.hid ((Mem.Blk.new w 33 #[.int .i64 op, .string nm, .slice a len cap, .slice b ben bap]).alloc (.cells #[.int .i64 op2, .string nm2, .slice a2 len2 cap2, .slice b2 ben2 bap2] 33))
    have BY := Lib.hid (Mem.Blk.new (w.alloc (.cells #[.int .i64 op, .string nm, .slice a len cap, .slice b ben bap] 33)) 33 #[.int .i64 op2, .string nm2, .slice a2 len2 cap2, .slice b2 ben2 bap2])
    rw [show (w.alloc (.cells #[.int .i64 op, .string nm, .slice a len cap, .slice b ben bap] 33)).heap.size = w.heap.size + 1 by simp] at BY
    clear ih hr hR hR2 hS hS2 hB hB2 i1 i12
    by_cases ho : op = op2
    case neg =>
      have F := Lib.hid (HF.out false (eqv_no (fun h => ho (by injection h))))
      have t1 : (op == op2) = false := by simp [ho]
      clear ho
      go_enter Try.func21, Try.ntmps21
      go_wp2
      go_ret
      exact ⟨F.out, HW0.out⟩
    by_cases hm : nm = nm2
    case neg =>
      have F := Lib.hid (HF.out false (eqv_no (fun h => hm (by injection h))))
      have t1 : (nm.toList == nm2.toList) = false := tl_ne hm
      subst ho
      clear hm
      go_enter Try.func21, Try.ntmps21
      go_wp2
      go_ret
      exact ⟨F.out, HW0.out⟩
    subst ho hm
    have F : Hid (∀ x, (eqv ex ex2 && eqv te te2) = x → Ending.returned (.bool x) = .returned (.bool (eqv (Te.mk op nm ex te) (Te.mk op nm ex2 te2)))) := fun x hx => by rw [eqT, hx]
    clear HF
    generalize eqv (Te.mk op nm ex te) (Te.mk op nm ex2 te2) = R at *
    generalize eqv ex ex2 = P at *
    generalize eqv te te2 = Q at *
    have FQ := Lib.hid (F.out (P && Q) rfl)
    cases P
    · go_enter Try.func21, Try.ntmps21
      go_wp2_with fail
      refine (HC.out _ HK.out).mono ?_; rintro x w1 ⟨rfl, b1⟩
      go_wp2
      go_ret
      exact ⟨FQ.out, HW0.out.trans (b1.mono HW0.out.size)⟩
    · go_enter Try.func21, Try.ntmps21
      go_wp2_with fail
      refine (HC.out _ HK.out).mono ?_; rintro x w1 ⟨rfl, b1⟩
      have W1 := Lib.hid (HW0.out.trans (b1.mono HW0.out.size))
      have K1 := Lib.hid (HK.out.trans (Kept.of_below b1 []))
      have c3 : w1.cell? ⟨w.heap.size, 3, none⟩ = some (.slice b ben bap) := (BX.out.below b1).cell 3
      have d3 : w1.cell? ⟨w.heap.size + 1, 3, none⟩ = some (.slice b2 ben2 bap2) := (BY.out.below b1).cell 3
      clear b1
      go_wp2_with fail
      refine (HD.out _ K1.out).mono ?_; rintro x w2 ⟨rfl, b2⟩
      go_wp2
      go_ret
      exact ⟨FQ.out, W1.out.trans (b2.mono W1.out.size)⟩
end Go.Proofs.Ytjpkljkmignnjaa
