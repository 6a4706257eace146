/- SameExpr of the program and of the document's answer: true just where the two expressions are the same tree. -/
import Derived.Test.YtjpkljkmignnjaaHas
import Derived.Test.YtjpkljkmignnjaaStr
import Derived.Deep.QuietTactic
import Derived.StillTailTactics
namespace Go.Proofs.Ytjpkljkmignnjaa
set_option linter.unusedVariables false
set_option linter.unusedSimpArgs false
open Go.RowKit
open Classical in
noncomputable def eqv {α : Type} (a b : α) : Bool := decide (a = b)
open Classical in
theorem eqv_yes {α : Type} {a b : α} (h : a = b) : eqv a b = true := by unfold eqv; exact decide_eq_true h
open Classical in
theorem eqv_no {α : Type} {a b : α} (h : a ≠ b) : eqv a b = false := by unfold eqv; exact decide_eq_false h
open Classical in
theorem eqv_iff {α : Type} {a b : α} : eqv a b = true ↔ a = b := by unfold eqv; exact decide_eq_true_iff
theorem list_ne {α : Type} {l l' : List α} {k : Nat} {x y : α} (h : l[k]? = some x) (h' : l'[k]? = some y) (hne : x ≠ y) : l ≠ l' := by
  rintro rfl; rw [h] at h'; injection h' with h'; exact hne h'
theorem list_eq_of {α : Type} {l l' : List α} (hl : l.length = l'.length) (h : ∀ (j : Nat) x, j < l.length → l[j]? = some x → l'[j]? = some x) : l = l' := by
  apply List.ext_getElem? 
  intro j
  rcases Nat.lt_or_ge j l.length with hj | hj
  · have := List.getElem?_eq_getElem hj
    rw [this, h j _ hj this]
  · rw [List.getElem?_eq_none hj, List.getElem?_eq_none (by omega)]
theorem tl_ne {s s' : ByteArray} (h : s ≠ s') : (s.toList == s'.toList) = false := by
  rw [beq_eq_false_iff_ne]
  intro he
  rw [ByteArray.toList_eq, ByteArray.toList_eq] at he
  apply h
  cases s; cases s'
  simp at he
  rw [he]
set_option maxHeartbeats 1000000 in
theorem equalE_any (g : FuncId) (l l' : List Ex) (a : Option Addr) (len cap : Nat) (a2 : Option Addr) (len2 cap2 : Nat) (w : World) (eg : ∀ args w, (callFunc g args).run Try.prog w = .ok (.enter g args) w) (hS : SlE w [] l a len cap) (hS2 : SlE w [] l' a2 len2 cap2)
    (hP : ∀ (k : Nat) (e e' : Ex) (cs cs' : List Value) (W : World), l[k]? = some e → RepE W [] e cs → RepE W [] e' cs' → Calls Try.prog g #[.agg cs.toArray, .agg cs'.toArray] W fun r W' => r = .returned (.bool (eqv e e')) ∧ Below W.heap.size W W') :
    Calls Try.prog 37 #[.slice a len cap, .slice a2 len2 cap2, .func (.func g) #[] #[]] w fun e w' => e = .returned (.bool (eqv l l')) ∧ Below w.heap.size w w' := by
  have HF : Hid (∀ x, eqv l l' = x → Ending.returned (.bool x) = .returned (.bool (eqv l l'))) := fun x h => by rw [h]
  have HS := Lib.hid hS
  have HS2 := Lib.hid hS2
  have HP := Lib.hid hP
  obtain ⟨f1, f2, f3⟩ := hS.facts
  obtain ⟨f4, f5, f6⟩ := hS2.facts
  have HL := Lib.hid f1
  have HL2 := Lib.hid f4
  clear hS hS2 hP f1 f4
  by_cases hl : len = len2
  case neg =>
    have F := Lib.hid (HF.out false (eqv_no (fun h => hl (by rw [← HL.out, ← HL2.out, h]))))
    have t1 : ((len : Int) != (len2 : Int)) = true := by rw [bne_iff_ne]; omega
    clear hl
    go_enter Try.func37, Try.ntmps37
    go_wp2
    go_ret
    exact ⟨F.out, Below.refl _ _⟩
  subst hl
  go_enter Try.func37, Try.ntmps37
  go_wp2_with fail
  go_loopw [17] (fun i wr => ∃ k : Nat, i = .int .i64 (k : Nat) ∧ k ≤ len ∧ Hid (Below w.heap.size w wr) ∧ Hid (∀ (j : Nat) x, j < k → l[j]? = some x → l'[j]? = some x)) (fun i _ => len - (intOf i).toNat)
  case atStart => exact ⟨0, rfl, Nat.zero_le _, Below.refl _ _, fun j y hj => absurd hj (Nat.not_lt_zero _)⟩
  case round =>
    obtain ⟨k, rfl, hk, HW, HN⟩ := hrel
    by_cases hlt : k < len
    · obtain ⟨b, o, op', n', nm', args', a', len', cap', rfl, hb, hbx, hle, j1, j2, j3, hS', g0, g1, g2, g3⟩ := (HS.out.kept (Kept.of_below HW.out [])).at k hlt
      obtain ⟨b4, o4, op4, n4, nm4, args4, a4, len4, cap4, rfl, hb4, hbx4, hle4, j41, j42, j43, hS4, g40, g41, g42, g43⟩ := (HS2.out.kept (Kept.of_below HW.out [])).at k hlt
      have HC := Lib.hid (fun W hW => HP.out k _ (Ex.mk op4 n4 nm4 args4) _ [.int .i64 op4, .int .i64 n4, .string nm4, .slice a4 len4 cap4] W hle (RepE.mk' j1 j2 j3 (hS'.kept hW)) (RepE.mk' j41 j42 j43 (hS4.kept hW)))
      have HK := Lib.hid ((Kept.alloc wr (.cells #[.int .i64 op', .int .i64 n', .string nm', .slice a' len' cap'] 38) []).trans (Kept.alloc _ (.cells #[.int .i64 op4, .int .i64 n4, .string nm4, .slice a4 len4 cap4] 38) []))
      have HW2 := Lib.hid ((HW.out.alloc HW.out.size (.cells #[.int .i64 op', .int .i64 n', .string nm', .slice a' len' cap'] 38)).alloc (Nat.le_trans HW.out.size (by simp)) (.cells #[.int .i64 op4, .int .i64 n4, .string nm4, .slice a4 len4 cap4] 38))
      have HLE := Lib.hid hle
      have HLE4 := Lib.hid hle4
      clear hle hle4 hS' hS4
      generalize Ex.mk op' n' nm' args' = e' at *
      generalize Ex.mk op4 n4 nm4 args4 = e4 at *
      by_cases hp : e' = e4
      · have HN2 : Hid (∀ (j : Nat) x, j < k + 1 → l[j]? = some x → l'[j]? = some x) := by
          intro j y hj hy
          rcases Nat.lt_or_ge j k with h | h
          · exact HN.out j y h hy
          · obtain rfl : j = k := by omega
            rw [HLE.out] at hy; injection hy with hy; subst hy; rw [HLE4.out, hp]
        rw [eqv_yes hp] at HC
        clear hp
        go_wp2_with fail
        refine (HC.out _ HK.out).mono ?_; rintro r w1 ⟨rfl, b1⟩
        go_wp2
        go_roundw
        case rel => exact ⟨k + 1, by go_num, by omega, HW2.out.trans (b1.mono HW2.out.size), HN2⟩
        case measure => simp [intOf]; omega
      · have F := Lib.hid (HF.out false (eqv_no (list_ne HLE.out HLE4.out hp)))
        rw [eqv_no hp] at HC
        clear hp
        go_wp2_with fail
        refine (HC.out _ HK.out).mono ?_; rintro r w1 ⟨rfl, b1⟩
        go_wp2
        go_ret
        exact ⟨F.out, HW2.out.trans (b1.mono HW2.out.size)⟩
    · have F := Lib.hid (HF.out true (eqv_yes (list_eq_of (by rw [HL.out, HL2.out]) (fun j x hj hx => HN.out j x (by rw [HL.out] at hj; omega) hx))))
      go_wp2
      go_ret
      exact ⟨F.out, HW.out⟩
set_option maxRecDepth 100000 in
set_option maxHeartbeats 2000000 in
theorem sameExpr_any : ∀ (r : Nat) (e : Ex), e.rk ≤ r → ∀ (e2 : Ex) (cs cs2 : List Value) (w : World), RepE w [] e cs → RepE w [] e2 cs2 →
    Calls Try.prog 38 #[.agg cs.toArray, .agg cs2.toArray] w fun x w' => x = .returned (.bool (eqv e e2)) ∧ Below w.heap.size w w' := by
  intro r
  induction r with
  | zero => intro e h; have : 1 ≤ e.rk := by cases e; simp only [Ex.rk]; omega
            omega
  | succ r ih =>
    intro e hr e2 cs cs2 w hR hR2
    obtain ⟨op, n, nm, args, a, len, cap, rfl, rfl, i1, i2, i3, hS⟩ := hR.inv
    obtain ⟨op2, n2, nm2, args2, a2, len2, cap2, rfl, rfl, i12, i22, i32, hS2⟩ := hR2.inv
    have HC : Hid (∀ W, Kept [] w W → Calls Try.prog 37 #[.slice a len cap, .slice a2 len2 cap2, .func (.func 38) #[] #[]] W fun e w' => e = .returned (.bool (eqv args args2)) ∧ Below W.heap.size W w') := by
      intro W hW
      refine equalE_any 38 args args2 a len cap a2 len2 cap2 W (enters_of Try.func38 (by kernel_rfl) rfl) (hS.kept hW) (hS2.kept hW) ?_
      intro k e1 e1' cs1 cs1' W' hk hR1 hR1'
      exact ih e1 (by have := Ex.rk_lt (op := op) (n := n) (nm := nm) hk; omega) e1' cs1 cs1' W' hR1 hR1'
    have HF : Hid (∀ x, eqv (Ex.mk op n nm args) (Ex.mk op2 n2 nm2 args2) = x → Ending.returned (.bool x) = .returned (.bool (eqv (Ex.mk op n nm args) (Ex.mk op2 n2 nm2 args2)))) := fun x h => by rw [h]
    have HE : Hid (op = op2 → n = n2 → nm = nm2 → eqv (Ex.mk op n nm args) (Ex.mk op2 n2 nm2 args2) = eqv args args2) := by
      intro h1 h2 h3; subst h1 h2 h3
      by_cases h : args = args2
      · rw [eqv_yes h, eqv_yes (by rw [h])]
      · rw [eqv_no h, eqv_no (fun hh => h (by injection hh))]
    have HK := Lib.hid ((Kept.alloc w (.cells #[.int .i64 op, .int .i64 n, .string nm, .slice a len cap] 38) []).trans (Kept.alloc _ (.cells #[.int .i64 op2, .int .i64 n2, .string nm2, .slice a2 len2 cap2] 38) []))
    have HW0 := Lib.hid (((Below.refl w.heap.size w).alloc (Nat.le_refl _) (.cells #[.int .i64 op, .int .i64 n, .string nm, .slice a len cap] 38)).alloc (by simp) (.cells #[.int .i64 op2, .int .i64 n2, .string nm2, .slice a2 len2 cap2] 38))
    clear ih hr hR hR2 hS hS2 i1 i2 i12 i22
    by_cases ho : op = op2
    case neg =>
      have F := Lib.hid (HF.out false (eqv_no (fun h => ho (by injection h))))
      have t1 : (op == op2) = false := by simp [ho]
      clear ho
      go_enter Try.func38, Try.ntmps38
      go_wp2
      go_ret
      exact ⟨F.out, HW0.out⟩
    by_cases hn : n = n2
    case neg =>
      have F := Lib.hid (HF.out false (eqv_no (fun h => hn (by injection h))))
      have t1 : (n == n2) = false := by simp [hn]
      subst ho
      clear hn
      go_enter Try.func38, Try.ntmps38
      go_wp2
      go_ret
      exact ⟨F.out, HW0.out⟩
    by_cases hm : nm = nm2
    case neg =>
      have F := Lib.hid (HF.out false (eqv_no (fun h => hm (by injection h))))
      have t1 : (nm.toList == nm2.toList) = false := tl_ne hm
      subst ho hn
      clear hm
      go_enter Try.func38, Try.ntmps38
      go_wp2
      go_ret
      exact ⟨F.out, HW0.out⟩
    have E := Lib.hid (HE.out ho hn hm)
    subst ho hn hm
    have F : Hid (∀ b, eqv args args2 = b → Ending.returned (.bool b) = .returned (.bool (eqv (Ex.mk op n nm args) (Ex.mk op n nm args2)))) := fun b hb => by rw [E.out, hb]
    generalize eqv (Ex.mk op n nm args) (Ex.mk op n nm args2) = R at *
    generalize eqv args args2 = Q at *
    have FQ := Lib.hid (F.out Q rfl)
    go_enter Try.func38, Try.ntmps38
    go_wp2_with fail
    refine (HC.out _ HK.out).mono ?_; rintro x w1 ⟨rfl, b1⟩
    go_wp2
    go_ret
    exact ⟨FQ.out, HW0.out.trans (b1.mono HW0.out.size)⟩
end Go.Proofs.Ytjpkljkmignnjaa
