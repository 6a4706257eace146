/- The contracts of RightExpr, Right, Size; condition: the tree is not more than 1000 deep. -/
import Derived.Test.YtjpkljkmignnjaaBuiltT
namespace Go.Proofs.Ytjpkljkmignnjaa
set_option linter.unusedVariables false
set_option linter.unusedSimpArgs false
open Go.RowKit
def rE (e : Ex) : Bool := decide (e.nd ≤ 200 ∧ e.rk ≤ 16) && bE e
def rT (e : Te) : Bool := decide (e.nd ≤ 200 ∧ e.rk ≤ 16) && bT e
theorem St.small {X Y : Nat} {x d : Int} (h : St X Y x d) : (decide (x ≤ 200) && decide (d ≤ 16)) = decide (X ≤ 200 ∧ Y ≤ 16) := by
  obtain ⟨rfl, h2, h3, h4⟩ := h
  rw [Bool.eq_iff_iff]
  simp only [Bool.and_eq_true, decide_eq_true_eq]
  constructor
  · rintro ⟨a, b⟩; have := h4 (by omega); omega
  · rintro ⟨a, b⟩; have := h4 (by omega); omega
theorem St.told {X Y : Nat} {x d : Int} (h : St X Y x d) (hY : Y < 1000) : (if tld x d then x else 1000) = (if X < 1000 then (X : Int) else 1000) ∧ (if tld x d then d else 1000) = (if X < 1000 then (Y : Int) else 1000) := by
  obtain ⟨rfl, h2, h3, h4⟩ := h
  by_cases hX : X < 1000
  · have e := h4 hX
    have : tld (min (X : Int) 1000) d = true := by unfold tld; simp; omega
    rw [this, if_pos rfl, if_pos rfl, if_pos hX, if_pos hX]; omega
  · have : tld (min (X : Int) 1000) d = false := by unfold tld; exact decide_eq_false (by omega)
    simp [this, hX]
theorem rightExpr_any (e : Ex) (cs : List Value) (w : World) (hR : RepE w [] e cs) (hk : e.rk ≤ 1000) :
    Calls Try.prog 17 #[.agg cs.toArray] w fun x w' => x = .returned (.bool (rE e)) ∧ Below w.heap.size w w' := by
  have HS := Lib.hid (fun W hW => sizeExpr_any e.rk e (Nat.le_refl _) cs 0 W (hR.kept hW) (by omega) (by omega))
  have HB := Lib.hid (fun W hW => builtExpr_any e.rk e (Nat.le_refl _) cs W (hR.kept hW))
  have HD := Lib.hid (show rE e = (decide (e.nd ≤ 200 ∧ e.rk ≤ 16) && bE e) from rfl)
  obtain ⟨op, n, nm, args, a, len, cap, rfl, rfl, _, _, _, _⟩ := hR.inv
  have hk0 := Lib.hid (Kept.alloc w (.cells #[.int .i64 op, .int .i64 n, .string nm, .slice a len cap] 38) [])
  have HW0 := Lib.hid ((Below.refl w.heap.size w).alloc (Nat.le_refl _) (.cells #[.int .i64 op, .int .i64 n, .string nm, .slice a len cap] 38))
  have BX := Lib.hid (Mem.Blk.new w 38 #[.int .i64 op, .int .i64 n, .string nm, .slice a len cap])
  generalize rE (.mk op n nm args) = R at *
  generalize bE (.mk op n nm args) = B at *
  clear hR hk
  go_enter Try.func17, Try.ntmps17
  go_wp2_with fail
  refine (HS.out _ hk0.out).mono ?_; rintro x w1 ⟨hx, b1⟩
  obtain ⟨x, d, rfl, hst⟩ := hx.st
  have E := Lib.hid hst.small
  clear hst hx
  go_wp2_with fail
  refine (small_size_any _ _ _).mono ?_; rintro x w2 ⟨rfl, b2⟩
  rw [E.out]
  have W2 := Lib.hid ((HW0.out.trans (b1.mono HW0.out.size)).trans (b2.mono (HW0.out.trans (b1.mono HW0.out.size)).size))
  have k2 := Lib.hid ((hk0.out.trans (Kept.of_below b1 [])).trans (Kept.of_below b2 []))
  obtain ⟨c0, c1, c2, c3⟩ : Four w2 w.heap.size 0 (.int .i64 op) (.int .i64 n) (.string nm) (.slice a len cap) := ⟨((BX.out.below b1).below b2).cell 0, ((BX.out.below b1).below b2).cell 1, ((BX.out.below b1).below b2).cell 2, ((BX.out.below b1).below b2).cell 3⟩
  generalize decide ((Ex.mk op n nm args).nd ≤ 200 ∧ (Ex.mk op n nm args).rk ≤ 16) = S at *
  clear b1 b2
  cases S
  · go_wp2
    go_ret
    exact ⟨by rw [HD.out]; rfl, W2.out⟩
  · go_wp2_with fail
    refine (HB.out _ k2.out).mono ?_; rintro x w3 ⟨rfl, b3⟩
    go_wp2
    go_ret
    exact ⟨by rw [HD.out]; rfl, W2.out.trans (b3.mono W2.out.size)⟩
theorem right_any (e : Te) (cs : List Value) (w : World) (hR : RepT w [] e cs) (hk : e.rk ≤ 1000) :
    Calls Try.prog 15 #[.agg cs.toArray] w fun x w' => x = .returned (.bool (rT e)) ∧ Below w.heap.size w w' := by
  have HS := Lib.hid (fun W hW => sizeTerm_any e.rk e (Nat.le_refl _) cs 0 W (hR.kept hW) (by omega) (by omega))
  have HB := Lib.hid (fun W hW => built_any e.rk e (Nat.le_refl _) cs W (hR.kept hW))
  have HD := Lib.hid (show rT e = (decide (e.nd ≤ 200 ∧ e.rk ≤ 16) && bT e) from rfl)
  obtain ⟨op, nm, ex, te, a, len, cap, a2, len2, cap2, rfl, rfl, _, _, _, _⟩ := hR.inv
  have hk0 := Lib.hid (Kept.alloc w (.cells #[.int .i64 op, .string nm, .slice a len cap, .slice a2 len2 cap2] 33) [])
  have HW0 := Lib.hid ((Below.refl w.heap.size w).alloc (Nat.le_refl _) (.cells #[.int .i64 op, .string nm, .slice a len cap, .slice a2 len2 cap2] 33))
  have BX := Lib.hid (Mem.Blk.new w 33 #[.int .i64 op, .string nm, .slice a len cap, .slice a2 len2 cap2])
  generalize rT (.mk op nm ex te) = R at *
  generalize bT (.mk op nm ex te) = B at *
  clear hR hk
  go_enter Try.func15, Try.ntmps15
  go_wp2_with fail
  refine (HS.out _ hk0.out).mono ?_; rintro x w1 ⟨hx, b1⟩
  obtain ⟨x, d, rfl, hst⟩ := hx.st
  have E := Lib.hid hst.small
  clear hst hx
  go_wp2_with fail
  refine (small_size_any _ _ _).mono ?_; rintro x w2 ⟨rfl, b2⟩
  rw [E.out]
  have W2 := Lib.hid ((HW0.out.trans (b1.mono HW0.out.size)).trans (b2.mono (HW0.out.trans (b1.mono HW0.out.size)).size))
  have k2 := Lib.hid ((hk0.out.trans (Kept.of_below b1 [])).trans (Kept.of_below b2 []))
  obtain ⟨c0, c1, c2, c3⟩ : Four w2 w.heap.size 0 (.int .i64 op) (.string nm) (.slice a len cap) (.slice a2 len2 cap2) := ⟨((BX.out.below b1).below b2).cell 0, ((BX.out.below b1).below b2).cell 1, ((BX.out.below b1).below b2).cell 2, ((BX.out.below b1).below b2).cell 3⟩
  generalize decide ((Te.mk op nm ex te).nd ≤ 200 ∧ (Te.mk op nm ex te).rk ≤ 16) = S at *
  clear b1 b2
  cases S
  · go_wp2
    go_ret
    exact ⟨by rw [HD.out]; rfl, W2.out⟩
  · go_wp2_with fail
    refine (HB.out _ k2.out).mono ?_; rintro x w3 ⟨rfl, b3⟩
    go_wp2
    go_ret
    exact ⟨by rw [HD.out]; rfl, W2.out.trans (b3.mono W2.out.size)⟩
theorem size_any (e : Te) (cs : List Value) (w : World) (hR : RepT w [] e cs) (hk : e.rk < 1000) :
    Calls Try.prog 19 #[.agg cs.toArray] w fun x w' => x = .returned (.tuple #[.int .i64 (if e.nd < 1000 then (e.nd : Int) else 1000), .int .i64 (if e.nd < 1000 then (e.rk : Int) else 1000)]) ∧ Below w.heap.size w w' := by
  have HS := Lib.hid (fun W hW => sizeTerm_any e.rk e (Nat.le_refl _) cs 0 W (hR.kept hW) (by omega) (by omega))
  have HT := Lib.hid (fun x d (h : St e.nd e.rk x d) => h.told hk)
  obtain ⟨op, nm, ex, te, a, len, cap, a2, len2, cap2, rfl, rfl, _, _, _, _⟩ := hR.inv
  have hk0 := Lib.hid (Kept.alloc w (.cells #[.int .i64 op, .string nm, .slice a len cap, .slice a2 len2 cap2] 33) [])
  have HW0 := Lib.hid ((Below.refl w.heap.size w).alloc (Nat.le_refl _) (.cells #[.int .i64 op, .string nm, .slice a len cap, .slice a2 len2 cap2] 33))
  generalize (Te.mk op nm ex te).nd = ND at *
  generalize (Te.mk op nm ex te).rk = RK at *
  generalize (if ND < 1000 then (ND : Int) else 1000) = U at *
  generalize (if ND < 1000 then (RK : Int) else 1000) = V at *
  clear hR hk
  go_enter Try.func19, Try.ntmps19
  go_wp2_with fail
  refine (HS.out _ hk0.out).mono ?_; rintro x w1 ⟨hx, b1⟩
  obtain ⟨x, d, rfl, hst⟩ := hx.st
  have E := Lib.hid (HT.out x d hst)
  clear hst hx
  go_wp2_with fail
  refine (told_size_any _ _ _).mono ?_; rintro x w2 ⟨rfl, b2⟩
  rw [E.out.1, E.out.2]
  go_wp2
  go_ret2
  exact ⟨rfl, (HW0.out.trans (b1.mono HW0.out.size)).trans (b2.mono (HW0.out.trans (b1.mono HW0.out.size)).size)⟩
end Go.Proofs.Ytjpkljkmignnjaa
