/- The contract of a built tree's Right; condition: the term is not more than 999 deep. -/
import Derived.Test.YtjpkljkmignnjaaBuildA
import Derived.Test.YtjpkljkmignnjaaRefT
import Derived.Test.YtjpkljkmignnjaaRight
namespace Go.Proofs.Ytjpkljkmignnjaa
set_option linter.unusedVariables false
set_option linter.unusedSimpArgs false
open Go.RowKit
theorem rT_parts (t : Te) (hr : t.rk < 1000) : rT t = (decide (ndI t.nd ≤ 200) && decide (rkI t.nd t.rk ≤ 16) && bT t) := by
  have : rT t = (decide (t.nd ≤ 200 ∧ t.rk ≤ 16) && bT t) := rfl
  rw [this]
  congr 1
  rw [Bool.eq_iff_iff]
  simp only [Bool.and_eq_true, decide_eq_true_eq]
  unfold ndI rkI
  by_cases h : t.nd < 1000
  · rw [if_pos h, if_pos h]; omega
  · rw [if_neg h, if_neg h]; omega
set_option maxRecDepth 100000 in
set_option maxHeartbeats 1000000 in
theorem treeRight_any {w : World} {es : List Ex} {ts : List Te} {cs : List Value} (h : TreeIs w [] es ts cs) (i : Nat) {t : Te} (ht : ts[i]? = some t) (hr : t.rk < 1000) :
    Calls Try.prog 10 #[.agg cs.toArray, .int .i64 (i : Nat)] w fun x w' => x = .returned (.bool (rT t)) ∧ Below w.heap.size w w' := by
  have hit : i < ts.length := (List.getElem?_eq_some_iff.1 ht).1
  obtain ⟨aE, cE, aN, cN, aD, cD, aT, cT, aM, cM, aP, cP, rfl, h1, h2, h3, h4, h5, h6⟩ := h
  have hlM : (ndsT ts).length = ts.length := by unfold ndsT; rw [List.length_map]
  have hlP : (rksT ts).length = ts.length := by unfold rksT; rw [List.length_map]
  obtain ⟨bm, om, xm, cm, rfl, hbm, -, hxm, ⟨rfl, -⟩, -, hcm⟩ := h5.at i (by omega)
  obtain ⟨bp, op, xp, cp, rfl, hbp, -, hxp, ⟨rfl, -⟩, -, hcp⟩ := h6.at i (by omega)
  obtain ⟨bt, ot, xt, ct, rfl, hbt, -, hxt, hRt, -, hct⟩ := h4.at i hit
  obtain rfl : xm = ndI t.nd := by
    unfold ndsT at hxm
    rw [List.getElem?_map, ht] at hxm
    injection hxm with h; exact h.symm
  obtain rfl : xp = rkI t.nd t.rk := by
    unfold rksT at hxp
    rw [List.getElem?_map, ht] at hxp
    injection hxp with h; exact h.symm
  obtain rfl : t = xt := by rw [ht] at hxt; injection hxt
  have HRT := Lib.hid (rT_parts t hr)
  have HW0 := Lib.hid ((Below.refl w.heap.size w).alloc (Nat.le_refl _) (.cells #[.slice aE es.length cE, .slice aN (nds es).length cN, .slice aD (rks es).length cD, .slice (some ⟨bt, ot, none⟩) ts.length cT, .slice (some ⟨bm, om, none⟩) (ndsT ts).length cM, .slice (some ⟨bp, op, none⟩) (rksT ts).length cP] 30))
  have BX := Mem.Blk.new w 30 #[.slice aE es.length cE, .slice aN (nds es).length cN, .slice aD (rks es).length cD, .slice (some ⟨bt, ot, none⟩) ts.length cT, .slice (some ⟨bm, om, none⟩) (ndsT ts).length cM, .slice (some ⟨bp, op, none⟩) (rksT ts).length cP]
  have HC : Hid (∀ W, Below w.heap.size w W → Calls Try.prog 25 #[.agg ct.toArray] W fun x w' => x = .returned (.bool (bT t)) ∧ Below W.heap.size W w') := fun W hW => rbuilt_any t.rk t (Nat.le_refl _) ct W (RepT.kept hRt (Kept.of_below hW []))
  obtain ⟨o5, e5, x5, t5, p5, l5, r5, p6, l6, r6, -, rfl, -⟩ := hRt.inv
  have s3 := Lib.hid (BX.cell 3)
  have s4 := Lib.hid (BX.cell 4)
  have s5 := Lib.hid (BX.cell 5)
  have g0 := Lib.hid (cell_up (show w.cell? ⟨bm, om + i, none⟩ = some (.int .i64 (ndI t.nd)) by have := hcm 0 _ rfl; simpa [i64K] using this) HW0.out)
  have g1 := Lib.hid (cell_up (show w.cell? ⟨bp, op + i, none⟩ = some (.int .i64 (rkI t.nd t.rk)) by have := hcp 0 _ rfl; simpa [i64K] using this) HW0.out)
  have v0 := Lib.hid (cell_up (show w.cell? ⟨bt, ot + i * 4, none⟩ = some (.int .i64 o5) from hct 0 _ rfl) HW0.out)
  have v1 := Lib.hid (cell_up (show w.cell? ⟨bt, ot + i * 4 + 1, none⟩ = some (.string e5) from hct 1 _ rfl) HW0.out)
  have v2 := Lib.hid (cell_up (show w.cell? ⟨bt, ot + i * 4 + 2, none⟩ = some (.slice p5 l5 r5) from hct 2 _ rfl) HW0.out)
  have v3 := Lib.hid (cell_up (show w.cell? ⟨bt, ot + i * 4 + 3, none⟩ = some (.slice p6 l6 r6) from hct 3 _ rfl) HW0.out)
  have i0 : (0 : Int) ≤ (i : Int) := by omega
  have i1 : (i : Int) < (ts.length : Int) := by omega
  have i2 : (i : Int) < ((ndsT ts).length : Int) := by omega
  have i3 : (i : Int) < ((rksT ts).length : Int) := by omega
  have n1 := ndI_bd t.nd
  have n2 := rkI_bd t.nd t.rk hr
  clear hcm hcp hct hRt BX h1 h2 h3 h4 h5 h6 hxm hxp ht hr hlM hlP hxt hbm hbp hbt hit
  generalize ndI t.nd = a at *
  generalize rkI t.nd t.rk = b at *
  rw [HRT.out]
  generalize (ndsT ts).length = lM at *
  generalize (rksT ts).length = lP at *
  by_cases ha : a ≤ 200
  · by_cases hb : b ≤ 16
    · have e1 : (decide (a ≤ 200) && decide (b ≤ 16) && bT t) = bT t := by simp [ha, hb]
      rw [e1]
      go_enter Try.func10, Try.ntmps10
      go_upto_region 1 with (fail)
      generalize w.alloc (.cells #[.slice aE es.length cE, .slice aN (nds es).length cN, .slice aD (rks es).length cD, .slice (some ⟨bt, ot, none⟩) ts.length cT, .slice (some ⟨bm, om, none⟩) lM cM, .slice (some ⟨bp, op, none⟩) lP cP] 30) = v at *
      have s3' := s3.out
      have s4' := s4.out
      have s5' := s5.out
      have g0' := g0.out
      have g1' := g1.out
      have v0' := v0.out
      have v1' := v1.out
      have v2' := v2.out
      have v3' := v3.out
      simp only [List.getElem?_toArray, List.getElem?_cons_zero, List.getElem?_cons_succ] at s3' s4' s5'
      clear s3 s4 s5 g0 g1 v0 v1 v2 v3
      go_wp2_with fail
      go_at_call 25
      (with_reducible refine (HC.out v HW0.out).mono ?_)
      rintro y w1 ⟨rfl, b1⟩
      have HW1 := Lib.hid (HW0.out.trans (b1.mono HW0.out.size))
      clear b1
      go_wp2_with fail
      go_ret
      exact ⟨rfl, HW1.out⟩
    · have e1 : (decide (a ≤ 200) && decide (b ≤ 16) && bT t) = false := by simp [hb]
      rw [e1]
      go_enter Try.func10, Try.ntmps10
      go_upto_region 1 with (fail)
      generalize w.alloc (.cells #[.slice aE es.length cE, .slice aN (nds es).length cN, .slice aD (rks es).length cD, .slice (some ⟨bt, ot, none⟩) ts.length cT, .slice (some ⟨bm, om, none⟩) lM cM, .slice (some ⟨bp, op, none⟩) lP cP] 30) = v at *
      have s3' := s3.out
      have s4' := s4.out
      have s5' := s5.out
      have g0' := g0.out
      have g1' := g1.out
      have v0' := v0.out
      have v1' := v1.out
      have v2' := v2.out
      have v3' := v3.out
      simp only [List.getElem?_toArray, List.getElem?_cons_zero, List.getElem?_cons_succ] at s3' s4' s5'
      clear s3 s4 s5 g0 g1 v0 v1 v2 v3
      go_wp2_with fail
      go_ret
      exact ⟨rfl, HW0.out⟩
  · have e1 : (decide (a ≤ 200) && decide (b ≤ 16) && bT t) = false := by simp [ha]
    rw [e1]
    go_enter Try.func10, Try.ntmps10
    go_upto_region 1 with (fail)
    generalize w.alloc (.cells #[.slice aE es.length cE, .slice aN (nds es).length cN, .slice aD (rks es).length cD, .slice (some ⟨bt, ot, none⟩) ts.length cT, .slice (some ⟨bm, om, none⟩) lM cM, .slice (some ⟨bp, op, none⟩) lP cP] 30) = v at *
    have s3' := s3.out
    have s4' := s4.out
    have s5' := s5.out
    have g0' := g0.out
    have g1' := g1.out
    have v0' := v0.out
    have v1' := v1.out
    have v2' := v2.out
    have v3' := v3.out
    simp only [List.getElem?_toArray, List.getElem?_cons_zero, List.getElem?_cons_succ] at s3' s4' s5'
    clear s3 s4 s5 g0 g1 v0 v1 v2 v3
    go_wp2_with fail
    go_ret
    exact ⟨rfl, HW0.out⟩
end Go.Proofs.Ytjpkljkmignnjaa
