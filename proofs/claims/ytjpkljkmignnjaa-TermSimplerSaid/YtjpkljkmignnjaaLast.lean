/- The contract of a built tree's Last. -/
import Derived.Test.YtjpkljkmignnjaaTreeR
import Derived.Test.YtjpkljkmignnjaaSimple
namespace Go.Proofs.Ytjpkljkmignnjaa
set_option linter.unusedVariables false
set_option linter.unusedSimpArgs false
open Go.RowKit
def lastT (ts : List Te) : Option Te := match ts.getLast? with | some t => if rT t = true then some t else none | none => none
theorem lastT_right {ts : List Te} {t : Te} (h : lastT ts = some t) : rT t = true ∧ t ∈ ts := by
  unfold lastT at h
  cases hl : ts.getLast? with
  | none => rw [hl] at h; cases h
  | some u =>
    rw [hl] at h
    by_cases hu : rT u = true
    · simp [hu] at h; subst h; exact ⟨hu, List.mem_of_getLast? hl⟩
    · simp [hu] at h
theorem lastT_of {ts : List Te} {k : Nat} {t : Te} (hk : ts.length = k + 1) (ht : ts[k]? = some t) : lastT ts = if rT t = true then some t else none := by
  unfold lastT
  rw [List.getLast?_eq_getElem?, hk, Nat.add_sub_cancel, ht]
theorem below_set4 {B g : Nat} {w wr : World} {c0 c1 c2 c3 : Value} (h : Below B w wr) (hg : B ≤ g) : Below B w ((((wr.setCell ⟨g, 0, none⟩ c0).setCell ⟨g, 1, none⟩ c1).setCell ⟨g, 2, none⟩ c2).setCell ⟨g, 3, none⟩ c3) :=
  (((h.setCell (p := ⟨g, 0, none⟩) hg c0).setCell (p := ⟨g, 1, none⟩) hg c1).setCell (p := ⟨g, 2, none⟩) hg c2).setCell (p := ⟨g, 3, none⟩) hg c3
set_option maxRecDepth 100000 in
set_option maxHeartbeats 2000000 in
theorem last_any {w : World} {es : List Ex} {ts : List Te} {cs : List Value} (h : TreeIs w [] es ts cs) (hr : ∀ t ∈ ts, t.rk < 1000) (hlen : ts.length ≤ 1000) :
    Calls Try.prog 18 #[.agg cs.toArray] w fun x w' => ((x = .returned (.tuple #[.agg #[.int .i64 0, .string ⟨#[]⟩, .slice none 0 0, .slice none 0 0], .bool false]) ∧ lastT ts = none) ∨ (∃ cs' t, x = .returned (.tuple #[.agg cs'.toArray, .bool true]) ∧ lastT ts = some t ∧ RepT w' [] t cs')) ∧ Below w.heap.size w w' := by
  have HT := Lib.hid h
  obtain ⟨aE, cE, aN, cN, aD, cD, aT, cT, aM, cM, aP, cP, rfl, -, -, -, h4, -, -⟩ := h
  have HB0 := Lib.hid ((((Below.refl w.heap.size w).alloc (Nat.le_refl _) (.cells #[.slice aE es.length cE, .slice aN (nds es).length cN, .slice aD (rks es).length cD, .slice aT ts.length cT, .slice aM (ndsT ts).length cM, .slice aP (rksT ts).length cP] 30)).alloc (by simp) (.cells #[.int .i64 0, .string ⟨#[]⟩, .slice none 0 0, .slice none 0 0] 33)))
  have BX := Lib.hid ((Mem.Blk.new w 30 #[.slice aE es.length cE, .slice aN (nds es).length cN, .slice aD (rks es).length cD, .slice aT ts.length cT, .slice aM (ndsT ts).length cM, .slice aP (rksT ts).length cP]).alloc (.cells #[.int .i64 0, .string ⟨#[]⟩, .slice none 0 0, .slice none 0 0] 33))
  have BY := Lib.hid (Mem.Blk.new (w.alloc (.cells #[.slice aE es.length cE, .slice aN (nds es).length cN, .slice aD (rks es).length cD, .slice aT ts.length cT, .slice aM (ndsT ts).length cM, .slice aP (rksT ts).length cP] 30)) 33 #[.int .i64 0, .string ⟨#[]⟩, .slice none 0 0, .slice none 0 0])
  rw [show (w.alloc (.cells #[.slice aE es.length cE, .slice aN (nds es).length cN, .slice aD (rks es).length cD, .slice aT ts.length cT, .slice aM (ndsT ts).length cM, .slice aP (rksT ts).length cP] 30)).heap.size = w.heap.size + 1 by simp] at BY
  have HR := Lib.hid hr
  have H4 := Lib.hid h4
  clear hr h4
  rcases Nat.eq_zero_or_pos ts.length with hz | hz
  · have hno : lastT ts = none := by
      rw [List.length_eq_zero_iff.1 hz]; rfl
    have HNO := Lib.hid hno
    have hz' : ((ts.length : Int) == 0) = true := by rw [hz]; rfl
    clear hno H4 hz
    go_enter Try.func18, Try.ntmps18
    go_upto_region 1 with (fail)
    generalize (w.alloc (.cells #[.slice aE es.length cE, .slice aN (nds es).length cN, .slice aD (rks es).length cD, .slice aT ts.length cT, .slice aM (ndsT ts).length cM, .slice aP (rksT ts).length cP] 30)).alloc (.cells #[.int .i64 0, .string ⟨#[]⟩, .slice none 0 0, .slice none 0 0] 33) = v at *
    have t0 : v.cell? ⟨w.heap.size, 0, none⟩ = _ := BX.out.cell 0
    have t1 : v.cell? ⟨w.heap.size, 1, none⟩ = _ := BX.out.cell 1
    have t2 : v.cell? ⟨w.heap.size, 2, none⟩ = _ := BX.out.cell 2
    have t3 : v.cell? ⟨w.heap.size, 3, none⟩ = _ := BX.out.cell 3
    have t4 : v.cell? ⟨w.heap.size, 4, none⟩ = _ := BX.out.cell 4
    have t5 : v.cell? ⟨w.heap.size, 5, none⟩ = _ := BX.out.cell 5
    simp only [List.getElem?_toArray, List.getElem?_cons_zero, List.getElem?_cons_succ] at t0 t1 t2 t3 t4 t5
    obtain ⟨z0, z1, z2, z3, y0, y1, y2, y3⟩ := blk4 BY.out
    go_wp2_with fail
    exact bodyPost_ret (by simp [results, Try.results18, go_sem, z0, z1, z2, z3]) rfl ⟨.inl ⟨rfl, HNO.out⟩, below_set4 HB0.out (Nat.le_add_right _ 1)⟩
  · obtain ⟨k, hk⟩ : ∃ k, ts.length = k + 1 := ⟨ts.length - 1, by omega⟩
    obtain ⟨t, ht⟩ : ∃ t, ts[k]? = some t := ⟨_, List.getElem?_eq_getElem (by omega)⟩
    have HL := Lib.hid (lastT_of hk ht)
    have HC := Lib.hid (fun W (hW : Below w.heap.size w W) => treeRight_any (HT.out.kept (Kept.of_below hW [])) k ht (HR.out t (List.mem_of_getElem? ht)))
    obtain ⟨bt, ot, xt, ct, rfl, -, -, hxt, hRt, -, hct⟩ := H4.out.at k (by omega)
    obtain rfl : t = xt := by rw [ht] at hxt; injection hxt
    have HRT := Lib.hid (show RepT w [] t ct from hRt)
    obtain ⟨o5, e5, x5, t5, p5, l5, r5, p6, l6, r6, -, rfl, -⟩ := hRt.inv
    have HCT : Hid (∀ j c, [.int .i64 o5, .string e5, .slice p5 l5 r5, .slice p6 l6 r6][j]? = some c → w.cell? ⟨bt, ot + k * 4 + j, none⟩ = some c) := hct
    have hkb : k < 1000 := by omega
    clear hxt hRt hct ht H4
    have hw : (ts.length : Int) - 1 = (k : Int) := by omega
    have hk0 : ¬ ((ts.length : Int) = 0) := by omega
    have hk1 : ((ts.length : Int) == 0) = false := beq_eq_false_iff_ne.2 hk0
    have hk2 : (0 : Int) ≤ (k : Int) := by omega
    have hk3 : (k : Int) < (ts.length : Int) := by omega
    clear hz hk
    go_enter Try.func18, Try.ntmps18
    go_upto_region 1 with (fail)
    generalize (w.alloc (.cells #[.slice aE es.length cE, .slice aN (nds es).length cN, .slice aD (rks es).length cD, .slice (some ⟨bt, ot, none⟩) ts.length cT, .slice aM (ndsT ts).length cM, .slice aP (rksT ts).length cP] 30)).alloc (.cells #[.int .i64 0, .string ⟨#[]⟩, .slice none 0 0, .slice none 0 0] 33) = v at *
    have t0 : v.cell? ⟨w.heap.size, 0, none⟩ = _ := BX.out.cell 0
    have t1 : v.cell? ⟨w.heap.size, 1, none⟩ = _ := BX.out.cell 1
    have t2 : v.cell? ⟨w.heap.size, 2, none⟩ = _ := BX.out.cell 2
    have t3 : v.cell? ⟨w.heap.size, 3, none⟩ = _ := BX.out.cell 3
    have t4 : v.cell? ⟨w.heap.size, 4, none⟩ = _ := BX.out.cell 4
    have t5 : v.cell? ⟨w.heap.size, 5, none⟩ = _ := BX.out.cell 5
    simp only [List.getElem?_toArray, List.getElem?_cons_zero, List.getElem?_cons_succ] at t0 t1 t2 t3 t4 t5
    obtain ⟨z0, z1, z2, z3, y0, y1, y2, y3⟩ := blk4 BY.out
    go_wp2_with fail
    go_at_call 10
    (with_reducible refine (HC.out v HB0.out).mono ?_)
    rintro y w1 ⟨rfl, b1⟩
    have HB1 := Lib.hid (HB0.out.trans (b1.mono HB0.out.size))
    have BX1 := Lib.hid (BX.out.below b1)
    have BY1 := Lib.hid (BY.out.below b1)
    have HRT1 := Lib.hid (RepT.kept (HRT.out.less (X' := [w.heap.size + 1]) (fun b hb hm => by rw [List.mem_singleton] at hm; omega)) (Kept.of_below HB1.out _))
    clear b1 HC t0 t1 t2 t3 t4 t5 z0 z1 z2 z3 y0 y1 y2 y3
    have t3 : w1.cell? ⟨w.heap.size, 3, none⟩ = _ := BX1.out.cell 3
    simp only [List.getElem?_toArray, List.getElem?_cons_zero, List.getElem?_cons_succ] at t3
    obtain ⟨z0, z1, z2, z3, y0, y1, y2, y3⟩ := blk4 BY1.out
    cases hrt : rT t
    · have HNO : Hid (lastT ts = none) := by show _ = _; rw [HL.out, hrt]; rfl
      clear hrt HL HCT
      go_wp2_with fail
      exact bodyPost_ret (by simp [results, Try.results18, go_sem, z0, z1, z2, z3]) rfl ⟨.inl ⟨rfl, HNO.out⟩, below_set4 HB1.out (Nat.le_add_right _ 1)⟩
    · have HYES : Hid (lastT ts = some t) := by show _ = _; rw [HL.out, hrt]; rfl
      have v0 : w1.cell? ⟨bt, ot + k * 4, none⟩ = some (.int .i64 o5) := cell_up (HCT.out 0 _ rfl) HB1.out
      have v1 : w1.cell? ⟨bt, ot + k * 4 + 1, none⟩ = some (.string e5) := cell_up (HCT.out 1 _ rfl) HB1.out
      have v2 : w1.cell? ⟨bt, ot + k * 4 + 2, none⟩ = some (.slice p5 l5 r5) := cell_up (HCT.out 2 _ rfl) HB1.out
      have v3 : w1.cell? ⟨bt, ot + k * 4 + 3, none⟩ = some (.slice p6 l6 r6) := cell_up (HCT.out 3 _ rfl) HB1.out
      clear hrt HL HCT
      go_wp2_with fail
      obtain ⟨n1, n2, n3⟩ := simp_fin HB1.out BY1.out HRT1.out
      exact bodyPost_ret (by simp [results, Try.results18, go_sem, z0, z1, z2, z3]) rfl ⟨.inr ⟨_, t, rfl, HYES.out, n1⟩, n2⟩
end Go.Proofs.Ytjpkljkmignnjaa
