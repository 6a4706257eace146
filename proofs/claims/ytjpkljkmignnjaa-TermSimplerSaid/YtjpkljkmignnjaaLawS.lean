/- The walk of TermSimple, for any leaves and knots. -/
import Derived.Test.YtjpkljkmignnjaaLaw
import Derived.Test.YtjpkljkmignnjaaRefS
import Derived.Test.YtjpkljkmignnjaaTreeR
import Derived.Test.YtjpkljkmignnjaaSameS
import Derived.Test.YtjpkljkmignnjaaBuildB
namespace Go.Proofs.Ytjpkljkmignnjaa
set_option linter.unusedVariables false
set_option linter.unusedSimpArgs false
open Go.RowKit
theorem great_any (a a' : Option Addr) (len cap len' cap' : Nat) (w : World) : Calls Try.prog 6 #[.slice a len cap, .slice a' len' cap'] w fun e w' => e = .returned (.bool (decide (60 < len ∨ 60 < len'))) ∧ w = w' := by
  by_cases h : 60 < len
  · have e : decide (60 < len ∨ 60 < len') = true := decide_eq_true (.inl h)
    rw [e]
    have h' : (60 : Int) < (len : Int) := by omega
    clear e
    go_enter Try.func6, Try.ntmps6
    go_wp2_with fail
    go_ret
    exact ⟨rfl, rfl⟩
  · have h' : ¬ (60 : Int) < (len : Int) := by omega
    by_cases h2 : 60 < len'
    · have e : decide (60 < len ∨ 60 < len') = true := decide_eq_true (.inr h2)
      rw [e]
      have h2' : (60 : Int) < (len' : Int) := by omega
      clear e
      go_enter Try.func6, Try.ntmps6
      go_wp2_with fail
      go_ret
      exact ⟨rfl, rfl⟩
    · have e : decide (60 < len ∨ 60 < len') = false := decide_eq_false (by omega)
      rw [e]
      have h2' : ¬ (60 : Int) < (len' : Int) := by omega
      clear e
      go_enter Try.func6, Try.ntmps6
      go_wp2_with fail
      go_ret
      exact ⟨rfl, rfl⟩
theorem TreeIs.less {w : World} {X X' : List Nat} {es : List Ex} {ts : List Te} {cs : List Value} (h : TreeIs w X es ts cs) (k : ∀ b, b < w.heap.size → b ∈ X' → b ∈ X) : TreeIs w X' es ts cs := by
  obtain ⟨aE, cE, aN, cN, aD, cD, aT, cT, aM, cM, aP, cP, e, h1, h2, h3, h4, h5, h6⟩ := h
  exact ⟨aE, cE, aN, cN, aD, cD, aT, cT, aM, cM, aP, cP, e, h1.less k, h2.less k, h3.less k, h4.less k, h5.less k, h6.less k⟩
theorem topT_no {t : Te} (h : rT t = false) : topT t = t := by unfold topT; rw [h]; rfl
theorem topT_yes {t : Te} (h : rT t = true) : topT t = sT t := by unfold topT; rw [h]; rfl
set_option maxRecDepth 100000 in
set_option maxHeartbeats 4000000 in
theorem termSimple_any (lfs : List Lf) (kns : List Kn) (a a' : Option Addr) (len cap len' cap' : Nat) (w : World) (h1 : SlR lfK w [] lfs a len cap) (h2 : SlR knK w [] kns a' len' cap') :
    Calls Try.prog 3 #[.slice a len cap, .slice a' len' cap'] w fun e w' => e = .returned (.bool true) ∧ Below w.heap.size w w' := by
  have HBU := Lib.hid (build_any lfs kns a a' len cap len' cap' w h1 h2)
  clear h1 h2
  go_enter Try.func3, Try.ntmps3
  go_wp2_with fail
  go_at_call 6
  (with_reducible refine (great_any _ _ _ _ _ _ _).mono ?_)
  rintro e w' ⟨rfl, rfl⟩
  by_cases hg : 60 < len ∨ 60 < len'
  · rw [decide_eq_true hg]
    clear hg HBU
    go_wp2_with fail
    go_at_call 7
    (with_reducible refine (awake_any _).mono ?_)
    rintro e w1 ⟨rfl, b1⟩
    have HB1 := Lib.hid b1
    clear b1
    go_wp2_with fail
    go_ret
    exact ⟨rfl, HB1.out⟩
  · rw [decide_eq_false hg]
    clear hg
    go_wp2_with fail
    go_at_call 8
    (with_reducible refine HBU.out.mono ?_)
    rintro e w1 ⟨⟨es, ts, cs, rfl, hT, -, hlt, -, hrk⟩, b1⟩
    obtain ⟨aE, cE, aN, cN, aD, cD, aT, cT, aM, cM, aP, cP, hcs, -⟩ := id hT
    have HB0 := Lib.hid (b1.alloc b1.size (.cells #[.slice aE es.length cE, .slice aN (nds es).length cN, .slice aD (rks es).length cD, .slice aT ts.length cT, .slice aM (ndsT ts).length cM, .slice aP (rksT ts).length cP] 30))
    have HT0 := Lib.hid (hT.kept (Kept.alloc w1 (.cells #[.slice aE es.length cE, .slice aN (nds es).length cN, .slice aD (rks es).length cD, .slice aT ts.length cT, .slice aM (ndsT ts).length cM, .slice aP (rksT ts).length cP] 30) []))
    have BT0 := Lib.hid (Mem.Blk.new w1 30 #[.slice aE es.length cE, .slice aN (nds es).length cN, .slice aD (rks es).length cD, .slice aT ts.length cT, .slice aM (ndsT ts).length cM, .slice aP (rksT ts).length cP])
    have HRK := Lib.hid hrk
    have HTL := Lib.hid hlt
    subst hcs
    clear hT b1 hrk HBU hlt
    go_wp2_with fail
    generalize w1.alloc (.cells #[.slice aE es.length cE, .slice aN (nds es).length cN, .slice aD (rks es).length cD, .slice aT ts.length cT, .slice aM (ndsT ts).length cM, .slice aP (rksT ts).length cP] 30) = v at *
    generalize w1.heap.size = tb at *
    go_loopw [6] (fun i wr => ∃ (k : Nat), i = .int .i64 (k : Nat) ∧ k ≤ ts.length ∧ Hid (Below w.heap.size w wr ∧ Mem.Blk wr tb 30 #[.slice aE es.length cE, .slice aN (nds es).length cN, .slice aD (rks es).length cD, .slice aT ts.length cT, .slice aM (ndsT ts).length cM, .slice aP (rksT ts).length cP] ∧ TreeIs wr [] es ts [.slice aE es.length cE, .slice aN (nds es).length cN, .slice aD (rks es).length cD, .slice aT ts.length cT, .slice aM (ndsT ts).length cM, .slice aP (rksT ts).length cP])) (fun i _ => ts.length - (intOf i).toNat)
    case atStart => exact ⟨0, rfl, Nat.zero_le _, HB0.out, BT0.out, HT0.out⟩
    case round =>
      clear HB0 BT0 HT0
      obtain ⟨k, rfl, hk, HR⟩ := hrel
      have d3 : wr.cell? ⟨tb, 3, none⟩ = some (.slice aT ts.length cT) := HR.out.2.1.cell 3
      by_cases hlt : k < ts.length
      · have hk' : (k : Int) < (ts.length : Int) := by omega
        have htl : ts.length ≤ 60 := HTL.out
        obtain ⟨t, ht⟩ : ∃ t, ts[k]? = some t := ⟨_, List.getElem?_eq_getElem hlt⟩
        have hr : t.rk ≤ 121 := HRK.out t (List.mem_of_getElem? ht)
        obtain ⟨_, _, _, _, _, _, _, _, _, _, _, _, e, -, -, -, h4, h5, -⟩ := id HR.out.2.2
        injection e with _ e
        injection e with _ e
        injection e with _ e
        injection e with e3 e
        injection e with e4 e
        injection e3 with e3 _ e3'
        injection e4 with e4 _ e4'
        subst e3; subst e3'; subst e4; subst e4'
        clear e
        have hlM : (ndsT ts).length = ts.length := by unfold ndsT; rw [List.length_map]
        obtain ⟨bm, om, xm, cm, rfl, -, -, hxm, ⟨rfl, -⟩, -, hcm⟩ := h5.at k (by omega)
        obtain ⟨bt, ot, xt, ct, rfl, -, -, hxt, hRt, -, hct⟩ := h4.at k hlt
        obtain rfl : xm = ndI t.nd := by
          unfold ndsT at hxm
          rw [List.getElem?_map, ht] at hxm
          injection hxm with h; exact h.symm
        obtain rfl : t = xt := by rw [ht] at hxt; injection hxt
        have d4 : wr.cell? ⟨tb, 4, none⟩ = some (.slice (some ⟨bm, om, none⟩) (ndsT ts).length cM) := HR.out.2.1.cell 4
        have g0 : wr.cell? ⟨bm, om + k, none⟩ = some (.int .i64 (ndI t.nd)) := by have := hcm 0 _ rfl; simpa [i64K] using this
        have i0 : (0 : Int) ≤ (k : Int) := by omega
        have i2 : (k : Int) < ((ndsT ts).length : Int) := by omega
        have n1 := ndI_bd t.nd
        have HRT := Lib.hid (show RepT wr [] t ct from hRt)
        have HT := Lib.hid ht
        have HCT : Hid (∀ j c, ct[j]? = some c → wr.cell? ⟨bt, ot + k * 4 + j, none⟩ = some c) := hct
        clear h4 h5 hxm hxt hRt hct hcm ht hlM
        generalize hnd : ndI t.nd = nd at *
        have HND := Lib.hid hnd
        clear hnd
        generalize hlm : (ndsT ts).length = lM at *
        by_cases hn : 200 < nd
        · have HF := HR
          clear HR
          go_wp2_with fail
          go_roundw
          case rel => exact ⟨k + 1, by go_num, by omega, HF.out⟩
          case measure => simp [intOf]; omega
        · obtain ⟨o5, e5, x5, t5, p5, l5, r5, p6, l6, r6, -, rfl, -⟩ := HRT.out.inv
          have v0 : wr.cell? ⟨bt, ot + k * 4, none⟩ = some (.int .i64 o5) := HCT.out 0 _ rfl
          have v1 : wr.cell? ⟨bt, ot + k * 4 + 1, none⟩ = some (.string e5) := HCT.out 1 _ rfl
          have v2 : wr.cell? ⟨bt, ot + k * 4 + 2, none⟩ = some (.slice p5 l5 r5) := HCT.out 2 _ rfl
          have v3 : wr.cell? ⟨bt, ot + k * 4 + 3, none⟩ = some (.slice p6 l6 r6) := HCT.out 3 _ rfl
          go_wp2_with fail
          go_at_call 9
          (with_reducible refine (simpleTop_any t [] _ _ HRT.out (fun b hb => absurd hb List.not_mem_nil) (by omega)).mono ?_)
          rintro y w2 ⟨⟨cs', rfl, hrep⟩, b2⟩
          have HB2 := Lib.hid b2
          have HRP := Lib.hid hrep
          obtain ⟨o7, e7, x7, t7, p7, l7, r7, p8, l8, r8, -, rfl, -⟩ := hrep.inv
          have d3' := cell_up d3 b2
          have v0' := cell_up v0 b2
          have v1' := cell_up v1 b2
          have v2' := cell_up v2 b2
          have v3' := cell_up v3 b2
          clear d3 d4 g0 v0 v1 v2 v3 b2 hrep
          go_upto_region 9 with (fail)
          have hb7 := (Below.refl w2.heap.size w2).alloc (Nat.le_refl _) (.cells #[.int .i64 o7, .string e7, .slice p7 l7 r7, .slice p8 l8 r8] 33)
          have B7 := Lib.hid (Mem.Blk.new w2 33 #[.int .i64 o7, .string e7, .slice p7 l7 r7, .slice p8 l8 r8])
          have HB3 := Lib.hid (HB2.out.trans (hb7.mono HB2.out.size))
          have HRP3 := Lib.hid (HRP.out.kept (Kept.of_below hb7 _))
          have d3 := cell_up d3' hb7
          have v0 := cell_up v0' hb7
          have v1 := cell_up v1' hb7
          have v2 := cell_up v2' hb7
          have v3 := cell_up v3' hb7
          have hz : w2.heap.size < (w2.alloc (.cells #[.int .i64 o7, .string e7, .slice p7 l7 r7, .slice p8 l8 r8] 33)).heap.size := by simp
          clear d3' v0' v1' v2' v3' hb7 HRP HB2
          generalize w2.alloc (.cells #[.int .i64 o7, .string e7, .slice p7 l7 r7, .slice p8 l8 r8] 33) = w3 at *
          generalize w2.heap.size = z7 at *
          go_upto_region 10 with (fail)
          have hb8 := (Below.refl w3.heap.size w3).alloc (Nat.le_refl _) (.cells #[.int .i64 o5, .string e5, .slice p5 l5 r5, .slice p6 l6 r6] 33)
          have B8 := Lib.hid (Mem.Blk.new w3 33 #[.int .i64 o5, .string e5, .slice p5 l5 r5, .slice p6 l6 r6])
          have B74 := Lib.hid (B7.out.below hb8)
          have HB4 := Lib.hid (HB3.out.trans (hb8.mono HB3.out.size))
          have HRP4 := Lib.hid ((HRP3.out.less (X' := [w3.heap.size]) (fun b hb hm => by rw [List.mem_singleton] at hm; omega)).kept (Kept.of_below hb8 _))
          have HRT4 := Lib.hid ((RepT.kept (HRT.out.less (X' := [w3.heap.size]) (fun b hb hm => by rw [List.mem_singleton] at hm; have := HB3.out.size; omega)) (Kept.of_below HB4.out _)))
          have HZ : Hid (z7 ≠ w3.heap.size ∧ tb ≠ w3.heap.size ∧ w.heap.size ≤ w3.heap.size) := by
            have e1 := HB3.out.size
            have e2 := HR.out.2.1.lt
            have e3 := HR.out.1.size
            refine ⟨?_, ?_, ?_⟩ <;> omega
          have hT4 := (HR.out.2.2.less (X' := [w3.heap.size]) (fun b hb hm => by rw [List.mem_singleton] at hm; have := HB3.out.size; omega)).kept (Kept.of_below HB4.out _)
          have HT4 := Lib.hid hT4
          have BT4 := Lib.hid (HR.out.2.1.below HB4.out)
          have HBW := Lib.hid (HR.out.1.trans (HB4.out.mono HR.out.1.size))
          clear d3 v0 v1 v2 v3 hb8 HRP3 HB3 B7 hz HR HCT HB4 hT4
          generalize w3.alloc (.cells #[.int .i64 o5, .string e5, .slice p5 l5 r5, .slice p6 l6 r6] 33) = w4 at *
          generalize w3.heap.size = z8 at *
          have c0 : w4.cell? ⟨tb, 0, none⟩ = _ := BT4.out.cell 0
          have c1 : w4.cell? ⟨tb, 1, none⟩ = _ := BT4.out.cell 1
          have c2 : w4.cell? ⟨tb, 2, none⟩ = _ := BT4.out.cell 2
          have c3 : w4.cell? ⟨tb, 3, none⟩ = _ := BT4.out.cell 3
          have c4 : w4.cell? ⟨tb, 4, none⟩ = _ := BT4.out.cell 4
          have c5 : w4.cell? ⟨tb, 5, none⟩ = _ := BT4.out.cell 5
          simp only [List.getElem?_toArray, List.getElem?_cons_zero, List.getElem?_cons_succ] at c0 c1 c2 c3 c4 c5
          have HC := Lib.hid (treeRight_any HT4.out.less' k HT.out (by omega))
          go_wp2_with fail
          go_at_call 10
          (with_reducible refine HC.out.mono ?_)
          rintro y w5 ⟨rfl, b5⟩
          have B75 := Lib.hid (B74.out.below b5)
          have B85 := Lib.hid (B8.out.below b5)
          have HRP5 := Lib.hid (HRP4.out.kept (Kept.of_below b5 _))
          have HRT5 := Lib.hid (RepT.kept HRT4.out (Kept.of_below b5 _))
          have BT5 := Lib.hid (BT4.out.below b5)
          have HT5 := Lib.hid (HT4.out.kept (Kept.of_below b5 _))
          have HB5 := Lib.hid (HBW.out.trans (b5.mono HBW.out.size))
          clear b5 HC c0 c1 c2 c3 c4 c5 HBW HT4 BT4 HRT4 HRP4 B8 B74
          obtain ⟨s0, s1, s2, s3, -, -, -, -⟩ := blk4 B75.out
          obtain ⟨q0, q1, q2, q3, y0, y1, y2, y3⟩ := blk4 B85.out
          cases hrt : rT t
          · have HRP6 := Lib.hid (show RepT w5 [] t _ by rw [← topT_no hrt]; exact HRP5.out.less (fun b _ hm => by cases hm))
            have HRT6 := Lib.hid (HRT5.out.less (X' := []) (fun b _ hm => by cases hm))
            have HX : Hid (Below w.heap.size w w5 ∧ Mem.Blk w5 tb 30 _ ∧ TreeIs w5 [] es ts _) := ⟨HB5.out, BT5.out, HT5.out.less'⟩
            clear hrt HB5 BT5 HT5 HRP5 HRT5 B75 B85 y0 y1 y2 y3
            go_wp2_with fail
            go_at_call 12
            (with_reducible refine (rsame_any _ _ (Nat.le_refl _) _ _ _ _ HRP6.out HRT6.out).mono ?_)
            rintro y w6 ⟨rfl, b6⟩
            rw [eqv_yes rfl]
            have HX6 : Hid (Below w.heap.size w w6 ∧ Mem.Blk w6 tb 30 _ ∧ TreeIs w6 [] es ts _) := ⟨HX.out.1.trans (b6.mono HX.out.1.size), HX.out.2.1.below b6, HX.out.2.2.kept (Kept.of_below b6 _)⟩
            clear b6 HX HRP6 HRT6 s0 s1 s2 s3 q0 q1 q2 q3
            go_wp2_with fail
            go_roundw
            case rel => exact ⟨k + 1, by go_num, by omega, HX6.out⟩
            case measure => simp [intOf]; omega
          · have HCS := Lib.hid (refSimple_any t.rk t (Nat.le_refl _) (rT_built hrt) [z8] _ w5 HRT5.out (fun b hb => by rw [List.mem_singleton] at hb; subst hb; exact B85.out.lt))
            have HRP6 := Lib.hid (show RepT w5 [z8] (sT t) _ by rw [← topT_yes hrt]; exact HRP5.out)
            clear hrt HRP5 HRT5 s0 s1 s2 s3 y0 y1 y2 y3
            go_wp2_with fail
            go_at_call 11
            (with_reducible refine HCS.out.mono ?_)
            rintro y w6 ⟨⟨cs6, rfl, hrep⟩, b6⟩
            have B76 := Lib.hid (B75.out.below b6)
            have B86 := Lib.hid (B85.out.below b6)
            have HRP7 := Lib.hid (HRP6.out.kept (Kept.of_below b6 _))
            have BT6 := Lib.hid (BT5.out.below b6)
            have HT6 := Lib.hid (HT5.out.kept (Kept.of_below b6 _))
            have HB6 := Lib.hid (HB5.out.trans (b6.mono HB5.out.size))
            have HRS := Lib.hid hrep
            obtain ⟨o9, e9, x9, t9, p9, l9, r9, p0, l0, r0, -, rfl, -⟩ := hrep.inv
            clear hrep b6 HCS HRP6 B75 B85 HT5 BT5 HB5 q0 q1 q2 q3
            obtain ⟨q0, q1, q2, q3, y0, y1, y2, y3⟩ := blk4 B86.out
            go_upto_region 12 with (fail)
            have k4 : Kept [z8] w6 ((((w6.setCell ⟨z8, 0, none⟩ (.int .i64 o9)).setCell ⟨z8, 1, none⟩ (.string e9)).setCell ⟨z8, 2, none⟩ (.slice p9 l9 r9)).setCell ⟨z8, 3, none⟩ (.slice p0 l0 r0)) :=
              (((Kept.setCell w6 (by simp) _).trans (Kept.setCell _ (by simp) _)).trans (Kept.setCell _ (by simp) _)).trans (Kept.setCell _ (by simp) _)
            have HX : Hid (Below w.heap.size w ((((w6.setCell ⟨z8, 0, none⟩ (.int .i64 o9)).setCell ⟨z8, 1, none⟩ (.string e9)).setCell ⟨z8, 2, none⟩ (.slice p9 l9 r9)).setCell ⟨z8, 3, none⟩ (.slice p0 l0 r0)) ∧ Mem.Blk ((((w6.setCell ⟨z8, 0, none⟩ (.int .i64 o9)).setCell ⟨z8, 1, none⟩ (.string e9)).setCell ⟨z8, 2, none⟩ (.slice p9 l9 r9)).setCell ⟨z8, 3, none⟩ (.slice p0 l0 r0)) tb 30 _ ∧ TreeIs ((((w6.setCell ⟨z8, 0, none⟩ (.int .i64 o9)).setCell ⟨z8, 1, none⟩ (.string e9)).setCell ⟨z8, 2, none⟩ (.slice p9 l9 r9)).setCell ⟨z8, 3, none⟩ (.slice p0 l0 r0)) [] es ts _) :=
              ⟨(((HB6.out.setCell HZ.out.2.2 _).setCell HZ.out.2.2 _).setCell HZ.out.2.2 _).setCell HZ.out.2.2 _, (((BT6.out.far HZ.out.2.1 _).far HZ.out.2.1 _).far HZ.out.2.1 _).far HZ.out.2.1 _, (HT6.out.kept k4).less'⟩
            have B77 := Lib.hid ((((B76.out.far (p := ⟨z8, 0, none⟩) HZ.out.1 (.int .i64 o9)).far (p := ⟨z8, 1, none⟩) HZ.out.1 (.string e9)).far (p := ⟨z8, 2, none⟩) HZ.out.1 (.slice p9 l9 r9)).far (p := ⟨z8, 3, none⟩) HZ.out.1 (.slice p0 l0 r0))
            have B87 := Lib.hid ((((B86.out.set_ 0 (.int .i64 o9)).set_ 1 (.string e9)).set_ 2 (.slice p9 l9 r9)).set_ 3 (.slice p0 l0 r0))
            have HRP8 := Lib.hid ((HRP7.out.kept k4).less (X' := []) (fun b _ hm => by cases hm))
            have HRS8 := Lib.hid ((HRS.out.kept k4).less (X' := []) (fun b _ hm => by cases hm))
            clear k4 q0 q1 q2 q3 y0 y1 y2 y3 B76 B86 HRP7 HRS BT6 HT6 HB6
            generalize (((w6.setCell ⟨z8, 0, none⟩ (.int .i64 o9)).setCell ⟨z8, 1, none⟩ (.string e9)).setCell ⟨z8, 2, none⟩ (.slice p9 l9 r9)).setCell ⟨z8, 3, none⟩ (.slice p0 l0 r0) = w7 at *
            obtain ⟨s0, s1, s2, s3, -, -, -, -⟩ := blk4 B77.out
            obtain ⟨q0, q1, q2, q3, -, -, -, -⟩ := blk4 (show Mem.Blk w7 z8 33 #[.int .i64 o9, .string e9, .slice p9 l9 r9, .slice p0 l0 r0] from B87.out)
            go_wp2_with fail
            go_at_call 12
            (with_reducible refine (rsame_any _ _ (Nat.le_refl _) _ _ _ _ HRP8.out HRS8.out).mono ?_)
            rintro y w8 ⟨rfl, b8⟩
            rw [eqv_yes rfl]
            have HX6 : Hid (Below w.heap.size w w8 ∧ Mem.Blk w8 tb 30 _ ∧ TreeIs w8 [] es ts _) := ⟨HX.out.1.trans (b8.mono HX.out.1.size), HX.out.2.1.below b8, HX.out.2.2.kept (Kept.of_below b8 _)⟩
            clear b8 HX HRP8 HRS8 s0 s1 s2 s3 q0 q1 q2 q3
            go_wp2_with fail
            go_roundw
            case rel => exact ⟨k + 1, by go_num, by omega, HX6.out⟩
            case measure => simp [intOf]; omega
      · have hk' : ¬ (k : Int) < (ts.length : Int) := by omega
        have HB := Lib.hid HR.out.1
        clear HR hlt
        go_wp2_with fail
        go_at_call 7
        (with_reducible refine (awake_any _).mono ?_)
        rintro e w2 ⟨rfl, b2⟩
        have HB2 := Lib.hid (HB.out.trans (b2.mono HB.out.size))
        clear b2
        go_wp2_with fail
        go_ret
        exact ⟨rfl, HB2.out⟩
end Go.Proofs.Ytjpkljkmignnjaa
