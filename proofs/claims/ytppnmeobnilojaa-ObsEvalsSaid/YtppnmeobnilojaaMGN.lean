/- A part of the proof: Rknd, TreeE, Grt21, Lst, Told, Rsee, RvS, one behind another. -/
import Derived.Test.YtppnmeobnilojaaMGA
import Derived.Test.YtppnmeobnilojaaMGB
import Derived.Test.YtppnmeobnilojaaMGC
import Derived.Test.YtppnmeobnilojaaMGD
import Derived.Test.YtppnmeobnilojaaMGE
import Derived.Test.YtppnmeobnilojaaMGF
import Derived.Test.YtppnmeobnilojaaMGG
import Derived.Test.YtppnmeobnilojaaMGH
import Derived.Test.YtppnmeobnilojaaMGI
import Derived.Test.YtppnmeobnilojaaMGJ
import Derived.Test.YtppnmeobnilojaaMGK
import Derived.Test.YtppnmeobnilojaaMGL
import Derived.Test.YtppnmeobnilojaaMGM
/- The contract of ref21.Kind and of a built tree's RightExpr; condition: the expression is built as it must be. -/
namespace Go.Proofs.Ytppnmeobnilojaa
set_option linter.unusedVariables false
set_option linter.unusedSimpArgs false
open Go.RowKit
theorem ar_le3 (op : Int) : ar op ≤ 3 := by
  unfold ar
  repeat' split
  all_goals omega
theorem take_snoc {α : Type} {l : List α} {k : Nat} {x : α} (h : l[k]? = some x) : l.take (k + 1) = l.take k ++ [x] := by
  rw [List.take_add_one, h]; rfl
theorem rkOf_small {op : Int} {l : List Int} (h : op ≤ 4) : rkOf op l = 1 := by unfold rkOf; rw [if_pos h]
theorem rkOf_one {op : Int} {l : List Int} (h : ¬ op ≤ 4) (h2 : op ≤ 10 ∨ op = 20) : rkOf op l = if l.all (fun k => decide (k = 1)) then 1 else 0 := by
  unfold rkOf
  rw [if_neg h]
  cases hb : l.all (fun k => decide (k = 1)) with
  | true => simp [h2]
  | false =>
    have h3 : ¬ (17 ≤ op ∧ op ≤ 19) := by omega
    have h4 : ¬ op = 21 := by omega
    simp
    rw [if_neg (by omega), if_neg (by omega)]
theorem rkOf_cmp {op : Int} {l : List Int} (h1 : 11 ≤ op) (h2 : op ≤ 16) : rkOf op l = if l.all (fun k => decide (k = 1)) then 2 else 0 := by
  unfold rkOf
  rw [if_neg (by omega), if_neg (by omega)]
  cases hb : l.all (fun k => decide (k = 1)) with
  | true => simp [h1, h2]
  | false =>
    simp
    rw [if_neg (by omega), if_neg (by omega)]
theorem rkOf_log {op : Int} {l : List Int} (h1 : 17 ≤ op) (h2 : op ≤ 19) : rkOf op l = if l.all (fun k => decide (k = 2)) then 2 else 0 := by
  unfold rkOf
  rw [if_neg (by omega), if_neg (by omega), if_neg (by omega)]
  cases hb : l.all (fun k => decide (k = 2)) with
  | true => simp [h1, h2]
  | false =>
    simp
    intro h; omega
theorem rkOf_if {l : List Int} : rkOf 21 l = if l.getD 0 0 = 2 ∧ l.getD 1 0 = l.getD 2 0 then l.getD 1 0 else 0 := by
  unfold rkOf
  rw [if_neg (by omega), if_neg (by omega), if_neg (by omega), if_neg (by omega)]
  simp
set_option maxRecDepth 100000 in
set_option maxHeartbeats 4000000 in
theorem rkind_any : ∀ (r : Nat) (e : Ex), e.rk ≤ r → bE e = true → ∀ (cs : List Value) (w : World), RepE w [] e cs →
    Calls Try.prog 25 #[.agg cs.toArray] w fun x w' => x = .returned (.int .i64 (kE e)) ∧ Below w.heap.size w w' := by
  intro r
  induction r with
  | zero => intro e h; have := e.rk_pos; omega
  | succ r ih =>
    intro e hr hb cs w hR
    obtain ⟨op, no, nm, args, a, len, cap, rfl, rfl, i1, i2, i3, hS⟩ := hR.inv
    obtain ⟨g1, -, g3⟩ := bE_inv hb
    obtain ⟨f1, f2, f3⟩ := hS.facts
    obtain ⟨o1, o2⟩ := ar_op (by omega : 0 ≤ ar op)
    have HI : Hid (∀ (k : Nat) e1, args[k]? = some e1 → ∀ cs1 W, RepE W [] e1 cs1 → Calls Try.prog 25 #[.agg cs1.toArray] W fun x w' => x = .returned (.int .i64 (kE e1)) ∧ Below W.heap.size W w') := by
      intro k e1 hk cs1 W hR1
      exact ih e1 (by have := Ex.rk_lt (op := op) (n := no) (nm := nm) hk; omega) (g3 e1 (List.mem_of_getElem? hk)) cs1 W hR1
    have hle : len ≤ 3 := by have := ar_le3 op; omega
    have HBD : Hid (∀ x, I64 (kE x)) := fun x => by have := kE_bd x.rk x (Nat.le_refl _); unfold I64; omega
    have HKM : Hid (kE (.mk op no nm args) = rkOf op (args.map kE)) := by show _ = _; rw [kE_mk, rkOf_eq (by rw [List.length_map]; exact g1)]
    have HL3 : Hid (op = 21 → len = 3) := fun h => by subst h; rw [show ar 21 = 3 by decide] at g1; omega
    have HB0 := Lib.hid ((Below.refl w.heap.size w).alloc (Nat.le_refl _) (.cells #[.int .i64 op, .int .i64 no, .string nm, .slice a len cap] 46))
    have BX := Lib.hid (Mem.Blk.new w 46 #[.int .i64 op, .int .i64 no, .string nm, .slice a len cap])
    have HSS := Lib.hid (hS.kept (Kept.of_below HB0.out []))
    have HL := Lib.hid f1
    rw [HKM.out]
    clear ih hr hR hS i1 i2 i3 f1 g1 g3 hb HKM
    generalize hRR : rkOf op (args.map kE) = R
    have HR := Lib.hid hRR
    clear hRR
    go_enter Try.func25, Try.ntmps25
    go_upto_region 1 with (fail)
    generalize w.alloc (.cells #[.int .i64 op, .int .i64 no, .string nm, .slice a len cap] 46) = v at *
    obtain ⟨c0, c1, c2, c3, -, -, -, -⟩ := blk4 BX.out
    go_wp2_with fail
    go_loopw [3, 4] (fun s i wr => ∃ (k : Nat) (csl : List (List Value)), i = .int .i64 (k : Nat) ∧ k ≤ len ∧ Hid (Below v.heap.size v wr) ∧ Hid (Gro i64K 3 v.heap.size wr [] ((args.take k).map kE) s csl)) (fun _ i _ => len - (intOf i).toNat)
    case atStart => exact ⟨0, [], rfl, Nat.zero_le _, Below.refl _ _, Gro.start _ _ (Nat.le_refl _) (fun b h => by cases h)⟩
    case round =>
      obtain ⟨k, csl, rfl, hk, HB, HG⟩ := hrel
      have c0' := cell_up c0 HB.out
      have c3' := cell_up c3 HB.out
      have HSw := Lib.hid (HSS.out.kept (Kept.of_below HB.out []))
      clear c0 c1 c2 c3 HSS
      by_cases hlt : k < len
      · obtain ⟨b, o, cop, cn, cnm, cargs, ca, clen, ccap, rfl, -, -, hxe, j1, j2, j3, hSc, v0, v1, v2, v3⟩ := HSw.out.at k hlt
        have j1' : (k : Int) < (len : Int) := by omega
        have j0' : (0 : Int) ≤ (k : Int) := by omega
        have HXE := Lib.hid hxe
        have HSC := Lib.hid (RepE.mk' j1 j2 j3 hSc)
        have HC := Lib.hid (HI.out k _ HXE.out _ _ HSC.out)
        have HTK := Lib.hid (show (args.take (k + 1)).map kE = (args.take k).map kE ++ [kE (Ex.mk cop cn cnm cargs)] by rw [take_snoc HXE.out, List.map_append]; rfl)
        have HLT := Lib.hid (show ((args.take k).map kE).length = k by rw [List.length_map, List.length_take, HL.out]; omega)
        have HXB := Lib.hid (HBD.out (Ex.mk cop cn cnm cargs))
        clear hxe j1 j2 j3 hSc HSC HXE HI
        generalize kE (Ex.mk cop cn cnm cargs) = kc at *
        generalize (args.take k).map kE = L at *
        go_wp2_with fail
        go_at_call 25
        (with_reducible refine HC.out.mono ?_)
        rintro y w2 ⟨rfl, bb⟩
        have HB2 := Lib.hid (HB.out.trans (bb.mono HB.out.size))
        have HG2 := Lib.hid ((HG.out.below bb).alloc (.cells #[.int .i64 kc] 3))
        have HBA := Lib.hid (HB2.out.alloc HB2.out.size (.cells #[.int .i64 kc] 3))
        clear bb HC HG v0 v1 v2 v3 c0' c3' HB
        go_wp2_with (at_builtin; refine ap_row infoI Try.underlying27 rfl (by decide) rfl (.tmp 12) (.tmp 19) rfl rfl HG2.out.own HG2.out.room ⟨w2.heap.size, 0, none⟩ 1 1 [.int .i64 kc] rfl rfl (lit_cells_at w2 #[.int .i64 kc] 3 _ rfl) (by simp [Value.oneCell']) (by have := HLT.out; unfold maxLen; omega) (by have := HLT.out; omega) ?_; intro v' w' o' g' h'; have HG3 := Lib.hid (HG2.out.push (cs := [.int .i64 kc]) ⟨rfl, HXB.out⟩ o' g' h'); have HB3 := Lib.hid (HBA.out.grown g' HBA.out.size (fun b hb => (own_lt HG2.out.own hb).1)); clear o' g' h')
        go_roundw
        case rel => exact ⟨k + 1, _, by go_num, by omega, HB3.out, by rw [HTK.out]; exact HG3.out⟩
        case measure => simp [intOf]; omega
      · have hk' : ¬ (k : Int) < (len : Int) := by omega
        obtain rfl : k = len := by omega
        obtain ⟨aL, cL, rfl, hSL⟩ := HG.out.slR
        have hTK : (args.take k).map kE = args.map kE := by rw [List.take_of_length_le (by have := HL.out; omega)]
        rw [hTK] at hSL
        have hln : (args.map kE).length = k := by rw [List.length_map, HL.out]
        rw [hTK]
        rw [hln] at hSL ⊢
        have HSL := Lib.hid hSL
        have HA := Lib.hid (fun q => all_any (args.map kE) aL k cL q wr HSL.out)
        have HF := Lib.hid (HB0.out.trans (HB.out.mono HB0.out.size))
        clear hTK HG hSL HSw HI HBD HL HB HB0
        generalize args.map kE = L at *
        by_cases h4 : op ≤ 4
        · rw [rkOf_small h4] at HR
          obtain rfl := HR.out
          clear HR
          go_wp2_with fail
          go_ret
          exact ⟨rfl, HF.out⟩
        · by_cases h10 : op ≤ 10
          · rw [rkOf_one h4 (.inl h10)] at HR
            have HA := Lib.hid (HA.out 1)
            generalize L.all (fun k => decide (k = 1)) = B at *
            have h11 : ¬ 11 ≤ op := by omega
            have h17 : ¬ 17 ≤ op := by omega
            have h21 : (op == 21) = false := beq_eq_false_iff_ne.2 (by omega)
            cases B
            · rw [if_neg (by decide)] at HR
              obtain rfl := HR.out
              clear HR
              go_wp2_with fail
              go_at_call 59
              (with_reducible refine HA.out.mono ?_)
              rintro y w3 ⟨rfl, rfl⟩
              go_wp2_with fail
              go_region
              go_wp2_with fail
              go_ret
              exact ⟨rfl, HF.out.drew⟩
            · rw [if_pos rfl] at HR
              obtain rfl := HR.out
              clear HR
              go_wp2_with fail
              go_at_call 59
              (with_reducible refine HA.out.mono ?_)
              rintro y w3 ⟨rfl, rfl⟩
              go_wp2_with fail
              go_ret
              exact ⟨rfl, HF.out⟩
          · by_cases h20 : op = 20
            · subst h20
              rw [rkOf_one h4 (.inr rfl)] at HR
              have HA := Lib.hid (HA.out 1)
              generalize L.all (fun k => decide (k = 1)) = B at *
              cases B
              · rw [if_neg (by decide)] at HR
                obtain rfl := HR.out
                clear HR
                go_wp2_with fail
                go_at_call 59
                (with_reducible refine HA.out.mono ?_)
                rintro y w3 ⟨rfl, rfl⟩
                go_wp2_with fail
                go_region
                go_wp2_with fail
                go_ret
                exact ⟨rfl, HF.out.drew⟩
              · rw [if_pos rfl] at HR
                obtain rfl := HR.out
                clear HR
                go_wp2_with fail
                go_at_call 59
                (with_reducible refine HA.out.mono ?_)
                rintro y w3 ⟨rfl, rfl⟩
                go_wp2_with fail
                go_ret
                exact ⟨rfl, HF.out⟩
            · have h20' : (op == 20) = false := beq_eq_false_iff_ne.2 h20
              by_cases h16 : op ≤ 16
              · have h11 : 11 ≤ op := by omega
                rw [rkOf_cmp h11 h16] at HR
                have HA := Lib.hid (HA.out 1)
                generalize L.all (fun k => decide (k = 1)) = B at *
                have h17 : ¬ 17 ≤ op := by omega
                have h21 : (op == 21) = false := beq_eq_false_iff_ne.2 (by omega)
                cases B
                · rw [if_neg (by decide)] at HR
                  obtain rfl := HR.out
                  clear HR
                  go_wp2_with fail
                  go_at_call 59
                  (with_reducible refine HA.out.mono ?_)
                  rintro y w3 ⟨rfl, rfl⟩
                  go_wp2_with fail
                  go_region
                  go_wp2_with fail
                  go_ret
                  exact ⟨rfl, HF.out.drew⟩
                · rw [if_pos rfl] at HR
                  obtain rfl := HR.out
                  clear HR
                  go_wp2_with fail
                  go_at_call 59
                  (with_reducible refine HA.out.mono ?_)
                  rintro y w3 ⟨rfl, rfl⟩
                  go_wp2_with fail
                  go_ret
                  exact ⟨rfl, HF.out⟩
              · have h11 : 11 ≤ op := by omega
                by_cases h21 : op = 21
                · subst h21
                  obtain rfl := HL3.out rfl
                  rw [rkOf_if] at HR
                  obtain ⟨b, o, x0, cs0, rfl, -, -, hx0, ⟨rfl, -⟩, -, hc0⟩ := HSL.out.at 0 (by omega)
                  obtain ⟨b', o', x1, cs1, e1, -, -, hx1, ⟨rfl, -⟩, -, hc1⟩ := HSL.out.at 1 (by omega)
                  injection e1 with e1; injection e1 with e1 e2; subst e1; subst e2
                  obtain ⟨b', o', x2, cs2, e1, -, -, hx2, ⟨rfl, -⟩, -, hc2⟩ := HSL.out.at 2 (by omega)
                  injection e1 with e1; injection e1 with e1 e2; subst e1; subst e2
                  have u0 : wr.cell? ⟨b, o, none⟩ = some (.int .i64 x0) := by have := hc0 0 _ rfl; simpa [i64K] using this
                  have u1 : wr.cell? ⟨b, o + 1, none⟩ = some (.int .i64 x1) := by have := hc1 0 _ rfl; simpa [i64K] using this
                  have u2 : wr.cell? ⟨b, o + 2, none⟩ = some (.int .i64 x2) := by have := hc2 0 _ rfl; simpa [i64K] using this
                  have e0 : L.getD 0 0 = x0 := by rw [List.getD_eq_getElem?_getD, hx0]; rfl
                  have e1 : L.getD 1 0 = x1 := by rw [List.getD_eq_getElem?_getD, hx1]; rfl
                  have e2 : L.getD 2 0 = x2 := by rw [List.getD_eq_getElem?_getD, hx2]; rfl
                  rw [e0, e1, e2] at HR
                  clear hc0 hc1 hc2 e0 e1 e2 hx0 hx1 hx2 HSL HA h4 h10 h16 h11 h20
                  by_cases hk0 : x0 = 2
                  · subst hk0
                    by_cases hk1 : x1 = x2
                    · subst hk1
                      rw [if_pos ⟨rfl, rfl⟩] at HR
                      obtain rfl := HR.out
                      clear HR
                      go_wp2_with fail
                      go_region
                      go_wp2_with fail
                      go_ret
                      exact ⟨rfl, HF.out.drew⟩
                    · have hk1' : (x1 == x2) = false := beq_eq_false_iff_ne.2 hk1
                      rw [if_neg (fun h => hk1 h.2)] at HR
                      obtain rfl := HR.out
                      clear HR
                      go_wp2_with fail
                      go_region
                      go_wp2_with fail
                      go_ret
                      exact ⟨rfl, HF.out.drew⟩
                  · have hk0' : (x0 == 2) = false := beq_eq_false_iff_ne.2 hk0
                    rw [if_neg (fun h => hk0 h.1)] at HR
                    obtain rfl := HR.out
                    clear HR
                    go_wp2_with fail
                    go_region
                    go_wp2_with fail
                    go_ret
                    exact ⟨rfl, HF.out.drew⟩
                · have h19 : op ≤ 19 := by omega
                  have h17 : 17 ≤ op := by omega
                  have h21 : (op == 21) = false := beq_eq_false_iff_ne.2 h21
                  rw [rkOf_log h17 h19] at HR
                  have HA := Lib.hid (HA.out 2)
                  generalize L.all (fun k => decide (k = 2)) = B at *
                  cases B
                  · rw [if_neg (by decide)] at HR
                    obtain rfl := HR.out
                    clear HR
                    go_wp2_with fail
                    go_at_call 59
                    (with_reducible refine HA.out.mono ?_)
                    rintro y w3 ⟨rfl, rfl⟩
                    go_wp2_with fail
                    go_region
                    go_wp2_with fail
                    go_ret
                    exact ⟨rfl, HF.out.drew⟩
                  · rw [if_pos rfl] at HR
                    obtain rfl := HR.out
                    clear HR
                    go_wp2_with fail
                    go_at_call 59
                    (with_reducible refine HA.out.mono ?_)
                    rintro y w3 ⟨rfl, rfl⟩
                    go_wp2_with fail
                    go_ret
                    exact ⟨rfl, HF.out⟩
end Go.Proofs.Ytppnmeobnilojaa

/- The contract of a built tree's RightExpr; condition: the expression is not more than 999 deep. -/
namespace Go.Proofs.Ytppnmeobnilojaa
set_option linter.unusedVariables false
set_option linter.unusedSimpArgs false
open Go.RowKit
theorem rE_parts (t : Ex) (hr : t.rk < 1000) : rE t = (decide (ndI t.nd ≤ 200) && decide (rkI t.nd t.rk ≤ 16) && bE t) := by
  have : rE t = (decide (t.nd ≤ 200 ∧ t.rk ≤ 16) && bE t) := rfl
  rw [this]
  congr 1
  rw [Bool.eq_iff_iff]
  simp only [Bool.and_eq_true, decide_eq_true_eq]
  unfold ndI rkI
  by_cases h : t.nd < 1000
  · rw [if_pos h, if_pos h]; omega
  · rw [if_neg h, if_neg h]; omega
set_option maxRecDepth 100000 in
set_option maxHeartbeats 1000000 in
theorem treeRightE_any {w : World} {es : List Ex} {ts : List Te} {cs : List Value} (h : TreeIs w [] es ts cs) (i : Nat) {t : Ex} (ht : es[i]? = some t) (hr : t.rk < 1000) :
    Calls Try.prog 24 #[.agg cs.toArray, .int .i64 (i : Nat)] w fun x w' => x = .returned (.bool (rE t)) ∧ Below w.heap.size w w' := by
  have hit : i < es.length := (List.getElem?_eq_some_iff.1 ht).1
  obtain ⟨aE, cE, aN, cN, aD, cD, aT, cT, aM, cM, aP, cP, rfl, h1, h2, h3, h4, h5, h6⟩ := h
  have hlM : (nds es).length = es.length := by unfold nds; rw [List.length_map]
  have hlP : (rks es).length = es.length := by unfold rks; rw [List.length_map]
  obtain ⟨bm, om, xm, cm, rfl, hbm, -, hxm, ⟨rfl, -⟩, -, hcm⟩ := h2.at i (by omega)
  obtain ⟨bp, op, xp, cp, rfl, hbp, -, hxp, ⟨rfl, -⟩, -, hcp⟩ := h3.at i (by omega)
  obtain ⟨bt, ot, xt, ct, rfl, hbt, -, hxt, hRt, -, hct⟩ := h1.at i hit
  obtain rfl : xm = ndI t.nd := by
    unfold nds at hxm
    rw [List.getElem?_map, ht] at hxm
    injection hxm with h; exact h.symm
  obtain rfl : xp = rkI t.nd t.rk := by
    unfold rks at hxp
    rw [List.getElem?_map, ht] at hxp
    injection hxp with h; exact h.symm
  obtain rfl : t = xt := by rw [ht] at hxt; injection hxt
  have HRT := Lib.hid (rE_parts t hr)
  have HW0 := Lib.hid ((Below.refl w.heap.size w).alloc (Nat.le_refl _) (.cells #[.slice (some ⟨bt, ot, none⟩) es.length cE, .slice (some ⟨bm, om, none⟩) (nds es).length cN, .slice (some ⟨bp, op, none⟩) (rks es).length cD, .slice aT ts.length cT, .slice aM (ndsT ts).length cM, .slice aP (rksT ts).length cP] 30))
  have BX := Mem.Blk.new w 30 #[.slice (some ⟨bt, ot, none⟩) es.length cE, .slice (some ⟨bm, om, none⟩) (nds es).length cN, .slice (some ⟨bp, op, none⟩) (rks es).length cD, .slice aT ts.length cT, .slice aM (ndsT ts).length cM, .slice aP (rksT ts).length cP]
  have HC : Hid (∀ W, Below w.heap.size w W → Calls Try.prog 58 #[.agg ct.toArray] W fun x w' => x = .returned (.bool (bE t)) ∧ Below W.heap.size W w') := fun W hW => rbuiltExpr_any t.rk t (Nat.le_refl _) ct W (RepE.kept hRt (Kept.of_below hW []))
  obtain ⟨o5, n5, e5, x5, p5, l5, r5, -, rfl, -⟩ := hRt.inv
  have s3 := Lib.hid (BX.cell 0)
  have s4 := Lib.hid (BX.cell 1)
  have s5 := Lib.hid (BX.cell 2)
  have g0 := Lib.hid (cell_up (show w.cell? ⟨bm, om + i, none⟩ = some (.int .i64 (ndI t.nd)) by have := hcm 0 _ rfl; simpa [i64K] using this) HW0.out)
  have g1 := Lib.hid (cell_up (show w.cell? ⟨bp, op + i, none⟩ = some (.int .i64 (rkI t.nd t.rk)) by have := hcp 0 _ rfl; simpa [i64K] using this) HW0.out)
  have v0 := Lib.hid (cell_up (show w.cell? ⟨bt, ot + i * 4, none⟩ = some (.int .i64 o5) from hct 0 _ rfl) HW0.out)
  have v1 := Lib.hid (cell_up (show w.cell? ⟨bt, ot + i * 4 + 1, none⟩ = some (.int .i64 n5) from hct 1 _ rfl) HW0.out)
  have v2 := Lib.hid (cell_up (show w.cell? ⟨bt, ot + i * 4 + 2, none⟩ = some (.string e5) from hct 2 _ rfl) HW0.out)
  have v3 := Lib.hid (cell_up (show w.cell? ⟨bt, ot + i * 4 + 3, none⟩ = some (.slice p5 l5 r5) from hct 3 _ rfl) HW0.out)
  have i0 : (0 : Int) ≤ (i : Int) := by omega
  have i1 : (i : Int) < (es.length : Int) := by omega
  have i2 : (i : Int) < ((nds es).length : Int) := by omega
  have i3 : (i : Int) < ((rks es).length : Int) := by omega
  have n1 := ndI_bd t.nd
  have n2 := rkI_bd t.nd t.rk hr
  clear hcm hcp hct hRt BX h1 h2 h3 h4 h5 h6 hxm hxp ht hr hlM hlP hxt hbm hbp hbt hit
  generalize ndI t.nd = a at *
  generalize rkI t.nd t.rk = b at *
  rw [HRT.out]
  generalize (nds es).length = lN at *
  generalize (ndsT ts).length = lM at *
  generalize (rks es).length = lD at *
  generalize (rksT ts).length = lP at *
  by_cases ha : a ≤ 200
  · by_cases hb : b ≤ 16
    · have e1 : (decide (a ≤ 200) && decide (b ≤ 16) && bE t) = bE t := by simp [ha, hb]
      rw [e1]
      go_enter Try.func24, Try.ntmps24
      go_upto_region 1 with (fail)
      generalize w.alloc (.cells #[.slice (some ⟨bt, ot, none⟩) es.length cE, .slice (some ⟨bm, om, none⟩) lN cN, .slice (some ⟨bp, op, none⟩) lD cD, .slice aT ts.length cT, .slice aM lM cM, .slice aP lP cP] 30) = v at *
      have s3' := s3.out
      have s4' := s4.out
      have s5' := s5.out
      have g0' := g0.out
      have g1' := g1.out
      have v0' := v0.out
      have v1' := v1.out
      have v2' := v2.out
      have v3' := v3.out
      simp only [List.getElem?_toArray, List.getElem?_cons_zero, List.getElem?_cons_succ] at s3' s4' s5'
      clear s3 s4 s5 g0 g1 v0 v1 v2 v3
      go_wp2_with fail
      go_at_call 58
      (with_reducible refine (HC.out v HW0.out).mono ?_)
      rintro y w1 ⟨rfl, b1⟩
      have HW1 := Lib.hid (HW0.out.trans (b1.mono HW0.out.size))
      clear b1
      go_wp2_with fail
      go_ret
      exact ⟨rfl, HW1.out⟩
    · have e1 : (decide (a ≤ 200) && decide (b ≤ 16) && bE t) = false := by simp [hb]
      rw [e1]
      go_enter Try.func24, Try.ntmps24
      go_upto_region 1 with (fail)
      generalize w.alloc (.cells #[.slice (some ⟨bt, ot, none⟩) es.length cE, .slice (some ⟨bm, om, none⟩) lN cN, .slice (some ⟨bp, op, none⟩) lD cD, .slice aT ts.length cT, .slice aM lM cM, .slice aP lP cP] 30) = v at *
      have s3' := s3.out
      have s4' := s4.out
      have s5' := s5.out
      have g0' := g0.out
      have g1' := g1.out
      have v0' := v0.out
      have v1' := v1.out
      have v2' := v2.out
      have v3' := v3.out
      simp only [List.getElem?_toArray, List.getElem?_cons_zero, List.getElem?_cons_succ] at s3' s4' s5'
      clear s3 s4 s5 g0 g1 v0 v1 v2 v3
      go_wp2_with fail
      go_ret
      exact ⟨rfl, HW0.out⟩
  · have e1 : (decide (a ≤ 200) && decide (b ≤ 16) && bE t) = false := by simp [ha]
    rw [e1]
    go_enter Try.func24, Try.ntmps24
    go_upto_region 1 with (fail)
    generalize w.alloc (.cells #[.slice (some ⟨bt, ot, none⟩) es.length cE, .slice (some ⟨bm, om, none⟩) lN cN, .slice (some ⟨bp, op, none⟩) lD cD, .slice aT ts.length cT, .slice aM lM cM, .slice aP lP cP] 30) = v at *
    have s3' := s3.out
    have s4' := s4.out
    have s5' := s5.out
    have g0' := g0.out
    have g1' := g1.out
    have v0' := v0.out
    have v1' := v1.out
    have v2' := v2.out
    have v3' := v3.out
    simp only [List.getElem?_toArray, List.getElem?_cons_zero, List.getElem?_cons_succ] at s3' s4' s5'
    clear s3 s4 s5 g0 g1 v0 v1 v2 v3
    go_wp2_with fail
    go_ret
    exact ⟨rfl, HW0.out⟩
end Go.Proofs.Ytppnmeobnilojaa

/- Are there more nodes than are asked of? A tree that was built, in a block of its own. -/
namespace Go.Proofs.Ytppnmeobnilojaa
set_option linter.unusedVariables false
set_option linter.unusedSimpArgs false
open Go.RowKit
theorem great21_any (a a' : Option Addr) (len cap len' cap' : Nat) (w : World) : Calls Try.prog 13 #[.slice a len cap, .slice a' len' cap'] w fun e w' => e = .returned (.bool (decide (60 < len ∨ 60 < len'))) ∧ w = w' := by
  by_cases h : 60 < len
  · have e : decide (60 < len ∨ 60 < len') = true := decide_eq_true (.inl h)
    rw [e]
    have h' : (60 : Int) < (len : Int) := by omega
    clear e
    go_enter Try.func13, Try.ntmps13
    go_wp2_with fail
    go_ret
    exact ⟨rfl, rfl⟩
  · have h' : ¬ (60 : Int) < (len : Int) := by omega
    by_cases h2 : 60 < len'
    · have e : decide (60 < len ∨ 60 < len') = true := decide_eq_true (.inr h2)
      rw [e]
      have h2' : (60 : Int) < (len' : Int) := by omega
      clear e
      go_enter Try.func13, Try.ntmps13
      go_wp2_with fail
      go_ret
      exact ⟨rfl, rfl⟩
    · have e : decide (60 < len ∨ 60 < len') = false := decide_eq_false (by omega)
      rw [e]
      have h2' : ¬ (60 : Int) < (len' : Int) := by omega
      clear e
      go_enter Try.func13, Try.ntmps13
      go_wp2_with fail
      go_ret
      exact ⟨rfl, rfl⟩
end Go.Proofs.Ytppnmeobnilojaa

/- The contracts of law22.great and last. -/
namespace Go.Proofs.Ytppnmeobnilojaa
set_option linter.unusedVariables false
set_option linter.unusedSimpArgs false
open Go.RowKit
set_option maxHeartbeats 1000000 in
theorem great22_any (day : Int) (a a' : Option Addr) (len cap len' cap' : Nat) (w : World) : Calls Try.prog 38 #[.slice a len cap, .agg #[.int .i64 day, .slice a' len' cap']] w fun e w' => e = .returned (.bool (decide (60 < len ∨ 60 < len'))) ∧ Below w.heap.size w w' := by
  have HB := Lib.hid ((Below.refl w.heap.size w).alloc (Nat.le_refl _) (.cells #[.int .i64 day, .slice a' len' cap'] 58))
  have BX := Lib.hid (Mem.Blk.new w 58 #[.int .i64 day, .slice a' len' cap'])
  by_cases h : 60 < len
  · have e : decide (60 < len ∨ 60 < len') = true := decide_eq_true (.inl h)
    rw [e]
    have h' : (60 : Int) < (len : Int) := by omega
    clear e
    go_enter Try.func38, Try.ntmps38
    go_upto_region 1 with (fail)
    generalize w.alloc (.cells #[.int .i64 day, .slice a' len' cap'] 58) = v at *
    obtain ⟨c0, c1, -, -⟩ := BX.out.two
    go_wp2_with fail
    go_ret
    exact ⟨rfl, HB.out⟩
  · have h' : ¬ (60 : Int) < (len : Int) := by omega
    by_cases h2 : 60 < len'
    · have e : decide (60 < len ∨ 60 < len') = true := decide_eq_true (.inr h2)
      rw [e]
      have h2' : (60 : Int) < (len' : Int) := by omega
      clear e
      go_enter Try.func38, Try.ntmps38
      go_upto_region 1 with (fail)
      generalize w.alloc (.cells #[.int .i64 day, .slice a' len' cap'] 58) = v at *
      obtain ⟨c0, c1, -, -⟩ := BX.out.two
      go_wp2_with fail
      go_ret
      exact ⟨rfl, HB.out⟩
    · have e : decide (60 < len ∨ 60 < len') = false := decide_eq_false (by omega)
      rw [e]
      have h2' : ¬ (60 : Int) < (len' : Int) := by omega
      clear e
      go_enter Try.func38, Try.ntmps38
      go_upto_region 1 with (fail)
      generalize w.alloc (.cells #[.int .i64 day, .slice a' len' cap'] 58) = v at *
      obtain ⟨c0, c1, -, -⟩ := BX.out.two
      go_wp2_with fail
      go_ret
      exact ⟨rfl, HB.out⟩
/-- What is built lies in no block of one nought. -/
theorem rep_off {w : World} {g : Nat} {ty : TypeId} (hB : Mem.Blk w g ty #[.int .i64 0, .int .i64 0, .string ⟨#[]⟩, .slice none 0 0]) : ∀ (r : Nat) (e : Ex), e.rk ≤ r → bE e = true → ∀ (cs : List Value), RepE w [] e cs → RepE w [g] e cs := by
  intro r
  induction r with
  | zero => intro e h; have := e.rk_pos; omega
  | succ r ih =>
    intro e hr hb cs hR
    obtain ⟨op, n, nm, args, a, len, cap, rfl, rfl, ho, hn, hs, hS⟩ := hR.inv
    obtain ⟨-, -, g3⟩ := bE_inv hb
    refine RepE.mk' ho hn hs ?_
    have hf := hS.facts.1
    obtain ⟨vs, h1, h2, h3⟩ := hS
    refine ⟨vs, h1, fun i e cs he hc => ih e (by have := Ex.rk_lt (op := op) (n := n) (nm := nm) he; omega) (g3 e (List.mem_of_getElem? he)) cs (h2 i e cs he hc), h3.1, h3.2.1, h3.2.2.1, fun hp => ?_⟩
    obtain ⟨b, o, ha, hbl, -, hc⟩ := h3.2.2.2 hp
    refine ⟨b, o, ha, hbl, fun hm => ?_, hc⟩
    rw [List.mem_singleton] at hm
    subst hm
    have he0 : args[0]? = some (args[0]'(by omega)) := List.getElem?_eq_getElem (by omega)
    have hv0 : vs[0]? = some (vs[0]'(by omega)) := List.getElem?_eq_getElem (by omega)
    have hr0 := h2 0 _ _ he0 hv0
    have hb0 := g3 _ (List.mem_of_getElem? he0)
    obtain ⟨op', n', nm', args', a', len', cap', e1, e2, -⟩ := hr0.inv
    rw [e2] at hv0
    rw [e1] at hb0
    have k0 := (hc 0 _ hv0).2 0 _ rfl
    have k3 := (hc 0 _ hv0).2 3 _ rfl
    rw [hB.cell] at k0 k3
    have hlt : o + 0 * 4 + 3 < 4 := (Array.getElem?_eq_some_iff.1 k3).1
    obtain rfl : o = 0 := by omega
    have k0' : some (Value.int .i64 0) = some (Value.int .i64 op') := k0
    injection k0' with k0'; injection k0' with _ k0'
    obtain ⟨q1, -, -⟩ := bE_inv hb0
    have := (ar_op (by rw [q1]; omega : 0 ≤ ar op')).1
    omega
/-- The last one, if it is right and has a kind. -/
def LstR (w' : World) (x : Ending) : Prop := (∃ cs : List Value, cs = [.int .i64 0, .int .i64 0, .string ⟨#[]⟩, .slice none 0 0] ∧ x = .returned (.tuple #[.agg cs.toArray, .bool false])) ∨
  (∃ e cs, x = .returned (.tuple #[.agg cs.toArray, .bool true]) ∧ RepE w' [] e cs ∧ rE e = true ∧ kE e ≠ 0 ∧ e.rk ≤ 60)
set_option maxRecDepth 100000 in
set_option maxHeartbeats 2000000 in
theorem last22_any (lfs : List Lf) (a : Option Addr) (len cap : Nat) (w : World) (h1 : SlR lfK w [] lfs a len cap) : Calls Try.prog 42 #[.slice a len cap] w fun x w' => LstR w' x ∧ Below w.heap.size w w' := by
  have hal := (Below.refl w.heap.size w).alloc (Nat.le_refl _) (.cells #[.int .i64 0, .int .i64 0, .string ⟨#[]⟩, .slice none 0 0] 46)
  have HB0 := Lib.hid hal
  have BR := Lib.hid (Mem.Blk.new w 46 #[.int .i64 0, .int .i64 0, .string ⟨#[]⟩, .slice none 0 0])
  have HBU := Lib.hid (build_any lfs [] a none len cap 0 0 _ (h1.kept (Kept.of_below hal [])) (SlR.nil _ _ _))
  clear h1 hal
  go_enter Try.func42, Try.ntmps42
  go_upto_region 1 with (fail)
  generalize w.alloc (.cells #[.int .i64 0, .int .i64 0, .string ⟨#[]⟩, .slice none 0 0] 46) = v0 at *
  go_wp2_with fail
  go_at_call 15
  (with_reducible refine HBU.out.mono ?_)
  rintro e w1 ⟨⟨es, ts, cs, rfl, hT, hle, -, hrk, -⟩, b1⟩
  obtain ⟨aE, cE, aN, cN, aD, cD, aT, cT, aM, cM, aP, cP, hcs, -⟩ := id hT
  have hal := (Below.refl w1.heap.size w1).alloc (Nat.le_refl _) (.cells #[.slice aE es.length cE, .slice aN (nds es).length cN, .slice aD (rks es).length cD, .slice aT ts.length cT, .slice aM (ndsT ts).length cM, .slice aP (rksT ts).length cP] 30)
  have b2 := b1.trans (hal.mono b1.size)
  have HB1 := Lib.hid (HB0.out.trans (b2.mono HB0.out.size))
  have BR1 := Lib.hid (BR.out.below b2)
  have HT0 := Lib.hid (hT.kept (Kept.of_below hal []))
  have BT0 := Lib.hid (Mem.Blk.new w1 30 #[.slice aE es.length cE, .slice aN (nds es).length cN, .slice aD (rks es).length cD, .slice aT ts.length cT, .slice aM (ndsT ts).length cM, .slice aP (rksT ts).length cP])
  have HRK := Lib.hid hrk
  subst hcs
  clear hT b1 b2 hrk HBU hal HB0 BR
  go_upto_region 2 with (fail)
  generalize w1.alloc (.cells #[.slice aE es.length cE, .slice aN (nds es).length cN, .slice aD (rks es).length cD, .slice aT ts.length cT, .slice aM (ndsT ts).length cM, .slice aP (rksT ts).length cP] 30) = v at *
  generalize w1.heap.size = tb at *
  have c0 : v.cell? ⟨tb, 0, none⟩ = _ := BT0.out.cell 0
  have c1 : v.cell? ⟨tb, 1, none⟩ = _ := BT0.out.cell 1
  have c2 : v.cell? ⟨tb, 2, none⟩ = _ := BT0.out.cell 2
  have c3 : v.cell? ⟨tb, 3, none⟩ = _ := BT0.out.cell 3
  have c4 : v.cell? ⟨tb, 4, none⟩ = _ := BT0.out.cell 4
  have c5 : v.cell? ⟨tb, 5, none⟩ = _ := BT0.out.cell 5
  simp only [List.getElem?_toArray, List.getElem?_cons_zero, List.getElem?_cons_succ] at c0 c1 c2 c3 c4 c5
  by_cases h0 : es.length = 0
  · have h0' : ((es.length : Nat) : Int) = 0 := by omega
    have h0b : (((es.length : Nat) : Int) == 0) = true := by rw [h0']; rfl
    obtain ⟨t0, t1, t2, t3, t4, t5, t6, t7⟩ := blk4 BR1.out
    have hm9 := BR1.out.lt
    have HFN := Lib.hid (ret4E (X := []) (e := .mk 0 0 ⟨#[]⟩ []) (c0 := .int .i64 0) (c1 := .int .i64 0) (c2 := .string ⟨#[]⟩) (c3 := .slice none 0 0) HB1.out (Nat.le_refl _) BR1.out (RepE.mk' (by unfold I64; omega) (by unfold I64; omega) (by decide) (SlE.nil _ _)))
    go_wp2_with fail
    generalize (((v.setCell ⟨w.heap.size, 0, none⟩ (.int .i64 0)).setCell ⟨w.heap.size, 1, none⟩ (.int .i64 0)).setCell ⟨w.heap.size, 2, none⟩ (.string ⟨#[]⟩)).setCell ⟨w.heap.size, 3, none⟩ (.slice none 0 0) = W9 at *
    obtain ⟨r0, r1, r2, r3, -, -, -, -⟩ := blk4 HFN.out.2.2
    refine bodyPost_ret (v := .tuple #[.agg #[.int .i64 0, .int .i64 0, .string ⟨#[]⟩, .slice none 0 0], .bool false]) (by simp [results, Try.results42, go_sem, r0, r1, r2, r3]) rfl ⟨.inl ⟨_, rfl, rfl⟩, HFN.out.2.1⟩
  · obtain ⟨m, hm⟩ : ∃ m, es.length = m + 1 := ⟨es.length - 1, by omega⟩
    have h0b : (((es.length : Nat) : Int) == 0) = false := beq_eq_false_iff_ne.2 (by omega)
    obtain ⟨t, ht⟩ : ∃ t, es[m]? = some t := ⟨_, List.getElem?_eq_getElem (by omega)⟩
    have HRt := Lib.hid (HRK.out t (List.mem_of_getElem? ht))
    have HRE := Lib.hid (treeRightE_any HT0.out m ht (by have := HRt.out; omega))
    obtain ⟨_, _, _, _, _, _, _, _, _, _, _, _, e, h4, -⟩ := id HT0.out
    injection e with e3 e
    injection e3 with e3 _ e3'
    subst e3; subst e3'
    clear e
    obtain ⟨bt, ot, xt, ct, rfl, -, -, hxt, hRt, -, hct⟩ := h4.at m (by omega)
    obtain rfl : t = xt := by rw [ht] at hxt; injection hxt
    have HRT := Lib.hid (show RepE v [] t ct from hRt)
    have HQ2 := Lib.hid (fun W (hW : Below v.heap.size v W) (hb : bE t = true) => rkind_any t.rk t (Nat.le_refl _) hb ct W (HRT.out.kept (Kept.of_below hW [])))
    obtain ⟨o5, n5, m5, r5, a5, l5, p5, -, rfl, -, -, -, -⟩ := HRT.out.inv
    have v0 : v.cell? ⟨bt, ot + m * 4, none⟩ = some (.int .i64 o5) := hct 0 _ rfl
    have v1 : v.cell? ⟨bt, ot + m * 4 + 1, none⟩ = some (.int .i64 n5) := hct 1 _ rfl
    have v2 : v.cell? ⟨bt, ot + m * 4 + 2, none⟩ = some (.string m5) := hct 2 _ rfl
    have v3 : v.cell? ⟨bt, ot + m * 4 + 3, none⟩ = some (.slice a5 l5 p5) := hct 3 _ rfl
    have w1' : IntKind.i64.wrap (((es.length : Nat) : Int) - 1) = ((m : Nat) : Int) := by rw [IntWalk.i64_in _ (by omega)]; omega
    have w2' : ((es.length : Nat) : Int) - 1 = ((m : Nat) : Int) := by omega
    have m1 : (m : Int) < (es.length : Int) := by omega
    have m0 : (0 : Int) ≤ (m : Int) := by omega
    clear h4 hxt hRt hct ht hm
    have HBE := Lib.hid (@rE_blt t)
    obtain ⟨re, hre⟩ : ∃ re, re = rE t := ⟨_, rfl⟩
    have HRE' := Lib.hid hre
    rw [← hre] at HRE
    clear hre
    generalize es.length = L at *
    go_wp2_with fail
    go_at_call 24
    (with_reducible refine HRE.out.mono ?_)
    rintro y w3 ⟨rfl, b3⟩
    have HB3 := Lib.hid (HB1.out.trans (b3.mono HB1.out.size))
    have BT3 := Lib.hid (BT0.out.below b3)
    have BR3 := Lib.hid (BR1.out.below b3)
    replace v0 := cell_up v0 b3
    replace v1 := cell_up v1 b3
    replace v2 := cell_up v2 b3
    replace v3 := cell_up v3 b3
    have HR3 := Lib.hid (HRT.out.kept (Kept.of_below b3 []))
    have HW3 := Lib.hid b3
    clear b3 HRE c0 c1 c2 c3 c4 c5 BT0 BR1 HB1 HT0
    have c0 : w3.cell? ⟨tb, 0, none⟩ = _ := BT3.out.cell 0
    have c1 : w3.cell? ⟨tb, 1, none⟩ = _ := BT3.out.cell 1
    have c2 : w3.cell? ⟨tb, 2, none⟩ = _ := BT3.out.cell 2
    have c3 : w3.cell? ⟨tb, 3, none⟩ = _ := BT3.out.cell 3
    have c4 : w3.cell? ⟨tb, 4, none⟩ = _ := BT3.out.cell 4
    have c5 : w3.cell? ⟨tb, 5, none⟩ = _ := BT3.out.cell 5
    simp only [List.getElem?_toArray, List.getElem?_cons_zero, List.getElem?_cons_succ] at c0 c1 c2 c3 c4 c5
    cases re with
    | false =>
      obtain ⟨t0, t1, t2, t3, t4, t5, t6, t7⟩ := blk4 BR3.out
      have hm9 := BR3.out.lt
      have HFN := Lib.hid (ret4E (X := []) (e := .mk 0 0 ⟨#[]⟩ []) (c0 := .int .i64 0) (c1 := .int .i64 0) (c2 := .string ⟨#[]⟩) (c3 := .slice none 0 0) HB3.out (Nat.le_refl _) BR3.out (RepE.mk' (by unfold I64; omega) (by unfold I64; omega) (by decide) (SlE.nil _ _)))
      go_wp2_with fail
      generalize (((w3.setCell ⟨w.heap.size, 0, none⟩ (.int .i64 0)).setCell ⟨w.heap.size, 1, none⟩ (.int .i64 0)).setCell ⟨w.heap.size, 2, none⟩ (.string ⟨#[]⟩)).setCell ⟨w.heap.size, 3, none⟩ (.slice none 0 0) = W9 at *
      obtain ⟨r0, r1, r2, r3, -, -, -, -⟩ := blk4 HFN.out.2.2
      refine bodyPost_ret (v := .tuple #[.agg #[.int .i64 0, .int .i64 0, .string ⟨#[]⟩, .slice none 0 0], .bool false]) (by simp [results, Try.results42, go_sem, r0, r1, r2, r3]) rfl ⟨.inl ⟨_, rfl, rfl⟩, HFN.out.2.1⟩
    | true =>
      have HC := Lib.hid (HQ2.out w3 HW3.out (HBE.out HRE'.out.symm))
      go_wp2_with fail
      go_at_call 25
      (with_reducible refine HC.out.mono ?_)
      rintro y w4 ⟨rfl, b4⟩
      have HB4 := Lib.hid (HB3.out.trans (b4.mono HB3.out.size))
      have BT4 := Lib.hid (BT3.out.below b4)
      have BR4 := Lib.hid (BR3.out.below b4)
      replace v0 := cell_up v0 b4
      replace v1 := cell_up v1 b4
      replace v2 := cell_up v2 b4
      replace v3 := cell_up v3 b4
      have HR4 := Lib.hid (HR3.out.kept (Kept.of_below b4 []))
      clear b4 c0 c1 c2 c3 c4 c5 BT3 BR3 HB3 HC HR3 HW3
      have c0 : w4.cell? ⟨tb, 0, none⟩ = _ := BT4.out.cell 0
      have c1 : w4.cell? ⟨tb, 1, none⟩ = _ := BT4.out.cell 1
      have c2 : w4.cell? ⟨tb, 2, none⟩ = _ := BT4.out.cell 2
      have c3 : w4.cell? ⟨tb, 3, none⟩ = _ := BT4.out.cell 3
      have c4 : w4.cell? ⟨tb, 4, none⟩ = _ := BT4.out.cell 4
      have c5 : w4.cell? ⟨tb, 5, none⟩ = _ := BT4.out.cell 5
      simp only [List.getElem?_toArray, List.getElem?_cons_zero, List.getElem?_cons_succ] at c0 c1 c2 c3 c4 c5
      by_cases hk : kE t = 0
      · rw [hk]
        obtain ⟨t0, t1, t2, t3, t4, t5, t6, t7⟩ := blk4 BR4.out
        have hm9 := BR4.out.lt
        have HFN := Lib.hid (ret4E (X := []) (e := .mk 0 0 ⟨#[]⟩ []) (c0 := .int .i64 0) (c1 := .int .i64 0) (c2 := .string ⟨#[]⟩) (c3 := .slice none 0 0) HB4.out (Nat.le_refl _) BR4.out (RepE.mk' (by unfold I64; omega) (by unfold I64; omega) (by decide) (SlE.nil _ _)))
        go_wp2_with fail
        generalize (((w4.setCell ⟨w.heap.size, 0, none⟩ (.int .i64 0)).setCell ⟨w.heap.size, 1, none⟩ (.int .i64 0)).setCell ⟨w.heap.size, 2, none⟩ (.string ⟨#[]⟩)).setCell ⟨w.heap.size, 3, none⟩ (.slice none 0 0) = W9 at *
        obtain ⟨r0, r1, r2, r3, -, -, -, -⟩ := blk4 HFN.out.2.2
        refine bodyPost_ret (v := .tuple #[.agg #[.int .i64 0, .int .i64 0, .string ⟨#[]⟩, .slice none 0 0], .bool false]) (by simp [results, Try.results42, go_sem, r0, r1, r2, r3]) rfl ⟨.inl ⟨_, rfl, rfl⟩, HFN.out.2.1⟩
      · have hkb : (kE t == 0) = false := beq_eq_false_iff_ne.2 hk
        have HK := Lib.hid hk
        have HFN := Lib.hid (ret4E HB4.out (Nat.le_refl _) BR4.out (rep_off BR4.out t.rk t (Nat.le_refl _) (HBE.out HRE'.out.symm) _ HR4.out))
        obtain ⟨t0, t1, t2, t3, t4, t5, t6, t7⟩ := blk4 BR4.out
        have hm9 := BR4.out.lt
        clear HB4 BR4 HR4 HQ2 hk
        obtain ⟨kt, hkt⟩ : ∃ kt, kt = kE t := ⟨_, rfl⟩
        have HKT := Lib.hid hkt
        rw [← hkt] at hkb ⊢
        clear hkt
        go_wp2_with fail
        generalize (((w4.setCell ⟨w.heap.size, 0, none⟩ (.int .i64 o5)).setCell ⟨w.heap.size, 1, none⟩ (.int .i64 n5)).setCell ⟨w.heap.size, 2, none⟩ (.string m5)).setCell ⟨w.heap.size, 3, none⟩ (.slice a5 l5 p5) = W9 at *
        obtain ⟨r0, r1, r2, r3, -, -, -, -⟩ := blk4 HFN.out.2.2
        refine bodyPost_ret (v := .tuple #[.agg #[.int .i64 o5, .int .i64 n5, .string m5, .slice a5 l5 p5], .bool true]) (by simp [results, Try.results42, go_sem, r0, r1, r2, r3]) rfl ⟨.inr ⟨t, _, rfl, HFN.out.1, HRE'.out.symm, ?_, HRt.out⟩, HFN.out.2.1⟩
        exact HK.out
end Go.Proofs.Ytppnmeobnilojaa

/- The contracts of law22.told, ref22.truth; words for values. -/
namespace Go.Proofs.Ytppnmeobnilojaa
set_option linter.unusedVariables false
set_option linter.unusedSimpArgs false
open Go.RowKit
def wd : Vl → ByteArray | .unk => ⟨#[63]⟩ | .brk => ⟨#[33]⟩ | .num _ => ⟨#[110]⟩ | .tru true => ⟨#[116]⟩ | .tru false => ⟨#[102]⟩
/-- A value by a word and a number. -/
def RetW (v : Vl) (x : Ending) : Prop := x = .returned (.agg #[.string (wd v), .int .i64 v.N])
set_option maxRecDepth 100000 in
set_option maxHeartbeats 2000000 in
theorem told_any (v : Vl) (w : World) : Calls Try.prog 40 #[.agg #[.int .i64 v.K, .int .i64 v.N, .bool v.B], .agg #[.string (wd v), .int .i64 v.N]] w fun x w' => x = .returned (.bool true) ∧ Below w.heap.size w w' := by
  cases v with
  | unk =>
    show Calls _ _ #[.agg #[.int .i64 0, .int .i64 0, .bool false], .agg #[.string ⟨#[63]⟩, .int .i64 0]] _ _
    have hal := ((Below.refl w.heap.size w).alloc (Nat.le_refl _) (.cells #[.int .i64 0, .int .i64 0, .bool false] 73)).alloc (by simp) (.cells #[.string ⟨#[63]⟩, .int .i64 0] 69)
    have B1 := Mem.Blk.new w 73 #[.int .i64 0, .int .i64 0, .bool false]
    have B2 := Mem.Blk.new (w.alloc (.cells #[.int .i64 0, .int .i64 0, .bool false] 73)) 69 #[.string ⟨#[63]⟩, .int .i64 0]
    rw [show (w.alloc (.cells #[.int .i64 0, .int .i64 0, .bool false] 73)).heap.size = w.heap.size + 1 by simp] at B2
    have BA := Lib.hid (B1.alloc (.cells #[.string ⟨#[63]⟩, .int .i64 0] 69))
    have BB := Lib.hid B2
    have HB := Lib.hid hal
    clear hal B1 B2
    go_enter Try.func40, Try.ntmps40
    go_upto_region 1 with (fail)
    generalize (w.alloc (.cells #[.int .i64 0, .int .i64 0, .bool false] 73)).alloc (.cells #[.string ⟨#[63]⟩, .int .i64 0] 69) = v9 at *
    obtain ⟨a0, a1, a2, -, -, -⟩ := blk3 BA.out
    obtain ⟨b0, b1, -, -⟩ := BB.out.two
    go_wp2_with fail
    go_ret
    exact ⟨rfl, HB.out⟩
  | brk =>
    show Calls _ _ #[.agg #[.int .i64 3, .int .i64 0, .bool false], .agg #[.string ⟨#[33]⟩, .int .i64 0]] _ _
    have hal := ((Below.refl w.heap.size w).alloc (Nat.le_refl _) (.cells #[.int .i64 3, .int .i64 0, .bool false] 73)).alloc (by simp) (.cells #[.string ⟨#[33]⟩, .int .i64 0] 69)
    have B1 := Mem.Blk.new w 73 #[.int .i64 3, .int .i64 0, .bool false]
    have B2 := Mem.Blk.new (w.alloc (.cells #[.int .i64 3, .int .i64 0, .bool false] 73)) 69 #[.string ⟨#[33]⟩, .int .i64 0]
    rw [show (w.alloc (.cells #[.int .i64 3, .int .i64 0, .bool false] 73)).heap.size = w.heap.size + 1 by simp] at B2
    have BA := Lib.hid (B1.alloc (.cells #[.string ⟨#[33]⟩, .int .i64 0] 69))
    have BB := Lib.hid B2
    have HB := Lib.hid hal
    clear hal B1 B2
    go_enter Try.func40, Try.ntmps40
    go_upto_region 1 with (fail)
    generalize (w.alloc (.cells #[.int .i64 3, .int .i64 0, .bool false] 73)).alloc (.cells #[.string ⟨#[33]⟩, .int .i64 0] 69) = v9 at *
    obtain ⟨a0, a1, a2, -, -, -⟩ := blk3 BA.out
    obtain ⟨b0, b1, -, -⟩ := BB.out.two
    go_wp2_with fail
    go_ret
    exact ⟨rfl, HB.out⟩
  | num n =>
    show Calls _ _ #[.agg #[.int .i64 1, .int .i64 n, .bool false], .agg #[.string ⟨#[110]⟩, .int .i64 n]] _ _
    have hal := ((Below.refl w.heap.size w).alloc (Nat.le_refl _) (.cells #[.int .i64 1, .int .i64 n, .bool false] 73)).alloc (by simp) (.cells #[.string ⟨#[110]⟩, .int .i64 n] 69)
    have B1 := Mem.Blk.new w 73 #[.int .i64 1, .int .i64 n, .bool false]
    have B2 := Mem.Blk.new (w.alloc (.cells #[.int .i64 1, .int .i64 n, .bool false] 73)) 69 #[.string ⟨#[110]⟩, .int .i64 n]
    rw [show (w.alloc (.cells #[.int .i64 1, .int .i64 n, .bool false] 73)).heap.size = w.heap.size + 1 by simp] at B2
    have BA := Lib.hid (B1.alloc (.cells #[.string ⟨#[110]⟩, .int .i64 n] 69))
    have BB := Lib.hid B2
    have HB := Lib.hid hal
    clear hal B1 B2
    go_enter Try.func40, Try.ntmps40
    go_upto_region 1 with (fail)
    generalize (w.alloc (.cells #[.int .i64 1, .int .i64 n, .bool false] 73)).alloc (.cells #[.string ⟨#[110]⟩, .int .i64 n] 69) = v9 at *
    obtain ⟨a0, a1, a2, -, -, -⟩ := blk3 BA.out
    obtain ⟨b0, b1, -, -⟩ := BB.out.two
    go_wp2_with fail
    go_ret
    exact ⟨rfl, HB.out⟩
  | tru b =>
    cases b with
    | true =>
      show Calls _ _ #[.agg #[.int .i64 2, .int .i64 0, .bool true], .agg #[.string ⟨#[116]⟩, .int .i64 0]] _ _
      have hal := ((Below.refl w.heap.size w).alloc (Nat.le_refl _) (.cells #[.int .i64 2, .int .i64 0, .bool true] 73)).alloc (by simp) (.cells #[.string ⟨#[116]⟩, .int .i64 0] 69)
      have B1 := Mem.Blk.new w 73 #[.int .i64 2, .int .i64 0, .bool true]
      have B2 := Mem.Blk.new (w.alloc (.cells #[.int .i64 2, .int .i64 0, .bool true] 73)) 69 #[.string ⟨#[116]⟩, .int .i64 0]
      rw [show (w.alloc (.cells #[.int .i64 2, .int .i64 0, .bool true] 73)).heap.size = w.heap.size + 1 by simp] at B2
      have BA := Lib.hid (B1.alloc (.cells #[.string ⟨#[116]⟩, .int .i64 0] 69))
      have BB := Lib.hid B2
      have HB := Lib.hid hal
      clear hal B1 B2
      go_enter Try.func40, Try.ntmps40
      go_upto_region 1 with (fail)
      generalize (w.alloc (.cells #[.int .i64 2, .int .i64 0, .bool true] 73)).alloc (.cells #[.string ⟨#[116]⟩, .int .i64 0] 69) = v9 at *
      obtain ⟨a0, a1, a2, -, -, -⟩ := blk3 BA.out
      obtain ⟨b0, b1, -, -⟩ := BB.out.two
      go_wp2_with fail
      go_ret
      exact ⟨rfl, HB.out⟩
    | false =>
      show Calls _ _ #[.agg #[.int .i64 2, .int .i64 0, .bool false], .agg #[.string ⟨#[102]⟩, .int .i64 0]] _ _
      have hal := ((Below.refl w.heap.size w).alloc (Nat.le_refl _) (.cells #[.int .i64 2, .int .i64 0, .bool false] 73)).alloc (by simp) (.cells #[.string ⟨#[102]⟩, .int .i64 0] 69)
      have B1 := Mem.Blk.new w 73 #[.int .i64 2, .int .i64 0, .bool false]
      have B2 := Mem.Blk.new (w.alloc (.cells #[.int .i64 2, .int .i64 0, .bool false] 73)) 69 #[.string ⟨#[102]⟩, .int .i64 0]
      rw [show (w.alloc (.cells #[.int .i64 2, .int .i64 0, .bool false] 73)).heap.size = w.heap.size + 1 by simp] at B2
      have BA := Lib.hid (B1.alloc (.cells #[.string ⟨#[102]⟩, .int .i64 0] 69))
      have BB := Lib.hid B2
      have HB := Lib.hid hal
      clear hal B1 B2
      go_enter Try.func40, Try.ntmps40
      go_upto_region 1 with (fail)
      generalize (w.alloc (.cells #[.int .i64 2, .int .i64 0, .bool false] 73)).alloc (.cells #[.string ⟨#[102]⟩, .int .i64 0] 69) = v9 at *
      obtain ⟨a0, a1, a2, -, -, -⟩ := blk3 BA.out
      obtain ⟨b0, b1, -, -⟩ := BB.out.two
      go_wp2_with fail
      go_ret
      exact ⟨rfl, HB.out⟩
set_option maxHeartbeats 1000000 in
theorem rtruth_any (b : Bool) (w : World) : Calls Try.prog 67 #[.bool b] w fun x w' => RetW (.tru b) x ∧ Below w.heap.size w w' := by
  have BX := Lib.hid (Mem.Blk.new w 69 #[.string ⟨#[]⟩, .int .i64 0])
  have HB := Lib.hid (below_two w (.cells #[.string ⟨#[]⟩, .int .i64 0] 69))
  go_enter Try.func67, Try.ntmps67
  go_upto_region 1 with (fail)
  generalize w.alloc (.cells #[.string ⟨#[]⟩, .int .i64 0] 69) = v at *
  obtain ⟨t0, t1, t2, t3⟩ := BX.out.two
  have hm := BX.out.lt
  cases b with
  | false =>
    go_wp2_with fail
    have HFN : Hid (Below w.heap.size w ((v.setCell ⟨w.heap.size, 0, none⟩ (.string ⟨#[102]⟩)).setCell ⟨w.heap.size, 1, none⟩ (.int .i64 0)) ∧ Mem.Blk ((v.setCell ⟨w.heap.size, 0, none⟩ (.string ⟨#[102]⟩)).setCell ⟨w.heap.size, 1, none⟩ (.int .i64 0)) (w.heap.size) 69 #[.string ⟨#[102]⟩, .int .i64 0]) := ⟨((HB.out).setCell (by show w.heap.size ≤ w.heap.size; omega) _).setCell (by show w.heap.size ≤ w.heap.size; omega) _, ((BX.out).set_ 0 _).set_ 1 _⟩
    generalize (v.setCell ⟨w.heap.size, 0, none⟩ (.string ⟨#[102]⟩)).setCell ⟨w.heap.size, 1, none⟩ (.int .i64 0) = W9 at *
    obtain ⟨r0, r1, -, -⟩ := HFN.out.2.two
    refine bodyPost_ret (v := .agg #[.string ⟨#[102]⟩, .int .i64 0]) (by simp [results, Try.results67, go_sem, r0, r1]) rfl ⟨rfl, HFN.out.1⟩
  | true =>
    go_wp2_with fail
    have HFN : Hid (Below w.heap.size w ((v.setCell ⟨w.heap.size, 0, none⟩ (.string ⟨#[116]⟩)).setCell ⟨w.heap.size, 1, none⟩ (.int .i64 0)) ∧ Mem.Blk ((v.setCell ⟨w.heap.size, 0, none⟩ (.string ⟨#[116]⟩)).setCell ⟨w.heap.size, 1, none⟩ (.int .i64 0)) (w.heap.size) 69 #[.string ⟨#[116]⟩, .int .i64 0]) := ⟨((HB.out).setCell (by show w.heap.size ≤ w.heap.size; omega) _).setCell (by show w.heap.size ≤ w.heap.size; omega) _, ((BX.out).set_ 0 _).set_ 1 _⟩
    generalize (v.setCell ⟨w.heap.size, 0, none⟩ (.string ⟨#[116]⟩)).setCell ⟨w.heap.size, 1, none⟩ (.int .i64 0) = W9 at *
    obtain ⟨r0, r1, -, -⟩ := HFN.out.2.two
    refine bodyPost_ret (v := .agg #[.string ⟨#[116]⟩, .int .i64 0]) (by simp [results, Try.results67, go_sem, r0, r1]) rfl ⟨rfl, HFN.out.1⟩
end Go.Proofs.Ytppnmeobnilojaa

/- The contract of ref22.Seen. -/
namespace Go.Proofs.Ytppnmeobnilojaa
set_option linter.unusedVariables false
set_option linter.unusedSimpArgs false
open Go.RowKit
set_option maxRecDepth 100000 in
set_option maxHeartbeats 2000000 in
theorem rseen_any (day : Int) (fx : List Fx) (nm : ByteArray) (a : Option Addr) (len cap : Nat) (w : World) (hS : SlR fxK w [] fx a len cap) :
    Calls Try.prog 37 #[.agg #[.int .i64 day, .slice a len cap], .string nm] w fun x w' => x = seenRt (seenV day fx nm) ∧ Below w.heap.size w w' := by
  obtain ⟨f1, f2, f3⟩ := hS.facts
  have HL := Lib.hid f1
  have hal := (Below.refl w.heap.size w).alloc (Nat.le_refl _) (.cells #[.int .i64 day, .slice a len cap] 58)
  have HS := Lib.hid (hS.kept (Kept.of_below hal []))
  have HB0 := Lib.hid hal
  have BX := Lib.hid (Mem.Blk.new w 58 #[.int .i64 day, .slice a len cap])
  obtain ⟨R, hR⟩ : ∃ R, R = seenRt (seenV day fx nm) := ⟨_, rfl⟩
  rw [← hR]
  have HR := Lib.hid hR
  clear hR hS hal f1
  go_enter Try.func37, Try.ntmps37
  go_upto_region 1 with (fail)
  generalize w.alloc (.cells #[.int .i64 day, .slice a len cap] 58) = v at *
  go_wp2_with fail
  go_loopw [6, 7, 8, 9] (fun u y z i wr => ∃ (k : Nat) (b : Bool) (d n : Int), i = .int .i64 (k : Nat) ∧ u = .bool b ∧ y = .int .i64 d ∧ z = .int .i64 n ∧ k ≤ len ∧ Hid (BestR day nm fx k b d n) ∧ Hid (Below v.heap.size v wr)) (fun _ _ _ i _ => len - (intOf i).toNat)
  case atStart => exact ⟨0, false, 0, 0, rfl, rfl, rfl, rfl, Nat.zero_le _, BestR.start _ _ _, Below.refl _ _⟩
  case round =>
    obtain ⟨k, b, d, n, rfl, rfl, rfl, rfl, hk, HN, HB⟩ := hrel
    have BW := Lib.hid (BX.out.below HB.out)
    obtain ⟨c0, c1, -, -⟩ := BW.out.two
    have HSW := Lib.hid (HS.out.kept (Kept.of_below HB.out []))
    by_cases hlt : k < len
    · have hk' : (k : Int) < (len : Int) := by omega
      obtain ⟨q, o, f, rfl, hbl, -, hf, -, k1, k2, u0, u1, u2⟩ := fx_at HSW.out k hlt
      have HF := Lib.hid hf
      have hal := (Below.refl wr.heap.size wr).alloc (Nat.le_refl _) (.cells #[.string f.name, .int .i64 f.day, .int .i64 f.val] 82)
      have HB2 := Lib.hid (HB.out.trans (hal.mono HB.out.size))
      have BF := Lib.hid (Mem.Blk.new wr 82 #[.string f.name, .int .i64 f.day, .int .i64 f.val])
      have BW2 := Lib.hid (BW.out.below hal)
      clear hf hal HSW HB HS BX BW
      go_upto_region 8 with (fail)
      generalize wr.alloc (.cells #[.string f.name, .int .i64 f.day, .int .i64 f.val] 82) = v2 at *
      generalize wr.heap.size = h2 at *
      clear c0 c1 u0 u1 u2
      obtain ⟨c0, c1, -, -⟩ := BW2.out.two
      have d0 : v2.cell? ⟨h2, 0, none⟩ = _ := BF.out.cell 0
      have d1 : v2.cell? ⟨h2, 1, none⟩ = _ := BF.out.cell 1
      have d2 : v2.cell? ⟨h2, 2, none⟩ = _ := BF.out.cell 2
      simp only [List.getElem?_toArray, List.getElem?_cons_zero, List.getElem?_cons_succ] at d0 d1 d2
      by_cases hn : f.name = nm
      case neg =>
        have t1 : (f.name.toList == nm.toList) = false := tl_ne hn
        have HX := Lib.hid (HN.out.skip HF.out (fun hh => hn hh.1))
        clear hn HN
        go_wp2_with fail
        go_roundw
        case rel => exact ⟨k + 1, b, _, _, by go_num, rfl, rfl, rfl, by omega, HX.out, HB2.out⟩
        case measure => simp [intOf]; omega
      case pos =>
        by_cases hd : f.day ≤ day
        case neg =>
          have hdd : decide (f.day ≤ day) = false := decide_eq_false hd
          have HX := Lib.hid (HN.out.skip HF.out (fun hh => hd hh.2.1))
          clear HN
          subst hn
          go_wp2_with fail
          go_roundw
          case rel => exact ⟨k + 1, b, _, _, by go_num, rfl, rfl, rfl, by omega, HX.out, HB2.out⟩
          case measure => simp [intOf]; omega
        case pos =>
          have hdd : decide (f.day ≤ day) = true := decide_eq_true hd
          cases b with
          | false =>
            have HX := Lib.hid (HN.out.take HF.out ⟨hn, hd, fun h => by cases h⟩)
            clear HN
            subst hn
            go_wp2_with fail
            go_roundw
            case rel => exact ⟨k + 1, true, _, _, by go_num, rfl, rfl, rfl, by omega, HX.out, HB2.out⟩
            case measure => simp [intOf]; omega
          | true =>
            by_cases hgd : d < f.day
            case pos =>
              have hgg : decide (d < f.day) = true := decide_eq_true hgd
              have HX := Lib.hid (HN.out.take HF.out ⟨hn, hd, fun _ => hgd⟩)
              clear HN
              subst hn
              go_wp2_with fail
              go_roundw
              case rel => exact ⟨k + 1, true, _, _, by go_num, rfl, rfl, rfl, by omega, HX.out, HB2.out⟩
              case measure => simp [intOf]; omega
            case neg =>
              have hgg : decide (d < f.day) = false := decide_eq_false hgd
              have HX := Lib.hid (HN.out.skip HF.out (fun hh => hgd (hh.2.2 rfl)))
              clear HN
              subst hn
              go_wp2_with fail
              go_roundw
              case rel => exact ⟨k + 1, true, _, _, by go_num, rfl, rfl, rfl, by omega, HX.out, HB2.out⟩
              case measure => simp [intOf]; omega
    · have hk' : ¬ (k : Int) < (len : Int) := by omega
      obtain rfl : k = fx.length := by have := HL.out; omega
      have HB2 := Lib.hid (HB0.out.trans (HB.out.mono HB0.out.size))
      obtain rfl : R = .returned (.tuple #[.int .i64 n, .bool b]) := by rw [HR.out, HN.out.done]
      clear HR HN
      go_wp2_with fail
      go_ret2
      exact ⟨rfl, HB2.out⟩
end Go.Proofs.Ytppnmeobnilojaa

/- Where the document's evaluation stands: three blocks of its own. -/
namespace Go.Proofs.Ytppnmeobnilojaa
set_option linter.unusedVariables false
set_option linter.unusedSimpArgs false
open Go.RowKit
structure RvSt (w W : World) (day : Int) (a : Option Addr) (len cap : Nat) (op n : Int) (nm : ByteArray) (a' : Option Addr) (len' cap' : Nat) : Prop where
  below : Below w.heap.size w W
  ex : Mem.Blk W w.heap.size 46 #[.int .i64 op, .int .i64 n, .string nm, .slice a' len' cap']
  env : Mem.Blk W (w.heap.size + 1) 58 #[.int .i64 day, .slice a len cap]
  res : Mem.Blk W (w.heap.size + 1 + 1) 69 #[.string ⟨#[]⟩, .int .i64 0]
section
variable {w W W' : World} {day : Int} {a : Option Addr} {len cap : Nat} {op n : Int} {nm : ByteArray} {a' : Option Addr} {len' cap' : Nat}
theorem RvSt.up (h : RvSt w W day a len cap op n nm a' len' cap') (hb : Below W.heap.size W W') : RvSt w W' day a len cap op n nm a' len' cap' :=
  ⟨h.below.trans (hb.mono h.below.size), h.ex.below hb, h.env.below hb, h.res.below hb⟩
theorem RvSt.lt (h : RvSt w W day a len cap op n nm a' len' cap') : w.heap.size + 1 + 1 < W.heap.size := h.res.lt
theorem RvSt.far2 (h : RvSt w W day a len cap op n nm a' len' cap') {g : Nat} (hg : w.heap.size + 1 + 1 < g) (c0 c1 : Value) : RvSt w ((W.setCell ⟨g, 0, none⟩ c0).setCell ⟨g, 1, none⟩ c1) day a len cap op n nm a' len' cap' :=
  have h0 : w.heap.size ≠ g := by omega
  have h1 : w.heap.size + 1 ≠ g := by omega
  have h2 : w.heap.size + 1 + 1 ≠ g := by omega
  have hb : w.heap.size ≤ g := by omega
  ⟨(h.below.setCell hb _).setCell hb _, (h.ex.far h0 _).far h0 _, (h.env.far h1 _).far h1 _, (h.res.far h2 _).far h2 _⟩
end
theorem RvSt.start (w : World) (day : Int) (a : Option Addr) (len cap : Nat) (op n : Int) (nm : ByteArray) (a' : Option Addr) (len' cap' : Nat) :
    RvSt w (((w.alloc (.cells #[.int .i64 op, .int .i64 n, .string nm, .slice a' len' cap'] 46)).alloc (.cells #[.int .i64 day, .slice a len cap] 58)).alloc (.cells #[.string ⟨#[]⟩, .int .i64 0] 69)) day a len cap op n nm a' len' cap' := by
  have h1 := Mem.Blk.new w 46 #[.int .i64 op, .int .i64 n, .string nm, .slice a' len' cap']
  have h2 := Mem.Blk.new (w.alloc (.cells #[.int .i64 op, .int .i64 n, .string nm, .slice a' len' cap'] 46)) 58 #[.int .i64 day, .slice a len cap]
  have h3 := Mem.Blk.new ((w.alloc (.cells #[.int .i64 op, .int .i64 n, .string nm, .slice a' len' cap'] 46)).alloc (.cells #[.int .i64 day, .slice a len cap] 58)) 69 #[.string ⟨#[]⟩, .int .i64 0]
  have e1 : (w.alloc (.cells #[.int .i64 op, .int .i64 n, .string nm, .slice a' len' cap'] 46)).heap.size = w.heap.size + 1 := by simp
  have e2 : ((w.alloc (.cells #[.int .i64 op, .int .i64 n, .string nm, .slice a' len' cap'] 46)).alloc (.cells #[.int .i64 day, .slice a len cap] 58)).heap.size = w.heap.size + 1 + 1 := by simp
  rw [e1] at h2
  rw [e2] at h3
  exact ⟨(((Below.refl _ _).alloc (Nat.le_refl _) _).alloc (by rw [e1]; omega) _).alloc (by rw [e2]; omega) _, (h1.alloc _).alloc _, h2.alloc _, h3⟩
/-- A value of a kid, in a block behind the three. -/
structure RvV (w W : World) (g : Nat) (v : Vl) : Prop where
  hi : w.heap.size + 1 + 1 < g
  blk : Mem.Blk W g 69 #[.string (wd v), .int .i64 v.N]
theorem RvV.up {w W W' : World} {g : Nat} {v : Vl} (h : RvV w W g v) (hb : Below W.heap.size W W') : RvV w W' g v := ⟨h.hi, h.blk.below hb⟩
theorem RvV.far2 {w W : World} {g g' : Nat} {v : Vl} (h : RvV w W g v) (hg : g ≠ g') (c0 c1 : Value) : RvV w ((W.setCell ⟨g', 0, none⟩ c0).setCell ⟨g', 1, none⟩ c1) g v := ⟨h.hi, (h.blk.far hg _).far hg _⟩
/-- A contract for a value. -/
def RvC (w : World) (day : Int) (a : Option Addr) (len cap : Nat) (c0 c1 c2 c3 : Value) (v : Vl) : Prop :=
  ∀ W, Below w.heap.size w W → Calls Try.prog 39 #[.agg #[c0, c1, c2, c3], .agg #[.int .i64 day, .slice a len cap]] W fun x W' => RetW v x ∧ Below W.heap.size W W'
theorem RvC.run {w : World} {day : Int} {a : Option Addr} {len cap : Nat} {c0 c1 c2 c3 : Value} {v : Vl} (h : RvC w day a len cap c0 c1 c2 c3 v) (W : World) (hW : Below w.heap.size w W) :
    Calls Try.prog 39 #[.agg #[c0, c1, c2, c3], .agg #[.int .i64 day, .slice a len cap]] W fun x W' => RetW v x ∧ Below W.heap.size W W' := h W hW
end Go.Proofs.Ytppnmeobnilojaa
