/- A part of the proof: Rknd, TreeE, Grt21, Lst, EnvO, StK, NdP, Fr, SetA, NdQ, one behind another. -/
import Derived.Test.YtppnmeobnilojaaMKA
import Derived.Test.YtppnmeobnilojaaMKB
import Derived.Test.YtppnmeobnilojaaMKC
import Derived.Test.YtppnmeobnilojaaMKD
import Derived.Test.YtppnmeobnilojaaMKE
import Derived.Test.YtppnmeobnilojaaMKF
import Derived.Test.YtppnmeobnilojaaMKG
import Derived.Test.YtppnmeobnilojaaMKH
import Derived.Test.YtppnmeobnilojaaMKI
import Derived.Test.YtppnmeobnilojaaMKJ
import Derived.Test.YtppnmeobnilojaaMKK
import Derived.Test.YtppnmeobnilojaaMKL
import Derived.Test.YtppnmeobnilojaaMKM
import Derived.Sort.EncStr
import Derived.Deep.Draws
import Derived.Maps.OwnSet
import Derived.Sort.KeysCollected
/- The contract of ref21.Kind and of a built tree's RightExpr; condition: the expression is built as it must be. -/
namespace Go.Proofs.Ytppnmeobnilojaa
set_option linter.unusedVariables false
set_option linter.unusedSimpArgs false
open Go.RowKit
theorem ar_le3 (op : Int) : ar op ≤ 3 := by
  unfold ar
  repeat' split
  all_goals omega
theorem take_snoc {α : Type} {l : List α} {k : Nat} {x : α} (h : l[k]? = some x) : l.take (k + 1) = l.take k ++ [x] := by
  rw [List.take_add_one, h]; rfl
theorem rkOf_small {op : Int} {l : List Int} (h : op ≤ 4) : rkOf op l = 1 := by unfold rkOf; rw [if_pos h]
theorem rkOf_one {op : Int} {l : List Int} (h : ¬ op ≤ 4) (h2 : op ≤ 10 ∨ op = 20) : rkOf op l = if l.all (fun k => decide (k = 1)) then 1 else 0 := by
  unfold rkOf
  rw [if_neg h]
  cases hb : l.all (fun k => decide (k = 1)) with
  | true => simp [h2]
  | false =>
    have h3 : ¬ (17 ≤ op ∧ op ≤ 19) := by omega
    have h4 : ¬ op = 21 := by omega
    simp
    rw [if_neg (by omega), if_neg (by omega)]
theorem rkOf_cmp {op : Int} {l : List Int} (h1 : 11 ≤ op) (h2 : op ≤ 16) : rkOf op l = if l.all (fun k => decide (k = 1)) then 2 else 0 := by
  unfold rkOf
  rw [if_neg (by omega), if_neg (by omega)]
  cases hb : l.all (fun k => decide (k = 1)) with
  | true => simp [h1, h2]
  | false =>
    simp
    rw [if_neg (by omega), if_neg (by omega)]
theorem rkOf_log {op : Int} {l : List Int} (h1 : 17 ≤ op) (h2 : op ≤ 19) : rkOf op l = if l.all (fun k => decide (k = 2)) then 2 else 0 := by
  unfold rkOf
  rw [if_neg (by omega), if_neg (by omega), if_neg (by omega)]
  cases hb : l.all (fun k => decide (k = 2)) with
  | true => simp [h1, h2]
  | false =>
    simp
    intro h; omega
theorem rkOf_if {l : List Int} : rkOf 21 l = if l.getD 0 0 = 2 ∧ l.getD 1 0 = l.getD 2 0 then l.getD 1 0 else 0 := by
  unfold rkOf
  rw [if_neg (by omega), if_neg (by omega), if_neg (by omega), if_neg (by omega)]
  simp
set_option maxRecDepth 100000 in
set_option maxHeartbeats 4000000 in
theorem rkind_any : ∀ (r : Nat) (e : Ex), e.rk ≤ r → bE e = true → ∀ (cs : List Value) (w : World), RepE w [] e cs →
    Calls Try.prog 25 #[.agg cs.toArray] w fun x w' => x = .returned (.int .i64 (kE e)) ∧ Below w.heap.size w w' := by
  intro r
  induction r with
  | zero => intro e h; have := e.rk_pos; omega
  | succ r ih =>
    intro e hr hb cs w hR
    obtain ⟨op, no, nm, args, a, len, cap, rfl, rfl, i1, i2, i3, hS⟩ := hR.inv
    obtain ⟨g1, -, g3⟩ := bE_inv hb
    obtain ⟨f1, f2, f3⟩ := hS.facts
    obtain ⟨o1, o2⟩ := ar_op (by omega : 0 ≤ ar op)
    have HI : Hid (∀ (k : Nat) e1, args[k]? = some e1 → ∀ cs1 W, RepE W [] e1 cs1 → Calls Try.prog 25 #[.agg cs1.toArray] W fun x w' => x = .returned (.int .i64 (kE e1)) ∧ Below W.heap.size W w') := by
      intro k e1 hk cs1 W hR1
      exact ih e1 (by have := Ex.rk_lt (op := op) (n := no) (nm := nm) hk; omega) (g3 e1 (List.mem_of_getElem? hk)) cs1 W hR1
    have hle : len ≤ 3 := by have := ar_le3 op; omega
    have HBD : Hid (∀ x, I64 (kE x)) := fun x => by have := kE_bd x.rk x (Nat.le_refl _); unfold I64; omega
    have HKM : Hid (kE (.mk op no nm args) = rkOf op (args.map kE)) := by show _ = _; rw [kE_mk, rkOf_eq (by rw [List.length_map]; exact g1)]
    have HL3 : Hid (op = 21 → len = 3) := fun h => by subst h; rw [show ar 21 = 3 by decide] at g1; omega
    have HB0 := Lib.hid ((Below.refl w.heap.size w).alloc (Nat.le_refl _) (.cells #[.int .i64 op, .int .i64 no, .string nm, .slice a len cap] 46))
    have BX := Lib.hid (Mem.Blk.new w 46 #[.int .i64 op, .int .i64 no, .string nm, .slice a len cap])
    have HSS := Lib.hid (hS.kept (Kept.of_below HB0.out []))
    have HL := Lib.hid f1
    rw [HKM.out]
    clear ih hr hR hS i1 i2 i3 f1 g1 g3 hb HKM
    generalize hRR : rkOf op (args.map kE) = R
    have HR := Lib.hid hRR
    clear hRR
    go_enter Try.func25, Try.ntmps25
    go_upto_region 1 with (fail)
    generalize w.alloc (.cells #[.int .i64 op, .int .i64 no, .string nm, .slice a len cap] 46) = v at *
    obtain ⟨c0, c1, c2, c3, -, -, -, -⟩ := blk4 BX.out
    go_wp2_with fail
    go_loopw [3, 4] (fun s i wr => ∃ (k : Nat) (csl : List (List Value)), i = .int .i64 (k : Nat) ∧ k ≤ len ∧ Hid (Below v.heap.size v wr) ∧ Hid (Gro i64K 3 v.heap.size wr [] ((args.take k).map kE) s csl)) (fun _ i _ => len - (intOf i).toNat)
    case atStart => exact ⟨0, [], rfl, Nat.zero_le _, Below.refl _ _, Gro.start _ _ (Nat.le_refl _) (fun b h => by cases h)⟩
    case round =>
      obtain ⟨k, csl, rfl, hk, HB, HG⟩ := hrel
      have c0' := cell_up c0 HB.out
      have c3' := cell_up c3 HB.out
      have HSw := Lib.hid (HSS.out.kept (Kept.of_below HB.out []))
      clear c0 c1 c2 c3 HSS
      by_cases hlt : k < len
      · obtain ⟨b, o, cop, cn, cnm, cargs, ca, clen, ccap, rfl, -, -, hxe, j1, j2, j3, hSc, v0, v1, v2, v3⟩ := HSw.out.at k hlt
        have j1' : (k : Int) < (len : Int) := by omega
        have j0' : (0 : Int) ≤ (k : Int) := by omega
        have HXE := Lib.hid hxe
        have HSC := Lib.hid (RepE.mk' j1 j2 j3 hSc)
        have HC := Lib.hid (HI.out k _ HXE.out _ _ HSC.out)
        have HTK := Lib.hid (show (args.take (k + 1)).map kE = (args.take k).map kE ++ [kE (Ex.mk cop cn cnm cargs)] by rw [take_snoc HXE.out, List.map_append]; rfl)
        have HLT := Lib.hid (show ((args.take k).map kE).length = k by rw [List.length_map, List.length_take, HL.out]; omega)
        have HXB := Lib.hid (HBD.out (Ex.mk cop cn cnm cargs))
        clear hxe j1 j2 j3 hSc HSC HXE HI
        generalize kE (Ex.mk cop cn cnm cargs) = kc at *
        generalize (args.take k).map kE = L at *
        go_wp2_with fail
        go_at_call 25
        (with_reducible refine HC.out.mono ?_)
        rintro y w2 ⟨rfl, bb⟩
        have HB2 := Lib.hid (HB.out.trans (bb.mono HB.out.size))
        have HG2 := Lib.hid ((HG.out.below bb).alloc (.cells #[.int .i64 kc] 3))
        have HBA := Lib.hid (HB2.out.alloc HB2.out.size (.cells #[.int .i64 kc] 3))
        clear bb HC HG v0 v1 v2 v3 c0' c3' HB
        go_wp2_with (at_builtin; refine ap_row infoI Try.underlying27 rfl (by decide) rfl (.tmp 12) (.tmp 19) rfl rfl HG2.out.own HG2.out.room ⟨w2.heap.size, 0, none⟩ 1 1 [.int .i64 kc] rfl rfl (lit_cells_at w2 #[.int .i64 kc] 3 _ rfl) (by simp [Value.oneCell']) (by have := HLT.out; unfold maxLen; omega) (by have := HLT.out; omega) ?_; intro v' w' o' g' h'; have HG3 := Lib.hid (HG2.out.push (cs := [.int .i64 kc]) ⟨rfl, HXB.out⟩ o' g' h'); have HB3 := Lib.hid (HBA.out.grown g' HBA.out.size (fun b hb => (own_lt HG2.out.own hb).1)); clear o' g' h')
        go_roundw
        case rel => exact ⟨k + 1, _, by go_num, by omega, HB3.out, by rw [HTK.out]; exact HG3.out⟩
        case measure => simp [intOf]; omega
      · have hk' : ¬ (k : Int) < (len : Int) := by omega
        obtain rfl : k = len := by omega
        obtain ⟨aL, cL, rfl, hSL⟩ := HG.out.slR
        have hTK : (args.take k).map kE = args.map kE := by rw [List.take_of_length_le (by have := HL.out; omega)]
        rw [hTK] at hSL
        have hln : (args.map kE).length = k := by rw [List.length_map, HL.out]
        rw [hTK]
        rw [hln] at hSL ⊢
        have HSL := Lib.hid hSL
        have HA := Lib.hid (fun q => all_any (args.map kE) aL k cL q wr HSL.out)
        have HF := Lib.hid (HB0.out.trans (HB.out.mono HB0.out.size))
        clear hTK HG hSL HSw HI HBD HL HB HB0
        generalize args.map kE = L at *
        by_cases h4 : op ≤ 4
        · rw [rkOf_small h4] at HR
          obtain rfl := HR.out
          clear HR
          go_wp2_with fail
          go_ret
          exact ⟨rfl, HF.out⟩
        · by_cases h10 : op ≤ 10
          · rw [rkOf_one h4 (.inl h10)] at HR
            have HA := Lib.hid (HA.out 1)
            generalize L.all (fun k => decide (k = 1)) = B at *
            have h11 : ¬ 11 ≤ op := by omega
            have h17 : ¬ 17 ≤ op := by omega
            have h21 : (op == 21) = false := beq_eq_false_iff_ne.2 (by omega)
            cases B
            · rw [if_neg (by decide)] at HR
              obtain rfl := HR.out
              clear HR
              go_wp2_with fail
              go_at_call 59
              (with_reducible refine HA.out.mono ?_)
              rintro y w3 ⟨rfl, rfl⟩
              go_wp2_with fail
              go_region
              go_wp2_with fail
              go_ret
              exact ⟨rfl, HF.out.drew⟩
            · rw [if_pos rfl] at HR
              obtain rfl := HR.out
              clear HR
              go_wp2_with fail
              go_at_call 59
              (with_reducible refine HA.out.mono ?_)
              rintro y w3 ⟨rfl, rfl⟩
              go_wp2_with fail
              go_ret
              exact ⟨rfl, HF.out⟩
          · by_cases h20 : op = 20
            · subst h20
              rw [rkOf_one h4 (.inr rfl)] at HR
              have HA := Lib.hid (HA.out 1)
              generalize L.all (fun k => decide (k = 1)) = B at *
              cases B
              · rw [if_neg (by decide)] at HR
                obtain rfl := HR.out
                clear HR
                go_wp2_with fail
                go_at_call 59
                (with_reducible refine HA.out.mono ?_)
                rintro y w3 ⟨rfl, rfl⟩
                go_wp2_with fail
                go_region
                go_wp2_with fail
                go_ret
                exact ⟨rfl, HF.out.drew⟩
              · rw [if_pos rfl] at HR
                obtain rfl := HR.out
                clear HR
                go_wp2_with fail
                go_at_call 59
                (with_reducible refine HA.out.mono ?_)
                rintro y w3 ⟨rfl, rfl⟩
                go_wp2_with fail
                go_ret
                exact ⟨rfl, HF.out⟩
            · have h20' : (op == 20) = false := beq_eq_false_iff_ne.2 h20
              by_cases h16 : op ≤ 16
              · have h11 : 11 ≤ op := by omega
                rw [rkOf_cmp h11 h16] at HR
                have HA := Lib.hid (HA.out 1)
                generalize L.all (fun k => decide (k = 1)) = B at *
                have h17 : ¬ 17 ≤ op := by omega
                have h21 : (op == 21) = false := beq_eq_false_iff_ne.2 (by omega)
                cases B
                · rw [if_neg (by decide)] at HR
                  obtain rfl := HR.out
                  clear HR
                  go_wp2_with fail
                  go_at_call 59
                  (with_reducible refine HA.out.mono ?_)
                  rintro y w3 ⟨rfl, rfl⟩
                  go_wp2_with fail
                  go_region
                  go_wp2_with fail
                  go_ret
                  exact ⟨rfl, HF.out.drew⟩
                · rw [if_pos rfl] at HR
                  obtain rfl := HR.out
                  clear HR
                  go_wp2_with fail
                  go_at_call 59
                  (with_reducible refine HA.out.mono ?_)
                  rintro y w3 ⟨rfl, rfl⟩
                  go_wp2_with fail
                  go_ret
                  exact ⟨rfl, HF.out⟩
              · have h11 : 11 ≤ op := by omega
                by_cases h21 : op = 21
                · subst h21
                  obtain rfl := HL3.out rfl
                  rw [rkOf_if] at HR
                  obtain ⟨b, o, x0, cs0, rfl, -, -, hx0, ⟨rfl, -⟩, -, hc0⟩ := HSL.out.at 0 (by omega)
                  obtain ⟨b', o', x1, cs1, e1, -, -, hx1, ⟨rfl, -⟩, -, hc1⟩ := HSL.out.at 1 (by omega)
                  injection e1 with e1; injection e1 with e1 e2; subst e1; subst e2
                  obtain ⟨b', o', x2, cs2, e1, -, -, hx2, ⟨rfl, -⟩, -, hc2⟩ := HSL.out.at 2 (by omega)
                  injection e1 with e1; injection e1 with e1 e2; subst e1; subst e2
                  have u0 : wr.cell? ⟨b, o, none⟩ = some (.int .i64 x0) := by have := hc0 0 _ rfl; simpa [i64K] using this
                  have u1 : wr.cell? ⟨b, o + 1, none⟩ = some (.int .i64 x1) := by have := hc1 0 _ rfl; simpa [i64K] using this
                  have u2 : wr.cell? ⟨b, o + 2, none⟩ = some (.int .i64 x2) := by have := hc2 0 _ rfl; simpa [i64K] using this
                  have e0 : L.getD 0 0 = x0 := by rw [List.getD_eq_getElem?_getD, hx0]; rfl
                  have e1 : L.getD 1 0 = x1 := by rw [List.getD_eq_getElem?_getD, hx1]; rfl
                  have e2 : L.getD 2 0 = x2 := by rw [List.getD_eq_getElem?_getD, hx2]; rfl
                  rw [e0, e1, e2] at HR
                  clear hc0 hc1 hc2 e0 e1 e2 hx0 hx1 hx2 HSL HA h4 h10 h16 h11 h20
                  by_cases hk0 : x0 = 2
                  · subst hk0
                    by_cases hk1 : x1 = x2
                    · subst hk1
                      rw [if_pos ⟨rfl, rfl⟩] at HR
                      obtain rfl := HR.out
                      clear HR
                      go_wp2_with fail
                      go_region
                      go_wp2_with fail
                      go_ret
                      exact ⟨rfl, HF.out.drew⟩
                    · have hk1' : (x1 == x2) = false := beq_eq_false_iff_ne.2 hk1
                      rw [if_neg (fun h => hk1 h.2)] at HR
                      obtain rfl := HR.out
                      clear HR
                      go_wp2_with fail
                      go_region
                      go_wp2_with fail
                      go_ret
                      exact ⟨rfl, HF.out.drew⟩
                  · have hk0' : (x0 == 2) = false := beq_eq_false_iff_ne.2 hk0
                    rw [if_neg (fun h => hk0 h.1)] at HR
                    obtain rfl := HR.out
                    clear HR
                    go_wp2_with fail
                    go_region
                    go_wp2_with fail
                    go_ret
                    exact ⟨rfl, HF.out.drew⟩
                · have h19 : op ≤ 19 := by omega
                  have h17 : 17 ≤ op := by omega
                  have h21 : (op == 21) = false := beq_eq_false_iff_ne.2 h21
                  rw [rkOf_log h17 h19] at HR
                  have HA := Lib.hid (HA.out 2)
                  generalize L.all (fun k => decide (k = 2)) = B at *
                  cases B
                  · rw [if_neg (by decide)] at HR
                    obtain rfl := HR.out
                    clear HR
                    go_wp2_with fail
                    go_at_call 59
                    (with_reducible refine HA.out.mono ?_)
                    rintro y w3 ⟨rfl, rfl⟩
                    go_wp2_with fail
                    go_region
                    go_wp2_with fail
                    go_ret
                    exact ⟨rfl, HF.out.drew⟩
                  · rw [if_pos rfl] at HR
                    obtain rfl := HR.out
                    clear HR
                    go_wp2_with fail
                    go_at_call 59
                    (with_reducible refine HA.out.mono ?_)
                    rintro y w3 ⟨rfl, rfl⟩
                    go_wp2_with fail
                    go_ret
                    exact ⟨rfl, HF.out⟩
end Go.Proofs.Ytppnmeobnilojaa

/- The contract of a built tree's RightExpr; condition: the expression is not more than 999 deep. -/
namespace Go.Proofs.Ytppnmeobnilojaa
set_option linter.unusedVariables false
set_option linter.unusedSimpArgs false
open Go.RowKit
theorem rE_parts (t : Ex) (hr : t.rk < 1000) : rE t = (decide (ndI t.nd ≤ 200) && decide (rkI t.nd t.rk ≤ 16) && bE t) := by
  have : rE t = (decide (t.nd ≤ 200 ∧ t.rk ≤ 16) && bE t) := rfl
  rw [this]
  congr 1
  rw [Bool.eq_iff_iff]
  simp only [Bool.and_eq_true, decide_eq_true_eq]
  unfold ndI rkI
  by_cases h : t.nd < 1000
  · rw [if_pos h, if_pos h]; omega
  · rw [if_neg h, if_neg h]; omega
set_option maxRecDepth 100000 in
set_option maxHeartbeats 1000000 in
theorem treeRightE_any {w : World} {es : List Ex} {ts : List Te} {cs : List Value} (h : TreeIs w [] es ts cs) (i : Nat) {t : Ex} (ht : es[i]? = some t) (hr : t.rk < 1000) :
    Calls Try.prog 24 #[.agg cs.toArray, .int .i64 (i : Nat)] w fun x w' => x = .returned (.bool (rE t)) ∧ Below w.heap.size w w' := by
  have hit : i < es.length := (List.getElem?_eq_some_iff.1 ht).1
  obtain ⟨aE, cE, aN, cN, aD, cD, aT, cT, aM, cM, aP, cP, rfl, h1, h2, h3, h4, h5, h6⟩ := h
  have hlM : (nds es).length = es.length := by unfold nds; rw [List.length_map]
  have hlP : (rks es).length = es.length := by unfold rks; rw [List.length_map]
  obtain ⟨bm, om, xm, cm, rfl, hbm, -, hxm, ⟨rfl, -⟩, -, hcm⟩ := h2.at i (by omega)
  obtain ⟨bp, op, xp, cp, rfl, hbp, -, hxp, ⟨rfl, -⟩, -, hcp⟩ := h3.at i (by omega)
  obtain ⟨bt, ot, xt, ct, rfl, hbt, -, hxt, hRt, -, hct⟩ := h1.at i hit
  obtain rfl : xm = ndI t.nd := by
    unfold nds at hxm
    rw [List.getElem?_map, ht] at hxm
    injection hxm with h; exact h.symm
  obtain rfl : xp = rkI t.nd t.rk := by
    unfold rks at hxp
    rw [List.getElem?_map, ht] at hxp
    injection hxp with h; exact h.symm
  obtain rfl : t = xt := by rw [ht] at hxt; injection hxt
  have HRT := Lib.hid (rE_parts t hr)
  have HW0 := Lib.hid ((Below.refl w.heap.size w).alloc (Nat.le_refl _) (.cells #[.slice (some ⟨bt, ot, none⟩) es.length cE, .slice (some ⟨bm, om, none⟩) (nds es).length cN, .slice (some ⟨bp, op, none⟩) (rks es).length cD, .slice aT ts.length cT, .slice aM (ndsT ts).length cM, .slice aP (rksT ts).length cP] 30))
  have BX := Mem.Blk.new w 30 #[.slice (some ⟨bt, ot, none⟩) es.length cE, .slice (some ⟨bm, om, none⟩) (nds es).length cN, .slice (some ⟨bp, op, none⟩) (rks es).length cD, .slice aT ts.length cT, .slice aM (ndsT ts).length cM, .slice aP (rksT ts).length cP]
  have HC : Hid (∀ W, Below w.heap.size w W → Calls Try.prog 58 #[.agg ct.toArray] W fun x w' => x = .returned (.bool (bE t)) ∧ Below W.heap.size W w') := fun W hW => rbuiltExpr_any t.rk t (Nat.le_refl _) ct W (RepE.kept hRt (Kept.of_below hW []))
  obtain ⟨o5, n5, e5, x5, p5, l5, r5, -, rfl, -⟩ := hRt.inv
  have s3 := Lib.hid (BX.cell 0)
  have s4 := Lib.hid (BX.cell 1)
  have s5 := Lib.hid (BX.cell 2)
  have g0 := Lib.hid (cell_up (show w.cell? ⟨bm, om + i, none⟩ = some (.int .i64 (ndI t.nd)) by have := hcm 0 _ rfl; simpa [i64K] using this) HW0.out)
  have g1 := Lib.hid (cell_up (show w.cell? ⟨bp, op + i, none⟩ = some (.int .i64 (rkI t.nd t.rk)) by have := hcp 0 _ rfl; simpa [i64K] using this) HW0.out)
  have v0 := Lib.hid (cell_up (show w.cell? ⟨bt, ot + i * 4, none⟩ = some (.int .i64 o5) from hct 0 _ rfl) HW0.out)
  have v1 := Lib.hid (cell_up (show w.cell? ⟨bt, ot + i * 4 + 1, none⟩ = some (.int .i64 n5) from hct 1 _ rfl) HW0.out)
  have v2 := Lib.hid (cell_up (show w.cell? ⟨bt, ot + i * 4 + 2, none⟩ = some (.string e5) from hct 2 _ rfl) HW0.out)
  have v3 := Lib.hid (cell_up (show w.cell? ⟨bt, ot + i * 4 + 3, none⟩ = some (.slice p5 l5 r5) from hct 3 _ rfl) HW0.out)
  have i0 : (0 : Int) ≤ (i : Int) := by omega
  have i1 : (i : Int) < (es.length : Int) := by omega
  have i2 : (i : Int) < ((nds es).length : Int) := by omega
  have i3 : (i : Int) < ((rks es).length : Int) := by omega
  have n1 := ndI_bd t.nd
  have n2 := rkI_bd t.nd t.rk hr
  clear hcm hcp hct hRt BX h1 h2 h3 h4 h5 h6 hxm hxp ht hr hlM hlP hxt hbm hbp hbt hit
  generalize ndI t.nd = a at *
  generalize rkI t.nd t.rk = b at *
  rw [HRT.out]
  generalize (nds es).length = lN at *
  generalize (ndsT ts).length = lM at *
  generalize (rks es).length = lD at *
  generalize (rksT ts).length = lP at *
  by_cases ha : a ≤ 200
  · by_cases hb : b ≤ 16
    · have e1 : (decide (a ≤ 200) && decide (b ≤ 16) && bE t) = bE t := by simp [ha, hb]
      rw [e1]
      go_enter Try.func24, Try.ntmps24
      go_upto_region 1 with (fail)
      generalize w.alloc (.cells #[.slice (some ⟨bt, ot, none⟩) es.length cE, .slice (some ⟨bm, om, none⟩) lN cN, .slice (some ⟨bp, op, none⟩) lD cD, .slice aT ts.length cT, .slice aM lM cM, .slice aP lP cP] 30) = v at *
      have s3' := s3.out
      have s4' := s4.out
      have s5' := s5.out
      have g0' := g0.out
      have g1' := g1.out
      have v0' := v0.out
      have v1' := v1.out
      have v2' := v2.out
      have v3' := v3.out
      simp only [List.getElem?_toArray, List.getElem?_cons_zero, List.getElem?_cons_succ] at s3' s4' s5'
      clear s3 s4 s5 g0 g1 v0 v1 v2 v3
      go_wp2_with fail
      go_at_call 58
      (with_reducible refine (HC.out v HW0.out).mono ?_)
      rintro y w1 ⟨rfl, b1⟩
      have HW1 := Lib.hid (HW0.out.trans (b1.mono HW0.out.size))
      clear b1
      go_wp2_with fail
      go_ret
      exact ⟨rfl, HW1.out⟩
    · have e1 : (decide (a ≤ 200) && decide (b ≤ 16) && bE t) = false := by simp [hb]
      rw [e1]
      go_enter Try.func24, Try.ntmps24
      go_upto_region 1 with (fail)
      generalize w.alloc (.cells #[.slice (some ⟨bt, ot, none⟩) es.length cE, .slice (some ⟨bm, om, none⟩) lN cN, .slice (some ⟨bp, op, none⟩) lD cD, .slice aT ts.length cT, .slice aM lM cM, .slice aP lP cP] 30) = v at *
      have s3' := s3.out
      have s4' := s4.out
      have s5' := s5.out
      have g0' := g0.out
      have g1' := g1.out
      have v0' := v0.out
      have v1' := v1.out
      have v2' := v2.out
      have v3' := v3.out
      simp only [List.getElem?_toArray, List.getElem?_cons_zero, List.getElem?_cons_succ] at s3' s4' s5'
      clear s3 s4 s5 g0 g1 v0 v1 v2 v3
      go_wp2_with fail
      go_ret
      exact ⟨rfl, HW0.out⟩
  · have e1 : (decide (a ≤ 200) && decide (b ≤ 16) && bE t) = false := by simp [ha]
    rw [e1]
    go_enter Try.func24, Try.ntmps24
    go_upto_region 1 with (fail)
    generalize w.alloc (.cells #[.slice (some ⟨bt, ot, none⟩) es.length cE, .slice (some ⟨bm, om, none⟩) lN cN, .slice (some ⟨bp, op, none⟩) lD cD, .slice aT ts.length cT, .slice aM lM cM, .slice aP lP cP] 30) = v at *
    have s3' := s3.out
    have s4' := s4.out
    have s5' := s5.out
    have g0' := g0.out
    have g1' := g1.out
    have v0' := v0.out
    have v1' := v1.out
    have v2' := v2.out
    have v3' := v3.out
    simp only [List.getElem?_toArray, List.getElem?_cons_zero, List.getElem?_cons_succ] at s3' s4' s5'
    clear s3 s4 s5 g0 g1 v0 v1 v2 v3
    go_wp2_with fail
    go_ret
    exact ⟨rfl, HW0.out⟩
end Go.Proofs.Ytppnmeobnilojaa

/- Are there more nodes than are asked of? A tree that was built, in a block of its own. -/
namespace Go.Proofs.Ytppnmeobnilojaa
set_option linter.unusedVariables false
set_option linter.unusedSimpArgs false
open Go.RowKit
theorem great21_any (a a' : Option Addr) (len cap len' cap' : Nat) (w : World) : Calls Try.prog 13 #[.slice a len cap, .slice a' len' cap'] w fun e w' => e = .returned (.bool (decide (60 < len ∨ 60 < len'))) ∧ w = w' := by
  by_cases h : 60 < len
  · have e : decide (60 < len ∨ 60 < len') = true := decide_eq_true (.inl h)
    rw [e]
    have h' : (60 : Int) < (len : Int) := by omega
    clear e
    go_enter Try.func13, Try.ntmps13
    go_wp2_with fail
    go_ret
    exact ⟨rfl, rfl⟩
  · have h' : ¬ (60 : Int) < (len : Int) := by omega
    by_cases h2 : 60 < len'
    · have e : decide (60 < len ∨ 60 < len') = true := decide_eq_true (.inr h2)
      rw [e]
      have h2' : (60 : Int) < (len' : Int) := by omega
      clear e
      go_enter Try.func13, Try.ntmps13
      go_wp2_with fail
      go_ret
      exact ⟨rfl, rfl⟩
    · have e : decide (60 < len ∨ 60 < len') = false := decide_eq_false (by omega)
      rw [e]
      have h2' : ¬ (60 : Int) < (len' : Int) := by omega
      clear e
      go_enter Try.func13, Try.ntmps13
      go_wp2_with fail
      go_ret
      exact ⟨rfl, rfl⟩
end Go.Proofs.Ytppnmeobnilojaa

/- The contracts of law22.great and last. -/
namespace Go.Proofs.Ytppnmeobnilojaa
set_option linter.unusedVariables false
set_option linter.unusedSimpArgs false
open Go.RowKit
set_option maxHeartbeats 1000000 in
theorem great22_any (day : Int) (a a' : Option Addr) (len cap len' cap' : Nat) (w : World) : Calls Try.prog 38 #[.slice a len cap, .agg #[.int .i64 day, .slice a' len' cap']] w fun e w' => e = .returned (.bool (decide (60 < len ∨ 60 < len'))) ∧ Below w.heap.size w w' := by
  have HB := Lib.hid ((Below.refl w.heap.size w).alloc (Nat.le_refl _) (.cells #[.int .i64 day, .slice a' len' cap'] 58))
  have BX := Lib.hid (Mem.Blk.new w 58 #[.int .i64 day, .slice a' len' cap'])
  by_cases h : 60 < len
  · have e : decide (60 < len ∨ 60 < len') = true := decide_eq_true (.inl h)
    rw [e]
    have h' : (60 : Int) < (len : Int) := by omega
    clear e
    go_enter Try.func38, Try.ntmps38
    go_upto_region 1 with (fail)
    generalize w.alloc (.cells #[.int .i64 day, .slice a' len' cap'] 58) = v at *
    obtain ⟨c0, c1, -, -⟩ := BX.out.two
    go_wp2_with fail
    go_ret
    exact ⟨rfl, HB.out⟩
  · have h' : ¬ (60 : Int) < (len : Int) := by omega
    by_cases h2 : 60 < len'
    · have e : decide (60 < len ∨ 60 < len') = true := decide_eq_true (.inr h2)
      rw [e]
      have h2' : (60 : Int) < (len' : Int) := by omega
      clear e
      go_enter Try.func38, Try.ntmps38
      go_upto_region 1 with (fail)
      generalize w.alloc (.cells #[.int .i64 day, .slice a' len' cap'] 58) = v at *
      obtain ⟨c0, c1, -, -⟩ := BX.out.two
      go_wp2_with fail
      go_ret
      exact ⟨rfl, HB.out⟩
    · have e : decide (60 < len ∨ 60 < len') = false := decide_eq_false (by omega)
      rw [e]
      have h2' : ¬ (60 : Int) < (len' : Int) := by omega
      clear e
      go_enter Try.func38, Try.ntmps38
      go_upto_region 1 with (fail)
      generalize w.alloc (.cells #[.int .i64 day, .slice a' len' cap'] 58) = v at *
      obtain ⟨c0, c1, -, -⟩ := BX.out.two
      go_wp2_with fail
      go_ret
      exact ⟨rfl, HB.out⟩
/-- What is built lies in no block of one nought. -/
theorem rep_off {w : World} {g : Nat} {ty : TypeId} (hB : Mem.Blk w g ty #[.int .i64 0, .int .i64 0, .string ⟨#[]⟩, .slice none 0 0]) : ∀ (r : Nat) (e : Ex), e.rk ≤ r → bE e = true → ∀ (cs : List Value), RepE w [] e cs → RepE w [g] e cs := by
  intro r
  induction r with
  | zero => intro e h; have := e.rk_pos; omega
  | succ r ih =>
    intro e hr hb cs hR
    obtain ⟨op, n, nm, args, a, len, cap, rfl, rfl, ho, hn, hs, hS⟩ := hR.inv
    obtain ⟨-, -, g3⟩ := bE_inv hb
    refine RepE.mk' ho hn hs ?_
    have hf := hS.facts.1
    obtain ⟨vs, h1, h2, h3⟩ := hS
    refine ⟨vs, h1, fun i e cs he hc => ih e (by have := Ex.rk_lt (op := op) (n := n) (nm := nm) he; omega) (g3 e (List.mem_of_getElem? he)) cs (h2 i e cs he hc), h3.1, h3.2.1, h3.2.2.1, fun hp => ?_⟩
    obtain ⟨b, o, ha, hbl, -, hc⟩ := h3.2.2.2 hp
    refine ⟨b, o, ha, hbl, fun hm => ?_, hc⟩
    rw [List.mem_singleton] at hm
    subst hm
    have he0 : args[0]? = some (args[0]'(by omega)) := List.getElem?_eq_getElem (by omega)
    have hv0 : vs[0]? = some (vs[0]'(by omega)) := List.getElem?_eq_getElem (by omega)
    have hr0 := h2 0 _ _ he0 hv0
    have hb0 := g3 _ (List.mem_of_getElem? he0)
    obtain ⟨op', n', nm', args', a', len', cap', e1, e2, -⟩ := hr0.inv
    rw [e2] at hv0
    rw [e1] at hb0
    have k0 := (hc 0 _ hv0).2 0 _ rfl
    have k3 := (hc 0 _ hv0).2 3 _ rfl
    rw [hB.cell] at k0 k3
    have hlt : o + 0 * 4 + 3 < 4 := (Array.getElem?_eq_some_iff.1 k3).1
    obtain rfl : o = 0 := by omega
    have k0' : some (Value.int .i64 0) = some (Value.int .i64 op') := k0
    injection k0' with k0'; injection k0' with _ k0'
    obtain ⟨q1, -, -⟩ := bE_inv hb0
    have := (ar_op (by rw [q1]; omega : 0 ≤ ar op')).1
    omega
/-- The last one, if it is right and has a kind. -/
def LstR (w' : World) (x : Ending) : Prop := (∃ cs : List Value, cs = [.int .i64 0, .int .i64 0, .string ⟨#[]⟩, .slice none 0 0] ∧ x = .returned (.tuple #[.agg cs.toArray, .bool false])) ∨
  (∃ e cs, x = .returned (.tuple #[.agg cs.toArray, .bool true]) ∧ RepE w' [] e cs ∧ rE e = true ∧ kE e ≠ 0 ∧ e.rk ≤ 60)
set_option maxRecDepth 100000 in
set_option maxHeartbeats 2000000 in
theorem last22_any (lfs : List Lf) (a : Option Addr) (len cap : Nat) (w : World) (h1 : SlR lfK w [] lfs a len cap) : Calls Try.prog 42 #[.slice a len cap] w fun x w' => LstR w' x ∧ Below w.heap.size w w' := by
  have hal := (Below.refl w.heap.size w).alloc (Nat.le_refl _) (.cells #[.int .i64 0, .int .i64 0, .string ⟨#[]⟩, .slice none 0 0] 46)
  have HB0 := Lib.hid hal
  have BR := Lib.hid (Mem.Blk.new w 46 #[.int .i64 0, .int .i64 0, .string ⟨#[]⟩, .slice none 0 0])
  have HBU := Lib.hid (build_any lfs [] a none len cap 0 0 _ (h1.kept (Kept.of_below hal [])) (SlR.nil _ _ _))
  clear h1 hal
  go_enter Try.func42, Try.ntmps42
  go_upto_region 1 with (fail)
  generalize w.alloc (.cells #[.int .i64 0, .int .i64 0, .string ⟨#[]⟩, .slice none 0 0] 46) = v0 at *
  go_wp2_with fail
  go_at_call 15
  (with_reducible refine HBU.out.mono ?_)
  rintro e w1 ⟨⟨es, ts, cs, rfl, hT, hle, -, hrk, -⟩, b1⟩
  obtain ⟨aE, cE, aN, cN, aD, cD, aT, cT, aM, cM, aP, cP, hcs, -⟩ := id hT
  have hal := (Below.refl w1.heap.size w1).alloc (Nat.le_refl _) (.cells #[.slice aE es.length cE, .slice aN (nds es).length cN, .slice aD (rks es).length cD, .slice aT ts.length cT, .slice aM (ndsT ts).length cM, .slice aP (rksT ts).length cP] 30)
  have b2 := b1.trans (hal.mono b1.size)
  have HB1 := Lib.hid (HB0.out.trans (b2.mono HB0.out.size))
  have BR1 := Lib.hid (BR.out.below b2)
  have HT0 := Lib.hid (hT.kept (Kept.of_below hal []))
  have BT0 := Lib.hid (Mem.Blk.new w1 30 #[.slice aE es.length cE, .slice aN (nds es).length cN, .slice aD (rks es).length cD, .slice aT ts.length cT, .slice aM (ndsT ts).length cM, .slice aP (rksT ts).length cP])
  have HRK := Lib.hid hrk
  subst hcs
  clear hT b1 b2 hrk HBU hal HB0 BR
  go_upto_region 2 with (fail)
  generalize w1.alloc (.cells #[.slice aE es.length cE, .slice aN (nds es).length cN, .slice aD (rks es).length cD, .slice aT ts.length cT, .slice aM (ndsT ts).length cM, .slice aP (rksT ts).length cP] 30) = v at *
  generalize w1.heap.size = tb at *
  have c0 : v.cell? ⟨tb, 0, none⟩ = _ := BT0.out.cell 0
  have c1 : v.cell? ⟨tb, 1, none⟩ = _ := BT0.out.cell 1
  have c2 : v.cell? ⟨tb, 2, none⟩ = _ := BT0.out.cell 2
  have c3 : v.cell? ⟨tb, 3, none⟩ = _ := BT0.out.cell 3
  have c4 : v.cell? ⟨tb, 4, none⟩ = _ := BT0.out.cell 4
  have c5 : v.cell? ⟨tb, 5, none⟩ = _ := BT0.out.cell 5
  simp only [List.getElem?_toArray, List.getElem?_cons_zero, List.getElem?_cons_succ] at c0 c1 c2 c3 c4 c5
  by_cases h0 : es.length = 0
  · have h0' : ((es.length : Nat) : Int) = 0 := by omega
    have h0b : (((es.length : Nat) : Int) == 0) = true := by rw [h0']; rfl
    obtain ⟨t0, t1, t2, t3, t4, t5, t6, t7⟩ := blk4 BR1.out
    have hm9 := BR1.out.lt
    have HFN := Lib.hid (ret4E (X := []) (e := .mk 0 0 ⟨#[]⟩ []) (c0 := .int .i64 0) (c1 := .int .i64 0) (c2 := .string ⟨#[]⟩) (c3 := .slice none 0 0) HB1.out (Nat.le_refl _) BR1.out (RepE.mk' (by unfold I64; omega) (by unfold I64; omega) (by decide) (SlE.nil _ _)))
    go_wp2_with fail
    generalize (((v.setCell ⟨w.heap.size, 0, none⟩ (.int .i64 0)).setCell ⟨w.heap.size, 1, none⟩ (.int .i64 0)).setCell ⟨w.heap.size, 2, none⟩ (.string ⟨#[]⟩)).setCell ⟨w.heap.size, 3, none⟩ (.slice none 0 0) = W9 at *
    obtain ⟨r0, r1, r2, r3, -, -, -, -⟩ := blk4 HFN.out.2.2
    refine bodyPost_ret (v := .tuple #[.agg #[.int .i64 0, .int .i64 0, .string ⟨#[]⟩, .slice none 0 0], .bool false]) (by simp [results, Try.results42, go_sem, r0, r1, r2, r3]) rfl ⟨.inl ⟨_, rfl, rfl⟩, HFN.out.2.1⟩
  · obtain ⟨m, hm⟩ : ∃ m, es.length = m + 1 := ⟨es.length - 1, by omega⟩
    have h0b : (((es.length : Nat) : Int) == 0) = false := beq_eq_false_iff_ne.2 (by omega)
    obtain ⟨t, ht⟩ : ∃ t, es[m]? = some t := ⟨_, List.getElem?_eq_getElem (by omega)⟩
    have HRt := Lib.hid (HRK.out t (List.mem_of_getElem? ht))
    have HRE := Lib.hid (treeRightE_any HT0.out m ht (by have := HRt.out; omega))
    obtain ⟨_, _, _, _, _, _, _, _, _, _, _, _, e, h4, -⟩ := id HT0.out
    injection e with e3 e
    injection e3 with e3 _ e3'
    subst e3; subst e3'
    clear e
    obtain ⟨bt, ot, xt, ct, rfl, -, -, hxt, hRt, -, hct⟩ := h4.at m (by omega)
    obtain rfl : t = xt := by rw [ht] at hxt; injection hxt
    have HRT := Lib.hid (show RepE v [] t ct from hRt)
    have HQ2 := Lib.hid (fun W (hW : Below v.heap.size v W) (hb : bE t = true) => rkind_any t.rk t (Nat.le_refl _) hb ct W (HRT.out.kept (Kept.of_below hW [])))
    obtain ⟨o5, n5, m5, r5, a5, l5, p5, -, rfl, -, -, -, -⟩ := HRT.out.inv
    have v0 : v.cell? ⟨bt, ot + m * 4, none⟩ = some (.int .i64 o5) := hct 0 _ rfl
    have v1 : v.cell? ⟨bt, ot + m * 4 + 1, none⟩ = some (.int .i64 n5) := hct 1 _ rfl
    have v2 : v.cell? ⟨bt, ot + m * 4 + 2, none⟩ = some (.string m5) := hct 2 _ rfl
    have v3 : v.cell? ⟨bt, ot + m * 4 + 3, none⟩ = some (.slice a5 l5 p5) := hct 3 _ rfl
    have w1' : IntKind.i64.wrap (((es.length : Nat) : Int) - 1) = ((m : Nat) : Int) := by rw [IntWalk.i64_in _ (by omega)]; omega
    have w2' : ((es.length : Nat) : Int) - 1 = ((m : Nat) : Int) := by omega
    have m1 : (m : Int) < (es.length : Int) := by omega
    have m0 : (0 : Int) ≤ (m : Int) := by omega
    clear h4 hxt hRt hct ht hm
    have HBE := Lib.hid (@rE_blt t)
    obtain ⟨re, hre⟩ : ∃ re, re = rE t := ⟨_, rfl⟩
    have HRE' := Lib.hid hre
    rw [← hre] at HRE
    clear hre
    generalize es.length = L at *
    go_wp2_with fail
    go_at_call 24
    (with_reducible refine HRE.out.mono ?_)
    rintro y w3 ⟨rfl, b3⟩
    have HB3 := Lib.hid (HB1.out.trans (b3.mono HB1.out.size))
    have BT3 := Lib.hid (BT0.out.below b3)
    have BR3 := Lib.hid (BR1.out.below b3)
    replace v0 := cell_up v0 b3
    replace v1 := cell_up v1 b3
    replace v2 := cell_up v2 b3
    replace v3 := cell_up v3 b3
    have HR3 := Lib.hid (HRT.out.kept (Kept.of_below b3 []))
    have HW3 := Lib.hid b3
    clear b3 HRE c0 c1 c2 c3 c4 c5 BT0 BR1 HB1 HT0
    have c0 : w3.cell? ⟨tb, 0, none⟩ = _ := BT3.out.cell 0
    have c1 : w3.cell? ⟨tb, 1, none⟩ = _ := BT3.out.cell 1
    have c2 : w3.cell? ⟨tb, 2, none⟩ = _ := BT3.out.cell 2
    have c3 : w3.cell? ⟨tb, 3, none⟩ = _ := BT3.out.cell 3
    have c4 : w3.cell? ⟨tb, 4, none⟩ = _ := BT3.out.cell 4
    have c5 : w3.cell? ⟨tb, 5, none⟩ = _ := BT3.out.cell 5
    simp only [List.getElem?_toArray, List.getElem?_cons_zero, List.getElem?_cons_succ] at c0 c1 c2 c3 c4 c5
    cases re with
    | false =>
      obtain ⟨t0, t1, t2, t3, t4, t5, t6, t7⟩ := blk4 BR3.out
      have hm9 := BR3.out.lt
      have HFN := Lib.hid (ret4E (X := []) (e := .mk 0 0 ⟨#[]⟩ []) (c0 := .int .i64 0) (c1 := .int .i64 0) (c2 := .string ⟨#[]⟩) (c3 := .slice none 0 0) HB3.out (Nat.le_refl _) BR3.out (RepE.mk' (by unfold I64; omega) (by unfold I64; omega) (by decide) (SlE.nil _ _)))
      go_wp2_with fail
      generalize (((w3.setCell ⟨w.heap.size, 0, none⟩ (.int .i64 0)).setCell ⟨w.heap.size, 1, none⟩ (.int .i64 0)).setCell ⟨w.heap.size, 2, none⟩ (.string ⟨#[]⟩)).setCell ⟨w.heap.size, 3, none⟩ (.slice none 0 0) = W9 at *
      obtain ⟨r0, r1, r2, r3, -, -, -, -⟩ := blk4 HFN.out.2.2
      refine bodyPost_ret (v := .tuple #[.agg #[.int .i64 0, .int .i64 0, .string ⟨#[]⟩, .slice none 0 0], .bool false]) (by simp [results, Try.results42, go_sem, r0, r1, r2, r3]) rfl ⟨.inl ⟨_, rfl, rfl⟩, HFN.out.2.1⟩
    | true =>
      have HC := Lib.hid (HQ2.out w3 HW3.out (HBE.out HRE'.out.symm))
      go_wp2_with fail
      go_at_call 25
      (with_reducible refine HC.out.mono ?_)
      rintro y w4 ⟨rfl, b4⟩
      have HB4 := Lib.hid (HB3.out.trans (b4.mono HB3.out.size))
      have BT4 := Lib.hid (BT3.out.below b4)
      have BR4 := Lib.hid (BR3.out.below b4)
      replace v0 := cell_up v0 b4
      replace v1 := cell_up v1 b4
      replace v2 := cell_up v2 b4
      replace v3 := cell_up v3 b4
      have HR4 := Lib.hid (HR3.out.kept (Kept.of_below b4 []))
      clear b4 c0 c1 c2 c3 c4 c5 BT3 BR3 HB3 HC HR3 HW3
      have c0 : w4.cell? ⟨tb, 0, none⟩ = _ := BT4.out.cell 0
      have c1 : w4.cell? ⟨tb, 1, none⟩ = _ := BT4.out.cell 1
      have c2 : w4.cell? ⟨tb, 2, none⟩ = _ := BT4.out.cell 2
      have c3 : w4.cell? ⟨tb, 3, none⟩ = _ := BT4.out.cell 3
      have c4 : w4.cell? ⟨tb, 4, none⟩ = _ := BT4.out.cell 4
      have c5 : w4.cell? ⟨tb, 5, none⟩ = _ := BT4.out.cell 5
      simp only [List.getElem?_toArray, List.getElem?_cons_zero, List.getElem?_cons_succ] at c0 c1 c2 c3 c4 c5
      by_cases hk : kE t = 0
      · rw [hk]
        obtain ⟨t0, t1, t2, t3, t4, t5, t6, t7⟩ := blk4 BR4.out
        have hm9 := BR4.out.lt
        have HFN := Lib.hid (ret4E (X := []) (e := .mk 0 0 ⟨#[]⟩ []) (c0 := .int .i64 0) (c1 := .int .i64 0) (c2 := .string ⟨#[]⟩) (c3 := .slice none 0 0) HB4.out (Nat.le_refl _) BR4.out (RepE.mk' (by unfold I64; omega) (by unfold I64; omega) (by decide) (SlE.nil _ _)))
        go_wp2_with fail
        generalize (((w4.setCell ⟨w.heap.size, 0, none⟩ (.int .i64 0)).setCell ⟨w.heap.size, 1, none⟩ (.int .i64 0)).setCell ⟨w.heap.size, 2, none⟩ (.string ⟨#[]⟩)).setCell ⟨w.heap.size, 3, none⟩ (.slice none 0 0) = W9 at *
        obtain ⟨r0, r1, r2, r3, -, -, -, -⟩ := blk4 HFN.out.2.2
        refine bodyPost_ret (v := .tuple #[.agg #[.int .i64 0, .int .i64 0, .string ⟨#[]⟩, .slice none 0 0], .bool false]) (by simp [results, Try.results42, go_sem, r0, r1, r2, r3]) rfl ⟨.inl ⟨_, rfl, rfl⟩, HFN.out.2.1⟩
      · have hkb : (kE t == 0) = false := beq_eq_false_iff_ne.2 hk
        have HK := Lib.hid hk
        have HFN := Lib.hid (ret4E HB4.out (Nat.le_refl _) BR4.out (rep_off BR4.out t.rk t (Nat.le_refl _) (HBE.out HRE'.out.symm) _ HR4.out))
        obtain ⟨t0, t1, t2, t3, t4, t5, t6, t7⟩ := blk4 BR4.out
        have hm9 := BR4.out.lt
        clear HB4 BR4 HR4 HQ2 hk
        obtain ⟨kt, hkt⟩ : ∃ kt, kt = kE t := ⟨_, rfl⟩
        have HKT := Lib.hid hkt
        rw [← hkt] at hkb ⊢
        clear hkt
        go_wp2_with fail
        generalize (((w4.setCell ⟨w.heap.size, 0, none⟩ (.int .i64 o5)).setCell ⟨w.heap.size, 1, none⟩ (.int .i64 n5)).setCell ⟨w.heap.size, 2, none⟩ (.string m5)).setCell ⟨w.heap.size, 3, none⟩ (.slice a5 l5 p5) = W9 at *
        obtain ⟨r0, r1, r2, r3, -, -, -, -⟩ := blk4 HFN.out.2.2
        refine bodyPost_ret (v := .tuple #[.agg #[.int .i64 o5, .int .i64 n5, .string m5, .slice a5 l5 p5], .bool true]) (by simp [results, Try.results42, go_sem, r0, r1, r2, r3]) rfl ⟨.inr ⟨t, _, rfl, HFN.out.1, HRE'.out.symm, ?_, HRt.out⟩, HFN.out.2.1⟩
        exact HK.out
end Go.Proofs.Ytppnmeobnilojaa

/- law22.env again: what it answers is a row of its own, that may be grown. -/
namespace Go.Proofs.Ytppnmeobnilojaa
set_option linter.unusedVariables false
set_option linter.unusedSimpArgs false
open Go.RowKit
theorem EnvJ.finO {w wr : World} {day : Int} {a : Option Addr} {len cap : Nat} {fs : List Fx} {aA : Option Addr} {cA : Nat} (h : EnvJ w wr day a len cap fs (.slice aA fs.length cA)) :
    (∃ csl : List (List Value), csl.length = fs.length ∧ (∀ (i : Nat) x cs, fs[i]? = some x → csl[i]? = some cs → cs = fxC x) ∧ ((wr.setCell ⟨w.heap.size + 1, 0, none⟩ (.int .i64 day)).setCell ⟨w.heap.size + 1, 1, none⟩ (.slice aA fs.length cA)).ownsRow w.heap.size 83 3 (.slice aA fs.length cA) fs.length csl.flatten) ∧
    Below w.heap.size w ((wr.setCell ⟨w.heap.size + 1, 0, none⟩ (.int .i64 day)).setCell ⟨w.heap.size + 1, 1, none⟩ (.slice aA fs.length cA)) ∧
    Mem.Blk ((wr.setCell ⟨w.heap.size + 1, 0, none⟩ (.int .i64 day)).setCell ⟨w.heap.size + 1, 1, none⟩ (.slice aA fs.length cA)) (w.heap.size + 1) 63 #[.int .i64 day, .slice aA fs.length cA] := by
  have h1 := (h.sep.store 2 rfl 0 (.int .i64 day)).store 2 rfl 1 (.slice aA fs.length cA)
  obtain ⟨csl, hG⟩ := h1.at 0 rfl
  have hl : w.heap.size ≤ w.heap.size + 1 := by omega
  exact ⟨⟨csl, hG.count, fun i x cs hx hc => (hG.elts i x cs hx hc).1, hG.own⟩, (h.below.setCell hl _).setCell hl _, h1.blk 2 rfl⟩
/-- What is seen, answered as a row of the call's own. -/
def RetVo (w0 w : World) (day : Int) (fs : List Fx) (x : Ending) : Prop := ∃ a cap, x = .returned (.agg #[.int .i64 day, .slice a fs.length cap]) ∧
  ∃ csl : List (List Value), csl.length = fs.length ∧ (∀ (i : Nat) y cs, fs[i]? = some y → csl[i]? = some cs → cs = fxC y) ∧ w.ownsRow w0.heap.size 83 3 (.slice a fs.length cap) fs.length csl.flatten
set_option maxRecDepth 100000 in
set_option maxHeartbeats 2000000 in
theorem envO_any (day : Int) (fx : List Fx) (a : Option Addr) (len cap : Nat) (w : World) (hS : SlR fxK w [] fx a len cap) (h2 : len ≤ 200) :
    Calls Try.prog 36 #[.agg #[.int .i64 day, .slice a len cap]] w fun x w' => RetVo w w' day fx x ∧ Below w.heap.size w w' := by
  obtain ⟨f1, f2, f3⟩ := hS.facts
  have HL := Lib.hid f1
  have HSS := Lib.hid hS
  have HR0 := Lib.hid (EnvJ.start (w := w) (day := day) (a := a) (len := len) (cap := cap))
  clear hS f1
  go_enter Try.func36, Try.ntmps36
  go_upto_region 2 with (fail)
  generalize ((w.alloc (.cells #[.int .i64 day, .slice a len cap] 58)).alloc (.cells #[.int .i64 0, .slice none 0 0] 63)).alloc (.cells #[.int .i64 day, .slice none 0 0] 63) = v at *
  go_wp2_with fail
  go_loopw [4] (fun i wr => ∃ (k : Nat) (vA : Value), i = .int .i64 (k : Nat) ∧ k ≤ len ∧ Hid (EnvJ w wr day a len cap (fx.take k) vA)) (fun i _ => len - (intOf i).toNat)
  case atStart => exact ⟨0, _, rfl, Nat.zero_le _, HR0.out⟩
  case round =>
    clear HR0
    obtain ⟨k, vA, rfl, hk, HR⟩ := hrel
    obtain ⟨e0, e1, -, -⟩ := (HR.out.sep.blk 3 rfl).two
    have hlk : (fx.take k).length = k := by rw [List.length_take, HL.out]; omega
    have HLK := Lib.hid hlk
    by_cases hlt : k < len
    · have j1' : (k : Int) < (len : Int) := by omega
      obtain ⟨b, o, f, rfl, -, -, hxe, hsz, q1, q2, u0, u1, u2⟩ := fx_at (HSS.out.kept (Kept.of_below HR.out.below [])) k hlt
      have HTK : Hid (fx.take (k + 1) = fx.take k ++ [f]) := by
        show fx.take (k + 1) = _
        obtain ⟨hk', he⟩ := List.getElem?_eq_some_iff.1 hxe
        rw [← he]; exact (List.take_append_getElem hk').symm
      have HFX : Hid (f.name.size ≤ 9223372036854775807 ∧ I64 f.day ∧ I64 f.val) := ⟨hsz, q1, q2⟩
      clear hxe hlk hsz q1 q2
      have d1 : wr.cell? ⟨w.heap.size + 1 + 1, 1, none⟩ = some vA := (HR.out.sep.blk 1 rfl).cell 1
      generalize fx.take k = FS at *
      go_wp2_with fail
      refine wp_region_till (S := fun W => W.cell? ⟨w.heap.size + 1 + 1, 1, none⟩ = some vA ∧ W.cell? ⟨w.heap.size, 1, none⟩ = some (.slice (some ⟨b, o, none⟩) len cap) ∧ W.cell? ⟨b, o + k * 3, none⟩ = some (.string f.name) ∧ W.cell? ⟨b, o + k * 3 + 1, none⟩ = some (.int .i64 f.day) ∧ W.cell? ⟨b, o + k * 3 + 2, none⟩ = some (.int .i64 f.val)) 8 (by kernel_rfl) ?_
      refine till_take (i := 0) (v := ?_) rfl (by kernel_rfl) (fun _ _ _ h => h) (Or.inl ⟨by rfl, ?_⟩) ⟨d1,e1,u0,u1,u2⟩ ?_
      rotate_left
      · intro W hS
        try dsimp only at hS
        go_split_ands
        go_simp
        try with_reducible rfl
      try simp only [Act.put, List.getElem_toArray, List.getElem_cons_zero, List.getElem_cons_succ, List.setIfInBounds_toArray, List.set_cons_zero, List.set_cons_succ]
      refine till_take (i := 1) (v := ?_) rfl (by kernel_rfl) (fun _ _ _ h => h) (Or.inl ⟨by rfl, ?_⟩) ⟨d1,e1,u0,u1,u2⟩ ?_
      rotate_left
      · intro W hS
        try dsimp only at hS
        go_split_ands
        go_simp
        try with_reducible rfl
      try simp only [Act.put, List.getElem_toArray, List.getElem_cons_zero, List.getElem_cons_succ, List.setIfInBounds_toArray, List.set_cons_zero, List.set_cons_succ]
      refine till_take (i := 2) (v := ?_) rfl (by kernel_rfl) (fun _ _ _ h => h) (Or.inl ⟨by rfl, ?_⟩) ⟨d1,e1,u0,u1,u2⟩ ?_
      rotate_left
      · intro W hS
        try dsimp only at hS
        go_split_ands
        go_simp
        try with_reducible rfl
      try simp only [Act.put, List.getElem_toArray, List.getElem_cons_zero, List.getElem_cons_succ, List.setIfInBounds_toArray, List.set_cons_zero, List.set_cons_succ]
      refine till_take (i := 3) (v := ?_) rfl (by kernel_rfl) (fun _ _ _ h => h) (Or.inl ⟨by rfl, ?_⟩) ⟨d1,e1,u0,u1,u2⟩ ?_
      rotate_left
      · intro W hS
        try dsimp only at hS
        go_split_ands
        go_simp
        try with_reducible rfl
      try simp only [Act.put, List.getElem_toArray, List.getElem_cons_zero, List.getElem_cons_succ, List.setIfInBounds_toArray, List.set_cons_zero, List.set_cons_succ]
      refine till_take (i := 4) (v := ?_) rfl (by kernel_rfl) (fun _ _ _ h => h) (Or.inl ⟨by rfl, ?_⟩) ⟨d1,e1,u0,u1,u2⟩ ?_
      rotate_left
      · intro W hS
        try dsimp only at hS
        go_split_ands
        go_simp
        try with_reducible rfl
      try simp only [Act.put, List.getElem_toArray, List.getElem_cons_zero, List.getElem_cons_succ, List.setIfInBounds_toArray, List.set_cons_zero, List.set_cons_succ]
      refine till_take (i := 5) (v := ?_) rfl (by kernel_rfl) (fun _ _ _ h => h) (Or.inl ⟨by rfl, ?_⟩) ⟨d1,e1,u0,u1,u2⟩ ?_
      rotate_left
      · intro W hS
        try dsimp only at hS
        go_split_ands
        go_simp
        try with_reducible rfl
      try simp only [Act.put, List.getElem_toArray, List.getElem_cons_zero, List.getElem_cons_succ, List.setIfInBounds_toArray, List.set_cons_zero, List.set_cons_succ]
      refine till_take (i := 6) (v := ?_) rfl (by kernel_rfl) (fun _ _ _ h => h) (Or.inl ⟨by rfl, ?_⟩) ⟨d1,e1,u0,u1,u2⟩ ?_
      rotate_left
      · intro W hS
        try dsimp only at hS
        go_split_ands
        go_simp
        try with_reducible rfl
      try simp only [Act.put, List.getElem_toArray, List.getElem_cons_zero, List.getElem_cons_succ, List.setIfInBounds_toArray, List.set_cons_zero, List.set_cons_succ]
      refine till_one (i := 7) (by kernel_rfl) rfl (fun K' hK => ?_)
      go_simp
      have hbn := below_new wr (.cells #[.string f.name, .int .i64 f.day, .int .i64 f.val] 83)
      have HB2 := Lib.hid (HR.out.up hbn)
      have BZ := Lib.hid (Mem.Blk.new wr 83 #[.string f.name, .int .i64 f.day, .int .i64 f.val]).drew
      refine hK _ _ ⟨cell_up d1 hbn, cell_up e1 hbn, cell_up u0 hbn, cell_up u1 hbn, cell_up u2 hbn⟩ ?_
      clear hK K' hbn HR d1 e0 e1 u0 u1 u2
      generalize (wr.alloc (.cells #[.string f.name, .int .i64 f.day, .int .i64 f.val] 83)).drew = w2 at *
      generalize wr.heap.size = z at *
      try simp only [Act.put, List.getElem_toArray, List.getElem_cons_zero, List.getElem_cons_succ, List.setIfInBounds_toArray, List.set_cons_zero, List.set_cons_succ]
      refine till_last (by kernel_rfl) rfl (by kernel_rfl) (fun K' hK => ?_)
      obtain ⟨csl, hGr⟩ := HB2.out.sep.at 0 rfl
      refine step_ap infoF Try.underlying61 rfl (by decide) rfl (.tmp 16) (.tmp 22) rfl rfl hGr.own hGr.room ⟨z, 0, none⟩ 1 1 [.string f.name, .int .i64 f.day, .int .i64 f.val] rfl rfl (fun m u hm => by rw [Mem.add0, BZ.out.cell]; simpa using hm) (by simp [Value.oneCell']) (by have := HLK.out; unfold maxLen; omega) (by have := HLK.out; omega) ?_
      intro v' w3 og gg hv'
      obtain ⟨g2, capn, rfl, -, -, -, -⟩ := own_form og (by omega)
      refine hK _ _ ?_
      clear hK K'
      obtain ⟨⟨m4, m5⟩, hB3⟩ := HB2.out.push hGr (x := f) (c := fxC f) ⟨rfl, HFX.out⟩ og gg hv'
      have HB3 := Lib.hid hB3
      clear HB2 hGr og gg hv' BZ hB3
      try simp only [Act.put, List.getElem_toArray, List.getElem_cons_zero, List.getElem_cons_succ, List.setIfInBounds_toArray, List.set_cons_zero, List.set_cons_succ]
      refine any_take (i := 9) (v := ?_) rfl (by kernel_rfl) (fun _ _ _ h => h) (Or.inl ⟨by rfl, ?_⟩) ?_
      rotate_left
      · intro W
        go_simp
        try with_reducible rfl
      try simp only [Act.put, List.getElem_toArray, List.getElem_cons_zero, List.getElem_cons_succ, List.setIfInBounds_toArray, List.set_cons_zero, List.set_cons_succ]
      refine any_one (i := 10) (by kernel_rfl) rfl (fun K' hK => ?_)
      go_simp
      refine hK _ _ ?_
      clear hK K' m4 m5
      refine wpAny_done (by kernel_rfl) ?_ _
      rw [← HTK.out] at HB3
      generalize FS.length = ln at *
      obtain rfl : ln = k := HLK.out
      go_wp2_with fail
      go_roundw
      case rel => exact ⟨ln + 1, _, by go_num, by omega, HB3.out⟩
      case measure => simp [intOf]; omega
    · have hk' : ¬ (k : Int) < (len : Int) := by omega
      obtain rfl : k = len := by omega
      have hfk : fx.take k = fx := List.take_of_length_le (by rw [HL.out]; omega)
      rw [hfk] at HR
      obtain ⟨a', cA, rfl, hSv⟩ := HR.out.sep.still 0 rfl
      have HFN := Lib.hid HR.out.finO
      obtain ⟨s0, s1, s2, s3⟩ := (HR.out.sep.blk 1 rfl).two
      obtain ⟨t0, t1, t2, t3⟩ := (HR.out.sep.blk 2 rfl).two
      have hm := (HR.out.sep.blk 2 rfl).lt
      clear hSv HR hfk hlk HLK
      have hfl := HL.out
      clear HL
      subst hfl
      go_wp2_with fail
      generalize (wr.setCell ⟨w.heap.size + 1, 0, none⟩ (.int .i64 day)).setCell ⟨w.heap.size + 1, 1, none⟩ (.slice a' fx.length cA) = W9 at *
      obtain ⟨r0, r1, -, -⟩ := HFN.out.2.2.two
      refine bodyPost_ret (v := .agg #[.int .i64 day, .slice a' fx.length cA]) (by simp [results, Try.results36, go_sem, r0, r1]) rfl ⟨⟨a', cA, rfl, HFN.out.1⟩, HFN.out.2.1⟩
end Go.Proofs.Ytppnmeobnilojaa

/- Slices of texts, read as bytes. -/
namespace Go.Proofs.Ytppnmeobnilojaa
set_option linter.unusedVariables false
set_option linter.unusedSimpArgs false
open Go.RowKit
/-- A text as its bytes. -/
def strK : Elt (List UInt8) where
  sz := 1
  pos := by decide
  R := fun _ _ s cs => cs = [encStr s]
  kept := fun h _ => h
  less := fun h _ => h
  one := fun h => by subst h; exact ⟨rfl, by simp [encStr, Value.oneCell']⟩
theorem below_dN {B : Nat} {a w : World} (h : Below B a w) (n : Nat) : Below B a (w.drewN n) := ⟨h.os, h.tape, h.output, h.size, h.block⟩
end Go.Proofs.Ytppnmeobnilojaa

/- A name put into a rising list at its place: plain. -/
namespace Go.Proofs.Ytppnmeobnilojaa
set_option linter.unusedVariables false
set_option linter.unusedSimpArgs false
open Go.RowKit
abbrev Tx := List UInt8
def ltB (x y : Tx) : Bool := decide (x < y)
def posL (s : Tx) (l : List Tx) : Nat := (l.takeWhile (fun x => ltB x s)).length
def insL (s : Tx) (l : List Tx) : List Tx := if l[posL s l]? = some s then l else l.take (posL s l) ++ s :: l.drop (posL s l)
theorem insL_mem {s x : Tx} {l : List Tx} : x ∈ insL s l ↔ x = s ∨ x ∈ l := by
  unfold insL
  split
  · rename_i h
    constructor
    · exact .inr
    · rintro (rfl | h2)
      · exact List.mem_of_getElem? h
      · exact h2
  · have := List.take_append_drop (posL s l) l
    constructor
    · intro h
      rcases List.mem_append.1 h with h | h
      · exact .inr (List.mem_of_mem_take h)
      · rcases List.mem_cons.1 h with rfl | h
        · exact .inl rfl
        · exact .inr (List.mem_of_mem_drop h)
    · rintro (rfl | h)
      · simp
      · rw [← this] at h
        rcases List.mem_append.1 h with h | h
        · exact List.mem_append.2 (.inl h)
        · exact List.mem_append.2 (.inr (List.mem_cons_of_mem _ h))
theorem insL_cons (s x : Tx) (t : List Tx) : insL s (x :: t) = if ltB x s = true then x :: insL s t else if x = s then x :: t else s :: x :: t := by
  by_cases h : ltB x s = true
  · rw [if_pos h]
    have hp : posL s (x :: t) = posL s t + 1 := by unfold posL; rw [List.takeWhile_cons, if_pos h, List.length_cons]
    unfold insL
    rw [hp, List.getElem?_cons_succ, List.take_succ_cons, List.drop_succ_cons]
    split <;> rfl
  · rw [if_neg h]
    have hp : posL s (x :: t) = 0 := by unfold posL; rw [List.takeWhile_cons, if_neg h]; rfl
    unfold insL
    rw [hp]
    simp
theorem insL_rising {s : Tx} {l : List Tx} (h : l.Pairwise (fun x y => x < y)) : (insL s l).Pairwise (fun x y => x < y) := by
  induction l with
  | nil => simp [insL, posL]
  | cons x t ih =>
    rw [List.pairwise_cons] at h
    rw [insL_cons]
    by_cases hx : ltB x s = true
    · rw [if_pos hx, List.pairwise_cons]
      refine ⟨fun y hy => ?_, ih h.2⟩
      rcases insL_mem.1 hy with rfl | hy
      · exact of_decide_eq_true hx
      · exact h.1 y hy
    · rw [if_neg hx]
      by_cases he : x = s
      · rw [if_pos he, List.pairwise_cons]; exact h
      · rw [if_neg he, List.pairwise_cons, List.pairwise_cons]
        have hlt : s < x := by
          have hx' : ¬ x < s := fun hh => hx (decide_eq_true hh)
          by_cases h1 : s < x
          · exact h1
          · exact absurd (List.le_antisymm (List.not_lt.1 h1) (List.not_lt.1 hx')) he
        refine ⟨fun y hy => ?_, h⟩
        rcases List.mem_cons.1 hy with rfl | hy
        · exact hlt
        · exact List.lt_trans hlt (h.1 y hy)
/-- Names put in one behind another. -/
def putL (l : List Tx) (ns : List ByteArray) : List Tx := ns.foldl (fun acc s => insL s.data.toList acc) l
theorem putL_mem {x : Tx} : ∀ (ns : List ByteArray) (l : List Tx), x ∈ putL l ns ↔ x ∈ l ∨ ∃ s ∈ ns, s.data.toList = x
  | [], l => by simp [putL]
  | n :: t, l => by
    have : putL l (n :: t) = putL (insL n.data.toList l) t := rfl
    rw [this, putL_mem t, insL_mem]
    simp only [List.mem_cons, exists_eq_or_imp]
    constructor
    · rintro ((h | h) | h)
      · exact .inr (.inl h.symm)
      · exact .inl h
      · exact .inr (.inr h)
    · rintro (h | h | h)
      · exact .inl (.inr h)
      · exact .inl (.inl h.symm)
      · exact .inr h
theorem putL_rising : ∀ (ns : List ByteArray) (l : List Tx), l.Pairwise (fun x y => x < y) → (putL l ns).Pairwise (fun x y => x < y)
  | [], _, h => h
  | n :: t, l, h => putL_rising t _ (insL_rising h)
theorem putL_append (l : List Tx) (a b : List ByteArray) : putL l (a ++ b) = putL (putL l a) b := List.foldl_append ..
/-- Rising lists of the same texts are one. -/
theorem rising_eq : ∀ (l l' : List Tx), l.Pairwise (fun x y => x < y) → l'.Pairwise (fun x y => x < y) → (∀ x, x ∈ l ↔ x ∈ l') → l = l'
  | [], [], _, _, _ => rfl
  | [], y :: t, _, _, h => absurd ((h y).2 (List.mem_cons_self ..)) List.not_mem_nil
  | x :: t, [], _, _, h => absurd ((h x).1 (List.mem_cons_self ..)) List.not_mem_nil
  | x :: t, y :: u, h1, h2, h => by
    rw [List.pairwise_cons] at h1 h2
    have hxy : x = y := by
      rcases List.mem_cons.1 ((h x).1 (List.mem_cons_self ..)) with e | e
      · exact e
      · rcases List.mem_cons.1 ((h y).2 (List.mem_cons_self ..)) with e' | e'
        · exact e'.symm
        · exact absurd (List.lt_trans (h1.1 y e') (h2.1 x e)) (List.lt_irrefl x)
    subst hxy
    rw [rising_eq t u h1.2 h2.2 (fun z => ?_)]
    constructor
    · intro hz
      rcases List.mem_cons.1 ((h z).1 (List.mem_cons_of_mem _ hz)) with rfl | e
      · exact absurd (h1.1 _ hz) (List.lt_irrefl _)
      · exact e
    · intro hz
      rcases List.mem_cons.1 ((h z).2 (List.mem_cons_of_mem _ hz)) with rfl | e
      · exact absurd (h2.1 _ hz) (List.lt_irrefl _)
      · exact e
end Go.Proofs.Ytppnmeobnilojaa

/- What a call that writes the blocks of X leaves: all other blocks stay. -/
namespace Go.Proofs.Ytppnmeobnilojaa
set_option linter.unusedVariables false
set_option linter.unusedSimpArgs false
open Go.RowKit
structure Fr (X : List Nat) (w w' : World) : Prop where
  os : w'.os = w.os
  tape : w'.tape = w.tape
  output : w'.output = w.output
  kept : Kept X w w'
section
variable {X X' : List Nat} {w w' w'' : World}
theorem Fr.refl (X : List Nat) (w : World) : Fr X w w := ⟨rfl, rfl, rfl, Kept.refl w X⟩
theorem Fr.trans (h : Fr X w w') (k : Fr X w' w'') : Fr X w w'' := ⟨k.os.trans h.os, k.tape.trans h.tape, k.output.trans h.output, h.kept.trans k.kept⟩
theorem Fr.more (h : Fr X w w') (hX : ∀ b, b ∈ X → b ∈ X') : Fr X' w w' := ⟨h.os, h.tape, h.output, h.kept.more hX⟩
theorem Fr.of_below (h : Below w.heap.size w w') (X : List Nat) : Fr X w w' := ⟨h.os, h.tape, h.output, Kept.of_below h X⟩
theorem Fr.alloc (w : World) (o : Obj) (X : List Nat) : Fr X w (w.alloc o) := .of_below ((Below.refl _ w).alloc (Nat.le_refl _) o) X
theorem Fr.drew (w : World) (X : List Nat) : Fr X w w.drew := .of_below (Below.refl _ w).drew X
theorem Fr.of_grown {g : Nat} (h : w.grownBy w' (some g)) (hg : g ∈ X) : Fr X w w' :=
  have b : Below 0 w w' := (Below.refl 0 w).grown h (Nat.zero_le _) (fun _ _ => Nat.zero_le _)
  ⟨b.os, b.tape, b.output, Kept.of_grown h hg⟩
theorem Fr.setCell (w : World) {p : Addr} (hp : p.block ∈ X) (v : Value) : Fr X w (w.setCell p v) :=
  have b : Below 0 w (w.setCell p v) := (Below.refl 0 w).setCell (Nat.zero_le _) v
  ⟨b.os, b.tape, b.output, Kept.setCell w hp v⟩
theorem Fr.size (h : Fr X w w') : w.heap.size ≤ w'.heap.size := h.kept.1
theorem Fr.below {B : Nat} (h : Fr X w w') (hB : B ≤ w.heap.size) (hX : ∀ b ∈ X, B ≤ b) : Below B w w' :=
  ⟨h.os, h.tape, h.output, h.kept.1, fun k hk => h.kept.2 k (by omega) (fun hm => by have := hX k hm; omega)⟩
/-- What was written in new blocks is nothing. -/
theorem Fr.fresh (h : Fr X w w') (hX : ∀ b ∈ X, b ∈ X' ∨ w.heap.size ≤ b) : Fr X' w w' :=
  ⟨h.os, h.tape, h.output, h.kept.1, fun b hb hx => h.kept.2 b hb (fun hm => (hX b hm).elim hx (fun h1 => by omega))⟩
theorem Fr.blk {g : Nat} {t : TypeId} {cs : Array Value} (h : Fr X w w') (hB : Mem.Blk w g t cs) (hg : g ∉ X) : Mem.Blk w' g t cs := (h.kept.2 g hB.lt hg).trans hB
theorem Fr.map {H : Type} {P : Program} {k : TypeId} {R : Value → Option (DataW H × List MemPlace)} {b n : Nat} {D : DataW H} (h : Fr X w w') (hM : w.ownsMap P k R b n D) (hg : b ∉ X) : w'.ownsMap P k R b n D := by
  have hlt := hM.lt
  obtain ⟨es, clock, hb, r⟩ := hM
  exact ⟨es, clock, (h.kept.2 b hlt hg).trans hb, r⟩
theorem Fr.cell {p : Addr} {v : Value} (h : Fr X w w') (hc : w.cell? p = some v) (hg : p.block ∉ X) : w'.cell? p = some v := by
  have hlt : p.block < w.heap.size := by
    rcases Nat.lt_or_ge p.block w.heap.size with h1 | h1
    · exact h1
    · have : w.heap[p.block]? = none := Array.getElem?_eq_none h1
      simp [World.cell?, this] at hc
  rw [World.cell?_of_block (w := w) (h.kept.2 p.block hlt hg)]; exact hc
end
end Go.Proofs.Ytppnmeobnilojaa

/- (As Set, where term.Simple is not at hand.) Sets of names as maps hold them: how many different ones there are. -/
namespace Go.Proofs.Ytppnmeobnilojaa
set_option linter.unusedVariables false
set_option linter.unusedSimpArgs false
open Go.RowKit
def nmL (s : ByteArray) : Lit := .string s.data.toList
def setD (l : List ByteArray) : DataW Unit := Maps.setOf (.lit (.bool true)) (l.map nmL)
theorem setD_nil : setD [] = .map [] := rfl
theorem setD_snoc (l : List ByteArray) (s : ByteArray) : (setD l).put (nmL s) (.lit (.bool true)) = setD (l ++ [s]) := by
  unfold setD; rw [List.map_append, List.map_singleton, Maps.setOf_snoc]
theorem isKey_nmL (s : ByteArray) : WideAt.IsKeyLit (nmL s) := by unfold nmL; simp [WideAt.IsKeyLit]
theorem nmL_inj {s s' : ByteArray} (h : nmL s = nmL s') : s = s' := by
  unfold nmL at h
  injection h with h
  obtain ⟨⟨a⟩⟩ := s
  obtain ⟨⟨b⟩⟩ := s'
  simpa using h
theorem addKey_mem {acc : List Lit} {x y : Lit} (hx : WideAt.IsKeyLit x) (hacc : ∀ a ∈ acc, WideAt.IsKeyLit a) : y ∈ Maps.addKey acc x ↔ y ∈ acc ∨ y = x := by
  unfold Maps.addKey
  split
  · rename_i h
    constructor
    · exact .inl
    · rintro (h1 | rfl)
      · exact h1
      · obtain ⟨a, ha, hs⟩ := List.any_eq_true.1 h
        rw [← WideAt.sameKey_eq hs]; exact ha
  · simp
theorem addKey_nodup {acc : List Lit} {x : Lit} (hx : WideAt.IsKeyLit x) (h : acc.Nodup) : (Maps.addKey acc x).Nodup := by
  unfold Maps.addKey
  split
  · exact h
  · rename_i hn
    rw [List.nodup_append]
    refine ⟨h, by simp, fun a ha b hb e => ?_⟩
    rw [List.mem_singleton] at hb
    subst hb; subst e
    exact hn (List.any_eq_true.2 ⟨a, ha, WideAt.sameKey_self hx⟩)
theorem fold_addKey : ∀ (xs acc : List Lit), (∀ x ∈ xs, WideAt.IsKeyLit x) → (∀ x ∈ acc, WideAt.IsKeyLit x) → acc.Nodup → (xs.foldl Maps.addKey acc).Nodup ∧ ∀ y, y ∈ xs.foldl Maps.addKey acc ↔ y ∈ acc ∨ y ∈ xs
  | [], acc, _, _, hn => ⟨hn, fun y => by simp⟩
  | x :: t, acc, hx, ha, hn => by
    have hx0 := hx x (by simp)
    have h1 := fold_addKey t (Maps.addKey acc x) (fun y hy => hx y (by simp [hy])) (fun y hy => by
      rcases (addKey_mem hx0 ha).1 hy with h | rfl
      · exact ha y h
      · exact hx0) (addKey_nodup hx0 hn)
    refine ⟨h1.1, fun y => ?_⟩
    rw [List.foldl_cons, h1.2 y, addKey_mem hx0 ha, List.mem_cons]
    constructor
    · rintro ((h | h) | h)
      · exact .inl h
      · exact .inr (.inl h)
      · exact .inr (.inr h)
    · rintro (h | h | h)
      · exact .inl (.inl h)
      · exact .inl (.inr h)
      · exact .inr h
theorem len_le_of_sub {α : Type} : ∀ (l l' : List α), l.Nodup → (∀ x ∈ l, x ∈ l') → l.length ≤ l'.length
  | [], _, _, _ => Nat.zero_le _
  | x :: t, l', hn, hs => by
    obtain ⟨hx, ht⟩ := List.nodup_cons.1 hn
    obtain ⟨s, u, rfl⟩ := List.append_of_mem (hs x (by simp))
    have h := len_le_of_sub t (s ++ u) ht (fun y hy => by
      have h1 := hs y (by simp [hy])
      rw [List.mem_append, List.mem_cons] at h1
      rw [List.mem_append]
      rcases h1 with h1 | rfl | h1
      · exact .inl h1
      · exact absurd hy hx
      · exact .inr h1)
    simp only [List.length_append, List.length_cons] at h ⊢
    omega
theorem keys_nmL (l : List ByteArray) : ∀ x ∈ l.map nmL, WideAt.IsKeyLit x := by
  intro x hx
  obtain ⟨s, _, rfl⟩ := List.mem_map.1 hx
  exact isKey_nmL s
theorem size_setD_le {l l' : List ByteArray} (h : ∀ s ∈ l, s ∈ l') : Maps.size (setD l) ≤ Maps.size (setD l') := by
  unfold setD
  rw [Maps.size_setOf _ _ (keys_nmL l), Maps.size_setOf _ _ (keys_nmL l')]
  have h1 := fold_addKey (l.map nmL) [] (keys_nmL l) (by simp) (by simp)
  have h2 := fold_addKey (l'.map nmL) [] (keys_nmL l') (by simp) (by simp)
  refine len_le_of_sub _ _ h1.1 (fun y hy => ?_)
  rcases (h1.2 y).1 hy with h3 | h3
  · cases h3
  · obtain ⟨s, hs, rfl⟩ := List.mem_map.1 h3
    exact (h2.2 _).2 (.inr (List.mem_map.2 ⟨s, h s hs, rfl⟩))
theorem blk4' {w : World} {g : Nat} {t : TypeId} {a b c d : Value} (h : Mem.Blk w g t #[a, b, c, d]) : w.cell? ⟨g, 0, none⟩ = some a ∧ w.cell? ⟨g, 1, none⟩ = some b ∧ w.cell? ⟨g, 2, none⟩ = some c ∧ w.cell? ⟨g, 3, none⟩ = some d ∧
    w.frozen? ⟨g, 0, none⟩ = false ∧ w.frozen? ⟨g, 1, none⟩ = false ∧ w.frozen? ⟨g, 2, none⟩ = false ∧ w.frozen? ⟨g, 3, none⟩ = false :=
  ⟨h.cell 0, h.cell 1, h.cell 2, h.cell 3, h.frozen 0, h.frozen 1, h.frozen 2, h.frozen 3⟩
theorem nd_take_le (l : List Ex) (k : Nat) : Ex.nd.go (l.take k) ≤ Ex.nd.go l := by
  induction l generalizing k with
  | nil => simp [Ex.nd.go]
  | cons x t ih =>
    cases k with
    | zero => simp [Ex.nd.go]
    | succ k => simp only [List.take_succ_cons, Ex.nd.go]; have := ih k; omega
end Go.Proofs.Ytppnmeobnilojaa

/- What is sorted of a set's keys is the rising list of its names: plain. -/
namespace Go.Proofs.Ytppnmeobnilojaa
set_option linter.unusedVariables false
set_option linter.unusedSimpArgs false
open Go.RowKit
theorem fold_keys (u : DataW Unit) (P : Lit → Prop) : ∀ (acc : List Lit) (es : List (Lit × DataW Unit)), (∀ p ∈ es, P p.1) → (∀ x ∈ acc, P x) → ∃ es', acc.foldl (fun m x => DataW.put m x u) (.map es) = .map es' ∧ ∀ p ∈ es', P p.1
  | [], es, h, _ => ⟨es, rfl, h⟩
  | x :: t, es, h, ha => by
    have e1 : DataW.put (.map es) x u = .map (DataW.insert (x, u) (es.filter fun p => !p.1.sameKey x)) := rfl
    rw [List.foldl_cons, e1]
    refine fold_keys u P t _ (fun p hp => ?_) (fun y hy => ha y (List.mem_cons_of_mem _ hy))
    rcases List.mem_cons.1 ((Go.WideShapes.insert_perm (x, u) _).mem_iff.1 hp) with rfl | hp
    · exact ha _ (List.mem_cons_self ..)
    · exact h p (List.mem_filter.1 hp).1
theorem strOf_nmL (s : ByteArray) : Go.strOf (nmL s) = s.data.toList := rfl
theorem keys_setD (l : List ByteArray) : (Go.strKeys (setD l)).Nodup ∧ ∀ x, x ∈ Go.strKeys (setD l) ↔ ∃ s ∈ l, s.data.toList = x := by
  obtain ⟨es, he, hp⟩ := Maps.tidy_setOf (.lit (.bool true) : DataW Unit) (l.map nmL) (keys_nmL l)
  have hh := fun k => Maps.has_setOf (.lit (.bool true) : DataW Unit) k (l.map nmL) (keys_nmL l)
  obtain ⟨es', he', hk⟩ := fold_keys (.lit (.bool true)) (fun k => ∃ s ∈ l, k = nmL s) (l.map nmL) [] (by simp) (fun x hx => by
    obtain ⟨s, hs, rfl⟩ := List.mem_map.1 hx
    exact ⟨s, hs, rfl⟩)
  have e2 : setD l = .map es := he
  have e3 : (DataW.map es : DataW Unit) = .map es' := he.symm.trans he'
  injection e3 with e3
  subst e3
  rw [e2]
  rw [show Maps.setOf (.lit (.bool true)) (l.map nmL) = DataW.map es from he] at hh
  show (es.map fun p => Go.strOf p.1).Nodup ∧ ∀ x, x ∈ (es.map fun p => Go.strOf p.1) ↔ _
  constructor
  · rw [List.Nodup, List.pairwise_map]
    refine hp.imp_of_mem (fun {p q} h1 h2 hne e => hne ?_)
    obtain ⟨s, -, hs⟩ := hk p h1
    obtain ⟨s', -, hs'⟩ := hk q h2
    rw [hs, hs', strOf_nmL, strOf_nmL] at e
    rw [hs, hs']
    show Lit.string _ = Lit.string _
    rw [e]
  · intro x
    constructor
    · intro h
      obtain ⟨p, hp, rfl⟩ := List.mem_map.1 h
      obtain ⟨s, hs, he⟩ := hk p hp
      exact ⟨s, hs, by rw [he]; rfl⟩
    · rintro ⟨s, hs, rfl⟩
      have h1 := hh (nmL s)
      have h2 : (l.map nmL).any (fun x => x.sameKey (nmL s)) = true := List.any_eq_true.2 ⟨_, List.mem_map.2 ⟨s, hs, rfl⟩, WideAt.sameKey_self (isKey_nmL s)⟩
      rw [h2] at h1
      obtain ⟨p, hp, hpk⟩ := List.any_eq_true.1 (show es.any (fun p => p.1.sameKey (nmL s)) = true from h1)
      refine List.mem_map.2 ⟨p, hp, ?_⟩
      rw [WideAt.sameKey_eq hpk]; rfl
theorem rising_of {L : List Tx} (h : L.Pairwise (fun x y => x ≤ y)) (hn : L.Nodup) : L.Pairwise (fun x y => x < y) := by
  induction L with
  | nil => exact List.Pairwise.nil
  | cons x t ih =>
    rw [List.pairwise_cons] at h ⊢
    rw [List.nodup_cons] at hn
    refine ⟨fun y hy => ?_, ih h.2 hn.2⟩
    by_cases hlt : x < y
    · exact hlt
    · exact absurd (List.le_antisymm (h.1 y hy) (List.not_lt.1 hlt)) (fun e => hn.1 (e ▸ hy))
theorem needs_list {L : List Tx} {l : List ByteArray} (hp : L.Perm (Go.strKeys (setD l))) (hs : L.Pairwise (fun x y => x ≤ y)) : L = putL [] l := by
  obtain ⟨h1, h2⟩ := keys_setD l
  refine rising_eq _ _ (rising_of hs (hp.nodup_iff.2 h1)) (putL_rising l [] List.Pairwise.nil) (fun x => ?_)
  rw [hp.mem_iff, h2, putL_mem]
  simp
theorem putL_none {l : List ByteArray} (h : (putL [] l).length = 0) : l = [] := by
  cases l with
  | nil => rfl
  | cons s t =>
    have : s.data.toList ∈ putL [] (s :: t) := (putL_mem _ _).2 (.inr ⟨s, List.mem_cons_self .., rfl⟩)
    rw [List.length_eq_zero_iff.1 h] at this
    cases this
theorem insL_len {s : Tx} {l : List Tx} : (insL s l).length ≤ l.length + 1 := by
  unfold insL
  split
  · omega
  · have := congrArg List.length (List.take_append_drop (posL s l) l)
    simp only [List.length_append, List.length_cons] at this ⊢
    omega
theorem putL_len : ∀ (ns : List ByteArray) (l : List Tx), (putL l ns).length ≤ l.length + ns.length
  | [], l => by simp [putL]
  | n :: t, l => by
    have h : putL l (n :: t) = putL (insL n.data.toList l) t := rfl
    have h1 := putL_len t (insL n.data.toList l)
    have h2 := @insL_len n.data.toList l
    rw [h, List.length_cons]; omega
theorem posL_le (s : Tx) (l : List Tx) : posL s l ≤ l.length := by unfold posL; exact (List.takeWhile_prefix _).length_le
theorem posL_lt {s : Tx} : ∀ {l : List Tx} {k : Nat} {x : Tx}, k < posL s l → l[k]? = some x → x < s
  | [], k, x, h, _ => absurd h (by simp [posL])
  | y :: t, k, x, h, hx => by
    unfold posL at h
    rw [List.takeWhile_cons] at h
    by_cases hy : ltB y s = true
    · rw [if_pos hy] at h
      cases k with
      | zero => injection hx with hx; subst hx; exact of_decide_eq_true hy
      | succ k =>
        refine posL_lt (s := s) (l := t) (k := k) ?_ hx
        unfold posL
        rw [List.length_cons] at h; omega
    · rw [if_neg hy] at h
      exact absurd h (by simp)
theorem posL_end {s : Tx} : ∀ {l : List Tx} {x : Tx}, l[posL s l]? = some x → ¬ x < s
  | [], x, h => by simp at h
  | y :: t, x, h => by
    unfold posL at h
    rw [List.takeWhile_cons] at h
    by_cases hy : ltB y s = true
    · rw [if_pos hy, List.length_cons, List.getElem?_cons_succ] at h
      exact posL_end (s := s) (l := t) h
    · rw [if_neg hy] at h
      injection h with h
      subst h
      exact fun hlt => hy (decide_eq_true hlt)
/-- Where no more is less: the place. -/
theorem posL_at {s : Tx} : ∀ {l : List Tx} {k : Nat}, k ≤ l.length → (∀ (i : Nat) x, i < k → l[i]? = some x → x < s) → (∀ x, l[k]? = some x → ¬ x < s) → posL s l = k
  | [], k, hk, _, _ => by have : k = 0 := by simpa using hk
                          subst this; rfl
  | y :: t, k, hk, h1, h2 => by
    unfold posL
    rw [List.takeWhile_cons]
    cases k with
    | zero =>
      have := h2 y rfl
      rw [if_neg (by unfold ltB; simpa using this)]; rfl
    | succ k =>
      have hy := h1 0 y (by omega) rfl
      rw [if_pos (show ltB y s = true from decide_eq_true hy)]
      have := posL_at (s := s) (l := t) (k := k) (by simpa using hk) (fun i x hi hx => h1 (i + 1) x (by omega) hx) (fun x hx => h2 x hx)
      unfold posL at this
      rw [List.length_cons, this]
end Go.Proofs.Ytppnmeobnilojaa
