/- A part of the proof: LawX, one behind another. -/
import Derived.Test.YtppnmeobnilojaaMAA
import Derived.Test.YtppnmeobnilojaaMAB
import Derived.Test.YtppnmeobnilojaaMAC
import Derived.Test.YtppnmeobnilojaaMAD
import Derived.Test.YtppnmeobnilojaaMAE
import Derived.Test.YtppnmeobnilojaaMAF
import Derived.Test.YtppnmeobnilojaaMAG
import Derived.Test.YtppnmeobnilojaaMAH
import Derived.Test.YtppnmeobnilojaaMXA
/- The walk of CheckFits, for any leaves and knots. -/
namespace Go.Proofs.Ytppnmeobnilojaa
set_option linter.unusedVariables false
set_option linter.unusedSimpArgs false
open Go.RowKit
theorem rT_bk {t : Te} (h : rT t = true) : bT t = true ∧ t.rk ≤ 16 := by
  have e : rT t = (decide (t.nd ≤ 200 ∧ t.rk ≤ 16) && bT t) := rfl
  rw [e, Bool.and_eq_true, decide_eq_true_eq] at h
  exact ⟨h.2, h.1.2⟩
set_option maxRecDepth 100000 in
set_option maxHeartbeats 8000000 in
theorem checkFits_any (lfs : List Lf) (kns : List Kn) (a a' : Option Addr) (len cap len' cap' : Nat) (w : World) (h1 : SlR lfK w [] lfs a len cap) (h2 : SlR knK w [] kns a' len' cap') :
    Calls Try.prog 3 #[.slice a len cap, .slice a' len' cap'] w fun e w' => e = .returned (.bool true) ∧ Below w.heap.size w w' := by
  have HBU := Lib.hid (build_any lfs kns a a' len cap len' cap' w h1 h2)
  clear h1 h2
  go_enter Try.func3, Try.ntmps3
  go_wp2_with fail
  go_at_call 13
  (with_reducible refine (great21_any _ _ _ _ _ _ _).mono ?_)
  rintro e w' ⟨rfl, rfl⟩
  by_cases hg : 60 < len ∨ 60 < len'
  · rw [decide_eq_true hg]
    clear hg HBU
    go_wp2_with fail
    go_at_call 14
    (with_reducible refine (awake21_any _).mono ?_)
    rintro e w1 ⟨rfl, b1⟩
    have HB1 := Lib.hid b1
    clear b1
    go_wp2_with fail
    go_ret
    exact ⟨rfl, HB1.out⟩
  · rw [decide_eq_false hg]
    clear hg
    go_wp2_with fail
    go_at_call 15
    (with_reducible refine HBU.out.mono ?_)
    rintro e w1 ⟨⟨es, ts, cs, rfl, hT, -, hle, -, hrk⟩, b1⟩
    obtain ⟨aE, cE, aN, cN, aD, cD, aT, cT, aM, cM, aP, cP, hcs, -⟩ := id hT
    have hal := (Below.refl w1.heap.size w1).alloc (Nat.le_refl _) (.cells #[.slice aE es.length cE, .slice aN (nds es).length cN, .slice aD (rks es).length cD, .slice aT ts.length cT, .slice aM (ndsT ts).length cM, .slice aP (rksT ts).length cP] 30)
    have HB0 := Lib.hid (b1.trans (hal.mono b1.size))
    have HT0 := Lib.hid (hT.kept (Kept.of_below hal []))
    have BT0 := Lib.hid (Mem.Blk.new w1 30 #[.slice aE es.length cE, .slice aN (nds es).length cN, .slice aD (rks es).length cD, .slice aT ts.length cT, .slice aM (ndsT ts).length cM, .slice aP (rksT ts).length cP])
    have HRK := Lib.hid hrk
    subst hcs
    clear hT b1 hrk HBU hal
    go_wp2_with fail
    generalize w1.alloc (.cells #[.slice aE es.length cE, .slice aN (nds es).length cN, .slice aD (rks es).length cD, .slice aT ts.length cT, .slice aM (ndsT ts).length cM, .slice aP (rksT ts).length cP] 30) = v at *
    generalize w1.heap.size = tb at *
    go_loopw [6] (fun i wr => ∃ (k : Nat), i = .int .i64 (k : Nat) ∧ k ≤ ts.length ∧ Hid (Below v.heap.size v wr)) (fun i _ => ts.length - (intOf i).toNat)
    case atStart => exact ⟨0, rfl, Nat.zero_le _, Below.refl _ _⟩
    case round =>
      obtain ⟨k, rfl, hk, HR⟩ := hrel
      have d3 : wr.cell? ⟨tb, 3, none⟩ = some (.slice aT ts.length cT) := (BT0.out.below HR.out).cell 3
      by_cases hlt : k < ts.length
      · have hk' : (k : Int) < (ts.length : Int) := by omega
        have i0 : (0 : Int) ≤ (k : Int) := by omega
        obtain ⟨t, ht⟩ : ∃ t, ts[k]? = some t := ⟨_, List.getElem?_eq_getElem hlt⟩
        have HRt := Lib.hid (HRK.out t (List.mem_of_getElem? ht))
        have HRE := Lib.hid (fun W (hW : Below v.heap.size v W) => treeRight_any (HT0.out.kept (Kept.of_below hW [])) k ht (by have := HRt.out; omega))
        obtain ⟨_, _, _, _, _, _, _, _, _, _, _, _, e, -, -, -, h4, -⟩ := id (HT0.out.kept (Kept.of_below HR.out []))
        injection e with _ e
        injection e with _ e
        injection e with _ e
        injection e with e3 e
        injection e3 with e3 _ e3'
        subst e3; subst e3'
        clear e
        obtain ⟨bt, ot, xt, ct, rfl, -, -, hxt, hRt, -, hct⟩ := h4.at k hlt
        obtain rfl : t = xt := by rw [ht] at hxt; injection hxt
        have HRT := Lib.hid (show RepT wr [] t ct from hRt)
        have HQ1 := Lib.hid (fun W (hW : Below wr.heap.size wr W) => fitsX_any t ct W (HRT.out.kept (Kept.of_below hW [])) (by have := HRt.out; omega))
        have HQ2 := Lib.hid (fun W (hW : Below wr.heap.size wr W) => faultX_any t ct W (HRT.out.kept (Kept.of_below hW [])) (by have := HRt.out; omega))
        have HQ3 : Hid (∀ W, Below wr.heap.size wr W → rT t = true → Calls Try.prog 19 #[.agg ct.toArray, .slice none 0 0] W fun x w' => PathR w' (faultT t) x ∧ Below W.heap.size W w') := fun W hW hb => by
          have h := rfault_any t.rk t (Nat.le_refl _) (rT_bk hb).1 ct [] none 0 0 W (HRT.out.kept (Kept.of_below hW [])) (SlR.nil _ _ _) (fun _ => rfl) (by have := (rT_bk hb).2; omega)
          have e : refT t [] = faultT t := by rw [refT_eq t.rk t (Nat.le_refl _) (rT_bk hb).1]; cases faultT t <;> rfl
          rw [e] at h
          exact h
        have HQ4 := Lib.hid (fun W (hW : Below wr.heap.size wr W) (hb : rT t = true) => rfits_any t.rk t (Nat.le_refl _) (rT_bk hb).1 ct W (HRT.out.kept (Kept.of_below hW [])))
        have HFC : Hid (fitC t = if rT t then (if fitT t then 0 else 12) else 1) := rfl
        obtain ⟨o5, m5, x5, t5, a5, l5, p5, a6, l6, p6, -, rfl, -⟩ := HRT.out.inv
        have v0 : wr.cell? ⟨bt, ot + k * 4, none⟩ = some (.int .i64 o5) := hct 0 _ rfl
        have v1 : wr.cell? ⟨bt, ot + k * 4 + 1, none⟩ = some (.string m5) := hct 1 _ rfl
        have v2 : wr.cell? ⟨bt, ot + k * 4 + 2, none⟩ = some (.slice a5 l5 p5) := hct 2 _ rfl
        have v3 : wr.cell? ⟨bt, ot + k * 4 + 3, none⟩ = some (.slice a6 l6 p6) := hct 3 _ rfl
        clear h4 hxt hRt hct ht HRT HRt
        generalize fitC t = fc at *
        generalize fitT t = ft at *
        generalize faultT t = fo at *
        generalize rT t = rt at *
        have HUP : Hid (∀ W, Below wr.heap.size wr W → W.cell? ⟨tb, 3, none⟩ = some (.slice (some ⟨bt, ot, none⟩) ts.length cT) ∧ W.cell? ⟨bt, ot + k * 4, none⟩ = some (.int .i64 o5) ∧ W.cell? ⟨bt, ot + k * 4 + 1, none⟩ = some (.string m5) ∧ W.cell? ⟨bt, ot + k * 4 + 2, none⟩ = some (.slice a5 l5 p5) ∧ W.cell? ⟨bt, ot + k * 4 + 3, none⟩ = some (.slice a6 l6 p6)) := fun W hW => ⟨cell_up d3 hW, cell_up v0 hW, cell_up v1 hW, cell_up v2 hW, cell_up v3 hW⟩
        go_wp2_with fail
        go_at_call 16
        (with_reducible refine (HQ1.out wr (Below.refl _ _)).mono ?_)
        rintro y w2 ⟨rfl, b2⟩
        have HW2 := Lib.hid b2
        clear b2 d3 v0 v1 v2 v3 HQ1
        obtain ⟨d3, v0, v1, v2, v3⟩ := HUP.out w2 HW2.out
        go_wp2_with fail
        go_at_call 17
        (with_reducible refine (HQ2.out w2 HW2.out).mono ?_)
        rintro y w3 ⟨⟨a7, c7, rfl, hS7, -⟩, b3⟩
        have HS7 := Lib.hid hS7
        have HW3 := Lib.hid (HW2.out.trans (b3.mono HW2.out.size))
        have HB3 := Lib.hid (HR.out.trans (HW3.out.mono HR.out.size))
        clear b3 d3 v0 v1 v2 v3 HQ2 HW2 hS7
        have q := BT0.out.below HB3.out
        have c0 : w3.cell? ⟨tb, 0, none⟩ = _ := q.cell 0
        have c1 : w3.cell? ⟨tb, 1, none⟩ = _ := q.cell 1
        have c2 : w3.cell? ⟨tb, 2, none⟩ = _ := q.cell 2
        have c3 : w3.cell? ⟨tb, 3, none⟩ = _ := q.cell 3
        have c4 : w3.cell? ⟨tb, 4, none⟩ = _ := q.cell 4
        have c5 : w3.cell? ⟨tb, 5, none⟩ = _ := q.cell 5
        simp only [List.getElem?_toArray, List.getElem?_cons_zero, List.getElem?_cons_succ] at c0 c1 c2 c3 c4 c5
        clear q
        cases rt with
        | false =>
          obtain rfl : fc = 1 := HFC.out
          have hn : Hid ((pth (if (false : Bool) = true then fo else none)).length = 0) := rfl
          have hn2 : Hid ((if (false : Bool) = true then fo else none).isSome = false) := rfl
          rw [hn.out, hn2.out]
          clear HS7 hn hn2 HFC HQ3 HQ4
          go_wp2_with fail
          go_at_call 18
          (with_reducible refine (HRE.out w3 HB3.out).mono ?_)
          rintro y w4 ⟨rfl, b4⟩
          have HB4 := Lib.hid (HB3.out.trans (b4.mono HB3.out.size))
          clear b4 HRE c0 c1 c2 c3 c4 c5 HR HB3 HUP HW3
          go_wp2_with fail
          go_roundw
          case rel => exact ⟨k + 1, by go_num, by omega, HB4.out⟩
          case measure => simp [intOf]; omega
        | true =>
          have HFC' : Hid (fc = if ft = true then 0 else 12) := HFC.out
          have hn : Hid ((if (true : Bool) = true then fo else none) = fo) := rfl
          rw [hn.out] at HS7 ⊢
          clear hn HFC
          generalize hq1 : (pth fo).length = lp at *
          generalize hq2 : fo.isSome = bo at *
          have HLP := Lib.hid hq1
          have HBO := Lib.hid hq2
          clear hq1 hq2
          go_wp2_with fail
          go_at_call 18
          (with_reducible refine (HRE.out w3 HB3.out).mono ?_)
          rintro y w4 ⟨rfl, b4⟩
          have HW4 := Lib.hid (HW3.out.trans (b4.mono HW3.out.size))
          have HB4 := Lib.hid (HB3.out.trans (b4.mono HB3.out.size))
          have HS4 := Lib.hid (HS7.out.kept (Kept.of_below b4 []))
          clear b4 HRE c0 c1 c2 c3 c4 c5 HR HB3 HW3 HS7
          obtain ⟨d3, v0, v1, v2, v3⟩ := HUP.out w4 HW4.out
          have HQ3' := Lib.hid (HQ3.out w4 HW4.out (by first | rfl | trivial))
          clear HQ3
          go_wp2_with fail
          go_at_call 19
          (with_reducible refine HQ3'.out.mono ?_)
          rintro y w5 ⟨⟨a8, c8, rfl, hS8, -⟩, b5⟩
          rw [HLP.out, HBO.out] at *
          have HS8 := Lib.hid hS8
          have HW5 := Lib.hid (HW4.out.trans (b5.mono HW4.out.size))
          have HB5 := Lib.hid (HB4.out.trans (b5.mono HB4.out.size))
          have HS5 := Lib.hid (HS4.out.kept (Kept.of_below b5 []))
          have HQ4' := Lib.hid (HQ4.out w5 HW5.out (by first | rfl | trivial))
          clear b5 hS8 d3 v0 v1 v2 v3 HQ3' HS4 HB4 HW4 HQ4
          obtain ⟨d3, v0, v1, v2, v3⟩ := HUP.out w5 HW5.out
          clear HUP
          go_wp2_with fail
          go_at_call 20
          (with_reducible refine HQ4'.out.mono ?_)
          rintro y w6 ⟨rfl, b6⟩
          have HB6 := Lib.hid (HB5.out.trans (b6.mono HB5.out.size))
          have HS6 := Lib.hid (HS5.out.kept (Kept.of_below b6 []))
          have HS9 := Lib.hid (HS8.out.kept (Kept.of_below b6 []))
          clear b6 HS5 HS8 HB5 HQ4' d3 v0 v1 v2 v3 HW5
          cases ft with
          | true =>
            obtain rfl : fc = 0 := HFC'.out
            clear HFC'
            have g6 : SlR i64K w6 [] (pth fo) a7 lp c7 := by have h := HS6.out; first | exact h | (rw [HLP.out] at h; exact h)
            have g9 : SlR i64K w6 [] (pth fo) a8 lp c8 := by have h := HS9.out; first | exact h | (rw [HLP.out] at h; exact h)
            have g8 : lp ≤ 9223372036854775807 := by have := g6.facts; omega
            have G6 := Lib.hid g6
            have G9 := Lib.hid g9
            clear g6 g9 HS6 HS9
            obtain ⟨W6, rfl⟩ : ∃ W : World, W = w6 := ⟨_, rfl⟩
            go_wp2_with fail
            go_loopw [12] (fun i wr => ∃ (j : Nat), i = .int .i64 (j : Nat) ∧ j ≤ lp ∧ Hid (Below W6.heap.size W6 wr)) (fun i _ => lp - (intOf i).toNat)
            case atStart => exact ⟨0, rfl, Nat.zero_le _, Below.refl _ _⟩
            case round =>
              obtain ⟨j, rfl, hj, HJ⟩ := hrel
              by_cases hjl : j < lp
              · have i9 : (0 : Int) ≤ (j : Int) := by omega
                have j9 : (j : Int) < (lp : Int) := by omega
                obtain ⟨b7, o7, x, rfl, hx, -, p0⟩ := int_at (G6.out.kept (Kept.of_below HJ.out [])) j hjl
                obtain ⟨b8, o8, y, rfl, hy, -, p1⟩ := int_at (G9.out.kept (Kept.of_below HJ.out [])) j hjl
                obtain rfl : x = y := by rw [hx] at hy; injection hy
                clear hx hy
                go_wp2_with fail
                go_quiet (fail)
                go_wp2_with fail
                go_roundw
                case rel => exact ⟨j + 1, by go_num, by omega, below_drewN HJ.out _⟩
                case measure => simp [intOf]; omega
              · have j9 : ¬ (j : Int) < (lp : Int) := by omega
                have HF := Lib.hid (HB6.out.trans (HJ.out.mono HB6.out.size))
                clear HJ hjl
                go_wp2_with fail
                go_roundw
                case rel => exact ⟨k + 1, by go_num, by omega, HF.out⟩
                case measure => simp [intOf]; omega
          | false =>
            obtain rfl : fc = 12 := HFC'.out
            clear HFC'
            have g6 : SlR i64K w6 [] (pth fo) a7 lp c7 := by have h := HS6.out; first | exact h | (rw [HLP.out] at h; exact h)
            have g9 : SlR i64K w6 [] (pth fo) a8 lp c8 := by have h := HS9.out; first | exact h | (rw [HLP.out] at h; exact h)
            have g8 : lp ≤ 9223372036854775807 := by have := g6.facts; omega
            have G6 := Lib.hid g6
            have G9 := Lib.hid g9
            clear g6 g9 HS6 HS9
            obtain ⟨W6, rfl⟩ : ∃ W : World, W = w6 := ⟨_, rfl⟩
            go_wp2_with fail
            go_loopw [12] (fun i wr => ∃ (j : Nat), i = .int .i64 (j : Nat) ∧ j ≤ lp ∧ Hid (Below W6.heap.size W6 wr)) (fun i _ => lp - (intOf i).toNat)
            case atStart => exact ⟨0, rfl, Nat.zero_le _, Below.refl _ _⟩
            case round =>
              obtain ⟨j, rfl, hj, HJ⟩ := hrel
              by_cases hjl : j < lp
              · have i9 : (0 : Int) ≤ (j : Int) := by omega
                have j9 : (j : Int) < (lp : Int) := by omega
                obtain ⟨b7, o7, x, rfl, hx, -, p0⟩ := int_at (G6.out.kept (Kept.of_below HJ.out [])) j hjl
                obtain ⟨b8, o8, y, rfl, hy, -, p1⟩ := int_at (G9.out.kept (Kept.of_below HJ.out [])) j hjl
                obtain rfl : x = y := by rw [hx] at hy; injection hy
                clear hx hy
                go_wp2_with fail
                go_quiet (fail)
                go_wp2_with fail
                go_roundw
                case rel => exact ⟨j + 1, by go_num, by omega, below_drewN HJ.out _⟩
                case measure => simp [intOf]; omega
              · have j9 : ¬ (j : Int) < (lp : Int) := by omega
                have HF := Lib.hid (HB6.out.trans (HJ.out.mono HB6.out.size))
                clear HJ hjl
                go_wp2_with fail
                go_roundw
                case rel => exact ⟨k + 1, by go_num, by omega, HF.out⟩
                case measure => simp [intOf]; omega
      · have hk' : ¬ (k : Int) < (ts.length : Int) := by omega
        have HB := Lib.hid (HB0.out.trans (HR.out.mono HB0.out.size))
        clear HR hlt
        go_wp2_with fail
        go_at_call 14
        (with_reducible refine (awake21_any _).mono ?_)
        rintro e w2 ⟨rfl, b2⟩
        have HB2 := Lib.hid (HB.out.trans (b2.mono HB.out.size))
        clear b2
        go_wp2_with fail
        go_ret
        exact ⟨rfl, HB2.out⟩
end Go.Proofs.Ytppnmeobnilojaa
