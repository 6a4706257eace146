/- A part of the proof: LawK, one behind another. -/
import Derived.Test.YtppnmeobnilojaaMAA
import Derived.Test.YtppnmeobnilojaaMAB
import Derived.Test.YtppnmeobnilojaaMAC
import Derived.Test.YtppnmeobnilojaaMAD
import Derived.Test.YtppnmeobnilojaaMAE
import Derived.Test.YtppnmeobnilojaaMAF
import Derived.Test.YtppnmeobnilojaaMAG
import Derived.Test.YtppnmeobnilojaaMAH
/- The walk of CheckKinds, for any leaves. -/
namespace Go.Proofs.Ytppnmeobnilojaa
set_option linter.unusedVariables false
set_option linter.unusedSimpArgs false
open Go.RowKit
set_option maxRecDepth 100000 in
set_option maxHeartbeats 4000000 in
theorem checkKinds_any (lfs : List Lf) (a : Option Addr) (len cap : Nat) (w : World) (h1 : SlR lfK w [] lfs a len cap) :
    Calls Try.prog 5 #[.slice a len cap] w fun e w' => e = .returned (.bool true) ∧ Below w.heap.size w w' := by
  have HBU := Lib.hid (build_any lfs [] a none len cap 0 0 w h1 (SlR.nil _ _ _))
  clear h1
  go_enter Try.func5, Try.ntmps5
  go_wp2_with fail
  go_at_call 13
  (with_reducible refine (great21_any _ _ _ _ _ _ _).mono ?_)
  rintro e w' ⟨rfl, rfl⟩
  by_cases hg : 60 < len ∨ 60 < 0
  · rw [decide_eq_true hg]
    clear hg HBU
    go_wp2_with fail
    go_at_call 14
    (with_reducible refine (awake21_any _).mono ?_)
    rintro e w1 ⟨rfl, b1⟩
    have HB1 := Lib.hid b1
    clear b1
    go_wp2_with fail
    go_ret
    exact ⟨rfl, HB1.out⟩
  · rw [decide_eq_false hg]
    clear hg
    go_wp2_with fail
    go_at_call 15
    (with_reducible refine HBU.out.mono ?_)
    rintro e w1 ⟨⟨es, ts, cs, rfl, hT, hle, -, hrk, -⟩, b1⟩
    obtain ⟨aE, cE, aN, cN, aD, cD, aT, cT, aM, cM, aP, cP, hcs, -⟩ := id hT
    have hal := (Below.refl w1.heap.size w1).alloc (Nat.le_refl _) (.cells #[.slice aE es.length cE, .slice aN (nds es).length cN, .slice aD (rks es).length cD, .slice aT ts.length cT, .slice aM (ndsT ts).length cM, .slice aP (rksT ts).length cP] 30)
    have HB0 := Lib.hid (b1.trans (hal.mono b1.size))
    have HT0 := Lib.hid (hT.kept (Kept.of_below hal []))
    have BT0 := Lib.hid (Mem.Blk.new w1 30 #[.slice aE es.length cE, .slice aN (nds es).length cN, .slice aD (rks es).length cD, .slice aT ts.length cT, .slice aM (ndsT ts).length cM, .slice aP (rksT ts).length cP])
    have HRK := Lib.hid hrk
    subst hcs
    clear hT b1 hrk HBU hal
    go_wp2_with fail
    generalize w1.alloc (.cells #[.slice aE es.length cE, .slice aN (nds es).length cN, .slice aD (rks es).length cD, .slice aT ts.length cT, .slice aM (ndsT ts).length cM, .slice aP (rksT ts).length cP] 30) = v at *
    generalize w1.heap.size = tb at *
    go_loopw [4] (fun i wr => ∃ (k : Nat), i = .int .i64 (k : Nat) ∧ k ≤ es.length ∧ Hid (Below v.heap.size v wr)) (fun i _ => es.length - (intOf i).toNat)
    case atStart => exact ⟨0, rfl, Nat.zero_le _, Below.refl _ _⟩
    case round =>
      obtain ⟨k, rfl, hk, HR⟩ := hrel
      have d0 : wr.cell? ⟨tb, 0, none⟩ = some (.slice aE es.length cE) := (BT0.out.below HR.out).cell 0
      by_cases hlt : k < es.length
      · have hk' : (k : Int) < (es.length : Int) := by omega
        have i0 : (0 : Int) ≤ (k : Int) := by omega
        obtain ⟨t, ht⟩ : ∃ t, es[k]? = some t := ⟨_, List.getElem?_eq_getElem hlt⟩
        have HRt := Lib.hid (HRK.out t (List.mem_of_getElem? ht))
        have HRE := Lib.hid (fun W (hW : Below v.heap.size v W) => treeRightE_any (HT0.out.kept (Kept.of_below hW [])) k ht (by have := HRt.out; omega))
        obtain ⟨_, _, _, _, _, _, _, _, _, _, _, _, e, h4, -⟩ := id (HT0.out.kept (Kept.of_below HR.out []))
        injection e with e3 e
        injection e3 with e3 _ e3'
        subst e3; subst e3'
        clear e
        obtain ⟨bt, ot, xt, ct, rfl, -, -, hxt, hRt, -, hct⟩ := h4.at k hlt
        obtain rfl : t = xt := by rw [ht] at hxt; injection hxt
        have HRT := Lib.hid (show RepE wr [] t ct from hRt)
        have HQ := Lib.hid (fun W (hW : Below wr.heap.size wr W) => kindX_any t ct W (HRT.out.kept (Kept.of_below hW [])) (by have := HRt.out; omega))
        have HQ2 := Lib.hid (fun W (hW : Below wr.heap.size wr W) (hb : bE t = true) => rkind_any t.rk t (Nat.le_refl _) hb ct W (HRT.out.kept (Kept.of_below hW [])))
        have HKE := Lib.hid (kE_bd t.rk t (Nat.le_refl _))
        have HKI : Hid (kI t = if rE t then kE t else 0) := rfl
        have HBE := Lib.hid (@rE_built t)
        obtain ⟨o5, n5, m5, r5, a5, l5, p5, -, rfl, -, -, -, -⟩ := HRT.out.inv
        have v0 : wr.cell? ⟨bt, ot + k * 4, none⟩ = some (.int .i64 o5) := hct 0 _ rfl
        have v1 : wr.cell? ⟨bt, ot + k * 4 + 1, none⟩ = some (.int .i64 n5) := hct 1 _ rfl
        have v2 : wr.cell? ⟨bt, ot + k * 4 + 2, none⟩ = some (.string m5) := hct 2 _ rfl
        have v3 : wr.cell? ⟨bt, ot + k * 4 + 3, none⟩ = some (.slice a5 l5 p5) := hct 3 _ rfl
        clear h4 hxt hRt hct ht HRT HRt
        generalize kI t = ki at *
        generalize kE t = ke at *
        generalize rE t = re at *
        generalize bE t = be at *
        go_wp2_with fail
        go_at_call 23
        (with_reducible refine (HQ.out wr (Below.refl _ _)).mono ?_)
        rintro y w2 ⟨rfl, b2⟩
        have HB2 := Lib.hid (HR.out.trans (b2.mono HR.out.size))
        have d0' := cell_up d0 b2
        have v0' := cell_up v0 b2
        have v1' := cell_up v1 b2
        have v2' := cell_up v2 b2
        have v3' := cell_up v3 b2
        have HW2 := Lib.hid b2
        clear d0 v0 v1 v2 v3 b2 HQ
        have q := BT0.out.below HB2.out
        have c0 : w2.cell? ⟨tb, 0, none⟩ = _ := q.cell 0
        have c1 : w2.cell? ⟨tb, 1, none⟩ = _ := q.cell 1
        have c2 : w2.cell? ⟨tb, 2, none⟩ = _ := q.cell 2
        have c3 : w2.cell? ⟨tb, 3, none⟩ = _ := q.cell 3
        have c4 : w2.cell? ⟨tb, 4, none⟩ = _ := q.cell 4
        have c5 : w2.cell? ⟨tb, 5, none⟩ = _ := q.cell 5
        simp only [List.getElem?_toArray, List.getElem?_cons_zero, List.getElem?_cons_succ] at c0 c1 c2 c3 c4 c5
        clear q
        go_wp2_with fail
        go_at_call 24
        (with_reducible refine (HRE.out w2 HB2.out).mono ?_)
        rintro y w3 ⟨rfl, b3⟩
        have HB3 := Lib.hid (HB2.out.trans (b3.mono HB2.out.size))
        have HW3 := Lib.hid (HW2.out.trans (b3.mono HW2.out.size))
        have d0 := cell_up d0' b3
        have v0 := cell_up v0' b3
        have v1 := cell_up v1' b3
        have v2 := cell_up v2' b3
        have v3 := cell_up v3' b3
        clear d0' v0' v1' v2' v3' b3 HRE c0 c1 c2 c3 c4 c5 HR HB2
        cases re with
        | false =>
          have h0 : ki = 0 := HKI.out
          subst h0
          clear HKI HKE HQ2 HBE
          go_wp2_with fail
          go_roundw
          case rel => exact ⟨k + 1, by go_num, by omega, HB3.out⟩
          case measure => simp [intOf]; omega
        | true =>
          have h0 : ki = ke := HKI.out
          subst h0
          have HC := Lib.hid (HQ2.out w3 HW3.out (HBE.out rfl))
          clear HQ2 HBE HKI
          go_wp2_with fail
          go_at_call 25
          (with_reducible refine HC.out.mono ?_)
          rintro y w4 ⟨rfl, b4⟩
          have HB4 := Lib.hid (HB3.out.trans (b4.mono HB3.out.size))
          clear b4 d0 v0 v1 v2 v3 HC HB3
          rcases HKE.out with h | h | h
          · subst h
            go_wp2_with fail
            go_roundw
            case rel => exact ⟨k + 1, by go_num, by omega, HB4.out⟩
            case measure => simp [intOf]; omega
          · subst h
            go_wp2_with fail
            go_roundw
            case rel => exact ⟨k + 1, by go_num, by omega, HB4.out⟩
            case measure => simp [intOf]; omega
          · subst h
            go_wp2_with fail
            go_roundw
            case rel => exact ⟨k + 1, by go_num, by omega, HB4.out⟩
            case measure => simp [intOf]; omega
      · have hk' : ¬ (k : Int) < (es.length : Int) := by omega
        have HB := Lib.hid (HB0.out.trans (HR.out.mono HB0.out.size))
        clear HR hlt
        go_wp2_with fail
        go_at_call 14
        (with_reducible refine (awake21_any _).mono ?_)
        rintro e w2 ⟨rfl, b2⟩
        have HB2 := Lib.hid (HB.out.trans (b2.mono HB.out.size))
        clear b2
        go_wp2_with fail
        go_ret
        exact ⟨rfl, HB2.out⟩
end Go.Proofs.Ytppnmeobnilojaa
