/- A part of the proof: LawD, one behind another. -/
import Derived.Test.YtppnmeobnilojaaMAA
import Derived.Test.YtppnmeobnilojaaMAB
import Derived.Test.YtppnmeobnilojaaMAC
import Derived.Test.YtppnmeobnilojaaMAD
import Derived.Test.YtppnmeobnilojaaMAE
import Derived.Test.YtppnmeobnilojaaMAF
import Derived.Test.YtppnmeobnilojaaMAG
import Derived.Test.YtppnmeobnilojaaMAH
import Derived.Test.YtppnmeobnilojaaMDA
import Derived.Test.YtppnmeobnilojaaMDB
import Derived.Test.YtppnmeobnilojaaMDC
/- The walk of CheckFolds, for any leaves and knots. -/
namespace Go.Proofs.Ytppnmeobnilojaa
set_option linter.unusedVariables false
set_option linter.unusedSimpArgs false
open Go.RowKit
set_option maxRecDepth 100000 in
set_option maxHeartbeats 8000000 in
theorem checkFolds_any (lfs : List Lf) (kns : List Kn) (a a' : Option Addr) (len cap len' cap' : Nat) (w : World) (h1 : SlR lfK w [] lfs a len cap) (h2 : SlR knK w [] kns a' len' cap') :
    Calls Try.prog 6 #[.slice a len cap, .slice a' len' cap'] w fun e w' => e = .returned (.bool true) ∧ Below w.heap.size w w' := by
  have HBU := Lib.hid (build_any lfs kns a a' len cap len' cap' w h1 h2)
  clear h1 h2
  go_enter Try.func6, Try.ntmps6
  go_wp2_with fail
  go_at_call 13
  (with_reducible refine (great21_any _ _ _ _ _ _ _).mono ?_)
  rintro e w' ⟨rfl, rfl⟩
  by_cases hg : 60 < len ∨ 60 < len'
  · rw [decide_eq_true hg]
    clear hg HBU
    go_wp2_with fail
    go_at_call 14
    (with_reducible refine (awake21_any _).mono ?_)
    rintro e w1 ⟨rfl, b1⟩
    have HB1 := Lib.hid b1
    clear b1
    go_wp2_with fail
    go_ret
    exact ⟨rfl, HB1.out⟩
  · rw [decide_eq_false hg]
    clear hg
    go_wp2_with fail
    go_at_call 15
    (with_reducible refine HBU.out.mono ?_)
    rintro e w1 ⟨⟨es, ts, cs, rfl, hT, hle, hlt2, hrk, hrk2⟩, b1⟩
    obtain ⟨aE, cE, aN, cN, aD, cD, aT, cT, aM, cM, aP, cP, hcs, -⟩ := id hT
    have hal := (Below.refl w1.heap.size w1).alloc (Nat.le_refl _) (.cells #[.slice aE es.length cE, .slice aN (nds es).length cN, .slice aD (rks es).length cD, .slice aT ts.length cT, .slice aM (ndsT ts).length cM, .slice aP (rksT ts).length cP] 30)
    have HB0 := Lib.hid (b1.trans (hal.mono b1.size))
    have HT0 := Lib.hid (hT.kept (Kept.of_below hal []))
    have BT0 := Lib.hid (Mem.Blk.new w1 30 #[.slice aE es.length cE, .slice aN (nds es).length cN, .slice aD (rks es).length cD, .slice aT ts.length cT, .slice aM (ndsT ts).length cM, .slice aP (rksT ts).length cP])
    have HRK := Lib.hid hrk
    have HRK2 := Lib.hid hrk2
    have HTL := Lib.hid hlt2
    subst hcs
    clear hT b1 hrk hrk2 hlt2 HBU hal
    go_wp2_with fail
    generalize w1.alloc (.cells #[.slice aE es.length cE, .slice aN (nds es).length cN, .slice aD (rks es).length cD, .slice aT ts.length cT, .slice aM (ndsT ts).length cM, .slice aP (rksT ts).length cP] 30) = v at *
    generalize w1.heap.size = tb at *
    go_loopw [6] (fun i wr => ∃ (k : Nat), i = .int .i64 (k : Nat) ∧ k ≤ es.length ∧ Hid (Below v.heap.size v wr)) (fun i _ => es.length - (intOf i).toNat)
    case atStart => exact ⟨0, rfl, Nat.zero_le _, Below.refl _ _⟩
    case round =>
      obtain ⟨k, rfl, hk, HR⟩ := hrel
      have d0 : wr.cell? ⟨tb, 0, none⟩ = some (.slice aE es.length cE) := (BT0.out.below HR.out).cell 0
      by_cases hlt : k < es.length
      · have hk' : (k : Int) < (es.length : Int) := by omega
        have i0 : (0 : Int) ≤ (k : Int) := by omega
        obtain ⟨t, ht⟩ : ∃ t, es[k]? = some t := ⟨_, List.getElem?_eq_getElem hlt⟩
        have HRt := Lib.hid (HRK.out t (List.mem_of_getElem? ht))
        have HRE := Lib.hid (fun W (hW : Below v.heap.size v W) => treeRightE_any (HT0.out.kept (Kept.of_below hW [])) k ht (by have := HRt.out; omega))
        obtain ⟨_, _, _, _, _, _, _, _, _, _, _, _, e, h4, h5, -⟩ := id HT0.out
        injection e with e3 e
        injection e with e4 e
        injection e3 with e3 _ e3'
        injection e4 with e4 _ e4'
        subst e3; subst e3'; subst e4; subst e4'
        clear e
        have hlM : (nds es).length = es.length := by unfold nds; rw [List.length_map]
        obtain ⟨bm, om, xm, cm, rfl, -, -, hxm, ⟨rfl, -⟩, -, hcm⟩ := h5.at k (by omega)
        obtain ⟨bt, ot, xt, ct, rfl, -, -, hxt, hRt, -, hct⟩ := h4.at k hlt
        obtain rfl : xm = ndI t.nd := by
          unfold nds at hxm
          rw [List.getElem?_map, ht] at hxm
          injection hxm with h; exact h.symm
        obtain rfl : t = xt := by rw [ht] at hxt; injection hxt
        have HRT := Lib.hid (show RepE v [] t ct from hRt)
        obtain ⟨o5, n5, m5, r5, a5, l5, p5, -, rfl, -, -, -, -⟩ := HRT.out.inv
        have HUP : Hid (∀ W, Below v.heap.size v W → W.cell? ⟨tb, 0, none⟩ = some (.slice (some ⟨bt, ot, none⟩) es.length cE) ∧ W.cell? ⟨tb, 1, none⟩ = some (.slice (some ⟨bm, om, none⟩) (nds es).length cN) ∧ W.cell? ⟨bm, om + k, none⟩ = some (.int .i64 (ndI t.nd)) ∧
            W.cell? ⟨bt, ot + k * 4, none⟩ = some (.int .i64 o5) ∧ W.cell? ⟨bt, ot + k * 4 + 1, none⟩ = some (.int .i64 n5) ∧ W.cell? ⟨bt, ot + k * 4 + 2, none⟩ = some (.string m5) ∧ W.cell? ⟨bt, ot + k * 4 + 3, none⟩ = some (.slice a5 l5 p5)) := fun W hW =>
          ⟨(BT0.out.below hW).cell 0, (BT0.out.below hW).cell 1, cell_up (show v.cell? ⟨bm, om + k, none⟩ = some (.int .i64 (ndI t.nd)) by have := hcm 0 _ rfl; simpa [i64K] using this) hW, cell_up (hct 0 _ rfl) hW, cell_up (hct 1 _ rfl) hW, cell_up (hct 2 _ rfl) hW, cell_up (hct 3 _ rfl) hW⟩
        have i2 : (k : Int) < ((nds es).length : Int) := by omega
        have n1 := ndI_bd t.nd
        have HFX : Hid (foldX t = if rE t then foldE t else t) := rfl
        have HBE := Lib.hid (@rE_built t)
        clear h4 h5 hxm hxt hRt hct hcm ht
        generalize hnd : ndI t.nd = nd at *
        clear hnd
        clear hlM
        generalize (nds es).length = lM at *
        clear d0
        obtain ⟨d0, d1, g0, v0, v1, v2, v3⟩ := HUP.out wr HR.out
        go_upto_region 8 with (fail)
        have hal := (Below.refl wr.heap.size wr).alloc (Nat.le_refl _) (.cells #[.int .i64 o5, .int .i64 n5, .string m5, .slice a5 l5 p5] 46)
        have BZ := Lib.hid (Mem.Blk.new wr 46 #[.int .i64 o5, .int .i64 n5, .string m5, .slice a5 l5 p5])
        have HR1 := Lib.hid (HR.out.trans (hal.mono HR.out.size))
        have HZV : Hid (v.heap.size ≤ wr.heap.size) := HR.out.size
        clear hal HR d0 d1 g0 v0 v1 v2 v3
        generalize wr.alloc (.cells #[.int .i64 o5, .int .i64 n5, .string m5, .slice a5 l5 p5] 46) = w2 at *
        generalize wr.heap.size = zb at *
        obtain ⟨d0, d1, g0, v0, v1, v2, v3⟩ := HUP.out w2 HR1.out
        by_cases hn : 200 < nd
        · go_wp2_with fail
          go_roundw
          case rel => exact ⟨k + 1, by go_num, by omega, HR1.out⟩
          case measure => simp [intOf]; omega
        · have q := BT0.out.below HR1.out
          have c0 : w2.cell? ⟨tb, 0, none⟩ = _ := q.cell 0
          have c1 : w2.cell? ⟨tb, 1, none⟩ = _ := q.cell 1
          have c2 : w2.cell? ⟨tb, 2, none⟩ = _ := q.cell 2
          have c3 : w2.cell? ⟨tb, 3, none⟩ = _ := q.cell 3
          have c4 : w2.cell? ⟨tb, 4, none⟩ = _ := q.cell 4
          have c5 : w2.cell? ⟨tb, 5, none⟩ = _ := q.cell 5
          simp only [List.getElem?_toArray, List.getElem?_cons_zero, List.getElem?_cons_succ] at c0 c1 c2 c3 c4 c5
          clear q
          go_wp2_with fail
          go_at_call 24
          (with_reducible refine (HRE.out w2 HR1.out).mono ?_)
          rintro y w3 ⟨rfl, b3⟩
          have HR3 := Lib.hid (HR1.out.trans (b3.mono HR1.out.size))
          have BZ3 := Lib.hid (BZ.out.below b3)
          clear b3 HRE c0 c1 c2 c3 c4 c5 d0 d1 g0 v0 v1 v2 v3 HR1 BZ
          have HQ := Lib.hid (fun W (hW : Below v.heap.size v W) => foldX_any t [] _ W (HRT.out.kept (Kept.of_below hW [])) (fun b hb => absurd hb List.not_mem_nil) (by have := HRt.out; omega))
          cases hre : rE t
          · have hfx : foldX t = t := by rw [HFX.out, hre]; rfl
            rw [hfx] at HQ
            have HWN := Lib.hid (HRT.out.kept (Kept.of_below HR3.out []))
            have HR9 := HR3
            have BZ9 := BZ3
            clear hre hfx HFX HBE HR3 BZ3
            go_wp2_with fail
            obtain ⟨d0, -, -, v0, v1, v2, v3⟩ := HUP.out w3 HR9.out
            obtain ⟨z0, z1, z2, z3, -, -, -, -⟩ := blk4 (show Mem.Blk w3 zb 46 #[.int .i64 o5, .int .i64 n5, .string m5, .slice a5 l5 p5] from BZ9.out)
            refine wp_region_till (S := fun W => W.cell? ⟨tb, 0, none⟩ = some (.slice (some ⟨bt, ot, none⟩) es.length cE) ∧ (W.cell? ⟨bt, ot + k * 4, none⟩ = some (.int .i64 o5) ∧ W.cell? ⟨bt, ot + k * 4 + 1, none⟩ = some (.int .i64 n5) ∧ W.cell? ⟨bt, ot + k * 4 + 2, none⟩ = some (.string m5) ∧ W.cell? ⟨bt, ot + k * 4 + 3, none⟩ = some (.slice a5 l5 p5)) ∧
              W.cell? ⟨zb, 0, none⟩ = some (.int .i64 o5) ∧ W.cell? ⟨zb, 1, none⟩ = some (.int .i64 n5) ∧ W.cell? ⟨zb, 2, none⟩ = some (.string m5) ∧ W.cell? ⟨zb, 3, none⟩ = some (.slice a5 l5 p5)) 7 (by kernel_rfl) ?_
            refine till_take (i := 0) (v := ?_) rfl (by kernel_rfl) (fun _ _ _ h => h) (Or.inl ⟨by rfl, ?_⟩) ⟨d0,⟨v0,v1,v2,v3⟩,z0,z1,z2,z3⟩ ?_
            rotate_left
            · intro W hS
              try dsimp only at hS
              go_split_ands
              go_simp
              try with_reducible rfl
            try simp only [Act.put, List.getElem_toArray, List.getElem_cons_zero, List.getElem_cons_succ, List.setIfInBounds_toArray, List.set_cons_zero, List.set_cons_succ]
            refine till_take (i := 1) (v := ?_) rfl (by kernel_rfl) (fun _ _ _ h => h) (Or.inl ⟨by rfl, ?_⟩) ⟨d0,⟨v0,v1,v2,v3⟩,z0,z1,z2,z3⟩ ?_
            rotate_left
            · intro W hS
              try dsimp only at hS
              go_split_ands
              go_simp
              try with_reducible rfl
            try simp only [Act.put, List.getElem_toArray, List.getElem_cons_zero, List.getElem_cons_succ, List.setIfInBounds_toArray, List.set_cons_zero, List.set_cons_succ]
            refine till_take (i := 2) (v := ?_) rfl (by kernel_rfl) (fun _ _ _ h => h) (Or.inl ⟨by rfl, ?_⟩) ⟨d0,⟨v0,v1,v2,v3⟩,z0,z1,z2,z3⟩ ?_
            rotate_left
            · intro W hS
              try dsimp only at hS
              go_split_ands
              go_simp
              try with_reducible rfl
            try simp only [Act.put, List.getElem_toArray, List.getElem_cons_zero, List.getElem_cons_succ, List.setIfInBounds_toArray, List.set_cons_zero, List.set_cons_succ]
            refine till_take (i := 3) (v := ?_) rfl (by kernel_rfl) (fun _ _ _ h => h) (Or.inl ⟨by rfl, ?_⟩) ⟨d0,⟨v0,v1,v2,v3⟩,z0,z1,z2,z3⟩ ?_
            rotate_left
            · intro W hS
              try dsimp only at hS
              go_split_ands
              go_simp
              try with_reducible rfl
            try simp only [Act.put, List.getElem_toArray, List.getElem_cons_zero, List.getElem_cons_succ, List.setIfInBounds_toArray, List.set_cons_zero, List.set_cons_succ]
            refine till_take (i := 4) (v := ?_) rfl (by kernel_rfl) (fun _ _ _ h => h) (Or.inl ⟨by rfl, ?_⟩) ⟨d0,⟨v0,v1,v2,v3⟩,z0,z1,z2,z3⟩ ?_
            rotate_left
            · intro W hS
              try dsimp only at hS
              go_split_ands
              go_simp
              try with_reducible rfl
            try simp only [Act.put, List.getElem_toArray, List.getElem_cons_zero, List.getElem_cons_succ, List.setIfInBounds_toArray, List.set_cons_zero, List.set_cons_succ]
            refine till_take (i := 6) (v := ?_) rfl (by kernel_rfl) (fun _ _ _ h => h) (Or.inl ⟨by rfl, ?_⟩) ⟨d0,⟨v0,v1,v2,v3⟩,z0,z1,z2,z3⟩ ?_
            rotate_left
            · intro W hS
              try dsimp only at hS
              go_split_ands
              go_simp
              try with_reducible rfl
            try simp only [Act.put, List.getElem_toArray, List.getElem_cons_zero, List.getElem_cons_succ, List.setIfInBounds_toArray, List.set_cons_zero, List.set_cons_succ]
            refine till_one (i := 5) (by kernel_rfl) rfl (fun K' hK => ?_)
            go_simp
            have HRd := Lib.hid (HR9.out.drew)
            go_at_call 28
            (with_reducible refine (HQ.out _ HRd.out).mono ?_)
            rintro y w7 ⟨⟨cs7, rfl, hR7⟩, b7⟩
            obtain ⟨o8, n8, m8, r8, a8, l8, p8, -, rfl, -, -, -, -⟩ := hR7.inv
            have HR7 := Lib.hid hR7
            have HX7 := Lib.hid (HRd.out.trans (b7.mono HRd.out.size))
            have HW7 := Lib.hid ((HWN.out.kept (Kept.of_below (Below.refl _ _).drew [])).kept (Kept.of_below b7 []))
            have BZ7 := Lib.hid (BZ9.out.drew.below b7)
            clear b7 hR7 HRd HR9 HWN BZ9 HQ d0 v0 v1 v2 v3 z0 z1 z2 z3
            obtain ⟨d0, -, -, v0, v1, v2, v3⟩ := HUP.out w7 HX7.out
            obtain ⟨z0, z1, z2, z3, -, -, -, -⟩ := blk4 (show Mem.Blk w7 zb 46 #[.int .i64 o5, .int .i64 n5, .string m5, .slice a5 l5 p5] from BZ7.out)
            refine hK _ _ ⟨d0,⟨v0,v1,v2,v3⟩,z0,z1,z2,z3⟩ ?_
            clear hK K'
            try simp only [Act.put, List.getElem_toArray, List.getElem_cons_zero, List.getElem_cons_succ, List.setIfInBounds_toArray, List.set_cons_zero, List.set_cons_succ]
            refine till_last (by kernel_rfl) rfl (by kernel_rfl) (fun K' hK => ?_)
            go_simp
            go_at_call 27
            (with_reducible refine (rsameExpr_any t.rk t (Nat.le_refl _) t _ _ _ HR7.out HW7.out).mono ?_)
            rintro y w8 ⟨rfl, b8⟩
            rw [eqv_yes rfl]
            have HX8 := Lib.hid (HX7.out.trans (b8.mono HX7.out.size))
            clear b8 HX7 HR7 HW7 BZ7 d0 v0 v1 v2 v3 z0 z1 z2 z3
            refine hK _ _ ?_
            clear hK K'
            try simp only [Act.put, List.getElem_toArray, List.getElem_cons_zero, List.getElem_cons_succ, List.setIfInBounds_toArray, List.set_cons_zero, List.set_cons_succ]
            refine any_take (i := 8) (v := ?_) rfl (by kernel_rfl) (fun _ _ _ h => h) (Or.inl ⟨by rfl, ?_⟩) ?_
            rotate_left
            · intro W
              go_simp
              try with_reducible rfl
            try simp only [Act.put, List.getElem_toArray, List.getElem_cons_zero, List.getElem_cons_succ, List.setIfInBounds_toArray, List.set_cons_zero, List.set_cons_succ]
            refine wpAny_done (by kernel_rfl) ?_ _
            go_wp2_with fail
            go_roundw
            case rel => exact ⟨k + 1, by go_num, by omega, HX8.out⟩
            case measure => simp [intOf]; omega
          · have hfx : foldX t = foldE t := by rw [HFX.out, hre]; rfl
            rw [hfx] at HQ
            have HC := Lib.hid (rfold_any t.rk t (Nat.le_refl _) (HBE.out hre) [zb] _ w3 (fun b hb => by rw [List.mem_singleton] at hb; subst hb; exact BZ3.out.lt) (HRT.out.kept (Kept.of_below HR3.out [])))
            clear hre hfx HFX HBE
            obtain ⟨z0, z1, z2, z3, -, -, -, -⟩ := blk4 BZ3.out
            go_wp2_with fail
            go_at_call 26
            (with_reducible refine HC.out.mono ?_)
            rintro y w4 ⟨⟨cs4, rfl, hR4⟩, b4⟩
            obtain ⟨o7, n7, m7, r7, a7, l7, p7, -, rfl, -, -, -, -⟩ := hR4.inv
            have BZ4 := Lib.hid (BZ3.out.below b4)
            have HR4 := Lib.hid (HR3.out.trans (b4.mono HR3.out.size))
            have HF := ret4E (w := v) (c0 := .int .i64 o7) (c1 := .int .i64 n7) (c2 := .string m7) (c3 := .slice a7 l7 p7) HR4.out HZV.out BZ4.out hR4
            have HWN := Lib.hid HF.1
            have HR9 := Lib.hid HF.2.1
            have BZ9 := Lib.hid HF.2.2
            clear HC HF b4 hR4 HR3 BZ3 z0 z1 z2 z3
            obtain ⟨z0, z1, z2, z3, z4, z5, z6, z7⟩ := blk4 BZ4.out
            have zlt := BZ4.out.lt
            go_wp2_with fail
            clear z0 z1 z2 z3 z4 z5 z6 z7 zlt HR4 BZ4
            generalize (((w4.setCell ⟨zb, 0, none⟩ (.int .i64 o7)).setCell ⟨zb, 1, none⟩ (.int .i64 n7)).setCell ⟨zb, 2, none⟩ (.string m7)).setCell ⟨zb, 3, none⟩ (.slice a7 l7 p7) = w5 at *
            obtain ⟨d0, -, -, v0, v1, v2, v3⟩ := HUP.out w5 HR9.out
            obtain ⟨z0, z1, z2, z3, -, -, -, -⟩ := blk4 (show Mem.Blk w5 zb 46 #[.int .i64 o7, .int .i64 n7, .string m7, .slice a7 l7 p7] from BZ9.out)
            refine wp_region_till (S := fun W => W.cell? ⟨tb, 0, none⟩ = some (.slice (some ⟨bt, ot, none⟩) es.length cE) ∧ (W.cell? ⟨bt, ot + k * 4, none⟩ = some (.int .i64 o5) ∧ W.cell? ⟨bt, ot + k * 4 + 1, none⟩ = some (.int .i64 n5) ∧ W.cell? ⟨bt, ot + k * 4 + 2, none⟩ = some (.string m5) ∧ W.cell? ⟨bt, ot + k * 4 + 3, none⟩ = some (.slice a5 l5 p5)) ∧
              W.cell? ⟨zb, 0, none⟩ = some (.int .i64 o7) ∧ W.cell? ⟨zb, 1, none⟩ = some (.int .i64 n7) ∧ W.cell? ⟨zb, 2, none⟩ = some (.string m7) ∧ W.cell? ⟨zb, 3, none⟩ = some (.slice a7 l7 p7)) 7 (by kernel_rfl) ?_
            refine till_take (i := 0) (v := ?_) rfl (by kernel_rfl) (fun _ _ _ h => h) (Or.inl ⟨by rfl, ?_⟩) ⟨d0,⟨v0,v1,v2,v3⟩,z0,z1,z2,z3⟩ ?_
            rotate_left
            · intro W hS
              try dsimp only at hS
              go_split_ands
              go_simp
              try with_reducible rfl
            try simp only [Act.put, List.getElem_toArray, List.getElem_cons_zero, List.getElem_cons_succ, List.setIfInBounds_toArray, List.set_cons_zero, List.set_cons_succ]
            refine till_take (i := 1) (v := ?_) rfl (by kernel_rfl) (fun _ _ _ h => h) (Or.inl ⟨by rfl, ?_⟩) ⟨d0,⟨v0,v1,v2,v3⟩,z0,z1,z2,z3⟩ ?_
            rotate_left
            · intro W hS
              try dsimp only at hS
              go_split_ands
              go_simp
              try with_reducible rfl
            try simp only [Act.put, List.getElem_toArray, List.getElem_cons_zero, List.getElem_cons_succ, List.setIfInBounds_toArray, List.set_cons_zero, List.set_cons_succ]
            refine till_take (i := 2) (v := ?_) rfl (by kernel_rfl) (fun _ _ _ h => h) (Or.inl ⟨by rfl, ?_⟩) ⟨d0,⟨v0,v1,v2,v3⟩,z0,z1,z2,z3⟩ ?_
            rotate_left
            · intro W hS
              try dsimp only at hS
              go_split_ands
              go_simp
              try with_reducible rfl
            try simp only [Act.put, List.getElem_toArray, List.getElem_cons_zero, List.getElem_cons_succ, List.setIfInBounds_toArray, List.set_cons_zero, List.set_cons_succ]
            refine till_take (i := 3) (v := ?_) rfl (by kernel_rfl) (fun _ _ _ h => h) (Or.inl ⟨by rfl, ?_⟩) ⟨d0,⟨v0,v1,v2,v3⟩,z0,z1,z2,z3⟩ ?_
            rotate_left
            · intro W hS
              try dsimp only at hS
              go_split_ands
              go_simp
              try with_reducible rfl
            try simp only [Act.put, List.getElem_toArray, List.getElem_cons_zero, List.getElem_cons_succ, List.setIfInBounds_toArray, List.set_cons_zero, List.set_cons_succ]
            refine till_take (i := 4) (v := ?_) rfl (by kernel_rfl) (fun _ _ _ h => h) (Or.inl ⟨by rfl, ?_⟩) ⟨d0,⟨v0,v1,v2,v3⟩,z0,z1,z2,z3⟩ ?_
            rotate_left
            · intro W hS
              try dsimp only at hS
              go_split_ands
              go_simp
              try with_reducible rfl
            try simp only [Act.put, List.getElem_toArray, List.getElem_cons_zero, List.getElem_cons_succ, List.setIfInBounds_toArray, List.set_cons_zero, List.set_cons_succ]
            refine till_take (i := 6) (v := ?_) rfl (by kernel_rfl) (fun _ _ _ h => h) (Or.inl ⟨by rfl, ?_⟩) ⟨d0,⟨v0,v1,v2,v3⟩,z0,z1,z2,z3⟩ ?_
            rotate_left
            · intro W hS
              try dsimp only at hS
              go_split_ands
              go_simp
              try with_reducible rfl
            try simp only [Act.put, List.getElem_toArray, List.getElem_cons_zero, List.getElem_cons_succ, List.setIfInBounds_toArray, List.set_cons_zero, List.set_cons_succ]
            refine till_one (i := 5) (by kernel_rfl) rfl (fun K' hK => ?_)
            go_simp
            have HRd := Lib.hid (HR9.out.drew)
            go_at_call 28
            (with_reducible refine (HQ.out _ HRd.out).mono ?_)
            rintro y w7 ⟨⟨cs7, rfl, hR7⟩, b7⟩
            obtain ⟨o8, n8, m8, r8, a8, l8, p8, -, rfl, -, -, -, -⟩ := hR7.inv
            have HR7 := Lib.hid hR7
            have HX7 := Lib.hid (HRd.out.trans (b7.mono HRd.out.size))
            have HW7 := Lib.hid ((HWN.out.kept (Kept.of_below (Below.refl _ _).drew [])).kept (Kept.of_below b7 []))
            have BZ7 := Lib.hid (BZ9.out.drew.below b7)
            clear b7 hR7 HRd HR9 HWN BZ9 HQ d0 v0 v1 v2 v3 z0 z1 z2 z3
            obtain ⟨d0, -, -, v0, v1, v2, v3⟩ := HUP.out w7 HX7.out
            obtain ⟨z0, z1, z2, z3, -, -, -, -⟩ := blk4 (show Mem.Blk w7 zb 46 #[.int .i64 o7, .int .i64 n7, .string m7, .slice a7 l7 p7] from BZ7.out)
            refine hK _ _ ⟨d0,⟨v0,v1,v2,v3⟩,z0,z1,z2,z3⟩ ?_
            clear hK K'
            try simp only [Act.put, List.getElem_toArray, List.getElem_cons_zero, List.getElem_cons_succ, List.setIfInBounds_toArray, List.set_cons_zero, List.set_cons_succ]
            refine till_last (by kernel_rfl) rfl (by kernel_rfl) (fun K' hK => ?_)
            go_simp
            go_at_call 27
            (with_reducible refine (rsameExpr_any (foldE t).rk (foldE t) (Nat.le_refl _) (foldE t) _ _ _ HR7.out HW7.out).mono ?_)
            rintro y w8 ⟨rfl, b8⟩
            rw [eqv_yes rfl]
            have HX8 := Lib.hid (HX7.out.trans (b8.mono HX7.out.size))
            clear b8 HX7 HR7 HW7 BZ7 d0 v0 v1 v2 v3 z0 z1 z2 z3
            refine hK _ _ ?_
            clear hK K'
            try simp only [Act.put, List.getElem_toArray, List.getElem_cons_zero, List.getElem_cons_succ, List.setIfInBounds_toArray, List.set_cons_zero, List.set_cons_succ]
            refine any_take (i := 8) (v := ?_) rfl (by kernel_rfl) (fun _ _ _ h => h) (Or.inl ⟨by rfl, ?_⟩) ?_
            rotate_left
            · intro W
              go_simp
              try with_reducible rfl
            try simp only [Act.put, List.getElem_toArray, List.getElem_cons_zero, List.getElem_cons_succ, List.setIfInBounds_toArray, List.set_cons_zero, List.set_cons_succ]
            refine wpAny_done (by kernel_rfl) ?_ _
            go_wp2_with fail
            go_roundw
            case rel => exact ⟨k + 1, by go_num, by omega, HX8.out⟩
            case measure => simp [intOf]; omega
      · have hk' : ¬ (k : Int) < (es.length : Int) := by omega
        clear hlt hk
        have q := BT0.out.below HR.out
        have c0 : wr.cell? ⟨tb, 0, none⟩ = _ := q.cell 0
        have c1 : wr.cell? ⟨tb, 1, none⟩ = _ := q.cell 1
        have c2 : wr.cell? ⟨tb, 2, none⟩ = _ := q.cell 2
        have c3 : wr.cell? ⟨tb, 3, none⟩ = _ := q.cell 3
        have c4 : wr.cell? ⟨tb, 4, none⟩ = _ := q.cell 4
        have c5 : wr.cell? ⟨tb, 5, none⟩ = _ := q.cell 5
        simp only [List.getElem?_toArray, List.getElem?_cons_zero, List.getElem?_cons_succ] at c0 c1 c2 c3 c4 c5
        have HLA := Lib.hid (last_any (HT0.out.kept (Kept.of_below HR.out [])) (fun t ht => by have := HRK2.out t ht; omega) (by have := HTL.out; omega))
        clear q d0
        go_wp2_with fail
        go_at_call 21
        (with_reducible refine HLA.out.mono ?_)
        rintro e w2 ⟨hd, b2⟩
        have HB2 := Lib.hid (HB0.out.trans ((HR.out.trans (b2.mono HR.out.size)).mono HB0.out.size))
        clear HB0 HR b2 HLA c0 c1 c2 c3 c4 c5 HT0 BT0
        rcases hd with ⟨rfl, -⟩ | ⟨cs', t, rfl, hl, hR⟩
        · have HB3 := Lib.hid (HB2.out.alloc HB2.out.size (.cells #[.int .i64 0, .string ⟨#[]⟩, .slice none 0 0, .slice none 0 0] 35))
          clear HB2
          go_wp2_with fail
          generalize w2.alloc (.cells #[.int .i64 0, .string ⟨#[]⟩, .slice none 0 0, .slice none 0 0] 35) = v5 at *
          refine wp_region_till (S := fun _ => True) 7 (by kernel_rfl) ?_
          refine till_take (i := 0) (v := ?_) rfl (by kernel_rfl) (fun _ _ _ h => h) (Or.inl ⟨by rfl, ?_⟩) trivial ?_
          rotate_left
          · intro W hS
            try dsimp only at hS
            go_split_ands
            go_simp
            try with_reducible rfl
          try simp only [Act.put, List.getElem_toArray, List.getElem_cons_zero, List.getElem_cons_succ, List.setIfInBounds_toArray, List.set_cons_zero, List.set_cons_succ]
          refine till_take (i := 1) (v := ?_) rfl (by kernel_rfl) (fun _ _ _ h => h) (Or.inl ⟨by rfl, ?_⟩) trivial ?_
          rotate_left
          · intro W hS
            try dsimp only at hS
            go_split_ands
            go_simp
            try with_reducible rfl
          try simp only [Act.put, List.getElem_toArray, List.getElem_cons_zero, List.getElem_cons_succ, List.setIfInBounds_toArray, List.set_cons_zero, List.set_cons_succ]
          refine till_take (i := 2) (v := ?_) rfl (by kernel_rfl) (fun _ _ _ h => h) (Or.inl ⟨by rfl, ?_⟩) trivial ?_
          rotate_left
          · intro W hS
            try dsimp only at hS
            go_split_ands
            go_simp
            try with_reducible rfl
          try simp only [Act.put, List.getElem_toArray, List.getElem_cons_zero, List.getElem_cons_succ, List.setIfInBounds_toArray, List.set_cons_zero, List.set_cons_succ]
          refine till_take (i := 3) (v := undef) rfl (by kernel_rfl) (fun _ _ _ h => h) (Or.inr ⟨by rfl, rfl⟩) trivial ?_
          try simp only [Act.put, List.getElem_toArray, List.getElem_cons_zero, List.getElem_cons_succ, List.setIfInBounds_toArray, List.set_cons_zero, List.set_cons_succ]
          refine till_take (i := 5) (v := undef) rfl (by kernel_rfl) (fun _ _ _ h => h) (Or.inr ⟨by rfl, rfl⟩) trivial ?_
          try simp only [Act.put, List.getElem_toArray, List.getElem_cons_zero, List.getElem_cons_succ, List.setIfInBounds_toArray, List.set_cons_zero, List.set_cons_succ]
          refine till_one (i := 4) (by kernel_rfl) rfl (fun K' hK => ?_)
          go_simp
          refine hK _ _ trivial ?_
          clear hK K'
          try simp only [Act.put, List.getElem_toArray, List.getElem_cons_zero, List.getElem_cons_succ, List.setIfInBounds_toArray, List.set_cons_zero, List.set_cons_succ]
          refine till_one (i := 6) (by kernel_rfl) rfl (fun K' hK => ?_)
          go_simp
          refine hK _ _ trivial ?_
          clear hK K'
          try simp only [Act.put, List.getElem_toArray, List.getElem_cons_zero, List.getElem_cons_succ, List.setIfInBounds_toArray, List.set_cons_zero, List.set_cons_succ]
          refine till_last (by kernel_rfl) rfl (by kernel_rfl) (fun K' hK => ?_)
          go_simp
          refine hK _ _ ?_
          clear hK K'
          try simp only [Act.put, List.getElem_toArray, List.getElem_cons_zero, List.getElem_cons_succ, List.setIfInBounds_toArray, List.set_cons_zero, List.set_cons_succ]
          refine any_take (i := 8) (v := ?_) rfl (by kernel_rfl) (fun _ _ _ h => h) (Or.inl ⟨by rfl, ?_⟩) ?_
          rotate_left
          · intro W
            go_simp
            try with_reducible rfl
          try simp only [Act.put, List.getElem_toArray, List.getElem_cons_zero, List.getElem_cons_succ, List.setIfInBounds_toArray, List.set_cons_zero, List.set_cons_succ]
          refine any_take (i := 9) (v := ?_) rfl (by kernel_rfl) (fun _ _ _ h => h) (Or.inl ⟨by rfl, ?_⟩) ?_
          rotate_left
          · intro W
            go_simp
            try with_reducible rfl
          try simp only [Act.put, List.getElem_toArray, List.getElem_cons_zero, List.getElem_cons_succ, List.setIfInBounds_toArray, List.set_cons_zero, List.set_cons_succ]
          refine any_one (i := 10) (by kernel_rfl) rfl (fun K' hK => ?_)
          go_simp
          go_at_call 14
          (with_reducible refine (awake21_any _).mono ?_)
          rintro e w6 ⟨rfl, b6⟩
          have HB6 := Lib.hid (HB3.out.drew.trans (b6.mono HB3.out.drew.size))
          clear b6 HB3
          refine hK _ _ ?_
          clear hK K'
          try simp only [Act.put, List.getElem_toArray, List.getElem_cons_zero, List.getElem_cons_succ, List.setIfInBounds_toArray, List.set_cons_zero, List.set_cons_succ]
          refine any_take (i := 11) (v := ?_) rfl (by kernel_rfl) (fun _ _ _ h => h) (Or.inl ⟨by rfl, ?_⟩) ?_
          rotate_left
          · intro W
            go_simp
            try with_reducible rfl
          try simp only [Act.put, List.getElem_toArray, List.getElem_cons_zero, List.getElem_cons_succ, List.setIfInBounds_toArray, List.set_cons_zero, List.set_cons_succ]
          refine any_take (i := 12) (v := ?_) rfl (by kernel_rfl) (fun _ _ _ h => h) (Or.inl ⟨by rfl, ?_⟩) ?_
          rotate_left
          · intro W
            go_simp
            try with_reducible rfl
          try simp only [Act.put, List.getElem_toArray, List.getElem_cons_zero, List.getElem_cons_succ, List.setIfInBounds_toArray, List.set_cons_zero, List.set_cons_succ]
          refine wpAny_done (by kernel_rfl) ?_ _
          go_wp2_with fail
          go_ret
          exact ⟨rfl, HB6.out⟩
        · have hrt := (lastT_right hl).1
          have hft : foldTX t = foldT t := by unfold foldTX; rw [if_pos hrt]
          have hrk16 : t.rk ≤ 16 := by
            have e : rT t = (decide (t.nd ≤ 200 ∧ t.rk ≤ 16) && bT t) := rfl
            rw [e, Bool.and_eq_true, decide_eq_true_eq] at hrt
            exact hrt.1.2
          have hbt := rT_bT hrt
          obtain ⟨o5, m5, x5, t5, a5, l5, p5, a6, l6, p6, -, rfl, -⟩ := hR.inv
          have hal := (Below.refl w2.heap.size w2).alloc (Nat.le_refl _) (.cells #[.int .i64 o5, .string m5, .slice a5 l5 p5, .slice a6 l6 p6] 35)
          have HB3 := Lib.hid (HB2.out.trans (hal.mono HB2.out.size))
          have HR3 := Lib.hid (hR.kept (Kept.of_below hal []))
          have BX := Lib.hid (Mem.Blk.new w2 35 #[.int .i64 o5, .string m5, .slice a5 l5 p5, .slice a6 l6 p6])
          have HQ1 := Lib.hid (fun W (hW : RepT W [] t _) => foldTX_any t [] [.int .i64 o5, .string m5, .slice a5 l5 p5, .slice a6 l6 p6] W hW (fun b hb => absurd hb List.not_mem_nil) (by omega))
          have HQ2 := Lib.hid (fun W (hW : RepT W [] t _) => rfolded_any t.rk t (Nat.le_refl _) hbt [] [.int .i64 o5, .string m5, .slice a5 l5 p5, .slice a6 l6 p6] W (fun b hb => absurd hb List.not_mem_nil) hW)
          rw [hft] at HQ1
          clear hal hR HB2 hl hrt hft hrk16 hbt
          go_wp2_with fail
          generalize w2.alloc (.cells #[.int .i64 o5, .string m5, .slice a5 l5 p5, .slice a6 l6 p6] 35) = v5 at *
          generalize w2.heap.size = xb at *
          generalize foldT t = F at *
          obtain ⟨x0, x1, x2, x3, -, -, -, -⟩ := blk4 BX.out
          refine wp_region_till (S := fun W => W.cell? ⟨xb, 0, none⟩ = some (.int .i64 o5) ∧ W.cell? ⟨xb, 1, none⟩ = some (.string m5) ∧ W.cell? ⟨xb, 2, none⟩ = some (.slice a5 l5 p5) ∧ W.cell? ⟨xb, 3, none⟩ = some (.slice a6 l6 p6)) 7 (by kernel_rfl) ?_
          refine till_take (i := 0) (v := ?_) rfl (by kernel_rfl) (fun _ _ _ h => h) (Or.inl ⟨by rfl, ?_⟩) ⟨x0,x1,x2,x3⟩ ?_
          rotate_left
          · intro W hS
            try dsimp only at hS
            go_split_ands
            go_simp
            try with_reducible rfl
          try simp only [Act.put, List.getElem_toArray, List.getElem_cons_zero, List.getElem_cons_succ, List.setIfInBounds_toArray, List.set_cons_zero, List.set_cons_succ]
          refine till_take (i := 1) (v := ?_) rfl (by kernel_rfl) (fun _ _ _ h => h) (Or.inl ⟨by rfl, ?_⟩) ⟨x0,x1,x2,x3⟩ ?_
          rotate_left
          · intro W hS
            try dsimp only at hS
            go_split_ands
            go_simp
            try with_reducible rfl
          try simp only [Act.put, List.getElem_toArray, List.getElem_cons_zero, List.getElem_cons_succ, List.setIfInBounds_toArray, List.set_cons_zero, List.set_cons_succ]
          refine till_take (i := 2) (v := ?_) rfl (by kernel_rfl) (fun _ _ _ h => h) (Or.inl ⟨by rfl, ?_⟩) ⟨x0,x1,x2,x3⟩ ?_
          rotate_left
          · intro W hS
            try dsimp only at hS
            go_split_ands
            go_simp
            try with_reducible rfl
          try simp only [Act.put, List.getElem_toArray, List.getElem_cons_zero, List.getElem_cons_succ, List.setIfInBounds_toArray, List.set_cons_zero, List.set_cons_succ]
          refine till_take (i := 3) (v := ?_) rfl (by kernel_rfl) (fun _ _ _ h => h) (Or.inl ⟨by rfl, ?_⟩) ⟨x0,x1,x2,x3⟩ ?_
          rotate_left
          · intro W hS
            try dsimp only at hS
            go_split_ands
            go_simp
            try with_reducible rfl
          try simp only [Act.put, List.getElem_toArray, List.getElem_cons_zero, List.getElem_cons_succ, List.setIfInBounds_toArray, List.set_cons_zero, List.set_cons_succ]
          refine till_take (i := 5) (v := ?_) rfl (by kernel_rfl) (fun _ _ _ h => h) (Or.inl ⟨by rfl, ?_⟩) ⟨x0,x1,x2,x3⟩ ?_
          rotate_left
          · intro W hS
            try dsimp only at hS
            go_split_ands
            go_simp
            try with_reducible rfl
          try simp only [Act.put, List.getElem_toArray, List.getElem_cons_zero, List.getElem_cons_succ, List.setIfInBounds_toArray, List.set_cons_zero, List.set_cons_succ]
          refine till_one (i := 4) (by kernel_rfl) rfl (fun K' hK => ?_)
          go_simp
          go_at_call 30
          (with_reducible refine (HQ1.out _ (HR3.out.kept (Kept.of_below (Below.refl _ _).drew []))).mono ?_)
          rintro y w6 ⟨⟨cs6, rfl, hR6⟩, b6⟩
          obtain ⟨o7, m7, x7, t7, a7, l7, p7, a8, l8, p8, -, rfl, -⟩ := hR6.inv
          have HU6 : Hid (Below v5.heap.size v5 w6) := (Below.refl _ _).drew.trans b6
          have HR6 := Lib.hid hR6
          clear b6 hR6 x0 x1 x2 x3 HQ1
          obtain ⟨x0, x1, x2, x3, -, -, -, -⟩ := blk4 (BX.out.below HU6.out)
          refine hK _ _ ⟨x0,x1,x2,x3⟩ ?_
          clear hK K'
          try simp only [Act.put, List.getElem_toArray, List.getElem_cons_zero, List.getElem_cons_succ, List.setIfInBounds_toArray, List.set_cons_zero, List.set_cons_succ]
          refine till_one (i := 6) (by kernel_rfl) rfl (fun K' hK => ?_)
          go_simp
          go_at_call 31
          (with_reducible refine (HQ2.out _ (HR3.out.kept (Kept.of_below HU6.out []))).mono ?_)
          rintro y w7 ⟨⟨cs7, rfl, hR7⟩, b7⟩
          obtain ⟨o9, m9, x9, t9, a9, l9, p9, aa, la, pa, -, rfl, -⟩ := hR7.inv
          have HU7 := Lib.hid (HU6.out.trans (b7.mono HU6.out.size))
          have HR7 := Lib.hid hR7
          have HR67 := Lib.hid (HR6.out.kept (Kept.of_below b7 []))
          clear b7 hR7 x0 x1 x2 x3 HQ2 HU6 HR6
          obtain ⟨x0, x1, x2, x3, -, -, -, -⟩ := blk4 (BX.out.below HU7.out)
          refine hK _ _ ⟨x0,x1,x2,x3⟩ ?_
          clear hK K'
          try simp only [Act.put, List.getElem_toArray, List.getElem_cons_zero, List.getElem_cons_succ, List.setIfInBounds_toArray, List.set_cons_zero, List.set_cons_succ]
          refine till_last (by kernel_rfl) rfl (by kernel_rfl) (fun K' hK => ?_)
          go_simp
          go_at_call 29
          (with_reducible refine (rsame_any F.rk F (Nat.le_refl _) F _ _ _ HR67.out HR7.out).mono ?_)
          rintro y w8 ⟨rfl, b8⟩
          rw [eqv_yes rfl]
          have HU8 := Lib.hid (HU7.out.trans (b8.mono HU7.out.size))
          clear b8 HU7 HR7 HR67 x0 x1 x2 x3
          refine hK _ _ ?_
          clear hK K'
          try simp only [Act.put, List.getElem_toArray, List.getElem_cons_zero, List.getElem_cons_succ, List.setIfInBounds_toArray, List.set_cons_zero, List.set_cons_succ]
          refine any_take (i := 8) (v := ?_) rfl (by kernel_rfl) (fun _ _ _ h => h) (Or.inl ⟨by rfl, ?_⟩) ?_
          rotate_left
          · intro W
            go_simp
            try with_reducible rfl
          try simp only [Act.put, List.getElem_toArray, List.getElem_cons_zero, List.getElem_cons_succ, List.setIfInBounds_toArray, List.set_cons_zero, List.set_cons_succ]
          refine any_take (i := 9) (v := ?_) rfl (by kernel_rfl) (fun _ _ _ h => h) (Or.inl ⟨by rfl, ?_⟩) ?_
          rotate_left
          · intro W
            go_simp
            try with_reducible rfl
          try simp only [Act.put, List.getElem_toArray, List.getElem_cons_zero, List.getElem_cons_succ, List.setIfInBounds_toArray, List.set_cons_zero, List.set_cons_succ]
          refine any_one (i := 10) (by kernel_rfl) rfl (fun K' hK => ?_)
          go_simp
          go_at_call 14
          (with_reducible refine (awake21_any _).mono ?_)
          rintro e w9 ⟨rfl, b9⟩
          have HB9 := Lib.hid (HB3.out.trans ((HU8.out.trans (b9.mono HU8.out.size)).mono HB3.out.size))
          clear b9 HB3 HU8
          refine hK _ _ ?_
          clear hK K'
          try simp only [Act.put, List.getElem_toArray, List.getElem_cons_zero, List.getElem_cons_succ, List.setIfInBounds_toArray, List.set_cons_zero, List.set_cons_succ]
          refine any_take (i := 11) (v := ?_) rfl (by kernel_rfl) (fun _ _ _ h => h) (Or.inl ⟨by rfl, ?_⟩) ?_
          rotate_left
          · intro W
            go_simp
            try with_reducible rfl
          try simp only [Act.put, List.getElem_toArray, List.getElem_cons_zero, List.getElem_cons_succ, List.setIfInBounds_toArray, List.set_cons_zero, List.set_cons_succ]
          refine any_take (i := 12) (v := ?_) rfl (by kernel_rfl) (fun _ _ _ h => h) (Or.inl ⟨by rfl, ?_⟩) ?_
          rotate_left
          · intro W
            go_simp
            try with_reducible rfl
          try simp only [Act.put, List.getElem_toArray, List.getElem_cons_zero, List.getElem_cons_succ, List.setIfInBounds_toArray, List.set_cons_zero, List.set_cons_succ]
          refine wpAny_done (by kernel_rfl) ?_ _
          go_wp2_with fail
          go_ret
          exact ⟨rfl, HB9.out⟩
end Go.Proofs.Ytppnmeobnilojaa
