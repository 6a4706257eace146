/- A part of the proof: LawF, one behind another. -/
import Derived.Test.YtppnmeobnilojaaMAA
import Derived.Test.YtppnmeobnilojaaMAB
import Derived.Test.YtppnmeobnilojaaMAC
import Derived.Test.YtppnmeobnilojaaMAD
import Derived.Test.YtppnmeobnilojaaMAE
import Derived.Test.YtppnmeobnilojaaMAF
import Derived.Test.YtppnmeobnilojaaMAG
import Derived.Test.YtppnmeobnilojaaMAH
/- The walk of CheckFolded, for any leaves. -/
namespace Go.Proofs.Ytppnmeobnilojaa
set_option linter.unusedVariables false
set_option linter.unusedSimpArgs false
open Go.RowKit
theorem rE_mk {t : Ex} (h : rE t = true) : bE t = true ∧ t.nd ≤ 200 ∧ t.rk ≤ 16 := by
  have e : rE t = (decide (t.nd ≤ 200 ∧ t.rk ≤ 16) && bE t) := rfl
  rw [e, Bool.and_eq_true, decide_eq_true_eq] at h
  exact ⟨h.2, h.1.1, h.1.2⟩
theorem rE_of {t : Ex} (h : bE t = true) (h1 : t.nd ≤ 200) (h2 : t.rk ≤ 16) : rE t = true := by
  have e : rE t = (decide (t.nd ≤ 200 ∧ t.rk ≤ 16) && bE t) := rfl
  rw [e, Bool.and_eq_true, decide_eq_true_eq]
  exact ⟨⟨h1, h2⟩, h⟩
theorem fold_right {t : Ex} (h : rE t = true) : rE (foldE t) = true := by
  obtain ⟨h1, h2, h3⟩ := rE_mk h
  have := foldE_size t h1
  exact rE_of (foldE_built t h1) (by omega) (by omega)
set_option maxRecDepth 100000 in
set_option maxHeartbeats 4000000 in
theorem checkFolded_any (lfs : List Lf) (a : Option Addr) (len cap : Nat) (w : World) (h1 : SlR lfK w [] lfs a len cap) :
    Calls Try.prog 7 #[.slice a len cap] w fun e w' => e = .returned (.bool true) ∧ Below w.heap.size w w' := by
  have HBU := Lib.hid (build_any lfs [] a none len cap 0 0 w h1 (SlR.nil _ _ _))
  clear h1
  go_enter Try.func7, Try.ntmps7
  go_wp2_with fail
  go_at_call 13
  (with_reducible refine (great21_any _ _ _ _ _ _ _).mono ?_)
  rintro e w' ⟨rfl, rfl⟩
  by_cases hg : 60 < len ∨ 60 < 0
  · rw [decide_eq_true hg]
    clear hg HBU
    go_wp2_with fail
    go_at_call 14
    (with_reducible refine (awake21_any _).mono ?_)
    rintro e w1 ⟨rfl, b1⟩
    have HB1 := Lib.hid b1
    clear b1
    go_wp2_with fail
    go_ret
    exact ⟨rfl, HB1.out⟩
  · rw [decide_eq_false hg]
    clear hg
    go_wp2_with fail
    go_at_call 15
    (with_reducible refine HBU.out.mono ?_)
    rintro e w1 ⟨⟨es, ts, cs, rfl, hT, hle, -, hrk, -⟩, b1⟩
    obtain ⟨aE, cE, aN, cN, aD, cD, aT, cT, aM, cM, aP, cP, hcs, h4, -⟩ := id hT
    have hal := (Below.refl w1.heap.size w1).alloc (Nat.le_refl _) (.cells #[.slice aE es.length cE, .slice aN (nds es).length cN, .slice aD (rks es).length cD, .slice aT ts.length cT, .slice aM (ndsT ts).length cM, .slice aP (rksT ts).length cP] 30)
    have HB0 := Lib.hid (b1.trans (hal.mono b1.size))
    have HT0 := Lib.hid (hT.kept (Kept.of_below hal []))
    have BT0 := Lib.hid (Mem.Blk.new w1 30 #[.slice aE es.length cE, .slice aN (nds es).length cN, .slice aD (rks es).length cD, .slice aT ts.length cT, .slice aM (ndsT ts).length cM, .slice aP (rksT ts).length cP])
    have H4 := Lib.hid (h4.kept (Kept.of_below hal []))
    have HRK := Lib.hid hrk
    subst hcs
    clear hT b1 hrk HBU hal h4
    go_upto_region 4 with (fail)
    generalize w1.alloc (.cells #[.slice aE es.length cE, .slice aN (nds es).length cN, .slice aD (rks es).length cD, .slice aT ts.length cT, .slice aM (ndsT ts).length cM, .slice aP (rksT ts).length cP] 30) = v at *
    generalize w1.heap.size = tb at *
    have c0 : v.cell? ⟨tb, 0, none⟩ = _ := BT0.out.cell 0
    have c1 : v.cell? ⟨tb, 1, none⟩ = _ := BT0.out.cell 1
    have c2 : v.cell? ⟨tb, 2, none⟩ = _ := BT0.out.cell 2
    have c3 : v.cell? ⟨tb, 3, none⟩ = _ := BT0.out.cell 3
    have c4 : v.cell? ⟨tb, 4, none⟩ = _ := BT0.out.cell 4
    have c5 : v.cell? ⟨tb, 5, none⟩ = _ := BT0.out.cell 5
    simp only [List.getElem?_toArray, List.getElem?_cons_zero, List.getElem?_cons_succ] at c0 c1 c2 c3 c4 c5
    rcases Nat.eq_zero_or_pos es.length with hz | hz
    · have hz' : ((es.length : Int) == 0) = true := by rw [hz]; rfl
      clear hz H4 HT0 BT0
      go_wp2_with fail
      go_at_call 14
      (with_reducible refine (awake21_any _).mono ?_)
      rintro e w3 ⟨rfl, b9⟩
      have HB9 := Lib.hid (HB0.out.trans (b9.mono HB0.out.size))
      clear b9
      go_wp2_with fail
      go_ret
      exact ⟨rfl, HB9.out⟩
    · obtain ⟨k, hk⟩ : ∃ k, es.length = k + 1 := ⟨es.length - 1, by omega⟩
      obtain ⟨t, ht⟩ : ∃ t, es[k]? = some t := ⟨_, List.getElem?_eq_getElem (by omega)⟩
      have HRE := Lib.hid (treeRightE_any HT0.out k ht (by have := HRK.out t (List.mem_of_getElem? ht); omega))
      obtain ⟨bt, ot, xt, ct, rfl, -, -, hxt, hRt, -, hct⟩ := H4.out.at k (by omega)
      obtain rfl : t = xt := by rw [ht] at hxt; injection hxt
      have HRT := Lib.hid (show RepE v [] t ct from hRt)
      obtain ⟨o5, n5, m5, r5, a5, l5, p5, -, rfl, -, -, -, -⟩ := HRT.out.inv
      have HCT : Hid (∀ j c, [.int .i64 o5, .int .i64 n5, .string m5, .slice a5 l5 p5][j]? = some c → v.cell? ⟨bt, ot + k * 4 + j, none⟩ = some c) := hct
      have hw : (es.length : Int) - 1 = (k : Int) := by omega
      have hk1 : ((es.length : Int) == 0) = false := beq_eq_false_iff_ne.2 (by omega)
      have hk2 : (0 : Int) ≤ (k : Int) := by omega
      have hk3 : (k : Int) < (es.length : Int) := by omega
      clear hxt hRt hct ht H4 hz hk
      go_wp2_with fail
      go_at_call 24
      (with_reducible refine HRE.out.mono ?_)
      rintro y w2 ⟨rfl, b2⟩
      have HW2 := Lib.hid b2
      clear b2 HRE c1 c2 c3 c4 c5
      cases hre : rE t
      · have HB2 := Lib.hid (HB0.out.trans (HW2.out.mono HB0.out.size))
        clear hre c0
        go_wp2_with fail
        go_at_call 14
        (with_reducible refine (awake21_any _).mono ?_)
        rintro e w3 ⟨rfl, b9⟩
        have HB9 := Lib.hid (HB2.out.trans (b9.mono HB2.out.size))
        clear b9
        go_wp2_with fail
        go_ret
        exact ⟨rfl, HB9.out⟩
      · have HX := Lib.hid hre
        clear hre
        have d0 := cell_up c0 HW2.out
        have v0 := cell_up (HCT.out 0 _ rfl) HW2.out
        have v1 := cell_up (HCT.out 1 _ rfl) HW2.out
        have v2 := cell_up (HCT.out 2 _ rfl) HW2.out
        have v3 := cell_up (HCT.out 3 _ rfl) HW2.out
        rw [Nat.add_zero] at v0
        have hal := (Below.refl w2.heap.size w2).alloc (Nat.le_refl _) (.cells #[.int .i64 o5, .int .i64 n5, .string m5, .slice a5 l5 p5] 46)
        have HR3 := Lib.hid ((HRT.out.kept (Kept.of_below HW2.out [])).kept (Kept.of_below hal []))
        have HB3 := Lib.hid (HB0.out.trans ((HW2.out.trans (hal.mono HW2.out.size)).mono HB0.out.size))
        have BX := Lib.hid (Mem.Blk.new w2 46 #[.int .i64 o5, .int .i64 n5, .string m5, .slice a5 l5 p5])
        clear hal HCT HRT HW2 HT0 BT0 HB0 HRK c0
        go_upto_region 8 with (fail)
        generalize w2.alloc (.cells #[.int .i64 o5, .int .i64 n5, .string m5, .slice a5 l5 p5] 46) = u at *
        generalize w2.heap.size = xb at *
        obtain ⟨hb, hnd, hrk16⟩ := rE_mk HX.out
        have hsz := foldE_size t hb
        have hFX : foldX t = foldE t := by unfold foldX; rw [if_pos HX.out]
        have hRY := fold_right HX.out
        have HRY := Lib.hid hRY
        have HKY := Lib.hid (show kI (foldE t) = kI t by
          have e1 : kI (foldE t) = if rE (foldE t) then kE (foldE t) else 0 := rfl
          have e2 : kI t = if rE t then kE t else 0 := rfl
          rw [e1, e2, hRY, HX.out, foldE_kind t hb])
        have HFY := Lib.hid (show foldX (foldE t) = foldE t by
          unfold foldX; rw [if_pos hRY]
          exact (foldE_twice t hb (RepE.nums t.rk t (Nat.le_refl _) _ HR3.out)).2)
        have HSZ := Lib.hid (show (if (foldE t).nd < 1000 then ((foldE t).nd : Int) else 1000) ≤ (if t.nd < 1000 then (t.nd : Int) else 1000) by rw [if_pos (by omega), if_pos (by omega)]; omega)
        have HRK := Lib.hid hrk16
        have HRKY : Hid ((foldE t).rk ≤ 16) := by show _ ≤ _; omega
        have HC := Lib.hid (foldX_any t [] _ u HR3.out (fun b hb => absurd hb List.not_mem_nil) (by omega))
        rw [hFX] at HC
        clear hb hnd hrk16 hsz hFX hRY HX
        generalize foldE t = Y at *
        obtain ⟨x0, x1, x2, x3, -, -, -, -⟩ := blk4 BX.out
        go_wp2_with fail
        go_at_call 28
        (with_reducible refine HC.out.mono ?_)
        rintro x w4 ⟨⟨cs4, rfl, hR4⟩, b4⟩
        obtain ⟨o7, n7, m7, r7, a7, l7, p7, -, rfl, -, -, -, -⟩ := hR4.inv
        have hal := (Below.refl w4.heap.size w4).alloc (Nat.le_refl _) (.cells #[.int .i64 o7, .int .i64 n7, .string m7, .slice a7 l7 p7] 46)
        have HR5 := Lib.hid ((HR3.out.kept (Kept.of_below b4 [])).kept (Kept.of_below hal []))
        have HY5 := Lib.hid (hR4.kept (Kept.of_below hal []))
        have HB5 := Lib.hid (HB3.out.trans ((b4.trans (hal.mono b4.size)).mono HB3.out.size))
        have BX5 := Lib.hid ((BX.out.below b4).below hal)
        have BY5 := Lib.hid (Mem.Blk.new w4 46 #[.int .i64 o7, .int .i64 n7, .string m7, .slice a7 l7 p7])
        clear hal b4 hR4 HC HR3 HB3 BX x0 x1 x2 x3
        go_upto_region 9 with (fail)
        generalize w4.alloc (.cells #[.int .i64 o7, .int .i64 n7, .string m7, .slice a7 l7 p7] 46) = u5 at *
        generalize w4.heap.size = yb at *
        obtain ⟨x0, x1, x2, x3, -, -, -, -⟩ := blk4 BX5.out
        go_wp2_with fail
        go_at_call 23
        (with_reducible refine (kindX_any t _ u5 HR5.out (by have := HRK.out; omega)).mono ?_)
        rintro x w6 ⟨rfl, b6⟩
        have HW6 := Lib.hid b6
        clear b6 x0 x1 x2 x3
        obtain ⟨y0, y1, y2, y3, -, -, -, -⟩ := blk4 (BY5.out.below HW6.out)
        go_wp2_with fail
        go_at_call 23
        (with_reducible refine (kindX_any Y _ w6 (HY5.out.kept (Kept.of_below HW6.out [])) (by have := HRKY.out; omega)).mono ?_)
        rintro x w7 ⟨rfl, b7⟩
        rw [HKY.out]
        have HW7 := Lib.hid (HW6.out.trans (b7.mono HW6.out.size))
        clear b7 y0 y1 y2 y3 HW6
        generalize kI t = ki at *
        obtain ⟨x0, x1, x2, x3, -, -, -, -⟩ := blk4 (BX5.out.below HW7.out)
        go_wp2_with fail
        go_at_call 32
        (with_reducible refine (sizeX_any t _ w7 (HR5.out.kept (Kept.of_below HW7.out [])) (by have := HRK.out; omega)).mono ?_)
        rintro x w8 ⟨rfl, b8⟩
        have HW8 := Lib.hid (HW7.out.trans (b8.mono HW7.out.size))
        clear b8 x0 x1 x2 x3 HW7
        generalize (if t.nd < 1000 then (t.nd : Int) else 1000) = sx at *
        generalize (if t.nd < 1000 then (t.rk : Int) else 1000) = sx' at *
        obtain ⟨y0, y1, y2, y3, -, -, -, -⟩ := blk4 (BY5.out.below HW8.out)
        go_wp2_with fail
        go_at_call 32
        (with_reducible refine (sizeX_any Y _ w8 (HY5.out.kept (Kept.of_below HW8.out [])) (by have := HRKY.out; omega)).mono ?_)
        rintro x w9 ⟨rfl, b9⟩
        have HW9 := Lib.hid (HW8.out.trans (b9.mono HW8.out.size))
        clear b9 y0 y1 y2 y3 HW8
        generalize (if Y.nd < 1000 then (Y.nd : Int) else 1000) = sy at *
        generalize (if Y.nd < 1000 then (Y.rk : Int) else 1000) = sy' at *
        have hss : sy ≤ sx := HSZ.out
        clear HSZ HKY HR5 BX5
        obtain ⟨y0, y1, y2, y3, -, -, -, -⟩ := blk4 (BY5.out.below HW9.out)
        go_wp2_with fail
        refine wp_region_till (S := fun W => W.cell? ⟨yb, 0, none⟩ = some (.int .i64 o7) ∧ W.cell? ⟨yb, 1, none⟩ = some (.int .i64 n7) ∧ W.cell? ⟨yb, 2, none⟩ = some (.string m7) ∧ W.cell? ⟨yb, 3, none⟩ = some (.slice a7 l7 p7)) 16 (by kernel_rfl) ?_
        refine till_take (i := 0) (v := ?_) rfl (by kernel_rfl) (fun _ _ _ h => h) (Or.inl ⟨by rfl, ?_⟩) ⟨y0,y1,y2,y3⟩ ?_
        rotate_left
        · intro W hS
          try dsimp only at hS
          go_split_ands
          go_simp
          try with_reducible rfl
        try simp only [Act.put, List.getElem_toArray, List.getElem_cons_zero, List.getElem_cons_succ, List.setIfInBounds_toArray, List.set_cons_zero, List.set_cons_succ]
        refine till_take (i := 1) (v := ?_) rfl (by kernel_rfl) (fun _ _ _ h => h) (Or.inl ⟨by rfl, ?_⟩) ⟨y0,y1,y2,y3⟩ ?_
        rotate_left
        · intro W hS
          try dsimp only at hS
          go_split_ands
          go_simp
          try with_reducible rfl
        try simp only [Act.put, List.getElem_toArray, List.getElem_cons_zero, List.getElem_cons_succ, List.setIfInBounds_toArray, List.set_cons_zero, List.set_cons_succ]
        refine till_take (i := 2) (v := ?_) rfl (by kernel_rfl) (fun _ _ _ h => h) (Or.inl ⟨by rfl, ?_⟩) ⟨y0,y1,y2,y3⟩ ?_
        rotate_left
        · intro W hS
          try dsimp only at hS
          go_split_ands
          go_simp
          try with_reducible rfl
        try simp only [Act.put, List.getElem_toArray, List.getElem_cons_zero, List.getElem_cons_succ, List.setIfInBounds_toArray, List.set_cons_zero, List.set_cons_succ]
        refine till_take (i := 3) (v := ?_) rfl (by kernel_rfl) (fun _ _ _ h => h) (Or.inl ⟨by rfl, ?_⟩) ⟨y0,y1,y2,y3⟩ ?_
        rotate_left
        · intro W hS
          try dsimp only at hS
          go_split_ands
          go_simp
          try with_reducible rfl
        try simp only [Act.put, List.getElem_toArray, List.getElem_cons_zero, List.getElem_cons_succ, List.setIfInBounds_toArray, List.set_cons_zero, List.set_cons_succ]
        refine till_take (i := 4) (v := ?_) rfl (by kernel_rfl) (fun _ _ _ h => h) (Or.inl ⟨by rfl, ?_⟩) ⟨y0,y1,y2,y3⟩ ?_
        rotate_left
        · intro W hS
          try dsimp only at hS
          go_split_ands
          go_simp
          try with_reducible rfl
        try simp only [Act.put, List.getElem_toArray, List.getElem_cons_zero, List.getElem_cons_succ, List.setIfInBounds_toArray, List.set_cons_zero, List.set_cons_succ]
        refine till_take (i := 5) (v := ?_) rfl (by kernel_rfl) (fun _ _ _ h => h) (Or.inl ⟨by rfl, ?_⟩) ⟨y0,y1,y2,y3⟩ ?_
        rotate_left
        · intro W hS
          try dsimp only at hS
          go_split_ands
          go_simp
          try with_reducible rfl
        try simp only [Act.put, List.getElem_toArray, List.getElem_cons_zero, List.getElem_cons_succ, List.setIfInBounds_toArray, List.set_cons_zero, List.set_cons_succ]
        refine till_take (i := 6) (v := ?_) rfl (by kernel_rfl) (fun _ _ _ h => h) (Or.inl ⟨by rfl, ?_⟩) ⟨y0,y1,y2,y3⟩ ?_
        rotate_left
        · intro W hS
          try dsimp only at hS
          go_split_ands
          go_simp
          try with_reducible rfl
        try simp only [Act.put, List.getElem_toArray, List.getElem_cons_zero, List.getElem_cons_succ, List.setIfInBounds_toArray, List.set_cons_zero, List.set_cons_succ]
        refine till_take (i := 7) (v := ?_) rfl (by kernel_rfl) (fun _ _ _ h => h) (Or.inl ⟨by rfl, ?_⟩) ⟨y0,y1,y2,y3⟩ ?_
        rotate_left
        · intro W hS
          try dsimp only at hS
          go_split_ands
          go_simp
          try with_reducible rfl
        try simp only [Act.put, List.getElem_toArray, List.getElem_cons_zero, List.getElem_cons_succ, List.setIfInBounds_toArray, List.set_cons_zero, List.set_cons_succ]
        refine till_take (i := 8) (v := ?_) rfl (by kernel_rfl) (fun _ _ _ h => h) (Or.inl ⟨by rfl, ?_⟩) ⟨y0,y1,y2,y3⟩ ?_
        rotate_left
        · intro W hS
          try dsimp only at hS
          go_split_ands
          go_simp
          try with_reducible rfl
        try simp only [Act.put, List.getElem_toArray, List.getElem_cons_zero, List.getElem_cons_succ, List.setIfInBounds_toArray, List.set_cons_zero, List.set_cons_succ]
        refine till_take (i := 9) (v := ?_) rfl (by kernel_rfl) (fun _ _ _ h => h) (Or.inl ⟨by rfl, ?_⟩) ⟨y0,y1,y2,y3⟩ ?_
        rotate_left
        · intro W hS
          try dsimp only at hS
          go_split_ands
          go_simp
          try with_reducible rfl
        try simp only [Act.put, List.getElem_toArray, List.getElem_cons_zero, List.getElem_cons_succ, List.setIfInBounds_toArray, List.set_cons_zero, List.set_cons_succ]
        refine till_one (i := 10) (by kernel_rfl) rfl (fun K' hK => ?_)
        go_simp
        go_at_call 33
        have HW9d := Lib.hid (HW9.out.drew)
        (with_reducible refine (rightExpr_any Y _ _ (HY5.out.kept (Kept.of_below HW9d.out [])) (by have := HRKY.out; omega)).mono ?_)
        rintro x w10 ⟨rfl, b10⟩
        rw [HRY.out]
        have HW10 := Lib.hid (HW9d.out.trans (b10.mono HW9d.out.size))
        clear b10 y0 y1 y2 y3 HW9 HW9d
        obtain ⟨y0, y1, y2, y3, -, -, -, -⟩ := blk4 (BY5.out.below HW10.out)
        refine hK _ _ ⟨y0,y1,y2,y3⟩ ?_
        clear hK K'
        try simp only [Act.put, List.getElem_toArray, List.getElem_cons_zero, List.getElem_cons_succ, List.setIfInBounds_toArray, List.set_cons_zero, List.set_cons_succ]
        refine till_take (i := 11) (v := ?_) rfl (by kernel_rfl) (fun _ _ _ h => h) (Or.inl ⟨by rfl, ?_⟩) ⟨y0,y1,y2,y3⟩ ?_
        rotate_left
        · intro W hS
          try dsimp only at hS
          go_split_ands
          go_simp
          try with_reducible rfl
        try simp only [Act.put, List.getElem_toArray, List.getElem_cons_zero, List.getElem_cons_succ, List.setIfInBounds_toArray, List.set_cons_zero, List.set_cons_succ]
        refine till_take (i := 12) (v := ?_) rfl (by kernel_rfl) (fun _ _ _ h => h) (Or.inl ⟨by rfl, ?_⟩) ⟨y0,y1,y2,y3⟩ ?_
        rotate_left
        · intro W hS
          try dsimp only at hS
          go_split_ands
          go_simp
          try with_reducible rfl
        try simp only [Act.put, List.getElem_toArray, List.getElem_cons_zero, List.getElem_cons_succ, List.setIfInBounds_toArray, List.set_cons_zero, List.set_cons_succ]
        refine till_take (i := 13) (v := ?_) rfl (by kernel_rfl) (fun _ _ _ h => h) (Or.inl ⟨by rfl, ?_⟩) ⟨y0,y1,y2,y3⟩ ?_
        rotate_left
        · intro W hS
          try dsimp only at hS
          go_split_ands
          go_simp
          try with_reducible rfl
        try simp only [Act.put, List.getElem_toArray, List.getElem_cons_zero, List.getElem_cons_succ, List.setIfInBounds_toArray, List.set_cons_zero, List.set_cons_succ]
        refine till_take (i := 15) (v := ?_) rfl (by kernel_rfl) (fun _ _ _ h => h) (Or.inl ⟨by rfl, ?_⟩) ⟨y0,y1,y2,y3⟩ ?_
        rotate_left
        · intro W hS
          try dsimp only at hS
          go_split_ands
          go_simp
          try with_reducible rfl
        try simp only [Act.put, List.getElem_toArray, List.getElem_cons_zero, List.getElem_cons_succ, List.setIfInBounds_toArray, List.set_cons_zero, List.set_cons_succ]
        refine till_one (i := 14) (by kernel_rfl) rfl (fun K' hK => ?_)
        go_simp
        go_at_call 28
        (with_reducible refine (foldX_any Y [] _ _ (HY5.out.kept (Kept.of_below HW10.out [])) (fun b hb => absurd hb List.not_mem_nil) (by have := HRKY.out; omega)).mono ?_)
        rintro x w11 ⟨⟨cs11, rfl, hR11⟩, b11⟩
        rw [HFY.out] at hR11
        obtain ⟨o8, n8, m8, r8, a8, l8, p8, -, rfl, -, -, -, -⟩ := hR11.inv
        have HR11 := Lib.hid hR11
        have HW11 := Lib.hid (HW10.out.trans (b11.mono HW10.out.size))
        clear b11 y0 y1 y2 y3 HW10 hR11
        obtain ⟨y0, y1, y2, y3, -, -, -, -⟩ := blk4 (BY5.out.below HW11.out)
        refine hK _ _ ⟨y0,y1,y2,y3⟩ ?_
        clear hK K'
        try simp only [Act.put, List.getElem_toArray, List.getElem_cons_zero, List.getElem_cons_succ, List.setIfInBounds_toArray, List.set_cons_zero, List.set_cons_succ]
        refine till_last (by kernel_rfl) rfl (by kernel_rfl) (fun K' hK => ?_)
        go_simp
        go_at_call 27
        (with_reducible refine (rsameExpr_any _ _ (Nat.le_refl _) _ _ _ _ HR11.out (HY5.out.kept (Kept.of_below HW11.out []))).mono ?_)
        rintro x w12 ⟨rfl, b12⟩
        rw [eqv_yes rfl]
        have HW12 := Lib.hid (HW11.out.trans (b12.mono HW11.out.size))
        clear b12 y0 y1 y2 y3 HW11 HR11
        refine hK _ _ ?_
        clear hK K'
        try simp only [Act.put, List.getElem_toArray, List.getElem_cons_zero, List.getElem_cons_succ, List.setIfInBounds_toArray, List.set_cons_zero, List.set_cons_succ]
        refine any_take (i := 17) (v := ?_) rfl (by kernel_rfl) (fun _ _ _ h => h) (Or.inl ⟨by rfl, ?_⟩) ?_
        rotate_left
        · intro W
          go_simp
          try with_reducible rfl
        try simp only [Act.put, List.getElem_toArray, List.getElem_cons_zero, List.getElem_cons_succ, List.setIfInBounds_toArray, List.set_cons_zero, List.set_cons_succ]
        refine any_take (i := 18) (v := ?_) rfl (by kernel_rfl) (fun _ _ _ h => h) (Or.inl ⟨by rfl, ?_⟩) ?_
        rotate_left
        · intro W
          go_simp
          try with_reducible rfl
        try simp only [Act.put, List.getElem_toArray, List.getElem_cons_zero, List.getElem_cons_succ, List.setIfInBounds_toArray, List.set_cons_zero, List.set_cons_succ]
        refine any_one (i := 19) (by kernel_rfl) rfl (fun K' hK => ?_)
        go_simp
        go_at_call 14
        (with_reducible refine (awake21_any _).mono ?_)
        rintro x w13 ⟨rfl, b13⟩
        have HB13 := Lib.hid (HB5.out.trans ((HW12.out.trans (b13.mono HW12.out.size)).mono HB5.out.size))
        clear b13 HW12 HB5
        refine hK _ _ ?_
        clear hK K'
        try simp only [Act.put, List.getElem_toArray, List.getElem_cons_zero, List.getElem_cons_succ, List.setIfInBounds_toArray, List.set_cons_zero, List.set_cons_succ]
        refine any_take (i := 20) (v := ?_) rfl (by kernel_rfl) (fun _ _ _ h => h) (Or.inl ⟨by rfl, ?_⟩) ?_
        rotate_left
        · intro W
          go_simp
          try with_reducible rfl
        try simp only [Act.put, List.getElem_toArray, List.getElem_cons_zero, List.getElem_cons_succ, List.setIfInBounds_toArray, List.set_cons_zero, List.set_cons_succ]
        refine any_take (i := 21) (v := ?_) rfl (by kernel_rfl) (fun _ _ _ h => h) (Or.inl ⟨by rfl, ?_⟩) ?_
        rotate_left
        · intro W
          go_simp
          try with_reducible rfl
        try simp only [Act.put, List.getElem_toArray, List.getElem_cons_zero, List.getElem_cons_succ, List.setIfInBounds_toArray, List.set_cons_zero, List.set_cons_succ]
        refine wpAny_done (by kernel_rfl) ?_ _
        go_wp2_with fail
        go_ret
        exact ⟨rfl, HB13.out⟩
end Go.Proofs.Ytppnmeobnilojaa
