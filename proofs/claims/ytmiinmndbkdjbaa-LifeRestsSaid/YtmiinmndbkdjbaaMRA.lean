/- A part of the proof: LvR, one behind another. -/
import Derived.Test.YtmiinmndbkdjbaaMAA
import Derived.Test.YtmiinmndbkdjbaaMAB
import Derived.Test.YtmiinmndbkdjbaaMAC
import Derived.Test.YtmiinmndbkdjbaaMAD
import Derived.Test.YtmiinmndbkdjbaaMAE
import Derived.Test.YtmiinmndbkdjbaaMAF
import Derived.Test.YtmiinmndbkdjbaaMAG
import Derived.Test.YtmiinmndbkdjbaaMAH
import Derived.Test.YtmiinmndbkdjbaaMAI
import Derived.Test.YtmiinmndbkdjbaaMAJ
import Derived.Test.YtmiinmndbkdjbaaMAK
import Derived.Test.YtmiinmndbkdjbaaMAL
import Derived.Test.YtmiinmndbkdjbaaMAM
import Derived.Test.YtmiinmndbkdjbaaMAN
import Derived.Test.YtmiinmndbkdjbaaMAO
import Derived.Test.YtmiinmndbkdjbaaMAQ
import Derived.Test.YtmiinmndbkdjbaaMAR
import Derived.Test.YtmiinmndbkdjbaaMAS
import Derived.Test.YtmiinmndbkdjbaaMAT
import Derived.Test.YtmiinmndbkdjbaaMAU
import Derived.Test.YtmiinmndbkdjbaaMAV
import Derived.Test.YtmiinmndbkdjbaaMAW
import Derived.Test.YtmiinmndbkdjbaaMAX
/- LifeRests, walked. -/
namespace Go.Proofs.Ytmiinmndbkdjbaa
set_option linter.unusedVariables false
set_option linter.unusedSimpArgs false
open Go.RowKit
set_option maxRecDepth 100000 in
set_option maxHeartbeats 16000000 in
theorem lifeRests_any (a : Option Addr) (len cap : Nat) (lfs : List Lf) (a' : Option Addr) (len' cap' : Nat) (kns : List Kn) (day1 : Int) (f1 : Option Addr) (l1 c1 : Nat) (fx1 : List Fx) (day2 : Int) (f2 : Option Addr) (l2 c2 : Nat) (fx2 : List Fx) (W : World)
    (h1 : SlR lfK W [] lfs a len cap) (h2 : SlR knK W [] kns a' len' cap') (h3 : SlR fxK W [] fx1 f1 l1 c1) (d1 : I64 day1) (h4 : SlR fxK W [] fx2 f2 l2 c2) (d2 : I64 day2) :
    Calls Try.prog 3 #[.slice a len cap, .slice a' len' cap', .agg #[.int .i64 day1, .slice f1 l1 c1], .agg #[.int .i64 day2, .slice f2 l2 c2]] W fun x w' => x = .returned (.bool true) ∧ Below W.heap.size W w' := by
  have hb1 := below_nT W (.cells #[.int .i64 day1, .slice f1 l1 c1] 26)
  have hb2 := below_nT (W.alloc (.cells #[.int .i64 day1, .slice f1 l1 c1] 26)) (.cells #[.int .i64 day2, .slice f2 l2 c2] 26)
  have HB0 := Lib.hid (hb1.trans (hb2.mono hb1.size))
  have E1 := Lib.hid ((Mem.Blk.new W 26 #[.int .i64 day1, .slice f1 l1 c1]).below hb2)
  have e2' := Mem.Blk.new (W.alloc (.cells #[.int .i64 day1, .slice f1 l1 c1] 26)) 26 #[.int .i64 day2, .slice f2 l2 c2]
  rw [show (W.alloc (.cells #[.int .i64 day1, .slice f1 l1 c1] 26)).heap.size = W.heap.size + 1 by simp] at e2'
  have E2 := Lib.hid e2'
  have H1 := Lib.hid h1
  have H2 := Lib.hid h2
  have H3 := Lib.hid h3
  have H4 := Lib.hid h4
  have D1 := Lib.hid d1
  have D2 := Lib.hid d2
  clear h1 h2 h3 h4 d1 d2 hb1 hb2 e2'
  go_enter Try.func3, Try.ntmps3
  go_upto_region 1 with (fail)
  generalize (W.alloc (.cells #[.int .i64 day1, .slice f1 l1 c1] 26)).alloc (.cells #[.int .i64 day2, .slice f2 l2 c2] 26) = w0 at *
  obtain ⟨m0, m1, -, -⟩ := E1.out.two
  obtain ⟨n0, n1, -, -⟩ := E2.out.two
  go_wp2_with fail
  go_at_call 5
  (with_reducible refine (great23_any day1 a a' f1 len cap len' cap' l1 c1 w0).mono ?_)
  rintro y w1 ⟨rfl, b1⟩
  have HB1 := Lib.hid (HB0.out.trans (b1.mono HB0.out.size))
  have E11 := Lib.hid (E1.out.below b1)
  have E21 := Lib.hid (E2.out.below b1)
  clear m0 m1 n0 n1 b1 HB0 E1 E2
  obtain ⟨m0, m1, -, -⟩ := E11.out.two
  obtain ⟨n0, n1, -, -⟩ := E21.out.two
  by_cases hg : 60 < len ∨ 60 < len' ∨ 60 < l1
  · rw [decide_eq_true hg]
    clear hg
    go_wp2_with fail
    go_at_call 6
    (with_reducible refine (awake23_any w1).mono ?_)
    rintro y w9 ⟨rfl, b9⟩
    have HB9 := Lib.hid (HB1.out.trans (b9.mono HB1.out.size))
    clear b9
    go_wp2_with fail
    go_ret
    exact ⟨rfl, HB9.out⟩
  rw [decide_eq_false hg]
  have HG := Lib.hid hg
  clear hg
  by_cases hg2 : 60 < l2
  · have hg3 : (60 : Int) < (l2 : Int) := by omega
    clear hg2
    go_wp2_with fail
    go_at_call 6
    (with_reducible refine (awake23_any w1).mono ?_)
    rintro y w9 ⟨rfl, b9⟩
    have HB9 := Lib.hid (HB1.out.trans (b9.mono HB1.out.size))
    clear b9
    go_wp2_with fail
    go_ret
    exact ⟨rfl, HB9.out⟩
  have HG2 := Lib.hid hg2
  have hg3 : ¬ (60 : Int) < (l2 : Int) := by omega
  clear hg2
  go_wp2_with fail
  go_at_call 7
  (with_reducible refine (last23_any lfs kns a a' len cap len' cap' w1 (H1.out.kept (Kept.of_below HB1.out [])) (H2.out.kept (Kept.of_below HB1.out []))).mono ?_)
  rintro y w2 ⟨hy, b2⟩
  have HB2 := Lib.hid (HB1.out.trans (b2.mono HB1.out.size))
  have E12 := Lib.hid (E11.out.below b2)
  have E22 := Lib.hid (E21.out.below b2)
  clear m0 m1 n0 n1 b2 HB1 E11 E21 hg3
  rcases hy with ⟨q1, q2, q3, q4, q5, q6, q7, q8, rfl⟩ | ⟨t, cs, rfl, hT, hrt, hft⟩
  · have bn := below_nT w2 (.cells #[.int .i64 q1, .string q2, .slice q3 q4 q5, .slice q6 q7 q8] 32)
    have HB3 := Lib.hid (HB2.out.trans (bn.mono HB2.out.size))
    clear bn
    go_upto_region 4 with (fail)
    generalize w2.alloc (.cells #[.int .i64 q1, .string q2, .slice q3 q4 q5, .slice q6 q7 q8] 32) = w3 at *
    go_wp2_with fail
    go_at_call 6
    (with_reducible refine (awake23_any w3).mono ?_)
    rintro y w9 ⟨rfl, b9⟩
    have HB9 := Lib.hid (HB3.out.trans (b9.mono HB3.out.size))
    clear b9
    go_wp2_with fail
    go_ret
    exact ⟨rfl, HB9.out⟩
  obtain ⟨q1, q2, q3, q4, q5, q6, q7, q8, q9, q10, -, rfl, -, -, -, -⟩ := hT.inv
  have HRT := Lib.hid hrt
  have HFT := Lib.hid hft
  have bn := below_nT w2 (.cells #[.int .i64 q1, .string q2, .slice q5 q6 q7, .slice q8 q9 q10] 32)
  have HB3 := Lib.hid (HB2.out.trans (bn.mono HB2.out.size))
  have BT3 := Lib.hid (Mem.Blk.new w2 32 #[.int .i64 q1, .string q2, .slice q5 q6 q7, .slice q8 q9 q10])
  have HT3 := Lib.hid (hT.kept (Kept.of_below bn []))
  have E13 := Lib.hid (E12.out.below bn)
  have E23 := Lib.hid (E22.out.below bn)
  clear hT hrt hft bn HB2 E12 E22
  go_upto_region 4 with (fail)
  generalize w2.alloc (.cells #[.int .i64 q1, .string q2, .slice q5 q6 q7, .slice q8 q9 q10] 32) = w3 at *
  generalize w2.heap.size = tb at *
  -- the term is right and fits
  have HSZ := Lib.hid (fun W' (hW : Below w3.heap.size w3 W') => size_any t _ W' (HT3.out.kept (Kept.of_below hW [])) (by have := HRT.out; have := rT_get this; omega))
  have hnt := (rT_get HRT.out).1
  rw [if_pos (show t.nd < 1000 by omega), if_pos (show t.nd < 1000 by omega)] at HSZ
  clear hnt
  go_upto_region 6 with (fail)
  obtain ⟨k0, k1, k2, k3, -, -, -, -⟩ := blk4 BT3.out
  go_wp2_with fail
  (with_reducible refine (HSZ.out _ (Below.refl _ _)).mono ?_)
  rintro y w4 ⟨rfl, b4⟩
  have HB4 := Lib.hid (HB3.out.trans (b4.mono HB3.out.size))
  have BT4 := Lib.hid (BT3.out.below b4)
  have HT4 := Lib.hid (HT3.out.kept (Kept.of_below b4 []))
  have E14 := Lib.hid (E13.out.below b4)
  have E24 := Lib.hid (E23.out.below b4)
  clear k0 k1 k2 k3 b4 HSZ HB3 BT3 HT3 E13 E23
  go_upto_region 7 with (fail)
  by_cases hb1 : (acq day1 fx1 t 1 false [] s0).bad = true
  · obtain ⟨k0, k1, k2, k3, -, -, -, -⟩ := blk4 BT4.out
    obtain ⟨m0, m1, -, -⟩ := E14.out.two
    refine wp_region_till (S := fun W' => W'.cell? ⟨tb, 0, none⟩ = some (.int .i64 q1) ∧ W'.cell? ⟨tb, 1, none⟩ = some (.string q2) ∧ W'.cell? ⟨tb, 2, none⟩ = some (.slice q5 q6 q7) ∧ W'.cell? ⟨tb, 3, none⟩ = some (.slice q8 q9 q10) ∧ W'.cell? ⟨W.heap.size, 0, none⟩ = some (.int .i64 day1) ∧ W'.cell? ⟨W.heap.size, 1, none⟩ = some (.slice f1 l1 c1)) 3 (by kernel_rfl) ?_
    refine till_take (i := 0) (v := ?_) rfl (by kernel_rfl) (fun _ _ _ h => h) (Or.inl ⟨by rfl, ?_⟩) ⟨k0,k1,k2,k3,m0,m1⟩ ?_
    rotate_left
    · intro W hS
      try dsimp only at hS
      go_split_ands
      go_simp
      try with_reducible rfl
    try simp only [Act.put, List.getElem_toArray, List.getElem_cons_zero, List.getElem_cons_succ, List.setIfInBounds_toArray, List.set_cons_zero, List.set_cons_succ]
    refine till_take (i := 1) (v := ?_) rfl (by kernel_rfl) (fun _ _ _ h => h) (Or.inl ⟨by rfl, ?_⟩) ⟨k0,k1,k2,k3,m0,m1⟩ ?_
    rotate_left
    · intro W hS
      try dsimp only at hS
      go_split_ands
      go_simp
      try with_reducible rfl
    try simp only [Act.put, List.getElem_toArray, List.getElem_cons_zero, List.getElem_cons_succ, List.setIfInBounds_toArray, List.set_cons_zero, List.set_cons_succ]
    refine till_one (i := 2) (by kernel_rfl) rfl (fun K' hK => ?_)
    go_simp
    have b0 : Below w4.heap.size w4 w4.drew := (Below.refl w4.heap.size w4).drew
    go_at_call 10
    (with_reducible refine (env_any day1 fx1 f1 l1 c1 _ (H3.out.kept (Kept.of_below (HB4.out.trans (b0.mono HB4.out.size)) [])) (by have := HG.out; omega)).mono ?_)
    rintro y w5 ⟨⟨ea, ec, rfl, hE⟩, b5⟩
    have bt5 : Below w4.heap.size w4 w5 := b0.trans (b5.mono b0.size)
    have HE5 := Lib.hid hE
    have HB5 := Lib.hid (HB4.out.trans (bt5.mono HB4.out.size))
    have HT5 := Lib.hid (HT4.out.kept (Kept.of_below bt5 []))
    refine hK _ _ ⟨cell_up k0 bt5, cell_up k1 bt5, cell_up k2 bt5, cell_up k3 bt5, cell_up m0 bt5, cell_up m1 bt5⟩ ?_
    clear hK K' k0 k1 k2 k3 m0 m1 hE b0 b5
    try simp only [Act.put, List.getElem_toArray, List.getElem_cons_zero, List.getElem_cons_succ, List.setIfInBounds_toArray, List.set_cons_zero, List.set_cons_succ]
    refine till_last (by kernel_rfl) rfl (by kernel_rfl) (fun K' hK => ?_)
    go_simp
    go_at_call 9
    (with_reducible refine (start_bad day1 fx1 ea fx1.length ec t _ w5 D1.out HE5.out HT5.out (fitC_of HRT.out HFT.out) hb1).mono ?_)
    rintro y w6 ⟨hy, b6⟩
    have hy' : y = .returned (.tuple #[.slice none 0 0, .slice none 0 0, .int .i64 2]) := hy
    subst hy'
    have HB6 := Lib.hid (HB5.out.trans (b6.mono HB5.out.size))
    refine hK _ _ ?_
    clear hK K' b6 hb1 hy
    try simp only [Act.put, List.getElem_toArray, List.getElem_cons_zero, List.getElem_cons_succ, List.setIfInBounds_toArray, List.set_cons_zero, List.set_cons_succ]
    refine any_take (i := 4) (v := ?_) rfl (by kernel_rfl) (fun _ _ _ h => h) (Or.inl ⟨by rfl, ?_⟩) ?_
    rotate_left
    · intro W
      go_simp
      try with_reducible rfl
    try simp only [Act.put, List.getElem_toArray, List.getElem_cons_zero, List.getElem_cons_succ, List.setIfInBounds_toArray, List.set_cons_zero, List.set_cons_succ]
    refine any_take (i := 5) (v := ?_) rfl (by kernel_rfl) (fun _ _ _ h => h) (Or.inl ⟨by rfl, ?_⟩) ?_
    rotate_left
    · intro W
      go_simp
      try with_reducible rfl
    try simp only [Act.put, List.getElem_toArray, List.getElem_cons_zero, List.getElem_cons_succ, List.setIfInBounds_toArray, List.set_cons_zero, List.set_cons_succ]
    refine any_take (i := 6) (v := ?_) rfl (by kernel_rfl) (fun _ _ _ h => h) (Or.inl ⟨by rfl, ?_⟩) ?_
    rotate_left
    · intro W
      go_simp
      try with_reducible rfl
    try simp only [Act.put, List.getElem_toArray, List.getElem_cons_zero, List.getElem_cons_succ, List.setIfInBounds_toArray, List.set_cons_zero, List.set_cons_succ]
    refine any_take (i := 7) (v := ?_) rfl (by kernel_rfl) (fun _ _ _ h => h) (Or.inl ⟨by rfl, ?_⟩) ?_
    rotate_left
    · intro W
      go_simp
      try with_reducible rfl
    try simp only [Act.put, List.getElem_toArray, List.getElem_cons_zero, List.getElem_cons_succ, List.setIfInBounds_toArray, List.set_cons_zero, List.set_cons_succ]
    refine any_take (i := 8) (v := ?_) rfl (by kernel_rfl) (fun _ _ _ h => h) (Or.inl ⟨by rfl, ?_⟩) ?_
    rotate_left
    · intro W
      go_simp
      try with_reducible rfl
    try simp only [Act.put, List.getElem_toArray, List.getElem_cons_zero, List.getElem_cons_succ, List.setIfInBounds_toArray, List.set_cons_zero, List.set_cons_succ]
    refine any_take (i := 9) (v := ?_) rfl (by kernel_rfl) (fun _ _ _ h => h) (Or.inl ⟨by rfl, ?_⟩) ?_
    rotate_left
    · intro W
      go_simp
      try with_reducible rfl
    try simp only [Act.put, List.getElem_toArray, List.getElem_cons_zero, List.getElem_cons_succ, List.setIfInBounds_toArray, List.set_cons_zero, List.set_cons_succ]
    refine any_take (i := 10) (v := ?_) rfl (by kernel_rfl) (fun _ _ _ h => h) (Or.inl ⟨by rfl, ?_⟩) ?_
    rotate_left
    · intro W
      go_simp
      try with_reducible rfl
    try simp only [Act.put, List.getElem_toArray, List.getElem_cons_zero, List.getElem_cons_succ, List.setIfInBounds_toArray, List.set_cons_zero, List.set_cons_succ]
    refine wpAny_done (by kernel_rfl) ?_ _
    go_wp2_with fail
    go_at_call 6
    (with_reducible refine (awake23_any w6).mono ?_)
    rintro y w9 ⟨rfl, b9⟩
    have HB9 := Lib.hid (HB6.out.trans (b9.mono HB6.out.size))
    clear b9
    go_wp2_with fail
    go_ret
    exact ⟨rfl, HB9.out⟩
  rw [Bool.not_eq_true] at hb1
  obtain ⟨g1, g2⟩ := start_rest HRT.out HFT.out hb1
  obtain ⟨k0, k1, k2, k3, -, -, -, -⟩ := blk4 BT4.out
  obtain ⟨m0, m1, -, -⟩ := E14.out.two
  refine wp_region_till (S := fun W' => W'.cell? ⟨tb, 0, none⟩ = some (.int .i64 q1) ∧ W'.cell? ⟨tb, 1, none⟩ = some (.string q2) ∧ W'.cell? ⟨tb, 2, none⟩ = some (.slice q5 q6 q7) ∧ W'.cell? ⟨tb, 3, none⟩ = some (.slice q8 q9 q10) ∧ W'.cell? ⟨W.heap.size, 0, none⟩ = some (.int .i64 day1) ∧ W'.cell? ⟨W.heap.size, 1, none⟩ = some (.slice f1 l1 c1)) 3 (by kernel_rfl) ?_
  refine till_take (i := 0) (v := ?_) rfl (by kernel_rfl) (fun _ _ _ h => h) (Or.inl ⟨by rfl, ?_⟩) ⟨k0,k1,k2,k3,m0,m1⟩ ?_
  rotate_left
  · intro W hS
    try dsimp only at hS
    go_split_ands
    go_simp
    try with_reducible rfl
  try simp only [Act.put, List.getElem_toArray, List.getElem_cons_zero, List.getElem_cons_succ, List.setIfInBounds_toArray, List.set_cons_zero, List.set_cons_succ]
  refine till_take (i := 1) (v := ?_) rfl (by kernel_rfl) (fun _ _ _ h => h) (Or.inl ⟨by rfl, ?_⟩) ⟨k0,k1,k2,k3,m0,m1⟩ ?_
  rotate_left
  · intro W hS
    try dsimp only at hS
    go_split_ands
    go_simp
    try with_reducible rfl
  try simp only [Act.put, List.getElem_toArray, List.getElem_cons_zero, List.getElem_cons_succ, List.setIfInBounds_toArray, List.set_cons_zero, List.set_cons_succ]
  refine till_one (i := 2) (by kernel_rfl) rfl (fun K' hK => ?_)
  go_simp
  have b0 : Below w4.heap.size w4 w4.drew := (Below.refl w4.heap.size w4).drew
  go_at_call 10
  (with_reducible refine (env_any day1 fx1 f1 l1 c1 _ (H3.out.kept (Kept.of_below (HB4.out.trans (b0.mono HB4.out.size)) [])) (by have := HG.out; omega)).mono ?_)
  rintro y w5 ⟨⟨ea, ec, rfl, hE⟩, b5⟩
  have bt5 : Below w4.heap.size w4 w5 := b0.trans (b5.mono b0.size)
  have HE5 := Lib.hid hE
  have HB5 := Lib.hid (HB4.out.trans (bt5.mono HB4.out.size))
  have HT5 := Lib.hid (HT4.out.kept (Kept.of_below bt5 []))
  refine hK _ _ ⟨cell_up k0 bt5, cell_up k1 bt5, cell_up k2 bt5, cell_up k3 bt5, cell_up m0 bt5, cell_up m1 bt5⟩ ?_
  clear hK K' k0 k1 k2 k3 m0 m1 hE b0 b5
  try simp only [Act.put, List.getElem_toArray, List.getElem_cons_zero, List.getElem_cons_succ, List.setIfInBounds_toArray, List.set_cons_zero, List.set_cons_succ]
  refine till_last (by kernel_rfl) rfl (by kernel_rfl) (fun K' hK => ?_)
  go_simp
  go_at_call 9
  (with_reducible refine (start_ok day1 fx1 ea fx1.length ec t _ w5 D1.out HE5.out HT5.out (fitC_of HRT.out HFT.out) hb1).mono ?_)
  rintro y w6 ⟨⟨pa, pc, qa, qc, rfl, hP, hQ⟩, b6⟩
  have HB6 := Lib.hid (HB5.out.trans (b6.mono HB5.out.size))
  have E26 := Lib.hid (E24.out.below (bt5.trans (b6.mono bt5.size)))
  have H46 := Lib.hid (H4.out.kept (Kept.of_below HB6.out []))
  obtain ⟨P, hP9⟩ : ∃ P, P = (acq day1 fx1 t 1 false [] s0).ps := ⟨_, rfl⟩
  rw [← hP9] at hP g1 g2 ⊢
  generalize (acq day1 fx1 t 1 false [] s0).fs.length = FN at *
  have HP := Lib.hid hP
  have G1 := Lib.hid g1
  have hnt := (rT_get HRT.out).1
  have G2 : Hid (ndL P ≤ t.nd ∧ t.nd ≤ 200 ∧ P.length ≤ 200) := ⟨g2, hnt, by have := len_ndL P; omega⟩
  have HRR := Lib.hid (fun W' (hW : Below w6.heap.size w6 W') => rightL_any P pa P.length pc W' (hP.kept (Kept.of_below hW [])) (ok_shal g1) (by have := G2.out; omega))
  rw [ok_right g1 (by omega)] at HRR
  have HZZ := Lib.hid (fun W' (hW : Below w6.heap.size w6 W') => size23_any P pa P.length pc W' (hP.kept (Kept.of_below hW [])) (ok_size g1) (by omega))
  have hcmp : ¬ ((t.nd : Nat) : Int) < ((ndL P : Nat) : Int) := by omega
  refine hK _ _ ?_
  clear hK K' hb1 hQ hP9 hP g1 g2 hnt HB4 BT4 HT4 E14 E24 HB5 HT5 HE5 bt5 b6
  try simp only [Act.put, List.getElem_toArray, List.getElem_cons_zero, List.getElem_cons_succ, List.setIfInBounds_toArray, List.set_cons_zero, List.set_cons_succ]
  refine any_take (i := 4) (v := ?_) rfl (by kernel_rfl) (fun _ _ _ h => h) (Or.inl ⟨by rfl, ?_⟩) ?_
  rotate_left
  · intro W
    go_simp
    try with_reducible rfl
  try simp only [Act.put, List.getElem_toArray, List.getElem_cons_zero, List.getElem_cons_succ, List.setIfInBounds_toArray, List.set_cons_zero, List.set_cons_succ]
  refine any_take (i := 5) (v := ?_) rfl (by kernel_rfl) (fun _ _ _ h => h) (Or.inl ⟨by rfl, ?_⟩) ?_
  rotate_left
  · intro W
    go_simp
    try with_reducible rfl
  try simp only [Act.put, List.getElem_toArray, List.getElem_cons_zero, List.getElem_cons_succ, List.setIfInBounds_toArray, List.set_cons_zero, List.set_cons_succ]
  refine any_take (i := 6) (v := ?_) rfl (by kernel_rfl) (fun _ _ _ h => h) (Or.inl ⟨by rfl, ?_⟩) ?_
  rotate_left
  · intro W
    go_simp
    try with_reducible rfl
  try simp only [Act.put, List.getElem_toArray, List.getElem_cons_zero, List.getElem_cons_succ, List.setIfInBounds_toArray, List.set_cons_zero, List.set_cons_succ]
  refine any_take (i := 7) (v := ?_) rfl (by kernel_rfl) (fun _ _ _ h => h) (Or.inl ⟨by rfl, ?_⟩) ?_
  rotate_left
  · intro W
    go_simp
    try with_reducible rfl
  try simp only [Act.put, List.getElem_toArray, List.getElem_cons_zero, List.getElem_cons_succ, List.setIfInBounds_toArray, List.set_cons_zero, List.set_cons_succ]
  refine any_take (i := 8) (v := ?_) rfl (by kernel_rfl) (fun _ _ _ h => h) (Or.inl ⟨by rfl, ?_⟩) ?_
  rotate_left
  · intro W
    go_simp
    try with_reducible rfl
  try simp only [Act.put, List.getElem_toArray, List.getElem_cons_zero, List.getElem_cons_succ, List.setIfInBounds_toArray, List.set_cons_zero, List.set_cons_succ]
  refine any_take (i := 9) (v := ?_) rfl (by kernel_rfl) (fun _ _ _ h => h) (Or.inl ⟨by rfl, ?_⟩) ?_
  rotate_left
  · intro W
    go_simp
    try with_reducible rfl
  try simp only [Act.put, List.getElem_toArray, List.getElem_cons_zero, List.getElem_cons_succ, List.setIfInBounds_toArray, List.set_cons_zero, List.set_cons_succ]
  refine any_take (i := 10) (v := ?_) rfl (by kernel_rfl) (fun _ _ _ h => h) (Or.inl ⟨by rfl, ?_⟩) ?_
  rotate_left
  · intro W
    go_simp
    try with_reducible rfl
  try simp only [Act.put, List.getElem_toArray, List.getElem_cons_zero, List.getElem_cons_succ, List.setIfInBounds_toArray, List.set_cons_zero, List.set_cons_succ]
  refine wpAny_done (by kernel_rfl) ?_ _
  go_wp2_with fail
  go_at_call 11
  (with_reducible refine (HRR.out _ (Below.refl _ _)).mono ?_)
  rintro y w7 ⟨rfl, b7⟩
  have HB7 := Lib.hid b7
  clear b7
  go_wp2_with fail
  go_at_call 12
  (with_reducible refine (HZZ.out _ HB7.out).mono ?_)
  rintro y w8 ⟨rfl, b8⟩
  have HB8 := Lib.hid (HB7.out.trans (b8.mono HB7.out.size))
  clear b8 HB7
  go_upto_region 12 with (fail)
  clear hcmp
  obtain ⟨n0, n1, -, -⟩ := (E26.out.below HB8.out).two
  go_wp2_with fail
  go_at_call 10
  (with_reducible refine (env_any day2 fx2 f2 l2 c2 w8 (H46.out.kept (Kept.of_below HB8.out [])) (by have := HG2.out; omega)).mono ?_)
  rintro y w9 ⟨⟨ea2, ec2, rfl, hE2⟩, b9⟩
  have HE9 := Lib.hid hE2
  have HB9 := Lib.hid (HB8.out.trans (b9.mono HB8.out.size))
  have HP9 := Lib.hid (HP.out.kept (Kept.of_below HB9.out []))
  clear hE2 b9 HB8 n0 n1
  go_wp2_with fail
  go_at_call 13
  by_cases hb2 : (stepL day2 fx2 P s0).bad = true
  · (with_reducible refine (step_bad day2 fx2 ea2 fx2.length ec2 P pa P.length pc w9 D2.out HE9.out HP9.out (ok_shal G1.out) (by have := G2.out; omega) (ok_right G1.out (by have := G2.out; omega)) hb2).mono ?_)
    rintro y w10 ⟨hy, b10⟩
    have hy' : y = .returned (.tuple #[.slice none 0 0, .slice none 0 0, .int .i64 2]) := hy
    subst hy'
    have HB10 := Lib.hid (HB6.out.trans ((HB9.out.trans (b10.mono HB9.out.size)).mono HB6.out.size))
    clear b10 hb2 hy
    go_wp2_with fail
    go_at_call 6
    (with_reducible refine (awake23_any w10).mono ?_)
    rintro y w9 ⟨rfl, b9⟩
    have HB9 := Lib.hid (HB10.out.trans (b9.mono HB10.out.size))
    clear b9
    go_wp2_with fail
    go_ret
    exact ⟨rfl, HB9.out⟩
  rw [Bool.not_eq_true] at hb2
  have hsr := step_rest G1.out hb2
  (with_reducible refine (step_ok day2 fx2 ea2 fx2.length ec2 P pa P.length pc w9 D2.out HE9.out HP9.out (ok_shal G1.out) (by have := G2.out; omega) (ok_right G1.out (by have := G2.out; omega)) hb2).mono ?_)
  rintro y w10 ⟨⟨ra, rc, ua, uc, rfl, hQ, -⟩, b10⟩
  have HB10 := Lib.hid (HB9.out.trans (b10.mono HB9.out.size))
  obtain ⟨Q, hQ9⟩ : ∃ Q, Q = (stepL day2 fx2 P s0).ps := ⟨_, rfl⟩
  rw [← hQ9] at hQ hsr ⊢
  generalize (stepL day2 fx2 P s0).fs.length = FM at *
  have HQ := Lib.hid hQ
  have K1 : Hid (∀ p ∈ Q, PrtOk p) := fun p hp => (hsr.1 p hp).1
  have K2 : Hid (∀ p ∈ Q, Sat day2 fx2 p) := fun p hp => (hsr.1 p hp).2
  have K3 : Hid (ndL Q ≤ ndL P ∧ ndL Q ≤ 200 ∧ Q.length ≤ 200) := by
    have h9 := hsr.2
    have h8 := G2.out
    have h7 := len_ndL Q
    exact ⟨h9, by omega, by omega⟩
  clear hsr hQ hQ9 hb2 b10 HE9 HP9 HB9
  obtain ⟨n0, n1, -, -⟩ := (E26.out.below HB10.out).two
  go_upto_region 15 with (fail)
  go_wp2_with fail
  go_at_call 10
  (with_reducible refine (env_any day2 fx2 f2 l2 c2 w10 (H46.out.kept (Kept.of_below HB10.out [])) (by have := HG2.out; omega)).mono ?_)
  rintro y w11 ⟨⟨ea3, ec3, rfl, hE3⟩, b11⟩
  have HE11 := Lib.hid hE3
  have HB11 := Lib.hid (HB10.out.trans (b11.mono HB10.out.size))
  have HQ11 := Lib.hid (HQ.out.kept (Kept.of_below b11 []))
  clear hE3 n0 n1
  have hst := step_ok day2 fx2 ea3 fx2.length ec3 Q ra Q.length rc w11 D2.out HE11.out HQ11.out (ok_shal K1.out) (by have := K3.out; omega) (ok_right K1.out K3.out.2.1) (by rw [again_rest K2.out])
  rw [again_rest K2.out] at hst
  have HST := Lib.hid hst
  clear hst b11
  go_wp2_with fail
  go_at_call 13
  (with_reducible refine HST.out.mono ?_)
  rintro y w12 ⟨⟨sa, sc, va, vc, rfl, hR, -⟩, b12⟩
  have hR' : SlR ptK w12 [] Q sa Q.length sc := hR
  have HB12 := Lib.hid (HB11.out.trans (b12.mono HB11.out.size))
  have HQ12 := Lib.hid (HQ11.out.kept (Kept.of_below b12 []))
  have HP12 := Lib.hid (HP.out.kept (Kept.of_below HB12.out []))
  have HRQ := Lib.hid (rightL_any Q ra Q.length rc w12 HQ12.out (ok_shal K1.out) (by have := K3.out; omega))
  rw [ok_right K1.out K3.out.2.1] at HRQ
  have HZQ := Lib.hid (fun W' (hW : Below w12.heap.size w12 W') => size23_any Q ra Q.length rc W' (HQ12.out.kept (Kept.of_below hW [])) (ok_size K1.out) (by have := K3.out; omega))
  have HZR := Lib.hid (fun W' (hW : Below w12.heap.size w12 W') => size23_any Q sa Q.length sc W' (hR'.kept (Kept.of_below hW [])) (ok_size K1.out) (by have := K3.out; omega))
  have HZP := Lib.hid (fun W' (hW : Below w12.heap.size w12 W') => size23_any P pa P.length pc W' (HP12.out.kept (Kept.of_below hW [])) (ok_size G1.out) (by have := G2.out; omega))
  have hle : ((ndL Q : Nat) : Int) ≤ ((ndL P : Nat) : Int) := by have := K3.out; omega
  clear hR hR' b12 HST HE11 HQ11 HB11
  dsimp only [List.length_nil]
  go_wp2_with fail
  go_at_call 11
  (with_reducible refine HRQ.out.mono ?_)
  rintro y w13 ⟨rfl, b13⟩
  have HB13 := Lib.hid b13
  clear b13 HRQ
  go_wp2_with fail
  go_at_call 12
  (with_reducible refine (HZQ.out _ HB13.out).mono ?_)
  rintro y w14 ⟨rfl, b14⟩
  have HB14 := Lib.hid (HB13.out.trans (b14.mono HB13.out.size))
  clear b14 HB13
  go_wp2_with fail
  go_at_call 12
  (with_reducible refine (HZP.out _ HB14.out).mono ?_)
  rintro y w15 ⟨rfl, b15⟩
  have HB15 := Lib.hid (HB14.out.trans (b15.mono HB14.out.size))
  clear b15 HB14
  go_wp2_with fail
  go_at_call 12
  (with_reducible refine (HZR.out _ HB15.out).mono ?_)
  rintro y w16 ⟨rfl, b16⟩
  have HB16 := Lib.hid (HB15.out.trans (b16.mono HB15.out.size))
  clear b16 HB15
  go_wp2_with fail
  go_at_call 12
  (with_reducible refine (HZQ.out _ HB16.out).mono ?_)
  rintro y w17 ⟨rfl, b17⟩
  have HB17 := Lib.hid (HB16.out.trans (b17.mono HB16.out.size))
  have HB18 := Lib.hid (HB6.out.trans ((HB12.out.trans (HB17.out.mono HB12.out.size)).mono HB6.out.size))
  clear b17 HB16
  go_wp2_with fail
  go_at_call 6
  (with_reducible refine (awake23_any w17).mono ?_)
  rintro y w9 ⟨rfl, b9⟩
  have HB9 := Lib.hid (HB18.out.trans (b9.mono HB18.out.size))
  clear b9
  go_wp2_with fail
  go_ret
  exact ⟨rfl, HB9.out⟩
end Go.Proofs.Ytmiinmndbkdjbaa
