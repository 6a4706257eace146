/- The walk of TermSimpler, for any leaves and knots. -/
import Derived.Test.YtjpkljkmignnjaaLawS
import Derived.Test.YtjpkljkmignnjaaLast
import Derived.Test.YtjpkljkmignnjaaNames
import Derived.Test.YtjpkljkmignnjaaPlainS
namespace Go.Proofs.Ytjpkljkmignnjaa
set_option linter.unusedVariables false
set_option linter.unusedSimpArgs false
open Go.RowKit
theorem rT_size {t : Te} (h : rT t = true) : t.nd ≤ 200 ∧ t.rk ≤ 16 := by
  have : rT t = (decide (t.nd ≤ 200 ∧ t.rk ≤ 16) && bT t) := rfl
  rw [this, Bool.and_eq_true, decide_eq_true_eq] at h
  exact h.1
theorem sizeR_any (e : Te) (cs : List Value) (w : World) (hR : RepT w [] e cs) (h : rT e = true) :
    Calls Try.prog 19 #[.agg cs.toArray] w fun x w' => x = .returned (.tuple #[.int .i64 (e.nd : Nat), .int .i64 (e.rk : Nat)]) ∧ Below w.heap.size w w' := by
  have hs := rT_size h
  have h1 := size_any e cs w hR (by omega)
  rw [if_pos (by omega), if_pos (by omega)] at h1
  exact h1
/-- A term and what is simple of it, each in a block. -/
structure TwoT (w W : World) (b5 b7 : Nat) (x0 x1 x2 x3 y0 y1 y2 y3 : Value) (t s : Te) : Prop where
  below : Below w.heap.size w W
  B5 : Mem.Blk W b5 33 #[x0, x1, x2, x3]
  B7 : Mem.Blk W b7 33 #[y0, y1, y2, y3]
  R5 : RepT W [] t [x0, x1, x2, x3]
  R7 : RepT W [] s [y0, y1, y2, y3]
theorem TwoT.up {w W W' : World} {b5 b7 : Nat} {x0 x1 x2 x3 y0 y1 y2 y3 : Value} {t s : Te} (h : TwoT w W b5 b7 x0 x1 x2 x3 y0 y1 y2 y3 t s) (hb : Below W.heap.size W W') : TwoT w W' b5 b7 x0 x1 x2 x3 y0 y1 y2 y3 t s :=
  ⟨h.below.trans (hb.mono h.below.size), h.B5.below hb, h.B7.below hb, h.R5.kept (Kept.of_below hb _), h.R7.kept (Kept.of_below hb _)⟩
set_option maxRecDepth 100000 in
set_option maxHeartbeats 4000000 in
theorem termSimpler_any (lfs : List Lf) (kns : List Kn) (a a' : Option Addr) (len cap len' cap' : Nat) (w : World) (h1 : SlR lfK w [] lfs a len cap) (h2 : SlR knK w [] kns a' len' cap') :
    Calls Try.prog 5 #[.slice a len cap, .slice a' len' cap'] w fun e w' => e = .returned (.bool true) ∧ Below w.heap.size w w' := by
  have HBU := Lib.hid (build_any lfs kns a a' len cap len' cap' w h1 h2)
  clear h1 h2
  go_enter Try.func5, Try.ntmps5
  go_wp2_with fail
  go_at_call 6
  (with_reducible refine (great_any _ _ _ _ _ _ _).mono ?_)
  rintro e w' ⟨rfl, rfl⟩
  by_cases hg : 60 < len ∨ 60 < len'
  · rw [decide_eq_true hg]
    clear hg HBU
    go_wp2_with fail
    go_at_call 7
    (with_reducible refine (awake_any _).mono ?_)
    rintro e wz ⟨rfl, bz⟩
    have HBZ := Lib.hid bz
    clear bz
    go_wp2_with fail
    go_ret
    exact ⟨rfl, HBZ.out⟩
  · rw [decide_eq_false hg]
    clear hg
    go_wp2_with fail
    go_at_call 8
    (with_reducible refine HBU.out.mono ?_)
    rintro e w1 ⟨⟨es, ts, cs, rfl, hT, -, hlt, -, hrk⟩, b1⟩
    have HB1 := Lib.hid b1
    have HC := Lib.hid (last_any hT (fun t ht => by have := hrk t ht; omega) (by omega))
    clear hT b1 hrk HBU hlt
    go_wp2_with fail
    go_at_call 18
    (with_reducible refine HC.out.mono ?_)
    rintro e w2 ⟨hlast, b2⟩
    have HB2 := Lib.hid (HB1.out.trans (b2.mono HB1.out.size))
    clear b2 HC HB1
    rcases hlast with ⟨rfl, -⟩ | ⟨cs', t, rfl, ht, hRt⟩
    · have HB3 := Lib.hid (HB2.out.alloc HB2.out.size (.cells #[.int .i64 0, .string ⟨#[]⟩, .slice none 0 0, .slice none 0 0] 33))
      go_wp2_with fail
      go_at_call 7
      (with_reducible refine (awake_any _).mono ?_)
      rintro e wz ⟨rfl, bz⟩
      have HBZ := Lib.hid (HB3.out.trans (bz.mono HB3.out.size))
      clear bz
      go_wp2_with fail
      go_ret
      exact ⟨rfl, HBZ.out⟩
    · have hrt := (lastT_right ht).1
      have HRT := Lib.hid hrt
      have HS := Lib.hid (rT_size hrt)
      have HR2 := Lib.hid (show RepT w2 [] t cs' from hRt)
      obtain ⟨o5, e5, ex5, te5, p5, l5, r5, p6, l6, r6, -, rfl, -⟩ := hRt.inv
      clear ht hrt hRt
      go_upto_region 4 with (fail)
      have hb := (Below.refl w2.heap.size w2).alloc (Nat.le_refl _) (.cells #[.int .i64 o5, .string e5, .slice p5 l5 r5, .slice p6 l6 r6] 33)
      have B5 := Lib.hid (Mem.Blk.new w2 33 #[.int .i64 o5, .string e5, .slice p5 l5 r5, .slice p6 l6 r6])
      have HB3 := Lib.hid (HB2.out.trans (hb.mono HB2.out.size))
      have HR3 := Lib.hid (HR2.out.kept (Kept.of_below hb _))
      clear hb HB2 HR2
      generalize w2.alloc (.cells #[.int .i64 o5, .string e5, .slice p5 l5 r5, .slice p6 l6 r6] 33) = w3 at *
      generalize w2.heap.size = b5 at *
      obtain ⟨s0, s1, s2, s3, -, -, -, -⟩ := blk4 B5.out
      go_wp2_with fail
      go_at_call 9
      (with_reducible refine (simpleTop_any t [] _ _ HR3.out (fun b hb => absurd hb List.not_mem_nil) (by have := HS.out; omega)).mono ?_)
      rintro y w4 ⟨⟨cs7, rfl, hrep⟩, b4⟩
      rw [topT_yes HRT.out] at hrep
      have HB4 := Lib.hid (HB3.out.trans (b4.mono HB3.out.size))
      have B54 := Lib.hid (B5.out.below b4)
      have HR4 := Lib.hid (HR3.out.kept (Kept.of_below b4 _))
      have HP4 := Lib.hid hrep
      obtain ⟨o7, e7, ex7, te7, p7, l7, r7, p8, l8, r8, -, rfl, -⟩ := hrep.inv
      clear b4 hrep HB3 B5 HR3 s0 s1 s2 s3
      go_upto_region 7 with (fail)
      have hb := (Below.refl w4.heap.size w4).alloc (Nat.le_refl _) (.cells #[.int .i64 o7, .string e7, .slice p7 l7 r7, .slice p8 l8 r8] 33)
      have H5 : Hid (TwoT w (w4.alloc (.cells #[.int .i64 o7, .string e7, .slice p7 l7 r7, .slice p8 l8 r8] 33)) b5 w4.heap.size (.int .i64 o5) (.string e5) (.slice p5 l5 r5) (.slice p6 l6 r6) (.int .i64 o7) (.string e7) (.slice p7 l7 r7) (.slice p8 l8 r8) t (sT t)) :=
        ⟨HB4.out.trans (hb.mono HB4.out.size), B54.out.below hb, Mem.Blk.new w4 33 _, HR4.out.kept (Kept.of_below hb _), HP4.out.kept (Kept.of_below hb _)⟩
      clear hb HB4 B54 HR4 HP4
      generalize w4.alloc (.cells #[.int .i64 o7, .string e7, .slice p7 l7 r7, .slice p8 l8 r8] 33) = w5 at *
      generalize w4.heap.size = b7 at *
      have HRS := Lib.hid (sT_right t HRT.out)
      have HSS := Lib.hid (rT_size HRS.out)
      have HLE : Hid ((sT t).nd ≤ t.nd ∧ (sT t).rk ≤ t.rk ∧ Maps.size (setD (coinsT (sT t))) ≤ Maps.size (setD (coinsT t)) ∧ sT (sT t) = sT t) :=
        ⟨sT_nd t (rT_built HRT.out), sT_rk t (rT_built HRT.out), size_setD_le (sT_coins t (rT_built HRT.out)), sT_twice t (rT_built HRT.out)⟩
      obtain ⟨s0, s1, s2, s3, -, -, -, -⟩ := blk4 H5.out.B5
      go_wp2_with fail
      go_at_call 19
      (with_reducible refine (sizeR_any t _ _ H5.out.R5 HRT.out).mono ?_)
      rintro y w6 ⟨rfl, bz⟩
      have H6 := Lib.hid (H5.out.up bz)
      clear bz H5 s0 s1 s2 s3
      obtain ⟨s0, s1, s2, s3, -, -, -, -⟩ := blk4 H6.out.B7
      go_wp2_with fail
      go_at_call 19
      (with_reducible refine (sizeR_any (sT t) _ _ H6.out.R7 HRS.out).mono ?_)
      rintro y w7 ⟨rfl, bz⟩
      have H7 := Lib.hid (H6.out.up bz)
      clear bz H6 s0 s1 s2 s3
      obtain ⟨s0, s1, s2, s3, -, -, -, -⟩ := blk4 H7.out.B5
      go_wp2_with fail
      go_at_call 20
      (with_reducible refine (names_any t _ _ H7.out.R5 HRT.out).mono ?_)
      rintro y w8 ⟨⟨n1, k1, n2, k2, rfl⟩, bz⟩
      have H8 := Lib.hid (H7.out.up bz)
      clear bz H7 s0 s1 s2 s3
      obtain ⟨s0, s1, s2, s3, -, -, -, -⟩ := blk4 H8.out.B7
      go_wp2_with fail
      go_at_call 20
      (with_reducible refine (names_any (sT t) _ _ H8.out.R7 HRS.out).mono ?_)
      rintro y w9 ⟨⟨n3, k3, n4, k4, rfl⟩, bz⟩
      have H9 := Lib.hid (H8.out.up bz)
      clear bz H8 s0 s1 s2 s3
      obtain ⟨s0, s1, s2, s3, -, -, -, -⟩ := blk4 H9.out.B7
      go_upto_region 11 with (fail)
      have hl := HLE.out
      have j1 : ((sT t).nd : Int) ≤ (t.nd : Int) := by omega
      have j2 : ((sT t).rk : Int) ≤ (t.rk : Int) := by omega
      have j3 : ((Maps.size (setD (coinsT (sT t))) : Nat) : Int) ≤ ((Maps.size (setD (coinsT t)) : Nat) : Int) := by omega
      clear hl
      generalize hN : (((sT t).nd : Nat) : Int) = N1 at *
      generalize hM : (((sT t).rk : Nat) : Int) = M1 at *
      have HNM : Hid True := trivial
      clear hN hM HNM
      generalize Maps.size (setD (coinsT (sT t))) = K1 at *
      generalize Maps.size (setD (coinsT t)) = K2 at *
      refine wp_region_till (S := fun W => W.cell? ⟨b7, 0, none⟩ = some (.int .i64 o7) ∧ W.cell? ⟨b7, 1, none⟩ = some (.string e7) ∧ W.cell? ⟨b7, 2, none⟩ = some (.slice p7 l7 r7) ∧ W.cell? ⟨b7, 3, none⟩ = some (.slice p8 l8 r8)) 28 (by kernel_rfl) ?_
      refine till_take (i := 0) (v := ?_) rfl (by kernel_rfl) (fun _ _ _ h => h) (Or.inl ⟨by rfl, ?_⟩) ⟨s0,s1,s2,s3⟩ ?_
      rotate_left
      · intro W hS
        try dsimp only at hS
        go_split_ands
        go_simp
        try with_reducible rfl
      try simp only [Act.put, List.getElem_toArray, List.getElem_cons_zero, List.getElem_cons_succ, List.setIfInBounds_toArray, List.set_cons_zero, List.set_cons_succ]
      refine till_one (i := 1) (by kernel_rfl) rfl (fun K' hK => ?_)
      go_simp
      go_at_call 15
      (with_reducible refine (right_any (sT t) _ _ (H9.out.R7.kept (Kept.of_below (Below.refl _ _).drew _)) (by have := HSS.out; omega)).mono ?_)
      rintro y w10 ⟨rfl, bz⟩
      rw [HRS.out]
      have H10 := Lib.hid ((H9.out.up (Below.refl _ _).drew).up bz)
      clear bz H9 s0 s1 s2 s3
      obtain ⟨s0, s1, s2, s3, -, -, -, -⟩ := blk4 H10.out.B7
      refine hK _ _ ⟨s0, s1, s2, s3⟩ ?_
      clear hK K'
      try simp only [Act.put, List.getElem_toArray, List.getElem_cons_zero, List.getElem_cons_succ, List.setIfInBounds_toArray, List.set_cons_zero, List.set_cons_succ]
      refine till_take (i := 2) (v := ?_) rfl (by kernel_rfl) (fun _ _ _ h => h) (Or.inl ⟨by rfl, ?_⟩) ⟨s0,s1,s2,s3⟩ ?_
      rotate_left
      · intro W hS
        try dsimp only at hS
        go_split_ands
        go_simp
        try with_reducible rfl
      try simp only [Act.put, List.getElem_toArray, List.getElem_cons_zero, List.getElem_cons_succ, List.setIfInBounds_toArray, List.set_cons_zero, List.set_cons_succ]
      refine till_take (i := 3) (v := ?_) rfl (by kernel_rfl) (fun _ _ _ h => h) (Or.inl ⟨by rfl, ?_⟩) ⟨s0,s1,s2,s3⟩ ?_
      rotate_left
      · intro W hS
        try dsimp only at hS
        go_split_ands
        go_simp
        try with_reducible rfl
      try simp only [Act.put, List.getElem_toArray, List.getElem_cons_zero, List.getElem_cons_succ, List.setIfInBounds_toArray, List.set_cons_zero, List.set_cons_succ]
      refine till_take (i := 4) (v := ?_) rfl (by kernel_rfl) (fun _ _ _ h => h) (Or.inl ⟨by rfl, ?_⟩) ⟨s0,s1,s2,s3⟩ ?_
      rotate_left
      · intro W hS
        try dsimp only at hS
        go_split_ands
        go_simp
        try with_reducible rfl
      try simp only [Act.put, List.getElem_toArray, List.getElem_cons_zero, List.getElem_cons_succ, List.setIfInBounds_toArray, List.set_cons_zero, List.set_cons_succ]
      refine till_take (i := 5) (v := ?_) rfl (by kernel_rfl) (fun _ _ _ h => h) (Or.inl ⟨by rfl, ?_⟩) ⟨s0,s1,s2,s3⟩ ?_
      rotate_left
      · intro W hS
        try dsimp only at hS
        go_split_ands
        go_simp
        try with_reducible rfl
      try simp only [Act.put, List.getElem_toArray, List.getElem_cons_zero, List.getElem_cons_succ, List.setIfInBounds_toArray, List.set_cons_zero, List.set_cons_succ]
      refine till_take (i := 6) (v := ?_) rfl (by kernel_rfl) (fun _ _ _ h => h) (Or.inl ⟨by rfl, ?_⟩) ⟨s0,s1,s2,s3⟩ ?_
      rotate_left
      · intro W hS
        try dsimp only at hS
        go_split_ands
        go_simp
        try with_reducible rfl
      try simp only [Act.put, List.getElem_toArray, List.getElem_cons_zero, List.getElem_cons_succ, List.setIfInBounds_toArray, List.set_cons_zero, List.set_cons_succ]
      refine till_take (i := 7) (v := ?_) rfl (by kernel_rfl) (fun _ _ _ h => h) (Or.inl ⟨by rfl, ?_⟩) ⟨s0,s1,s2,s3⟩ ?_
      rotate_left
      · intro W hS
        try dsimp only at hS
        go_split_ands
        go_simp
        try with_reducible rfl
      try simp only [Act.put, List.getElem_toArray, List.getElem_cons_zero, List.getElem_cons_succ, List.setIfInBounds_toArray, List.set_cons_zero, List.set_cons_succ]
      refine till_take (i := 8) (v := ?_) rfl (by kernel_rfl) (fun _ _ _ h => h) (Or.inl ⟨by rfl, ?_⟩) ⟨s0,s1,s2,s3⟩ ?_
      rotate_left
      · intro W hS
        try dsimp only at hS
        go_split_ands
        go_simp
        try with_reducible rfl
      try simp only [Act.put, List.getElem_toArray, List.getElem_cons_zero, List.getElem_cons_succ, List.setIfInBounds_toArray, List.set_cons_zero, List.set_cons_succ]
      refine till_take (i := 9) (v := ?_) rfl (by kernel_rfl) (fun _ _ _ h => h) (Or.inl ⟨by rfl, ?_⟩) ⟨s0,s1,s2,s3⟩ ?_
      rotate_left
      · intro W hS
        try dsimp only at hS
        go_split_ands
        go_simp
        try with_reducible rfl
      try simp only [Act.put, List.getElem_toArray, List.getElem_cons_zero, List.getElem_cons_succ, List.setIfInBounds_toArray, List.set_cons_zero, List.set_cons_succ]
      refine till_take (i := 10) (v := ?_) rfl (by kernel_rfl) (fun _ _ _ h => h) (Or.inl ⟨by rfl, ?_⟩) ⟨s0,s1,s2,s3⟩ ?_
      rotate_left
      · intro W hS
        try dsimp only at hS
        go_split_ands
        go_simp
        try with_reducible rfl
      try simp only [Act.put, List.getElem_toArray, List.getElem_cons_zero, List.getElem_cons_succ, List.setIfInBounds_toArray, List.set_cons_zero, List.set_cons_succ]
      refine till_take (i := 11) (v := ?_) rfl (by kernel_rfl) (fun _ _ _ h => h) (Or.inl ⟨by rfl, ?_⟩) ⟨s0,s1,s2,s3⟩ ?_
      rotate_left
      · intro W hS
        try dsimp only at hS
        go_split_ands
        go_simp
        try with_reducible rfl
      try simp only [Act.put, List.getElem_toArray, List.getElem_cons_zero, List.getElem_cons_succ, List.setIfInBounds_toArray, List.set_cons_zero, List.set_cons_succ]
      refine till_take (i := 12) (v := ?_) rfl (by kernel_rfl) (fun _ _ _ h => h) (Or.inl ⟨by rfl, ?_⟩) ⟨s0,s1,s2,s3⟩ ?_
      rotate_left
      · intro W hS
        try dsimp only at hS
        go_split_ands
        go_simp
        try with_reducible rfl
      try simp only [Act.put, List.getElem_toArray, List.getElem_cons_zero, List.getElem_cons_succ, List.setIfInBounds_toArray, List.set_cons_zero, List.set_cons_succ]
      refine till_take (i := 13) (v := ?_) rfl (by kernel_rfl) (fun _ _ _ h => h) (Or.inl ⟨by rfl, ?_⟩) ⟨s0,s1,s2,s3⟩ ?_
      rotate_left
      · intro W hS
        try dsimp only at hS
        go_split_ands
        go_simp
        try with_reducible rfl
      try simp only [Act.put, List.getElem_toArray, List.getElem_cons_zero, List.getElem_cons_succ, List.setIfInBounds_toArray, List.set_cons_zero, List.set_cons_succ]
      refine till_take (i := 14) (v := ?_) rfl (by kernel_rfl) (fun _ _ _ h => h) (Or.inl ⟨by rfl, ?_⟩) ⟨s0,s1,s2,s3⟩ ?_
      rotate_left
      · intro W hS
        try dsimp only at hS
        go_split_ands
        go_simp
        try with_reducible rfl
      try simp only [Act.put, List.getElem_toArray, List.getElem_cons_zero, List.getElem_cons_succ, List.setIfInBounds_toArray, List.set_cons_zero, List.set_cons_succ]
      refine till_take (i := 15) (v := ?_) rfl (by kernel_rfl) (fun _ _ _ h => h) (Or.inl ⟨by rfl, ?_⟩) ⟨s0,s1,s2,s3⟩ ?_
      rotate_left
      · intro W hS
        try dsimp only at hS
        go_split_ands
        go_simp
        try with_reducible rfl
      try simp only [Act.put, List.getElem_toArray, List.getElem_cons_zero, List.getElem_cons_succ, List.setIfInBounds_toArray, List.set_cons_zero, List.set_cons_succ]
      refine till_take (i := 16) (v := ?_) rfl (by kernel_rfl) (fun _ _ _ h => h) (Or.inl ⟨by rfl, ?_⟩) ⟨s0,s1,s2,s3⟩ ?_
      rotate_left
      · intro W hS
        try dsimp only at hS
        go_split_ands
        go_simp
        try with_reducible rfl
      try simp only [Act.put, List.getElem_toArray, List.getElem_cons_zero, List.getElem_cons_succ, List.setIfInBounds_toArray, List.set_cons_zero, List.set_cons_succ]
      refine till_take (i := 17) (v := ?_) rfl (by kernel_rfl) (fun _ _ _ h => h) (Or.inl ⟨by rfl, ?_⟩) ⟨s0,s1,s2,s3⟩ ?_
      rotate_left
      · intro W hS
        try dsimp only at hS
        go_split_ands
        go_simp
        try with_reducible rfl
      try simp only [Act.put, List.getElem_toArray, List.getElem_cons_zero, List.getElem_cons_succ, List.setIfInBounds_toArray, List.set_cons_zero, List.set_cons_succ]
      refine till_take (i := 18) (v := ?_) rfl (by kernel_rfl) (fun _ _ _ h => h) (Or.inl ⟨by rfl, ?_⟩) ⟨s0,s1,s2,s3⟩ ?_
      rotate_left
      · intro W hS
        try dsimp only at hS
        go_split_ands
        go_simp
        try with_reducible rfl
      try simp only [Act.put, List.getElem_toArray, List.getElem_cons_zero, List.getElem_cons_succ, List.setIfInBounds_toArray, List.set_cons_zero, List.set_cons_succ]
      refine till_take (i := 19) (v := ?_) rfl (by kernel_rfl) (fun _ _ _ h => h) (Or.inl ⟨by rfl, ?_⟩) ⟨s0,s1,s2,s3⟩ ?_
      rotate_left
      · intro W hS
        try dsimp only at hS
        go_split_ands
        go_simp
        try with_reducible rfl
      try simp only [Act.put, List.getElem_toArray, List.getElem_cons_zero, List.getElem_cons_succ, List.setIfInBounds_toArray, List.set_cons_zero, List.set_cons_succ]
      refine till_take (i := 20) (v := ?_) rfl (by kernel_rfl) (fun _ _ _ h => h) (Or.inl ⟨by rfl, ?_⟩) ⟨s0,s1,s2,s3⟩ ?_
      rotate_left
      · intro W hS
        try dsimp only at hS
        go_split_ands
        go_simp
        try with_reducible rfl
      try simp only [Act.put, List.getElem_toArray, List.getElem_cons_zero, List.getElem_cons_succ, List.setIfInBounds_toArray, List.set_cons_zero, List.set_cons_succ]
      refine till_take (i := 22) (v := ?_) rfl (by kernel_rfl) (fun _ _ _ h => h) (Or.inl ⟨by rfl, ?_⟩) ⟨s0,s1,s2,s3⟩ ?_
      rotate_left
      · intro W hS
        try dsimp only at hS
        go_split_ands
        go_simp
        try with_reducible rfl
      try simp only [Act.put, List.getElem_toArray, List.getElem_cons_zero, List.getElem_cons_succ, List.setIfInBounds_toArray, List.set_cons_zero, List.set_cons_succ]
      refine till_one (i := 21) (by kernel_rfl) rfl (fun K' hK => ?_)
      go_simp
      go_at_call 9
      (with_reducible refine (simpleTop_any (sT t) [] _ _ H10.out.R7 (fun b hb => absurd hb List.not_mem_nil) (by have := HSS.out; omega)).mono ?_)
      rintro y w11 ⟨⟨cs9, rfl, hrep⟩, bz⟩
      rw [topT_yes HRS.out, HLE.out.2.2.2] at hrep
      have HR9 := Lib.hid hrep
      obtain ⟨o9, e9, ex9, te9, p9, l9, r9, pa, la, ra, -, rfl, -⟩ := hrep.inv
      have H11 := Lib.hid (H10.out.up bz)
      clear bz H10 s0 s1 s2 s3 hrep
      obtain ⟨s0, s1, s2, s3, -, -, -, -⟩ := blk4 H11.out.B7
      refine hK _ _ ⟨s0, s1, s2, s3⟩ ?_
      clear hK K'
      try simp only [Act.put, List.getElem_toArray, List.getElem_cons_zero, List.getElem_cons_succ, List.setIfInBounds_toArray, List.set_cons_zero, List.set_cons_succ]
      refine till_one (i := 23) (by kernel_rfl) rfl (fun K' hK => ?_)
      go_simp
      go_at_call 21
      (with_reducible refine (same_any (sT t).rk (sT t) (Nat.le_refl _) (sT t) _ _ _ HR9.out H11.out.R7).mono ?_)
      rintro y w12 ⟨rfl, bz⟩
      rw [eqv_yes rfl]
      have H12 := Lib.hid (H11.out.up bz)
      clear bz H11 HR9 s0 s1 s2 s3
      obtain ⟨s0, s1, s2, s3, -, -, -, -⟩ := blk4 H12.out.B7
      refine hK _ _ ⟨s0, s1, s2, s3⟩ ?_
      clear hK K'
      try simp only [Act.put, List.getElem_toArray, List.getElem_cons_zero, List.getElem_cons_succ, List.setIfInBounds_toArray, List.set_cons_zero, List.set_cons_succ]
      refine till_take (i := 24) (v := ?_) rfl (by kernel_rfl) (fun _ _ _ h => h) (Or.inl ⟨by rfl, ?_⟩) ⟨s0,s1,s2,s3⟩ ?_
      rotate_left
      · intro W hS
        try dsimp only at hS
        go_split_ands
        go_simp
        try with_reducible rfl
      try simp only [Act.put, List.getElem_toArray, List.getElem_cons_zero, List.getElem_cons_succ, List.setIfInBounds_toArray, List.set_cons_zero, List.set_cons_succ]
      refine till_take (i := 25) (v := ?_) rfl (by kernel_rfl) (fun _ _ _ h => h) (Or.inl ⟨by rfl, ?_⟩) ⟨s0,s1,s2,s3⟩ ?_
      rotate_left
      · intro W hS
        try dsimp only at hS
        go_split_ands
        go_simp
        try with_reducible rfl
      try simp only [Act.put, List.getElem_toArray, List.getElem_cons_zero, List.getElem_cons_succ, List.setIfInBounds_toArray, List.set_cons_zero, List.set_cons_succ]
      refine till_one (i := 26) (by kernel_rfl) rfl (fun K' hK => ?_)
      go_simp
      go_at_call 7
      (with_reducible refine (awake_any _).mono ?_)
      rintro y w13 ⟨rfl, bz⟩
      have H13 := Lib.hid (H12.out.up bz)
      clear bz H12 s0 s1 s2 s3
      obtain ⟨s0, s1, s2, s3, -, -, -, -⟩ := blk4 H13.out.B7
      refine hK _ _ ⟨s0, s1, s2, s3⟩ ?_
      clear hK K'
      try simp only [Act.put, List.getElem_toArray, List.getElem_cons_zero, List.getElem_cons_succ, List.setIfInBounds_toArray, List.set_cons_zero, List.set_cons_succ]
      refine till_take (i := 27) (v := ?_) rfl (by kernel_rfl) (fun _ _ _ h => h) (Or.inl ⟨by rfl, ?_⟩) ⟨s0,s1,s2,s3⟩ ?_
      rotate_left
      · intro W hS
        try dsimp only at hS
        go_split_ands
        go_simp
        try with_reducible rfl
      try simp only [Act.put, List.getElem_toArray, List.getElem_cons_zero, List.getElem_cons_succ, List.setIfInBounds_toArray, List.set_cons_zero, List.set_cons_succ]
      refine till_last (by kernel_rfl) rfl (by kernel_rfl) (fun K' hK => ?_)
      go_simp
      refine hK _ _ ?_
      clear hK K'
      refine wpAny_done (by kernel_rfl) ?_ _
      go_wp2_with fail
      go_ret
      exact ⟨rfl, H13.out.below⟩
end Go.Proofs.Ytjpkljkmignnjaa
