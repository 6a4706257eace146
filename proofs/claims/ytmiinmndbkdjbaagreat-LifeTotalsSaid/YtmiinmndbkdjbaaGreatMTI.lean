/- A part of the proof: Evm, one behind another. -/
import Derived.Test.YtmiinmndbkdjbaaGreatMTA
import Derived.Test.YtmiinmndbkdjbaaGreatMTB
import Derived.Test.YtmiinmndbkdjbaaGreatMTC
import Derived.Test.YtmiinmndbkdjbaaGreatMTD
import Derived.Test.YtmiinmndbkdjbaaGreatMTE
import Derived.Test.YtmiinmndbkdjbaaGreatMTF
import Derived.Test.YtmiinmndbkdjbaaGreatMTG
import Derived.Test.YtmiinmndbkdjbaaGreatMTH
/- The contract of eval: ops on what lies within. -/
namespace Go.Proofs.YtmiinmndbkdjbaaGreat
set_option linter.unusedVariables false
set_option linter.unusedSimpArgs false
open Go.RowKit
set_option maxRecDepth 100000 in
set_option maxHeartbeats 4000000 in
theorem ev_and (w : World) (day : Int) (a : Option Addr) (len cap : Nat) (op n : Int) (nm : ByteArray) (b o cap' : Nat) (o0 n0 o1 n1 : Int) (m0 m1 : ByteArray) (a0 a1 : Option Addr) (l0 p0 l1 p1 : Nat) (A B : Vl) (hop : op = 17 ∨ op = 18)
    (h0 : Four w b o (.int .i64 o0) (.int .i64 n0) (.string m0) (.slice a0 l0 p0)) (h1 : Four w b (o + 4) (.int .i64 o1) (.int .i64 n1) (.string m1) (.slice a1 l1 p1))
    (HA : EvC w day a len cap (.int .i64 o0) (.int .i64 n0) (.string m0) (.slice a0 l0 p0) A) (HB : EvC w day a len cap (.int .i64 o1) (.int .i64 n1) (.string m1) (.slice a1 l1 p1) B) :
    Calls Tryz.prog 96 #[.agg #[.int .i64 day, .slice a len cap], .agg #[.int .i64 op, .int .i64 n, .string nm, .slice (some ⟨b, o, none⟩) 2 cap']] w fun x w' => RetV (bothV (decide (op = 18)) A B) x ∧ Below w.heap.size w w' := by
  have ST := Lib.hid (EvSt.start w day a len cap op n nm (some ⟨b, o, none⟩) 2 cap')
  have h0' : ∀ W, Below w.heap.size w W → Four W b o (.int .i64 o0) (.int .i64 n0) (.string m0) (.slice a0 l0 p0) := fun W hW => ⟨cell_up h0.1 hW, cell_up h0.2.1 hW, cell_up h0.2.2.1 hW, cell_up h0.2.2.2 hW⟩
  have h1' : ∀ W, Below w.heap.size w W → Four W b (o + 4) (.int .i64 o1) (.int .i64 n1) (.string m1) (.slice a1 l1 p1) := fun W hW => ⟨cell_up h1.1 hW, cell_up h1.2.1 hW, cell_up h1.2.2.1 hW, cell_up h1.2.2.2 hW⟩
  have HBO := Lib.hid (fun (s : Bool) W (hW : Below w.heap.size w W) => both_any s day a len cap op n nm b o cap' o0 n0 o1 n1 m0 m1 a0 a1 l0 p0 l1 p1 A B W (h0' W hW) (h1' W hW) (fun V hV => HA V (hW.trans (hV.mono hW.size))) (fun V hV => HB V (hW.trans (hV.mono hW.size))))
  clear h0 h1 h0' h1' HA HB
  rcases hop with rfl | rfl
  · have HR : Hid (bothV false A B = bothV (decide ((17 : Int) = 18)) A B) := by rfl
    obtain ⟨R, hR⟩ : ∃ R, R = bothV (decide ((17 : Int) = 18)) A B := ⟨_, rfl⟩
    rw [← hR] at HR ⊢
    clear hR
    go_enter Tryz.func96, Tryz.ntmps96
    go_upto_region 1 with (fail)
    generalize ((w.alloc (.cells #[.int .i64 day, .slice a len cap] 44)).alloc (.cells #[.int .i64 17, .int .i64 n, .string nm, .slice (some ⟨b, o, none⟩) 2 cap'] 74)).alloc (.cells #[.int .i64 0, .int .i64 0, .bool false] 150) = v at *
    obtain ⟨e0, e1, -, -⟩ := ST.out.env.two
    obtain ⟨x0, x1, x2, x3, -, -, -, -⟩ := blk4 ST.out.ex
    go_wp2_with fail
    go_at_call 124
    (with_reducible refine (HBO.out false v ST.out.below).mono ?_)
    rintro y w2 ⟨hy, b2⟩
    rw [HR.out] at hy
    clear HR HBO
    unfold RetV at hy
    subst hy
    have HP : Hid (RetV R (.returned (.agg #[.int .i64 R.K, .int .i64 R.N, .bool R.B]))) := rfl
    have ST2 := Lib.hid (ST.out.up b2)
    clear b2
    generalize R.K = rk at *
    generalize R.N = rn at *
    generalize R.B = rb at *
    try clear e0 e1 x0 x1 x2 x3
    have HFN := Lib.hid (ret3 (.int .i64 rk) (.int .i64 rn) (.bool rb) ST2.out.below (by omega : w.heap.size ≤ w.heap.size + 1 + 1) ST2.out.res)
    obtain ⟨q0, q1, q2, q3, q4, q5⟩ := blk3 ST2.out.res
    have hm := ST2.out.lt
    go_wp2_with fail
    generalize ((w2.setCell ⟨w.heap.size + 1 + 1, 0, none⟩ (.int .i64 rk)).setCell ⟨w.heap.size + 1 + 1, 1, none⟩ (.int .i64 rn)).setCell ⟨w.heap.size + 1 + 1, 2, none⟩ (.bool rb) = W9 at *
    obtain ⟨r0, r1, r2, -, -, -⟩ := blk3 HFN.out.2
    refine bodyPost_ret (v := .agg #[.int .i64 rk, .int .i64 rn, .bool rb]) (by simp [results, Tryz.results96, go_sem, r0, r1, r2]) rfl ⟨HP.out, HFN.out.1⟩
  · have HR : Hid (bothV true A B = bothV (decide ((18 : Int) = 18)) A B) := by rfl
    obtain ⟨R, hR⟩ : ∃ R, R = bothV (decide ((18 : Int) = 18)) A B := ⟨_, rfl⟩
    rw [← hR] at HR ⊢
    clear hR
    go_enter Tryz.func96, Tryz.ntmps96
    go_upto_region 1 with (fail)
    generalize ((w.alloc (.cells #[.int .i64 day, .slice a len cap] 44)).alloc (.cells #[.int .i64 18, .int .i64 n, .string nm, .slice (some ⟨b, o, none⟩) 2 cap'] 74)).alloc (.cells #[.int .i64 0, .int .i64 0, .bool false] 150) = v at *
    obtain ⟨e0, e1, -, -⟩ := ST.out.env.two
    obtain ⟨x0, x1, x2, x3, -, -, -, -⟩ := blk4 ST.out.ex
    go_wp2_with fail
    go_at_call 124
    (with_reducible refine (HBO.out true v ST.out.below).mono ?_)
    rintro y w2 ⟨hy, b2⟩
    rw [HR.out] at hy
    clear HR HBO
    unfold RetV at hy
    subst hy
    have HP : Hid (RetV R (.returned (.agg #[.int .i64 R.K, .int .i64 R.N, .bool R.B]))) := rfl
    have ST2 := Lib.hid (ST.out.up b2)
    clear b2
    generalize R.K = rk at *
    generalize R.N = rn at *
    generalize R.B = rb at *
    try clear e0 e1 x0 x1 x2 x3
    have HFN := Lib.hid (ret3 (.int .i64 rk) (.int .i64 rn) (.bool rb) ST2.out.below (by omega : w.heap.size ≤ w.heap.size + 1 + 1) ST2.out.res)
    obtain ⟨q0, q1, q2, q3, q4, q5⟩ := blk3 ST2.out.res
    have hm := ST2.out.lt
    go_wp2_with fail
    generalize ((w2.setCell ⟨w.heap.size + 1 + 1, 0, none⟩ (.int .i64 rk)).setCell ⟨w.heap.size + 1 + 1, 1, none⟩ (.int .i64 rn)).setCell ⟨w.heap.size + 1 + 1, 2, none⟩ (.bool rb) = W9 at *
    obtain ⟨r0, r1, r2, -, -, -⟩ := blk3 HFN.out.2
    refine bodyPost_ret (v := .agg #[.int .i64 rk, .int .i64 rn, .bool rb]) (by simp [results, Tryz.results96, go_sem, r0, r1, r2]) rfl ⟨HP.out, HFN.out.1⟩
set_option maxRecDepth 100000 in
set_option maxHeartbeats 4000000 in
theorem ev_not (w : World) (day : Int) (a : Option Addr) (len cap : Nat) (n : Int) (nm : ByteArray) (b o cap' : Nat) (o0 n0 : Int) (m0 : ByteArray) (a0 : Option Addr) (l0 p0 : Nat) (A : Vl) (hA : Ty 2 A)
    (h0 : Four w b o (.int .i64 o0) (.int .i64 n0) (.string m0) (.slice a0 l0 p0)) (HA : EvC w day a len cap (.int .i64 o0) (.int .i64 n0) (.string m0) (.slice a0 l0 p0) A) :
    Calls Tryz.prog 96 #[.agg #[.int .i64 day, .slice a len cap], .agg #[.int .i64 19, .int .i64 n, .string nm, .slice (some ⟨b, o, none⟩) 1 cap']] w fun x w' => RetV (opV 19 [A]) x ∧ Below w.heap.size w w' := by
  have H0 := Lib.hid h0
  have HCA := Lib.hid HA
  have HTA := Lib.hid hA.of2
  have ST := Lib.hid (EvSt.start w day a len cap 19 n nm (some ⟨b, o, none⟩) 1 cap')
  have HR : Hid (opV 19 [A] = opV 19 [A]) := rfl
  obtain ⟨R, hR⟩ : ∃ R, R = opV 19 [A] := ⟨_, rfl⟩
  rw [← hR]
  replace HR := Lib.hid hR
  clear hR h0 HA hA
  go_enter Tryz.func96, Tryz.ntmps96
  go_upto_region 1 with (fail)
  generalize ((w.alloc (.cells #[.int .i64 day, .slice a len cap] 44)).alloc (.cells #[.int .i64 19, .int .i64 n, .string nm, .slice (some ⟨b, o, none⟩) 1 cap'] 74)).alloc (.cells #[.int .i64 0, .int .i64 0, .bool false] 150) = v at *
  obtain ⟨e0, e1, -, -⟩ := ST.out.env.two
  obtain ⟨x0, x1, x2, x3, -, -, -, -⟩ := blk4 ST.out.ex
  go_upto_region 15 with (fail)
  clear e0 e1 x0 x1 x2 x3
  go_cut [7] (fun p W0 => ∃ g, p = .pointer (some ⟨g, 0, none⟩) ∧ Hid (EvSt w W0 day a len cap 19 n nm (some ⟨b, o, none⟩) 1 cap') ∧ Hid (EvV w W0 g A))
  case first =>
    obtain ⟨e0, e1, -, -⟩ := ST.out.env.two
    have x3 : v.cell? ⟨w.heap.size + 1, 3, none⟩ = _ := ST.out.ex.cell 3
    simp only [List.getElem?_toArray, List.getElem?_cons_zero, List.getElem?_cons_succ] at x3
    obtain ⟨u0, u1, u2, u3⟩ := H0.out
    replace u0 := cell_up u0 ST.out.below
    replace u1 := cell_up u1 ST.out.below
    replace u2 := cell_up u2 ST.out.below
    replace u3 := cell_up u3 ST.out.below
    refine wp_region_till (S := fun W => (W.cell? ⟨w.heap.size, 0, none⟩ = some (.int .i64 day) ∧ W.cell? ⟨w.heap.size, 1, none⟩ = some (.slice a len cap)) ∧ W.cell? ⟨w.heap.size + 1, 3, none⟩ = some (.slice (some ⟨b, o, none⟩) 1 cap') ∧ W.cell? ⟨b, o, none⟩ = some (.int .i64 o0) ∧ W.cell? ⟨b, o + 1, none⟩ = some (.int .i64 n0) ∧ W.cell? ⟨b, o + 2, none⟩ = some (.string m0) ∧ W.cell? ⟨b, o + 3, none⟩ = some (.slice a0 l0 p0)) 7 (by kernel_rfl) ?_
    refine till_take (i := 0) (v := ?_) rfl (by kernel_rfl) (fun _ _ _ h => h) (Or.inl ⟨by rfl, ?_⟩) ⟨⟨e0,e1⟩,x3,u0,u1,u2,u3⟩ ?_
    rotate_left
    · intro W hS
      try dsimp only at hS
      go_split_ands
      go_simp
      try with_reducible rfl
    try simp only [Act.put, List.getElem_toArray, List.getElem_cons_zero, List.getElem_cons_succ, List.setIfInBounds_toArray, List.set_cons_zero, List.set_cons_succ]
    refine till_take (i := 1) (v := ?_) rfl (by kernel_rfl) (fun _ _ _ h => h) (Or.inl ⟨by rfl, ?_⟩) ⟨⟨e0,e1⟩,x3,u0,u1,u2,u3⟩ ?_
    rotate_left
    · intro W hS
      try dsimp only at hS
      go_split_ands
      go_simp
      try with_reducible rfl
    try simp only [Act.put, List.getElem_toArray, List.getElem_cons_zero, List.getElem_cons_succ, List.setIfInBounds_toArray, List.set_cons_zero, List.set_cons_succ]
    refine till_take (i := 2) (v := ?_) rfl (by kernel_rfl) (fun _ _ _ h => h) (Or.inl ⟨by rfl, ?_⟩) ⟨⟨e0,e1⟩,x3,u0,u1,u2,u3⟩ ?_
    rotate_left
    · intro W hS
      try dsimp only at hS
      go_split_ands
      go_simp
      try with_reducible rfl
    try simp only [Act.put, List.getElem_toArray, List.getElem_cons_zero, List.getElem_cons_succ, List.setIfInBounds_toArray, List.set_cons_zero, List.set_cons_succ]
    refine till_take (i := 3) (v := ?_) rfl (by kernel_rfl) (fun _ _ _ h => h) (Or.inl ⟨by rfl, ?_⟩) ⟨⟨e0,e1⟩,x3,u0,u1,u2,u3⟩ ?_
    rotate_left
    · intro W hS
      try dsimp only at hS
      go_split_ands
      go_simp
      try with_reducible rfl
    try simp only [Act.put, List.getElem_toArray, List.getElem_cons_zero, List.getElem_cons_succ, List.setIfInBounds_toArray, List.set_cons_zero, List.set_cons_succ]
    refine till_take (i := 4) (v := ?_) rfl (by kernel_rfl) (fun _ _ _ h => h) (Or.inl ⟨by rfl, ?_⟩) ⟨⟨e0,e1⟩,x3,u0,u1,u2,u3⟩ ?_
    rotate_left
    · intro W hS
      try dsimp only at hS
      go_split_ands
      go_simp
      try with_reducible rfl
    try simp only [Act.put, List.getElem_toArray, List.getElem_cons_zero, List.getElem_cons_succ, List.setIfInBounds_toArray, List.set_cons_zero, List.set_cons_succ]
    refine till_two (i := 5) (j := 6) (by kernel_rfl) rfl rfl (fun K' hK => ?_) (fun K' hK => ?_)
    · go_simp
      go_at_call 96
      (with_reducible refine (EvC.run HCA.out _ ST.out.below.drew).mono ?_)
      rintro y w1 ⟨hy, b1⟩
      unfold RetV at hy
      subst hy
      have hd := (Below.refl v.heap.size v).drew
      have ST1 := Lib.hid ((ST.out.up hd).up b1)
      have bt := hd.trans (b1.mono hd.size)
      have GG := Lib.hid (True.intro)
      replace e0 := cell_up e0 bt
      replace e1 := cell_up e1 bt
      replace x3 := cell_up x3 bt
      replace u0 := cell_up u0 bt
      replace u1 := cell_up u1 bt
      replace u2 := cell_up u2 bt
      replace u3 := cell_up u3 bt
      refine hK _ _ ⟨⟨e0,e1⟩,x3,u0,u1,u2,u3⟩ ?_
      clear hK K' b1 hd bt
      try simp only [Act.put, List.getElem_toArray, List.getElem_cons_zero, List.getElem_cons_succ, List.setIfInBounds_toArray, List.set_cons_zero, List.set_cons_succ]
      refine till_one (i := 6) (by kernel_rfl) rfl (fun K' hK => ?_)
      go_simp
      have bn := (Below.refl w1.heap.size w1).alloc (Nat.le_refl _) (.cells #[.int .i64 0, .int .i64 0, .bool false] 150)
      have ST2 := Lib.hid (ST1.out.up bn)
      have BZ := Lib.hid (Mem.Blk.new w1 150 #[.int .i64 0, .int .i64 0, .bool false])
      have HZ := Lib.hid ST1.out.lt
      have HP := Lib.hid (True.intro)
      refine hK _ _ ⟨⟨cell_up e0 bn, cell_up e1 bn⟩, cell_up x3 bn, cell_up u0 bn, cell_up u1 bn, cell_up u2 bn, cell_up u3 bn⟩ ?_
      clear hK K' bn ST1 e0 e1 x3 u0 u1 u2 u3 GG
      generalize w1.alloc (.cells #[.int .i64 0, .int .i64 0, .bool false] 150) = w2 at *
      generalize w1.heap.size = z at *
      try simp only [Act.put, List.getElem_toArray, List.getElem_cons_zero, List.getElem_cons_succ, List.setIfInBounds_toArray, List.set_cons_zero, List.set_cons_succ]
      obtain ⟨t0, t1, t2, t3, t4, t5⟩ := blk3 BZ.out
      have hm := BZ.out.lt
      refine till_last (by kernel_rfl) rfl (by kernel_rfl) (fun K' hK => ?_)
      go_simp
      have HS9 := Lib.hid (ST2.out.far3 HZ.out (.int .i64 A.K) (.int .i64 A.N) (.bool A.B))
      have HV9 := Lib.hid (EvV.mk (v := A) HZ.out (((BZ.out.set_ 0 (.int .i64 A.K)).set_ 1 (.int .i64 A.N)).set_ 2 (.bool A.B)))
      refine hK _ _ ?_
      clear hK K'
      try simp only [Act.put, List.getElem_toArray, List.getElem_cons_zero, List.getElem_cons_succ, List.setIfInBounds_toArray, List.set_cons_zero, List.set_cons_succ]
      refine wpAny_done (by kernel_rfl) ?_ _
      go_wp2_with fail
      go_meet
      case rel => exact ⟨z, rfl, HS9.out, HV9.out⟩
    · go_simp
      have bn := below_new v (.cells #[.int .i64 0, .int .i64 0, .bool false] 150)
      have ST1 := Lib.hid (ST.out.up bn)
      have BZ1 := Lib.hid (Mem.Blk.new v 150 #[.int .i64 0, .int .i64 0, .bool false]).drew
      have HZ := Lib.hid ST.out.lt
      have HQ := Lib.hid (True.intro)
      replace e0 := cell_up e0 bn
      replace e1 := cell_up e1 bn
      replace x3 := cell_up x3 bn
      replace u0 := cell_up u0 bn
      replace u1 := cell_up u1 bn
      replace u2 := cell_up u2 bn
      replace u3 := cell_up u3 bn
      refine hK _ _ ⟨⟨e0,e1⟩,x3,u0,u1,u2,u3⟩ ?_
      clear hK K' bn
      generalize (v.alloc (.cells #[.int .i64 0, .int .i64 0, .bool false] 150)).drew = w1 at *
      generalize v.heap.size = z at *
      try simp only [Act.put, List.getElem_toArray, List.getElem_cons_zero, List.getElem_cons_succ, List.setIfInBounds_toArray, List.set_cons_zero, List.set_cons_succ]
      refine till_one (i := 5) (by kernel_rfl) rfl (fun K' hK => ?_)
      go_simp
      go_at_call 96
      (with_reducible refine (EvC.run HCA.out _ ST1.out.below).mono ?_)
      rintro y w2 ⟨hy, b1⟩
      unfold RetV at hy
      subst hy
      have ST2 := Lib.hid (ST1.out.up b1)
      have BZ := Lib.hid (BZ1.out.below b1)
      have HP := Lib.hid (True.intro)
      refine hK _ _ ⟨⟨cell_up e0 b1, cell_up e1 b1⟩, cell_up x3 b1, cell_up u0 b1, cell_up u1 b1, cell_up u2 b1, cell_up u3 b1⟩ ?_
      clear hK K' b1 ST1 BZ1 e0 e1 x3 u0 u1 u2 u3 HQ
      try simp only [Act.put, List.getElem_toArray, List.getElem_cons_zero, List.getElem_cons_succ, List.setIfInBounds_toArray, List.set_cons_zero, List.set_cons_succ]
      obtain ⟨t0, t1, t2, t3, t4, t5⟩ := blk3 BZ.out
      have hm := BZ.out.lt
      refine till_last (by kernel_rfl) rfl (by kernel_rfl) (fun K' hK => ?_)
      go_simp
      have HS9 := Lib.hid (ST2.out.far3 HZ.out (.int .i64 A.K) (.int .i64 A.N) (.bool A.B))
      have HV9 := Lib.hid (EvV.mk (v := A) HZ.out (((BZ.out.set_ 0 (.int .i64 A.K)).set_ 1 (.int .i64 A.N)).set_ 2 (.bool A.B)))
      refine hK _ _ ?_
      clear hK K'
      try simp only [Act.put, List.getElem_toArray, List.getElem_cons_zero, List.getElem_cons_succ, List.setIfInBounds_toArray, List.set_cons_zero, List.set_cons_succ]
      refine wpAny_done (by kernel_rfl) ?_ _
      go_wp2_with fail
      go_meet
      case rel => exact ⟨z, rfl, HS9.out, HV9.out⟩
  obtain ⟨g, rfl, ST0, VA⟩ := hcut
  obtain ⟨W0, rfl⟩ : ∃ W : World, W = wc := ⟨_, rfl⟩
  clear ST
  rcases HTA.out with rfl | rfl | ⟨t, rfl⟩
  · obtain rfl : R = .unk := HR.out
    have t0 : W0.cell? ⟨g, 0, none⟩ = some (.int .i64 0) := VA.out.blk.cell 0
    have t1 : W0.cell? ⟨g, 1, none⟩ = some (.int .i64 0) := VA.out.blk.cell 1
    have t2 : W0.cell? ⟨g, 2, none⟩ = some (.bool false) := VA.out.blk.cell 2
    obtain ⟨e0, e1, -, -⟩ := ST0.out.env.two
    obtain ⟨x0, x1, x2, x3, -, -, -, -⟩ := blk4 ST0.out.ex
    have HFN := Lib.hid (ret3 (.int .i64 0) (.int .i64 0) (.bool false) ST0.out.below (by omega : w.heap.size ≤ w.heap.size + 1 + 1) ST0.out.res)
    obtain ⟨q0, q1, q2, q3, q4, q5⟩ := blk3 ST0.out.res
    have hm := ST0.out.lt
    go_wp2_with fail
    generalize ((W0.setCell ⟨w.heap.size + 1 + 1, 0, none⟩ (.int .i64 0)).setCell ⟨w.heap.size + 1 + 1, 1, none⟩ (.int .i64 0)).setCell ⟨w.heap.size + 1 + 1, 2, none⟩ (.bool false) = W9 at *
    obtain ⟨r0, r1, r2, -, -, -⟩ := blk3 HFN.out.2
    refine bodyPost_ret (v := .agg #[.int .i64 0, .int .i64 0, .bool false]) (by simp [results, Tryz.results96, go_sem, r0, r1, r2]) rfl ⟨rfl, HFN.out.1⟩
  · obtain rfl : R = .brk := HR.out
    have t0 : W0.cell? ⟨g, 0, none⟩ = some (.int .i64 3) := VA.out.blk.cell 0
    have t1 : W0.cell? ⟨g, 1, none⟩ = some (.int .i64 0) := VA.out.blk.cell 1
    have t2 : W0.cell? ⟨g, 2, none⟩ = some (.bool false) := VA.out.blk.cell 2
    obtain ⟨e0, e1, -, -⟩ := ST0.out.env.two
    obtain ⟨x0, x1, x2, x3, -, -, -, -⟩ := blk4 ST0.out.ex
    have HFN := Lib.hid (ret3 (.int .i64 3) (.int .i64 0) (.bool false) ST0.out.below (by omega : w.heap.size ≤ w.heap.size + 1 + 1) ST0.out.res)
    obtain ⟨q0, q1, q2, q3, q4, q5⟩ := blk3 ST0.out.res
    have hm := ST0.out.lt
    go_wp2_with fail
    generalize ((W0.setCell ⟨w.heap.size + 1 + 1, 0, none⟩ (.int .i64 3)).setCell ⟨w.heap.size + 1 + 1, 1, none⟩ (.int .i64 0)).setCell ⟨w.heap.size + 1 + 1, 2, none⟩ (.bool false) = W9 at *
    obtain ⟨r0, r1, r2, -, -, -⟩ := blk3 HFN.out.2
    refine bodyPost_ret (v := .agg #[.int .i64 3, .int .i64 0, .bool false]) (by simp [results, Tryz.results96, go_sem, r0, r1, r2]) rfl ⟨rfl, HFN.out.1⟩
  · have HR2 : Hid (Vl.tru (!t) = R) := HR.out.symm
    have t0 : W0.cell? ⟨g, 0, none⟩ = some (.int .i64 2) := VA.out.blk.cell 0
    have t1 : W0.cell? ⟨g, 1, none⟩ = some (.int .i64 0) := VA.out.blk.cell 1
    have t2 : W0.cell? ⟨g, 2, none⟩ = some (.bool t) := VA.out.blk.cell 2
    obtain ⟨e0, e1, -, -⟩ := ST0.out.env.two
    obtain ⟨x0, x1, x2, x3, -, -, -, -⟩ := blk4 ST0.out.ex
    clear HR
    go_wp2_with fail
    clear t0 t1 t2
    go_at_call 125
    (with_reducible refine (truth_any _ _).mono ?_)
    rintro y w2 ⟨hy, b2⟩
    rw [HR2.out] at hy
    clear HR2
    unfold RetV at hy
    subst hy
    have HP : Hid (RetV R (.returned (.agg #[.int .i64 R.K, .int .i64 R.N, .bool R.B]))) := rfl
    have ST2 := Lib.hid (ST0.out.up b2)
    clear b2
    generalize R.K = rk at *
    generalize R.N = rn at *
    generalize R.B = rb at *
    try clear e0 e1 x0 x1 x2 x3
    have HFN := Lib.hid (ret3 (.int .i64 rk) (.int .i64 rn) (.bool rb) ST2.out.below (by omega : w.heap.size ≤ w.heap.size + 1 + 1) ST2.out.res)
    obtain ⟨q0, q1, q2, q3, q4, q5⟩ := blk3 ST2.out.res
    have hm := ST2.out.lt
    go_wp2_with fail
    generalize ((w2.setCell ⟨w.heap.size + 1 + 1, 0, none⟩ (.int .i64 rk)).setCell ⟨w.heap.size + 1 + 1, 1, none⟩ (.int .i64 rn)).setCell ⟨w.heap.size + 1 + 1, 2, none⟩ (.bool rb) = W9 at *
    obtain ⟨r0, r1, r2, -, -, -⟩ := blk3 HFN.out.2
    refine bodyPost_ret (v := .agg #[.int .i64 rk, .int .i64 rn, .bool rb]) (by simp [results, Tryz.results96, go_sem, r0, r1, r2]) rfl ⟨HP.out, HFN.out.1⟩
set_option maxRecDepth 100000 in
set_option maxHeartbeats 4000000 in
theorem ev_neg (w : World) (day : Int) (a : Option Addr) (len cap : Nat) (n : Int) (nm : ByteArray) (b o cap' : Nat) (o0 n0 : Int) (m0 : ByteArray) (a0 : Option Addr) (l0 p0 : Nat) (A : Vl) (hA : Ty 1 A) (hI : I64 A.N)
    (h0 : Four w b o (.int .i64 o0) (.int .i64 n0) (.string m0) (.slice a0 l0 p0)) (HA : EvC w day a len cap (.int .i64 o0) (.int .i64 n0) (.string m0) (.slice a0 l0 p0) A) :
    Calls Tryz.prog 96 #[.agg #[.int .i64 day, .slice a len cap], .agg #[.int .i64 20, .int .i64 n, .string nm, .slice (some ⟨b, o, none⟩) 1 cap']] w fun x w' => RetV (opV 20 [A]) x ∧ Below w.heap.size w w' := by
  have H0 := Lib.hid h0
  have HCA := Lib.hid HA
  have HTA := Lib.hid hA.of1
  have HIA := Lib.hid hI
  have ST := Lib.hid (EvSt.start w day a len cap 20 n nm (some ⟨b, o, none⟩) 1 cap')
  have HR : Hid (opV 20 [A] = opV 20 [A]) := rfl
  obtain ⟨R, hR⟩ : ∃ R, R = opV 20 [A] := ⟨_, rfl⟩
  rw [← hR]
  replace HR := Lib.hid hR
  clear hR h0 HA hA hI
  go_enter Tryz.func96, Tryz.ntmps96
  go_upto_region 1 with (fail)
  generalize ((w.alloc (.cells #[.int .i64 day, .slice a len cap] 44)).alloc (.cells #[.int .i64 20, .int .i64 n, .string nm, .slice (some ⟨b, o, none⟩) 1 cap'] 74)).alloc (.cells #[.int .i64 0, .int .i64 0, .bool false] 150) = v at *
  obtain ⟨e0, e1, -, -⟩ := ST.out.env.two
  obtain ⟨x0, x1, x2, x3, -, -, -, -⟩ := blk4 ST.out.ex
  go_upto_region 15 with (fail)
  clear e0 e1 x0 x1 x2 x3
  go_cut [7] (fun p W0 => ∃ g, p = .pointer (some ⟨g, 0, none⟩) ∧ Hid (EvSt w W0 day a len cap 20 n nm (some ⟨b, o, none⟩) 1 cap') ∧ Hid (EvV w W0 g A))
  case first =>
    obtain ⟨e0, e1, -, -⟩ := ST.out.env.two
    have x3 : v.cell? ⟨w.heap.size + 1, 3, none⟩ = _ := ST.out.ex.cell 3
    simp only [List.getElem?_toArray, List.getElem?_cons_zero, List.getElem?_cons_succ] at x3
    obtain ⟨u0, u1, u2, u3⟩ := H0.out
    replace u0 := cell_up u0 ST.out.below
    replace u1 := cell_up u1 ST.out.below
    replace u2 := cell_up u2 ST.out.below
    replace u3 := cell_up u3 ST.out.below
    refine wp_region_till (S := fun W => (W.cell? ⟨w.heap.size, 0, none⟩ = some (.int .i64 day) ∧ W.cell? ⟨w.heap.size, 1, none⟩ = some (.slice a len cap)) ∧ W.cell? ⟨w.heap.size + 1, 3, none⟩ = some (.slice (some ⟨b, o, none⟩) 1 cap') ∧ W.cell? ⟨b, o, none⟩ = some (.int .i64 o0) ∧ W.cell? ⟨b, o + 1, none⟩ = some (.int .i64 n0) ∧ W.cell? ⟨b, o + 2, none⟩ = some (.string m0) ∧ W.cell? ⟨b, o + 3, none⟩ = some (.slice a0 l0 p0)) 7 (by kernel_rfl) ?_
    refine till_take (i := 0) (v := ?_) rfl (by kernel_rfl) (fun _ _ _ h => h) (Or.inl ⟨by rfl, ?_⟩) ⟨⟨e0,e1⟩,x3,u0,u1,u2,u3⟩ ?_
    rotate_left
    · intro W hS
      try dsimp only at hS
      go_split_ands
      go_simp
      try with_reducible rfl
    try simp only [Act.put, List.getElem_toArray, List.getElem_cons_zero, List.getElem_cons_succ, List.setIfInBounds_toArray, List.set_cons_zero, List.set_cons_succ]
    refine till_take (i := 1) (v := ?_) rfl (by kernel_rfl) (fun _ _ _ h => h) (Or.inl ⟨by rfl, ?_⟩) ⟨⟨e0,e1⟩,x3,u0,u1,u2,u3⟩ ?_
    rotate_left
    · intro W hS
      try dsimp only at hS
      go_split_ands
      go_simp
      try with_reducible rfl
    try simp only [Act.put, List.getElem_toArray, List.getElem_cons_zero, List.getElem_cons_succ, List.setIfInBounds_toArray, List.set_cons_zero, List.set_cons_succ]
    refine till_take (i := 2) (v := ?_) rfl (by kernel_rfl) (fun _ _ _ h => h) (Or.inl ⟨by rfl, ?_⟩) ⟨⟨e0,e1⟩,x3,u0,u1,u2,u3⟩ ?_
    rotate_left
    · intro W hS
      try dsimp only at hS
      go_split_ands
      go_simp
      try with_reducible rfl
    try simp only [Act.put, List.getElem_toArray, List.getElem_cons_zero, List.getElem_cons_succ, List.setIfInBounds_toArray, List.set_cons_zero, List.set_cons_succ]
    refine till_take (i := 3) (v := ?_) rfl (by kernel_rfl) (fun _ _ _ h => h) (Or.inl ⟨by rfl, ?_⟩) ⟨⟨e0,e1⟩,x3,u0,u1,u2,u3⟩ ?_
    rotate_left
    · intro W hS
      try dsimp only at hS
      go_split_ands
      go_simp
      try with_reducible rfl
    try simp only [Act.put, List.getElem_toArray, List.getElem_cons_zero, List.getElem_cons_succ, List.setIfInBounds_toArray, List.set_cons_zero, List.set_cons_succ]
    refine till_take (i := 4) (v := ?_) rfl (by kernel_rfl) (fun _ _ _ h => h) (Or.inl ⟨by rfl, ?_⟩) ⟨⟨e0,e1⟩,x3,u0,u1,u2,u3⟩ ?_
    rotate_left
    · intro W hS
      try dsimp only at hS
      go_split_ands
      go_simp
      try with_reducible rfl
    try simp only [Act.put, List.getElem_toArray, List.getElem_cons_zero, List.getElem_cons_succ, List.setIfInBounds_toArray, List.set_cons_zero, List.set_cons_succ]
    refine till_two (i := 5) (j := 6) (by kernel_rfl) rfl rfl (fun K' hK => ?_) (fun K' hK => ?_)
    · go_simp
      go_at_call 96
      (with_reducible refine (EvC.run HCA.out _ ST.out.below.drew).mono ?_)
      rintro y w1 ⟨hy, b1⟩
      unfold RetV at hy
      subst hy
      have hd := (Below.refl v.heap.size v).drew
      have ST1 := Lib.hid ((ST.out.up hd).up b1)
      have bt := hd.trans (b1.mono hd.size)
      have GG := Lib.hid (True.intro)
      replace e0 := cell_up e0 bt
      replace e1 := cell_up e1 bt
      replace x3 := cell_up x3 bt
      replace u0 := cell_up u0 bt
      replace u1 := cell_up u1 bt
      replace u2 := cell_up u2 bt
      replace u3 := cell_up u3 bt
      refine hK _ _ ⟨⟨e0,e1⟩,x3,u0,u1,u2,u3⟩ ?_
      clear hK K' b1 hd bt
      try simp only [Act.put, List.getElem_toArray, List.getElem_cons_zero, List.getElem_cons_succ, List.setIfInBounds_toArray, List.set_cons_zero, List.set_cons_succ]
      refine till_one (i := 6) (by kernel_rfl) rfl (fun K' hK => ?_)
      go_simp
      have bn := (Below.refl w1.heap.size w1).alloc (Nat.le_refl _) (.cells #[.int .i64 0, .int .i64 0, .bool false] 150)
      have ST2 := Lib.hid (ST1.out.up bn)
      have BZ := Lib.hid (Mem.Blk.new w1 150 #[.int .i64 0, .int .i64 0, .bool false])
      have HZ := Lib.hid ST1.out.lt
      have HP := Lib.hid (True.intro)
      refine hK _ _ ⟨⟨cell_up e0 bn, cell_up e1 bn⟩, cell_up x3 bn, cell_up u0 bn, cell_up u1 bn, cell_up u2 bn, cell_up u3 bn⟩ ?_
      clear hK K' bn ST1 e0 e1 x3 u0 u1 u2 u3 GG
      generalize w1.alloc (.cells #[.int .i64 0, .int .i64 0, .bool false] 150) = w2 at *
      generalize w1.heap.size = z at *
      try simp only [Act.put, List.getElem_toArray, List.getElem_cons_zero, List.getElem_cons_succ, List.setIfInBounds_toArray, List.set_cons_zero, List.set_cons_succ]
      obtain ⟨t0, t1, t2, t3, t4, t5⟩ := blk3 BZ.out
      have hm := BZ.out.lt
      refine till_last (by kernel_rfl) rfl (by kernel_rfl) (fun K' hK => ?_)
      go_simp
      have HS9 := Lib.hid (ST2.out.far3 HZ.out (.int .i64 A.K) (.int .i64 A.N) (.bool A.B))
      have HV9 := Lib.hid (EvV.mk (v := A) HZ.out (((BZ.out.set_ 0 (.int .i64 A.K)).set_ 1 (.int .i64 A.N)).set_ 2 (.bool A.B)))
      refine hK _ _ ?_
      clear hK K'
      try simp only [Act.put, List.getElem_toArray, List.getElem_cons_zero, List.getElem_cons_succ, List.setIfInBounds_toArray, List.set_cons_zero, List.set_cons_succ]
      refine wpAny_done (by kernel_rfl) ?_ _
      go_wp2_with fail
      go_meet
      case rel => exact ⟨z, rfl, HS9.out, HV9.out⟩
    · go_simp
      have bn := below_new v (.cells #[.int .i64 0, .int .i64 0, .bool false] 150)
      have ST1 := Lib.hid (ST.out.up bn)
      have BZ1 := Lib.hid (Mem.Blk.new v 150 #[.int .i64 0, .int .i64 0, .bool false]).drew
      have HZ := Lib.hid ST.out.lt
      have HQ := Lib.hid (True.intro)
      replace e0 := cell_up e0 bn
      replace e1 := cell_up e1 bn
      replace x3 := cell_up x3 bn
      replace u0 := cell_up u0 bn
      replace u1 := cell_up u1 bn
      replace u2 := cell_up u2 bn
      replace u3 := cell_up u3 bn
      refine hK _ _ ⟨⟨e0,e1⟩,x3,u0,u1,u2,u3⟩ ?_
      clear hK K' bn
      generalize (v.alloc (.cells #[.int .i64 0, .int .i64 0, .bool false] 150)).drew = w1 at *
      generalize v.heap.size = z at *
      try simp only [Act.put, List.getElem_toArray, List.getElem_cons_zero, List.getElem_cons_succ, List.setIfInBounds_toArray, List.set_cons_zero, List.set_cons_succ]
      refine till_one (i := 5) (by kernel_rfl) rfl (fun K' hK => ?_)
      go_simp
      go_at_call 96
      (with_reducible refine (EvC.run HCA.out _ ST1.out.below).mono ?_)
      rintro y w2 ⟨hy, b1⟩
      unfold RetV at hy
      subst hy
      have ST2 := Lib.hid (ST1.out.up b1)
      have BZ := Lib.hid (BZ1.out.below b1)
      have HP := Lib.hid (True.intro)
      refine hK _ _ ⟨⟨cell_up e0 b1, cell_up e1 b1⟩, cell_up x3 b1, cell_up u0 b1, cell_up u1 b1, cell_up u2 b1, cell_up u3 b1⟩ ?_
      clear hK K' b1 ST1 BZ1 e0 e1 x3 u0 u1 u2 u3 HQ
      try simp only [Act.put, List.getElem_toArray, List.getElem_cons_zero, List.getElem_cons_succ, List.setIfInBounds_toArray, List.set_cons_zero, List.set_cons_succ]
      obtain ⟨t0, t1, t2, t3, t4, t5⟩ := blk3 BZ.out
      have hm := BZ.out.lt
      refine till_last (by kernel_rfl) rfl (by kernel_rfl) (fun K' hK => ?_)
      go_simp
      have HS9 := Lib.hid (ST2.out.far3 HZ.out (.int .i64 A.K) (.int .i64 A.N) (.bool A.B))
      have HV9 := Lib.hid (EvV.mk (v := A) HZ.out (((BZ.out.set_ 0 (.int .i64 A.K)).set_ 1 (.int .i64 A.N)).set_ 2 (.bool A.B)))
      refine hK _ _ ?_
      clear hK K'
      try simp only [Act.put, List.getElem_toArray, List.getElem_cons_zero, List.getElem_cons_succ, List.setIfInBounds_toArray, List.set_cons_zero, List.set_cons_succ]
      refine wpAny_done (by kernel_rfl) ?_ _
      go_wp2_with fail
      go_meet
      case rel => exact ⟨z, rfl, HS9.out, HV9.out⟩
  obtain ⟨g, rfl, ST0, VA⟩ := hcut
  obtain ⟨W0, rfl⟩ : ∃ W : World, W = wc := ⟨_, rfl⟩
  clear ST
  rcases HTA.out with rfl | rfl | ⟨t, rfl⟩
  · obtain rfl : R = .unk := HR.out
    have t0 : W0.cell? ⟨g, 0, none⟩ = some (.int .i64 0) := VA.out.blk.cell 0
    have t1 : W0.cell? ⟨g, 1, none⟩ = some (.int .i64 0) := VA.out.blk.cell 1
    have t2 : W0.cell? ⟨g, 2, none⟩ = some (.bool false) := VA.out.blk.cell 2
    obtain ⟨e0, e1, -, -⟩ := ST0.out.env.two
    obtain ⟨x0, x1, x2, x3, -, -, -, -⟩ := blk4 ST0.out.ex
    have HFN := Lib.hid (ret3 (.int .i64 0) (.int .i64 0) (.bool false) ST0.out.below (by omega : w.heap.size ≤ w.heap.size + 1 + 1) ST0.out.res)
    obtain ⟨q0, q1, q2, q3, q4, q5⟩ := blk3 ST0.out.res
    have hm := ST0.out.lt
    go_wp2_with fail
    generalize ((W0.setCell ⟨w.heap.size + 1 + 1, 0, none⟩ (.int .i64 0)).setCell ⟨w.heap.size + 1 + 1, 1, none⟩ (.int .i64 0)).setCell ⟨w.heap.size + 1 + 1, 2, none⟩ (.bool false) = W9 at *
    obtain ⟨r0, r1, r2, -, -, -⟩ := blk3 HFN.out.2
    refine bodyPost_ret (v := .agg #[.int .i64 0, .int .i64 0, .bool false]) (by simp [results, Tryz.results96, go_sem, r0, r1, r2]) rfl ⟨rfl, HFN.out.1⟩
  · obtain rfl : R = .brk := HR.out
    have t0 : W0.cell? ⟨g, 0, none⟩ = some (.int .i64 3) := VA.out.blk.cell 0
    have t1 : W0.cell? ⟨g, 1, none⟩ = some (.int .i64 0) := VA.out.blk.cell 1
    have t2 : W0.cell? ⟨g, 2, none⟩ = some (.bool false) := VA.out.blk.cell 2
    obtain ⟨e0, e1, -, -⟩ := ST0.out.env.two
    obtain ⟨x0, x1, x2, x3, -, -, -, -⟩ := blk4 ST0.out.ex
    have HFN := Lib.hid (ret3 (.int .i64 3) (.int .i64 0) (.bool false) ST0.out.below (by omega : w.heap.size ≤ w.heap.size + 1 + 1) ST0.out.res)
    obtain ⟨q0, q1, q2, q3, q4, q5⟩ := blk3 ST0.out.res
    have hm := ST0.out.lt
    go_wp2_with fail
    generalize ((W0.setCell ⟨w.heap.size + 1 + 1, 0, none⟩ (.int .i64 3)).setCell ⟨w.heap.size + 1 + 1, 1, none⟩ (.int .i64 0)).setCell ⟨w.heap.size + 1 + 1, 2, none⟩ (.bool false) = W9 at *
    obtain ⟨r0, r1, r2, -, -, -⟩ := blk3 HFN.out.2
    refine bodyPost_ret (v := .agg #[.int .i64 3, .int .i64 0, .bool false]) (by simp [results, Tryz.results96, go_sem, r0, r1, r2]) rfl ⟨rfl, HFN.out.1⟩
  · have HR2 : Hid (nmV (fitN (fitI (-t))) (fitB (fitI (-t))) = R) := by rw [HR.out, nmV_fit]; rfl
    have t0 : W0.cell? ⟨g, 0, none⟩ = some (.int .i64 1) := VA.out.blk.cell 0
    have t1 : W0.cell? ⟨g, 1, none⟩ = some (.int .i64 t) := VA.out.blk.cell 1
    have t2 : W0.cell? ⟨g, 2, none⟩ = some (.bool false) := VA.out.blk.cell 2
    obtain ⟨e0, e1, -, -⟩ := ST0.out.env.two
    obtain ⟨x0, x1, x2, x3, -, -, -, -⟩ := blk4 ST0.out.ex
    have HT : Hid (I64 t) := HIA.out
    clear HR HIA
    go_wp2_with fail
    go_at_call 52
    (with_reducible refine (numNeg_any _ _ HT.out).mono ?_)
    rintro y w2 ⟨rfl, rfl⟩
    clear t0 t1 t2 e0 e1 x0 x1 x2 x3
    unfold fitR
    generalize fitI (-t) = oo at *
    generalize fitN oo = n9 at *
    generalize fitB oo = b9 at *
    go_wp2_with fail
    go_at_call 122
    (with_reducible refine (number_any _ _ _).mono ?_)
    rintro y w2 ⟨hy, b2⟩
    rw [HR2.out] at hy
    clear HR2
    unfold RetV at hy
    subst hy
    have HP : Hid (RetV R (.returned (.agg #[.int .i64 R.K, .int .i64 R.N, .bool R.B]))) := rfl
    have ST2 := Lib.hid (ST0.out.up b2)
    clear b2
    generalize R.K = rk at *
    generalize R.N = rn at *
    generalize R.B = rb at *
    try clear e0 e1 x0 x1 x2 x3
    have HFN := Lib.hid (ret3 (.int .i64 rk) (.int .i64 rn) (.bool rb) ST2.out.below (by omega : w.heap.size ≤ w.heap.size + 1 + 1) ST2.out.res)
    obtain ⟨q0, q1, q2, q3, q4, q5⟩ := blk3 ST2.out.res
    have hm := ST2.out.lt
    go_wp2_with fail
    generalize ((w2.setCell ⟨w.heap.size + 1 + 1, 0, none⟩ (.int .i64 rk)).setCell ⟨w.heap.size + 1 + 1, 1, none⟩ (.int .i64 rn)).setCell ⟨w.heap.size + 1 + 1, 2, none⟩ (.bool rb) = W9 at *
    obtain ⟨r0, r1, r2, -, -, -⟩ := blk3 HFN.out.2
    refine bodyPost_ret (v := .agg #[.int .i64 rk, .int .i64 rn, .bool rb]) (by simp [results, Tryz.results96, go_sem, r0, r1, r2]) rfl ⟨HP.out, HFN.out.1⟩
set_option maxRecDepth 100000 in
set_option maxHeartbeats 4000000 in
theorem ev_if (w : World) (day : Int) (a : Option Addr) (len cap : Nat) (n : Int) (nm : ByteArray) (b o cap' : Nat) (o0 n0 o1 n1 o2 n2 : Int) (m0 m1 m2 : ByteArray) (a0 a1 a2 : Option Addr) (l0 p0 l1 p1 l2 p2 : Nat) (A B C : Vl) (hA : Ty 2 A)
    (h0 : Four w b o (.int .i64 o0) (.int .i64 n0) (.string m0) (.slice a0 l0 p0)) (h1 : Four w b (o + 4) (.int .i64 o1) (.int .i64 n1) (.string m1) (.slice a1 l1 p1)) (h2 : Four w b (o + 8) (.int .i64 o2) (.int .i64 n2) (.string m2) (.slice a2 l2 p2))
    (HA : EvC w day a len cap (.int .i64 o0) (.int .i64 n0) (.string m0) (.slice a0 l0 p0) A) (HB : EvC w day a len cap (.int .i64 o1) (.int .i64 n1) (.string m1) (.slice a1 l1 p1) B) (HC : EvC w day a len cap (.int .i64 o2) (.int .i64 n2) (.string m2) (.slice a2 l2 p2) C) :
    Calls Tryz.prog 96 #[.agg #[.int .i64 day, .slice a len cap], .agg #[.int .i64 21, .int .i64 n, .string nm, .slice (some ⟨b, o, none⟩) 3 cap']] w fun x w' => RetV (opV 21 [A, B, C]) x ∧ Below w.heap.size w w' := by
  have H0 := Lib.hid h0
  have H1 := Lib.hid h1
  have H2 := Lib.hid h2
  have HCA := Lib.hid HA
  have HCB := Lib.hid HB
  have HCC := Lib.hid HC
  have HTA := Lib.hid hA.of2
  have ST := Lib.hid (EvSt.start w day a len cap 21 n nm (some ⟨b, o, none⟩) 3 cap')
  have HR : Hid (opV 21 [A, B, C] = opV 21 [A, B, C]) := rfl
  obtain ⟨R, hR⟩ : ∃ R, R = opV 21 [A, B, C] := ⟨_, rfl⟩
  rw [← hR]
  replace HR := Lib.hid hR
  clear hR h0 h1 h2 HA HB HC hA
  go_enter Tryz.func96, Tryz.ntmps96
  go_upto_region 1 with (fail)
  generalize ((w.alloc (.cells #[.int .i64 day, .slice a len cap] 44)).alloc (.cells #[.int .i64 21, .int .i64 n, .string nm, .slice (some ⟨b, o, none⟩) 3 cap'] 74)).alloc (.cells #[.int .i64 0, .int .i64 0, .bool false] 150) = v at *
  obtain ⟨e0, e1, -, -⟩ := ST.out.env.two
  obtain ⟨x0, x1, x2, x3, -, -, -, -⟩ := blk4 ST.out.ex
  go_upto_region 15 with (fail)
  clear e0 e1 x0 x1 x2 x3
  go_cut [7] (fun p W0 => ∃ g, p = .pointer (some ⟨g, 0, none⟩) ∧ Hid (EvSt w W0 day a len cap 21 n nm (some ⟨b, o, none⟩) 3 cap') ∧ Hid (EvV w W0 g A))
  case first =>
    obtain ⟨e0, e1, -, -⟩ := ST.out.env.two
    have x3 : v.cell? ⟨w.heap.size + 1, 3, none⟩ = _ := ST.out.ex.cell 3
    simp only [List.getElem?_toArray, List.getElem?_cons_zero, List.getElem?_cons_succ] at x3
    obtain ⟨u0, u1, u2, u3⟩ := H0.out
    replace u0 := cell_up u0 ST.out.below
    replace u1 := cell_up u1 ST.out.below
    replace u2 := cell_up u2 ST.out.below
    replace u3 := cell_up u3 ST.out.below
    refine wp_region_till (S := fun W => (W.cell? ⟨w.heap.size, 0, none⟩ = some (.int .i64 day) ∧ W.cell? ⟨w.heap.size, 1, none⟩ = some (.slice a len cap)) ∧ W.cell? ⟨w.heap.size + 1, 3, none⟩ = some (.slice (some ⟨b, o, none⟩) 3 cap') ∧ W.cell? ⟨b, o, none⟩ = some (.int .i64 o0) ∧ W.cell? ⟨b, o + 1, none⟩ = some (.int .i64 n0) ∧ W.cell? ⟨b, o + 2, none⟩ = some (.string m0) ∧ W.cell? ⟨b, o + 3, none⟩ = some (.slice a0 l0 p0)) 7 (by kernel_rfl) ?_
    refine till_take (i := 0) (v := ?_) rfl (by kernel_rfl) (fun _ _ _ h => h) (Or.inl ⟨by rfl, ?_⟩) ⟨⟨e0,e1⟩,x3,u0,u1,u2,u3⟩ ?_
    rotate_left
    · intro W hS
      try dsimp only at hS
      go_split_ands
      go_simp
      try with_reducible rfl
    try simp only [Act.put, List.getElem_toArray, List.getElem_cons_zero, List.getElem_cons_succ, List.setIfInBounds_toArray, List.set_cons_zero, List.set_cons_succ]
    refine till_take (i := 1) (v := ?_) rfl (by kernel_rfl) (fun _ _ _ h => h) (Or.inl ⟨by rfl, ?_⟩) ⟨⟨e0,e1⟩,x3,u0,u1,u2,u3⟩ ?_
    rotate_left
    · intro W hS
      try dsimp only at hS
      go_split_ands
      go_simp
      try with_reducible rfl
    try simp only [Act.put, List.getElem_toArray, List.getElem_cons_zero, List.getElem_cons_succ, List.setIfInBounds_toArray, List.set_cons_zero, List.set_cons_succ]
    refine till_take (i := 2) (v := ?_) rfl (by kernel_rfl) (fun _ _ _ h => h) (Or.inl ⟨by rfl, ?_⟩) ⟨⟨e0,e1⟩,x3,u0,u1,u2,u3⟩ ?_
    rotate_left
    · intro W hS
      try dsimp only at hS
      go_split_ands
      go_simp
      try with_reducible rfl
    try simp only [Act.put, List.getElem_toArray, List.getElem_cons_zero, List.getElem_cons_succ, List.setIfInBounds_toArray, List.set_cons_zero, List.set_cons_succ]
    refine till_take (i := 3) (v := ?_) rfl (by kernel_rfl) (fun _ _ _ h => h) (Or.inl ⟨by rfl, ?_⟩) ⟨⟨e0,e1⟩,x3,u0,u1,u2,u3⟩ ?_
    rotate_left
    · intro W hS
      try dsimp only at hS
      go_split_ands
      go_simp
      try with_reducible rfl
    try simp only [Act.put, List.getElem_toArray, List.getElem_cons_zero, List.getElem_cons_succ, List.setIfInBounds_toArray, List.set_cons_zero, List.set_cons_succ]
    refine till_take (i := 4) (v := ?_) rfl (by kernel_rfl) (fun _ _ _ h => h) (Or.inl ⟨by rfl, ?_⟩) ⟨⟨e0,e1⟩,x3,u0,u1,u2,u3⟩ ?_
    rotate_left
    · intro W hS
      try dsimp only at hS
      go_split_ands
      go_simp
      try with_reducible rfl
    try simp only [Act.put, List.getElem_toArray, List.getElem_cons_zero, List.getElem_cons_succ, List.setIfInBounds_toArray, List.set_cons_zero, List.set_cons_succ]
    refine till_two (i := 5) (j := 6) (by kernel_rfl) rfl rfl (fun K' hK => ?_) (fun K' hK => ?_)
    · go_simp
      go_at_call 96
      (with_reducible refine (EvC.run HCA.out _ ST.out.below.drew).mono ?_)
      rintro y w1 ⟨hy, b1⟩
      unfold RetV at hy
      subst hy
      have hd := (Below.refl v.heap.size v).drew
      have ST1 := Lib.hid ((ST.out.up hd).up b1)
      have bt := hd.trans (b1.mono hd.size)
      have GG := Lib.hid (True.intro)
      replace e0 := cell_up e0 bt
      replace e1 := cell_up e1 bt
      replace x3 := cell_up x3 bt
      replace u0 := cell_up u0 bt
      replace u1 := cell_up u1 bt
      replace u2 := cell_up u2 bt
      replace u3 := cell_up u3 bt
      refine hK _ _ ⟨⟨e0,e1⟩,x3,u0,u1,u2,u3⟩ ?_
      clear hK K' b1 hd bt
      try simp only [Act.put, List.getElem_toArray, List.getElem_cons_zero, List.getElem_cons_succ, List.setIfInBounds_toArray, List.set_cons_zero, List.set_cons_succ]
      refine till_one (i := 6) (by kernel_rfl) rfl (fun K' hK => ?_)
      go_simp
      have bn := (Below.refl w1.heap.size w1).alloc (Nat.le_refl _) (.cells #[.int .i64 0, .int .i64 0, .bool false] 150)
      have ST2 := Lib.hid (ST1.out.up bn)
      have BZ := Lib.hid (Mem.Blk.new w1 150 #[.int .i64 0, .int .i64 0, .bool false])
      have HZ := Lib.hid ST1.out.lt
      have HP := Lib.hid (True.intro)
      refine hK _ _ ⟨⟨cell_up e0 bn, cell_up e1 bn⟩, cell_up x3 bn, cell_up u0 bn, cell_up u1 bn, cell_up u2 bn, cell_up u3 bn⟩ ?_
      clear hK K' bn ST1 e0 e1 x3 u0 u1 u2 u3 GG
      generalize w1.alloc (.cells #[.int .i64 0, .int .i64 0, .bool false] 150) = w2 at *
      generalize w1.heap.size = z at *
      try simp only [Act.put, List.getElem_toArray, List.getElem_cons_zero, List.getElem_cons_succ, List.setIfInBounds_toArray, List.set_cons_zero, List.set_cons_succ]
      obtain ⟨t0, t1, t2, t3, t4, t5⟩ := blk3 BZ.out
      have hm := BZ.out.lt
      refine till_last (by kernel_rfl) rfl (by kernel_rfl) (fun K' hK => ?_)
      go_simp
      have HS9 := Lib.hid (ST2.out.far3 HZ.out (.int .i64 A.K) (.int .i64 A.N) (.bool A.B))
      have HV9 := Lib.hid (EvV.mk (v := A) HZ.out (((BZ.out.set_ 0 (.int .i64 A.K)).set_ 1 (.int .i64 A.N)).set_ 2 (.bool A.B)))
      refine hK _ _ ?_
      clear hK K'
      try simp only [Act.put, List.getElem_toArray, List.getElem_cons_zero, List.getElem_cons_succ, List.setIfInBounds_toArray, List.set_cons_zero, List.set_cons_succ]
      refine wpAny_done (by kernel_rfl) ?_ _
      go_wp2_with fail
      go_meet
      case rel => exact ⟨z, rfl, HS9.out, HV9.out⟩
    · go_simp
      have bn := below_new v (.cells #[.int .i64 0, .int .i64 0, .bool false] 150)
      have ST1 := Lib.hid (ST.out.up bn)
      have BZ1 := Lib.hid (Mem.Blk.new v 150 #[.int .i64 0, .int .i64 0, .bool false]).drew
      have HZ := Lib.hid ST.out.lt
      have HQ := Lib.hid (True.intro)
      replace e0 := cell_up e0 bn
      replace e1 := cell_up e1 bn
      replace x3 := cell_up x3 bn
      replace u0 := cell_up u0 bn
      replace u1 := cell_up u1 bn
      replace u2 := cell_up u2 bn
      replace u3 := cell_up u3 bn
      refine hK _ _ ⟨⟨e0,e1⟩,x3,u0,u1,u2,u3⟩ ?_
      clear hK K' bn
      generalize (v.alloc (.cells #[.int .i64 0, .int .i64 0, .bool false] 150)).drew = w1 at *
      generalize v.heap.size = z at *
      try simp only [Act.put, List.getElem_toArray, List.getElem_cons_zero, List.getElem_cons_succ, List.setIfInBounds_toArray, List.set_cons_zero, List.set_cons_succ]
      refine till_one (i := 5) (by kernel_rfl) rfl (fun K' hK => ?_)
      go_simp
      go_at_call 96
      (with_reducible refine (EvC.run HCA.out _ ST1.out.below).mono ?_)
      rintro y w2 ⟨hy, b1⟩
      unfold RetV at hy
      subst hy
      have ST2 := Lib.hid (ST1.out.up b1)
      have BZ := Lib.hid (BZ1.out.below b1)
      have HP := Lib.hid (True.intro)
      refine hK _ _ ⟨⟨cell_up e0 b1, cell_up e1 b1⟩, cell_up x3 b1, cell_up u0 b1, cell_up u1 b1, cell_up u2 b1, cell_up u3 b1⟩ ?_
      clear hK K' b1 ST1 BZ1 e0 e1 x3 u0 u1 u2 u3 HQ
      try simp only [Act.put, List.getElem_toArray, List.getElem_cons_zero, List.getElem_cons_succ, List.setIfInBounds_toArray, List.set_cons_zero, List.set_cons_succ]
      obtain ⟨t0, t1, t2, t3, t4, t5⟩ := blk3 BZ.out
      have hm := BZ.out.lt
      refine till_last (by kernel_rfl) rfl (by kernel_rfl) (fun K' hK => ?_)
      go_simp
      have HS9 := Lib.hid (ST2.out.far3 HZ.out (.int .i64 A.K) (.int .i64 A.N) (.bool A.B))
      have HV9 := Lib.hid (EvV.mk (v := A) HZ.out (((BZ.out.set_ 0 (.int .i64 A.K)).set_ 1 (.int .i64 A.N)).set_ 2 (.bool A.B)))
      refine hK _ _ ?_
      clear hK K'
      try simp only [Act.put, List.getElem_toArray, List.getElem_cons_zero, List.getElem_cons_succ, List.setIfInBounds_toArray, List.set_cons_zero, List.set_cons_succ]
      refine wpAny_done (by kernel_rfl) ?_ _
      go_wp2_with fail
      go_meet
      case rel => exact ⟨z, rfl, HS9.out, HV9.out⟩
  obtain ⟨g, rfl, ST0, VA⟩ := hcut
  obtain ⟨W0, rfl⟩ : ∃ W : World, W = wc := ⟨_, rfl⟩
  clear ST
  rcases HTA.out with rfl | rfl | ⟨t, rfl⟩
  · obtain rfl : R = .unk := HR.out
    have t0 : W0.cell? ⟨g, 0, none⟩ = some (.int .i64 0) := VA.out.blk.cell 0
    have t1 : W0.cell? ⟨g, 1, none⟩ = some (.int .i64 0) := VA.out.blk.cell 1
    have t2 : W0.cell? ⟨g, 2, none⟩ = some (.bool false) := VA.out.blk.cell 2
    obtain ⟨e0, e1, -, -⟩ := ST0.out.env.two
    obtain ⟨x0, x1, x2, x3, -, -, -, -⟩ := blk4 ST0.out.ex
    have HFN := Lib.hid (ret3 (.int .i64 0) (.int .i64 0) (.bool false) ST0.out.below (by omega : w.heap.size ≤ w.heap.size + 1 + 1) ST0.out.res)
    obtain ⟨q0, q1, q2, q3, q4, q5⟩ := blk3 ST0.out.res
    have hm := ST0.out.lt
    go_wp2_with fail
    generalize ((W0.setCell ⟨w.heap.size + 1 + 1, 0, none⟩ (.int .i64 0)).setCell ⟨w.heap.size + 1 + 1, 1, none⟩ (.int .i64 0)).setCell ⟨w.heap.size + 1 + 1, 2, none⟩ (.bool false) = W9 at *
    obtain ⟨r0, r1, r2, -, -, -⟩ := blk3 HFN.out.2
    refine bodyPost_ret (v := .agg #[.int .i64 0, .int .i64 0, .bool false]) (by simp [results, Tryz.results96, go_sem, r0, r1, r2]) rfl ⟨rfl, HFN.out.1⟩
  · obtain rfl : R = .brk := HR.out
    have t0 : W0.cell? ⟨g, 0, none⟩ = some (.int .i64 3) := VA.out.blk.cell 0
    have t1 : W0.cell? ⟨g, 1, none⟩ = some (.int .i64 0) := VA.out.blk.cell 1
    have t2 : W0.cell? ⟨g, 2, none⟩ = some (.bool false) := VA.out.blk.cell 2
    obtain ⟨e0, e1, -, -⟩ := ST0.out.env.two
    obtain ⟨x0, x1, x2, x3, -, -, -, -⟩ := blk4 ST0.out.ex
    have HFN := Lib.hid (ret3 (.int .i64 3) (.int .i64 0) (.bool false) ST0.out.below (by omega : w.heap.size ≤ w.heap.size + 1 + 1) ST0.out.res)
    obtain ⟨q0, q1, q2, q3, q4, q5⟩ := blk3 ST0.out.res
    have hm := ST0.out.lt
    go_wp2_with fail
    generalize ((W0.setCell ⟨w.heap.size + 1 + 1, 0, none⟩ (.int .i64 3)).setCell ⟨w.heap.size + 1 + 1, 1, none⟩ (.int .i64 0)).setCell ⟨w.heap.size + 1 + 1, 2, none⟩ (.bool false) = W9 at *
    obtain ⟨r0, r1, r2, -, -, -⟩ := blk3 HFN.out.2
    refine bodyPost_ret (v := .agg #[.int .i64 3, .int .i64 0, .bool false]) (by simp [results, Tryz.results96, go_sem, r0, r1, r2]) rfl ⟨rfl, HFN.out.1⟩
  · cases t with
    | true =>
      obtain rfl : R = B := HR.out
      have t0 : W0.cell? ⟨g, 0, none⟩ = some (.int .i64 2) := VA.out.blk.cell 0
      have t1 : W0.cell? ⟨g, 1, none⟩ = some (.int .i64 0) := VA.out.blk.cell 1
      have t2 : W0.cell? ⟨g, 2, none⟩ = some (.bool true) := VA.out.blk.cell 2
      obtain ⟨e0, e1, -, -⟩ := ST0.out.env.two
      obtain ⟨x0, x1, x2, x3, -, -, -, -⟩ := blk4 ST0.out.ex
      go_wp2_with fail
      clear e0 e1 x0 x1 x2 x3 t0 t1 t2
      obtain ⟨e0, e1, -, -⟩ := ST0.out.env.two
      have x3 : W0.cell? ⟨w.heap.size + 1, 3, none⟩ = _ := ST0.out.ex.cell 3
      simp only [List.getElem?_toArray, List.getElem?_cons_zero, List.getElem?_cons_succ] at x3
      obtain ⟨u0, u1, u2, u3⟩ := H1.out
      replace u0 := cell_up u0 ST0.out.below
      replace u1 := cell_up u1 ST0.out.below
      replace u2 := cell_up u2 ST0.out.below
      replace u3 := cell_up u3 ST0.out.below
      refine wp_region_till (S := fun W => (W.cell? ⟨w.heap.size, 0, none⟩ = some (.int .i64 day) ∧ W.cell? ⟨w.heap.size, 1, none⟩ = some (.slice a len cap)) ∧ W.cell? ⟨w.heap.size + 1, 3, none⟩ = some (.slice (some ⟨b, o, none⟩) 3 cap') ∧ W.cell? ⟨b, o + 4, none⟩ = some (.int .i64 o1) ∧ W.cell? ⟨b, o + 4 + 1, none⟩ = some (.int .i64 n1) ∧ W.cell? ⟨b, o + 4 + 2, none⟩ = some (.string m1) ∧ W.cell? ⟨b, o + 4 + 3, none⟩ = some (.slice a1 l1 p1)) 6 (by kernel_rfl) ?_
      refine till_take (i := 0) (v := ?_) rfl (by kernel_rfl) (fun _ _ _ h => h) (Or.inl ⟨by rfl, ?_⟩) ⟨⟨e0,e1⟩,x3,u0,u1,u2,u3⟩ ?_
      rotate_left
      · intro W hS
        try dsimp only at hS
        go_split_ands
        go_simp
        try with_reducible rfl
      try simp only [Act.put, List.getElem_toArray, List.getElem_cons_zero, List.getElem_cons_succ, List.setIfInBounds_toArray, List.set_cons_zero, List.set_cons_succ]
      refine till_take (i := 1) (v := ?_) rfl (by kernel_rfl) (fun _ _ _ h => h) (Or.inl ⟨by rfl, ?_⟩) ⟨⟨e0,e1⟩,x3,u0,u1,u2,u3⟩ ?_
      rotate_left
      · intro W hS
        try dsimp only at hS
        go_split_ands
        go_simp
        try with_reducible rfl
      try simp only [Act.put, List.getElem_toArray, List.getElem_cons_zero, List.getElem_cons_succ, List.setIfInBounds_toArray, List.set_cons_zero, List.set_cons_succ]
      refine till_take (i := 2) (v := ?_) rfl (by kernel_rfl) (fun _ _ _ h => h) (Or.inl ⟨by rfl, ?_⟩) ⟨⟨e0,e1⟩,x3,u0,u1,u2,u3⟩ ?_
      rotate_left
      · intro W hS
        try dsimp only at hS
        go_split_ands
        go_simp
        try with_reducible rfl
      try simp only [Act.put, List.getElem_toArray, List.getElem_cons_zero, List.getElem_cons_succ, List.setIfInBounds_toArray, List.set_cons_zero, List.set_cons_succ]
      refine till_take (i := 3) (v := ?_) rfl (by kernel_rfl) (fun _ _ _ h => h) (Or.inl ⟨by rfl, ?_⟩) ⟨⟨e0,e1⟩,x3,u0,u1,u2,u3⟩ ?_
      rotate_left
      · intro W hS
        try dsimp only at hS
        go_split_ands
        go_simp
        try with_reducible rfl
      try simp only [Act.put, List.getElem_toArray, List.getElem_cons_zero, List.getElem_cons_succ, List.setIfInBounds_toArray, List.set_cons_zero, List.set_cons_succ]
      refine till_take (i := 4) (v := ?_) rfl (by kernel_rfl) (fun _ _ _ h => h) (Or.inl ⟨by rfl, ?_⟩) ⟨⟨e0,e1⟩,x3,u0,u1,u2,u3⟩ ?_
      rotate_left
      · intro W hS
        try dsimp only at hS
        go_split_ands
        go_simp
        try with_reducible rfl
      try simp only [Act.put, List.getElem_toArray, List.getElem_cons_zero, List.getElem_cons_succ, List.setIfInBounds_toArray, List.set_cons_zero, List.set_cons_succ]
      refine till_one (i := 5) (by kernel_rfl) rfl (fun K' hK => ?_)
      go_simp
      go_at_call 96
      (with_reducible refine (EvC.run HCB.out _ ST0.out.below.drew).mono ?_)
      rintro y w2 ⟨hy, b1⟩
      have hd := (Below.refl W0.heap.size W0).drew
      have b2 := hd.trans (b1.mono hd.size)
      replace e0 := cell_up e0 b2
      replace e1 := cell_up e1 b2
      replace x3 := cell_up x3 b2
      replace u0 := cell_up u0 b2
      replace u1 := cell_up u1 b2
      replace u2 := cell_up u2 b2
      replace u3 := cell_up u3 b2
      unfold RetV at hy
      subst hy
      have HP : Hid (RetV R (.returned (.agg #[.int .i64 R.K, .int .i64 R.N, .bool R.B]))) := rfl
      have ST2 := Lib.hid (ST0.out.up b2)
      clear b1 b2 hd HCA HCB HCC HR
      refine hK _ _ ⟨⟨e0,e1⟩,x3,u0,u1,u2,u3⟩ ?_
      clear hK K' e0 e1 x3 u0 u1 u2 u3
      generalize R.K = rk at *
      generalize R.N = rn at *
      generalize R.B = rb at *
      try simp only [Act.put, List.getElem_toArray, List.getElem_cons_zero, List.getElem_cons_succ, List.setIfInBounds_toArray, List.set_cons_zero, List.set_cons_succ]
      have HFN := Lib.hid (ret3 (.int .i64 rk) (.int .i64 rn) (.bool rb) ST2.out.below (by omega : w.heap.size ≤ w.heap.size + 1 + 1) ST2.out.res)
      obtain ⟨q0, q1, q2, q3, q4, q5⟩ := blk3 ST2.out.res
      have hm := ST2.out.lt
      refine till_last (by kernel_rfl) rfl (by kernel_rfl) (fun K' hK => ?_)
      go_simp
      refine hK _ _ ?_
      clear hK K'
      try simp only [Act.put, List.getElem_toArray, List.getElem_cons_zero, List.getElem_cons_succ, List.setIfInBounds_toArray, List.set_cons_zero, List.set_cons_succ]
      refine wpAny_done (by kernel_rfl) ?_ _
      go_wp2_with fail
      generalize ((w2.setCell ⟨w.heap.size + 1 + 1, 0, none⟩ (.int .i64 rk)).setCell ⟨w.heap.size + 1 + 1, 1, none⟩ (.int .i64 rn)).setCell ⟨w.heap.size + 1 + 1, 2, none⟩ (.bool rb) = W9 at *
      obtain ⟨r0, r1, r2, -, -, -⟩ := blk3 HFN.out.2
      refine bodyPost_ret (v := .agg #[.int .i64 rk, .int .i64 rn, .bool rb]) (by simp [results, Tryz.results96, go_sem, r0, r1, r2]) rfl ⟨HP.out, HFN.out.1⟩
    | false =>
      obtain rfl : R = C := HR.out
      have t0 : W0.cell? ⟨g, 0, none⟩ = some (.int .i64 2) := VA.out.blk.cell 0
      have t1 : W0.cell? ⟨g, 1, none⟩ = some (.int .i64 0) := VA.out.blk.cell 1
      have t2 : W0.cell? ⟨g, 2, none⟩ = some (.bool false) := VA.out.blk.cell 2
      obtain ⟨e0, e1, -, -⟩ := ST0.out.env.two
      obtain ⟨x0, x1, x2, x3, -, -, -, -⟩ := blk4 ST0.out.ex
      go_wp2_with fail
      clear e0 e1 x0 x1 x2 x3 t0 t1 t2
      obtain ⟨e0, e1, -, -⟩ := ST0.out.env.two
      have x3 : W0.cell? ⟨w.heap.size + 1, 3, none⟩ = _ := ST0.out.ex.cell 3
      simp only [List.getElem?_toArray, List.getElem?_cons_zero, List.getElem?_cons_succ] at x3
      obtain ⟨u0, u1, u2, u3⟩ := H2.out
      replace u0 := cell_up u0 ST0.out.below
      replace u1 := cell_up u1 ST0.out.below
      replace u2 := cell_up u2 ST0.out.below
      replace u3 := cell_up u3 ST0.out.below
      refine wp_region_till (S := fun W => (W.cell? ⟨w.heap.size, 0, none⟩ = some (.int .i64 day) ∧ W.cell? ⟨w.heap.size, 1, none⟩ = some (.slice a len cap)) ∧ W.cell? ⟨w.heap.size + 1, 3, none⟩ = some (.slice (some ⟨b, o, none⟩) 3 cap') ∧ W.cell? ⟨b, o + 8, none⟩ = some (.int .i64 o2) ∧ W.cell? ⟨b, o + 8 + 1, none⟩ = some (.int .i64 n2) ∧ W.cell? ⟨b, o + 8 + 2, none⟩ = some (.string m2) ∧ W.cell? ⟨b, o + 8 + 3, none⟩ = some (.slice a2 l2 p2)) 6 (by kernel_rfl) ?_
      refine till_take (i := 0) (v := ?_) rfl (by kernel_rfl) (fun _ _ _ h => h) (Or.inl ⟨by rfl, ?_⟩) ⟨⟨e0,e1⟩,x3,u0,u1,u2,u3⟩ ?_
      rotate_left
      · intro W hS
        try dsimp only at hS
        go_split_ands
        go_simp
        try with_reducible rfl
      try simp only [Act.put, List.getElem_toArray, List.getElem_cons_zero, List.getElem_cons_succ, List.setIfInBounds_toArray, List.set_cons_zero, List.set_cons_succ]
      refine till_take (i := 1) (v := ?_) rfl (by kernel_rfl) (fun _ _ _ h => h) (Or.inl ⟨by rfl, ?_⟩) ⟨⟨e0,e1⟩,x3,u0,u1,u2,u3⟩ ?_
      rotate_left
      · intro W hS
        try dsimp only at hS
        go_split_ands
        go_simp
        try with_reducible rfl
      try simp only [Act.put, List.getElem_toArray, List.getElem_cons_zero, List.getElem_cons_succ, List.setIfInBounds_toArray, List.set_cons_zero, List.set_cons_succ]
      refine till_take (i := 2) (v := ?_) rfl (by kernel_rfl) (fun _ _ _ h => h) (Or.inl ⟨by rfl, ?_⟩) ⟨⟨e0,e1⟩,x3,u0,u1,u2,u3⟩ ?_
      rotate_left
      · intro W hS
        try dsimp only at hS
        go_split_ands
        go_simp
        try with_reducible rfl
      try simp only [Act.put, List.getElem_toArray, List.getElem_cons_zero, List.getElem_cons_succ, List.setIfInBounds_toArray, List.set_cons_zero, List.set_cons_succ]
      refine till_take (i := 3) (v := ?_) rfl (by kernel_rfl) (fun _ _ _ h => h) (Or.inl ⟨by rfl, ?_⟩) ⟨⟨e0,e1⟩,x3,u0,u1,u2,u3⟩ ?_
      rotate_left
      · intro W hS
        try dsimp only at hS
        go_split_ands
        go_simp
        try with_reducible rfl
      try simp only [Act.put, List.getElem_toArray, List.getElem_cons_zero, List.getElem_cons_succ, List.setIfInBounds_toArray, List.set_cons_zero, List.set_cons_succ]
      refine till_take (i := 4) (v := ?_) rfl (by kernel_rfl) (fun _ _ _ h => h) (Or.inl ⟨by rfl, ?_⟩) ⟨⟨e0,e1⟩,x3,u0,u1,u2,u3⟩ ?_
      rotate_left
      · intro W hS
        try dsimp only at hS
        go_split_ands
        go_simp
        try with_reducible rfl
      try simp only [Act.put, List.getElem_toArray, List.getElem_cons_zero, List.getElem_cons_succ, List.setIfInBounds_toArray, List.set_cons_zero, List.set_cons_succ]
      refine till_one (i := 5) (by kernel_rfl) rfl (fun K' hK => ?_)
      go_simp
      go_at_call 96
      (with_reducible refine (EvC.run HCC.out _ ST0.out.below.drew).mono ?_)
      rintro y w2 ⟨hy, b1⟩
      have hd := (Below.refl W0.heap.size W0).drew
      have b2 := hd.trans (b1.mono hd.size)
      replace e0 := cell_up e0 b2
      replace e1 := cell_up e1 b2
      replace x3 := cell_up x3 b2
      replace u0 := cell_up u0 b2
      replace u1 := cell_up u1 b2
      replace u2 := cell_up u2 b2
      replace u3 := cell_up u3 b2
      unfold RetV at hy
      subst hy
      have HP : Hid (RetV R (.returned (.agg #[.int .i64 R.K, .int .i64 R.N, .bool R.B]))) := rfl
      have ST2 := Lib.hid (ST0.out.up b2)
      clear b1 b2 hd HCA HCB HCC HR
      refine hK _ _ ⟨⟨e0,e1⟩,x3,u0,u1,u2,u3⟩ ?_
      clear hK K' e0 e1 x3 u0 u1 u2 u3
      generalize R.K = rk at *
      generalize R.N = rn at *
      generalize R.B = rb at *
      try simp only [Act.put, List.getElem_toArray, List.getElem_cons_zero, List.getElem_cons_succ, List.setIfInBounds_toArray, List.set_cons_zero, List.set_cons_succ]
      have HFN := Lib.hid (ret3 (.int .i64 rk) (.int .i64 rn) (.bool rb) ST2.out.below (by omega : w.heap.size ≤ w.heap.size + 1 + 1) ST2.out.res)
      obtain ⟨q0, q1, q2, q3, q4, q5⟩ := blk3 ST2.out.res
      have hm := ST2.out.lt
      refine till_last (by kernel_rfl) rfl (by kernel_rfl) (fun K' hK => ?_)
      go_simp
      refine hK _ _ ?_
      clear hK K'
      try simp only [Act.put, List.getElem_toArray, List.getElem_cons_zero, List.getElem_cons_succ, List.setIfInBounds_toArray, List.set_cons_zero, List.set_cons_succ]
      refine wpAny_done (by kernel_rfl) ?_ _
      go_wp2_with fail
      generalize ((w2.setCell ⟨w.heap.size + 1 + 1, 0, none⟩ (.int .i64 rk)).setCell ⟨w.heap.size + 1 + 1, 1, none⟩ (.int .i64 rn)).setCell ⟨w.heap.size + 1 + 1, 2, none⟩ (.bool rb) = W9 at *
      obtain ⟨r0, r1, r2, -, -, -⟩ := blk3 HFN.out.2
      refine bodyPost_ret (v := .agg #[.int .i64 rk, .int .i64 rn, .bool rb]) (by simp [results, Tryz.results96, go_sem, r0, r1, r2]) rfl ⟨HP.out, HFN.out.1⟩
end Go.Proofs.YtmiinmndbkdjbaaGreat
