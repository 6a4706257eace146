/- A part of the proof: RvI, RvA, one behind another. -/
import Derived.Test.YtppnmeobnilojaaMGA
import Derived.Test.YtppnmeobnilojaaMGB
import Derived.Test.YtppnmeobnilojaaMGC
import Derived.Test.YtppnmeobnilojaaMGD
import Derived.Test.YtppnmeobnilojaaMGE
import Derived.Test.YtppnmeobnilojaaMGF
import Derived.Test.YtppnmeobnilojaaMGG
import Derived.Test.YtppnmeobnilojaaMGH
import Derived.Test.YtppnmeobnilojaaMGI
import Derived.Test.YtppnmeobnilojaaMGJ
import Derived.Test.YtppnmeobnilojaaMGK
import Derived.Test.YtppnmeobnilojaaMGL
import Derived.Test.YtppnmeobnilojaaMGM
import Derived.Test.YtppnmeobnilojaaMGN
/- The document's evaluation: what is chosen. -/
namespace Go.Proofs.Ytppnmeobnilojaa
set_option linter.unusedVariables false
set_option linter.unusedSimpArgs false
open Go.RowKit
set_option maxRecDepth 100000 in
set_option maxHeartbeats 4000000 in
theorem rv_if (w : World) (day : Int) (a : Option Addr) (len cap : Nat) (n : Int) (nm : ByteArray) (b o cap' : Nat) (o0 n0 o1 n1 o2 n2 : Int) (m0 m1 m2 : ByteArray) (a0 a1 a2 : Option Addr) (l0 p0 l1 p1 l2 p2 : Nat) (A B C : Vl) (hA : Ty 2 A)
    (h0 : Four w b o (.int .i64 o0) (.int .i64 n0) (.string m0) (.slice a0 l0 p0)) (h1 : Four w b (o + 4) (.int .i64 o1) (.int .i64 n1) (.string m1) (.slice a1 l1 p1)) (h2 : Four w b (o + 8) (.int .i64 o2) (.int .i64 n2) (.string m2) (.slice a2 l2 p2))
    (HA : RvC w day a len cap (.int .i64 o0) (.int .i64 n0) (.string m0) (.slice a0 l0 p0) A) (HB : RvC w day a len cap (.int .i64 o1) (.int .i64 n1) (.string m1) (.slice a1 l1 p1) B) (HC : RvC w day a len cap (.int .i64 o2) (.int .i64 n2) (.string m2) (.slice a2 l2 p2) C) :
    Calls Try.prog 39 #[.agg #[.int .i64 21, .int .i64 n, .string nm, .slice (some ⟨b, o, none⟩) 3 cap'], .agg #[.int .i64 day, .slice a len cap]] w fun x w' => RetW (opV 21 [A, B, C]) x ∧ Below w.heap.size w w' := by
  have H0 := Lib.hid h0
  have H1 := Lib.hid h1
  have H2 := Lib.hid h2
  have HCA := Lib.hid HA
  have HCB := Lib.hid HB
  have HCC := Lib.hid HC
  have HTA := Lib.hid hA.of2
  have ST := Lib.hid (RvSt.start w day a len cap 21 n nm (some ⟨b, o, none⟩) 3 cap')
  obtain ⟨R, hR⟩ : ∃ R, R = opV 21 [A, B, C] := ⟨_, rfl⟩
  rw [← hR]
  have HR := Lib.hid hR
  clear hR h0 h1 h2 HA HB HC hA
  go_enter Try.func39, Try.ntmps39
  go_upto_region 1 with (fail)
  generalize ((w.alloc (.cells #[.int .i64 21, .int .i64 n, .string nm, .slice (some ⟨b, o, none⟩) 3 cap'] 46)).alloc (.cells #[.int .i64 day, .slice a len cap] 58)).alloc (.cells #[.string ⟨#[]⟩, .int .i64 0] 69) = v at *
  have e0 : v.cell? ⟨w.heap.size + 1, 0, none⟩ = some (.int .i64 day) := ST.out.env.cell 0
  have e1 : v.cell? ⟨w.heap.size + 1, 1, none⟩ = some (.slice a len cap) := ST.out.env.cell 1
  obtain ⟨x0, x1, x2, x3, -, -, -, -⟩ := blk4 ST.out.ex
  go_upto_region 11 with (fail)
  clear e0 e1 x0 x1 x2 x3
  go_cut [8] (fun p W0 => ∃ g, p = .pointer (some ⟨g, 0, none⟩) ∧ Hid (RvSt w W0 day a len cap 21 n nm (some ⟨b, o, none⟩) 3 cap') ∧ Hid (RvV w W0 g A))
  case first =>
    have e0 : v.cell? ⟨w.heap.size + 1, 0, none⟩ = some (.int .i64 day) := ST.out.env.cell 0
    have e1 : v.cell? ⟨w.heap.size + 1, 1, none⟩ = some (.slice a len cap) := ST.out.env.cell 1
    have x3 : v.cell? ⟨w.heap.size, 3, none⟩ = some (.slice (some ⟨b, o, none⟩) 3 cap') := ST.out.ex.cell 3
    obtain ⟨u0, u1, u2, u3⟩ := H0.out
    replace u0 := cell_up u0 ST.out.below
    replace u1 := cell_up u1 ST.out.below
    replace u2 := cell_up u2 ST.out.below
    replace u3 := cell_up u3 ST.out.below
    refine wp_region_till (S := fun W => (W.cell? ⟨w.heap.size + 1, 0, none⟩ = some (.int .i64 day) ∧ W.cell? ⟨w.heap.size + 1, 1, none⟩ = some (.slice a len cap)) ∧ W.cell? ⟨w.heap.size, 3, none⟩ = some (.slice (some ⟨b, o, none⟩) 3 cap') ∧ W.cell? ⟨b, o, none⟩ = some (.int .i64 o0) ∧ W.cell? ⟨b, o + 1, none⟩ = some (.int .i64 n0) ∧ W.cell? ⟨b, o + 2, none⟩ = some (.string m0) ∧ W.cell? ⟨b, o + 3, none⟩ = some (.slice a0 l0 p0)) 7 (by kernel_rfl) ?_
    refine till_take (i := 0) (v := ?_) rfl (by kernel_rfl) (fun _ _ _ h => h) (Or.inl ⟨by rfl, ?_⟩) ⟨⟨e0,e1⟩,x3,u0,u1,u2,u3⟩ ?_
    rotate_left
    · intro W hS
      try dsimp only at hS
      go_split_ands
      go_simp
      try with_reducible rfl
    try simp only [Act.put, List.getElem_toArray, List.getElem_cons_zero, List.getElem_cons_succ, List.setIfInBounds_toArray, List.set_cons_zero, List.set_cons_succ]
    refine till_take (i := 1) (v := ?_) rfl (by kernel_rfl) (fun _ _ _ h => h) (Or.inl ⟨by rfl, ?_⟩) ⟨⟨e0,e1⟩,x3,u0,u1,u2,u3⟩ ?_
    rotate_left
    · intro W hS
      try dsimp only at hS
      go_split_ands
      go_simp
      try with_reducible rfl
    try simp only [Act.put, List.getElem_toArray, List.getElem_cons_zero, List.getElem_cons_succ, List.setIfInBounds_toArray, List.set_cons_zero, List.set_cons_succ]
    refine till_take (i := 2) (v := ?_) rfl (by kernel_rfl) (fun _ _ _ h => h) (Or.inl ⟨by rfl, ?_⟩) ⟨⟨e0,e1⟩,x3,u0,u1,u2,u3⟩ ?_
    rotate_left
    · intro W hS
      try dsimp only at hS
      go_split_ands
      go_simp
      try with_reducible rfl
    try simp only [Act.put, List.getElem_toArray, List.getElem_cons_zero, List.getElem_cons_succ, List.setIfInBounds_toArray, List.set_cons_zero, List.set_cons_succ]
    refine till_take (i := 3) (v := ?_) rfl (by kernel_rfl) (fun _ _ _ h => h) (Or.inl ⟨by rfl, ?_⟩) ⟨⟨e0,e1⟩,x3,u0,u1,u2,u3⟩ ?_
    rotate_left
    · intro W hS
      try dsimp only at hS
      go_split_ands
      go_simp
      try with_reducible rfl
    try simp only [Act.put, List.getElem_toArray, List.getElem_cons_zero, List.getElem_cons_succ, List.setIfInBounds_toArray, List.set_cons_zero, List.set_cons_succ]
    refine till_take (i := 4) (v := ?_) rfl (by kernel_rfl) (fun _ _ _ h => h) (Or.inl ⟨by rfl, ?_⟩) ⟨⟨e0,e1⟩,x3,u0,u1,u2,u3⟩ ?_
    rotate_left
    · intro W hS
      try dsimp only at hS
      go_split_ands
      go_simp
      try with_reducible rfl
    try simp only [Act.put, List.getElem_toArray, List.getElem_cons_zero, List.getElem_cons_succ, List.setIfInBounds_toArray, List.set_cons_zero, List.set_cons_succ]
    refine till_two (i := 5) (j := 6) (by kernel_rfl) rfl rfl (fun K' hK => ?_) (fun K' hK => ?_)
    · go_simp
      go_at_call 39
      (with_reducible refine (RvC.run HCA.out _ ST.out.below.drew).mono ?_)
      rintro y w1 ⟨hy, b1⟩
      unfold RetW at hy
      subst hy
      have hd := (Below.refl v.heap.size v).drew
      have ST1 := Lib.hid ((ST.out.up hd).up b1)
      have bt := hd.trans (b1.mono hd.size)
      have GG := Lib.hid (True.intro)
      replace e0 := cell_up e0 bt
      replace e1 := cell_up e1 bt
      replace x3 := cell_up x3 bt
      replace u0 := cell_up u0 bt
      replace u1 := cell_up u1 bt
      replace u2 := cell_up u2 bt
      replace u3 := cell_up u3 bt
      refine hK _ _ ⟨⟨e0,e1⟩,x3,u0,u1,u2,u3⟩ ?_
      clear hK K' b1 hd bt
      try simp only [Act.put, List.getElem_toArray, List.getElem_cons_zero, List.getElem_cons_succ, List.setIfInBounds_toArray, List.set_cons_zero, List.set_cons_succ]
      refine till_one (i := 6) (by kernel_rfl) rfl (fun K' hK => ?_)
      go_simp
      have bn := (Below.refl w1.heap.size w1).alloc (Nat.le_refl _) (.cells #[.string ⟨#[]⟩, .int .i64 0] 69)
      have ST2 := Lib.hid (ST1.out.up bn)
      have BZ := Lib.hid (Mem.Blk.new w1 69 #[.string ⟨#[]⟩, .int .i64 0])
      have HZ := Lib.hid ST1.out.lt
      have HP := Lib.hid (True.intro)
      refine hK _ _ ⟨⟨cell_up e0 bn, cell_up e1 bn⟩, cell_up x3 bn, cell_up u0 bn, cell_up u1 bn, cell_up u2 bn, cell_up u3 bn⟩ ?_
      clear hK K' bn ST1 e0 e1 x3 u0 u1 u2 u3 GG
      generalize w1.alloc (.cells #[.string ⟨#[]⟩, .int .i64 0] 69) = w2 at *
      generalize w1.heap.size = z at *
      try simp only [Act.put, List.getElem_toArray, List.getElem_cons_zero, List.getElem_cons_succ, List.setIfInBounds_toArray, List.set_cons_zero, List.set_cons_succ]
      obtain ⟨t0, t1, t2, t3⟩ := BZ.out.two
      have hm := BZ.out.lt
      refine till_last (by kernel_rfl) rfl (by kernel_rfl) (fun K' hK => ?_)
      go_simp
      have HS9 := Lib.hid (ST2.out.far2 HZ.out (.string (wd A)) (.int .i64 A.N))
      have HV9 := Lib.hid (RvV.mk (v := A) HZ.out ((BZ.out.set_ 0 (.string (wd A))).set_ 1 (.int .i64 A.N)))
      refine hK _ _ ?_
      clear hK K'
      try simp only [Act.put, List.getElem_toArray, List.getElem_cons_zero, List.getElem_cons_succ, List.setIfInBounds_toArray, List.set_cons_zero, List.set_cons_succ]
      refine wpAny_done (by kernel_rfl) ?_ _
      go_wp2_with fail
      go_meet
      case rel => exact ⟨z, rfl, HS9.out, HV9.out⟩
    · go_simp
      have bn := below_new v (.cells #[.string ⟨#[]⟩, .int .i64 0] 69)
      have ST1 := Lib.hid (ST.out.up bn)
      have BZ1 := Lib.hid (Mem.Blk.new v 69 #[.string ⟨#[]⟩, .int .i64 0]).drew
      have HZ := Lib.hid ST.out.lt
      have HQ := Lib.hid (True.intro)
      replace e0 := cell_up e0 bn
      replace e1 := cell_up e1 bn
      replace x3 := cell_up x3 bn
      replace u0 := cell_up u0 bn
      replace u1 := cell_up u1 bn
      replace u2 := cell_up u2 bn
      replace u3 := cell_up u3 bn
      refine hK _ _ ⟨⟨e0,e1⟩,x3,u0,u1,u2,u3⟩ ?_
      clear hK K' bn
      generalize (v.alloc (.cells #[.string ⟨#[]⟩, .int .i64 0] 69)).drew = w1 at *
      generalize v.heap.size = z at *
      try simp only [Act.put, List.getElem_toArray, List.getElem_cons_zero, List.getElem_cons_succ, List.setIfInBounds_toArray, List.set_cons_zero, List.set_cons_succ]
      refine till_one (i := 5) (by kernel_rfl) rfl (fun K' hK => ?_)
      go_simp
      go_at_call 39
      (with_reducible refine (RvC.run HCA.out _ ST1.out.below).mono ?_)
      rintro y w2 ⟨hy, b1⟩
      unfold RetW at hy
      subst hy
      have ST2 := Lib.hid (ST1.out.up b1)
      have BZ := Lib.hid (BZ1.out.below b1)
      have HP := Lib.hid (True.intro)
      refine hK _ _ ⟨⟨cell_up e0 b1, cell_up e1 b1⟩, cell_up x3 b1, cell_up u0 b1, cell_up u1 b1, cell_up u2 b1, cell_up u3 b1⟩ ?_
      clear hK K' b1 ST1 BZ1 e0 e1 x3 u0 u1 u2 u3 HQ
      try simp only [Act.put, List.getElem_toArray, List.getElem_cons_zero, List.getElem_cons_succ, List.setIfInBounds_toArray, List.set_cons_zero, List.set_cons_succ]
      obtain ⟨t0, t1, t2, t3⟩ := BZ.out.two
      have hm := BZ.out.lt
      refine till_last (by kernel_rfl) rfl (by kernel_rfl) (fun K' hK => ?_)
      go_simp
      have HS9 := Lib.hid (ST2.out.far2 HZ.out (.string (wd A)) (.int .i64 A.N))
      have HV9 := Lib.hid (RvV.mk (v := A) HZ.out ((BZ.out.set_ 0 (.string (wd A))).set_ 1 (.int .i64 A.N)))
      refine hK _ _ ?_
      clear hK K'
      try simp only [Act.put, List.getElem_toArray, List.getElem_cons_zero, List.getElem_cons_succ, List.setIfInBounds_toArray, List.set_cons_zero, List.set_cons_succ]
      refine wpAny_done (by kernel_rfl) ?_ _
      go_wp2_with fail
      go_meet
      case rel => exact ⟨z, rfl, HS9.out, HV9.out⟩
  obtain ⟨g, rfl, ST0, VA⟩ := hcut
  obtain ⟨W0, rfl⟩ : ∃ W : World, W = wc := ⟨_, rfl⟩
  clear ST
  rcases HTA.out with rfl | rfl | ⟨t, rfl⟩
  · obtain rfl : R = .unk := HR.out
    have t0 : W0.cell? ⟨g, 0, none⟩ = some (.string ⟨#[63]⟩) := VA.out.blk.cell 0
    have t1 : W0.cell? ⟨g, 1, none⟩ = some (.int .i64 0) := VA.out.blk.cell 1
    have e0 : W0.cell? ⟨w.heap.size + 1, 0, none⟩ = some (.int .i64 day) := ST0.out.env.cell 0
    have e1 : W0.cell? ⟨w.heap.size + 1, 1, none⟩ = some (.slice a len cap) := ST0.out.env.cell 1
    obtain ⟨x0, x1, x2, x3, -, -, -, -⟩ := blk4 ST0.out.ex
    obtain ⟨q0, q1, q2, q3⟩ := ST0.out.res.two
    have hm := ST0.out.lt
    have HFN : Hid (Below w.heap.size w ((W0.setCell ⟨w.heap.size + 1 + 1, 0, none⟩ (.string ⟨#[63]⟩)).setCell ⟨w.heap.size + 1 + 1, 1, none⟩ (.int .i64 0)) ∧ Mem.Blk ((W0.setCell ⟨w.heap.size + 1 + 1, 0, none⟩ (.string ⟨#[63]⟩)).setCell ⟨w.heap.size + 1 + 1, 1, none⟩ (.int .i64 0)) (w.heap.size + 1 + 1) 69 #[.string ⟨#[63]⟩, .int .i64 0]) := ⟨(ST0.out.below.setCell (by show w.heap.size ≤ w.heap.size + 1 + 1; omega) _).setCell (by show w.heap.size ≤ w.heap.size + 1 + 1; omega) _, (ST0.out.res.set_ 0 _).set_ 1 _⟩
    go_wp2_with fail
    generalize (W0.setCell ⟨w.heap.size + 1 + 1, 0, none⟩ (.string ⟨#[63]⟩)).setCell ⟨w.heap.size + 1 + 1, 1, none⟩ (.int .i64 0) = W9 at *
    obtain ⟨r0, r1, -, -⟩ := HFN.out.2.two
    refine bodyPost_ret (v := .agg #[.string ⟨#[63]⟩, .int .i64 0]) (by simp [results, Try.results39, go_sem, r0, r1]) rfl ⟨rfl, HFN.out.1⟩
  · obtain rfl : R = .brk := HR.out
    have t0 : W0.cell? ⟨g, 0, none⟩ = some (.string ⟨#[33]⟩) := VA.out.blk.cell 0
    have t1 : W0.cell? ⟨g, 1, none⟩ = some (.int .i64 0) := VA.out.blk.cell 1
    have e0 : W0.cell? ⟨w.heap.size + 1, 0, none⟩ = some (.int .i64 day) := ST0.out.env.cell 0
    have e1 : W0.cell? ⟨w.heap.size + 1, 1, none⟩ = some (.slice a len cap) := ST0.out.env.cell 1
    obtain ⟨x0, x1, x2, x3, -, -, -, -⟩ := blk4 ST0.out.ex
    obtain ⟨q0, q1, q2, q3⟩ := ST0.out.res.two
    have hm := ST0.out.lt
    have HFN : Hid (Below w.heap.size w ((W0.setCell ⟨w.heap.size + 1 + 1, 0, none⟩ (.string ⟨#[33]⟩)).setCell ⟨w.heap.size + 1 + 1, 1, none⟩ (.int .i64 0)) ∧ Mem.Blk ((W0.setCell ⟨w.heap.size + 1 + 1, 0, none⟩ (.string ⟨#[33]⟩)).setCell ⟨w.heap.size + 1 + 1, 1, none⟩ (.int .i64 0)) (w.heap.size + 1 + 1) 69 #[.string ⟨#[33]⟩, .int .i64 0]) := ⟨(ST0.out.below.setCell (by show w.heap.size ≤ w.heap.size + 1 + 1; omega) _).setCell (by show w.heap.size ≤ w.heap.size + 1 + 1; omega) _, (ST0.out.res.set_ 0 _).set_ 1 _⟩
    go_wp2_with fail
    generalize (W0.setCell ⟨w.heap.size + 1 + 1, 0, none⟩ (.string ⟨#[33]⟩)).setCell ⟨w.heap.size + 1 + 1, 1, none⟩ (.int .i64 0) = W9 at *
    obtain ⟨r0, r1, -, -⟩ := HFN.out.2.two
    refine bodyPost_ret (v := .agg #[.string ⟨#[33]⟩, .int .i64 0]) (by simp [results, Try.results39, go_sem, r0, r1]) rfl ⟨rfl, HFN.out.1⟩
  · cases t with
    | true =>
      obtain rfl : R = B := HR.out
      have t0 : W0.cell? ⟨g, 0, none⟩ = some (.string ⟨#[116]⟩) := VA.out.blk.cell 0
      have t1 : W0.cell? ⟨g, 1, none⟩ = some (.int .i64 0) := VA.out.blk.cell 1
      have e0 : W0.cell? ⟨w.heap.size + 1, 0, none⟩ = some (.int .i64 day) := ST0.out.env.cell 0
      have e1 : W0.cell? ⟨w.heap.size + 1, 1, none⟩ = some (.slice a len cap) := ST0.out.env.cell 1
      obtain ⟨x0, x1, x2, x3, -, -, -, -⟩ := blk4 ST0.out.ex
      go_wp2_with fail
      clear e0 e1 x0 x1 x2 x3 t0 t1
      have e0 : W0.cell? ⟨w.heap.size + 1, 0, none⟩ = some (.int .i64 day) := ST0.out.env.cell 0
      have e1 : W0.cell? ⟨w.heap.size + 1, 1, none⟩ = some (.slice a len cap) := ST0.out.env.cell 1
      have x3 : W0.cell? ⟨w.heap.size, 3, none⟩ = some (.slice (some ⟨b, o, none⟩) 3 cap') := ST0.out.ex.cell 3
      obtain ⟨u0, u1, u2, u3⟩ := H1.out
      replace u0 := cell_up u0 ST0.out.below
      replace u1 := cell_up u1 ST0.out.below
      replace u2 := cell_up u2 ST0.out.below
      replace u3 := cell_up u3 ST0.out.below
      refine wp_region_till (S := fun W => (W.cell? ⟨w.heap.size + 1, 0, none⟩ = some (.int .i64 day) ∧ W.cell? ⟨w.heap.size + 1, 1, none⟩ = some (.slice a len cap)) ∧ W.cell? ⟨w.heap.size, 3, none⟩ = some (.slice (some ⟨b, o, none⟩) 3 cap') ∧ W.cell? ⟨b, o + 4, none⟩ = some (.int .i64 o1) ∧ W.cell? ⟨b, o + 4 + 1, none⟩ = some (.int .i64 n1) ∧ W.cell? ⟨b, o + 4 + 2, none⟩ = some (.string m1) ∧ W.cell? ⟨b, o + 4 + 3, none⟩ = some (.slice a1 l1 p1)) 6 (by kernel_rfl) ?_
      refine till_take (i := 0) (v := ?_) rfl (by kernel_rfl) (fun _ _ _ h => h) (Or.inl ⟨by rfl, ?_⟩) ⟨⟨e0,e1⟩,x3,u0,u1,u2,u3⟩ ?_
      rotate_left
      · intro W hS
        try dsimp only at hS
        go_split_ands
        go_simp
        try with_reducible rfl
      try simp only [Act.put, List.getElem_toArray, List.getElem_cons_zero, List.getElem_cons_succ, List.setIfInBounds_toArray, List.set_cons_zero, List.set_cons_succ]
      refine till_take (i := 1) (v := ?_) rfl (by kernel_rfl) (fun _ _ _ h => h) (Or.inl ⟨by rfl, ?_⟩) ⟨⟨e0,e1⟩,x3,u0,u1,u2,u3⟩ ?_
      rotate_left
      · intro W hS
        try dsimp only at hS
        go_split_ands
        go_simp
        try with_reducible rfl
      try simp only [Act.put, List.getElem_toArray, List.getElem_cons_zero, List.getElem_cons_succ, List.setIfInBounds_toArray, List.set_cons_zero, List.set_cons_succ]
      refine till_take (i := 2) (v := ?_) rfl (by kernel_rfl) (fun _ _ _ h => h) (Or.inl ⟨by rfl, ?_⟩) ⟨⟨e0,e1⟩,x3,u0,u1,u2,u3⟩ ?_
      rotate_left
      · intro W hS
        try dsimp only at hS
        go_split_ands
        go_simp
        try with_reducible rfl
      try simp only [Act.put, List.getElem_toArray, List.getElem_cons_zero, List.getElem_cons_succ, List.setIfInBounds_toArray, List.set_cons_zero, List.set_cons_succ]
      refine till_take (i := 3) (v := ?_) rfl (by kernel_rfl) (fun _ _ _ h => h) (Or.inl ⟨by rfl, ?_⟩) ⟨⟨e0,e1⟩,x3,u0,u1,u2,u3⟩ ?_
      rotate_left
      · intro W hS
        try dsimp only at hS
        go_split_ands
        go_simp
        try with_reducible rfl
      try simp only [Act.put, List.getElem_toArray, List.getElem_cons_zero, List.getElem_cons_succ, List.setIfInBounds_toArray, List.set_cons_zero, List.set_cons_succ]
      refine till_take (i := 4) (v := ?_) rfl (by kernel_rfl) (fun _ _ _ h => h) (Or.inl ⟨by rfl, ?_⟩) ⟨⟨e0,e1⟩,x3,u0,u1,u2,u3⟩ ?_
      rotate_left
      · intro W hS
        try dsimp only at hS
        go_split_ands
        go_simp
        try with_reducible rfl
      try simp only [Act.put, List.getElem_toArray, List.getElem_cons_zero, List.getElem_cons_succ, List.setIfInBounds_toArray, List.set_cons_zero, List.set_cons_succ]
      refine till_one (i := 5) (by kernel_rfl) rfl (fun K' hK => ?_)
      go_simp
      go_at_call 39
      (with_reducible refine (RvC.run HCB.out _ ST0.out.below.drew).mono ?_)
      rintro y w2 ⟨hy, b1⟩
      have hd := (Below.refl W0.heap.size W0).drew
      have b2 := hd.trans (b1.mono hd.size)
      replace e0 := cell_up e0 b2
      replace e1 := cell_up e1 b2
      replace x3 := cell_up x3 b2
      replace u0 := cell_up u0 b2
      replace u1 := cell_up u1 b2
      replace u2 := cell_up u2 b2
      replace u3 := cell_up u3 b2
      unfold RetW at hy
      subst hy
      have HP : Hid (RetW R (.returned (.agg #[.string (wd R), .int .i64 R.N]))) := rfl
      have ST2 := Lib.hid (ST0.out.up b2)
      clear b1 b2 hd HCA HCB HCC HR
      refine hK _ _ ⟨⟨e0,e1⟩,x3,u0,u1,u2,u3⟩ ?_
      clear hK K' e0 e1 x3 u0 u1 u2 u3
      generalize wd R = rk at *
      generalize R.N = rn at *
      try simp only [Act.put, List.getElem_toArray, List.getElem_cons_zero, List.getElem_cons_succ, List.setIfInBounds_toArray, List.set_cons_zero, List.set_cons_succ]
      have HFN : Hid (Below w.heap.size w ((w2.setCell ⟨w.heap.size + 1 + 1, 0, none⟩ (.string rk)).setCell ⟨w.heap.size + 1 + 1, 1, none⟩ (.int .i64 rn)) ∧ Mem.Blk ((w2.setCell ⟨w.heap.size + 1 + 1, 0, none⟩ (.string rk)).setCell ⟨w.heap.size + 1 + 1, 1, none⟩ (.int .i64 rn)) (w.heap.size + 1 + 1) 69 #[.string rk, .int .i64 rn]) := ⟨(ST2.out.below.setCell (by show w.heap.size ≤ w.heap.size + 1 + 1; omega) _).setCell (by show w.heap.size ≤ w.heap.size + 1 + 1; omega) _, (ST2.out.res.set_ 0 _).set_ 1 _⟩
      obtain ⟨q0, q1, q2, q3⟩ := ST2.out.res.two
      have hm := ST2.out.lt
      refine till_last (by kernel_rfl) rfl (by kernel_rfl) (fun K' hK => ?_)
      go_simp
      refine hK _ _ ?_
      clear hK K'
      try simp only [Act.put, List.getElem_toArray, List.getElem_cons_zero, List.getElem_cons_succ, List.setIfInBounds_toArray, List.set_cons_zero, List.set_cons_succ]
      refine wpAny_done (by kernel_rfl) ?_ _
      go_wp2_with fail
      generalize (w2.setCell ⟨w.heap.size + 1 + 1, 0, none⟩ (.string rk)).setCell ⟨w.heap.size + 1 + 1, 1, none⟩ (.int .i64 rn) = W9 at *
      obtain ⟨r0, r1, -, -⟩ := HFN.out.2.two
      refine bodyPost_ret (v := .agg #[.string rk, .int .i64 rn]) (by simp [results, Try.results39, go_sem, r0, r1]) rfl ⟨HP.out, HFN.out.1⟩
    | false =>
      obtain rfl : R = C := HR.out
      have t0 : W0.cell? ⟨g, 0, none⟩ = some (.string ⟨#[102]⟩) := VA.out.blk.cell 0
      have t1 : W0.cell? ⟨g, 1, none⟩ = some (.int .i64 0) := VA.out.blk.cell 1
      have e0 : W0.cell? ⟨w.heap.size + 1, 0, none⟩ = some (.int .i64 day) := ST0.out.env.cell 0
      have e1 : W0.cell? ⟨w.heap.size + 1, 1, none⟩ = some (.slice a len cap) := ST0.out.env.cell 1
      obtain ⟨x0, x1, x2, x3, -, -, -, -⟩ := blk4 ST0.out.ex
      go_wp2_with fail
      clear e0 e1 x0 x1 x2 x3 t0 t1
      have e0 : W0.cell? ⟨w.heap.size + 1, 0, none⟩ = some (.int .i64 day) := ST0.out.env.cell 0
      have e1 : W0.cell? ⟨w.heap.size + 1, 1, none⟩ = some (.slice a len cap) := ST0.out.env.cell 1
      have x3 : W0.cell? ⟨w.heap.size, 3, none⟩ = some (.slice (some ⟨b, o, none⟩) 3 cap') := ST0.out.ex.cell 3
      obtain ⟨u0, u1, u2, u3⟩ := H2.out
      replace u0 := cell_up u0 ST0.out.below
      replace u1 := cell_up u1 ST0.out.below
      replace u2 := cell_up u2 ST0.out.below
      replace u3 := cell_up u3 ST0.out.below
      refine wp_region_till (S := fun W => (W.cell? ⟨w.heap.size + 1, 0, none⟩ = some (.int .i64 day) ∧ W.cell? ⟨w.heap.size + 1, 1, none⟩ = some (.slice a len cap)) ∧ W.cell? ⟨w.heap.size, 3, none⟩ = some (.slice (some ⟨b, o, none⟩) 3 cap') ∧ W.cell? ⟨b, o + 8, none⟩ = some (.int .i64 o2) ∧ W.cell? ⟨b, o + 8 + 1, none⟩ = some (.int .i64 n2) ∧ W.cell? ⟨b, o + 8 + 2, none⟩ = some (.string m2) ∧ W.cell? ⟨b, o + 8 + 3, none⟩ = some (.slice a2 l2 p2)) 6 (by kernel_rfl) ?_
      refine till_take (i := 0) (v := ?_) rfl (by kernel_rfl) (fun _ _ _ h => h) (Or.inl ⟨by rfl, ?_⟩) ⟨⟨e0,e1⟩,x3,u0,u1,u2,u3⟩ ?_
      rotate_left
      · intro W hS
        try dsimp only at hS
        go_split_ands
        go_simp
        try with_reducible rfl
      try simp only [Act.put, List.getElem_toArray, List.getElem_cons_zero, List.getElem_cons_succ, List.setIfInBounds_toArray, List.set_cons_zero, List.set_cons_succ]
      refine till_take (i := 1) (v := ?_) rfl (by kernel_rfl) (fun _ _ _ h => h) (Or.inl ⟨by rfl, ?_⟩) ⟨⟨e0,e1⟩,x3,u0,u1,u2,u3⟩ ?_
      rotate_left
      · intro W hS
        try dsimp only at hS
        go_split_ands
        go_simp
        try with_reducible rfl
      try simp only [Act.put, List.getElem_toArray, List.getElem_cons_zero, List.getElem_cons_succ, List.setIfInBounds_toArray, List.set_cons_zero, List.set_cons_succ]
      refine till_take (i := 2) (v := ?_) rfl (by kernel_rfl) (fun _ _ _ h => h) (Or.inl ⟨by rfl, ?_⟩) ⟨⟨e0,e1⟩,x3,u0,u1,u2,u3⟩ ?_
      rotate_left
      · intro W hS
        try dsimp only at hS
        go_split_ands
        go_simp
        try with_reducible rfl
      try simp only [Act.put, List.getElem_toArray, List.getElem_cons_zero, List.getElem_cons_succ, List.setIfInBounds_toArray, List.set_cons_zero, List.set_cons_succ]
      refine till_take (i := 3) (v := ?_) rfl (by kernel_rfl) (fun _ _ _ h => h) (Or.inl ⟨by rfl, ?_⟩) ⟨⟨e0,e1⟩,x3,u0,u1,u2,u3⟩ ?_
      rotate_left
      · intro W hS
        try dsimp only at hS
        go_split_ands
        go_simp
        try with_reducible rfl
      try simp only [Act.put, List.getElem_toArray, List.getElem_cons_zero, List.getElem_cons_succ, List.setIfInBounds_toArray, List.set_cons_zero, List.set_cons_succ]
      refine till_take (i := 4) (v := ?_) rfl (by kernel_rfl) (fun _ _ _ h => h) (Or.inl ⟨by rfl, ?_⟩) ⟨⟨e0,e1⟩,x3,u0,u1,u2,u3⟩ ?_
      rotate_left
      · intro W hS
        try dsimp only at hS
        go_split_ands
        go_simp
        try with_reducible rfl
      try simp only [Act.put, List.getElem_toArray, List.getElem_cons_zero, List.getElem_cons_succ, List.setIfInBounds_toArray, List.set_cons_zero, List.set_cons_succ]
      refine till_one (i := 5) (by kernel_rfl) rfl (fun K' hK => ?_)
      go_simp
      go_at_call 39
      (with_reducible refine (RvC.run HCC.out _ ST0.out.below.drew).mono ?_)
      rintro y w2 ⟨hy, b1⟩
      have hd := (Below.refl W0.heap.size W0).drew
      have b2 := hd.trans (b1.mono hd.size)
      replace e0 := cell_up e0 b2
      replace e1 := cell_up e1 b2
      replace x3 := cell_up x3 b2
      replace u0 := cell_up u0 b2
      replace u1 := cell_up u1 b2
      replace u2 := cell_up u2 b2
      replace u3 := cell_up u3 b2
      unfold RetW at hy
      subst hy
      have HP : Hid (RetW R (.returned (.agg #[.string (wd R), .int .i64 R.N]))) := rfl
      have ST2 := Lib.hid (ST0.out.up b2)
      clear b1 b2 hd HCA HCB HCC HR
      refine hK _ _ ⟨⟨e0,e1⟩,x3,u0,u1,u2,u3⟩ ?_
      clear hK K' e0 e1 x3 u0 u1 u2 u3
      generalize wd R = rk at *
      generalize R.N = rn at *
      try simp only [Act.put, List.getElem_toArray, List.getElem_cons_zero, List.getElem_cons_succ, List.setIfInBounds_toArray, List.set_cons_zero, List.set_cons_succ]
      have HFN : Hid (Below w.heap.size w ((w2.setCell ⟨w.heap.size + 1 + 1, 0, none⟩ (.string rk)).setCell ⟨w.heap.size + 1 + 1, 1, none⟩ (.int .i64 rn)) ∧ Mem.Blk ((w2.setCell ⟨w.heap.size + 1 + 1, 0, none⟩ (.string rk)).setCell ⟨w.heap.size + 1 + 1, 1, none⟩ (.int .i64 rn)) (w.heap.size + 1 + 1) 69 #[.string rk, .int .i64 rn]) := ⟨(ST2.out.below.setCell (by show w.heap.size ≤ w.heap.size + 1 + 1; omega) _).setCell (by show w.heap.size ≤ w.heap.size + 1 + 1; omega) _, (ST2.out.res.set_ 0 _).set_ 1 _⟩
      obtain ⟨q0, q1, q2, q3⟩ := ST2.out.res.two
      have hm := ST2.out.lt
      refine till_last (by kernel_rfl) rfl (by kernel_rfl) (fun K' hK => ?_)
      go_simp
      refine hK _ _ ?_
      clear hK K'
      try simp only [Act.put, List.getElem_toArray, List.getElem_cons_zero, List.getElem_cons_succ, List.setIfInBounds_toArray, List.set_cons_zero, List.set_cons_succ]
      refine wpAny_done (by kernel_rfl) ?_ _
      go_wp2_with fail
      generalize (w2.setCell ⟨w.heap.size + 1 + 1, 0, none⟩ (.string rk)).setCell ⟨w.heap.size + 1 + 1, 1, none⟩ (.int .i64 rn) = W9 at *
      obtain ⟨r0, r1, -, -⟩ := HFN.out.2.two
      refine bodyPost_ret (v := .agg #[.string rk, .int .i64 rn]) (by simp [results, Try.results39, go_sem, r0, r1]) rfl ⟨HP.out, HFN.out.1⟩
end Go.Proofs.Ytppnmeobnilojaa

/- The document's evaluation: both, either. -/
namespace Go.Proofs.Ytppnmeobnilojaa
set_option linter.unusedVariables false
set_option linter.unusedSimpArgs false
open Go.RowKit
set_option maxRecDepth 100000 in
set_option maxHeartbeats 8000000 in
theorem rv_and17 (w : World) (day : Int) (a : Option Addr) (len cap : Nat) (n : Int) (nm : ByteArray) (b o cap' : Nat) (o0 n0 o1 n1 : Int) (m0 m1 : ByteArray) (a0 a1 : Option Addr) (l0 p0 l1 p1 : Nat) (A B : Vl) (hA : Ty 2 A) (hB : Ty 2 B)
    (h0 : Four w b o (.int .i64 o0) (.int .i64 n0) (.string m0) (.slice a0 l0 p0)) (h1 : Four w b (o + 4) (.int .i64 o1) (.int .i64 n1) (.string m1) (.slice a1 l1 p1))
    (HA : RvC w day a len cap (.int .i64 o0) (.int .i64 n0) (.string m0) (.slice a0 l0 p0) A) (HB : RvC w day a len cap (.int .i64 o1) (.int .i64 n1) (.string m1) (.slice a1 l1 p1) B) :
    Calls Try.prog 39 #[.agg #[.int .i64 17, .int .i64 n, .string nm, .slice (some ⟨b, o, none⟩) 2 cap'], .agg #[.int .i64 day, .slice a len cap]] w fun x w' => RetW (bothV (decide ((17 : Int) = 18)) A B) x ∧ Below w.heap.size w w' := by
  have H0 := Lib.hid h0
  have H1 := Lib.hid h1
  have HCA := Lib.hid HA
  have HCB := Lib.hid HB
  have HTA := Lib.hid hA.of2
  have HTB := Lib.hid hB.of2
  have ST := Lib.hid (RvSt.start w day a len cap 17 n nm (some ⟨b, o, none⟩) 2 cap')
  clear h0 h1 HA HB hA hB
  obtain ⟨R, hR⟩ : ∃ R, R = bothV (decide ((17 : Int) = 18)) A B := ⟨_, rfl⟩
  rw [← hR]
  have HR : Hid (R = if A = .brk ∨ A = .tru false then A else if (∃ t, A = .tru t) ∨ B = .brk ∨ B = .tru false then B else .unk) := by
    show R = _
    rw [hR, show decide ((17 : Int) = 18) = false from rfl]; unfold bothV; congr
  clear hR
  go_enter Try.func39, Try.ntmps39
  go_upto_region 1 with (fail)
  generalize ((w.alloc (.cells #[.int .i64 17, .int .i64 n, .string nm, .slice (some ⟨b, o, none⟩) 2 cap'] 46)).alloc (.cells #[.int .i64 day, .slice a len cap] 58)).alloc (.cells #[.string ⟨#[]⟩, .int .i64 0] 69) = v at *
  have e0 : v.cell? ⟨w.heap.size + 1, 0, none⟩ = some (.int .i64 day) := ST.out.env.cell 0
  have e1 : v.cell? ⟨w.heap.size + 1, 1, none⟩ = some (.slice a len cap) := ST.out.env.cell 1
  obtain ⟨x0, x1, x2, x3, -, -, -, -⟩ := blk4 ST.out.ex
  go_wp2_with fail
  go_at_call 67
  (with_reducible refine (rtruth_any false v).mono ?_)
  rintro y w1 ⟨hy, b1⟩
  have hy' : y = .returned (.agg #[.string ⟨#[102]⟩, .int .i64 0]) := hy
  subst hy'
  have ST1 := Lib.hid (ST.out.up b1)
  have bn := (Below.refl w1.heap.size w1).alloc (Nat.le_refl _) (.cells #[.string ⟨#[102]⟩, .int .i64 0] 69)
  have VS := Lib.hid (RvV.mk (v := .tru false) ST1.out.lt (Mem.Blk.new w1 69 #[.string ⟨#[102]⟩, .int .i64 0]))
  have ST2 := Lib.hid (ST1.out.up bn)
  clear hy b1 bn ST1 ST e0 e1 x0 x1 x2 x3
  go_upto_region 3 with (fail)
  generalize w1.alloc (.cells #[.string ⟨#[102]⟩, .int .i64 0] 69) = v1 at *
  generalize w1.heap.size = gs at *
  go_cut [6] (fun p W0 => ∃ g, p = .pointer (some ⟨g, 0, none⟩) ∧ Hid (RvSt w W0 day a len cap 17 n nm (some ⟨b, o, none⟩) 2 cap') ∧ Hid (RvV w W0 g A) ∧ Hid (RvV w W0 gs (.tru false)))
  case first =>
    have e0 : v1.cell? ⟨w.heap.size + 1, 0, none⟩ = some (.int .i64 day) := ST2.out.env.cell 0
    have e1 : v1.cell? ⟨w.heap.size + 1, 1, none⟩ = some (.slice a len cap) := ST2.out.env.cell 1
    have x3 : v1.cell? ⟨w.heap.size, 3, none⟩ = some (.slice (some ⟨b, o, none⟩) 2 cap') := ST2.out.ex.cell 3
    obtain ⟨u0, u1, u2, u3⟩ := H0.out
    replace u0 := cell_up u0 ST2.out.below
    replace u1 := cell_up u1 ST2.out.below
    replace u2 := cell_up u2 ST2.out.below
    replace u3 := cell_up u3 ST2.out.below
    refine wp_region_till (S := fun W => (W.cell? ⟨w.heap.size + 1, 0, none⟩ = some (.int .i64 day) ∧ W.cell? ⟨w.heap.size + 1, 1, none⟩ = some (.slice a len cap)) ∧ W.cell? ⟨w.heap.size, 3, none⟩ = some (.slice (some ⟨b, o, none⟩) 2 cap') ∧ W.cell? ⟨b, o, none⟩ = some (.int .i64 o0) ∧ W.cell? ⟨b, o + 1, none⟩ = some (.int .i64 n0) ∧ W.cell? ⟨b, o + 2, none⟩ = some (.string m0) ∧ W.cell? ⟨b, o + 3, none⟩ = some (.slice a0 l0 p0)) 7 (by kernel_rfl) ?_
    refine till_take (i := 0) (v := ?_) rfl (by kernel_rfl) (fun _ _ _ h => h) (Or.inl ⟨by rfl, ?_⟩) ⟨⟨e0,e1⟩,x3,u0,u1,u2,u3⟩ ?_
    rotate_left
    · intro W hS
      try dsimp only at hS
      go_split_ands
      go_simp
      try with_reducible rfl
    try simp only [Act.put, List.getElem_toArray, List.getElem_cons_zero, List.getElem_cons_succ, List.setIfInBounds_toArray, List.set_cons_zero, List.set_cons_succ]
    refine till_take (i := 1) (v := ?_) rfl (by kernel_rfl) (fun _ _ _ h => h) (Or.inl ⟨by rfl, ?_⟩) ⟨⟨e0,e1⟩,x3,u0,u1,u2,u3⟩ ?_
    rotate_left
    · intro W hS
      try dsimp only at hS
      go_split_ands
      go_simp
      try with_reducible rfl
    try simp only [Act.put, List.getElem_toArray, List.getElem_cons_zero, List.getElem_cons_succ, List.setIfInBounds_toArray, List.set_cons_zero, List.set_cons_succ]
    refine till_take (i := 2) (v := ?_) rfl (by kernel_rfl) (fun _ _ _ h => h) (Or.inl ⟨by rfl, ?_⟩) ⟨⟨e0,e1⟩,x3,u0,u1,u2,u3⟩ ?_
    rotate_left
    · intro W hS
      try dsimp only at hS
      go_split_ands
      go_simp
      try with_reducible rfl
    try simp only [Act.put, List.getElem_toArray, List.getElem_cons_zero, List.getElem_cons_succ, List.setIfInBounds_toArray, List.set_cons_zero, List.set_cons_succ]
    refine till_take (i := 3) (v := ?_) rfl (by kernel_rfl) (fun _ _ _ h => h) (Or.inl ⟨by rfl, ?_⟩) ⟨⟨e0,e1⟩,x3,u0,u1,u2,u3⟩ ?_
    rotate_left
    · intro W hS
      try dsimp only at hS
      go_split_ands
      go_simp
      try with_reducible rfl
    try simp only [Act.put, List.getElem_toArray, List.getElem_cons_zero, List.getElem_cons_succ, List.setIfInBounds_toArray, List.set_cons_zero, List.set_cons_succ]
    refine till_take (i := 4) (v := ?_) rfl (by kernel_rfl) (fun _ _ _ h => h) (Or.inl ⟨by rfl, ?_⟩) ⟨⟨e0,e1⟩,x3,u0,u1,u2,u3⟩ ?_
    rotate_left
    · intro W hS
      try dsimp only at hS
      go_split_ands
      go_simp
      try with_reducible rfl
    try simp only [Act.put, List.getElem_toArray, List.getElem_cons_zero, List.getElem_cons_succ, List.setIfInBounds_toArray, List.set_cons_zero, List.set_cons_succ]
    refine till_two (i := 5) (j := 6) (by kernel_rfl) rfl rfl (fun K' hK => ?_) (fun K' hK => ?_)
    · go_simp
      go_at_call 39
      (with_reducible refine (RvC.run HCA.out _ ST2.out.below.drew).mono ?_)
      rintro y w1 ⟨hy, b1⟩
      unfold RetW at hy
      subst hy
      have hd := (Below.refl v1.heap.size v1).drew
      have ST1 := Lib.hid ((ST2.out.up hd).up b1)
      have bt := hd.trans (b1.mono hd.size)
      have GG := Lib.hid ((VS.out.up hd).up b1)
      replace e0 := cell_up e0 bt
      replace e1 := cell_up e1 bt
      replace x3 := cell_up x3 bt
      replace u0 := cell_up u0 bt
      replace u1 := cell_up u1 bt
      replace u2 := cell_up u2 bt
      replace u3 := cell_up u3 bt
      refine hK _ _ ⟨⟨e0,e1⟩,x3,u0,u1,u2,u3⟩ ?_
      clear hK K' b1 hd bt
      try simp only [Act.put, List.getElem_toArray, List.getElem_cons_zero, List.getElem_cons_succ, List.setIfInBounds_toArray, List.set_cons_zero, List.set_cons_succ]
      refine till_one (i := 6) (by kernel_rfl) rfl (fun K' hK => ?_)
      go_simp
      have bn := (Below.refl w1.heap.size w1).alloc (Nat.le_refl _) (.cells #[.string ⟨#[]⟩, .int .i64 0] 69)
      have ST2 := Lib.hid (ST1.out.up bn)
      have BZ := Lib.hid (Mem.Blk.new w1 69 #[.string ⟨#[]⟩, .int .i64 0])
      have HZ := Lib.hid ST1.out.lt
      have HP := Lib.hid (And.intro (GG.out.up bn) (Nat.ne_of_lt GG.out.blk.lt))
      refine hK _ _ ⟨⟨cell_up e0 bn, cell_up e1 bn⟩, cell_up x3 bn, cell_up u0 bn, cell_up u1 bn, cell_up u2 bn, cell_up u3 bn⟩ ?_
      clear hK K' bn ST1 e0 e1 x3 u0 u1 u2 u3 GG
      generalize w1.alloc (.cells #[.string ⟨#[]⟩, .int .i64 0] 69) = w2 at *
      generalize w1.heap.size = z at *
      try simp only [Act.put, List.getElem_toArray, List.getElem_cons_zero, List.getElem_cons_succ, List.setIfInBounds_toArray, List.set_cons_zero, List.set_cons_succ]
      obtain ⟨t0, t1, t2, t3⟩ := BZ.out.two
      have hm := BZ.out.lt
      refine till_last (by kernel_rfl) rfl (by kernel_rfl) (fun K' hK => ?_)
      go_simp
      have HS9 := Lib.hid (ST2.out.far2 HZ.out (.string (wd A)) (.int .i64 A.N))
      have HV9 := Lib.hid (RvV.mk (v := A) HZ.out ((BZ.out.set_ 0 (.string (wd A))).set_ 1 (.int .i64 A.N)))
      refine hK _ _ ?_
      clear hK K'
      try simp only [Act.put, List.getElem_toArray, List.getElem_cons_zero, List.getElem_cons_succ, List.setIfInBounds_toArray, List.set_cons_zero, List.set_cons_succ]
      refine wpAny_done (by kernel_rfl) ?_ _
      go_wp2_with fail
      go_meet
      case rel => exact ⟨z, rfl, HS9.out, HV9.out, HP.out.1.far2 HP.out.2 _ _⟩
    · go_simp
      have bn := below_new v1 (.cells #[.string ⟨#[]⟩, .int .i64 0] 69)
      have ST1 := Lib.hid (ST2.out.up bn)
      have BZ1 := Lib.hid (Mem.Blk.new v1 69 #[.string ⟨#[]⟩, .int .i64 0]).drew
      have HZ := Lib.hid ST2.out.lt
      have HQ := Lib.hid (And.intro (VS.out.up bn) (Nat.ne_of_lt VS.out.blk.lt))
      replace e0 := cell_up e0 bn
      replace e1 := cell_up e1 bn
      replace x3 := cell_up x3 bn
      replace u0 := cell_up u0 bn
      replace u1 := cell_up u1 bn
      replace u2 := cell_up u2 bn
      replace u3 := cell_up u3 bn
      refine hK _ _ ⟨⟨e0,e1⟩,x3,u0,u1,u2,u3⟩ ?_
      clear hK K' bn
      generalize (v1.alloc (.cells #[.string ⟨#[]⟩, .int .i64 0] 69)).drew = w1 at *
      generalize v1.heap.size = z at *
      try simp only [Act.put, List.getElem_toArray, List.getElem_cons_zero, List.getElem_cons_succ, List.setIfInBounds_toArray, List.set_cons_zero, List.set_cons_succ]
      refine till_one (i := 5) (by kernel_rfl) rfl (fun K' hK => ?_)
      go_simp
      go_at_call 39
      (with_reducible refine (RvC.run HCA.out _ ST1.out.below).mono ?_)
      rintro y w2 ⟨hy, b1⟩
      unfold RetW at hy
      subst hy
      have ST2 := Lib.hid (ST1.out.up b1)
      have BZ := Lib.hid (BZ1.out.below b1)
      have HP := Lib.hid (And.intro (HQ.out.1.up b1) HQ.out.2)
      refine hK _ _ ⟨⟨cell_up e0 b1, cell_up e1 b1⟩, cell_up x3 b1, cell_up u0 b1, cell_up u1 b1, cell_up u2 b1, cell_up u3 b1⟩ ?_
      clear hK K' b1 ST1 BZ1 e0 e1 x3 u0 u1 u2 u3 HQ
      try simp only [Act.put, List.getElem_toArray, List.getElem_cons_zero, List.getElem_cons_succ, List.setIfInBounds_toArray, List.set_cons_zero, List.set_cons_succ]
      obtain ⟨t0, t1, t2, t3⟩ := BZ.out.two
      have hm := BZ.out.lt
      refine till_last (by kernel_rfl) rfl (by kernel_rfl) (fun K' hK => ?_)
      go_simp
      have HS9 := Lib.hid (ST2.out.far2 HZ.out (.string (wd A)) (.int .i64 A.N))
      have HV9 := Lib.hid (RvV.mk (v := A) HZ.out ((BZ.out.set_ 0 (.string (wd A))).set_ 1 (.int .i64 A.N)))
      refine hK _ _ ?_
      clear hK K'
      try simp only [Act.put, List.getElem_toArray, List.getElem_cons_zero, List.getElem_cons_succ, List.setIfInBounds_toArray, List.set_cons_zero, List.set_cons_succ]
      refine wpAny_done (by kernel_rfl) ?_ _
      go_wp2_with fail
      go_meet
      case rel => exact ⟨z, rfl, HS9.out, HV9.out, HP.out.1.far2 HP.out.2 _ _⟩
  obtain ⟨g, rfl, ST0, VA, VS0⟩ := hcut
  obtain ⟨W0, rfl⟩ : ∃ W : World, W = wc := ⟨_, rfl⟩
  clear ST2 VS
  have st0 : W0.cell? ⟨gs, 0, none⟩ = some (.string ⟨#[102]⟩) := VS0.out.blk.cell 0
  have st1 : W0.cell? ⟨gs, 1, none⟩ = some (.int .i64 0) := VS0.out.blk.cell 1
  rcases HTA.out with rfl | rfl | ⟨t, rfl⟩
  · have HR1 : Hid (R = if B = .brk ∨ B = .tru false then B else .unk) := by rw [HR.out]; simp [Hid]
    clear HR
    have t0 : W0.cell? ⟨g, 0, none⟩ = some (.string ⟨#[63]⟩) := VA.out.blk.cell 0
    have t1 : W0.cell? ⟨g, 1, none⟩ = some (.int .i64 0) := VA.out.blk.cell 1
    go_wp2_with fail
    clear t0 t1 st0 st1
    go_cut [7] (fun p W1 => ∃ g1, p = .pointer (some ⟨g1, 0, none⟩) ∧ Hid (RvSt w W1 day a len cap 17 n nm (some ⟨b, o, none⟩) 2 cap') ∧ Hid (RvV w W1 g1 B) ∧ Hid (RvV w W1 gs (.tru false)) ∧ Hid (RvV w W1 g .unk))
    case first =>
      have e0 : W0.cell? ⟨w.heap.size + 1, 0, none⟩ = some (.int .i64 day) := ST0.out.env.cell 0
      have e1 : W0.cell? ⟨w.heap.size + 1, 1, none⟩ = some (.slice a len cap) := ST0.out.env.cell 1
      have x3 : W0.cell? ⟨w.heap.size, 3, none⟩ = some (.slice (some ⟨b, o, none⟩) 2 cap') := ST0.out.ex.cell 3
      obtain ⟨u0, u1, u2, u3⟩ := H1.out
      replace u0 := cell_up u0 ST0.out.below
      replace u1 := cell_up u1 ST0.out.below
      replace u2 := cell_up u2 ST0.out.below
      replace u3 := cell_up u3 ST0.out.below
      refine wp_region_till (S := fun W => (W.cell? ⟨w.heap.size + 1, 0, none⟩ = some (.int .i64 day) ∧ W.cell? ⟨w.heap.size + 1, 1, none⟩ = some (.slice a len cap)) ∧ W.cell? ⟨w.heap.size, 3, none⟩ = some (.slice (some ⟨b, o, none⟩) 2 cap') ∧ W.cell? ⟨b, o + 4, none⟩ = some (.int .i64 o1) ∧ W.cell? ⟨b, o + 4 + 1, none⟩ = some (.int .i64 n1) ∧ W.cell? ⟨b, o + 4 + 2, none⟩ = some (.string m1) ∧ W.cell? ⟨b, o + 4 + 3, none⟩ = some (.slice a1 l1 p1)) 7 (by kernel_rfl) ?_
      refine till_take (i := 0) (v := ?_) rfl (by kernel_rfl) (fun _ _ _ h => h) (Or.inl ⟨by rfl, ?_⟩) ⟨⟨e0,e1⟩,x3,u0,u1,u2,u3⟩ ?_
      rotate_left
      · intro W hS
        try dsimp only at hS
        go_split_ands
        go_simp
        try with_reducible rfl
      try simp only [Act.put, List.getElem_toArray, List.getElem_cons_zero, List.getElem_cons_succ, List.setIfInBounds_toArray, List.set_cons_zero, List.set_cons_succ]
      refine till_take (i := 1) (v := ?_) rfl (by kernel_rfl) (fun _ _ _ h => h) (Or.inl ⟨by rfl, ?_⟩) ⟨⟨e0,e1⟩,x3,u0,u1,u2,u3⟩ ?_
      rotate_left
      · intro W hS
        try dsimp only at hS
        go_split_ands
        go_simp
        try with_reducible rfl
      try simp only [Act.put, List.getElem_toArray, List.getElem_cons_zero, List.getElem_cons_succ, List.setIfInBounds_toArray, List.set_cons_zero, List.set_cons_succ]
      refine till_take (i := 2) (v := ?_) rfl (by kernel_rfl) (fun _ _ _ h => h) (Or.inl ⟨by rfl, ?_⟩) ⟨⟨e0,e1⟩,x3,u0,u1,u2,u3⟩ ?_
      rotate_left
      · intro W hS
        try dsimp only at hS
        go_split_ands
        go_simp
        try with_reducible rfl
      try simp only [Act.put, List.getElem_toArray, List.getElem_cons_zero, List.getElem_cons_succ, List.setIfInBounds_toArray, List.set_cons_zero, List.set_cons_succ]
      refine till_take (i := 3) (v := ?_) rfl (by kernel_rfl) (fun _ _ _ h => h) (Or.inl ⟨by rfl, ?_⟩) ⟨⟨e0,e1⟩,x3,u0,u1,u2,u3⟩ ?_
      rotate_left
      · intro W hS
        try dsimp only at hS
        go_split_ands
        go_simp
        try with_reducible rfl
      try simp only [Act.put, List.getElem_toArray, List.getElem_cons_zero, List.getElem_cons_succ, List.setIfInBounds_toArray, List.set_cons_zero, List.set_cons_succ]
      refine till_take (i := 4) (v := ?_) rfl (by kernel_rfl) (fun _ _ _ h => h) (Or.inl ⟨by rfl, ?_⟩) ⟨⟨e0,e1⟩,x3,u0,u1,u2,u3⟩ ?_
      rotate_left
      · intro W hS
        try dsimp only at hS
        go_split_ands
        go_simp
        try with_reducible rfl
      try simp only [Act.put, List.getElem_toArray, List.getElem_cons_zero, List.getElem_cons_succ, List.setIfInBounds_toArray, List.set_cons_zero, List.set_cons_succ]
      refine till_two (i := 5) (j := 6) (by kernel_rfl) rfl rfl (fun K' hK => ?_) (fun K' hK => ?_)
      · go_simp
        go_at_call 39
        (with_reducible refine (RvC.run HCB.out _ ST0.out.below.drew).mono ?_)
        rintro y w1 ⟨hy, b1⟩
        unfold RetW at hy
        subst hy
        have hd := (Below.refl W0.heap.size W0).drew
        have ST1 := Lib.hid ((ST0.out.up hd).up b1)
        have bt := hd.trans (b1.mono hd.size)
        have GG := Lib.hid (And.intro ((VS0.out.up hd).up b1) ((VA.out.up hd).up b1))
        replace e0 := cell_up e0 bt
        replace e1 := cell_up e1 bt
        replace x3 := cell_up x3 bt
        replace u0 := cell_up u0 bt
        replace u1 := cell_up u1 bt
        replace u2 := cell_up u2 bt
        replace u3 := cell_up u3 bt
        refine hK _ _ ⟨⟨e0,e1⟩,x3,u0,u1,u2,u3⟩ ?_
        clear hK K' b1 hd bt
        try simp only [Act.put, List.getElem_toArray, List.getElem_cons_zero, List.getElem_cons_succ, List.setIfInBounds_toArray, List.set_cons_zero, List.set_cons_succ]
        refine till_one (i := 6) (by kernel_rfl) rfl (fun K' hK => ?_)
        go_simp
        have bn := (Below.refl w1.heap.size w1).alloc (Nat.le_refl _) (.cells #[.string ⟨#[]⟩, .int .i64 0] 69)
        have ST2 := Lib.hid (ST1.out.up bn)
        have BZ := Lib.hid (Mem.Blk.new w1 69 #[.string ⟨#[]⟩, .int .i64 0])
        have HZ := Lib.hid ST1.out.lt
        have HP := Lib.hid (And.intro (And.intro (GG.out.1.up bn) (Nat.ne_of_lt GG.out.1.blk.lt)) (And.intro (GG.out.2.up bn) (Nat.ne_of_lt GG.out.2.blk.lt)))
        refine hK _ _ ⟨⟨cell_up e0 bn, cell_up e1 bn⟩, cell_up x3 bn, cell_up u0 bn, cell_up u1 bn, cell_up u2 bn, cell_up u3 bn⟩ ?_
        clear hK K' bn ST1 e0 e1 x3 u0 u1 u2 u3 GG
        generalize w1.alloc (.cells #[.string ⟨#[]⟩, .int .i64 0] 69) = w2 at *
        generalize w1.heap.size = z at *
        try simp only [Act.put, List.getElem_toArray, List.getElem_cons_zero, List.getElem_cons_succ, List.setIfInBounds_toArray, List.set_cons_zero, List.set_cons_succ]
        obtain ⟨t0, t1, t2, t3⟩ := BZ.out.two
        have hm := BZ.out.lt
        refine till_last (by kernel_rfl) rfl (by kernel_rfl) (fun K' hK => ?_)
        go_simp
        have HS9 := Lib.hid (ST2.out.far2 HZ.out (.string (wd B)) (.int .i64 B.N))
        have HV9 := Lib.hid (RvV.mk (v := B) HZ.out ((BZ.out.set_ 0 (.string (wd B))).set_ 1 (.int .i64 B.N)))
        refine hK _ _ ?_
        clear hK K'
        try simp only [Act.put, List.getElem_toArray, List.getElem_cons_zero, List.getElem_cons_succ, List.setIfInBounds_toArray, List.set_cons_zero, List.set_cons_succ]
        refine wpAny_done (by kernel_rfl) ?_ _
        go_wp2_with fail
        go_meet
        case rel => exact ⟨z, rfl, HS9.out, HV9.out, HP.out.1.1.far2 HP.out.1.2 _ _, HP.out.2.1.far2 HP.out.2.2 _ _⟩
      · go_simp
        have bn := below_new W0 (.cells #[.string ⟨#[]⟩, .int .i64 0] 69)
        have ST1 := Lib.hid (ST0.out.up bn)
        have BZ1 := Lib.hid (Mem.Blk.new W0 69 #[.string ⟨#[]⟩, .int .i64 0]).drew
        have HZ := Lib.hid ST0.out.lt
        have HQ := Lib.hid (And.intro (And.intro (VS0.out.up bn) (Nat.ne_of_lt VS0.out.blk.lt)) (And.intro (VA.out.up bn) (Nat.ne_of_lt VA.out.blk.lt)))
        replace e0 := cell_up e0 bn
        replace e1 := cell_up e1 bn
        replace x3 := cell_up x3 bn
        replace u0 := cell_up u0 bn
        replace u1 := cell_up u1 bn
        replace u2 := cell_up u2 bn
        replace u3 := cell_up u3 bn
        refine hK _ _ ⟨⟨e0,e1⟩,x3,u0,u1,u2,u3⟩ ?_
        clear hK K' bn
        generalize (W0.alloc (.cells #[.string ⟨#[]⟩, .int .i64 0] 69)).drew = w1 at *
        generalize W0.heap.size = z at *
        try simp only [Act.put, List.getElem_toArray, List.getElem_cons_zero, List.getElem_cons_succ, List.setIfInBounds_toArray, List.set_cons_zero, List.set_cons_succ]
        refine till_one (i := 5) (by kernel_rfl) rfl (fun K' hK => ?_)
        go_simp
        go_at_call 39
        (with_reducible refine (RvC.run HCB.out _ ST1.out.below).mono ?_)
        rintro y w2 ⟨hy, b1⟩
        unfold RetW at hy
        subst hy
        have ST2 := Lib.hid (ST1.out.up b1)
        have BZ := Lib.hid (BZ1.out.below b1)
        have HP := Lib.hid (And.intro (And.intro (HQ.out.1.1.up b1) HQ.out.1.2) (And.intro (HQ.out.2.1.up b1) HQ.out.2.2))
        refine hK _ _ ⟨⟨cell_up e0 b1, cell_up e1 b1⟩, cell_up x3 b1, cell_up u0 b1, cell_up u1 b1, cell_up u2 b1, cell_up u3 b1⟩ ?_
        clear hK K' b1 ST1 BZ1 e0 e1 x3 u0 u1 u2 u3 HQ
        try simp only [Act.put, List.getElem_toArray, List.getElem_cons_zero, List.getElem_cons_succ, List.setIfInBounds_toArray, List.set_cons_zero, List.set_cons_succ]
        obtain ⟨t0, t1, t2, t3⟩ := BZ.out.two
        have hm := BZ.out.lt
        refine till_last (by kernel_rfl) rfl (by kernel_rfl) (fun K' hK => ?_)
        go_simp
        have HS9 := Lib.hid (ST2.out.far2 HZ.out (.string (wd B)) (.int .i64 B.N))
        have HV9 := Lib.hid (RvV.mk (v := B) HZ.out ((BZ.out.set_ 0 (.string (wd B))).set_ 1 (.int .i64 B.N)))
        refine hK _ _ ?_
        clear hK K'
        try simp only [Act.put, List.getElem_toArray, List.getElem_cons_zero, List.getElem_cons_succ, List.setIfInBounds_toArray, List.set_cons_zero, List.set_cons_succ]
        refine wpAny_done (by kernel_rfl) ?_ _
        go_wp2_with fail
        go_meet
        case rel => exact ⟨z, rfl, HS9.out, HV9.out, HP.out.1.1.far2 HP.out.1.2 _ _, HP.out.2.1.far2 HP.out.2.2 _ _⟩
    obtain ⟨g1, rfl, ST3, VB, VS1, VA1⟩ := hcut
    obtain ⟨W1, rfl⟩ : ∃ W : World, W = wc := ⟨_, rfl⟩
    clear ST0 VA VS0 HCA HCB
    have st0 : W1.cell? ⟨gs, 0, none⟩ = some (.string ⟨#[102]⟩) := VS1.out.blk.cell 0
    have st1 : W1.cell? ⟨gs, 1, none⟩ = some (.int .i64 0) := VS1.out.blk.cell 1
    have t0 : W1.cell? ⟨g, 0, none⟩ = some (.string ⟨#[63]⟩) := VA1.out.blk.cell 0
    have t1 : W1.cell? ⟨g, 1, none⟩ = some (.int .i64 0) := VA1.out.blk.cell 1
    rcases HTB.out with rfl | rfl | ⟨t', rfl⟩
    · obtain rfl : R = .unk := by rw [HR1.out]; simp
      have xt0 : W1.cell? ⟨g1, 0, none⟩ = some (.string ⟨#[63]⟩) := VB.out.blk.cell 0
      have xt1 : W1.cell? ⟨g1, 1, none⟩ = some (.int .i64 0) := VB.out.blk.cell 1
      obtain ⟨q0, q1, q2, q3⟩ := ST3.out.res.two
      have hm := ST3.out.lt
      have HFN : Hid (Below w.heap.size w ((W1.setCell ⟨w.heap.size + 1 + 1, 0, none⟩ (.string ⟨#[63]⟩)).setCell ⟨w.heap.size + 1 + 1, 1, none⟩ (.int .i64 0)) ∧ Mem.Blk ((W1.setCell ⟨w.heap.size + 1 + 1, 0, none⟩ (.string ⟨#[63]⟩)).setCell ⟨w.heap.size + 1 + 1, 1, none⟩ (.int .i64 0)) (w.heap.size + 1 + 1) 69 #[.string ⟨#[63]⟩, .int .i64 0]) := ⟨(ST3.out.below.setCell (by show w.heap.size ≤ w.heap.size + 1 + 1; omega) _).setCell (by show w.heap.size ≤ w.heap.size + 1 + 1; omega) _, (ST3.out.res.set_ 0 _).set_ 1 _⟩
      go_wp2_with fail
      generalize (W1.setCell ⟨w.heap.size + 1 + 1, 0, none⟩ (.string ⟨#[63]⟩)).setCell ⟨w.heap.size + 1 + 1, 1, none⟩ (.int .i64 0) = W9 at *
      obtain ⟨r0, r1, -, -⟩ := HFN.out.2.two
      refine bodyPost_ret (v := .agg #[.string ⟨#[63]⟩, .int .i64 0]) (by simp [results, Try.results39, go_sem, r0, r1]) rfl ⟨rfl, HFN.out.1⟩
    · obtain rfl : R = .brk := by rw [HR1.out]; simp
      have xt0 : W1.cell? ⟨g1, 0, none⟩ = some (.string ⟨#[33]⟩) := VB.out.blk.cell 0
      have xt1 : W1.cell? ⟨g1, 1, none⟩ = some (.int .i64 0) := VB.out.blk.cell 1
      obtain ⟨q0, q1, q2, q3⟩ := ST3.out.res.two
      have hm := ST3.out.lt
      have HFN : Hid (Below w.heap.size w ((W1.setCell ⟨w.heap.size + 1 + 1, 0, none⟩ (.string ⟨#[33]⟩)).setCell ⟨w.heap.size + 1 + 1, 1, none⟩ (.int .i64 0)) ∧ Mem.Blk ((W1.setCell ⟨w.heap.size + 1 + 1, 0, none⟩ (.string ⟨#[33]⟩)).setCell ⟨w.heap.size + 1 + 1, 1, none⟩ (.int .i64 0)) (w.heap.size + 1 + 1) 69 #[.string ⟨#[33]⟩, .int .i64 0]) := ⟨(ST3.out.below.setCell (by show w.heap.size ≤ w.heap.size + 1 + 1; omega) _).setCell (by show w.heap.size ≤ w.heap.size + 1 + 1; omega) _, (ST3.out.res.set_ 0 _).set_ 1 _⟩
      go_wp2_with fail
      generalize (W1.setCell ⟨w.heap.size + 1 + 1, 0, none⟩ (.string ⟨#[33]⟩)).setCell ⟨w.heap.size + 1 + 1, 1, none⟩ (.int .i64 0) = W9 at *
      obtain ⟨r0, r1, -, -⟩ := HFN.out.2.two
      refine bodyPost_ret (v := .agg #[.string ⟨#[33]⟩, .int .i64 0]) (by simp [results, Try.results39, go_sem, r0, r1]) rfl ⟨rfl, HFN.out.1⟩
    · by_cases ht : t' = false
      · subst ht
        obtain rfl : R = .tru false := by rw [HR1.out]; simp
        have xt0 : W1.cell? ⟨g1, 0, none⟩ = some (.string ⟨#[102]⟩) := VB.out.blk.cell 0
        have xt1 : W1.cell? ⟨g1, 1, none⟩ = some (.int .i64 0) := VB.out.blk.cell 1
        obtain ⟨q0, q1, q2, q3⟩ := ST3.out.res.two
        have hm := ST3.out.lt
        have HFN : Hid (Below w.heap.size w ((W1.setCell ⟨w.heap.size + 1 + 1, 0, none⟩ (.string ⟨#[102]⟩)).setCell ⟨w.heap.size + 1 + 1, 1, none⟩ (.int .i64 0)) ∧ Mem.Blk ((W1.setCell ⟨w.heap.size + 1 + 1, 0, none⟩ (.string ⟨#[102]⟩)).setCell ⟨w.heap.size + 1 + 1, 1, none⟩ (.int .i64 0)) (w.heap.size + 1 + 1) 69 #[.string ⟨#[102]⟩, .int .i64 0]) := ⟨(ST3.out.below.setCell (by show w.heap.size ≤ w.heap.size + 1 + 1; omega) _).setCell (by show w.heap.size ≤ w.heap.size + 1 + 1; omega) _, (ST3.out.res.set_ 0 _).set_ 1 _⟩
        go_wp2_with fail
        generalize (W1.setCell ⟨w.heap.size + 1 + 1, 0, none⟩ (.string ⟨#[102]⟩)).setCell ⟨w.heap.size + 1 + 1, 1, none⟩ (.int .i64 0) = W9 at *
        obtain ⟨r0, r1, -, -⟩ := HFN.out.2.two
        refine bodyPost_ret (v := .agg #[.string ⟨#[102]⟩, .int .i64 0]) (by simp [results, Try.results39, go_sem, r0, r1]) rfl ⟨rfl, HFN.out.1⟩
      · obtain rfl : t' = true := by cases t' <;> simp_all
        obtain rfl : R = .unk := by rw [HR1.out]; simp
        have xt0 : W1.cell? ⟨g1, 0, none⟩ = some (.string ⟨#[116]⟩) := VB.out.blk.cell 0
        have xt1 : W1.cell? ⟨g1, 1, none⟩ = some (.int .i64 0) := VB.out.blk.cell 1
        obtain ⟨q0, q1, q2, q3⟩ := ST3.out.res.two
        have hm := ST3.out.lt
        have HFN : Hid (Below w.heap.size w ((W1.setCell ⟨w.heap.size + 1 + 1, 0, none⟩ (.string ⟨#[63]⟩)).setCell ⟨w.heap.size + 1 + 1, 1, none⟩ (.int .i64 0)) ∧ Mem.Blk ((W1.setCell ⟨w.heap.size + 1 + 1, 0, none⟩ (.string ⟨#[63]⟩)).setCell ⟨w.heap.size + 1 + 1, 1, none⟩ (.int .i64 0)) (w.heap.size + 1 + 1) 69 #[.string ⟨#[63]⟩, .int .i64 0]) := ⟨(ST3.out.below.setCell (by show w.heap.size ≤ w.heap.size + 1 + 1; omega) _).setCell (by show w.heap.size ≤ w.heap.size + 1 + 1; omega) _, (ST3.out.res.set_ 0 _).set_ 1 _⟩
        go_wp2_with fail
        generalize (W1.setCell ⟨w.heap.size + 1 + 1, 0, none⟩ (.string ⟨#[63]⟩)).setCell ⟨w.heap.size + 1 + 1, 1, none⟩ (.int .i64 0) = W9 at *
        obtain ⟨r0, r1, -, -⟩ := HFN.out.2.two
        refine bodyPost_ret (v := .agg #[.string ⟨#[63]⟩, .int .i64 0]) (by simp [results, Try.results39, go_sem, r0, r1]) rfl ⟨rfl, HFN.out.1⟩
  · obtain rfl : R = .brk := by rw [HR.out]; simp
    have t0 : W0.cell? ⟨g, 0, none⟩ = some (.string ⟨#[33]⟩) := VA.out.blk.cell 0
    have t1 : W0.cell? ⟨g, 1, none⟩ = some (.int .i64 0) := VA.out.blk.cell 1
    obtain ⟨q0, q1, q2, q3⟩ := ST0.out.res.two
    have hm := ST0.out.lt
    have HFN : Hid (Below w.heap.size w ((W0.setCell ⟨w.heap.size + 1 + 1, 0, none⟩ (.string ⟨#[33]⟩)).setCell ⟨w.heap.size + 1 + 1, 1, none⟩ (.int .i64 0)) ∧ Mem.Blk ((W0.setCell ⟨w.heap.size + 1 + 1, 0, none⟩ (.string ⟨#[33]⟩)).setCell ⟨w.heap.size + 1 + 1, 1, none⟩ (.int .i64 0)) (w.heap.size + 1 + 1) 69 #[.string ⟨#[33]⟩, .int .i64 0]) := ⟨(ST0.out.below.setCell (by show w.heap.size ≤ w.heap.size + 1 + 1; omega) _).setCell (by show w.heap.size ≤ w.heap.size + 1 + 1; omega) _, (ST0.out.res.set_ 0 _).set_ 1 _⟩
    go_wp2_with fail
    generalize (W0.setCell ⟨w.heap.size + 1 + 1, 0, none⟩ (.string ⟨#[33]⟩)).setCell ⟨w.heap.size + 1 + 1, 1, none⟩ (.int .i64 0) = W9 at *
    obtain ⟨r0, r1, -, -⟩ := HFN.out.2.two
    refine bodyPost_ret (v := .agg #[.string ⟨#[33]⟩, .int .i64 0]) (by simp [results, Try.results39, go_sem, r0, r1]) rfl ⟨rfl, HFN.out.1⟩
  · by_cases ht : t = false
    · subst ht
      obtain rfl : R = .tru false := by rw [HR.out]; simp
      have t0 : W0.cell? ⟨g, 0, none⟩ = some (.string ⟨#[102]⟩) := VA.out.blk.cell 0
      have t1 : W0.cell? ⟨g, 1, none⟩ = some (.int .i64 0) := VA.out.blk.cell 1
      obtain ⟨q0, q1, q2, q3⟩ := ST0.out.res.two
      have hm := ST0.out.lt
      have HFN : Hid (Below w.heap.size w ((W0.setCell ⟨w.heap.size + 1 + 1, 0, none⟩ (.string ⟨#[102]⟩)).setCell ⟨w.heap.size + 1 + 1, 1, none⟩ (.int .i64 0)) ∧ Mem.Blk ((W0.setCell ⟨w.heap.size + 1 + 1, 0, none⟩ (.string ⟨#[102]⟩)).setCell ⟨w.heap.size + 1 + 1, 1, none⟩ (.int .i64 0)) (w.heap.size + 1 + 1) 69 #[.string ⟨#[102]⟩, .int .i64 0]) := ⟨(ST0.out.below.setCell (by show w.heap.size ≤ w.heap.size + 1 + 1; omega) _).setCell (by show w.heap.size ≤ w.heap.size + 1 + 1; omega) _, (ST0.out.res.set_ 0 _).set_ 1 _⟩
      go_wp2_with fail
      generalize (W0.setCell ⟨w.heap.size + 1 + 1, 0, none⟩ (.string ⟨#[102]⟩)).setCell ⟨w.heap.size + 1 + 1, 1, none⟩ (.int .i64 0) = W9 at *
      obtain ⟨r0, r1, -, -⟩ := HFN.out.2.two
      refine bodyPost_ret (v := .agg #[.string ⟨#[102]⟩, .int .i64 0]) (by simp [results, Try.results39, go_sem, r0, r1]) rfl ⟨rfl, HFN.out.1⟩
    · obtain rfl : t = true := by cases t <;> simp_all
      obtain rfl : R = B := by rw [HR.out]; simp
      clear HR
      have t0 : W0.cell? ⟨g, 0, none⟩ = some (.string ⟨#[116]⟩) := VA.out.blk.cell 0
      have t1 : W0.cell? ⟨g, 1, none⟩ = some (.int .i64 0) := VA.out.blk.cell 1
      go_wp2_with fail
      clear t0 t1 st0 st1
      go_cut [7] (fun p W1 => ∃ g1, p = .pointer (some ⟨g1, 0, none⟩) ∧ Hid (RvSt w W1 day a len cap 17 n nm (some ⟨b, o, none⟩) 2 cap') ∧ Hid (RvV w W1 g1 R) ∧ Hid (RvV w W1 gs (.tru false)) ∧ Hid (RvV w W1 g (.tru true)))
      case first =>
        have e0 : W0.cell? ⟨w.heap.size + 1, 0, none⟩ = some (.int .i64 day) := ST0.out.env.cell 0
        have e1 : W0.cell? ⟨w.heap.size + 1, 1, none⟩ = some (.slice a len cap) := ST0.out.env.cell 1
        have x3 : W0.cell? ⟨w.heap.size, 3, none⟩ = some (.slice (some ⟨b, o, none⟩) 2 cap') := ST0.out.ex.cell 3
        obtain ⟨u0, u1, u2, u3⟩ := H1.out
        replace u0 := cell_up u0 ST0.out.below
        replace u1 := cell_up u1 ST0.out.below
        replace u2 := cell_up u2 ST0.out.below
        replace u3 := cell_up u3 ST0.out.below
        refine wp_region_till (S := fun W => (W.cell? ⟨w.heap.size + 1, 0, none⟩ = some (.int .i64 day) ∧ W.cell? ⟨w.heap.size + 1, 1, none⟩ = some (.slice a len cap)) ∧ W.cell? ⟨w.heap.size, 3, none⟩ = some (.slice (some ⟨b, o, none⟩) 2 cap') ∧ W.cell? ⟨b, o + 4, none⟩ = some (.int .i64 o1) ∧ W.cell? ⟨b, o + 4 + 1, none⟩ = some (.int .i64 n1) ∧ W.cell? ⟨b, o + 4 + 2, none⟩ = some (.string m1) ∧ W.cell? ⟨b, o + 4 + 3, none⟩ = some (.slice a1 l1 p1)) 7 (by kernel_rfl) ?_
        refine till_take (i := 0) (v := ?_) rfl (by kernel_rfl) (fun _ _ _ h => h) (Or.inl ⟨by rfl, ?_⟩) ⟨⟨e0,e1⟩,x3,u0,u1,u2,u3⟩ ?_
        rotate_left
        · intro W hS
          try dsimp only at hS
          go_split_ands
          go_simp
          try with_reducible rfl
        try simp only [Act.put, List.getElem_toArray, List.getElem_cons_zero, List.getElem_cons_succ, List.setIfInBounds_toArray, List.set_cons_zero, List.set_cons_succ]
        refine till_take (i := 1) (v := ?_) rfl (by kernel_rfl) (fun _ _ _ h => h) (Or.inl ⟨by rfl, ?_⟩) ⟨⟨e0,e1⟩,x3,u0,u1,u2,u3⟩ ?_
        rotate_left
        · intro W hS
          try dsimp only at hS
          go_split_ands
          go_simp
          try with_reducible rfl
        try simp only [Act.put, List.getElem_toArray, List.getElem_cons_zero, List.getElem_cons_succ, List.setIfInBounds_toArray, List.set_cons_zero, List.set_cons_succ]
        refine till_take (i := 2) (v := ?_) rfl (by kernel_rfl) (fun _ _ _ h => h) (Or.inl ⟨by rfl, ?_⟩) ⟨⟨e0,e1⟩,x3,u0,u1,u2,u3⟩ ?_
        rotate_left
        · intro W hS
          try dsimp only at hS
          go_split_ands
          go_simp
          try with_reducible rfl
        try simp only [Act.put, List.getElem_toArray, List.getElem_cons_zero, List.getElem_cons_succ, List.setIfInBounds_toArray, List.set_cons_zero, List.set_cons_succ]
        refine till_take (i := 3) (v := ?_) rfl (by kernel_rfl) (fun _ _ _ h => h) (Or.inl ⟨by rfl, ?_⟩) ⟨⟨e0,e1⟩,x3,u0,u1,u2,u3⟩ ?_
        rotate_left
        · intro W hS
          try dsimp only at hS
          go_split_ands
          go_simp
          try with_reducible rfl
        try simp only [Act.put, List.getElem_toArray, List.getElem_cons_zero, List.getElem_cons_succ, List.setIfInBounds_toArray, List.set_cons_zero, List.set_cons_succ]
        refine till_take (i := 4) (v := ?_) rfl (by kernel_rfl) (fun _ _ _ h => h) (Or.inl ⟨by rfl, ?_⟩) ⟨⟨e0,e1⟩,x3,u0,u1,u2,u3⟩ ?_
        rotate_left
        · intro W hS
          try dsimp only at hS
          go_split_ands
          go_simp
          try with_reducible rfl
        try simp only [Act.put, List.getElem_toArray, List.getElem_cons_zero, List.getElem_cons_succ, List.setIfInBounds_toArray, List.set_cons_zero, List.set_cons_succ]
        refine till_two (i := 5) (j := 6) (by kernel_rfl) rfl rfl (fun K' hK => ?_) (fun K' hK => ?_)
        · go_simp
          go_at_call 39
          (with_reducible refine (RvC.run HCB.out _ ST0.out.below.drew).mono ?_)
          rintro y w1 ⟨hy, b1⟩
          unfold RetW at hy
          subst hy
          have hd := (Below.refl W0.heap.size W0).drew
          have ST1 := Lib.hid ((ST0.out.up hd).up b1)
          have bt := hd.trans (b1.mono hd.size)
          have GG := Lib.hid (And.intro ((VS0.out.up hd).up b1) ((VA.out.up hd).up b1))
          replace e0 := cell_up e0 bt
          replace e1 := cell_up e1 bt
          replace x3 := cell_up x3 bt
          replace u0 := cell_up u0 bt
          replace u1 := cell_up u1 bt
          replace u2 := cell_up u2 bt
          replace u3 := cell_up u3 bt
          refine hK _ _ ⟨⟨e0,e1⟩,x3,u0,u1,u2,u3⟩ ?_
          clear hK K' b1 hd bt
          try simp only [Act.put, List.getElem_toArray, List.getElem_cons_zero, List.getElem_cons_succ, List.setIfInBounds_toArray, List.set_cons_zero, List.set_cons_succ]
          refine till_one (i := 6) (by kernel_rfl) rfl (fun K' hK => ?_)
          go_simp
          have bn := (Below.refl w1.heap.size w1).alloc (Nat.le_refl _) (.cells #[.string ⟨#[]⟩, .int .i64 0] 69)
          have ST2 := Lib.hid (ST1.out.up bn)
          have BZ := Lib.hid (Mem.Blk.new w1 69 #[.string ⟨#[]⟩, .int .i64 0])
          have HZ := Lib.hid ST1.out.lt
          have HP := Lib.hid (And.intro (And.intro (GG.out.1.up bn) (Nat.ne_of_lt GG.out.1.blk.lt)) (And.intro (GG.out.2.up bn) (Nat.ne_of_lt GG.out.2.blk.lt)))
          refine hK _ _ ⟨⟨cell_up e0 bn, cell_up e1 bn⟩, cell_up x3 bn, cell_up u0 bn, cell_up u1 bn, cell_up u2 bn, cell_up u3 bn⟩ ?_
          clear hK K' bn ST1 e0 e1 x3 u0 u1 u2 u3 GG
          generalize w1.alloc (.cells #[.string ⟨#[]⟩, .int .i64 0] 69) = w2 at *
          generalize w1.heap.size = z at *
          try simp only [Act.put, List.getElem_toArray, List.getElem_cons_zero, List.getElem_cons_succ, List.setIfInBounds_toArray, List.set_cons_zero, List.set_cons_succ]
          obtain ⟨t0, t1, t2, t3⟩ := BZ.out.two
          have hm := BZ.out.lt
          refine till_last (by kernel_rfl) rfl (by kernel_rfl) (fun K' hK => ?_)
          go_simp
          have HS9 := Lib.hid (ST2.out.far2 HZ.out (.string (wd R)) (.int .i64 R.N))
          have HV9 := Lib.hid (RvV.mk (v := R) HZ.out ((BZ.out.set_ 0 (.string (wd R))).set_ 1 (.int .i64 R.N)))
          refine hK _ _ ?_
          clear hK K'
          try simp only [Act.put, List.getElem_toArray, List.getElem_cons_zero, List.getElem_cons_succ, List.setIfInBounds_toArray, List.set_cons_zero, List.set_cons_succ]
          refine wpAny_done (by kernel_rfl) ?_ _
          go_wp2_with fail
          go_meet
          case rel => exact ⟨z, rfl, HS9.out, HV9.out, HP.out.1.1.far2 HP.out.1.2 _ _, HP.out.2.1.far2 HP.out.2.2 _ _⟩
        · go_simp
          have bn := below_new W0 (.cells #[.string ⟨#[]⟩, .int .i64 0] 69)
          have ST1 := Lib.hid (ST0.out.up bn)
          have BZ1 := Lib.hid (Mem.Blk.new W0 69 #[.string ⟨#[]⟩, .int .i64 0]).drew
          have HZ := Lib.hid ST0.out.lt
          have HQ := Lib.hid (And.intro (And.intro (VS0.out.up bn) (Nat.ne_of_lt VS0.out.blk.lt)) (And.intro (VA.out.up bn) (Nat.ne_of_lt VA.out.blk.lt)))
          replace e0 := cell_up e0 bn
          replace e1 := cell_up e1 bn
          replace x3 := cell_up x3 bn
          replace u0 := cell_up u0 bn
          replace u1 := cell_up u1 bn
          replace u2 := cell_up u2 bn
          replace u3 := cell_up u3 bn
          refine hK _ _ ⟨⟨e0,e1⟩,x3,u0,u1,u2,u3⟩ ?_
          clear hK K' bn
          generalize (W0.alloc (.cells #[.string ⟨#[]⟩, .int .i64 0] 69)).drew = w1 at *
          generalize W0.heap.size = z at *
          try simp only [Act.put, List.getElem_toArray, List.getElem_cons_zero, List.getElem_cons_succ, List.setIfInBounds_toArray, List.set_cons_zero, List.set_cons_succ]
          refine till_one (i := 5) (by kernel_rfl) rfl (fun K' hK => ?_)
          go_simp
          go_at_call 39
          (with_reducible refine (RvC.run HCB.out _ ST1.out.below).mono ?_)
          rintro y w2 ⟨hy, b1⟩
          unfold RetW at hy
          subst hy
          have ST2 := Lib.hid (ST1.out.up b1)
          have BZ := Lib.hid (BZ1.out.below b1)
          have HP := Lib.hid (And.intro (And.intro (HQ.out.1.1.up b1) HQ.out.1.2) (And.intro (HQ.out.2.1.up b1) HQ.out.2.2))
          refine hK _ _ ⟨⟨cell_up e0 b1, cell_up e1 b1⟩, cell_up x3 b1, cell_up u0 b1, cell_up u1 b1, cell_up u2 b1, cell_up u3 b1⟩ ?_
          clear hK K' b1 ST1 BZ1 e0 e1 x3 u0 u1 u2 u3 HQ
          try simp only [Act.put, List.getElem_toArray, List.getElem_cons_zero, List.getElem_cons_succ, List.setIfInBounds_toArray, List.set_cons_zero, List.set_cons_succ]
          obtain ⟨t0, t1, t2, t3⟩ := BZ.out.two
          have hm := BZ.out.lt
          refine till_last (by kernel_rfl) rfl (by kernel_rfl) (fun K' hK => ?_)
          go_simp
          have HS9 := Lib.hid (ST2.out.far2 HZ.out (.string (wd R)) (.int .i64 R.N))
          have HV9 := Lib.hid (RvV.mk (v := R) HZ.out ((BZ.out.set_ 0 (.string (wd R))).set_ 1 (.int .i64 R.N)))
          refine hK _ _ ?_
          clear hK K'
          try simp only [Act.put, List.getElem_toArray, List.getElem_cons_zero, List.getElem_cons_succ, List.setIfInBounds_toArray, List.set_cons_zero, List.set_cons_succ]
          refine wpAny_done (by kernel_rfl) ?_ _
          go_wp2_with fail
          go_meet
          case rel => exact ⟨z, rfl, HS9.out, HV9.out, HP.out.1.1.far2 HP.out.1.2 _ _, HP.out.2.1.far2 HP.out.2.2 _ _⟩
      obtain ⟨g1, rfl, ST3, VB, VS1, VA1⟩ := hcut
      obtain ⟨W1, rfl⟩ : ∃ W : World, W = wc := ⟨_, rfl⟩
      clear ST0 VA VS0 HCA HCB
      have st0 : W1.cell? ⟨gs, 0, none⟩ = some (.string ⟨#[102]⟩) := VS1.out.blk.cell 0
      have st1 : W1.cell? ⟨gs, 1, none⟩ = some (.int .i64 0) := VS1.out.blk.cell 1
      have t0 : W1.cell? ⟨g, 0, none⟩ = some (.string ⟨#[116]⟩) := VA1.out.blk.cell 0
      have t1 : W1.cell? ⟨g, 1, none⟩ = some (.int .i64 0) := VA1.out.blk.cell 1
      have HP : Hid (RetW R (.returned (.agg #[.string (wd R), .int .i64 R.N]))) := rfl
      have xt0 : W1.cell? ⟨g1, 0, none⟩ = some (.string (wd R)) := VB.out.blk.cell 0
      have xt1 : W1.cell? ⟨g1, 1, none⟩ = some (.int .i64 R.N) := VB.out.blk.cell 1
      clear HTB HTA
      generalize wd R = rk at *
      generalize R.N = rn at *
      obtain ⟨q0, q1, q2, q3⟩ := ST3.out.res.two
      have hm := ST3.out.lt
      have HFN : Hid (Below w.heap.size w ((W1.setCell ⟨w.heap.size + 1 + 1, 0, none⟩ (.string rk)).setCell ⟨w.heap.size + 1 + 1, 1, none⟩ (.int .i64 rn)) ∧ Mem.Blk ((W1.setCell ⟨w.heap.size + 1 + 1, 0, none⟩ (.string rk)).setCell ⟨w.heap.size + 1 + 1, 1, none⟩ (.int .i64 rn)) (w.heap.size + 1 + 1) 69 #[.string rk, .int .i64 rn]) := ⟨(ST3.out.below.setCell (by show w.heap.size ≤ w.heap.size + 1 + 1; omega) _).setCell (by show w.heap.size ≤ w.heap.size + 1 + 1; omega) _, (ST3.out.res.set_ 0 _).set_ 1 _⟩
      go_wp2_with fail
      generalize (W1.setCell ⟨w.heap.size + 1 + 1, 0, none⟩ (.string rk)).setCell ⟨w.heap.size + 1 + 1, 1, none⟩ (.int .i64 rn) = W9 at *
      obtain ⟨r0, r1, -, -⟩ := HFN.out.2.two
      refine bodyPost_ret (v := .agg #[.string rk, .int .i64 rn]) (by simp [results, Try.results39, go_sem, r0, r1]) rfl ⟨HP.out, HFN.out.1⟩
end Go.Proofs.Ytppnmeobnilojaa
