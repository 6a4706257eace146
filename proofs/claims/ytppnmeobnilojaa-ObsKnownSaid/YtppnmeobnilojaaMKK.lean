/- A part of the proof: Evb, Rb, EvX, Lit, Env, one behind another. -/
import Derived.Test.YtppnmeobnilojaaMKA
import Derived.Test.YtppnmeobnilojaaMKB
import Derived.Test.YtppnmeobnilojaaMKC
import Derived.Test.YtppnmeobnilojaaMKD
import Derived.Test.YtppnmeobnilojaaMKE
import Derived.Test.YtppnmeobnilojaaMKF
import Derived.Test.YtppnmeobnilojaaMKG
import Derived.Test.YtppnmeobnilojaaMKH
import Derived.Test.YtppnmeobnilojaaMKI
import Derived.Test.YtppnmeobnilojaaMKJ
/- The contract of eval: ops of two numbers; and all of it. -/
namespace Go.Proofs.Ytppnmeobnilojaa
set_option linter.unusedVariables false
set_option linter.unusedSimpArgs false
open Go.RowKit
set_option maxRecDepth 100000 in
set_option maxHeartbeats 8000000 in
theorem ev_two (w : World) (day : Int) (a : Option Addr) (len cap : Nat) (op n : Int) (nm : ByteArray) (b o cap' : Nat) (o0 n0 o1 n1 : Int) (m0 m1 : ByteArray) (a0 a1 : Option Addr) (l0 p0 l1 p1 : Nat) (A B : Vl) (hop : 5 ≤ op ∧ op ≤ 16) (hA : Ty 1 A) (hB : Ty 1 B) (iA : I64 A.N) (iB : I64 B.N)
    (h0 : Four w b o (.int .i64 o0) (.int .i64 n0) (.string m0) (.slice a0 l0 p0)) (h1 : Four w b (o + 4) (.int .i64 o1) (.int .i64 n1) (.string m1) (.slice a1 l1 p1))
    (HA : EvC w day a len cap (.int .i64 o0) (.int .i64 n0) (.string m0) (.slice a0 l0 p0) A) (HB : EvC w day a len cap (.int .i64 o1) (.int .i64 n1) (.string m1) (.slice a1 l1 p1) B) :
    Calls Try.prog 68 #[.agg #[.int .i64 day, .slice a len cap], .agg #[.int .i64 op, .int .i64 n, .string nm, .slice (some ⟨b, o, none⟩) 2 cap']] w fun x w' => RetV (opV op [A, B]) x ∧ Below w.heap.size w w' := by
  have H0 := Lib.hid h0
  have H1 := Lib.hid h1
  have HCA := Lib.hid HA
  have HCB := Lib.hid HB
  have HTA := Lib.hid hA.of1
  have HTB := Lib.hid hB.of1
  have HIA := Lib.hid iA
  have HIB := Lib.hid iB
  have HOP := Lib.hid hop
  have ST := Lib.hid (EvSt.start w day a len cap op n nm (some ⟨b, o, none⟩) 2 cap')
  obtain ⟨R, hR⟩ : ∃ R, R = opV op [A, B] := ⟨_, rfl⟩
  rw [← hR]
  have HR : Hid (R = if A = .brk ∨ B = .brk then .brk else if A = .unk ∨ B = .unk then .unk else twoV op A.N B.N) := by rw [hR, opV_two (by omega)]; congr
  have z1 : (op == 1) = false := beq_eq_false_iff_ne.2 (by omega)
  have z2 : (op == 2) = false := beq_eq_false_iff_ne.2 (by omega)
  have z3 : (op == 3) = false := beq_eq_false_iff_ne.2 (by omega)
  have z4 : (op == 4) = false := beq_eq_false_iff_ne.2 (by omega)
  have z5 : (op == 17) = false := beq_eq_false_iff_ne.2 (by omega)
  have z6 : (op == 18) = false := beq_eq_false_iff_ne.2 (by omega)
  have z7 : (op == 19) = false := beq_eq_false_iff_ne.2 (by omega)
  have z8 : (op == 20) = false := beq_eq_false_iff_ne.2 (by omega)
  have z9 : (op == 21) = false := beq_eq_false_iff_ne.2 (by omega)
  clear hR h0 h1 HA HB hA hB iA iB hop
  go_enter Try.func68, Try.ntmps68
  go_upto_region 1 with (fail)
  generalize ((w.alloc (.cells #[.int .i64 day, .slice a len cap] 63)).alloc (.cells #[.int .i64 op, .int .i64 n, .string nm, .slice (some ⟨b, o, none⟩) 2 cap'] 46)).alloc (.cells #[.int .i64 0, .int .i64 0, .bool false] 73) = v at *
  obtain ⟨e0, e1, -, -⟩ := ST.out.env.two
  obtain ⟨x0, x1, x2, x3, -, -, -, -⟩ := blk4 ST.out.ex
  go_upto_region 15 with (fail)
  clear e0 e1 x0 x1 x2 x3
  go_cut [7] (fun p W0 => ∃ g, p = .pointer (some ⟨g, 0, none⟩) ∧ Hid (EvSt w W0 day a len cap op n nm (some ⟨b, o, none⟩) 2 cap') ∧ Hid (EvV w W0 g A))
  case first =>
    obtain ⟨e0, e1, -, -⟩ := ST.out.env.two
    have x3 : v.cell? ⟨w.heap.size + 1, 3, none⟩ = _ := ST.out.ex.cell 3
    simp only [List.getElem?_toArray, List.getElem?_cons_zero, List.getElem?_cons_succ] at x3
    obtain ⟨u0, u1, u2, u3⟩ := H0.out
    replace u0 := cell_up u0 ST.out.below
    replace u1 := cell_up u1 ST.out.below
    replace u2 := cell_up u2 ST.out.below
    replace u3 := cell_up u3 ST.out.below
    refine wp_region_till (S := fun W => (W.cell? ⟨w.heap.size, 0, none⟩ = some (.int .i64 day) ∧ W.cell? ⟨w.heap.size, 1, none⟩ = some (.slice a len cap)) ∧ W.cell? ⟨w.heap.size + 1, 3, none⟩ = some (.slice (some ⟨b, o, none⟩) 2 cap') ∧ W.cell? ⟨b, o, none⟩ = some (.int .i64 o0) ∧ W.cell? ⟨b, o + 1, none⟩ = some (.int .i64 n0) ∧ W.cell? ⟨b, o + 2, none⟩ = some (.string m0) ∧ W.cell? ⟨b, o + 3, none⟩ = some (.slice a0 l0 p0)) 7 (by kernel_rfl) ?_
    refine till_take (i := 0) (v := ?_) rfl (by kernel_rfl) (fun _ _ _ h => h) (Or.inl ⟨by rfl, ?_⟩) ⟨⟨e0,e1⟩,x3,u0,u1,u2,u3⟩ ?_
    rotate_left
    · intro W hS
      try dsimp only at hS
      go_split_ands
      go_simp
      try with_reducible rfl
    try simp only [Act.put, List.getElem_toArray, List.getElem_cons_zero, List.getElem_cons_succ, List.setIfInBounds_toArray, List.set_cons_zero, List.set_cons_succ]
    refine till_take (i := 1) (v := ?_) rfl (by kernel_rfl) (fun _ _ _ h => h) (Or.inl ⟨by rfl, ?_⟩) ⟨⟨e0,e1⟩,x3,u0,u1,u2,u3⟩ ?_
    rotate_left
    · intro W hS
      try dsimp only at hS
      go_split_ands
      go_simp
      try with_reducible rfl
    try simp only [Act.put, List.getElem_toArray, List.getElem_cons_zero, List.getElem_cons_succ, List.setIfInBounds_toArray, List.set_cons_zero, List.set_cons_succ]
    refine till_take (i := 2) (v := ?_) rfl (by kernel_rfl) (fun _ _ _ h => h) (Or.inl ⟨by rfl, ?_⟩) ⟨⟨e0,e1⟩,x3,u0,u1,u2,u3⟩ ?_
    rotate_left
    · intro W hS
      try dsimp only at hS
      go_split_ands
      go_simp
      try with_reducible rfl
    try simp only [Act.put, List.getElem_toArray, List.getElem_cons_zero, List.getElem_cons_succ, List.setIfInBounds_toArray, List.set_cons_zero, List.set_cons_succ]
    refine till_take (i := 3) (v := ?_) rfl (by kernel_rfl) (fun _ _ _ h => h) (Or.inl ⟨by rfl, ?_⟩) ⟨⟨e0,e1⟩,x3,u0,u1,u2,u3⟩ ?_
    rotate_left
    · intro W hS
      try dsimp only at hS
      go_split_ands
      go_simp
      try with_reducible rfl
    try simp only [Act.put, List.getElem_toArray, List.getElem_cons_zero, List.getElem_cons_succ, List.setIfInBounds_toArray, List.set_cons_zero, List.set_cons_succ]
    refine till_take (i := 4) (v := ?_) rfl (by kernel_rfl) (fun _ _ _ h => h) (Or.inl ⟨by rfl, ?_⟩) ⟨⟨e0,e1⟩,x3,u0,u1,u2,u3⟩ ?_
    rotate_left
    · intro W hS
      try dsimp only at hS
      go_split_ands
      go_simp
      try with_reducible rfl
    try simp only [Act.put, List.getElem_toArray, List.getElem_cons_zero, List.getElem_cons_succ, List.setIfInBounds_toArray, List.set_cons_zero, List.set_cons_succ]
    refine till_two (i := 5) (j := 6) (by kernel_rfl) rfl rfl (fun K' hK => ?_) (fun K' hK => ?_)
    · go_simp
      go_at_call 68
      (with_reducible refine (EvC.run HCA.out _ ST.out.below.drew).mono ?_)
      rintro y w1 ⟨hy, b1⟩
      unfold RetV at hy
      subst hy
      have hd := (Below.refl v.heap.size v).drew
      have ST1 := Lib.hid ((ST.out.up hd).up b1)
      have bt := hd.trans (b1.mono hd.size)
      have GG := Lib.hid (True.intro)
      replace e0 := cell_up e0 bt
      replace e1 := cell_up e1 bt
      replace x3 := cell_up x3 bt
      replace u0 := cell_up u0 bt
      replace u1 := cell_up u1 bt
      replace u2 := cell_up u2 bt
      replace u3 := cell_up u3 bt
      refine hK _ _ ⟨⟨e0,e1⟩,x3,u0,u1,u2,u3⟩ ?_
      clear hK K' b1 hd bt
      try simp only [Act.put, List.getElem_toArray, List.getElem_cons_zero, List.getElem_cons_succ, List.setIfInBounds_toArray, List.set_cons_zero, List.set_cons_succ]
      refine till_one (i := 6) (by kernel_rfl) rfl (fun K' hK => ?_)
      go_simp
      have bn := (Below.refl w1.heap.size w1).alloc (Nat.le_refl _) (.cells #[.int .i64 0, .int .i64 0, .bool false] 73)
      have ST2 := Lib.hid (ST1.out.up bn)
      have BZ := Lib.hid (Mem.Blk.new w1 73 #[.int .i64 0, .int .i64 0, .bool false])
      have HZ := Lib.hid ST1.out.lt
      have HP := Lib.hid (True.intro)
      refine hK _ _ ⟨⟨cell_up e0 bn, cell_up e1 bn⟩, cell_up x3 bn, cell_up u0 bn, cell_up u1 bn, cell_up u2 bn, cell_up u3 bn⟩ ?_
      clear hK K' bn ST1 e0 e1 x3 u0 u1 u2 u3 GG
      generalize w1.alloc (.cells #[.int .i64 0, .int .i64 0, .bool false] 73) = w2 at *
      generalize w1.heap.size = z at *
      try simp only [Act.put, List.getElem_toArray, List.getElem_cons_zero, List.getElem_cons_succ, List.setIfInBounds_toArray, List.set_cons_zero, List.set_cons_succ]
      obtain ⟨t0, t1, t2, t3, t4, t5⟩ := blk3 BZ.out
      have hm := BZ.out.lt
      refine till_last (by kernel_rfl) rfl (by kernel_rfl) (fun K' hK => ?_)
      go_simp
      have HS9 := Lib.hid (ST2.out.far3 HZ.out (.int .i64 A.K) (.int .i64 A.N) (.bool A.B))
      have HV9 := Lib.hid (EvV.mk (v := A) HZ.out (((BZ.out.set_ 0 (.int .i64 A.K)).set_ 1 (.int .i64 A.N)).set_ 2 (.bool A.B)))
      refine hK _ _ ?_
      clear hK K'
      try simp only [Act.put, List.getElem_toArray, List.getElem_cons_zero, List.getElem_cons_succ, List.setIfInBounds_toArray, List.set_cons_zero, List.set_cons_succ]
      refine wpAny_done (by kernel_rfl) ?_ _
      go_wp2_with fail
      go_meet
      case rel => exact ⟨z, rfl, HS9.out, HV9.out⟩
    · go_simp
      have bn := below_new v (.cells #[.int .i64 0, .int .i64 0, .bool false] 73)
      have ST1 := Lib.hid (ST.out.up bn)
      have BZ1 := Lib.hid (Mem.Blk.new v 73 #[.int .i64 0, .int .i64 0, .bool false]).drew
      have HZ := Lib.hid ST.out.lt
      have HQ := Lib.hid (True.intro)
      replace e0 := cell_up e0 bn
      replace e1 := cell_up e1 bn
      replace x3 := cell_up x3 bn
      replace u0 := cell_up u0 bn
      replace u1 := cell_up u1 bn
      replace u2 := cell_up u2 bn
      replace u3 := cell_up u3 bn
      refine hK _ _ ⟨⟨e0,e1⟩,x3,u0,u1,u2,u3⟩ ?_
      clear hK K' bn
      generalize (v.alloc (.cells #[.int .i64 0, .int .i64 0, .bool false] 73)).drew = w1 at *
      generalize v.heap.size = z at *
      try simp only [Act.put, List.getElem_toArray, List.getElem_cons_zero, List.getElem_cons_succ, List.setIfInBounds_toArray, List.set_cons_zero, List.set_cons_succ]
      refine till_one (i := 5) (by kernel_rfl) rfl (fun K' hK => ?_)
      go_simp
      go_at_call 68
      (with_reducible refine (EvC.run HCA.out _ ST1.out.below).mono ?_)
      rintro y w2 ⟨hy, b1⟩
      unfold RetV at hy
      subst hy
      have ST2 := Lib.hid (ST1.out.up b1)
      have BZ := Lib.hid (BZ1.out.below b1)
      have HP := Lib.hid (True.intro)
      refine hK _ _ ⟨⟨cell_up e0 b1, cell_up e1 b1⟩, cell_up x3 b1, cell_up u0 b1, cell_up u1 b1, cell_up u2 b1, cell_up u3 b1⟩ ?_
      clear hK K' b1 ST1 BZ1 e0 e1 x3 u0 u1 u2 u3 HQ
      try simp only [Act.put, List.getElem_toArray, List.getElem_cons_zero, List.getElem_cons_succ, List.setIfInBounds_toArray, List.set_cons_zero, List.set_cons_succ]
      obtain ⟨t0, t1, t2, t3, t4, t5⟩ := blk3 BZ.out
      have hm := BZ.out.lt
      refine till_last (by kernel_rfl) rfl (by kernel_rfl) (fun K' hK => ?_)
      go_simp
      have HS9 := Lib.hid (ST2.out.far3 HZ.out (.int .i64 A.K) (.int .i64 A.N) (.bool A.B))
      have HV9 := Lib.hid (EvV.mk (v := A) HZ.out (((BZ.out.set_ 0 (.int .i64 A.K)).set_ 1 (.int .i64 A.N)).set_ 2 (.bool A.B)))
      refine hK _ _ ?_
      clear hK K'
      try simp only [Act.put, List.getElem_toArray, List.getElem_cons_zero, List.getElem_cons_succ, List.setIfInBounds_toArray, List.set_cons_zero, List.set_cons_succ]
      refine wpAny_done (by kernel_rfl) ?_ _
      go_wp2_with fail
      go_meet
      case rel => exact ⟨z, rfl, HS9.out, HV9.out⟩
  obtain ⟨g, rfl, ST0, VA⟩ := hcut
  obtain ⟨W0, rfl⟩ : ∃ W : World, W = wc := ⟨_, rfl⟩
  clear ST
  rcases HTA.out with rfl | rfl | ⟨x, rfl⟩
  · have HR1 : Hid (R = if B = .brk then .brk else .unk) := by rw [HR.out]; simp [Hid]
    clear HR
    have t0 : W0.cell? ⟨g, 0, none⟩ = some (.int .i64 0) := VA.out.blk.cell 0
    have t1 : W0.cell? ⟨g, 1, none⟩ = some (.int .i64 0) := VA.out.blk.cell 1
    have t2 : W0.cell? ⟨g, 2, none⟩ = some (.bool false) := VA.out.blk.cell 2
    obtain ⟨e0, e1, -, -⟩ := ST0.out.env.two
    obtain ⟨x0, x1, x2, x3, -, -, -, -⟩ := blk4 ST0.out.ex
    go_upto_region 30 with (fail)
    clear e0 e1 x0 x1 x2 x3 t0 t1 t2
    go_cut [9] (fun p W1 => ∃ g1, p = .pointer (some ⟨g1, 0, none⟩) ∧ Hid (EvSt w W1 day a len cap op n nm (some ⟨b, o, none⟩) 2 cap') ∧ Hid (EvV w W1 g1 B) ∧ Hid (EvV w W1 g .unk))
    case first =>
      obtain ⟨e0, e1, -, -⟩ := ST0.out.env.two
      have x3 : W0.cell? ⟨w.heap.size + 1, 3, none⟩ = _ := ST0.out.ex.cell 3
      simp only [List.getElem?_toArray, List.getElem?_cons_zero, List.getElem?_cons_succ] at x3
      obtain ⟨u0, u1, u2, u3⟩ := H1.out
      replace u0 := cell_up u0 ST0.out.below
      replace u1 := cell_up u1 ST0.out.below
      replace u2 := cell_up u2 ST0.out.below
      replace u3 := cell_up u3 ST0.out.below
      refine wp_region_till (S := fun W => (W.cell? ⟨w.heap.size, 0, none⟩ = some (.int .i64 day) ∧ W.cell? ⟨w.heap.size, 1, none⟩ = some (.slice a len cap)) ∧ W.cell? ⟨w.heap.size + 1, 3, none⟩ = some (.slice (some ⟨b, o, none⟩) 2 cap') ∧ W.cell? ⟨b, o + 4, none⟩ = some (.int .i64 o1) ∧ W.cell? ⟨b, o + 4 + 1, none⟩ = some (.int .i64 n1) ∧ W.cell? ⟨b, o + 4 + 2, none⟩ = some (.string m1) ∧ W.cell? ⟨b, o + 4 + 3, none⟩ = some (.slice a1 l1 p1)) 7 (by kernel_rfl) ?_
      refine till_take (i := 0) (v := ?_) rfl (by kernel_rfl) (fun _ _ _ h => h) (Or.inl ⟨by rfl, ?_⟩) ⟨⟨e0,e1⟩,x3,u0,u1,u2,u3⟩ ?_
      rotate_left
      · intro W hS
        try dsimp only at hS
        go_split_ands
        go_simp
        try with_reducible rfl
      try simp only [Act.put, List.getElem_toArray, List.getElem_cons_zero, List.getElem_cons_succ, List.setIfInBounds_toArray, List.set_cons_zero, List.set_cons_succ]
      refine till_take (i := 1) (v := ?_) rfl (by kernel_rfl) (fun _ _ _ h => h) (Or.inl ⟨by rfl, ?_⟩) ⟨⟨e0,e1⟩,x3,u0,u1,u2,u3⟩ ?_
      rotate_left
      · intro W hS
        try dsimp only at hS
        go_split_ands
        go_simp
        try with_reducible rfl
      try simp only [Act.put, List.getElem_toArray, List.getElem_cons_zero, List.getElem_cons_succ, List.setIfInBounds_toArray, List.set_cons_zero, List.set_cons_succ]
      refine till_take (i := 2) (v := ?_) rfl (by kernel_rfl) (fun _ _ _ h => h) (Or.inl ⟨by rfl, ?_⟩) ⟨⟨e0,e1⟩,x3,u0,u1,u2,u3⟩ ?_
      rotate_left
      · intro W hS
        try dsimp only at hS
        go_split_ands
        go_simp
        try with_reducible rfl
      try simp only [Act.put, List.getElem_toArray, List.getElem_cons_zero, List.getElem_cons_succ, List.setIfInBounds_toArray, List.set_cons_zero, List.set_cons_succ]
      refine till_take (i := 3) (v := ?_) rfl (by kernel_rfl) (fun _ _ _ h => h) (Or.inl ⟨by rfl, ?_⟩) ⟨⟨e0,e1⟩,x3,u0,u1,u2,u3⟩ ?_
      rotate_left
      · intro W hS
        try dsimp only at hS
        go_split_ands
        go_simp
        try with_reducible rfl
      try simp only [Act.put, List.getElem_toArray, List.getElem_cons_zero, List.getElem_cons_succ, List.setIfInBounds_toArray, List.set_cons_zero, List.set_cons_succ]
      refine till_take (i := 4) (v := ?_) rfl (by kernel_rfl) (fun _ _ _ h => h) (Or.inl ⟨by rfl, ?_⟩) ⟨⟨e0,e1⟩,x3,u0,u1,u2,u3⟩ ?_
      rotate_left
      · intro W hS
        try dsimp only at hS
        go_split_ands
        go_simp
        try with_reducible rfl
      try simp only [Act.put, List.getElem_toArray, List.getElem_cons_zero, List.getElem_cons_succ, List.setIfInBounds_toArray, List.set_cons_zero, List.set_cons_succ]
      refine till_two (i := 5) (j := 6) (by kernel_rfl) rfl rfl (fun K' hK => ?_) (fun K' hK => ?_)
      · go_simp
        go_at_call 68
        (with_reducible refine (EvC.run HCB.out _ ST0.out.below.drew).mono ?_)
        rintro y w1 ⟨hy, b1⟩
        unfold RetV at hy
        subst hy
        have hd := (Below.refl W0.heap.size W0).drew
        have ST1 := Lib.hid ((ST0.out.up hd).up b1)
        have bt := hd.trans (b1.mono hd.size)
        have GG := Lib.hid ((VA.out.up hd).up b1)
        replace e0 := cell_up e0 bt
        replace e1 := cell_up e1 bt
        replace x3 := cell_up x3 bt
        replace u0 := cell_up u0 bt
        replace u1 := cell_up u1 bt
        replace u2 := cell_up u2 bt
        replace u3 := cell_up u3 bt
        refine hK _ _ ⟨⟨e0,e1⟩,x3,u0,u1,u2,u3⟩ ?_
        clear hK K' b1 hd bt
        try simp only [Act.put, List.getElem_toArray, List.getElem_cons_zero, List.getElem_cons_succ, List.setIfInBounds_toArray, List.set_cons_zero, List.set_cons_succ]
        refine till_one (i := 6) (by kernel_rfl) rfl (fun K' hK => ?_)
        go_simp
        have bn := (Below.refl w1.heap.size w1).alloc (Nat.le_refl _) (.cells #[.int .i64 0, .int .i64 0, .bool false] 73)
        have ST2 := Lib.hid (ST1.out.up bn)
        have BZ := Lib.hid (Mem.Blk.new w1 73 #[.int .i64 0, .int .i64 0, .bool false])
        have HZ := Lib.hid ST1.out.lt
        have HP := Lib.hid (And.intro (GG.out.up bn) (Nat.ne_of_lt GG.out.blk.lt))
        refine hK _ _ ⟨⟨cell_up e0 bn, cell_up e1 bn⟩, cell_up x3 bn, cell_up u0 bn, cell_up u1 bn, cell_up u2 bn, cell_up u3 bn⟩ ?_
        clear hK K' bn ST1 e0 e1 x3 u0 u1 u2 u3 GG
        generalize w1.alloc (.cells #[.int .i64 0, .int .i64 0, .bool false] 73) = w2 at *
        generalize w1.heap.size = z at *
        try simp only [Act.put, List.getElem_toArray, List.getElem_cons_zero, List.getElem_cons_succ, List.setIfInBounds_toArray, List.set_cons_zero, List.set_cons_succ]
        obtain ⟨t0, t1, t2, t3, t4, t5⟩ := blk3 BZ.out
        have hm := BZ.out.lt
        refine till_last (by kernel_rfl) rfl (by kernel_rfl) (fun K' hK => ?_)
        go_simp
        have HS9 := Lib.hid (ST2.out.far3 HZ.out (.int .i64 B.K) (.int .i64 B.N) (.bool B.B))
        have HV9 := Lib.hid (EvV.mk (v := B) HZ.out (((BZ.out.set_ 0 (.int .i64 B.K)).set_ 1 (.int .i64 B.N)).set_ 2 (.bool B.B)))
        refine hK _ _ ?_
        clear hK K'
        try simp only [Act.put, List.getElem_toArray, List.getElem_cons_zero, List.getElem_cons_succ, List.setIfInBounds_toArray, List.set_cons_zero, List.set_cons_succ]
        refine wpAny_done (by kernel_rfl) ?_ _
        go_wp2_with fail
        go_meet
        case rel => exact ⟨z, rfl, HS9.out, HV9.out, HP.out.1.far3 HP.out.2 _ _ _⟩
      · go_simp
        have bn := below_new W0 (.cells #[.int .i64 0, .int .i64 0, .bool false] 73)
        have ST1 := Lib.hid (ST0.out.up bn)
        have BZ1 := Lib.hid (Mem.Blk.new W0 73 #[.int .i64 0, .int .i64 0, .bool false]).drew
        have HZ := Lib.hid ST0.out.lt
        have HQ := Lib.hid (And.intro (VA.out.up bn) (Nat.ne_of_lt VA.out.blk.lt))
        replace e0 := cell_up e0 bn
        replace e1 := cell_up e1 bn
        replace x3 := cell_up x3 bn
        replace u0 := cell_up u0 bn
        replace u1 := cell_up u1 bn
        replace u2 := cell_up u2 bn
        replace u3 := cell_up u3 bn
        refine hK _ _ ⟨⟨e0,e1⟩,x3,u0,u1,u2,u3⟩ ?_
        clear hK K' bn
        generalize (W0.alloc (.cells #[.int .i64 0, .int .i64 0, .bool false] 73)).drew = w1 at *
        generalize W0.heap.size = z at *
        try simp only [Act.put, List.getElem_toArray, List.getElem_cons_zero, List.getElem_cons_succ, List.setIfInBounds_toArray, List.set_cons_zero, List.set_cons_succ]
        refine till_one (i := 5) (by kernel_rfl) rfl (fun K' hK => ?_)
        go_simp
        go_at_call 68
        (with_reducible refine (EvC.run HCB.out _ ST1.out.below).mono ?_)
        rintro y w2 ⟨hy, b1⟩
        unfold RetV at hy
        subst hy
        have ST2 := Lib.hid (ST1.out.up b1)
        have BZ := Lib.hid (BZ1.out.below b1)
        have HP := Lib.hid (And.intro (HQ.out.1.up b1) HQ.out.2)
        refine hK _ _ ⟨⟨cell_up e0 b1, cell_up e1 b1⟩, cell_up x3 b1, cell_up u0 b1, cell_up u1 b1, cell_up u2 b1, cell_up u3 b1⟩ ?_
        clear hK K' b1 ST1 BZ1 e0 e1 x3 u0 u1 u2 u3 HQ
        try simp only [Act.put, List.getElem_toArray, List.getElem_cons_zero, List.getElem_cons_succ, List.setIfInBounds_toArray, List.set_cons_zero, List.set_cons_succ]
        obtain ⟨t0, t1, t2, t3, t4, t5⟩ := blk3 BZ.out
        have hm := BZ.out.lt
        refine till_last (by kernel_rfl) rfl (by kernel_rfl) (fun K' hK => ?_)
        go_simp
        have HS9 := Lib.hid (ST2.out.far3 HZ.out (.int .i64 B.K) (.int .i64 B.N) (.bool B.B))
        have HV9 := Lib.hid (EvV.mk (v := B) HZ.out (((BZ.out.set_ 0 (.int .i64 B.K)).set_ 1 (.int .i64 B.N)).set_ 2 (.bool B.B)))
        refine hK _ _ ?_
        clear hK K'
        try simp only [Act.put, List.getElem_toArray, List.getElem_cons_zero, List.getElem_cons_succ, List.setIfInBounds_toArray, List.set_cons_zero, List.set_cons_succ]
        refine wpAny_done (by kernel_rfl) ?_ _
        go_wp2_with fail
        go_meet
        case rel => exact ⟨z, rfl, HS9.out, HV9.out, HP.out.1.far3 HP.out.2 _ _ _⟩
    obtain ⟨g1, rfl, ST1, VB, VA1⟩ := hcut
    obtain ⟨W1, rfl⟩ : ∃ W : World, W = wc := ⟨_, rfl⟩
    clear ST0 VA HCB HCA
    rcases HTB.out with rfl | rfl | ⟨y, rfl⟩
    · obtain rfl : R = .unk := by rw [HR1.out]; simp
      have t0 : W1.cell? ⟨g, 0, none⟩ = some (.int .i64 0) := VA1.out.blk.cell 0
      have t1 : W1.cell? ⟨g, 1, none⟩ = some (.int .i64 0) := VA1.out.blk.cell 1
      have t2 : W1.cell? ⟨g, 2, none⟩ = some (.bool false) := VA1.out.blk.cell 2
      have xt0 : W1.cell? ⟨g1, 0, none⟩ = some (.int .i64 0) := VB.out.blk.cell 0
      have xt1 : W1.cell? ⟨g1, 1, none⟩ = some (.int .i64 0) := VB.out.blk.cell 1
      have xt2 : W1.cell? ⟨g1, 2, none⟩ = some (.bool false) := VB.out.blk.cell 2
      obtain ⟨e0, e1, -, -⟩ := ST1.out.env.two
      obtain ⟨x0, x1, x2, x3, -, -, -, -⟩ := blk4 ST1.out.ex
      have HFN := Lib.hid (ret3 (.int .i64 0) (.int .i64 0) (.bool false) ST1.out.below (by omega : w.heap.size ≤ w.heap.size + 1 + 1) ST1.out.res)
      obtain ⟨q0, q1, q2, q3, q4, q5⟩ := blk3 ST1.out.res
      have hm := ST1.out.lt
      go_wp2_with fail
      generalize ((W1.setCell ⟨w.heap.size + 1 + 1, 0, none⟩ (.int .i64 0)).setCell ⟨w.heap.size + 1 + 1, 1, none⟩ (.int .i64 0)).setCell ⟨w.heap.size + 1 + 1, 2, none⟩ (.bool false) = W9 at *
      obtain ⟨r0, r1, r2, -, -, -⟩ := blk3 HFN.out.2
      refine bodyPost_ret (v := .agg #[.int .i64 0, .int .i64 0, .bool false]) (by simp [results, Try.results68, go_sem, r0, r1, r2]) rfl ⟨rfl, HFN.out.1⟩
    · obtain rfl : R = .brk := by rw [HR1.out]; simp
      have t0 : W1.cell? ⟨g, 0, none⟩ = some (.int .i64 0) := VA1.out.blk.cell 0
      have t1 : W1.cell? ⟨g, 1, none⟩ = some (.int .i64 0) := VA1.out.blk.cell 1
      have t2 : W1.cell? ⟨g, 2, none⟩ = some (.bool false) := VA1.out.blk.cell 2
      have xt0 : W1.cell? ⟨g1, 0, none⟩ = some (.int .i64 3) := VB.out.blk.cell 0
      have xt1 : W1.cell? ⟨g1, 1, none⟩ = some (.int .i64 0) := VB.out.blk.cell 1
      have xt2 : W1.cell? ⟨g1, 2, none⟩ = some (.bool false) := VB.out.blk.cell 2
      obtain ⟨e0, e1, -, -⟩ := ST1.out.env.two
      obtain ⟨x0, x1, x2, x3, -, -, -, -⟩ := blk4 ST1.out.ex
      have HFN := Lib.hid (ret3 (.int .i64 3) (.int .i64 0) (.bool false) ST1.out.below (by omega : w.heap.size ≤ w.heap.size + 1 + 1) ST1.out.res)
      obtain ⟨q0, q1, q2, q3, q4, q5⟩ := blk3 ST1.out.res
      have hm := ST1.out.lt
      go_wp2_with fail
      generalize ((W1.setCell ⟨w.heap.size + 1 + 1, 0, none⟩ (.int .i64 3)).setCell ⟨w.heap.size + 1 + 1, 1, none⟩ (.int .i64 0)).setCell ⟨w.heap.size + 1 + 1, 2, none⟩ (.bool false) = W9 at *
      obtain ⟨r0, r1, r2, -, -, -⟩ := blk3 HFN.out.2
      refine bodyPost_ret (v := .agg #[.int .i64 3, .int .i64 0, .bool false]) (by simp [results, Try.results68, go_sem, r0, r1, r2]) rfl ⟨rfl, HFN.out.1⟩
    · obtain rfl : R = .unk := by rw [HR1.out]; simp
      have t0 : W1.cell? ⟨g, 0, none⟩ = some (.int .i64 0) := VA1.out.blk.cell 0
      have t1 : W1.cell? ⟨g, 1, none⟩ = some (.int .i64 0) := VA1.out.blk.cell 1
      have t2 : W1.cell? ⟨g, 2, none⟩ = some (.bool false) := VA1.out.blk.cell 2
      have xt0 : W1.cell? ⟨g1, 0, none⟩ = some (.int .i64 1) := VB.out.blk.cell 0
      have xt1 : W1.cell? ⟨g1, 1, none⟩ = some (.int .i64 y) := VB.out.blk.cell 1
      have xt2 : W1.cell? ⟨g1, 2, none⟩ = some (.bool false) := VB.out.blk.cell 2
      obtain ⟨e0, e1, -, -⟩ := ST1.out.env.two
      obtain ⟨x0, x1, x2, x3, -, -, -, -⟩ := blk4 ST1.out.ex
      have HFN := Lib.hid (ret3 (.int .i64 0) (.int .i64 0) (.bool false) ST1.out.below (by omega : w.heap.size ≤ w.heap.size + 1 + 1) ST1.out.res)
      obtain ⟨q0, q1, q2, q3, q4, q5⟩ := blk3 ST1.out.res
      have hm := ST1.out.lt
      go_wp2_with fail
      generalize ((W1.setCell ⟨w.heap.size + 1 + 1, 0, none⟩ (.int .i64 0)).setCell ⟨w.heap.size + 1 + 1, 1, none⟩ (.int .i64 0)).setCell ⟨w.heap.size + 1 + 1, 2, none⟩ (.bool false) = W9 at *
      obtain ⟨r0, r1, r2, -, -, -⟩ := blk3 HFN.out.2
      refine bodyPost_ret (v := .agg #[.int .i64 0, .int .i64 0, .bool false]) (by simp [results, Try.results68, go_sem, r0, r1, r2]) rfl ⟨rfl, HFN.out.1⟩
  · obtain rfl : R = .brk := by rw [HR.out]; simp
    have t0 : W0.cell? ⟨g, 0, none⟩ = some (.int .i64 3) := VA.out.blk.cell 0
    have t1 : W0.cell? ⟨g, 1, none⟩ = some (.int .i64 0) := VA.out.blk.cell 1
    have t2 : W0.cell? ⟨g, 2, none⟩ = some (.bool false) := VA.out.blk.cell 2
    obtain ⟨e0, e1, -, -⟩ := ST0.out.env.two
    obtain ⟨x0, x1, x2, x3, -, -, -, -⟩ := blk4 ST0.out.ex
    have HFN := Lib.hid (ret3 (.int .i64 3) (.int .i64 0) (.bool false) ST0.out.below (by omega : w.heap.size ≤ w.heap.size + 1 + 1) ST0.out.res)
    obtain ⟨q0, q1, q2, q3, q4, q5⟩ := blk3 ST0.out.res
    have hm := ST0.out.lt
    go_wp2_with fail
    generalize ((W0.setCell ⟨w.heap.size + 1 + 1, 0, none⟩ (.int .i64 3)).setCell ⟨w.heap.size + 1 + 1, 1, none⟩ (.int .i64 0)).setCell ⟨w.heap.size + 1 + 1, 2, none⟩ (.bool false) = W9 at *
    obtain ⟨r0, r1, r2, -, -, -⟩ := blk3 HFN.out.2
    refine bodyPost_ret (v := .agg #[.int .i64 3, .int .i64 0, .bool false]) (by simp [results, Try.results68, go_sem, r0, r1, r2]) rfl ⟨rfl, HFN.out.1⟩
  · have HR1 : Hid (R = if B = .brk then .brk else if B = .unk then .unk else twoV op x B.N) := by rw [HR.out]; simp [Hid, Vl.N]
    have HX : Hid (I64 x) := HIA.out
    clear HR HIA
    have t0 : W0.cell? ⟨g, 0, none⟩ = some (.int .i64 1) := VA.out.blk.cell 0
    have t1 : W0.cell? ⟨g, 1, none⟩ = some (.int .i64 x) := VA.out.blk.cell 1
    have t2 : W0.cell? ⟨g, 2, none⟩ = some (.bool false) := VA.out.blk.cell 2
    obtain ⟨e0, e1, -, -⟩ := ST0.out.env.two
    obtain ⟨x0, x1, x2, x3, -, -, -, -⟩ := blk4 ST0.out.ex
    go_upto_region 30 with (fail)
    clear e0 e1 x0 x1 x2 x3 t0 t1 t2
    go_cut [9] (fun p W1 => ∃ g1, p = .pointer (some ⟨g1, 0, none⟩) ∧ Hid (EvSt w W1 day a len cap op n nm (some ⟨b, o, none⟩) 2 cap') ∧ Hid (EvV w W1 g1 B) ∧ Hid (EvV w W1 g (.num x)))
    case first =>
      obtain ⟨e0, e1, -, -⟩ := ST0.out.env.two
      have x3 : W0.cell? ⟨w.heap.size + 1, 3, none⟩ = _ := ST0.out.ex.cell 3
      simp only [List.getElem?_toArray, List.getElem?_cons_zero, List.getElem?_cons_succ] at x3
      obtain ⟨u0, u1, u2, u3⟩ := H1.out
      replace u0 := cell_up u0 ST0.out.below
      replace u1 := cell_up u1 ST0.out.below
      replace u2 := cell_up u2 ST0.out.below
      replace u3 := cell_up u3 ST0.out.below
      refine wp_region_till (S := fun W => (W.cell? ⟨w.heap.size, 0, none⟩ = some (.int .i64 day) ∧ W.cell? ⟨w.heap.size, 1, none⟩ = some (.slice a len cap)) ∧ W.cell? ⟨w.heap.size + 1, 3, none⟩ = some (.slice (some ⟨b, o, none⟩) 2 cap') ∧ W.cell? ⟨b, o + 4, none⟩ = some (.int .i64 o1) ∧ W.cell? ⟨b, o + 4 + 1, none⟩ = some (.int .i64 n1) ∧ W.cell? ⟨b, o + 4 + 2, none⟩ = some (.string m1) ∧ W.cell? ⟨b, o + 4 + 3, none⟩ = some (.slice a1 l1 p1)) 7 (by kernel_rfl) ?_
      refine till_take (i := 0) (v := ?_) rfl (by kernel_rfl) (fun _ _ _ h => h) (Or.inl ⟨by rfl, ?_⟩) ⟨⟨e0,e1⟩,x3,u0,u1,u2,u3⟩ ?_
      rotate_left
      · intro W hS
        try dsimp only at hS
        go_split_ands
        go_simp
        try with_reducible rfl
      try simp only [Act.put, List.getElem_toArray, List.getElem_cons_zero, List.getElem_cons_succ, List.setIfInBounds_toArray, List.set_cons_zero, List.set_cons_succ]
      refine till_take (i := 1) (v := ?_) rfl (by kernel_rfl) (fun _ _ _ h => h) (Or.inl ⟨by rfl, ?_⟩) ⟨⟨e0,e1⟩,x3,u0,u1,u2,u3⟩ ?_
      rotate_left
      · intro W hS
        try dsimp only at hS
        go_split_ands
        go_simp
        try with_reducible rfl
      try simp only [Act.put, List.getElem_toArray, List.getElem_cons_zero, List.getElem_cons_succ, List.setIfInBounds_toArray, List.set_cons_zero, List.set_cons_succ]
      refine till_take (i := 2) (v := ?_) rfl (by kernel_rfl) (fun _ _ _ h => h) (Or.inl ⟨by rfl, ?_⟩) ⟨⟨e0,e1⟩,x3,u0,u1,u2,u3⟩ ?_
      rotate_left
      · intro W hS
        try dsimp only at hS
        go_split_ands
        go_simp
        try with_reducible rfl
      try simp only [Act.put, List.getElem_toArray, List.getElem_cons_zero, List.getElem_cons_succ, List.setIfInBounds_toArray, List.set_cons_zero, List.set_cons_succ]
      refine till_take (i := 3) (v := ?_) rfl (by kernel_rfl) (fun _ _ _ h => h) (Or.inl ⟨by rfl, ?_⟩) ⟨⟨e0,e1⟩,x3,u0,u1,u2,u3⟩ ?_
      rotate_left
      · intro W hS
        try dsimp only at hS
        go_split_ands
        go_simp
        try with_reducible rfl
      try simp only [Act.put, List.getElem_toArray, List.getElem_cons_zero, List.getElem_cons_succ, List.setIfInBounds_toArray, List.set_cons_zero, List.set_cons_succ]
      refine till_take (i := 4) (v := ?_) rfl (by kernel_rfl) (fun _ _ _ h => h) (Or.inl ⟨by rfl, ?_⟩) ⟨⟨e0,e1⟩,x3,u0,u1,u2,u3⟩ ?_
      rotate_left
      · intro W hS
        try dsimp only at hS
        go_split_ands
        go_simp
        try with_reducible rfl
      try simp only [Act.put, List.getElem_toArray, List.getElem_cons_zero, List.getElem_cons_succ, List.setIfInBounds_toArray, List.set_cons_zero, List.set_cons_succ]
      refine till_two (i := 5) (j := 6) (by kernel_rfl) rfl rfl (fun K' hK => ?_) (fun K' hK => ?_)
      · go_simp
        go_at_call 68
        (with_reducible refine (EvC.run HCB.out _ ST0.out.below.drew).mono ?_)
        rintro y w1 ⟨hy, b1⟩
        unfold RetV at hy
        subst hy
        have hd := (Below.refl W0.heap.size W0).drew
        have ST1 := Lib.hid ((ST0.out.up hd).up b1)
        have bt := hd.trans (b1.mono hd.size)
        have GG := Lib.hid ((VA.out.up hd).up b1)
        replace e0 := cell_up e0 bt
        replace e1 := cell_up e1 bt
        replace x3 := cell_up x3 bt
        replace u0 := cell_up u0 bt
        replace u1 := cell_up u1 bt
        replace u2 := cell_up u2 bt
        replace u3 := cell_up u3 bt
        refine hK _ _ ⟨⟨e0,e1⟩,x3,u0,u1,u2,u3⟩ ?_
        clear hK K' b1 hd bt
        try simp only [Act.put, List.getElem_toArray, List.getElem_cons_zero, List.getElem_cons_succ, List.setIfInBounds_toArray, List.set_cons_zero, List.set_cons_succ]
        refine till_one (i := 6) (by kernel_rfl) rfl (fun K' hK => ?_)
        go_simp
        have bn := (Below.refl w1.heap.size w1).alloc (Nat.le_refl _) (.cells #[.int .i64 0, .int .i64 0, .bool false] 73)
        have ST2 := Lib.hid (ST1.out.up bn)
        have BZ := Lib.hid (Mem.Blk.new w1 73 #[.int .i64 0, .int .i64 0, .bool false])
        have HZ := Lib.hid ST1.out.lt
        have HP := Lib.hid (And.intro (GG.out.up bn) (Nat.ne_of_lt GG.out.blk.lt))
        refine hK _ _ ⟨⟨cell_up e0 bn, cell_up e1 bn⟩, cell_up x3 bn, cell_up u0 bn, cell_up u1 bn, cell_up u2 bn, cell_up u3 bn⟩ ?_
        clear hK K' bn ST1 e0 e1 x3 u0 u1 u2 u3 GG
        generalize w1.alloc (.cells #[.int .i64 0, .int .i64 0, .bool false] 73) = w2 at *
        generalize w1.heap.size = z at *
        try simp only [Act.put, List.getElem_toArray, List.getElem_cons_zero, List.getElem_cons_succ, List.setIfInBounds_toArray, List.set_cons_zero, List.set_cons_succ]
        obtain ⟨t0, t1, t2, t3, t4, t5⟩ := blk3 BZ.out
        have hm := BZ.out.lt
        refine till_last (by kernel_rfl) rfl (by kernel_rfl) (fun K' hK => ?_)
        go_simp
        have HS9 := Lib.hid (ST2.out.far3 HZ.out (.int .i64 B.K) (.int .i64 B.N) (.bool B.B))
        have HV9 := Lib.hid (EvV.mk (v := B) HZ.out (((BZ.out.set_ 0 (.int .i64 B.K)).set_ 1 (.int .i64 B.N)).set_ 2 (.bool B.B)))
        refine hK _ _ ?_
        clear hK K'
        try simp only [Act.put, List.getElem_toArray, List.getElem_cons_zero, List.getElem_cons_succ, List.setIfInBounds_toArray, List.set_cons_zero, List.set_cons_succ]
        refine wpAny_done (by kernel_rfl) ?_ _
        go_wp2_with fail
        go_meet
        case rel => exact ⟨z, rfl, HS9.out, HV9.out, HP.out.1.far3 HP.out.2 _ _ _⟩
      · go_simp
        have bn := below_new W0 (.cells #[.int .i64 0, .int .i64 0, .bool false] 73)
        have ST1 := Lib.hid (ST0.out.up bn)
        have BZ1 := Lib.hid (Mem.Blk.new W0 73 #[.int .i64 0, .int .i64 0, .bool false]).drew
        have HZ := Lib.hid ST0.out.lt
        have HQ := Lib.hid (And.intro (VA.out.up bn) (Nat.ne_of_lt VA.out.blk.lt))
        replace e0 := cell_up e0 bn
        replace e1 := cell_up e1 bn
        replace x3 := cell_up x3 bn
        replace u0 := cell_up u0 bn
        replace u1 := cell_up u1 bn
        replace u2 := cell_up u2 bn
        replace u3 := cell_up u3 bn
        refine hK _ _ ⟨⟨e0,e1⟩,x3,u0,u1,u2,u3⟩ ?_
        clear hK K' bn
        generalize (W0.alloc (.cells #[.int .i64 0, .int .i64 0, .bool false] 73)).drew = w1 at *
        generalize W0.heap.size = z at *
        try simp only [Act.put, List.getElem_toArray, List.getElem_cons_zero, List.getElem_cons_succ, List.setIfInBounds_toArray, List.set_cons_zero, List.set_cons_succ]
        refine till_one (i := 5) (by kernel_rfl) rfl (fun K' hK => ?_)
        go_simp
        go_at_call 68
        (with_reducible refine (EvC.run HCB.out _ ST1.out.below).mono ?_)
        rintro y w2 ⟨hy, b1⟩
        unfold RetV at hy
        subst hy
        have ST2 := Lib.hid (ST1.out.up b1)
        have BZ := Lib.hid (BZ1.out.below b1)
        have HP := Lib.hid (And.intro (HQ.out.1.up b1) HQ.out.2)
        refine hK _ _ ⟨⟨cell_up e0 b1, cell_up e1 b1⟩, cell_up x3 b1, cell_up u0 b1, cell_up u1 b1, cell_up u2 b1, cell_up u3 b1⟩ ?_
        clear hK K' b1 ST1 BZ1 e0 e1 x3 u0 u1 u2 u3 HQ
        try simp only [Act.put, List.getElem_toArray, List.getElem_cons_zero, List.getElem_cons_succ, List.setIfInBounds_toArray, List.set_cons_zero, List.set_cons_succ]
        obtain ⟨t0, t1, t2, t3, t4, t5⟩ := blk3 BZ.out
        have hm := BZ.out.lt
        refine till_last (by kernel_rfl) rfl (by kernel_rfl) (fun K' hK => ?_)
        go_simp
        have HS9 := Lib.hid (ST2.out.far3 HZ.out (.int .i64 B.K) (.int .i64 B.N) (.bool B.B))
        have HV9 := Lib.hid (EvV.mk (v := B) HZ.out (((BZ.out.set_ 0 (.int .i64 B.K)).set_ 1 (.int .i64 B.N)).set_ 2 (.bool B.B)))
        refine hK _ _ ?_
        clear hK K'
        try simp only [Act.put, List.getElem_toArray, List.getElem_cons_zero, List.getElem_cons_succ, List.setIfInBounds_toArray, List.set_cons_zero, List.set_cons_succ]
        refine wpAny_done (by kernel_rfl) ?_ _
        go_wp2_with fail
        go_meet
        case rel => exact ⟨z, rfl, HS9.out, HV9.out, HP.out.1.far3 HP.out.2 _ _ _⟩
    obtain ⟨g1, rfl, ST1, VB, VA1⟩ := hcut
    obtain ⟨W1, rfl⟩ : ∃ W : World, W = wc := ⟨_, rfl⟩
    clear ST0 VA HCB HCA
    rcases HTB.out with rfl | rfl | ⟨y, rfl⟩
    · obtain rfl : R = .unk := by rw [HR1.out]; simp
      have t0 : W1.cell? ⟨g, 0, none⟩ = some (.int .i64 1) := VA1.out.blk.cell 0
      have t1 : W1.cell? ⟨g, 1, none⟩ = some (.int .i64 x) := VA1.out.blk.cell 1
      have t2 : W1.cell? ⟨g, 2, none⟩ = some (.bool false) := VA1.out.blk.cell 2
      have xt0 : W1.cell? ⟨g1, 0, none⟩ = some (.int .i64 0) := VB.out.blk.cell 0
      have xt1 : W1.cell? ⟨g1, 1, none⟩ = some (.int .i64 0) := VB.out.blk.cell 1
      have xt2 : W1.cell? ⟨g1, 2, none⟩ = some (.bool false) := VB.out.blk.cell 2
      obtain ⟨e0, e1, -, -⟩ := ST1.out.env.two
      obtain ⟨x0, x1, x2, x3, -, -, -, -⟩ := blk4 ST1.out.ex
      have HFN := Lib.hid (ret3 (.int .i64 0) (.int .i64 0) (.bool false) ST1.out.below (by omega : w.heap.size ≤ w.heap.size + 1 + 1) ST1.out.res)
      obtain ⟨q0, q1, q2, q3, q4, q5⟩ := blk3 ST1.out.res
      have hm := ST1.out.lt
      go_wp2_with fail
      generalize ((W1.setCell ⟨w.heap.size + 1 + 1, 0, none⟩ (.int .i64 0)).setCell ⟨w.heap.size + 1 + 1, 1, none⟩ (.int .i64 0)).setCell ⟨w.heap.size + 1 + 1, 2, none⟩ (.bool false) = W9 at *
      obtain ⟨r0, r1, r2, -, -, -⟩ := blk3 HFN.out.2
      refine bodyPost_ret (v := .agg #[.int .i64 0, .int .i64 0, .bool false]) (by simp [results, Try.results68, go_sem, r0, r1, r2]) rfl ⟨rfl, HFN.out.1⟩
    · obtain rfl : R = .brk := by rw [HR1.out]; simp
      have t0 : W1.cell? ⟨g, 0, none⟩ = some (.int .i64 1) := VA1.out.blk.cell 0
      have t1 : W1.cell? ⟨g, 1, none⟩ = some (.int .i64 x) := VA1.out.blk.cell 1
      have t2 : W1.cell? ⟨g, 2, none⟩ = some (.bool false) := VA1.out.blk.cell 2
      have xt0 : W1.cell? ⟨g1, 0, none⟩ = some (.int .i64 3) := VB.out.blk.cell 0
      have xt1 : W1.cell? ⟨g1, 1, none⟩ = some (.int .i64 0) := VB.out.blk.cell 1
      have xt2 : W1.cell? ⟨g1, 2, none⟩ = some (.bool false) := VB.out.blk.cell 2
      obtain ⟨e0, e1, -, -⟩ := ST1.out.env.two
      obtain ⟨x0, x1, x2, x3, -, -, -, -⟩ := blk4 ST1.out.ex
      have HFN := Lib.hid (ret3 (.int .i64 3) (.int .i64 0) (.bool false) ST1.out.below (by omega : w.heap.size ≤ w.heap.size + 1 + 1) ST1.out.res)
      obtain ⟨q0, q1, q2, q3, q4, q5⟩ := blk3 ST1.out.res
      have hm := ST1.out.lt
      go_wp2_with fail
      generalize ((W1.setCell ⟨w.heap.size + 1 + 1, 0, none⟩ (.int .i64 3)).setCell ⟨w.heap.size + 1 + 1, 1, none⟩ (.int .i64 0)).setCell ⟨w.heap.size + 1 + 1, 2, none⟩ (.bool false) = W9 at *
      obtain ⟨r0, r1, r2, -, -, -⟩ := blk3 HFN.out.2
      refine bodyPost_ret (v := .agg #[.int .i64 3, .int .i64 0, .bool false]) (by simp [results, Try.results68, go_sem, r0, r1, r2]) rfl ⟨rfl, HFN.out.1⟩
    · have HR2 : Hid (twoV op x y = R) := by rw [HR1.out]; simp [Hid, Vl.N]
      have HY : Hid (I64 y) := HIB.out
      clear HR1 HIB
      have t0 : W1.cell? ⟨g, 0, none⟩ = some (.int .i64 1) := VA1.out.blk.cell 0
      have t1 : W1.cell? ⟨g, 1, none⟩ = some (.int .i64 x) := VA1.out.blk.cell 1
      have t2 : W1.cell? ⟨g, 2, none⟩ = some (.bool false) := VA1.out.blk.cell 2
      have xt0 : W1.cell? ⟨g1, 0, none⟩ = some (.int .i64 1) := VB.out.blk.cell 0
      have xt1 : W1.cell? ⟨g1, 1, none⟩ = some (.int .i64 y) := VB.out.blk.cell 1
      have xt2 : W1.cell? ⟨g1, 2, none⟩ = some (.bool false) := VB.out.blk.cell 2
      obtain ⟨e0, e1, -, -⟩ := ST1.out.env.two
      obtain ⟨x0, x1, x2, x3, -, -, -, -⟩ := blk4 ST1.out.ex
      go_wp2_with fail
      go_at_call 101
      (with_reducible refine (two_any op x y _ HOP.out HX.out HY.out).mono ?_)
      rintro y' w2 ⟨hy, b2⟩
      rw [HR2.out] at hy
      clear HR2 t0 t1 t2 xt0 xt1 xt2
      unfold RetV at hy
      subst hy
      have HP : Hid (RetV R (.returned (.agg #[.int .i64 R.K, .int .i64 R.N, .bool R.B]))) := rfl
      have ST2 := Lib.hid (ST1.out.up b2)
      clear b2
      generalize R.K = rk at *
      generalize R.N = rn at *
      generalize R.B = rb at *
      try clear e0 e1 x0 x1 x2 x3
      have HFN := Lib.hid (ret3 (.int .i64 rk) (.int .i64 rn) (.bool rb) ST2.out.below (by omega : w.heap.size ≤ w.heap.size + 1 + 1) ST2.out.res)
      obtain ⟨q0, q1, q2, q3, q4, q5⟩ := blk3 ST2.out.res
      have hm := ST2.out.lt
      go_wp2_with fail
      generalize ((w2.setCell ⟨w.heap.size + 1 + 1, 0, none⟩ (.int .i64 rk)).setCell ⟨w.heap.size + 1 + 1, 1, none⟩ (.int .i64 rn)).setCell ⟨w.heap.size + 1 + 1, 2, none⟩ (.bool rb) = W9 at *
      obtain ⟨r0, r1, r2, -, -, -⟩ := blk3 HFN.out.2
      refine bodyPost_ret (v := .agg #[.int .i64 rk, .int .i64 rn, .bool rb]) (by simp [results, Try.results68, go_sem, r0, r1, r2]) rfl ⟨HP.out, HFN.out.1⟩
/-- What an expression is: of a right one with a kind. -/
theorem eval_any (day : Int) (fx : List Fx) (a : Option Addr) (len cap : Nat) (hd : I64 day) : ∀ (r : Nat) (e : Ex), e.rk ≤ r → bE e = true → kE e ≠ 0 → ∀ (cs : List Value) (w : World), RepE w [] e cs → SlR fxK w [] fx a len cap →
    Calls Try.prog 68 #[.agg #[.int .i64 day, .slice a len cap], .agg cs.toArray] w fun x w' => RetV (evalE day fx e) x ∧ Below w.heap.size w w' := by
  intro r
  induction r with
  | zero => intro e h; have := e.rk_pos; omega
  | succ r ih =>
    intro e hr hb hk cs w hR hS
    have hnum := RepE.nums _ e (Nat.le_refl _) cs hR
    have hfx := fxs_i64 hS
    obtain ⟨op, n, nm, args, a', len', cap', rfl, rfl, i1, i2, i3, hSA⟩ := hR.inv
    obtain ⟨g1, -, g3⟩ := bE_inv hb
    have hkids := kid_kinds hb hk
    have hop := ar_op (by omega : 0 ≤ ar op)
    have hlen := hSA.facts.1
    have hsh := fun h4 => eval_shape day fx hb hk (op := op) h4
    obtain ⟨-, hnk⟩ := hnum
    rw [evalE_mk]
    -- the contracts of what lies within
    have hC : ∀ (k : Nat) (x : Ex) (c0 c1 : Int) (c2 : ByteArray) (s0 : Option Addr) (s1 s2 : Nat), args[k]? = some x → RepE w [] x [.int .i64 c0, .int .i64 c1, .string c2, .slice s0 s1 s2] → EvC w day a len cap (.int .i64 c0) (.int .i64 c1) (.string c2) (.slice s0 s1 s2) (evalE day fx x) := by
      intro k x c0 c1 c2 s0 s1 s2 hx hrep W hW
      exact ih x (by have := Ex.rk_lt (op := op) (n := n) (nm := nm) hx; omega) (g3 x (List.mem_of_getElem? hx)) (hkids x (List.mem_of_getElem? hx)) _ W (hrep.kept (Kept.of_below hW [])) (hS.kept (Kept.of_below hW []))
    have hI : ∀ (k : Nat) (x : Ex), args[k]? = some x → I64 (evalE day fx x).N := fun k x hx => eval_i64 hd hfx x.rk x (Nat.le_refl _) (nums_go.1 hnk x (List.mem_of_getElem? hx))
    by_cases h4 : op ≤ 4
    · have hl : args = [] := List.length_eq_zero_iff.1 (by rw [ar_nil hop.1 h4] at g1; omega)
      subst hl
      exact evLeaf_any day fx a len cap op n nm a' len' cap' w hS ⟨hop.1, h4⟩
    · have hs := hsh (by omega)
      have hev : evO day fx op n nm (args.map (evalE day fx)) = opV op (args.map (evalE day fx)) := by unfold evO; rw [if_neg (by omega), if_neg (by omega), if_neg (by omega)]
      rw [hev]
      have hcount : args.length = 1 ∨ args.length = 2 ∨ args.length = 3 := by
        unfold ar at g1
        repeat' split at g1
        all_goals omega
      rcases hcount with hc | hc | hc
      · obtain ⟨x, rfl⟩ := one_of hc
        obtain rfl : len' = 1 := by omega
        obtain ⟨b, o, x', c0, c1, c2, s0, s1, s2, rfl, -, hx, hrep, hF⟩ := arg_at hSA 0 (by omega)
        obtain rfl : x = x' := by simpa using hx
        rw [Nat.zero_mul, Nat.add_zero] at hF
        have h0 := hC 0 x _ _ _ _ _ _ rfl hrep
        have h0i := hI 0 x rfl
        simp only [List.map_cons, List.map_nil] at hs ⊢
        generalize evalE day fx x = A at *
        generalize kE x = kx at *
        generalize kE (Ex.mk op n nm [x]) = kk at *
        cases hs with
        | not ha => exact ev_not w day a len cap n nm b o cap' c0 c1 c2 s0 s1 s2 A ha hF h0
        | neg ha => exact ev_neg w day a len cap n nm b o cap' c0 c1 c2 s0 s1 s2 A ha h0i hF h0
      · obtain ⟨x, y, rfl⟩ := two_of hc
        obtain rfl : len' = 2 := by omega
        obtain ⟨b, o, x', c0, c1, c2, s0, s1, s2, rfl, -, hx, hrep, hF⟩ := arg_at hSA 0 (by omega)
        obtain rfl : x = x' := by simpa using hx
        obtain ⟨b', o', y', d0, d1, d2, t0, t1, t2, e, -, hy, hrep', hF'⟩ := arg_at hSA 1 (by omega)
        obtain rfl : y = y' := by simpa using hy
        injection e with e; injection e with e1 e2; subst e1; subst e2
        rw [Nat.zero_mul, Nat.add_zero] at hF
        rw [Nat.one_mul] at hF'
        have h0 := hC 0 x _ _ _ _ _ _ rfl hrep
        have h1 := hC 1 y _ _ _ _ _ _ rfl hrep'
        have h0i := hI 0 x rfl
        have h1i := hI 1 y rfl
        simp only [List.map_cons, List.map_nil] at hs ⊢
        generalize evalE day fx x = A at *
        generalize evalE day fx y = B at *
        generalize kE x = kx at *
        generalize kE y = ky at *
        generalize kE (Ex.mk op n nm [x, y]) = kk at *
        cases hs with
        | two1 h ha hb' => exact ev_two w day a len cap op n nm b o cap' c0 c1 d0 d1 c2 d2 s0 t0 s1 s2 t1 t2 A B (by omega) ha hb' h0i h1i hF hF' h0 h1
        | cmp h ha hb' => exact ev_two w day a len cap op n nm b o cap' c0 c1 d0 d1 c2 d2 s0 t0 s1 s2 t1 t2 A B (by omega) ha hb' h0i h1i hF hF' h0 h1
        | both h ha hb' =>
          rw [opV_both h]
          exact ev_and w day a len cap op n nm b o cap' c0 c1 d0 d1 c2 d2 s0 t0 s1 s2 t1 t2 A B h hF hF' h0 h1
      · obtain ⟨x, y, z, rfl⟩ := three_of hc
        obtain rfl : len' = 3 := by omega
        obtain ⟨b, o, x', c0, c1, c2, s0, s1, s2, rfl, -, hx, hrep, hF⟩ := arg_at hSA 0 (by omega)
        obtain rfl : x = x' := by simpa using hx
        obtain ⟨b', o', y', d0, d1, d2, t0, t1, t2, e, -, hy, hrep', hF'⟩ := arg_at hSA 1 (by omega)
        obtain rfl : y = y' := by simpa using hy
        injection e with e; injection e with e1 e2; subst e1; subst e2
        obtain ⟨b', o', z', f0, f1, f2, u0, u1, u2, e, -, hz, hrep2, hF2⟩ := arg_at hSA 2 (by omega)
        obtain rfl : z = z' := by simpa using hz
        injection e with e; injection e with e1 e2; subst e1; subst e2
        rw [Nat.zero_mul, Nat.add_zero] at hF
        rw [Nat.one_mul] at hF'
        have h0 := hC 0 x _ _ _ _ _ _ rfl hrep
        have h1 := hC 1 y _ _ _ _ _ _ rfl hrep'
        have h2 := hC 2 z _ _ _ _ _ _ rfl hrep2
        simp only [List.map_cons, List.map_nil] at hs ⊢
        generalize evalE day fx x = A at *
        generalize evalE day fx y = B at *
        generalize evalE day fx z = C at *
        generalize kE x = kx at *
        generalize kE y = ky at *
        generalize kE z = kz at *
        generalize kE (Ex.mk op n nm [x, y, z]) = kk at *
        cases hs with
        | cond ha hb' hc' => exact ev_if w day a len cap n nm b o cap' c0 c1 d0 d1 f0 f1 c2 d2 f2 s0 t0 u0 s1 s2 t1 t2 u1 u2 A B C ha hF hF' hF2 h0 h1 h2
end Go.Proofs.Ytppnmeobnilojaa

/- What is right is built. -/
namespace Go.Proofs.Ytppnmeobnilojaa
set_option linter.unusedVariables false
set_option linter.unusedSimpArgs false
open Go.RowKit
theorem rE_blt {e : Ex} (h : rE e = true) : bE e = true := by unfold rE at h; rw [Bool.and_eq_true] at h; exact h.2
end Go.Proofs.Ytppnmeobnilojaa

/- The contract of obs.Eval, of any expression. -/
namespace Go.Proofs.Ytppnmeobnilojaa
set_option linter.unusedVariables false
set_option linter.unusedSimpArgs false
open Go.RowKit
noncomputable def evalX (day : Int) (fx : List Fx) (e : Ex) : Vl := if kI e = 0 then .brk else evalE day fx e
set_option maxRecDepth 100000 in
set_option maxHeartbeats 2000000 in
theorem obsEval_any (day : Int) (fx : List Fx) (a : Option Addr) (len cap : Nat) (e : Ex) (cs : List Value) (w : World) (hd : I64 day) (hR : RepE w [] e cs) (hk : e.rk ≤ 1000) (hS : SlR fxK w [] fx a len cap) :
    Calls Try.prog 41 #[.agg cs.toArray, .agg #[.int .i64 day, .slice a len cap]] w fun x w' => RetV (evalX day fx e) x ∧ Below w.heap.size w w' := by
  have HQ := Lib.hid (fun W (hW : Below w.heap.size w W) => kindX_any e cs W (hR.kept (Kept.of_below hW [])) hk)
  have HE : Hid (∀ W, Below w.heap.size w W → kI e ≠ 0 → Calls Try.prog 68 #[.agg #[.int .i64 day, .slice a len cap], .agg cs.toArray] W fun x W' => RetV (evalE day fx e) x ∧ Below W.heap.size W W') := by
    intro W hW h0
    unfold kI at h0
    by_cases hr : rE e = true
    · rw [if_pos hr] at h0
      exact eval_any day fx a len cap hd e.rk e (Nat.le_refl _) (rE_blt hr) h0 cs W (hR.kept (Kept.of_below hW [])) (hS.kept (Kept.of_below hW []))
    · rw [if_neg hr] at h0; exact absurd rfl h0
  obtain ⟨R, hRR⟩ : ∃ R, R = evalX day fx e := ⟨_, rfl⟩
  rw [← hRR]
  have HR : Hid (R = if kI e = 0 then .brk else evalE day fx e) := hRR
  clear hRR
  obtain ⟨op, n, nm, args, a', len', cap', -, rfl, i1, i2, i3, -⟩ := hR.inv
  have B0 := Mem.Blk.new w 46 #[.int .i64 op, .int .i64 n, .string nm, .slice a' len' cap']
  have B1 := Mem.Blk.new (w.alloc (.cells #[.int .i64 op, .int .i64 n, .string nm, .slice a' len' cap'] 46)) 63 #[.int .i64 day, .slice a len cap]
  have B2 := Mem.Blk.new ((w.alloc (.cells #[.int .i64 op, .int .i64 n, .string nm, .slice a' len' cap'] 46)).alloc (.cells #[.int .i64 day, .slice a len cap] 63)) 73 #[.int .i64 0, .int .i64 0, .bool false]
  have e1 : (w.alloc (.cells #[.int .i64 op, .int .i64 n, .string nm, .slice a' len' cap'] 46)).heap.size = w.heap.size + 1 := by simp
  have e2 : ((w.alloc (.cells #[.int .i64 op, .int .i64 n, .string nm, .slice a' len' cap'] 46)).alloc (.cells #[.int .i64 day, .slice a len cap] 63)).heap.size = w.heap.size + 1 + 1 := by simp
  have HB := Lib.hid ((((Below.refl w.heap.size w).alloc (Nat.le_refl _) (.cells #[.int .i64 op, .int .i64 n, .string nm, .slice a' len' cap'] 46)).alloc (by rw [e1]; omega) (.cells #[.int .i64 day, .slice a len cap] 63)).alloc (by rw [e2]; omega) (.cells #[.int .i64 0, .int .i64 0, .bool false] 73))
  rw [e1] at B1
  rw [e2] at B2
  have BX := Lib.hid ((B0.alloc (.cells #[.int .i64 day, .slice a len cap] 63)).alloc (.cells #[.int .i64 0, .int .i64 0, .bool false] 73))
  have BE := Lib.hid (B1.alloc (.cells #[.int .i64 0, .int .i64 0, .bool false] 73))
  have BR := Lib.hid B2
  clear B0 B1 B2 e1 e2 hR hS i1 i2 i3 hk
  go_enter Try.func41, Try.ntmps41
  go_upto_region 1 with (fail)
  generalize ((w.alloc (.cells #[.int .i64 op, .int .i64 n, .string nm, .slice a' len' cap'] 46)).alloc (.cells #[.int .i64 day, .slice a len cap] 63)).alloc (.cells #[.int .i64 0, .int .i64 0, .bool false] 73) = v at *
  obtain ⟨x0, x1, x2, x3, -, -, -, -⟩ := blk4 BX.out
  go_wp2_with fail
  go_at_call 23
  (with_reducible refine (HQ.out _ HB.out).mono ?_)
  rintro y w1 ⟨rfl, b1⟩
  have HB1 := Lib.hid (HB.out.trans (b1.mono HB.out.size))
  have BX1 := Lib.hid (BX.out.below b1)
  have BE1 := Lib.hid (BE.out.below b1)
  have BR1 := Lib.hid (BR.out.below b1)
  clear x0 x1 x2 x3 HB BX BE BR b1 HQ
  by_cases h0 : kI e = 0
  · obtain rfl : R = .brk := by rw [HR.out, if_pos h0]
    rw [h0]
    rw [show ((0 : Int) != 0) = false from rfl]
    clear HR HE h0
    have HFN := Lib.hid (ret3 (.int .i64 3) (.int .i64 0) (.bool false) HB1.out (by omega : w.heap.size ≤ w.heap.size + 1 + 1) BR1.out)
    obtain ⟨q0, q1, q2, q3, q4, q5⟩ := blk3 BR1.out
    have hm := BR1.out.lt
    go_wp2_with fail
    generalize ((w1.setCell ⟨w.heap.size + 1 + 1, 0, none⟩ (.int .i64 3)).setCell ⟨w.heap.size + 1 + 1, 1, none⟩ (.int .i64 0)).setCell ⟨w.heap.size + 1 + 1, 2, none⟩ (.bool false) = W9 at *
    obtain ⟨r0, r1, r2, -, -, -⟩ := blk3 HFN.out.2
    refine bodyPost_ret (v := .agg #[.int .i64 3, .int .i64 0, .bool false]) (by simp [results, Try.results41, go_sem, r0, r1, r2]) rfl ⟨rfl, HFN.out.1⟩
  · have HR2 : R = evalE day fx e := by rw [HR.out, if_neg h0]
    have HE2 := Lib.hid (fun W hW => HE.out W hW h0)
    rw [← HR2] at HE2
    clear HR2
    rw [show (kI e != 0) = true from bne_iff_ne.2 h0]
    clear HR HE h0
    generalize kI e = kk at *
    obtain ⟨x0, x1, x2, x3, -, -, -, -⟩ := blk4 BX1.out
    obtain ⟨e0, e1, -, -⟩ := BE1.out.two
    go_wp2_with fail
    go_at_call 68
    (with_reducible refine (HE2.out _ HB1.out).mono ?_)
    rintro y w2 ⟨hy, b2⟩
    unfold RetV at hy
    subst hy
    have HP : Hid (RetV R (.returned (.agg #[.int .i64 R.K, .int .i64 R.N, .bool R.B]))) := rfl
    have HB2 := Lib.hid (HB1.out.trans (b2.mono HB1.out.size))
    have BR2 := Lib.hid (BR1.out.below b2)
    clear x0 x1 x2 x3 e0 e1 b2 HB1 BR1 BX1 BE1 HE2
    generalize R.K = rk at *
    generalize R.N = rn at *
    generalize R.B = rb at *
    have HFN := Lib.hid (ret3 (.int .i64 rk) (.int .i64 rn) (.bool rb) HB2.out (by omega : w.heap.size ≤ w.heap.size + 1 + 1) BR2.out)
    obtain ⟨q0, q1, q2, q3, q4, q5⟩ := blk3 BR2.out
    have hm := BR2.out.lt
    go_wp2_with fail
    generalize ((w2.setCell ⟨w.heap.size + 1 + 1, 0, none⟩ (.int .i64 rk)).setCell ⟨w.heap.size + 1 + 1, 1, none⟩ (.int .i64 rn)).setCell ⟨w.heap.size + 1 + 1, 2, none⟩ (.bool rb) = W9 at *
    obtain ⟨r0, r1, r2, -, -, -⟩ := blk3 HFN.out.2
    refine bodyPost_ret (v := .agg #[.int .i64 rk, .int .i64 rn, .bool rb]) (by simp [results, Try.results41, go_sem, r0, r1, r2]) rfl ⟨HP.out, HFN.out.1⟩
end Go.Proofs.Ytppnmeobnilojaa

/- A literal's block as a slice. -/
namespace Go.Proofs.Ytppnmeobnilojaa
set_option linter.unusedVariables false
set_option linter.unusedSimpArgs false
open Go.RowKit
theorem RepE.free {w : World} {X : List Nat} {e : Ex} {cs : List Value} (h : RepE w X e cs) : RepE w [] e cs := h.less (fun _ _ hm => absurd hm List.not_mem_nil)
theorem RepT.free {w : World} {X : List Nat} {e : Te} {cs : List Value} (h : RepT w X e cs) : RepT w [] e cs := h.less (fun _ _ hm => absurd hm List.not_mem_nil)
theorem SlR.free {α : Type} {K : Elt α} {w : World} {X : List Nat} {l : List α} {a : Option Addr} {len cap : Nat} (h : SlR K w X l a len cap) : SlR K w [] l a len cap := h.less (fun _ _ hm => absurd hm List.not_mem_nil)
theorem SlR.lit {α : Type} {K : Elt α} {w : World} {X : List Nat} {g : Nat} {ty : TypeId} {cs : Array Value} {l : List α} (csl : List (List Value)) (hB : Mem.Blk w g ty cs) (hg : g ∉ X) (hf : cs.toList = csl.flatten) (hc : csl.length = l.length)
    (he : ∀ (i : Nat) x c, l[i]? = some x → csl[i]? = some c → K.R w X x c) (n : Nat) (hn : l.length = n) (hm : n ≤ 9223372036854775807) : SlR K w X l (some ⟨g, 0, none⟩) n n := by
  subst hn
  have h4 : ∀ c ∈ csl, c.length = K.sz := by
    intro c hcm
    obtain ⟨i, hi, rfl⟩ := List.getElem_of_mem hcm
    exact (K.one (he i _ _ (List.getElem?_eq_getElem (by omega)) (List.getElem?_eq_getElem hi))).1
  refine ⟨csl, hc, he, hc, Nat.le_refl _, hm, fun _ => ⟨g, 0, rfl, hB.lt, hg, fun i c hi => ?_⟩⟩
  have hl := h4 c (List.mem_of_getElem? hi)
  refine ⟨hl, fun j u hj => ?_⟩
  have hjs : j < K.sz := by rw [← hl]; exact (List.getElem?_eq_some_iff.1 hj).1
  rw [Nat.zero_add, hB.cell, ← Array.getElem?_toList, hf, flat_get K.sz csl h4 i j c hi hjs]
  exact hj
/-- One element. -/
theorem SlR.lit1 {α : Type} {K : Elt α} {w : World} {X : List Nat} {g : Nat} {ty : TypeId} {c : List Value} {x : α} (hB : Mem.Blk w g ty c.toArray) (hg : g ∉ X) (h : K.R w X x c) : SlR K w X [x] (some ⟨g, 0, none⟩) 1 1 := by
  refine SlR.lit (l := [x]) [c] hB hg (by simp) rfl (fun i y d hy hd => ?_) 1 rfl (by decide)
  match i, hy, hd with
  | 0, hy, hd => simp at hy hd; subst hy; subst hd; exact h
  | k + 1, hy, _ => simp at hy
theorem SlR.lit2 {α : Type} {K : Elt α} {w : World} {X : List Nat} {g : Nat} {ty : TypeId} {c d : List Value} {x y : α} {cs : Array Value} (hB : Mem.Blk w g ty cs) (hcs : cs.toList = c ++ d) (hg : g ∉ X) (h : K.R w X x c) (h' : K.R w X y d) : SlR K w X [x, y] (some ⟨g, 0, none⟩) 2 2 := by
  refine SlR.lit (l := [x, y]) [c, d] hB hg (by simpa using hcs) rfl (fun i z e hy hd => ?_) 2 rfl (by decide)
  match i, hy, hd with
  | 0, hy, hd => simp at hy hd; subst hy; subst hd; exact h
  | 1, hy, hd => simp at hy hd; subst hy; subst hd; exact h'
  | k + 2, hy, _ => simp at hy
/-- Four cells are stored where an answer lies; what is answered keeps out of there. -/
theorem ret4E {w w1 : World} {g : Nat} {X : List Nat} {ty : TypeId} {e : Ex} {b0 b1 b2 b3 c0 c1 c2 c3 : Value} (hb : Below w.heap.size w w1) (hg : w.heap.size ≤ g) (hB : Mem.Blk w1 g ty #[b0, b1, b2, b3]) (hR : RepE w1 (g :: X) e [c0, c1, c2, c3]) :
    RepE ((((w1.setCell ⟨g, 0, none⟩ c0).setCell ⟨g, 1, none⟩ c1).setCell ⟨g, 2, none⟩ c2).setCell ⟨g, 3, none⟩ c3) X e [c0, c1, c2, c3] ∧ Below w.heap.size w ((((w1.setCell ⟨g, 0, none⟩ c0).setCell ⟨g, 1, none⟩ c1).setCell ⟨g, 2, none⟩ c2).setCell ⟨g, 3, none⟩ c3) ∧
    Mem.Blk ((((w1.setCell ⟨g, 0, none⟩ c0).setCell ⟨g, 1, none⟩ c1).setCell ⟨g, 2, none⟩ c2).setCell ⟨g, 3, none⟩ c3) g ty #[c0, c1, c2, c3] := by
  have k4 : Kept (g :: X) w1 ((((w1.setCell ⟨g, 0, none⟩ c0).setCell ⟨g, 1, none⟩ c1).setCell ⟨g, 2, none⟩ c2).setCell ⟨g, 3, none⟩ c3) := (((Kept.setCell w1 (by simp) _).trans (Kept.setCell _ (by simp) _)).trans (Kept.setCell _ (by simp) _)).trans (Kept.setCell _ (by simp) _)
  exact ⟨(hR.kept k4).less (fun b _ hm => List.mem_cons_of_mem _ hm), (((hb.setCell hg _).setCell hg _).setCell hg _).setCell hg _, (((hB.set_ 0 _).set_ 1 _).set_ 2 _).set_ 3 _⟩
theorem ret4T {w w1 : World} {g : Nat} {X : List Nat} {ty : TypeId} {e : Te} {b0 b1 b2 b3 c0 c1 c2 c3 : Value} (hb : Below w.heap.size w w1) (hg : w.heap.size ≤ g) (hB : Mem.Blk w1 g ty #[b0, b1, b2, b3]) (hR : RepT w1 (g :: X) e [c0, c1, c2, c3]) :
    RepT ((((w1.setCell ⟨g, 0, none⟩ c0).setCell ⟨g, 1, none⟩ c1).setCell ⟨g, 2, none⟩ c2).setCell ⟨g, 3, none⟩ c3) X e [c0, c1, c2, c3] ∧ Below w.heap.size w ((((w1.setCell ⟨g, 0, none⟩ c0).setCell ⟨g, 1, none⟩ c1).setCell ⟨g, 2, none⟩ c2).setCell ⟨g, 3, none⟩ c3) ∧
    Mem.Blk ((((w1.setCell ⟨g, 0, none⟩ c0).setCell ⟨g, 1, none⟩ c1).setCell ⟨g, 2, none⟩ c2).setCell ⟨g, 3, none⟩ c3) g ty #[c0, c1, c2, c3] := by
  have k4 : Kept (g :: X) w1 ((((w1.setCell ⟨g, 0, none⟩ c0).setCell ⟨g, 1, none⟩ c1).setCell ⟨g, 2, none⟩ c2).setCell ⟨g, 3, none⟩ c3) := (((Kept.setCell w1 (by simp) _).trans (Kept.setCell _ (by simp) _)).trans (Kept.setCell _ (by simp) _)).trans (Kept.setCell _ (by simp) _)
  exact ⟨(hR.kept k4).less (fun b _ hm => List.mem_cons_of_mem _ hm), (((hb.setCell hg _).setCell hg _).setCell hg _).setCell hg _, (((hB.set_ 0 _).set_ 1 _).set_ 2 _).set_ 3 _⟩
end Go.Proofs.Ytppnmeobnilojaa

/- The contract of law22.env: what is seen, as the program has it. -/
namespace Go.Proofs.Ytppnmeobnilojaa
set_option linter.unusedVariables false
set_option linter.unusedSimpArgs false
open Go.RowKit
theorem infoF : (Try.prog.info? 83).map (fun i => (i.zero, i.size, i.bytes)) = some (some (.agg #[.string ⟨#[]⟩, .int .i64 0, .int .i64 0]), 3, 32) := by kernel_rfl
def famV (h : Nat) (day : Int) (a : Option Addr) (len cap : Nat) (fs : List Fx) (vA : Value) : List Ob :=
  [gr fxK 83 h fs vA, bx (h + 1 + 1) 63 #[.int .i64 day, vA], bx (h + 1) 63 #[.int .i64 0, .slice none 0 0], bx h 58 #[.int .i64 day, .slice a len cap]]
structure EnvJ (w wr : World) (day : Int) (a : Option Addr) (len cap : Nat) (fs : List Fx) (vA : Value) : Prop where
  below : Below w.heap.size w wr
  sep : Sep wr (famV w.heap.size day a len cap fs vA)
section
variable {w wr wr' : World} {day : Int} {a : Option Addr} {len cap : Nat} {fs : List Fx} {vA : Value}
theorem EnvJ.up (h : EnvJ w wr day a len cap fs vA) (hb : Below wr.heap.size wr wr') : EnvJ w wr' day a len cap fs vA := ⟨h.below.trans (hb.mono h.below.size), h.sep.below hb⟩
theorem EnvJ.push {w1 : World} {csl : List (List Value)} {v' : Value} {x : Fx} {c : List Value} (h : EnvJ w wr day a len cap fs vA)
    (hG : Grow fxK 83 w.heap.size wr (others (famV w.heap.size day a len cap fs vA) 0) fs vA csl)
    (hR : fxK.R wr (owns (famV w.heap.size day a len cap fs vA)) x c)
    (ho : w1.ownsRow w.heap.size 83 3 v' (fs.length + 1) (csl.flatten ++ c)) (hg : wr.grownBy w1 vA.ownBlock) (hv : v'.ownBlock = vA.ownBlock ∨ v'.ownBlock = some wr.heap.size) :
    (w1.cell? ⟨w.heap.size + 1 + 1, 1, none⟩ = some vA ∧ w1.frozen? ⟨w.heap.size + 1 + 1, 1, none⟩ = false) ∧ EnvJ w (w1.setCell ⟨w.heap.size + 1 + 1, 1, none⟩ v') day a len cap (fs ++ [x]) v' := by
  have h1 := h.sep.push 0 rfl hG (x := x) (c := c) hR ho hg hv
  have h2 := h1.store 1 rfl 1 v'
  exact ⟨⟨(h1.blk 1 rfl).cell 1, (h1.blk 1 rfl).frozen 1⟩, (h.below.grown hg h.below.size (fun b hb => (hG.blt hb).1)).setCell (by show w.heap.size ≤ w.heap.size + 1 + 1; omega) _, h2⟩
/-- What was copied, stored where the answer lies. -/
theorem EnvJ.fin {aA : Option Addr} {cA : Nat} (h : EnvJ w wr day a len cap fs (.slice aA fs.length cA)) :
    SlR fxK ((wr.setCell ⟨w.heap.size + 1, 0, none⟩ (.int .i64 day)).setCell ⟨w.heap.size + 1, 1, none⟩ (.slice aA fs.length cA)) [] fs aA fs.length cA ∧
    Below w.heap.size w ((wr.setCell ⟨w.heap.size + 1, 0, none⟩ (.int .i64 day)).setCell ⟨w.heap.size + 1, 1, none⟩ (.slice aA fs.length cA)) ∧
    Mem.Blk ((wr.setCell ⟨w.heap.size + 1, 0, none⟩ (.int .i64 day)).setCell ⟨w.heap.size + 1, 1, none⟩ (.slice aA fs.length cA)) (w.heap.size + 1) 63 #[.int .i64 day, .slice aA fs.length cA] := by
  have h1 := (h.sep.store 2 rfl 0 (.int .i64 day)).store 2 rfl 1 (.slice aA fs.length cA)
  obtain ⟨a', c', e, hS⟩ := h1.still 0 rfl
  injection e with e1 e2 e3; subst e1; subst e3
  have hl : w.heap.size ≤ w.heap.size + 1 := by omega
  exact ⟨hS.free, (h.below.setCell hl _).setCell hl _, h1.blk 2 rfl⟩
end
theorem EnvJ.start {w : World} {day : Int} {a : Option Addr} {len cap : Nat} : EnvJ w (((w.alloc (.cells #[.int .i64 day, .slice a len cap] 58)).alloc (.cells #[.int .i64 0, .slice none 0 0] 63)).alloc (.cells #[.int .i64 day, .slice none 0 0] 63)) day a len cap [] (.slice none 0 0) := by
  have h1 := (((Sep.nil w).new 58 #[.int .i64 day, .slice a len cap]).new 63 #[.int .i64 0, .slice none 0 0]).new 63 #[.int .i64 day, .slice none 0 0]
  have e1 : (w.alloc (.cells #[.int .i64 day, .slice a len cap] 58)).heap.size = w.heap.size + 1 := by simp
  have e2 : ((w.alloc (.cells #[.int .i64 day, .slice a len cap] 58)).alloc (.cells #[.int .i64 0, .slice none 0 0] 63)).heap.size = w.heap.size + 1 + 1 := by simp
  rw [e1, e2] at h1
  exact ⟨(((Below.refl _ w).alloc (Nat.le_refl _) _).alloc (by simp) _).alloc (by simp; omega) _, h1.addGr fxK 83 (by simp; omega)⟩
/-- What is seen, answered. -/
def RetVs (w : World) (day : Int) (fs : List Fx) (x : Ending) : Prop := ∃ a cap, x = .returned (.agg #[.int .i64 day, .slice a fs.length cap]) ∧ SlR fxK w [] fs a fs.length cap
set_option maxRecDepth 100000 in
set_option maxHeartbeats 2000000 in
theorem env_any (day : Int) (fx : List Fx) (a : Option Addr) (len cap : Nat) (w : World) (hS : SlR fxK w [] fx a len cap) (h2 : len ≤ 200) :
    Calls Try.prog 36 #[.agg #[.int .i64 day, .slice a len cap]] w fun x w' => RetVs w' day fx x ∧ Below w.heap.size w w' := by
  obtain ⟨f1, f2, f3⟩ := hS.facts
  have HL := Lib.hid f1
  have HSS := Lib.hid hS
  have HR0 := Lib.hid (EnvJ.start (w := w) (day := day) (a := a) (len := len) (cap := cap))
  clear hS f1
  go_enter Try.func36, Try.ntmps36
  go_upto_region 2 with (fail)
  generalize ((w.alloc (.cells #[.int .i64 day, .slice a len cap] 58)).alloc (.cells #[.int .i64 0, .slice none 0 0] 63)).alloc (.cells #[.int .i64 day, .slice none 0 0] 63) = v at *
  go_wp2_with fail
  go_loopw [4] (fun i wr => ∃ (k : Nat) (vA : Value), i = .int .i64 (k : Nat) ∧ k ≤ len ∧ Hid (EnvJ w wr day a len cap (fx.take k) vA)) (fun i _ => len - (intOf i).toNat)
  case atStart => exact ⟨0, _, rfl, Nat.zero_le _, HR0.out⟩
  case round =>
    clear HR0
    obtain ⟨k, vA, rfl, hk, HR⟩ := hrel
    obtain ⟨e0, e1, -, -⟩ := (HR.out.sep.blk 3 rfl).two
    have hlk : (fx.take k).length = k := by rw [List.length_take, HL.out]; omega
    have HLK := Lib.hid hlk
    by_cases hlt : k < len
    · have j1' : (k : Int) < (len : Int) := by omega
      obtain ⟨b, o, f, rfl, -, -, hxe, hsz, q1, q2, u0, u1, u2⟩ := fx_at (HSS.out.kept (Kept.of_below HR.out.below [])) k hlt
      have HTK : Hid (fx.take (k + 1) = fx.take k ++ [f]) := by
        show fx.take (k + 1) = _
        obtain ⟨hk', he⟩ := List.getElem?_eq_some_iff.1 hxe
        rw [← he]; exact (List.take_append_getElem hk').symm
      have HFX : Hid (f.name.size ≤ 9223372036854775807 ∧ I64 f.day ∧ I64 f.val) := ⟨hsz, q1, q2⟩
      clear hxe hlk hsz q1 q2
      have d1 : wr.cell? ⟨w.heap.size + 1 + 1, 1, none⟩ = some vA := (HR.out.sep.blk 1 rfl).cell 1
      generalize fx.take k = FS at *
      go_wp2_with fail
      refine wp_region_till (S := fun W => W.cell? ⟨w.heap.size + 1 + 1, 1, none⟩ = some vA ∧ W.cell? ⟨w.heap.size, 1, none⟩ = some (.slice (some ⟨b, o, none⟩) len cap) ∧ W.cell? ⟨b, o + k * 3, none⟩ = some (.string f.name) ∧ W.cell? ⟨b, o + k * 3 + 1, none⟩ = some (.int .i64 f.day) ∧ W.cell? ⟨b, o + k * 3 + 2, none⟩ = some (.int .i64 f.val)) 8 (by kernel_rfl) ?_
      refine till_take (i := 0) (v := ?_) rfl (by kernel_rfl) (fun _ _ _ h => h) (Or.inl ⟨by rfl, ?_⟩) ⟨d1,e1,u0,u1,u2⟩ ?_
      rotate_left
      · intro W hS
        try dsimp only at hS
        go_split_ands
        go_simp
        try with_reducible rfl
      try simp only [Act.put, List.getElem_toArray, List.getElem_cons_zero, List.getElem_cons_succ, List.setIfInBounds_toArray, List.set_cons_zero, List.set_cons_succ]
      refine till_take (i := 1) (v := ?_) rfl (by kernel_rfl) (fun _ _ _ h => h) (Or.inl ⟨by rfl, ?_⟩) ⟨d1,e1,u0,u1,u2⟩ ?_
      rotate_left
      · intro W hS
        try dsimp only at hS
        go_split_ands
        go_simp
        try with_reducible rfl
      try simp only [Act.put, List.getElem_toArray, List.getElem_cons_zero, List.getElem_cons_succ, List.setIfInBounds_toArray, List.set_cons_zero, List.set_cons_succ]
      refine till_take (i := 2) (v := ?_) rfl (by kernel_rfl) (fun _ _ _ h => h) (Or.inl ⟨by rfl, ?_⟩) ⟨d1,e1,u0,u1,u2⟩ ?_
      rotate_left
      · intro W hS
        try dsimp only at hS
        go_split_ands
        go_simp
        try with_reducible rfl
      try simp only [Act.put, List.getElem_toArray, List.getElem_cons_zero, List.getElem_cons_succ, List.setIfInBounds_toArray, List.set_cons_zero, List.set_cons_succ]
      refine till_take (i := 3) (v := ?_) rfl (by kernel_rfl) (fun _ _ _ h => h) (Or.inl ⟨by rfl, ?_⟩) ⟨d1,e1,u0,u1,u2⟩ ?_
      rotate_left
      · intro W hS
        try dsimp only at hS
        go_split_ands
        go_simp
        try with_reducible rfl
      try simp only [Act.put, List.getElem_toArray, List.getElem_cons_zero, List.getElem_cons_succ, List.setIfInBounds_toArray, List.set_cons_zero, List.set_cons_succ]
      refine till_take (i := 4) (v := ?_) rfl (by kernel_rfl) (fun _ _ _ h => h) (Or.inl ⟨by rfl, ?_⟩) ⟨d1,e1,u0,u1,u2⟩ ?_
      rotate_left
      · intro W hS
        try dsimp only at hS
        go_split_ands
        go_simp
        try with_reducible rfl
      try simp only [Act.put, List.getElem_toArray, List.getElem_cons_zero, List.getElem_cons_succ, List.setIfInBounds_toArray, List.set_cons_zero, List.set_cons_succ]
      refine till_take (i := 5) (v := ?_) rfl (by kernel_rfl) (fun _ _ _ h => h) (Or.inl ⟨by rfl, ?_⟩) ⟨d1,e1,u0,u1,u2⟩ ?_
      rotate_left
      · intro W hS
        try dsimp only at hS
        go_split_ands
        go_simp
        try with_reducible rfl
      try simp only [Act.put, List.getElem_toArray, List.getElem_cons_zero, List.getElem_cons_succ, List.setIfInBounds_toArray, List.set_cons_zero, List.set_cons_succ]
      refine till_take (i := 6) (v := ?_) rfl (by kernel_rfl) (fun _ _ _ h => h) (Or.inl ⟨by rfl, ?_⟩) ⟨d1,e1,u0,u1,u2⟩ ?_
      rotate_left
      · intro W hS
        try dsimp only at hS
        go_split_ands
        go_simp
        try with_reducible rfl
      try simp only [Act.put, List.getElem_toArray, List.getElem_cons_zero, List.getElem_cons_succ, List.setIfInBounds_toArray, List.set_cons_zero, List.set_cons_succ]
      refine till_one (i := 7) (by kernel_rfl) rfl (fun K' hK => ?_)
      go_simp
      have hbn := below_new wr (.cells #[.string f.name, .int .i64 f.day, .int .i64 f.val] 83)
      have HB2 := Lib.hid (HR.out.up hbn)
      have BZ := Lib.hid (Mem.Blk.new wr 83 #[.string f.name, .int .i64 f.day, .int .i64 f.val]).drew
      refine hK _ _ ⟨cell_up d1 hbn, cell_up e1 hbn, cell_up u0 hbn, cell_up u1 hbn, cell_up u2 hbn⟩ ?_
      clear hK K' hbn HR d1 e0 e1 u0 u1 u2
      generalize (wr.alloc (.cells #[.string f.name, .int .i64 f.day, .int .i64 f.val] 83)).drew = w2 at *
      generalize wr.heap.size = z at *
      try simp only [Act.put, List.getElem_toArray, List.getElem_cons_zero, List.getElem_cons_succ, List.setIfInBounds_toArray, List.set_cons_zero, List.set_cons_succ]
      refine till_last (by kernel_rfl) rfl (by kernel_rfl) (fun K' hK => ?_)
      obtain ⟨csl, hGr⟩ := HB2.out.sep.at 0 rfl
      refine step_ap infoF Try.underlying61 rfl (by decide) rfl (.tmp 16) (.tmp 22) rfl rfl hGr.own hGr.room ⟨z, 0, none⟩ 1 1 [.string f.name, .int .i64 f.day, .int .i64 f.val] rfl rfl (fun m u hm => by rw [Mem.add0, BZ.out.cell]; simpa using hm) (by simp [Value.oneCell']) (by have := HLK.out; unfold maxLen; omega) (by have := HLK.out; omega) ?_
      intro v' w3 og gg hv'
      obtain ⟨g2, capn, rfl, -, -, -, -⟩ := own_form og (by omega)
      refine hK _ _ ?_
      clear hK K'
      obtain ⟨⟨m4, m5⟩, hB3⟩ := HB2.out.push hGr (x := f) (c := fxC f) ⟨rfl, HFX.out⟩ og gg hv'
      have HB3 := Lib.hid hB3
      clear HB2 hGr og gg hv' BZ hB3
      try simp only [Act.put, List.getElem_toArray, List.getElem_cons_zero, List.getElem_cons_succ, List.setIfInBounds_toArray, List.set_cons_zero, List.set_cons_succ]
      refine any_take (i := 9) (v := ?_) rfl (by kernel_rfl) (fun _ _ _ h => h) (Or.inl ⟨by rfl, ?_⟩) ?_
      rotate_left
      · intro W
        go_simp
        try with_reducible rfl
      try simp only [Act.put, List.getElem_toArray, List.getElem_cons_zero, List.getElem_cons_succ, List.setIfInBounds_toArray, List.set_cons_zero, List.set_cons_succ]
      refine any_one (i := 10) (by kernel_rfl) rfl (fun K' hK => ?_)
      go_simp
      refine hK _ _ ?_
      clear hK K' m4 m5
      refine wpAny_done (by kernel_rfl) ?_ _
      rw [← HTK.out] at HB3
      generalize FS.length = ln at *
      obtain rfl : ln = k := HLK.out
      go_wp2_with fail
      go_roundw
      case rel => exact ⟨ln + 1, _, by go_num, by omega, HB3.out⟩
      case measure => simp [intOf]; omega
    · have hk' : ¬ (k : Int) < (len : Int) := by omega
      obtain rfl : k = len := by omega
      have hfk : fx.take k = fx := List.take_of_length_le (by rw [HL.out]; omega)
      rw [hfk] at HR
      obtain ⟨a', cA, rfl, hSv⟩ := HR.out.sep.still 0 rfl
      have HFN := Lib.hid HR.out.fin
      obtain ⟨s0, s1, s2, s3⟩ := (HR.out.sep.blk 1 rfl).two
      obtain ⟨t0, t1, t2, t3⟩ := (HR.out.sep.blk 2 rfl).two
      have hm := (HR.out.sep.blk 2 rfl).lt
      clear hSv HR hfk hlk HLK
      have hfl := HL.out
      clear HL
      subst hfl
      go_wp2_with fail
      generalize (wr.setCell ⟨w.heap.size + 1, 0, none⟩ (.int .i64 day)).setCell ⟨w.heap.size + 1, 1, none⟩ (.slice a' fx.length cA) = W9 at *
      obtain ⟨r0, r1, -, -⟩ := HFN.out.2.2.two
      refine bodyPost_ret (v := .agg #[.int .i64 day, .slice a' fx.length cA]) (by simp [results, Try.results36, go_sem, r0, r1]) rfl ⟨⟨a', cA, rfl, HFN.out.1⟩, HFN.out.2.1⟩
end Go.Proofs.Ytppnmeobnilojaa
