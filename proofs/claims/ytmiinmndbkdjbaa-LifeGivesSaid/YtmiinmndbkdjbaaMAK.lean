/- A part of the proof: Evb, Rb, EvX, FoldD, Lit, Flw, one behind another. -/
import Derived.Test.YtmiinmndbkdjbaaMAA
import Derived.Test.YtmiinmndbkdjbaaMAB
import Derived.Test.YtmiinmndbkdjbaaMAC
import Derived.Test.YtmiinmndbkdjbaaMAD
import Derived.Test.YtmiinmndbkdjbaaMAE
import Derived.Test.YtmiinmndbkdjbaaMAF
import Derived.Test.YtmiinmndbkdjbaaMAG
import Derived.Test.YtmiinmndbkdjbaaMAH
import Derived.Test.YtmiinmndbkdjbaaMAI
import Derived.Test.YtmiinmndbkdjbaaMAJ
/- The contract of eval: ops of two numbers; and all of it. -/
namespace Go.Proofs.Ytmiinmndbkdjbaa
set_option linter.unusedVariables false
set_option linter.unusedSimpArgs false
open Go.RowKit
set_option maxRecDepth 100000 in
set_option maxHeartbeats 8000000 in
theorem ev_two (w : World) (day : Int) (a : Option Addr) (len cap : Nat) (op n : Int) (nm : ByteArray) (b o cap' : Nat) (o0 n0 o1 n1 : Int) (m0 m1 : ByteArray) (a0 a1 : Option Addr) (l0 p0 l1 p1 : Nat) (A B : Vl) (hop : 5 ≤ op ∧ op ≤ 16) (hA : Ty 1 A) (hB : Ty 1 B) (iA : I64 A.N) (iB : I64 B.N)
    (h0 : Four w b o (.int .i64 o0) (.int .i64 n0) (.string m0) (.slice a0 l0 p0)) (h1 : Four w b (o + 4) (.int .i64 o1) (.int .i64 n1) (.string m1) (.slice a1 l1 p1))
    (HA : EvC w day a len cap (.int .i64 o0) (.int .i64 n0) (.string m0) (.slice a0 l0 p0) A) (HB : EvC w day a len cap (.int .i64 o1) (.int .i64 n1) (.string m1) (.slice a1 l1 p1) B) :
    Calls Try.prog 60 #[.agg #[.int .i64 day, .slice a len cap], .agg #[.int .i64 op, .int .i64 n, .string nm, .slice (some ⟨b, o, none⟩) 2 cap']] w fun x w' => RetV (opV op [A, B]) x ∧ Below w.heap.size w w' := by
  have H0 := Lib.hid h0
  have H1 := Lib.hid h1
  have HCA := Lib.hid HA
  have HCB := Lib.hid HB
  have HTA := Lib.hid hA.of1
  have HTB := Lib.hid hB.of1
  have HIA := Lib.hid iA
  have HIB := Lib.hid iB
  have HOP := Lib.hid hop
  have ST := Lib.hid (EvSt.start w day a len cap op n nm (some ⟨b, o, none⟩) 2 cap')
  obtain ⟨R, hR⟩ : ∃ R, R = opV op [A, B] := ⟨_, rfl⟩
  rw [← hR]
  have HR : Hid (R = if A = .brk ∨ B = .brk then .brk else if A = .unk ∨ B = .unk then .unk else twoV op A.N B.N) := by rw [hR, opV_two (by omega)]; congr
  have z1 : (op == 1) = false := beq_eq_false_iff_ne.2 (by omega)
  have z2 : (op == 2) = false := beq_eq_false_iff_ne.2 (by omega)
  have z3 : (op == 3) = false := beq_eq_false_iff_ne.2 (by omega)
  have z4 : (op == 4) = false := beq_eq_false_iff_ne.2 (by omega)
  have z5 : (op == 17) = false := beq_eq_false_iff_ne.2 (by omega)
  have z6 : (op == 18) = false := beq_eq_false_iff_ne.2 (by omega)
  have z7 : (op == 19) = false := beq_eq_false_iff_ne.2 (by omega)
  have z8 : (op == 20) = false := beq_eq_false_iff_ne.2 (by omega)
  have z9 : (op == 21) = false := beq_eq_false_iff_ne.2 (by omega)
  clear hR h0 h1 HA HB hA hB iA iB hop
  go_enter Try.func60, Try.ntmps60
  go_upto_region 1 with (fail)
  generalize ((w.alloc (.cells #[.int .i64 day, .slice a len cap] 44)).alloc (.cells #[.int .i64 op, .int .i64 n, .string nm, .slice (some ⟨b, o, none⟩) 2 cap'] 53)).alloc (.cells #[.int .i64 0, .int .i64 0, .bool false] 98) = v at *
  obtain ⟨e0, e1, -, -⟩ := ST.out.env.two
  obtain ⟨x0, x1, x2, x3, -, -, -, -⟩ := blk4 ST.out.ex
  go_upto_region 15 with (fail)
  clear e0 e1 x0 x1 x2 x3
  go_cut [7] (fun p W0 => ∃ g, p = .pointer (some ⟨g, 0, none⟩) ∧ Hid (EvSt w W0 day a len cap op n nm (some ⟨b, o, none⟩) 2 cap') ∧ Hid (EvV w W0 g A))
  case first =>
    obtain ⟨e0, e1, -, -⟩ := ST.out.env.two
    have x3 : v.cell? ⟨w.heap.size + 1, 3, none⟩ = _ := ST.out.ex.cell 3
    simp only [List.getElem?_toArray, List.getElem?_cons_zero, List.getElem?_cons_succ] at x3
    obtain ⟨u0, u1, u2, u3⟩ := H0.out
    replace u0 := cell_up u0 ST.out.below
    replace u1 := cell_up u1 ST.out.below
    replace u2 := cell_up u2 ST.out.below
    replace u3 := cell_up u3 ST.out.below
    refine wp_region_till (S := fun W => (W.cell? ⟨w.heap.size, 0, none⟩ = some (.int .i64 day) ∧ W.cell? ⟨w.heap.size, 1, none⟩ = some (.slice a len cap)) ∧ W.cell? ⟨w.heap.size + 1, 3, none⟩ = some (.slice (some ⟨b, o, none⟩) 2 cap') ∧ W.cell? ⟨b, o, none⟩ = some (.int .i64 o0) ∧ W.cell? ⟨b, o + 1, none⟩ = some (.int .i64 n0) ∧ W.cell? ⟨b, o + 2, none⟩ = some (.string m0) ∧ W.cell? ⟨b, o + 3, none⟩ = some (.slice a0 l0 p0)) 7 (by kernel_rfl) ?_
    refine till_take (i := 0) (v := ?_) rfl (by kernel_rfl) (fun _ _ _ h => h) (Or.inl ⟨by rfl, ?_⟩) ⟨⟨e0,e1⟩,x3,u0,u1,u2,u3⟩ ?_
    rotate_left
    · intro W hS
      try dsimp only at hS
      go_split_ands
      go_simp
      try with_reducible rfl
    try simp only [Act.put, List.getElem_toArray, List.getElem_cons_zero, List.getElem_cons_succ, List.setIfInBounds_toArray, List.set_cons_zero, List.set_cons_succ]
    refine till_take (i := 1) (v := ?_) rfl (by kernel_rfl) (fun _ _ _ h => h) (Or.inl ⟨by rfl, ?_⟩) ⟨⟨e0,e1⟩,x3,u0,u1,u2,u3⟩ ?_
    rotate_left
    · intro W hS
      try dsimp only at hS
      go_split_ands
      go_simp
      try with_reducible rfl
    try simp only [Act.put, List.getElem_toArray, List.getElem_cons_zero, List.getElem_cons_succ, List.setIfInBounds_toArray, List.set_cons_zero, List.set_cons_succ]
    refine till_take (i := 2) (v := ?_) rfl (by kernel_rfl) (fun _ _ _ h => h) (Or.inl ⟨by rfl, ?_⟩) ⟨⟨e0,e1⟩,x3,u0,u1,u2,u3⟩ ?_
    rotate_left
    · intro W hS
      try dsimp only at hS
      go_split_ands
      go_simp
      try with_reducible rfl
    try simp only [Act.put, List.getElem_toArray, List.getElem_cons_zero, List.getElem_cons_succ, List.setIfInBounds_toArray, List.set_cons_zero, List.set_cons_succ]
    refine till_take (i := 3) (v := ?_) rfl (by kernel_rfl) (fun _ _ _ h => h) (Or.inl ⟨by rfl, ?_⟩) ⟨⟨e0,e1⟩,x3,u0,u1,u2,u3⟩ ?_
    rotate_left
    · intro W hS
      try dsimp only at hS
      go_split_ands
      go_simp
      try with_reducible rfl
    try simp only [Act.put, List.getElem_toArray, List.getElem_cons_zero, List.getElem_cons_succ, List.setIfInBounds_toArray, List.set_cons_zero, List.set_cons_succ]
    refine till_take (i := 4) (v := ?_) rfl (by kernel_rfl) (fun _ _ _ h => h) (Or.inl ⟨by rfl, ?_⟩) ⟨⟨e0,e1⟩,x3,u0,u1,u2,u3⟩ ?_
    rotate_left
    · intro W hS
      try dsimp only at hS
      go_split_ands
      go_simp
      try with_reducible rfl
    try simp only [Act.put, List.getElem_toArray, List.getElem_cons_zero, List.getElem_cons_succ, List.setIfInBounds_toArray, List.set_cons_zero, List.set_cons_succ]
    refine till_two (i := 5) (j := 6) (by kernel_rfl) rfl rfl (fun K' hK => ?_) (fun K' hK => ?_)
    · go_simp
      go_at_call 60
      (with_reducible refine (EvC.run HCA.out _ ST.out.below.drew).mono ?_)
      rintro y w1 ⟨hy, b1⟩
      unfold RetV at hy
      subst hy
      have hd := (Below.refl v.heap.size v).drew
      have ST1 := Lib.hid ((ST.out.up hd).up b1)
      have bt := hd.trans (b1.mono hd.size)
      have GG := Lib.hid (True.intro)
      replace e0 := cell_up e0 bt
      replace e1 := cell_up e1 bt
      replace x3 := cell_up x3 bt
      replace u0 := cell_up u0 bt
      replace u1 := cell_up u1 bt
      replace u2 := cell_up u2 bt
      replace u3 := cell_up u3 bt
      refine hK _ _ ⟨⟨e0,e1⟩,x3,u0,u1,u2,u3⟩ ?_
      clear hK K' b1 hd bt
      try simp only [Act.put, List.getElem_toArray, List.getElem_cons_zero, List.getElem_cons_succ, List.setIfInBounds_toArray, List.set_cons_zero, List.set_cons_succ]
      refine till_one (i := 6) (by kernel_rfl) rfl (fun K' hK => ?_)
      go_simp
      have bn := (Below.refl w1.heap.size w1).alloc (Nat.le_refl _) (.cells #[.int .i64 0, .int .i64 0, .bool false] 98)
      have ST2 := Lib.hid (ST1.out.up bn)
      have BZ := Lib.hid (Mem.Blk.new w1 98 #[.int .i64 0, .int .i64 0, .bool false])
      have HZ := Lib.hid ST1.out.lt
      have HP := Lib.hid (True.intro)
      refine hK _ _ ⟨⟨cell_up e0 bn, cell_up e1 bn⟩, cell_up x3 bn, cell_up u0 bn, cell_up u1 bn, cell_up u2 bn, cell_up u3 bn⟩ ?_
      clear hK K' bn ST1 e0 e1 x3 u0 u1 u2 u3 GG
      generalize w1.alloc (.cells #[.int .i64 0, .int .i64 0, .bool false] 98) = w2 at *
      generalize w1.heap.size = z at *
      try simp only [Act.put, List.getElem_toArray, List.getElem_cons_zero, List.getElem_cons_succ, List.setIfInBounds_toArray, List.set_cons_zero, List.set_cons_succ]
      obtain ⟨t0, t1, t2, t3, t4, t5⟩ := blk3 BZ.out
      have hm := BZ.out.lt
      refine till_last (by kernel_rfl) rfl (by kernel_rfl) (fun K' hK => ?_)
      go_simp
      have HS9 := Lib.hid (ST2.out.far3 HZ.out (.int .i64 A.K) (.int .i64 A.N) (.bool A.B))
      have HV9 := Lib.hid (EvV.mk (v := A) HZ.out (((BZ.out.set_ 0 (.int .i64 A.K)).set_ 1 (.int .i64 A.N)).set_ 2 (.bool A.B)))
      refine hK _ _ ?_
      clear hK K'
      try simp only [Act.put, List.getElem_toArray, List.getElem_cons_zero, List.getElem_cons_succ, List.setIfInBounds_toArray, List.set_cons_zero, List.set_cons_succ]
      refine wpAny_done (by kernel_rfl) ?_ _
      go_wp2_with fail
      go_meet
      case rel => exact ⟨z, rfl, HS9.out, HV9.out⟩
    · go_simp
      have bn := below_new v (.cells #[.int .i64 0, .int .i64 0, .bool false] 98)
      have ST1 := Lib.hid (ST.out.up bn)
      have BZ1 := Lib.hid (Mem.Blk.new v 98 #[.int .i64 0, .int .i64 0, .bool false]).drew
      have HZ := Lib.hid ST.out.lt
      have HQ := Lib.hid (True.intro)
      replace e0 := cell_up e0 bn
      replace e1 := cell_up e1 bn
      replace x3 := cell_up x3 bn
      replace u0 := cell_up u0 bn
      replace u1 := cell_up u1 bn
      replace u2 := cell_up u2 bn
      replace u3 := cell_up u3 bn
      refine hK _ _ ⟨⟨e0,e1⟩,x3,u0,u1,u2,u3⟩ ?_
      clear hK K' bn
      generalize (v.alloc (.cells #[.int .i64 0, .int .i64 0, .bool false] 98)).drew = w1 at *
      generalize v.heap.size = z at *
      try simp only [Act.put, List.getElem_toArray, List.getElem_cons_zero, List.getElem_cons_succ, List.setIfInBounds_toArray, List.set_cons_zero, List.set_cons_succ]
      refine till_one (i := 5) (by kernel_rfl) rfl (fun K' hK => ?_)
      go_simp
      go_at_call 60
      (with_reducible refine (EvC.run HCA.out _ ST1.out.below).mono ?_)
      rintro y w2 ⟨hy, b1⟩
      unfold RetV at hy
      subst hy
      have ST2 := Lib.hid (ST1.out.up b1)
      have BZ := Lib.hid (BZ1.out.below b1)
      have HP := Lib.hid (True.intro)
      refine hK _ _ ⟨⟨cell_up e0 b1, cell_up e1 b1⟩, cell_up x3 b1, cell_up u0 b1, cell_up u1 b1, cell_up u2 b1, cell_up u3 b1⟩ ?_
      clear hK K' b1 ST1 BZ1 e0 e1 x3 u0 u1 u2 u3 HQ
      try simp only [Act.put, List.getElem_toArray, List.getElem_cons_zero, List.getElem_cons_succ, List.setIfInBounds_toArray, List.set_cons_zero, List.set_cons_succ]
      obtain ⟨t0, t1, t2, t3, t4, t5⟩ := blk3 BZ.out
      have hm := BZ.out.lt
      refine till_last (by kernel_rfl) rfl (by kernel_rfl) (fun K' hK => ?_)
      go_simp
      have HS9 := Lib.hid (ST2.out.far3 HZ.out (.int .i64 A.K) (.int .i64 A.N) (.bool A.B))
      have HV9 := Lib.hid (EvV.mk (v := A) HZ.out (((BZ.out.set_ 0 (.int .i64 A.K)).set_ 1 (.int .i64 A.N)).set_ 2 (.bool A.B)))
      refine hK _ _ ?_
      clear hK K'
      try simp only [Act.put, List.getElem_toArray, List.getElem_cons_zero, List.getElem_cons_succ, List.setIfInBounds_toArray, List.set_cons_zero, List.set_cons_succ]
      refine wpAny_done (by kernel_rfl) ?_ _
      go_wp2_with fail
      go_meet
      case rel => exact ⟨z, rfl, HS9.out, HV9.out⟩
  obtain ⟨g, rfl, ST0, VA⟩ := hcut
  obtain ⟨W0, rfl⟩ : ∃ W : World, W = wc := ⟨_, rfl⟩
  clear ST
  rcases HTA.out with rfl | rfl | ⟨x, rfl⟩
  · have HR1 : Hid (R = if B = .brk then .brk else .unk) := by rw [HR.out]; simp [Hid]
    clear HR
    have t0 : W0.cell? ⟨g, 0, none⟩ = some (.int .i64 0) := VA.out.blk.cell 0
    have t1 : W0.cell? ⟨g, 1, none⟩ = some (.int .i64 0) := VA.out.blk.cell 1
    have t2 : W0.cell? ⟨g, 2, none⟩ = some (.bool false) := VA.out.blk.cell 2
    obtain ⟨e0, e1, -, -⟩ := ST0.out.env.two
    obtain ⟨x0, x1, x2, x3, -, -, -, -⟩ := blk4 ST0.out.ex
    go_upto_region 30 with (fail)
    clear e0 e1 x0 x1 x2 x3 t0 t1 t2
    go_cut [9] (fun p W1 => ∃ g1, p = .pointer (some ⟨g1, 0, none⟩) ∧ Hid (EvSt w W1 day a len cap op n nm (some ⟨b, o, none⟩) 2 cap') ∧ Hid (EvV w W1 g1 B) ∧ Hid (EvV w W1 g .unk))
    case first =>
      obtain ⟨e0, e1, -, -⟩ := ST0.out.env.two
      have x3 : W0.cell? ⟨w.heap.size + 1, 3, none⟩ = _ := ST0.out.ex.cell 3
      simp only [List.getElem?_toArray, List.getElem?_cons_zero, List.getElem?_cons_succ] at x3
      obtain ⟨u0, u1, u2, u3⟩ := H1.out
      replace u0 := cell_up u0 ST0.out.below
      replace u1 := cell_up u1 ST0.out.below
      replace u2 := cell_up u2 ST0.out.below
      replace u3 := cell_up u3 ST0.out.below
      refine wp_region_till (S := fun W => (W.cell? ⟨w.heap.size, 0, none⟩ = some (.int .i64 day) ∧ W.cell? ⟨w.heap.size, 1, none⟩ = some (.slice a len cap)) ∧ W.cell? ⟨w.heap.size + 1, 3, none⟩ = some (.slice (some ⟨b, o, none⟩) 2 cap') ∧ W.cell? ⟨b, o + 4, none⟩ = some (.int .i64 o1) ∧ W.cell? ⟨b, o + 4 + 1, none⟩ = some (.int .i64 n1) ∧ W.cell? ⟨b, o + 4 + 2, none⟩ = some (.string m1) ∧ W.cell? ⟨b, o + 4 + 3, none⟩ = some (.slice a1 l1 p1)) 7 (by kernel_rfl) ?_
      refine till_take (i := 0) (v := ?_) rfl (by kernel_rfl) (fun _ _ _ h => h) (Or.inl ⟨by rfl, ?_⟩) ⟨⟨e0,e1⟩,x3,u0,u1,u2,u3⟩ ?_
      rotate_left
      · intro W hS
        try dsimp only at hS
        go_split_ands
        go_simp
        try with_reducible rfl
      try simp only [Act.put, List.getElem_toArray, List.getElem_cons_zero, List.getElem_cons_succ, List.setIfInBounds_toArray, List.set_cons_zero, List.set_cons_succ]
      refine till_take (i := 1) (v := ?_) rfl (by kernel_rfl) (fun _ _ _ h => h) (Or.inl ⟨by rfl, ?_⟩) ⟨⟨e0,e1⟩,x3,u0,u1,u2,u3⟩ ?_
      rotate_left
      · intro W hS
        try dsimp only at hS
        go_split_ands
        go_simp
        try with_reducible rfl
      try simp only [Act.put, List.getElem_toArray, List.getElem_cons_zero, List.getElem_cons_succ, List.setIfInBounds_toArray, List.set_cons_zero, List.set_cons_succ]
      refine till_take (i := 2) (v := ?_) rfl (by kernel_rfl) (fun _ _ _ h => h) (Or.inl ⟨by rfl, ?_⟩) ⟨⟨e0,e1⟩,x3,u0,u1,u2,u3⟩ ?_
      rotate_left
      · intro W hS
        try dsimp only at hS
        go_split_ands
        go_simp
        try with_reducible rfl
      try simp only [Act.put, List.getElem_toArray, List.getElem_cons_zero, List.getElem_cons_succ, List.setIfInBounds_toArray, List.set_cons_zero, List.set_cons_succ]
      refine till_take (i := 3) (v := ?_) rfl (by kernel_rfl) (fun _ _ _ h => h) (Or.inl ⟨by rfl, ?_⟩) ⟨⟨e0,e1⟩,x3,u0,u1,u2,u3⟩ ?_
      rotate_left
      · intro W hS
        try dsimp only at hS
        go_split_ands
        go_simp
        try with_reducible rfl
      try simp only [Act.put, List.getElem_toArray, List.getElem_cons_zero, List.getElem_cons_succ, List.setIfInBounds_toArray, List.set_cons_zero, List.set_cons_succ]
      refine till_take (i := 4) (v := ?_) rfl (by kernel_rfl) (fun _ _ _ h => h) (Or.inl ⟨by rfl, ?_⟩) ⟨⟨e0,e1⟩,x3,u0,u1,u2,u3⟩ ?_
      rotate_left
      · intro W hS
        try dsimp only at hS
        go_split_ands
        go_simp
        try with_reducible rfl
      try simp only [Act.put, List.getElem_toArray, List.getElem_cons_zero, List.getElem_cons_succ, List.setIfInBounds_toArray, List.set_cons_zero, List.set_cons_succ]
      refine till_two (i := 5) (j := 6) (by kernel_rfl) rfl rfl (fun K' hK => ?_) (fun K' hK => ?_)
      · go_simp
        go_at_call 60
        (with_reducible refine (EvC.run HCB.out _ ST0.out.below.drew).mono ?_)
        rintro y w1 ⟨hy, b1⟩
        unfold RetV at hy
        subst hy
        have hd := (Below.refl W0.heap.size W0).drew
        have ST1 := Lib.hid ((ST0.out.up hd).up b1)
        have bt := hd.trans (b1.mono hd.size)
        have GG := Lib.hid ((VA.out.up hd).up b1)
        replace e0 := cell_up e0 bt
        replace e1 := cell_up e1 bt
        replace x3 := cell_up x3 bt
        replace u0 := cell_up u0 bt
        replace u1 := cell_up u1 bt
        replace u2 := cell_up u2 bt
        replace u3 := cell_up u3 bt
        refine hK _ _ ⟨⟨e0,e1⟩,x3,u0,u1,u2,u3⟩ ?_
        clear hK K' b1 hd bt
        try simp only [Act.put, List.getElem_toArray, List.getElem_cons_zero, List.getElem_cons_succ, List.setIfInBounds_toArray, List.set_cons_zero, List.set_cons_succ]
        refine till_one (i := 6) (by kernel_rfl) rfl (fun K' hK => ?_)
        go_simp
        have bn := (Below.refl w1.heap.size w1).alloc (Nat.le_refl _) (.cells #[.int .i64 0, .int .i64 0, .bool false] 98)
        have ST2 := Lib.hid (ST1.out.up bn)
        have BZ := Lib.hid (Mem.Blk.new w1 98 #[.int .i64 0, .int .i64 0, .bool false])
        have HZ := Lib.hid ST1.out.lt
        have HP := Lib.hid (And.intro (GG.out.up bn) (Nat.ne_of_lt GG.out.blk.lt))
        refine hK _ _ ⟨⟨cell_up e0 bn, cell_up e1 bn⟩, cell_up x3 bn, cell_up u0 bn, cell_up u1 bn, cell_up u2 bn, cell_up u3 bn⟩ ?_
        clear hK K' bn ST1 e0 e1 x3 u0 u1 u2 u3 GG
        generalize w1.alloc (.cells #[.int .i64 0, .int .i64 0, .bool false] 98) = w2 at *
        generalize w1.heap.size = z at *
        try simp only [Act.put, List.getElem_toArray, List.getElem_cons_zero, List.getElem_cons_succ, List.setIfInBounds_toArray, List.set_cons_zero, List.set_cons_succ]
        obtain ⟨t0, t1, t2, t3, t4, t5⟩ := blk3 BZ.out
        have hm := BZ.out.lt
        refine till_last (by kernel_rfl) rfl (by kernel_rfl) (fun K' hK => ?_)
        go_simp
        have HS9 := Lib.hid (ST2.out.far3 HZ.out (.int .i64 B.K) (.int .i64 B.N) (.bool B.B))
        have HV9 := Lib.hid (EvV.mk (v := B) HZ.out (((BZ.out.set_ 0 (.int .i64 B.K)).set_ 1 (.int .i64 B.N)).set_ 2 (.bool B.B)))
        refine hK _ _ ?_
        clear hK K'
        try simp only [Act.put, List.getElem_toArray, List.getElem_cons_zero, List.getElem_cons_succ, List.setIfInBounds_toArray, List.set_cons_zero, List.set_cons_succ]
        refine wpAny_done (by kernel_rfl) ?_ _
        go_wp2_with fail
        go_meet
        case rel => exact ⟨z, rfl, HS9.out, HV9.out, HP.out.1.far3 HP.out.2 _ _ _⟩
      · go_simp
        have bn := below_new W0 (.cells #[.int .i64 0, .int .i64 0, .bool false] 98)
        have ST1 := Lib.hid (ST0.out.up bn)
        have BZ1 := Lib.hid (Mem.Blk.new W0 98 #[.int .i64 0, .int .i64 0, .bool false]).drew
        have HZ := Lib.hid ST0.out.lt
        have HQ := Lib.hid (And.intro (VA.out.up bn) (Nat.ne_of_lt VA.out.blk.lt))
        replace e0 := cell_up e0 bn
        replace e1 := cell_up e1 bn
        replace x3 := cell_up x3 bn
        replace u0 := cell_up u0 bn
        replace u1 := cell_up u1 bn
        replace u2 := cell_up u2 bn
        replace u3 := cell_up u3 bn
        refine hK _ _ ⟨⟨e0,e1⟩,x3,u0,u1,u2,u3⟩ ?_
        clear hK K' bn
        generalize (W0.alloc (.cells #[.int .i64 0, .int .i64 0, .bool false] 98)).drew = w1 at *
        generalize W0.heap.size = z at *
        try simp only [Act.put, List.getElem_toArray, List.getElem_cons_zero, List.getElem_cons_succ, List.setIfInBounds_toArray, List.set_cons_zero, List.set_cons_succ]
        refine till_one (i := 5) (by kernel_rfl) rfl (fun K' hK => ?_)
        go_simp
        go_at_call 60
        (with_reducible refine (EvC.run HCB.out _ ST1.out.below).mono ?_)
        rintro y w2 ⟨hy, b1⟩
        unfold RetV at hy
        subst hy
        have ST2 := Lib.hid (ST1.out.up b1)
        have BZ := Lib.hid (BZ1.out.below b1)
        have HP := Lib.hid (And.intro (HQ.out.1.up b1) HQ.out.2)
        refine hK _ _ ⟨⟨cell_up e0 b1, cell_up e1 b1⟩, cell_up x3 b1, cell_up u0 b1, cell_up u1 b1, cell_up u2 b1, cell_up u3 b1⟩ ?_
        clear hK K' b1 ST1 BZ1 e0 e1 x3 u0 u1 u2 u3 HQ
        try simp only [Act.put, List.getElem_toArray, List.getElem_cons_zero, List.getElem_cons_succ, List.setIfInBounds_toArray, List.set_cons_zero, List.set_cons_succ]
        obtain ⟨t0, t1, t2, t3, t4, t5⟩ := blk3 BZ.out
        have hm := BZ.out.lt
        refine till_last (by kernel_rfl) rfl (by kernel_rfl) (fun K' hK => ?_)
        go_simp
        have HS9 := Lib.hid (ST2.out.far3 HZ.out (.int .i64 B.K) (.int .i64 B.N) (.bool B.B))
        have HV9 := Lib.hid (EvV.mk (v := B) HZ.out (((BZ.out.set_ 0 (.int .i64 B.K)).set_ 1 (.int .i64 B.N)).set_ 2 (.bool B.B)))
        refine hK _ _ ?_
        clear hK K'
        try simp only [Act.put, List.getElem_toArray, List.getElem_cons_zero, List.getElem_cons_succ, List.setIfInBounds_toArray, List.set_cons_zero, List.set_cons_succ]
        refine wpAny_done (by kernel_rfl) ?_ _
        go_wp2_with fail
        go_meet
        case rel => exact ⟨z, rfl, HS9.out, HV9.out, HP.out.1.far3 HP.out.2 _ _ _⟩
    obtain ⟨g1, rfl, ST1, VB, VA1⟩ := hcut
    obtain ⟨W1, rfl⟩ : ∃ W : World, W = wc := ⟨_, rfl⟩
    clear ST0 VA HCB HCA
    rcases HTB.out with rfl | rfl | ⟨y, rfl⟩
    · obtain rfl : R = .unk := by rw [HR1.out]; simp
      have t0 : W1.cell? ⟨g, 0, none⟩ = some (.int .i64 0) := VA1.out.blk.cell 0
      have t1 : W1.cell? ⟨g, 1, none⟩ = some (.int .i64 0) := VA1.out.blk.cell 1
      have t2 : W1.cell? ⟨g, 2, none⟩ = some (.bool false) := VA1.out.blk.cell 2
      have xt0 : W1.cell? ⟨g1, 0, none⟩ = some (.int .i64 0) := VB.out.blk.cell 0
      have xt1 : W1.cell? ⟨g1, 1, none⟩ = some (.int .i64 0) := VB.out.blk.cell 1
      have xt2 : W1.cell? ⟨g1, 2, none⟩ = some (.bool false) := VB.out.blk.cell 2
      obtain ⟨e0, e1, -, -⟩ := ST1.out.env.two
      obtain ⟨x0, x1, x2, x3, -, -, -, -⟩ := blk4 ST1.out.ex
      have HFN := Lib.hid (ret3 (.int .i64 0) (.int .i64 0) (.bool false) ST1.out.below (by omega : w.heap.size ≤ w.heap.size + 1 + 1) ST1.out.res)
      obtain ⟨q0, q1, q2, q3, q4, q5⟩ := blk3 ST1.out.res
      have hm := ST1.out.lt
      go_wp2_with fail
      generalize ((W1.setCell ⟨w.heap.size + 1 + 1, 0, none⟩ (.int .i64 0)).setCell ⟨w.heap.size + 1 + 1, 1, none⟩ (.int .i64 0)).setCell ⟨w.heap.size + 1 + 1, 2, none⟩ (.bool false) = W9 at *
      obtain ⟨r0, r1, r2, -, -, -⟩ := blk3 HFN.out.2
      refine bodyPost_ret (v := .agg #[.int .i64 0, .int .i64 0, .bool false]) (by simp [results, Try.results60, go_sem, r0, r1, r2]) rfl ⟨rfl, HFN.out.1⟩
    · obtain rfl : R = .brk := by rw [HR1.out]; simp
      have t0 : W1.cell? ⟨g, 0, none⟩ = some (.int .i64 0) := VA1.out.blk.cell 0
      have t1 : W1.cell? ⟨g, 1, none⟩ = some (.int .i64 0) := VA1.out.blk.cell 1
      have t2 : W1.cell? ⟨g, 2, none⟩ = some (.bool false) := VA1.out.blk.cell 2
      have xt0 : W1.cell? ⟨g1, 0, none⟩ = some (.int .i64 3) := VB.out.blk.cell 0
      have xt1 : W1.cell? ⟨g1, 1, none⟩ = some (.int .i64 0) := VB.out.blk.cell 1
      have xt2 : W1.cell? ⟨g1, 2, none⟩ = some (.bool false) := VB.out.blk.cell 2
      obtain ⟨e0, e1, -, -⟩ := ST1.out.env.two
      obtain ⟨x0, x1, x2, x3, -, -, -, -⟩ := blk4 ST1.out.ex
      have HFN := Lib.hid (ret3 (.int .i64 3) (.int .i64 0) (.bool false) ST1.out.below (by omega : w.heap.size ≤ w.heap.size + 1 + 1) ST1.out.res)
      obtain ⟨q0, q1, q2, q3, q4, q5⟩ := blk3 ST1.out.res
      have hm := ST1.out.lt
      go_wp2_with fail
      generalize ((W1.setCell ⟨w.heap.size + 1 + 1, 0, none⟩ (.int .i64 3)).setCell ⟨w.heap.size + 1 + 1, 1, none⟩ (.int .i64 0)).setCell ⟨w.heap.size + 1 + 1, 2, none⟩ (.bool false) = W9 at *
      obtain ⟨r0, r1, r2, -, -, -⟩ := blk3 HFN.out.2
      refine bodyPost_ret (v := .agg #[.int .i64 3, .int .i64 0, .bool false]) (by simp [results, Try.results60, go_sem, r0, r1, r2]) rfl ⟨rfl, HFN.out.1⟩
    · obtain rfl : R = .unk := by rw [HR1.out]; simp
      have t0 : W1.cell? ⟨g, 0, none⟩ = some (.int .i64 0) := VA1.out.blk.cell 0
      have t1 : W1.cell? ⟨g, 1, none⟩ = some (.int .i64 0) := VA1.out.blk.cell 1
      have t2 : W1.cell? ⟨g, 2, none⟩ = some (.bool false) := VA1.out.blk.cell 2
      have xt0 : W1.cell? ⟨g1, 0, none⟩ = some (.int .i64 1) := VB.out.blk.cell 0
      have xt1 : W1.cell? ⟨g1, 1, none⟩ = some (.int .i64 y) := VB.out.blk.cell 1
      have xt2 : W1.cell? ⟨g1, 2, none⟩ = some (.bool false) := VB.out.blk.cell 2
      obtain ⟨e0, e1, -, -⟩ := ST1.out.env.two
      obtain ⟨x0, x1, x2, x3, -, -, -, -⟩ := blk4 ST1.out.ex
      have HFN := Lib.hid (ret3 (.int .i64 0) (.int .i64 0) (.bool false) ST1.out.below (by omega : w.heap.size ≤ w.heap.size + 1 + 1) ST1.out.res)
      obtain ⟨q0, q1, q2, q3, q4, q5⟩ := blk3 ST1.out.res
      have hm := ST1.out.lt
      go_wp2_with fail
      generalize ((W1.setCell ⟨w.heap.size + 1 + 1, 0, none⟩ (.int .i64 0)).setCell ⟨w.heap.size + 1 + 1, 1, none⟩ (.int .i64 0)).setCell ⟨w.heap.size + 1 + 1, 2, none⟩ (.bool false) = W9 at *
      obtain ⟨r0, r1, r2, -, -, -⟩ := blk3 HFN.out.2
      refine bodyPost_ret (v := .agg #[.int .i64 0, .int .i64 0, .bool false]) (by simp [results, Try.results60, go_sem, r0, r1, r2]) rfl ⟨rfl, HFN.out.1⟩
  · obtain rfl : R = .brk := by rw [HR.out]; simp
    have t0 : W0.cell? ⟨g, 0, none⟩ = some (.int .i64 3) := VA.out.blk.cell 0
    have t1 : W0.cell? ⟨g, 1, none⟩ = some (.int .i64 0) := VA.out.blk.cell 1
    have t2 : W0.cell? ⟨g, 2, none⟩ = some (.bool false) := VA.out.blk.cell 2
    obtain ⟨e0, e1, -, -⟩ := ST0.out.env.two
    obtain ⟨x0, x1, x2, x3, -, -, -, -⟩ := blk4 ST0.out.ex
    have HFN := Lib.hid (ret3 (.int .i64 3) (.int .i64 0) (.bool false) ST0.out.below (by omega : w.heap.size ≤ w.heap.size + 1 + 1) ST0.out.res)
    obtain ⟨q0, q1, q2, q3, q4, q5⟩ := blk3 ST0.out.res
    have hm := ST0.out.lt
    go_wp2_with fail
    generalize ((W0.setCell ⟨w.heap.size + 1 + 1, 0, none⟩ (.int .i64 3)).setCell ⟨w.heap.size + 1 + 1, 1, none⟩ (.int .i64 0)).setCell ⟨w.heap.size + 1 + 1, 2, none⟩ (.bool false) = W9 at *
    obtain ⟨r0, r1, r2, -, -, -⟩ := blk3 HFN.out.2
    refine bodyPost_ret (v := .agg #[.int .i64 3, .int .i64 0, .bool false]) (by simp [results, Try.results60, go_sem, r0, r1, r2]) rfl ⟨rfl, HFN.out.1⟩
  · have HR1 : Hid (R = if B = .brk then .brk else if B = .unk then .unk else twoV op x B.N) := by rw [HR.out]; simp [Hid, Vl.N]
    have HX : Hid (I64 x) := HIA.out
    clear HR HIA
    have t0 : W0.cell? ⟨g, 0, none⟩ = some (.int .i64 1) := VA.out.blk.cell 0
    have t1 : W0.cell? ⟨g, 1, none⟩ = some (.int .i64 x) := VA.out.blk.cell 1
    have t2 : W0.cell? ⟨g, 2, none⟩ = some (.bool false) := VA.out.blk.cell 2
    obtain ⟨e0, e1, -, -⟩ := ST0.out.env.two
    obtain ⟨x0, x1, x2, x3, -, -, -, -⟩ := blk4 ST0.out.ex
    go_upto_region 30 with (fail)
    clear e0 e1 x0 x1 x2 x3 t0 t1 t2
    go_cut [9] (fun p W1 => ∃ g1, p = .pointer (some ⟨g1, 0, none⟩) ∧ Hid (EvSt w W1 day a len cap op n nm (some ⟨b, o, none⟩) 2 cap') ∧ Hid (EvV w W1 g1 B) ∧ Hid (EvV w W1 g (.num x)))
    case first =>
      obtain ⟨e0, e1, -, -⟩ := ST0.out.env.two
      have x3 : W0.cell? ⟨w.heap.size + 1, 3, none⟩ = _ := ST0.out.ex.cell 3
      simp only [List.getElem?_toArray, List.getElem?_cons_zero, List.getElem?_cons_succ] at x3
      obtain ⟨u0, u1, u2, u3⟩ := H1.out
      replace u0 := cell_up u0 ST0.out.below
      replace u1 := cell_up u1 ST0.out.below
      replace u2 := cell_up u2 ST0.out.below
      replace u3 := cell_up u3 ST0.out.below
      refine wp_region_till (S := fun W => (W.cell? ⟨w.heap.size, 0, none⟩ = some (.int .i64 day) ∧ W.cell? ⟨w.heap.size, 1, none⟩ = some (.slice a len cap)) ∧ W.cell? ⟨w.heap.size + 1, 3, none⟩ = some (.slice (some ⟨b, o, none⟩) 2 cap') ∧ W.cell? ⟨b, o + 4, none⟩ = some (.int .i64 o1) ∧ W.cell? ⟨b, o + 4 + 1, none⟩ = some (.int .i64 n1) ∧ W.cell? ⟨b, o + 4 + 2, none⟩ = some (.string m1) ∧ W.cell? ⟨b, o + 4 + 3, none⟩ = some (.slice a1 l1 p1)) 7 (by kernel_rfl) ?_
      refine till_take (i := 0) (v := ?_) rfl (by kernel_rfl) (fun _ _ _ h => h) (Or.inl ⟨by rfl, ?_⟩) ⟨⟨e0,e1⟩,x3,u0,u1,u2,u3⟩ ?_
      rotate_left
      · intro W hS
        try dsimp only at hS
        go_split_ands
        go_simp
        try with_reducible rfl
      try simp only [Act.put, List.getElem_toArray, List.getElem_cons_zero, List.getElem_cons_succ, List.setIfInBounds_toArray, List.set_cons_zero, List.set_cons_succ]
      refine till_take (i := 1) (v := ?_) rfl (by kernel_rfl) (fun _ _ _ h => h) (Or.inl ⟨by rfl, ?_⟩) ⟨⟨e0,e1⟩,x3,u0,u1,u2,u3⟩ ?_
      rotate_left
      · intro W hS
        try dsimp only at hS
        go_split_ands
        go_simp
        try with_reducible rfl
      try simp only [Act.put, List.getElem_toArray, List.getElem_cons_zero, List.getElem_cons_succ, List.setIfInBounds_toArray, List.set_cons_zero, List.set_cons_succ]
      refine till_take (i := 2) (v := ?_) rfl (by kernel_rfl) (fun _ _ _ h => h) (Or.inl ⟨by rfl, ?_⟩) ⟨⟨e0,e1⟩,x3,u0,u1,u2,u3⟩ ?_
      rotate_left
      · intro W hS
        try dsimp only at hS
        go_split_ands
        go_simp
        try with_reducible rfl
      try simp only [Act.put, List.getElem_toArray, List.getElem_cons_zero, List.getElem_cons_succ, List.setIfInBounds_toArray, List.set_cons_zero, List.set_cons_succ]
      refine till_take (i := 3) (v := ?_) rfl (by kernel_rfl) (fun _ _ _ h => h) (Or.inl ⟨by rfl, ?_⟩) ⟨⟨e0,e1⟩,x3,u0,u1,u2,u3⟩ ?_
      rotate_left
      · intro W hS
        try dsimp only at hS
        go_split_ands
        go_simp
        try with_reducible rfl
      try simp only [Act.put, List.getElem_toArray, List.getElem_cons_zero, List.getElem_cons_succ, List.setIfInBounds_toArray, List.set_cons_zero, List.set_cons_succ]
      refine till_take (i := 4) (v := ?_) rfl (by kernel_rfl) (fun _ _ _ h => h) (Or.inl ⟨by rfl, ?_⟩) ⟨⟨e0,e1⟩,x3,u0,u1,u2,u3⟩ ?_
      rotate_left
      · intro W hS
        try dsimp only at hS
        go_split_ands
        go_simp
        try with_reducible rfl
      try simp only [Act.put, List.getElem_toArray, List.getElem_cons_zero, List.getElem_cons_succ, List.setIfInBounds_toArray, List.set_cons_zero, List.set_cons_succ]
      refine till_two (i := 5) (j := 6) (by kernel_rfl) rfl rfl (fun K' hK => ?_) (fun K' hK => ?_)
      · go_simp
        go_at_call 60
        (with_reducible refine (EvC.run HCB.out _ ST0.out.below.drew).mono ?_)
        rintro y w1 ⟨hy, b1⟩
        unfold RetV at hy
        subst hy
        have hd := (Below.refl W0.heap.size W0).drew
        have ST1 := Lib.hid ((ST0.out.up hd).up b1)
        have bt := hd.trans (b1.mono hd.size)
        have GG := Lib.hid ((VA.out.up hd).up b1)
        replace e0 := cell_up e0 bt
        replace e1 := cell_up e1 bt
        replace x3 := cell_up x3 bt
        replace u0 := cell_up u0 bt
        replace u1 := cell_up u1 bt
        replace u2 := cell_up u2 bt
        replace u3 := cell_up u3 bt
        refine hK _ _ ⟨⟨e0,e1⟩,x3,u0,u1,u2,u3⟩ ?_
        clear hK K' b1 hd bt
        try simp only [Act.put, List.getElem_toArray, List.getElem_cons_zero, List.getElem_cons_succ, List.setIfInBounds_toArray, List.set_cons_zero, List.set_cons_succ]
        refine till_one (i := 6) (by kernel_rfl) rfl (fun K' hK => ?_)
        go_simp
        have bn := (Below.refl w1.heap.size w1).alloc (Nat.le_refl _) (.cells #[.int .i64 0, .int .i64 0, .bool false] 98)
        have ST2 := Lib.hid (ST1.out.up bn)
        have BZ := Lib.hid (Mem.Blk.new w1 98 #[.int .i64 0, .int .i64 0, .bool false])
        have HZ := Lib.hid ST1.out.lt
        have HP := Lib.hid (And.intro (GG.out.up bn) (Nat.ne_of_lt GG.out.blk.lt))
        refine hK _ _ ⟨⟨cell_up e0 bn, cell_up e1 bn⟩, cell_up x3 bn, cell_up u0 bn, cell_up u1 bn, cell_up u2 bn, cell_up u3 bn⟩ ?_
        clear hK K' bn ST1 e0 e1 x3 u0 u1 u2 u3 GG
        generalize w1.alloc (.cells #[.int .i64 0, .int .i64 0, .bool false] 98) = w2 at *
        generalize w1.heap.size = z at *
        try simp only [Act.put, List.getElem_toArray, List.getElem_cons_zero, List.getElem_cons_succ, List.setIfInBounds_toArray, List.set_cons_zero, List.set_cons_succ]
        obtain ⟨t0, t1, t2, t3, t4, t5⟩ := blk3 BZ.out
        have hm := BZ.out.lt
        refine till_last (by kernel_rfl) rfl (by kernel_rfl) (fun K' hK => ?_)
        go_simp
        have HS9 := Lib.hid (ST2.out.far3 HZ.out (.int .i64 B.K) (.int .i64 B.N) (.bool B.B))
        have HV9 := Lib.hid (EvV.mk (v := B) HZ.out (((BZ.out.set_ 0 (.int .i64 B.K)).set_ 1 (.int .i64 B.N)).set_ 2 (.bool B.B)))
        refine hK _ _ ?_
        clear hK K'
        try simp only [Act.put, List.getElem_toArray, List.getElem_cons_zero, List.getElem_cons_succ, List.setIfInBounds_toArray, List.set_cons_zero, List.set_cons_succ]
        refine wpAny_done (by kernel_rfl) ?_ _
        go_wp2_with fail
        go_meet
        case rel => exact ⟨z, rfl, HS9.out, HV9.out, HP.out.1.far3 HP.out.2 _ _ _⟩
      · go_simp
        have bn := below_new W0 (.cells #[.int .i64 0, .int .i64 0, .bool false] 98)
        have ST1 := Lib.hid (ST0.out.up bn)
        have BZ1 := Lib.hid (Mem.Blk.new W0 98 #[.int .i64 0, .int .i64 0, .bool false]).drew
        have HZ := Lib.hid ST0.out.lt
        have HQ := Lib.hid (And.intro (VA.out.up bn) (Nat.ne_of_lt VA.out.blk.lt))
        replace e0 := cell_up e0 bn
        replace e1 := cell_up e1 bn
        replace x3 := cell_up x3 bn
        replace u0 := cell_up u0 bn
        replace u1 := cell_up u1 bn
        replace u2 := cell_up u2 bn
        replace u3 := cell_up u3 bn
        refine hK _ _ ⟨⟨e0,e1⟩,x3,u0,u1,u2,u3⟩ ?_
        clear hK K' bn
        generalize (W0.alloc (.cells #[.int .i64 0, .int .i64 0, .bool false] 98)).drew = w1 at *
        generalize W0.heap.size = z at *
        try simp only [Act.put, List.getElem_toArray, List.getElem_cons_zero, List.getElem_cons_succ, List.setIfInBounds_toArray, List.set_cons_zero, List.set_cons_succ]
        refine till_one (i := 5) (by kernel_rfl) rfl (fun K' hK => ?_)
        go_simp
        go_at_call 60
        (with_reducible refine (EvC.run HCB.out _ ST1.out.below).mono ?_)
        rintro y w2 ⟨hy, b1⟩
        unfold RetV at hy
        subst hy
        have ST2 := Lib.hid (ST1.out.up b1)
        have BZ := Lib.hid (BZ1.out.below b1)
        have HP := Lib.hid (And.intro (HQ.out.1.up b1) HQ.out.2)
        refine hK _ _ ⟨⟨cell_up e0 b1, cell_up e1 b1⟩, cell_up x3 b1, cell_up u0 b1, cell_up u1 b1, cell_up u2 b1, cell_up u3 b1⟩ ?_
        clear hK K' b1 ST1 BZ1 e0 e1 x3 u0 u1 u2 u3 HQ
        try simp only [Act.put, List.getElem_toArray, List.getElem_cons_zero, List.getElem_cons_succ, List.setIfInBounds_toArray, List.set_cons_zero, List.set_cons_succ]
        obtain ⟨t0, t1, t2, t3, t4, t5⟩ := blk3 BZ.out
        have hm := BZ.out.lt
        refine till_last (by kernel_rfl) rfl (by kernel_rfl) (fun K' hK => ?_)
        go_simp
        have HS9 := Lib.hid (ST2.out.far3 HZ.out (.int .i64 B.K) (.int .i64 B.N) (.bool B.B))
        have HV9 := Lib.hid (EvV.mk (v := B) HZ.out (((BZ.out.set_ 0 (.int .i64 B.K)).set_ 1 (.int .i64 B.N)).set_ 2 (.bool B.B)))
        refine hK _ _ ?_
        clear hK K'
        try simp only [Act.put, List.getElem_toArray, List.getElem_cons_zero, List.getElem_cons_succ, List.setIfInBounds_toArray, List.set_cons_zero, List.set_cons_succ]
        refine wpAny_done (by kernel_rfl) ?_ _
        go_wp2_with fail
        go_meet
        case rel => exact ⟨z, rfl, HS9.out, HV9.out, HP.out.1.far3 HP.out.2 _ _ _⟩
    obtain ⟨g1, rfl, ST1, VB, VA1⟩ := hcut
    obtain ⟨W1, rfl⟩ : ∃ W : World, W = wc := ⟨_, rfl⟩
    clear ST0 VA HCB HCA
    rcases HTB.out with rfl | rfl | ⟨y, rfl⟩
    · obtain rfl : R = .unk := by rw [HR1.out]; simp
      have t0 : W1.cell? ⟨g, 0, none⟩ = some (.int .i64 1) := VA1.out.blk.cell 0
      have t1 : W1.cell? ⟨g, 1, none⟩ = some (.int .i64 x) := VA1.out.blk.cell 1
      have t2 : W1.cell? ⟨g, 2, none⟩ = some (.bool false) := VA1.out.blk.cell 2
      have xt0 : W1.cell? ⟨g1, 0, none⟩ = some (.int .i64 0) := VB.out.blk.cell 0
      have xt1 : W1.cell? ⟨g1, 1, none⟩ = some (.int .i64 0) := VB.out.blk.cell 1
      have xt2 : W1.cell? ⟨g1, 2, none⟩ = some (.bool false) := VB.out.blk.cell 2
      obtain ⟨e0, e1, -, -⟩ := ST1.out.env.two
      obtain ⟨x0, x1, x2, x3, -, -, -, -⟩ := blk4 ST1.out.ex
      have HFN := Lib.hid (ret3 (.int .i64 0) (.int .i64 0) (.bool false) ST1.out.below (by omega : w.heap.size ≤ w.heap.size + 1 + 1) ST1.out.res)
      obtain ⟨q0, q1, q2, q3, q4, q5⟩ := blk3 ST1.out.res
      have hm := ST1.out.lt
      go_wp2_with fail
      generalize ((W1.setCell ⟨w.heap.size + 1 + 1, 0, none⟩ (.int .i64 0)).setCell ⟨w.heap.size + 1 + 1, 1, none⟩ (.int .i64 0)).setCell ⟨w.heap.size + 1 + 1, 2, none⟩ (.bool false) = W9 at *
      obtain ⟨r0, r1, r2, -, -, -⟩ := blk3 HFN.out.2
      refine bodyPost_ret (v := .agg #[.int .i64 0, .int .i64 0, .bool false]) (by simp [results, Try.results60, go_sem, r0, r1, r2]) rfl ⟨rfl, HFN.out.1⟩
    · obtain rfl : R = .brk := by rw [HR1.out]; simp
      have t0 : W1.cell? ⟨g, 0, none⟩ = some (.int .i64 1) := VA1.out.blk.cell 0
      have t1 : W1.cell? ⟨g, 1, none⟩ = some (.int .i64 x) := VA1.out.blk.cell 1
      have t2 : W1.cell? ⟨g, 2, none⟩ = some (.bool false) := VA1.out.blk.cell 2
      have xt0 : W1.cell? ⟨g1, 0, none⟩ = some (.int .i64 3) := VB.out.blk.cell 0
      have xt1 : W1.cell? ⟨g1, 1, none⟩ = some (.int .i64 0) := VB.out.blk.cell 1
      have xt2 : W1.cell? ⟨g1, 2, none⟩ = some (.bool false) := VB.out.blk.cell 2
      obtain ⟨e0, e1, -, -⟩ := ST1.out.env.two
      obtain ⟨x0, x1, x2, x3, -, -, -, -⟩ := blk4 ST1.out.ex
      have HFN := Lib.hid (ret3 (.int .i64 3) (.int .i64 0) (.bool false) ST1.out.below (by omega : w.heap.size ≤ w.heap.size + 1 + 1) ST1.out.res)
      obtain ⟨q0, q1, q2, q3, q4, q5⟩ := blk3 ST1.out.res
      have hm := ST1.out.lt
      go_wp2_with fail
      generalize ((W1.setCell ⟨w.heap.size + 1 + 1, 0, none⟩ (.int .i64 3)).setCell ⟨w.heap.size + 1 + 1, 1, none⟩ (.int .i64 0)).setCell ⟨w.heap.size + 1 + 1, 2, none⟩ (.bool false) = W9 at *
      obtain ⟨r0, r1, r2, -, -, -⟩ := blk3 HFN.out.2
      refine bodyPost_ret (v := .agg #[.int .i64 3, .int .i64 0, .bool false]) (by simp [results, Try.results60, go_sem, r0, r1, r2]) rfl ⟨rfl, HFN.out.1⟩
    · have HR2 : Hid (twoV op x y = R) := by rw [HR1.out]; simp [Hid, Vl.N]
      have HY : Hid (I64 y) := HIB.out
      clear HR1 HIB
      have t0 : W1.cell? ⟨g, 0, none⟩ = some (.int .i64 1) := VA1.out.blk.cell 0
      have t1 : W1.cell? ⟨g, 1, none⟩ = some (.int .i64 x) := VA1.out.blk.cell 1
      have t2 : W1.cell? ⟨g, 2, none⟩ = some (.bool false) := VA1.out.blk.cell 2
      have xt0 : W1.cell? ⟨g1, 0, none⟩ = some (.int .i64 1) := VB.out.blk.cell 0
      have xt1 : W1.cell? ⟨g1, 1, none⟩ = some (.int .i64 y) := VB.out.blk.cell 1
      have xt2 : W1.cell? ⟨g1, 2, none⟩ = some (.bool false) := VB.out.blk.cell 2
      obtain ⟨e0, e1, -, -⟩ := ST1.out.env.two
      obtain ⟨x0, x1, x2, x3, -, -, -, -⟩ := blk4 ST1.out.ex
      go_wp2_with fail
      go_at_call 74
      (with_reducible refine (two_any op x y _ HOP.out HX.out HY.out).mono ?_)
      rintro y' w2 ⟨hy, b2⟩
      rw [HR2.out] at hy
      clear HR2 t0 t1 t2 xt0 xt1 xt2
      unfold RetV at hy
      subst hy
      have HP : Hid (RetV R (.returned (.agg #[.int .i64 R.K, .int .i64 R.N, .bool R.B]))) := rfl
      have ST2 := Lib.hid (ST1.out.up b2)
      clear b2
      generalize R.K = rk at *
      generalize R.N = rn at *
      generalize R.B = rb at *
      try clear e0 e1 x0 x1 x2 x3
      have HFN := Lib.hid (ret3 (.int .i64 rk) (.int .i64 rn) (.bool rb) ST2.out.below (by omega : w.heap.size ≤ w.heap.size + 1 + 1) ST2.out.res)
      obtain ⟨q0, q1, q2, q3, q4, q5⟩ := blk3 ST2.out.res
      have hm := ST2.out.lt
      go_wp2_with fail
      generalize ((w2.setCell ⟨w.heap.size + 1 + 1, 0, none⟩ (.int .i64 rk)).setCell ⟨w.heap.size + 1 + 1, 1, none⟩ (.int .i64 rn)).setCell ⟨w.heap.size + 1 + 1, 2, none⟩ (.bool rb) = W9 at *
      obtain ⟨r0, r1, r2, -, -, -⟩ := blk3 HFN.out.2
      refine bodyPost_ret (v := .agg #[.int .i64 rk, .int .i64 rn, .bool rb]) (by simp [results, Try.results60, go_sem, r0, r1, r2]) rfl ⟨HP.out, HFN.out.1⟩
/-- What an expression is: of a right one with a kind. -/
theorem eval_any (day : Int) (fx : List Fx) (a : Option Addr) (len cap : Nat) (hd : I64 day) : ∀ (r : Nat) (e : Ex), e.rk ≤ r → bE e = true → kE e ≠ 0 → ∀ (cs : List Value) (w : World), RepE w [] e cs → SlR fxK w [] fx a len cap →
    Calls Try.prog 60 #[.agg #[.int .i64 day, .slice a len cap], .agg cs.toArray] w fun x w' => RetV (evalE day fx e) x ∧ Below w.heap.size w w' := by
  intro r
  induction r with
  | zero => intro e h; have := e.rk_pos; omega
  | succ r ih =>
    intro e hr hb hk cs w hR hS
    have hnum := RepE.nums _ e (Nat.le_refl _) cs hR
    have hfx := fxs_i64 hS
    obtain ⟨op, n, nm, args, a', len', cap', rfl, rfl, i1, i2, i3, hSA⟩ := hR.inv
    obtain ⟨g1, -, g3⟩ := bE_inv hb
    have hkids := kid_kinds hb hk
    have hop := ar_op (by omega : 0 ≤ ar op)
    have hlen := hSA.facts.1
    have hsh := fun h4 => eval_shape day fx hb hk (op := op) h4
    obtain ⟨-, hnk⟩ := hnum
    rw [evalE_mk]
    -- the contracts of what lies within
    have hC : ∀ (k : Nat) (x : Ex) (c0 c1 : Int) (c2 : ByteArray) (s0 : Option Addr) (s1 s2 : Nat), args[k]? = some x → RepE w [] x [.int .i64 c0, .int .i64 c1, .string c2, .slice s0 s1 s2] → EvC w day a len cap (.int .i64 c0) (.int .i64 c1) (.string c2) (.slice s0 s1 s2) (evalE day fx x) := by
      intro k x c0 c1 c2 s0 s1 s2 hx hrep W hW
      exact ih x (by have := Ex.rk_lt (op := op) (n := n) (nm := nm) hx; omega) (g3 x (List.mem_of_getElem? hx)) (hkids x (List.mem_of_getElem? hx)) _ W (hrep.kept (Kept.of_below hW [])) (hS.kept (Kept.of_below hW []))
    have hI : ∀ (k : Nat) (x : Ex), args[k]? = some x → I64 (evalE day fx x).N := fun k x hx => eval_i64 hd hfx x.rk x (Nat.le_refl _) (nums_go.1 hnk x (List.mem_of_getElem? hx))
    by_cases h4 : op ≤ 4
    · have hl : args = [] := List.length_eq_zero_iff.1 (by rw [ar_nil hop.1 h4] at g1; omega)
      subst hl
      exact evLeaf_any day fx a len cap op n nm a' len' cap' w hS ⟨hop.1, h4⟩
    · have hs := hsh (by omega)
      have hev : evO day fx op n nm (args.map (evalE day fx)) = opV op (args.map (evalE day fx)) := by unfold evO; rw [if_neg (by omega), if_neg (by omega), if_neg (by omega)]
      rw [hev]
      have hcount : args.length = 1 ∨ args.length = 2 ∨ args.length = 3 := by
        unfold ar at g1
        repeat' split at g1
        all_goals omega
      rcases hcount with hc | hc | hc
      · obtain ⟨x, rfl⟩ := one_of hc
        obtain rfl : len' = 1 := by omega
        obtain ⟨b, o, x', c0, c1, c2, s0, s1, s2, rfl, -, hx, hrep, hF⟩ := arg_at hSA 0 (by omega)
        obtain rfl : x = x' := by simpa using hx
        rw [Nat.zero_mul, Nat.add_zero] at hF
        have h0 := hC 0 x _ _ _ _ _ _ rfl hrep
        have h0i := hI 0 x rfl
        simp only [List.map_cons, List.map_nil] at hs ⊢
        generalize evalE day fx x = A at *
        generalize kE x = kx at *
        generalize kE (Ex.mk op n nm [x]) = kk at *
        cases hs with
        | not ha => exact ev_not w day a len cap n nm b o cap' c0 c1 c2 s0 s1 s2 A ha hF h0
        | neg ha => exact ev_neg w day a len cap n nm b o cap' c0 c1 c2 s0 s1 s2 A ha h0i hF h0
      · obtain ⟨x, y, rfl⟩ := two_of hc
        obtain rfl : len' = 2 := by omega
        obtain ⟨b, o, x', c0, c1, c2, s0, s1, s2, rfl, -, hx, hrep, hF⟩ := arg_at hSA 0 (by omega)
        obtain rfl : x = x' := by simpa using hx
        obtain ⟨b', o', y', d0, d1, d2, t0, t1, t2, e, -, hy, hrep', hF'⟩ := arg_at hSA 1 (by omega)
        obtain rfl : y = y' := by simpa using hy
        injection e with e; injection e with e1 e2; subst e1; subst e2
        rw [Nat.zero_mul, Nat.add_zero] at hF
        rw [Nat.one_mul] at hF'
        have h0 := hC 0 x _ _ _ _ _ _ rfl hrep
        have h1 := hC 1 y _ _ _ _ _ _ rfl hrep'
        have h0i := hI 0 x rfl
        have h1i := hI 1 y rfl
        simp only [List.map_cons, List.map_nil] at hs ⊢
        generalize evalE day fx x = A at *
        generalize evalE day fx y = B at *
        generalize kE x = kx at *
        generalize kE y = ky at *
        generalize kE (Ex.mk op n nm [x, y]) = kk at *
        cases hs with
        | two1 h ha hb' => exact ev_two w day a len cap op n nm b o cap' c0 c1 d0 d1 c2 d2 s0 t0 s1 s2 t1 t2 A B (by omega) ha hb' h0i h1i hF hF' h0 h1
        | cmp h ha hb' => exact ev_two w day a len cap op n nm b o cap' c0 c1 d0 d1 c2 d2 s0 t0 s1 s2 t1 t2 A B (by omega) ha hb' h0i h1i hF hF' h0 h1
        | both h ha hb' =>
          rw [opV_both h]
          exact ev_and w day a len cap op n nm b o cap' c0 c1 d0 d1 c2 d2 s0 t0 s1 s2 t1 t2 A B h hF hF' h0 h1
      · obtain ⟨x, y, z, rfl⟩ := three_of hc
        obtain rfl : len' = 3 := by omega
        obtain ⟨b, o, x', c0, c1, c2, s0, s1, s2, rfl, -, hx, hrep, hF⟩ := arg_at hSA 0 (by omega)
        obtain rfl : x = x' := by simpa using hx
        obtain ⟨b', o', y', d0, d1, d2, t0, t1, t2, e, -, hy, hrep', hF'⟩ := arg_at hSA 1 (by omega)
        obtain rfl : y = y' := by simpa using hy
        injection e with e; injection e with e1 e2; subst e1; subst e2
        obtain ⟨b', o', z', f0, f1, f2, u0, u1, u2, e, -, hz, hrep2, hF2⟩ := arg_at hSA 2 (by omega)
        obtain rfl : z = z' := by simpa using hz
        injection e with e; injection e with e1 e2; subst e1; subst e2
        rw [Nat.zero_mul, Nat.add_zero] at hF
        rw [Nat.one_mul] at hF'
        have h0 := hC 0 x _ _ _ _ _ _ rfl hrep
        have h1 := hC 1 y _ _ _ _ _ _ rfl hrep'
        have h2 := hC 2 z _ _ _ _ _ _ rfl hrep2
        simp only [List.map_cons, List.map_nil] at hs ⊢
        generalize evalE day fx x = A at *
        generalize evalE day fx y = B at *
        generalize evalE day fx z = C at *
        generalize kE x = kx at *
        generalize kE y = ky at *
        generalize kE z = kz at *
        generalize kE (Ex.mk op n nm [x, y, z]) = kk at *
        cases hs with
        | cond ha hb' hc' => exact ev_if w day a len cap n nm b o cap' c0 c1 d0 d1 f0 f1 c2 d2 f2 s0 t0 u0 s1 s2 t1 t2 u1 u2 A B C ha hF hF' hF2 h0 h1 h2
end Go.Proofs.Ytmiinmndbkdjbaa

/- What is right is built. -/
namespace Go.Proofs.Ytmiinmndbkdjbaa
set_option linter.unusedVariables false
set_option linter.unusedSimpArgs false
open Go.RowKit
theorem rE_blt {e : Ex} (h : rE e = true) : bE e = true := by unfold rE at h; rw [Bool.and_eq_true] at h; exact h.2
end Go.Proofs.Ytmiinmndbkdjbaa

/- The contract of obs.Eval, of any expression. -/
namespace Go.Proofs.Ytmiinmndbkdjbaa
set_option linter.unusedVariables false
set_option linter.unusedSimpArgs false
open Go.RowKit
noncomputable def evalX (day : Int) (fx : List Fx) (e : Ex) : Vl := if kI e = 0 then .brk else evalE day fx e
set_option maxRecDepth 100000 in
set_option maxHeartbeats 2000000 in
theorem obsEval_any (day : Int) (fx : List Fx) (a : Option Addr) (len cap : Nat) (e : Ex) (cs : List Value) (w : World) (hd : I64 day) (hR : RepE w [] e cs) (hk : e.rk ≤ 1000) (hS : SlR fxK w [] fx a len cap) :
    Calls Try.prog 47 #[.agg cs.toArray, .agg #[.int .i64 day, .slice a len cap]] w fun x w' => RetV (evalX day fx e) x ∧ Below w.heap.size w w' := by
  have HQ := Lib.hid (fun W (hW : Below w.heap.size w W) => kindX_any e cs W (hR.kept (Kept.of_below hW [])) hk)
  have HE : Hid (∀ W, Below w.heap.size w W → kI e ≠ 0 → Calls Try.prog 60 #[.agg #[.int .i64 day, .slice a len cap], .agg cs.toArray] W fun x W' => RetV (evalE day fx e) x ∧ Below W.heap.size W W') := by
    intro W hW h0
    unfold kI at h0
    by_cases hr : rE e = true
    · rw [if_pos hr] at h0
      exact eval_any day fx a len cap hd e.rk e (Nat.le_refl _) (rE_blt hr) h0 cs W (hR.kept (Kept.of_below hW [])) (hS.kept (Kept.of_below hW []))
    · rw [if_neg hr] at h0; exact absurd rfl h0
  obtain ⟨R, hRR⟩ : ∃ R, R = evalX day fx e := ⟨_, rfl⟩
  rw [← hRR]
  have HR : Hid (R = if kI e = 0 then .brk else evalE day fx e) := hRR
  clear hRR
  obtain ⟨op, n, nm, args, a', len', cap', -, rfl, i1, i2, i3, -⟩ := hR.inv
  have B0 := Mem.Blk.new w 53 #[.int .i64 op, .int .i64 n, .string nm, .slice a' len' cap']
  have B1 := Mem.Blk.new (w.alloc (.cells #[.int .i64 op, .int .i64 n, .string nm, .slice a' len' cap'] 53)) 44 #[.int .i64 day, .slice a len cap]
  have B2 := Mem.Blk.new ((w.alloc (.cells #[.int .i64 op, .int .i64 n, .string nm, .slice a' len' cap'] 53)).alloc (.cells #[.int .i64 day, .slice a len cap] 44)) 98 #[.int .i64 0, .int .i64 0, .bool false]
  have e1 : (w.alloc (.cells #[.int .i64 op, .int .i64 n, .string nm, .slice a' len' cap'] 53)).heap.size = w.heap.size + 1 := by simp
  have e2 : ((w.alloc (.cells #[.int .i64 op, .int .i64 n, .string nm, .slice a' len' cap'] 53)).alloc (.cells #[.int .i64 day, .slice a len cap] 44)).heap.size = w.heap.size + 1 + 1 := by simp
  have HB := Lib.hid ((((Below.refl w.heap.size w).alloc (Nat.le_refl _) (.cells #[.int .i64 op, .int .i64 n, .string nm, .slice a' len' cap'] 53)).alloc (by rw [e1]; omega) (.cells #[.int .i64 day, .slice a len cap] 44)).alloc (by rw [e2]; omega) (.cells #[.int .i64 0, .int .i64 0, .bool false] 98))
  rw [e1] at B1
  rw [e2] at B2
  have BX := Lib.hid ((B0.alloc (.cells #[.int .i64 day, .slice a len cap] 44)).alloc (.cells #[.int .i64 0, .int .i64 0, .bool false] 98))
  have BE := Lib.hid (B1.alloc (.cells #[.int .i64 0, .int .i64 0, .bool false] 98))
  have BR := Lib.hid B2
  clear B0 B1 B2 e1 e2 hR hS i1 i2 i3 hk
  go_enter Try.func47, Try.ntmps47
  go_upto_region 1 with (fail)
  generalize ((w.alloc (.cells #[.int .i64 op, .int .i64 n, .string nm, .slice a' len' cap'] 53)).alloc (.cells #[.int .i64 day, .slice a len cap] 44)).alloc (.cells #[.int .i64 0, .int .i64 0, .bool false] 98) = v at *
  obtain ⟨x0, x1, x2, x3, -, -, -, -⟩ := blk4 BX.out
  go_wp2_with fail
  go_at_call 25
  (with_reducible refine (HQ.out _ HB.out).mono ?_)
  rintro y w1 ⟨rfl, b1⟩
  have HB1 := Lib.hid (HB.out.trans (b1.mono HB.out.size))
  have BX1 := Lib.hid (BX.out.below b1)
  have BE1 := Lib.hid (BE.out.below b1)
  have BR1 := Lib.hid (BR.out.below b1)
  clear x0 x1 x2 x3 HB BX BE BR b1 HQ
  by_cases h0 : kI e = 0
  · obtain rfl : R = .brk := by rw [HR.out, if_pos h0]
    rw [h0]
    rw [show ((0 : Int) != 0) = false from rfl]
    clear HR HE h0
    have HFN := Lib.hid (ret3 (.int .i64 3) (.int .i64 0) (.bool false) HB1.out (by omega : w.heap.size ≤ w.heap.size + 1 + 1) BR1.out)
    obtain ⟨q0, q1, q2, q3, q4, q5⟩ := blk3 BR1.out
    have hm := BR1.out.lt
    go_wp2_with fail
    generalize ((w1.setCell ⟨w.heap.size + 1 + 1, 0, none⟩ (.int .i64 3)).setCell ⟨w.heap.size + 1 + 1, 1, none⟩ (.int .i64 0)).setCell ⟨w.heap.size + 1 + 1, 2, none⟩ (.bool false) = W9 at *
    obtain ⟨r0, r1, r2, -, -, -⟩ := blk3 HFN.out.2
    refine bodyPost_ret (v := .agg #[.int .i64 3, .int .i64 0, .bool false]) (by simp [results, Try.results47, go_sem, r0, r1, r2]) rfl ⟨rfl, HFN.out.1⟩
  · have HR2 : R = evalE day fx e := by rw [HR.out, if_neg h0]
    have HE2 := Lib.hid (fun W hW => HE.out W hW h0)
    rw [← HR2] at HE2
    clear HR2
    rw [show (kI e != 0) = true from bne_iff_ne.2 h0]
    clear HR HE h0
    generalize kI e = kk at *
    obtain ⟨x0, x1, x2, x3, -, -, -, -⟩ := blk4 BX1.out
    obtain ⟨e0, e1, -, -⟩ := BE1.out.two
    go_wp2_with fail
    go_at_call 60
    (with_reducible refine (HE2.out _ HB1.out).mono ?_)
    rintro y w2 ⟨hy, b2⟩
    unfold RetV at hy
    subst hy
    have HP : Hid (RetV R (.returned (.agg #[.int .i64 R.K, .int .i64 R.N, .bool R.B]))) := rfl
    have HB2 := Lib.hid (HB1.out.trans (b2.mono HB1.out.size))
    have BR2 := Lib.hid (BR1.out.below b2)
    clear x0 x1 x2 x3 e0 e1 b2 HB1 BR1 BX1 BE1 HE2
    generalize R.K = rk at *
    generalize R.N = rn at *
    generalize R.B = rb at *
    have HFN := Lib.hid (ret3 (.int .i64 rk) (.int .i64 rn) (.bool rb) HB2.out (by omega : w.heap.size ≤ w.heap.size + 1 + 1) BR2.out)
    obtain ⟨q0, q1, q2, q3, q4, q5⟩ := blk3 BR2.out
    have hm := BR2.out.lt
    go_wp2_with fail
    generalize ((w2.setCell ⟨w.heap.size + 1 + 1, 0, none⟩ (.int .i64 rk)).setCell ⟨w.heap.size + 1 + 1, 1, none⟩ (.int .i64 rn)).setCell ⟨w.heap.size + 1 + 1, 2, none⟩ (.bool rb) = W9 at *
    obtain ⟨r0, r1, r2, -, -, -⟩ := blk3 HFN.out.2
    refine bodyPost_ret (v := .agg #[.int .i64 rk, .int .i64 rn, .bool rb]) (by simp [results, Try.results47, go_sem, r0, r1, r2]) rfl ⟨HP.out, HFN.out.1⟩
end Go.Proofs.Ytmiinmndbkdjbaa

/- What is folded, by the document: the same; what fits fits within: plain. -/
namespace Go.Proofs.Ytmiinmndbkdjbaa
set_option linter.unusedVariables false
set_option linter.unusedSimpArgs false
open Go.RowKit
/-- What an op makes of two numbers, by the document. -/
def madeM (op a b : Int) : Option Int :=
  if op = 5 then fitI (a + b) else if op = 6 then fitI (a - b) else if op = 7 then fitI (a * b) else if op = 8 then (if b = 0 then none else fitI (a.fdiv b))
  else if op = 9 ∨ op = 10 then (if (decide (a < b)) = (decide (op = 9)) then some a else some b) else if op = 20 then fitI (-a) else none
/-- Each one's value, nought if it is no constant; are all constants, and is there one? -/
def valsD (l : List Ex) : List Int := l.map fun e => (knownE e).getD 0
def allK (l : List Ex) : Bool := decide (0 < l.length) && l.all fun e => (knownE e).isSome
def foldOD (op n : Int) (nm : ByteArray) (l : List Ex) : Ex :=
  if allK l = true then (match madeM op ((valsD l).getD 0 0) ((valsD l).getD 1 0) with | some v => if v = minI then .mk op n nm l else constE v | none => .mk op n nm l) else .mk op n nm l
def foldD : Ex → Ex
  | .mk op n nm l => foldOD op n nm (go l)
  where go : List Ex → List Ex
  | [] => []
  | e :: t => foldD e :: go t
theorem foldD_go (l : List Ex) : foldD.go l = l.map foldD := by
  induction l with
  | nil => rfl
  | cons x t ih => simp only [foldD.go, ih, List.map_cons]
theorem foldD_mk (op n : Int) (nm : ByteArray) (l : List Ex) : foldD (.mk op n nm l) = foldOD op n nm (l.map foldD) := by rw [foldD, foldD_go]
theorem allK_iff {l : List Ex} : allK l = true ↔ ¬ ((l.filterMap knownE).length < l.length ∨ (l.filterMap knownE).length = 0) := by
  have hle := List.length_filterMap_le knownE l
  constructor
  · intro h
    unfold allK at h
    rw [Bool.and_eq_true, decide_eq_true_eq, List.all_eq_true] at h
    have hlen : (l.filterMap knownE).length = l.length := by
      obtain ⟨-, h2⟩ := h
      clear hle
      induction l with
      | nil => rfl
      | cons x t ih =>
        cases hx : knownE x with
        | none => have := h2 x (by simp); rw [hx] at this; cases this
        | some v => rw [List.filterMap_cons_some hx, List.length_cons, List.length_cons, ih (fun e he => h2 e (by simp [he]))]
    omega
  · intro h
    unfold allK
    rw [Bool.and_eq_true, decide_eq_true_eq, List.all_eq_true]
    refine ⟨by omega, fun e he => ?_⟩
    obtain ⟨v, hv⟩ := all_known (by omega) e he
    rw [hv]; rfl
theorem vals_known {l : List Ex} (h : allK l = true) : l.filterMap knownE = valsD l := by
  have h' := allK_iff.1 h
  have hle := List.length_filterMap_le knownE l
  have hlen : (l.filterMap knownE).length = l.length := by omega
  clear h h' hle
  unfold valsD
  induction l with
  | nil => rfl
  | cons x t ih =>
    cases hx : knownE x with
    | none =>
      rw [List.filterMap_cons_none hx] at hlen
      have := List.length_filterMap_le knownE t
      simp only [List.length_cons] at hlen; omega
    | some v =>
      rw [List.filterMap_cons_some hx] at hlen ⊢
      rw [List.map_cons, hx, ih (by simp only [List.length_cons] at hlen; omega)]
      rfl
theorem made_value {op : Int} {l : List Int} (ha : ar op = (l.length : Nat)) : madeM op (l.getD 0 0) (l.getD 1 0) = valueM op l := by
  unfold madeM valueM
  by_cases h5 : op = 5
  · rw [if_pos h5, if_pos h5]
  rw [if_neg h5, if_neg h5]
  by_cases h6 : op = 6
  · rw [if_pos h6, if_pos h6]
  rw [if_neg h6, if_neg h6]
  by_cases h7 : op = 7
  · rw [if_pos h7, if_pos h7]
  rw [if_neg h7, if_neg h7]
  by_cases h8 : op = 8
  · rw [if_pos h8, if_pos h8]
  rw [if_neg h8, if_neg h8]
  by_cases h9 : op = 9
  · subst h9
    generalize l.getD 0 0 = a
    generalize l.getD 1 0 = b
    by_cases hlt : a < b <;> simp [hlt] <;> omega
  by_cases h10 : op = 10
  · subst h10
    generalize l.getD 0 0 = a
    generalize l.getD 1 0 = b
    by_cases hlt : a < b <;> simp [hlt] <;> omega
  rw [if_neg (by omega), if_neg h9, if_neg h10]
theorem foldD_eq : ∀ (r : Nat) (e : Ex), e.rk ≤ r → bE e = true → foldD e = foldE e := by
  intro r
  induction r with
  | zero => intro e h; have := e.rk_pos; omega
  | succ r ih =>
    intro e hr hb
    obtain ⟨op, n, nm, l⟩ := e
    obtain ⟨h1, -, h3⟩ := bE_inv hb
    have hmap : l.map foldD = l.map foldE := List.map_congr_left (fun c hc => by
      obtain ⟨k, hkk⟩ := List.getElem?_of_mem hc
      exact ih c (by have := Ex.rk_lt (op := op) (n := n) (nm := nm) hkk; omega) (h3 c hc))
    rw [foldD_mk, foldE_mk, hmap]
    have h1' : ar op = ((l.map foldE).length : Nat) := by rw [List.length_map]; exact h1
    generalize l.map foldE = l' at *
    unfold foldOD foldO
    by_cases hk : allK l' = true
    · rw [if_pos hk, if_neg (allK_iff.1 hk), vals_known hk, made_value (by unfold valsD; rw [List.length_map]; exact h1')]
      cases valueM op (valsD l') <;> rfl
    · rw [if_neg hk]
      have := fun h => hk (allK_iff.2 h)
      rw [if_pos (Classical.byContradiction this)]
def foldT : Te → Te
  | .mk op nm x l => .mk op nm (x.map foldE) (go l)
  where go : List Te → List Te
  | [] => []
  | e :: t => foldT e :: go t
theorem foldT_go (l : List Te) : foldT.go l = l.map foldT := by
  induction l with
  | nil => rfl
  | cons x t ih => simp only [foldT.go, ih, List.map_cons]
/-- What fits fits within. -/
theorem fitT_mk (op : Int) (nm : ByteArray) (x : List Ex) (l : List Te) : fitT (.mk op nm x l) = (x.all (fun e => decide (kE e = needT op)) && l.all fitT) := by rw [fitT, fitT_go]
theorem fitT_in {op : Int} {nm : ByteArray} {x : List Ex} {l : List Te} (h : fitT (.mk op nm x l) = true) : ∀ t ∈ l, fitT t = true := by
  rw [fitT_mk, Bool.and_eq_true] at h
  exact fun t ht => List.all_eq_true.1 h.2 t ht
theorem fitT_give (nm : ByteArray) (op : Int) (t : Te) : fitT (.mk op nm [] [t]) = fitT t := by rw [fitT_mk]; simp
theorem fitT_or (nm : ByteArray) (op : Int) (t : Te) : fitT (.mk op nm [] [t, .mk 1 ⟨#[]⟩ [] []]) = fitT t := by rw [fitT_mk]; simp [fitT_mk]
theorem right_in {op : Int} {nm : ByteArray} {x : List Ex} {l : List Te} (h : bT (.mk op nm x l) = true ∧ (Te.mk op nm x l).nd ≤ 200 ∧ (Te.mk op nm x l).rk ≤ 16) : ∀ t ∈ l, bT t = true ∧ t.nd ≤ 200 ∧ t.rk ≤ 16 := by
  intro t ht
  obtain ⟨-, -, -, -, h5⟩ := bT_inv h.1
  obtain ⟨k, hk⟩ := List.getElem?_of_mem ht
  have h1 := nd_go_mem ht
  have h2 := Te.rk_lt (op := op) (nm := nm) (x := x) hk
  have h3 : (Te.mk op nm x l).nd = 1 + Ex.nd.go x + Te.nd.go l := rfl
  exact ⟨h5 t ht, by omega, by omega⟩
end Go.Proofs.Ytmiinmndbkdjbaa

/- A literal's block as a slice. -/
namespace Go.Proofs.Ytmiinmndbkdjbaa
set_option linter.unusedVariables false
set_option linter.unusedSimpArgs false
open Go.RowKit
theorem RepE.free {w : World} {X : List Nat} {e : Ex} {cs : List Value} (h : RepE w X e cs) : RepE w [] e cs := h.less (fun _ _ hm => absurd hm List.not_mem_nil)
theorem RepT.free {w : World} {X : List Nat} {e : Te} {cs : List Value} (h : RepT w X e cs) : RepT w [] e cs := h.less (fun _ _ hm => absurd hm List.not_mem_nil)
theorem SlR.free {α : Type} {K : Elt α} {w : World} {X : List Nat} {l : List α} {a : Option Addr} {len cap : Nat} (h : SlR K w X l a len cap) : SlR K w [] l a len cap := h.less (fun _ _ hm => absurd hm List.not_mem_nil)
theorem SlR.lit {α : Type} {K : Elt α} {w : World} {X : List Nat} {g : Nat} {ty : TypeId} {cs : Array Value} {l : List α} (csl : List (List Value)) (hB : Mem.Blk w g ty cs) (hg : g ∉ X) (hf : cs.toList = csl.flatten) (hc : csl.length = l.length)
    (he : ∀ (i : Nat) x c, l[i]? = some x → csl[i]? = some c → K.R w X x c) (n : Nat) (hn : l.length = n) (hm : n ≤ 9223372036854775807) : SlR K w X l (some ⟨g, 0, none⟩) n n := by
  subst hn
  have h4 : ∀ c ∈ csl, c.length = K.sz := by
    intro c hcm
    obtain ⟨i, hi, rfl⟩ := List.getElem_of_mem hcm
    exact (K.one (he i _ _ (List.getElem?_eq_getElem (by omega)) (List.getElem?_eq_getElem hi))).1
  refine ⟨csl, hc, he, hc, Nat.le_refl _, hm, fun _ => ⟨g, 0, rfl, hB.lt, hg, fun i c hi => ?_⟩⟩
  have hl := h4 c (List.mem_of_getElem? hi)
  refine ⟨hl, fun j u hj => ?_⟩
  have hjs : j < K.sz := by rw [← hl]; exact (List.getElem?_eq_some_iff.1 hj).1
  rw [Nat.zero_add, hB.cell, ← Array.getElem?_toList, hf, flat_get K.sz csl h4 i j c hi hjs]
  exact hj
/-- One element. -/
theorem SlR.lit1 {α : Type} {K : Elt α} {w : World} {X : List Nat} {g : Nat} {ty : TypeId} {c : List Value} {x : α} (hB : Mem.Blk w g ty c.toArray) (hg : g ∉ X) (h : K.R w X x c) : SlR K w X [x] (some ⟨g, 0, none⟩) 1 1 := by
  refine SlR.lit (l := [x]) [c] hB hg (by simp) rfl (fun i y d hy hd => ?_) 1 rfl (by decide)
  match i, hy, hd with
  | 0, hy, hd => simp at hy hd; subst hy; subst hd; exact h
  | k + 1, hy, _ => simp at hy
theorem SlR.lit2 {α : Type} {K : Elt α} {w : World} {X : List Nat} {g : Nat} {ty : TypeId} {c d : List Value} {x y : α} {cs : Array Value} (hB : Mem.Blk w g ty cs) (hcs : cs.toList = c ++ d) (hg : g ∉ X) (h : K.R w X x c) (h' : K.R w X y d) : SlR K w X [x, y] (some ⟨g, 0, none⟩) 2 2 := by
  refine SlR.lit (l := [x, y]) [c, d] hB hg (by simpa using hcs) rfl (fun i z e hy hd => ?_) 2 rfl (by decide)
  match i, hy, hd with
  | 0, hy, hd => simp at hy hd; subst hy; subst hd; exact h
  | 1, hy, hd => simp at hy hd; subst hy; subst hd; exact h'
  | k + 2, hy, _ => simp at hy
/-- Four cells are stored where an answer lies; what is answered keeps out of there. -/
theorem ret4E {w w1 : World} {g : Nat} {X : List Nat} {ty : TypeId} {e : Ex} {b0 b1 b2 b3 c0 c1 c2 c3 : Value} (hb : Below w.heap.size w w1) (hg : w.heap.size ≤ g) (hB : Mem.Blk w1 g ty #[b0, b1, b2, b3]) (hR : RepE w1 (g :: X) e [c0, c1, c2, c3]) :
    RepE ((((w1.setCell ⟨g, 0, none⟩ c0).setCell ⟨g, 1, none⟩ c1).setCell ⟨g, 2, none⟩ c2).setCell ⟨g, 3, none⟩ c3) X e [c0, c1, c2, c3] ∧ Below w.heap.size w ((((w1.setCell ⟨g, 0, none⟩ c0).setCell ⟨g, 1, none⟩ c1).setCell ⟨g, 2, none⟩ c2).setCell ⟨g, 3, none⟩ c3) ∧
    Mem.Blk ((((w1.setCell ⟨g, 0, none⟩ c0).setCell ⟨g, 1, none⟩ c1).setCell ⟨g, 2, none⟩ c2).setCell ⟨g, 3, none⟩ c3) g ty #[c0, c1, c2, c3] := by
  have k4 : Kept (g :: X) w1 ((((w1.setCell ⟨g, 0, none⟩ c0).setCell ⟨g, 1, none⟩ c1).setCell ⟨g, 2, none⟩ c2).setCell ⟨g, 3, none⟩ c3) := (((Kept.setCell w1 (by simp) _).trans (Kept.setCell _ (by simp) _)).trans (Kept.setCell _ (by simp) _)).trans (Kept.setCell _ (by simp) _)
  exact ⟨(hR.kept k4).less (fun b _ hm => List.mem_cons_of_mem _ hm), (((hb.setCell hg _).setCell hg _).setCell hg _).setCell hg _, (((hB.set_ 0 _).set_ 1 _).set_ 2 _).set_ 3 _⟩
theorem ret4T {w w1 : World} {g : Nat} {X : List Nat} {ty : TypeId} {e : Te} {b0 b1 b2 b3 c0 c1 c2 c3 : Value} (hb : Below w.heap.size w w1) (hg : w.heap.size ≤ g) (hB : Mem.Blk w1 g ty #[b0, b1, b2, b3]) (hR : RepT w1 (g :: X) e [c0, c1, c2, c3]) :
    RepT ((((w1.setCell ⟨g, 0, none⟩ c0).setCell ⟨g, 1, none⟩ c1).setCell ⟨g, 2, none⟩ c2).setCell ⟨g, 3, none⟩ c3) X e [c0, c1, c2, c3] ∧ Below w.heap.size w ((((w1.setCell ⟨g, 0, none⟩ c0).setCell ⟨g, 1, none⟩ c1).setCell ⟨g, 2, none⟩ c2).setCell ⟨g, 3, none⟩ c3) ∧
    Mem.Blk ((((w1.setCell ⟨g, 0, none⟩ c0).setCell ⟨g, 1, none⟩ c1).setCell ⟨g, 2, none⟩ c2).setCell ⟨g, 3, none⟩ c3) g ty #[c0, c1, c2, c3] := by
  have k4 : Kept (g :: X) w1 ((((w1.setCell ⟨g, 0, none⟩ c0).setCell ⟨g, 1, none⟩ c1).setCell ⟨g, 2, none⟩ c2).setCell ⟨g, 3, none⟩ c3) := (((Kept.setCell w1 (by simp) _).trans (Kept.setCell _ (by simp) _)).trans (Kept.setCell _ (by simp) _)).trans (Kept.setCell _ (by simp) _)
  exact ⟨(hR.kept k4).less (fun b _ hm => List.mem_cons_of_mem _ hm), (((hb.setCell hg _).setCell hg _).setCell hg _).setCell hg _, (((hB.set_ 0 _).set_ 1 _).set_ 2 _).set_ 3 _⟩
end Go.Proofs.Ytmiinmndbkdjbaa

/- Flows in memory. -/
namespace Go.Proofs.Ytmiinmndbkdjbaa
set_option linter.unusedVariables false
set_option linter.unusedSimpArgs false
open Go.RowKit
structure Flw where
  coin : ByteArray
  amt : Int
def flC (f : Flw) : List Value := [.string f.coin, .int .i64 f.amt]
structure FlOk (f : Flw) : Prop where
  coin : f.coin.size ≤ maxLen
  amt : I64 f.amt
def flK : Elt Flw where
  sz := 2
  pos := by decide
  R := fun _ _ a cs => cs = flC a ∧ FlOk a
  kept := fun h _ => h
  less := fun h _ => h
  one := fun h => by obtain ⟨rfl, _⟩ := h; exact ⟨rfl, by simp [flC, Value.oneCell']⟩
theorem fl_at {w : World} {X : List Nat} {l : List Flw} {a : Option Addr} {len cap : Nat} (h : SlR flK w X l a len cap) (k : Nat) (hk : k < len) :
    ∃ b o x, a = some ⟨b, o, none⟩ ∧ l[k]? = some x ∧ FlOk x ∧ w.cell? ⟨b, o + k * 2, none⟩ = some (.string x.coin) ∧ w.cell? ⟨b, o + k * 2 + 1, none⟩ = some (.int .i64 x.amt) := by
  obtain ⟨b, o, f, cs, ha, hb, hX, hf, ⟨rfl, h1⟩, -, hc⟩ := h.at k hk
  exact ⟨b, o, f, ha, hf, h1, hc 0 _ rfl, hc 1 _ rfl⟩
theorem fl_ok {w : World} {X : List Nat} {l : List Flw} {a : Option Addr} {len cap : Nat} (h : SlR flK w X l a len cap) : ∀ x ∈ l, FlOk x := by
  intro x hx
  obtain ⟨i, hi⟩ := List.getElem?_of_mem hx
  have hil := (List.getElem?_eq_some_iff.1 hi).1
  obtain ⟨b, o, y, -, hy, hok, -⟩ := fl_at h i (by have := h.facts.1; omega)
  rw [hi] at hy; rw [Option.some.inj hy]; exact hok
theorem infoLF : (Try.prog.info? 55).map (fun i => (i.zero, i.size, i.bytes)) = some (some (.agg #[.string ⟨#[]⟩, .int .i64 0]), 2, 24) := by kernel_rfl
theorem below_nT (w : World) (o : Obj) : Below w.heap.size w (w.alloc o) := (Below.refl w.heap.size w).alloc (Nat.le_refl _) o
theorem cellT {w w' : World} {a : Addr} {v : Value} (h : w.cell? a = some v) (b : Below w.heap.size w w') : w'.cell? a = some v := by
  rw [World.cell?_of_block (w := w) (b.block a.block (World.block_lt_of_cell? w a h))]; exact h
end Go.Proofs.Ytmiinmndbkdjbaa
