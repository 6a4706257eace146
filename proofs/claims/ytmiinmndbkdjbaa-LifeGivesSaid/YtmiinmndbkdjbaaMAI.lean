/- A part of the proof: Both, one behind another. -/
import Derived.Test.YtmiinmndbkdjbaaMAA
import Derived.Test.YtmiinmndbkdjbaaMAB
import Derived.Test.YtmiinmndbkdjbaaMAC
import Derived.Test.YtmiinmndbkdjbaaMAD
import Derived.Test.YtmiinmndbkdjbaaMAE
import Derived.Test.YtmiinmndbkdjbaaMAF
import Derived.Test.YtmiinmndbkdjbaaMAG
import Derived.Test.YtmiinmndbkdjbaaMAH
/- The contract of both, where those within have theirs. -/
namespace Go.Proofs.Ytmiinmndbkdjbaa
set_option linter.unusedVariables false
set_option linter.unusedSimpArgs false
open Go.RowKit
set_option maxRecDepth 100000 in
set_option maxHeartbeats 4000000 in
theorem both_any (s : Bool) (day : Int) (a : Option Addr) (len cap : Nat) (op n : Int) (nm : ByteArray) (b o cap' : Nat) (o0 n0 o1 n1 : Int) (m0 m1 : ByteArray) (a0 a1 : Option Addr) (l0 p0 l1 p1 : Nat) (A B : Vl) (w : World)
    (h0 : Four w b o (.int .i64 o0) (.int .i64 n0) (.string m0) (.slice a0 l0 p0)) (h1 : Four w b (o + 4) (.int .i64 o1) (.int .i64 n1) (.string m1) (.slice a1 l1 p1))
    (HA : EvC w day a len cap (.int .i64 o0) (.int .i64 n0) (.string m0) (.slice a0 l0 p0) A) (HB : EvC w day a len cap (.int .i64 o1) (.int .i64 n1) (.string m1) (.slice a1 l1 p1) B) :
    Calls Try.prog 72 #[.agg #[.int .i64 day, .slice a len cap], .agg #[.int .i64 op, .int .i64 n, .string nm, .slice (some ⟨b, o, none⟩) 2 cap'], .bool s] w fun x w' => RetV (bothV s A B) x ∧ Below w.heap.size w w' := by
  have HR : Hid (bothV s A B = if A = .brk ∨ A = .tru s then A else if (∃ t, A = .tru t) ∨ B = .brk ∨ B = .tru s then B else .unk) := by
    show bothV s A B = _
    unfold bothV
    congr
  have H0 := Lib.hid h0
  have H1 := Lib.hid h1
  have HCA := Lib.hid HA
  have HCB := Lib.hid HB
  have ST := Lib.hid (EvSt.start w day a len cap op n nm (some ⟨b, o, none⟩) 2 cap')
  obtain ⟨R, hR⟩ : ∃ R, R = bothV s A B := ⟨_, rfl⟩
  rw [← hR] at HR ⊢
  clear hR h0 h1 HA HB
  go_enter Try.func72, Try.ntmps72
  go_upto_region 1 with (fail)
  generalize ((w.alloc (.cells #[.int .i64 day, .slice a len cap] 44)).alloc (.cells #[.int .i64 op, .int .i64 n, .string nm, .slice (some ⟨b, o, none⟩) 2 cap'] 53)).alloc (.cells #[.int .i64 0, .int .i64 0, .bool false] 98) = v at *
  go_cut [7] (fun p W0 => ∃ g, p = .pointer (some ⟨g, 0, none⟩) ∧ Hid (EvSt w W0 day a len cap op n nm (some ⟨b, o, none⟩) 2 cap') ∧ Hid (EvV w W0 g A))
  case first =>
    obtain ⟨e0, e1, -, -⟩ := ST.out.env.two
    have x3 : v.cell? ⟨w.heap.size + 1, 3, none⟩ = _ := ST.out.ex.cell 3
    simp only [List.getElem?_toArray, List.getElem?_cons_zero, List.getElem?_cons_succ] at x3
    obtain ⟨u0, u1, u2, u3⟩ := H0.out
    replace u0 := cell_up u0 ST.out.below
    replace u1 := cell_up u1 ST.out.below
    replace u2 := cell_up u2 ST.out.below
    replace u3 := cell_up u3 ST.out.below
    refine wp_region_till (S := fun W => (W.cell? ⟨w.heap.size, 0, none⟩ = some (.int .i64 day) ∧ W.cell? ⟨w.heap.size, 1, none⟩ = some (.slice a len cap)) ∧ W.cell? ⟨w.heap.size + 1, 3, none⟩ = some (.slice (some ⟨b, o, none⟩) 2 cap') ∧ W.cell? ⟨b, o, none⟩ = some (.int .i64 o0) ∧ W.cell? ⟨b, o + 1, none⟩ = some (.int .i64 n0) ∧ W.cell? ⟨b, o + 2, none⟩ = some (.string m0) ∧ W.cell? ⟨b, o + 3, none⟩ = some (.slice a0 l0 p0)) 7 (by kernel_rfl) ?_
    refine till_take (i := 0) (v := ?_) rfl (by kernel_rfl) (fun _ _ _ h => h) (Or.inl ⟨by rfl, ?_⟩) ⟨⟨e0,e1⟩,x3,u0,u1,u2,u3⟩ ?_
    rotate_left
    · intro W hS
      try dsimp only at hS
      go_split_ands
      go_simp
      try with_reducible rfl
    try simp only [Act.put, List.getElem_toArray, List.getElem_cons_zero, List.getElem_cons_succ, List.setIfInBounds_toArray, List.set_cons_zero, List.set_cons_succ]
    refine till_take (i := 1) (v := ?_) rfl (by kernel_rfl) (fun _ _ _ h => h) (Or.inl ⟨by rfl, ?_⟩) ⟨⟨e0,e1⟩,x3,u0,u1,u2,u3⟩ ?_
    rotate_left
    · intro W hS
      try dsimp only at hS
      go_split_ands
      go_simp
      try with_reducible rfl
    try simp only [Act.put, List.getElem_toArray, List.getElem_cons_zero, List.getElem_cons_succ, List.setIfInBounds_toArray, List.set_cons_zero, List.set_cons_succ]
    refine till_take (i := 2) (v := ?_) rfl (by kernel_rfl) (fun _ _ _ h => h) (Or.inl ⟨by rfl, ?_⟩) ⟨⟨e0,e1⟩,x3,u0,u1,u2,u3⟩ ?_
    rotate_left
    · intro W hS
      try dsimp only at hS
      go_split_ands
      go_simp
      try with_reducible rfl
    try simp only [Act.put, List.getElem_toArray, List.getElem_cons_zero, List.getElem_cons_succ, List.setIfInBounds_toArray, List.set_cons_zero, List.set_cons_succ]
    refine till_take (i := 3) (v := ?_) rfl (by kernel_rfl) (fun _ _ _ h => h) (Or.inl ⟨by rfl, ?_⟩) ⟨⟨e0,e1⟩,x3,u0,u1,u2,u3⟩ ?_
    rotate_left
    · intro W hS
      try dsimp only at hS
      go_split_ands
      go_simp
      try with_reducible rfl
    try simp only [Act.put, List.getElem_toArray, List.getElem_cons_zero, List.getElem_cons_succ, List.setIfInBounds_toArray, List.set_cons_zero, List.set_cons_succ]
    refine till_take (i := 4) (v := ?_) rfl (by kernel_rfl) (fun _ _ _ h => h) (Or.inl ⟨by rfl, ?_⟩) ⟨⟨e0,e1⟩,x3,u0,u1,u2,u3⟩ ?_
    rotate_left
    · intro W hS
      try dsimp only at hS
      go_split_ands
      go_simp
      try with_reducible rfl
    try simp only [Act.put, List.getElem_toArray, List.getElem_cons_zero, List.getElem_cons_succ, List.setIfInBounds_toArray, List.set_cons_zero, List.set_cons_succ]
    refine till_two (i := 5) (j := 6) (by kernel_rfl) rfl rfl (fun K' hK => ?_) (fun K' hK => ?_)
    · go_simp
      go_at_call 60
      (with_reducible refine (EvC.run HCA.out _ ST.out.below.drew).mono ?_)
      rintro y w1 ⟨hy, b1⟩
      unfold RetV at hy
      subst hy
      have hd := (Below.refl v.heap.size v).drew
      have ST1 := Lib.hid ((ST.out.up hd).up b1)
      have bt := hd.trans (b1.mono hd.size)
      have GG := Lib.hid (True.intro)
      replace e0 := cell_up e0 bt
      replace e1 := cell_up e1 bt
      replace x3 := cell_up x3 bt
      replace u0 := cell_up u0 bt
      replace u1 := cell_up u1 bt
      replace u2 := cell_up u2 bt
      replace u3 := cell_up u3 bt
      refine hK _ _ ⟨⟨e0,e1⟩,x3,u0,u1,u2,u3⟩ ?_
      clear hK K' b1 hd bt
      try simp only [Act.put, List.getElem_toArray, List.getElem_cons_zero, List.getElem_cons_succ, List.setIfInBounds_toArray, List.set_cons_zero, List.set_cons_succ]
      refine till_one (i := 6) (by kernel_rfl) rfl (fun K' hK => ?_)
      go_simp
      have bn := (Below.refl w1.heap.size w1).alloc (Nat.le_refl _) (.cells #[.int .i64 0, .int .i64 0, .bool false] 98)
      have ST2 := Lib.hid (ST1.out.up bn)
      have BZ := Lib.hid (Mem.Blk.new w1 98 #[.int .i64 0, .int .i64 0, .bool false])
      have HZ := Lib.hid ST1.out.lt
      have HP := Lib.hid (True.intro)
      refine hK _ _ ⟨⟨cell_up e0 bn, cell_up e1 bn⟩, cell_up x3 bn, cell_up u0 bn, cell_up u1 bn, cell_up u2 bn, cell_up u3 bn⟩ ?_
      clear hK K' bn ST1 e0 e1 x3 u0 u1 u2 u3 GG
      generalize w1.alloc (.cells #[.int .i64 0, .int .i64 0, .bool false] 98) = w2 at *
      generalize w1.heap.size = z at *
      try simp only [Act.put, List.getElem_toArray, List.getElem_cons_zero, List.getElem_cons_succ, List.setIfInBounds_toArray, List.set_cons_zero, List.set_cons_succ]
      obtain ⟨t0, t1, t2, t3, t4, t5⟩ := blk3 BZ.out
      have hm := BZ.out.lt
      refine till_last (by kernel_rfl) rfl (by kernel_rfl) (fun K' hK => ?_)
      go_simp
      have HS9 := Lib.hid (ST2.out.far3 HZ.out (.int .i64 A.K) (.int .i64 A.N) (.bool A.B))
      have HV9 := Lib.hid (EvV.mk (v := A) HZ.out (((BZ.out.set_ 0 (.int .i64 A.K)).set_ 1 (.int .i64 A.N)).set_ 2 (.bool A.B)))
      refine hK _ _ ?_
      clear hK K'
      try simp only [Act.put, List.getElem_toArray, List.getElem_cons_zero, List.getElem_cons_succ, List.setIfInBounds_toArray, List.set_cons_zero, List.set_cons_succ]
      refine wpAny_done (by kernel_rfl) ?_ _
      go_wp2_with fail
      go_meet
      case rel => exact ⟨z, rfl, HS9.out, HV9.out⟩
    · go_simp
      have bn := below_new v (.cells #[.int .i64 0, .int .i64 0, .bool false] 98)
      have ST1 := Lib.hid (ST.out.up bn)
      have BZ1 := Lib.hid (Mem.Blk.new v 98 #[.int .i64 0, .int .i64 0, .bool false]).drew
      have HZ := Lib.hid ST.out.lt
      have HQ := Lib.hid (True.intro)
      replace e0 := cell_up e0 bn
      replace e1 := cell_up e1 bn
      replace x3 := cell_up x3 bn
      replace u0 := cell_up u0 bn
      replace u1 := cell_up u1 bn
      replace u2 := cell_up u2 bn
      replace u3 := cell_up u3 bn
      refine hK _ _ ⟨⟨e0,e1⟩,x3,u0,u1,u2,u3⟩ ?_
      clear hK K' bn
      generalize (v.alloc (.cells #[.int .i64 0, .int .i64 0, .bool false] 98)).drew = w1 at *
      generalize v.heap.size = z at *
      try simp only [Act.put, List.getElem_toArray, List.getElem_cons_zero, List.getElem_cons_succ, List.setIfInBounds_toArray, List.set_cons_zero, List.set_cons_succ]
      refine till_one (i := 5) (by kernel_rfl) rfl (fun K' hK => ?_)
      go_simp
      go_at_call 60
      (with_reducible refine (EvC.run HCA.out _ ST1.out.below).mono ?_)
      rintro y w2 ⟨hy, b1⟩
      unfold RetV at hy
      subst hy
      have ST2 := Lib.hid (ST1.out.up b1)
      have BZ := Lib.hid (BZ1.out.below b1)
      have HP := Lib.hid (True.intro)
      refine hK _ _ ⟨⟨cell_up e0 b1, cell_up e1 b1⟩, cell_up x3 b1, cell_up u0 b1, cell_up u1 b1, cell_up u2 b1, cell_up u3 b1⟩ ?_
      clear hK K' b1 ST1 BZ1 e0 e1 x3 u0 u1 u2 u3 HQ
      try simp only [Act.put, List.getElem_toArray, List.getElem_cons_zero, List.getElem_cons_succ, List.setIfInBounds_toArray, List.set_cons_zero, List.set_cons_succ]
      obtain ⟨t0, t1, t2, t3, t4, t5⟩ := blk3 BZ.out
      have hm := BZ.out.lt
      refine till_last (by kernel_rfl) rfl (by kernel_rfl) (fun K' hK => ?_)
      go_simp
      have HS9 := Lib.hid (ST2.out.far3 HZ.out (.int .i64 A.K) (.int .i64 A.N) (.bool A.B))
      have HV9 := Lib.hid (EvV.mk (v := A) HZ.out (((BZ.out.set_ 0 (.int .i64 A.K)).set_ 1 (.int .i64 A.N)).set_ 2 (.bool A.B)))
      refine hK _ _ ?_
      clear hK K'
      try simp only [Act.put, List.getElem_toArray, List.getElem_cons_zero, List.getElem_cons_succ, List.setIfInBounds_toArray, List.set_cons_zero, List.set_cons_succ]
      refine wpAny_done (by kernel_rfl) ?_ _
      go_wp2_with fail
      go_meet
      case rel => exact ⟨z, rfl, HS9.out, HV9.out⟩
  case rest =>
    obtain ⟨g, rfl, ST0, VA⟩ := hcut
    obtain ⟨W0, rfl⟩ : ∃ W : World, W = wc := ⟨_, rfl⟩
    cases A with
    | brk =>
      obtain rfl : R = .brk := by rw [HR.out]; simp
      have t0 : W0.cell? ⟨g, 0, none⟩ = some (.int .i64 3) := VA.out.blk.cell 0
      have t1 : W0.cell? ⟨g, 1, none⟩ = some (.int .i64 0) := VA.out.blk.cell 1
      have t2 : W0.cell? ⟨g, 2, none⟩ = some (.bool false) := VA.out.blk.cell 2
      have HFN := Lib.hid (ret3 (.int .i64 3) (.int .i64 0) (.bool false) ST0.out.below (by omega : w.heap.size ≤ w.heap.size + 1 + 1) ST0.out.res)
      obtain ⟨q0, q1, q2, q3, q4, q5⟩ := blk3 ST0.out.res
      have hm := ST0.out.lt
      go_wp2_with fail
      generalize ((W0.setCell ⟨w.heap.size + 1 + 1, 0, none⟩ (.int .i64 3)).setCell ⟨w.heap.size + 1 + 1, 1, none⟩ (.int .i64 0)).setCell ⟨w.heap.size + 1 + 1, 2, none⟩ (.bool false) = W9 at *
      obtain ⟨r0, r1, r2, -, -, -⟩ := blk3 HFN.out.2
      refine bodyPost_ret (v := .agg #[.int .i64 3, .int .i64 0, .bool false]) (by simp [results, Try.results72, go_sem, r0, r1, r2]) rfl ⟨rfl, HFN.out.1⟩
    | unk =>
      have HR1 : Hid (R = if B = .brk ∨ B = .tru s then B else .unk) := by rw [HR.out]; simp [Hid]
      have t0 : W0.cell? ⟨g, 0, none⟩ = some (.int .i64 0) := VA.out.blk.cell 0
      have t1 : W0.cell? ⟨g, 1, none⟩ = some (.int .i64 0) := VA.out.blk.cell 1
      have t2 : W0.cell? ⟨g, 2, none⟩ = some (.bool false) := VA.out.blk.cell 2
      go_wp2_with fail
      go_cut [8] (fun p W1 => ∃ g1, p = .pointer (some ⟨g1, 0, none⟩) ∧ Hid (EvSt w W1 day a len cap op n nm (some ⟨b, o, none⟩) 2 cap') ∧ Hid (EvV w W1 g1 B) ∧ Hid (EvV w W1 g .unk))
      case first =>
        clear t0 t1 t2
        obtain ⟨e0, e1, -, -⟩ := ST0.out.env.two
        have x3 : W0.cell? ⟨w.heap.size + 1, 3, none⟩ = _ := ST0.out.ex.cell 3
        simp only [List.getElem?_toArray, List.getElem?_cons_zero, List.getElem?_cons_succ] at x3
        obtain ⟨u0, u1, u2, u3⟩ := H1.out
        replace u0 := cell_up u0 ST0.out.below
        replace u1 := cell_up u1 ST0.out.below
        replace u2 := cell_up u2 ST0.out.below
        replace u3 := cell_up u3 ST0.out.below
        refine wp_region_till (S := fun W => (W.cell? ⟨w.heap.size, 0, none⟩ = some (.int .i64 day) ∧ W.cell? ⟨w.heap.size, 1, none⟩ = some (.slice a len cap)) ∧ W.cell? ⟨w.heap.size + 1, 3, none⟩ = some (.slice (some ⟨b, o, none⟩) 2 cap') ∧ W.cell? ⟨b, o + 4, none⟩ = some (.int .i64 o1) ∧ W.cell? ⟨b, o + 4 + 1, none⟩ = some (.int .i64 n1) ∧ W.cell? ⟨b, o + 4 + 2, none⟩ = some (.string m1) ∧ W.cell? ⟨b, o + 4 + 3, none⟩ = some (.slice a1 l1 p1)) 7 (by kernel_rfl) ?_
        refine till_take (i := 0) (v := ?_) rfl (by kernel_rfl) (fun _ _ _ h => h) (Or.inl ⟨by rfl, ?_⟩) ⟨⟨e0,e1⟩,x3,u0,u1,u2,u3⟩ ?_
        rotate_left
        · intro W hS
          try dsimp only at hS
          go_split_ands
          go_simp
          try with_reducible rfl
        try simp only [Act.put, List.getElem_toArray, List.getElem_cons_zero, List.getElem_cons_succ, List.setIfInBounds_toArray, List.set_cons_zero, List.set_cons_succ]
        refine till_take (i := 1) (v := ?_) rfl (by kernel_rfl) (fun _ _ _ h => h) (Or.inl ⟨by rfl, ?_⟩) ⟨⟨e0,e1⟩,x3,u0,u1,u2,u3⟩ ?_
        rotate_left
        · intro W hS
          try dsimp only at hS
          go_split_ands
          go_simp
          try with_reducible rfl
        try simp only [Act.put, List.getElem_toArray, List.getElem_cons_zero, List.getElem_cons_succ, List.setIfInBounds_toArray, List.set_cons_zero, List.set_cons_succ]
        refine till_take (i := 2) (v := ?_) rfl (by kernel_rfl) (fun _ _ _ h => h) (Or.inl ⟨by rfl, ?_⟩) ⟨⟨e0,e1⟩,x3,u0,u1,u2,u3⟩ ?_
        rotate_left
        · intro W hS
          try dsimp only at hS
          go_split_ands
          go_simp
          try with_reducible rfl
        try simp only [Act.put, List.getElem_toArray, List.getElem_cons_zero, List.getElem_cons_succ, List.setIfInBounds_toArray, List.set_cons_zero, List.set_cons_succ]
        refine till_take (i := 3) (v := ?_) rfl (by kernel_rfl) (fun _ _ _ h => h) (Or.inl ⟨by rfl, ?_⟩) ⟨⟨e0,e1⟩,x3,u0,u1,u2,u3⟩ ?_
        rotate_left
        · intro W hS
          try dsimp only at hS
          go_split_ands
          go_simp
          try with_reducible rfl
        try simp only [Act.put, List.getElem_toArray, List.getElem_cons_zero, List.getElem_cons_succ, List.setIfInBounds_toArray, List.set_cons_zero, List.set_cons_succ]
        refine till_take (i := 4) (v := ?_) rfl (by kernel_rfl) (fun _ _ _ h => h) (Or.inl ⟨by rfl, ?_⟩) ⟨⟨e0,e1⟩,x3,u0,u1,u2,u3⟩ ?_
        rotate_left
        · intro W hS
          try dsimp only at hS
          go_split_ands
          go_simp
          try with_reducible rfl
        try simp only [Act.put, List.getElem_toArray, List.getElem_cons_zero, List.getElem_cons_succ, List.setIfInBounds_toArray, List.set_cons_zero, List.set_cons_succ]
        refine till_two (i := 5) (j := 6) (by kernel_rfl) rfl rfl (fun K' hK => ?_) (fun K' hK => ?_)
        · go_simp
          go_at_call 60
          (with_reducible refine (EvC.run HCB.out _ ST0.out.below.drew).mono ?_)
          rintro y w1 ⟨hy, b1⟩
          unfold RetV at hy
          subst hy
          have hd := (Below.refl W0.heap.size W0).drew
          have ST1 := Lib.hid ((ST0.out.up hd).up b1)
          have bt := hd.trans (b1.mono hd.size)
          have GG := Lib.hid ((VA.out.up hd).up b1)
          replace e0 := cell_up e0 bt
          replace e1 := cell_up e1 bt
          replace x3 := cell_up x3 bt
          replace u0 := cell_up u0 bt
          replace u1 := cell_up u1 bt
          replace u2 := cell_up u2 bt
          replace u3 := cell_up u3 bt
          refine hK _ _ ⟨⟨e0,e1⟩,x3,u0,u1,u2,u3⟩ ?_
          clear hK K' b1 hd bt
          try simp only [Act.put, List.getElem_toArray, List.getElem_cons_zero, List.getElem_cons_succ, List.setIfInBounds_toArray, List.set_cons_zero, List.set_cons_succ]
          refine till_one (i := 6) (by kernel_rfl) rfl (fun K' hK => ?_)
          go_simp
          have bn := (Below.refl w1.heap.size w1).alloc (Nat.le_refl _) (.cells #[.int .i64 0, .int .i64 0, .bool false] 98)
          have ST2 := Lib.hid (ST1.out.up bn)
          have BZ := Lib.hid (Mem.Blk.new w1 98 #[.int .i64 0, .int .i64 0, .bool false])
          have HZ := Lib.hid ST1.out.lt
          have HP := Lib.hid (And.intro (GG.out.up bn) (Nat.ne_of_lt GG.out.blk.lt))
          refine hK _ _ ⟨⟨cell_up e0 bn, cell_up e1 bn⟩, cell_up x3 bn, cell_up u0 bn, cell_up u1 bn, cell_up u2 bn, cell_up u3 bn⟩ ?_
          clear hK K' bn ST1 e0 e1 x3 u0 u1 u2 u3 GG
          generalize w1.alloc (.cells #[.int .i64 0, .int .i64 0, .bool false] 98) = w2 at *
          generalize w1.heap.size = z at *
          try simp only [Act.put, List.getElem_toArray, List.getElem_cons_zero, List.getElem_cons_succ, List.setIfInBounds_toArray, List.set_cons_zero, List.set_cons_succ]
          obtain ⟨t0, t1, t2, t3, t4, t5⟩ := blk3 BZ.out
          have hm := BZ.out.lt
          refine till_last (by kernel_rfl) rfl (by kernel_rfl) (fun K' hK => ?_)
          go_simp
          have HS9 := Lib.hid (ST2.out.far3 HZ.out (.int .i64 B.K) (.int .i64 B.N) (.bool B.B))
          have HV9 := Lib.hid (EvV.mk (v := B) HZ.out (((BZ.out.set_ 0 (.int .i64 B.K)).set_ 1 (.int .i64 B.N)).set_ 2 (.bool B.B)))
          refine hK _ _ ?_
          clear hK K'
          try simp only [Act.put, List.getElem_toArray, List.getElem_cons_zero, List.getElem_cons_succ, List.setIfInBounds_toArray, List.set_cons_zero, List.set_cons_succ]
          refine wpAny_done (by kernel_rfl) ?_ _
          go_wp2_with fail
          go_meet
          case rel => exact ⟨z, rfl, HS9.out, HV9.out, HP.out.1.far3 HP.out.2 _ _ _⟩
        · go_simp
          have bn := below_new W0 (.cells #[.int .i64 0, .int .i64 0, .bool false] 98)
          have ST1 := Lib.hid (ST0.out.up bn)
          have BZ1 := Lib.hid (Mem.Blk.new W0 98 #[.int .i64 0, .int .i64 0, .bool false]).drew
          have HZ := Lib.hid ST0.out.lt
          have HQ := Lib.hid (And.intro (VA.out.up bn) (Nat.ne_of_lt VA.out.blk.lt))
          replace e0 := cell_up e0 bn
          replace e1 := cell_up e1 bn
          replace x3 := cell_up x3 bn
          replace u0 := cell_up u0 bn
          replace u1 := cell_up u1 bn
          replace u2 := cell_up u2 bn
          replace u3 := cell_up u3 bn
          refine hK _ _ ⟨⟨e0,e1⟩,x3,u0,u1,u2,u3⟩ ?_
          clear hK K' bn
          generalize (W0.alloc (.cells #[.int .i64 0, .int .i64 0, .bool false] 98)).drew = w1 at *
          generalize W0.heap.size = z at *
          try simp only [Act.put, List.getElem_toArray, List.getElem_cons_zero, List.getElem_cons_succ, List.setIfInBounds_toArray, List.set_cons_zero, List.set_cons_succ]
          refine till_one (i := 5) (by kernel_rfl) rfl (fun K' hK => ?_)
          go_simp
          go_at_call 60
          (with_reducible refine (EvC.run HCB.out _ ST1.out.below).mono ?_)
          rintro y w2 ⟨hy, b1⟩
          unfold RetV at hy
          subst hy
          have ST2 := Lib.hid (ST1.out.up b1)
          have BZ := Lib.hid (BZ1.out.below b1)
          have HP := Lib.hid (And.intro (HQ.out.1.up b1) HQ.out.2)
          refine hK _ _ ⟨⟨cell_up e0 b1, cell_up e1 b1⟩, cell_up x3 b1, cell_up u0 b1, cell_up u1 b1, cell_up u2 b1, cell_up u3 b1⟩ ?_
          clear hK K' b1 ST1 BZ1 e0 e1 x3 u0 u1 u2 u3 HQ
          try simp only [Act.put, List.getElem_toArray, List.getElem_cons_zero, List.getElem_cons_succ, List.setIfInBounds_toArray, List.set_cons_zero, List.set_cons_succ]
          obtain ⟨t0, t1, t2, t3, t4, t5⟩ := blk3 BZ.out
          have hm := BZ.out.lt
          refine till_last (by kernel_rfl) rfl (by kernel_rfl) (fun K' hK => ?_)
          go_simp
          have HS9 := Lib.hid (ST2.out.far3 HZ.out (.int .i64 B.K) (.int .i64 B.N) (.bool B.B))
          have HV9 := Lib.hid (EvV.mk (v := B) HZ.out (((BZ.out.set_ 0 (.int .i64 B.K)).set_ 1 (.int .i64 B.N)).set_ 2 (.bool B.B)))
          refine hK _ _ ?_
          clear hK K'
          try simp only [Act.put, List.getElem_toArray, List.getElem_cons_zero, List.getElem_cons_succ, List.setIfInBounds_toArray, List.set_cons_zero, List.set_cons_succ]
          refine wpAny_done (by kernel_rfl) ?_ _
          go_wp2_with fail
          go_meet
          case rel => exact ⟨z, rfl, HS9.out, HV9.out, HP.out.1.far3 HP.out.2 _ _ _⟩
      obtain ⟨g1, rfl, ST1, VB, VA1⟩ := hcut
      obtain ⟨W1, rfl⟩ : ∃ W : World, W = wc := ⟨_, rfl⟩
      clear t0 t1 t2 ST0 VA
      have t0 : W1.cell? ⟨g, 0, none⟩ = some (.int .i64 0) := VA1.out.blk.cell 0
      have t1 : W1.cell? ⟨g, 1, none⟩ = some (.int .i64 0) := VA1.out.blk.cell 1
      have t2 : W1.cell? ⟨g, 2, none⟩ = some (.bool false) := VA1.out.blk.cell 2
      cases B with
      | brk =>
        obtain rfl : R = .brk := by rw [HR1.out]; simp
        have xt0 : W1.cell? ⟨g1, 0, none⟩ = some (.int .i64 3) := VB.out.blk.cell 0
        have xt1 : W1.cell? ⟨g1, 1, none⟩ = some (.int .i64 0) := VB.out.blk.cell 1
        have xt2 : W1.cell? ⟨g1, 2, none⟩ = some (.bool false) := VB.out.blk.cell 2
        have HFN := Lib.hid (ret3 (.int .i64 3) (.int .i64 0) (.bool false) ST1.out.below (by omega : w.heap.size ≤ w.heap.size + 1 + 1) ST1.out.res)
        obtain ⟨q0, q1, q2, q3, q4, q5⟩ := blk3 ST1.out.res
        have hm := ST1.out.lt
        go_wp2_with fail
        generalize ((W1.setCell ⟨w.heap.size + 1 + 1, 0, none⟩ (.int .i64 3)).setCell ⟨w.heap.size + 1 + 1, 1, none⟩ (.int .i64 0)).setCell ⟨w.heap.size + 1 + 1, 2, none⟩ (.bool false) = W9 at *
        obtain ⟨r0, r1, r2, -, -, -⟩ := blk3 HFN.out.2
        refine bodyPost_ret (v := .agg #[.int .i64 3, .int .i64 0, .bool false]) (by simp [results, Try.results72, go_sem, r0, r1, r2]) rfl ⟨rfl, HFN.out.1⟩
      | unk =>
        obtain rfl : R = .unk := by rw [HR1.out]; simp
        have xt0 : W1.cell? ⟨g1, 0, none⟩ = some (.int .i64 0) := VB.out.blk.cell 0
        have xt1 : W1.cell? ⟨g1, 1, none⟩ = some (.int .i64 0) := VB.out.blk.cell 1
        have xt2 : W1.cell? ⟨g1, 2, none⟩ = some (.bool false) := VB.out.blk.cell 2
        have HFN := Lib.hid (ret3 (.int .i64 0) (.int .i64 0) (.bool false) ST1.out.below (by omega : w.heap.size ≤ w.heap.size + 1 + 1) ST1.out.res)
        obtain ⟨q0, q1, q2, q3, q4, q5⟩ := blk3 ST1.out.res
        have hm := ST1.out.lt
        go_wp2_with fail
        generalize ((W1.setCell ⟨w.heap.size + 1 + 1, 0, none⟩ (.int .i64 0)).setCell ⟨w.heap.size + 1 + 1, 1, none⟩ (.int .i64 0)).setCell ⟨w.heap.size + 1 + 1, 2, none⟩ (.bool false) = W9 at *
        obtain ⟨r0, r1, r2, -, -, -⟩ := blk3 HFN.out.2
        refine bodyPost_ret (v := .agg #[.int .i64 0, .int .i64 0, .bool false]) (by simp [results, Try.results72, go_sem, r0, r1, r2]) rfl ⟨rfl, HFN.out.1⟩
      | num nB =>
        obtain rfl : R = .unk := by rw [HR1.out]; simp
        have xt0 : W1.cell? ⟨g1, 0, none⟩ = some (.int .i64 1) := VB.out.blk.cell 0
        have xt1 : W1.cell? ⟨g1, 1, none⟩ = some (.int .i64 nB) := VB.out.blk.cell 1
        have xt2 : W1.cell? ⟨g1, 2, none⟩ = some (.bool false) := VB.out.blk.cell 2
        have HFN := Lib.hid (ret3 (.int .i64 0) (.int .i64 0) (.bool false) ST1.out.below (by omega : w.heap.size ≤ w.heap.size + 1 + 1) ST1.out.res)
        obtain ⟨q0, q1, q2, q3, q4, q5⟩ := blk3 ST1.out.res
        have hm := ST1.out.lt
        go_wp2_with fail
        generalize ((W1.setCell ⟨w.heap.size + 1 + 1, 0, none⟩ (.int .i64 0)).setCell ⟨w.heap.size + 1 + 1, 1, none⟩ (.int .i64 0)).setCell ⟨w.heap.size + 1 + 1, 2, none⟩ (.bool false) = W9 at *
        obtain ⟨r0, r1, r2, -, -, -⟩ := blk3 HFN.out.2
        refine bodyPost_ret (v := .agg #[.int .i64 0, .int .i64 0, .bool false]) (by simp [results, Try.results72, go_sem, r0, r1, r2]) rfl ⟨rfl, HFN.out.1⟩
      | tru tB =>
        by_cases hts : tB = s
        · subst hts
          obtain rfl : R = .tru tB := by rw [HR1.out]; simp
          have xt0 : W1.cell? ⟨g1, 0, none⟩ = some (.int .i64 2) := VB.out.blk.cell 0
          have xt1 : W1.cell? ⟨g1, 1, none⟩ = some (.int .i64 0) := VB.out.blk.cell 1
          have xt2 : W1.cell? ⟨g1, 2, none⟩ = some (.bool tB) := VB.out.blk.cell 2
          cases tB
          · have HFN := Lib.hid (ret3 (.int .i64 2) (.int .i64 0) (.bool false) ST1.out.below (by omega : w.heap.size ≤ w.heap.size + 1 + 1) ST1.out.res)
            obtain ⟨q0, q1, q2, q3, q4, q5⟩ := blk3 ST1.out.res
            have hm := ST1.out.lt
            go_wp2_with fail
            generalize ((W1.setCell ⟨w.heap.size + 1 + 1, 0, none⟩ (.int .i64 2)).setCell ⟨w.heap.size + 1 + 1, 1, none⟩ (.int .i64 0)).setCell ⟨w.heap.size + 1 + 1, 2, none⟩ (.bool false) = W9 at *
            obtain ⟨r0, r1, r2, -, -, -⟩ := blk3 HFN.out.2
            refine bodyPost_ret (v := .agg #[.int .i64 2, .int .i64 0, .bool false]) (by simp [results, Try.results72, go_sem, r0, r1, r2]) rfl ⟨rfl, HFN.out.1⟩
          · have HFN := Lib.hid (ret3 (.int .i64 2) (.int .i64 0) (.bool true) ST1.out.below (by omega : w.heap.size ≤ w.heap.size + 1 + 1) ST1.out.res)
            obtain ⟨q0, q1, q2, q3, q4, q5⟩ := blk3 ST1.out.res
            have hm := ST1.out.lt
            go_wp2_with fail
            generalize ((W1.setCell ⟨w.heap.size + 1 + 1, 0, none⟩ (.int .i64 2)).setCell ⟨w.heap.size + 1 + 1, 1, none⟩ (.int .i64 0)).setCell ⟨w.heap.size + 1 + 1, 2, none⟩ (.bool true) = W9 at *
            obtain ⟨r0, r1, r2, -, -, -⟩ := blk3 HFN.out.2
            refine bodyPost_ret (v := .agg #[.int .i64 2, .int .i64 0, .bool true]) (by simp [results, Try.results72, go_sem, r0, r1, r2]) rfl ⟨rfl, HFN.out.1⟩
        · obtain rfl : R = .unk := by rw [HR1.out]; simp [hts]
          have xt0 : W1.cell? ⟨g1, 0, none⟩ = some (.int .i64 2) := VB.out.blk.cell 0
          have xt1 : W1.cell? ⟨g1, 1, none⟩ = some (.int .i64 0) := VB.out.blk.cell 1
          have xt2 : W1.cell? ⟨g1, 2, none⟩ = some (.bool tB) := VB.out.blk.cell 2
          cases tB <;> cases s <;> first | exact absurd rfl hts | skip
          · have HFN := Lib.hid (ret3 (.int .i64 0) (.int .i64 0) (.bool false) ST1.out.below (by omega : w.heap.size ≤ w.heap.size + 1 + 1) ST1.out.res)
            obtain ⟨q0, q1, q2, q3, q4, q5⟩ := blk3 ST1.out.res
            have hm := ST1.out.lt
            go_wp2_with fail
            generalize ((W1.setCell ⟨w.heap.size + 1 + 1, 0, none⟩ (.int .i64 0)).setCell ⟨w.heap.size + 1 + 1, 1, none⟩ (.int .i64 0)).setCell ⟨w.heap.size + 1 + 1, 2, none⟩ (.bool false) = W9 at *
            obtain ⟨r0, r1, r2, -, -, -⟩ := blk3 HFN.out.2
            refine bodyPost_ret (v := .agg #[.int .i64 0, .int .i64 0, .bool false]) (by simp [results, Try.results72, go_sem, r0, r1, r2]) rfl ⟨rfl, HFN.out.1⟩
          · have HFN := Lib.hid (ret3 (.int .i64 0) (.int .i64 0) (.bool false) ST1.out.below (by omega : w.heap.size ≤ w.heap.size + 1 + 1) ST1.out.res)
            obtain ⟨q0, q1, q2, q3, q4, q5⟩ := blk3 ST1.out.res
            have hm := ST1.out.lt
            go_wp2_with fail
            generalize ((W1.setCell ⟨w.heap.size + 1 + 1, 0, none⟩ (.int .i64 0)).setCell ⟨w.heap.size + 1 + 1, 1, none⟩ (.int .i64 0)).setCell ⟨w.heap.size + 1 + 1, 2, none⟩ (.bool false) = W9 at *
            obtain ⟨r0, r1, r2, -, -, -⟩ := blk3 HFN.out.2
            refine bodyPost_ret (v := .agg #[.int .i64 0, .int .i64 0, .bool false]) (by simp [results, Try.results72, go_sem, r0, r1, r2]) rfl ⟨rfl, HFN.out.1⟩
    | num nA =>
      have HR1 : Hid (R = if B = .brk ∨ B = .tru s then B else .unk) := by rw [HR.out]; simp [Hid]
      have t0 : W0.cell? ⟨g, 0, none⟩ = some (.int .i64 1) := VA.out.blk.cell 0
      have t1 : W0.cell? ⟨g, 1, none⟩ = some (.int .i64 nA) := VA.out.blk.cell 1
      have t2 : W0.cell? ⟨g, 2, none⟩ = some (.bool false) := VA.out.blk.cell 2
      go_wp2_with fail
      go_cut [8] (fun p W1 => ∃ g1, p = .pointer (some ⟨g1, 0, none⟩) ∧ Hid (EvSt w W1 day a len cap op n nm (some ⟨b, o, none⟩) 2 cap') ∧ Hid (EvV w W1 g1 B) ∧ Hid (EvV w W1 g (.num nA)))
      case first =>
        clear t0 t1 t2
        obtain ⟨e0, e1, -, -⟩ := ST0.out.env.two
        have x3 : W0.cell? ⟨w.heap.size + 1, 3, none⟩ = _ := ST0.out.ex.cell 3
        simp only [List.getElem?_toArray, List.getElem?_cons_zero, List.getElem?_cons_succ] at x3
        obtain ⟨u0, u1, u2, u3⟩ := H1.out
        replace u0 := cell_up u0 ST0.out.below
        replace u1 := cell_up u1 ST0.out.below
        replace u2 := cell_up u2 ST0.out.below
        replace u3 := cell_up u3 ST0.out.below
        refine wp_region_till (S := fun W => (W.cell? ⟨w.heap.size, 0, none⟩ = some (.int .i64 day) ∧ W.cell? ⟨w.heap.size, 1, none⟩ = some (.slice a len cap)) ∧ W.cell? ⟨w.heap.size + 1, 3, none⟩ = some (.slice (some ⟨b, o, none⟩) 2 cap') ∧ W.cell? ⟨b, o + 4, none⟩ = some (.int .i64 o1) ∧ W.cell? ⟨b, o + 4 + 1, none⟩ = some (.int .i64 n1) ∧ W.cell? ⟨b, o + 4 + 2, none⟩ = some (.string m1) ∧ W.cell? ⟨b, o + 4 + 3, none⟩ = some (.slice a1 l1 p1)) 7 (by kernel_rfl) ?_
        refine till_take (i := 0) (v := ?_) rfl (by kernel_rfl) (fun _ _ _ h => h) (Or.inl ⟨by rfl, ?_⟩) ⟨⟨e0,e1⟩,x3,u0,u1,u2,u3⟩ ?_
        rotate_left
        · intro W hS
          try dsimp only at hS
          go_split_ands
          go_simp
          try with_reducible rfl
        try simp only [Act.put, List.getElem_toArray, List.getElem_cons_zero, List.getElem_cons_succ, List.setIfInBounds_toArray, List.set_cons_zero, List.set_cons_succ]
        refine till_take (i := 1) (v := ?_) rfl (by kernel_rfl) (fun _ _ _ h => h) (Or.inl ⟨by rfl, ?_⟩) ⟨⟨e0,e1⟩,x3,u0,u1,u2,u3⟩ ?_
        rotate_left
        · intro W hS
          try dsimp only at hS
          go_split_ands
          go_simp
          try with_reducible rfl
        try simp only [Act.put, List.getElem_toArray, List.getElem_cons_zero, List.getElem_cons_succ, List.setIfInBounds_toArray, List.set_cons_zero, List.set_cons_succ]
        refine till_take (i := 2) (v := ?_) rfl (by kernel_rfl) (fun _ _ _ h => h) (Or.inl ⟨by rfl, ?_⟩) ⟨⟨e0,e1⟩,x3,u0,u1,u2,u3⟩ ?_
        rotate_left
        · intro W hS
          try dsimp only at hS
          go_split_ands
          go_simp
          try with_reducible rfl
        try simp only [Act.put, List.getElem_toArray, List.getElem_cons_zero, List.getElem_cons_succ, List.setIfInBounds_toArray, List.set_cons_zero, List.set_cons_succ]
        refine till_take (i := 3) (v := ?_) rfl (by kernel_rfl) (fun _ _ _ h => h) (Or.inl ⟨by rfl, ?_⟩) ⟨⟨e0,e1⟩,x3,u0,u1,u2,u3⟩ ?_
        rotate_left
        · intro W hS
          try dsimp only at hS
          go_split_ands
          go_simp
          try with_reducible rfl
        try simp only [Act.put, List.getElem_toArray, List.getElem_cons_zero, List.getElem_cons_succ, List.setIfInBounds_toArray, List.set_cons_zero, List.set_cons_succ]
        refine till_take (i := 4) (v := ?_) rfl (by kernel_rfl) (fun _ _ _ h => h) (Or.inl ⟨by rfl, ?_⟩) ⟨⟨e0,e1⟩,x3,u0,u1,u2,u3⟩ ?_
        rotate_left
        · intro W hS
          try dsimp only at hS
          go_split_ands
          go_simp
          try with_reducible rfl
        try simp only [Act.put, List.getElem_toArray, List.getElem_cons_zero, List.getElem_cons_succ, List.setIfInBounds_toArray, List.set_cons_zero, List.set_cons_succ]
        refine till_two (i := 5) (j := 6) (by kernel_rfl) rfl rfl (fun K' hK => ?_) (fun K' hK => ?_)
        · go_simp
          go_at_call 60
          (with_reducible refine (EvC.run HCB.out _ ST0.out.below.drew).mono ?_)
          rintro y w1 ⟨hy, b1⟩
          unfold RetV at hy
          subst hy
          have hd := (Below.refl W0.heap.size W0).drew
          have ST1 := Lib.hid ((ST0.out.up hd).up b1)
          have bt := hd.trans (b1.mono hd.size)
          have GG := Lib.hid ((VA.out.up hd).up b1)
          replace e0 := cell_up e0 bt
          replace e1 := cell_up e1 bt
          replace x3 := cell_up x3 bt
          replace u0 := cell_up u0 bt
          replace u1 := cell_up u1 bt
          replace u2 := cell_up u2 bt
          replace u3 := cell_up u3 bt
          refine hK _ _ ⟨⟨e0,e1⟩,x3,u0,u1,u2,u3⟩ ?_
          clear hK K' b1 hd bt
          try simp only [Act.put, List.getElem_toArray, List.getElem_cons_zero, List.getElem_cons_succ, List.setIfInBounds_toArray, List.set_cons_zero, List.set_cons_succ]
          refine till_one (i := 6) (by kernel_rfl) rfl (fun K' hK => ?_)
          go_simp
          have bn := (Below.refl w1.heap.size w1).alloc (Nat.le_refl _) (.cells #[.int .i64 0, .int .i64 0, .bool false] 98)
          have ST2 := Lib.hid (ST1.out.up bn)
          have BZ := Lib.hid (Mem.Blk.new w1 98 #[.int .i64 0, .int .i64 0, .bool false])
          have HZ := Lib.hid ST1.out.lt
          have HP := Lib.hid (And.intro (GG.out.up bn) (Nat.ne_of_lt GG.out.blk.lt))
          refine hK _ _ ⟨⟨cell_up e0 bn, cell_up e1 bn⟩, cell_up x3 bn, cell_up u0 bn, cell_up u1 bn, cell_up u2 bn, cell_up u3 bn⟩ ?_
          clear hK K' bn ST1 e0 e1 x3 u0 u1 u2 u3 GG
          generalize w1.alloc (.cells #[.int .i64 0, .int .i64 0, .bool false] 98) = w2 at *
          generalize w1.heap.size = z at *
          try simp only [Act.put, List.getElem_toArray, List.getElem_cons_zero, List.getElem_cons_succ, List.setIfInBounds_toArray, List.set_cons_zero, List.set_cons_succ]
          obtain ⟨t0, t1, t2, t3, t4, t5⟩ := blk3 BZ.out
          have hm := BZ.out.lt
          refine till_last (by kernel_rfl) rfl (by kernel_rfl) (fun K' hK => ?_)
          go_simp
          have HS9 := Lib.hid (ST2.out.far3 HZ.out (.int .i64 B.K) (.int .i64 B.N) (.bool B.B))
          have HV9 := Lib.hid (EvV.mk (v := B) HZ.out (((BZ.out.set_ 0 (.int .i64 B.K)).set_ 1 (.int .i64 B.N)).set_ 2 (.bool B.B)))
          refine hK _ _ ?_
          clear hK K'
          try simp only [Act.put, List.getElem_toArray, List.getElem_cons_zero, List.getElem_cons_succ, List.setIfInBounds_toArray, List.set_cons_zero, List.set_cons_succ]
          refine wpAny_done (by kernel_rfl) ?_ _
          go_wp2_with fail
          go_meet
          case rel => exact ⟨z, rfl, HS9.out, HV9.out, HP.out.1.far3 HP.out.2 _ _ _⟩
        · go_simp
          have bn := below_new W0 (.cells #[.int .i64 0, .int .i64 0, .bool false] 98)
          have ST1 := Lib.hid (ST0.out.up bn)
          have BZ1 := Lib.hid (Mem.Blk.new W0 98 #[.int .i64 0, .int .i64 0, .bool false]).drew
          have HZ := Lib.hid ST0.out.lt
          have HQ := Lib.hid (And.intro (VA.out.up bn) (Nat.ne_of_lt VA.out.blk.lt))
          replace e0 := cell_up e0 bn
          replace e1 := cell_up e1 bn
          replace x3 := cell_up x3 bn
          replace u0 := cell_up u0 bn
          replace u1 := cell_up u1 bn
          replace u2 := cell_up u2 bn
          replace u3 := cell_up u3 bn
          refine hK _ _ ⟨⟨e0,e1⟩,x3,u0,u1,u2,u3⟩ ?_
          clear hK K' bn
          generalize (W0.alloc (.cells #[.int .i64 0, .int .i64 0, .bool false] 98)).drew = w1 at *
          generalize W0.heap.size = z at *
          try simp only [Act.put, List.getElem_toArray, List.getElem_cons_zero, List.getElem_cons_succ, List.setIfInBounds_toArray, List.set_cons_zero, List.set_cons_succ]
          refine till_one (i := 5) (by kernel_rfl) rfl (fun K' hK => ?_)
          go_simp
          go_at_call 60
          (with_reducible refine (EvC.run HCB.out _ ST1.out.below).mono ?_)
          rintro y w2 ⟨hy, b1⟩
          unfold RetV at hy
          subst hy
          have ST2 := Lib.hid (ST1.out.up b1)
          have BZ := Lib.hid (BZ1.out.below b1)
          have HP := Lib.hid (And.intro (HQ.out.1.up b1) HQ.out.2)
          refine hK _ _ ⟨⟨cell_up e0 b1, cell_up e1 b1⟩, cell_up x3 b1, cell_up u0 b1, cell_up u1 b1, cell_up u2 b1, cell_up u3 b1⟩ ?_
          clear hK K' b1 ST1 BZ1 e0 e1 x3 u0 u1 u2 u3 HQ
          try simp only [Act.put, List.getElem_toArray, List.getElem_cons_zero, List.getElem_cons_succ, List.setIfInBounds_toArray, List.set_cons_zero, List.set_cons_succ]
          obtain ⟨t0, t1, t2, t3, t4, t5⟩ := blk3 BZ.out
          have hm := BZ.out.lt
          refine till_last (by kernel_rfl) rfl (by kernel_rfl) (fun K' hK => ?_)
          go_simp
          have HS9 := Lib.hid (ST2.out.far3 HZ.out (.int .i64 B.K) (.int .i64 B.N) (.bool B.B))
          have HV9 := Lib.hid (EvV.mk (v := B) HZ.out (((BZ.out.set_ 0 (.int .i64 B.K)).set_ 1 (.int .i64 B.N)).set_ 2 (.bool B.B)))
          refine hK _ _ ?_
          clear hK K'
          try simp only [Act.put, List.getElem_toArray, List.getElem_cons_zero, List.getElem_cons_succ, List.setIfInBounds_toArray, List.set_cons_zero, List.set_cons_succ]
          refine wpAny_done (by kernel_rfl) ?_ _
          go_wp2_with fail
          go_meet
          case rel => exact ⟨z, rfl, HS9.out, HV9.out, HP.out.1.far3 HP.out.2 _ _ _⟩
      obtain ⟨g1, rfl, ST1, VB, VA1⟩ := hcut
      obtain ⟨W1, rfl⟩ : ∃ W : World, W = wc := ⟨_, rfl⟩
      clear t0 t1 t2 ST0 VA
      have t0 : W1.cell? ⟨g, 0, none⟩ = some (.int .i64 1) := VA1.out.blk.cell 0
      have t1 : W1.cell? ⟨g, 1, none⟩ = some (.int .i64 nA) := VA1.out.blk.cell 1
      have t2 : W1.cell? ⟨g, 2, none⟩ = some (.bool false) := VA1.out.blk.cell 2
      cases B with
      | brk =>
        obtain rfl : R = .brk := by rw [HR1.out]; simp
        have xt0 : W1.cell? ⟨g1, 0, none⟩ = some (.int .i64 3) := VB.out.blk.cell 0
        have xt1 : W1.cell? ⟨g1, 1, none⟩ = some (.int .i64 0) := VB.out.blk.cell 1
        have xt2 : W1.cell? ⟨g1, 2, none⟩ = some (.bool false) := VB.out.blk.cell 2
        have HFN := Lib.hid (ret3 (.int .i64 3) (.int .i64 0) (.bool false) ST1.out.below (by omega : w.heap.size ≤ w.heap.size + 1 + 1) ST1.out.res)
        obtain ⟨q0, q1, q2, q3, q4, q5⟩ := blk3 ST1.out.res
        have hm := ST1.out.lt
        go_wp2_with fail
        generalize ((W1.setCell ⟨w.heap.size + 1 + 1, 0, none⟩ (.int .i64 3)).setCell ⟨w.heap.size + 1 + 1, 1, none⟩ (.int .i64 0)).setCell ⟨w.heap.size + 1 + 1, 2, none⟩ (.bool false) = W9 at *
        obtain ⟨r0, r1, r2, -, -, -⟩ := blk3 HFN.out.2
        refine bodyPost_ret (v := .agg #[.int .i64 3, .int .i64 0, .bool false]) (by simp [results, Try.results72, go_sem, r0, r1, r2]) rfl ⟨rfl, HFN.out.1⟩
      | unk =>
        obtain rfl : R = .unk := by rw [HR1.out]; simp
        have xt0 : W1.cell? ⟨g1, 0, none⟩ = some (.int .i64 0) := VB.out.blk.cell 0
        have xt1 : W1.cell? ⟨g1, 1, none⟩ = some (.int .i64 0) := VB.out.blk.cell 1
        have xt2 : W1.cell? ⟨g1, 2, none⟩ = some (.bool false) := VB.out.blk.cell 2
        have HFN := Lib.hid (ret3 (.int .i64 0) (.int .i64 0) (.bool false) ST1.out.below (by omega : w.heap.size ≤ w.heap.size + 1 + 1) ST1.out.res)
        obtain ⟨q0, q1, q2, q3, q4, q5⟩ := blk3 ST1.out.res
        have hm := ST1.out.lt
        go_wp2_with fail
        generalize ((W1.setCell ⟨w.heap.size + 1 + 1, 0, none⟩ (.int .i64 0)).setCell ⟨w.heap.size + 1 + 1, 1, none⟩ (.int .i64 0)).setCell ⟨w.heap.size + 1 + 1, 2, none⟩ (.bool false) = W9 at *
        obtain ⟨r0, r1, r2, -, -, -⟩ := blk3 HFN.out.2
        refine bodyPost_ret (v := .agg #[.int .i64 0, .int .i64 0, .bool false]) (by simp [results, Try.results72, go_sem, r0, r1, r2]) rfl ⟨rfl, HFN.out.1⟩
      | num nB =>
        obtain rfl : R = .unk := by rw [HR1.out]; simp
        have xt0 : W1.cell? ⟨g1, 0, none⟩ = some (.int .i64 1) := VB.out.blk.cell 0
        have xt1 : W1.cell? ⟨g1, 1, none⟩ = some (.int .i64 nB) := VB.out.blk.cell 1
        have xt2 : W1.cell? ⟨g1, 2, none⟩ = some (.bool false) := VB.out.blk.cell 2
        have HFN := Lib.hid (ret3 (.int .i64 0) (.int .i64 0) (.bool false) ST1.out.below (by omega : w.heap.size ≤ w.heap.size + 1 + 1) ST1.out.res)
        obtain ⟨q0, q1, q2, q3, q4, q5⟩ := blk3 ST1.out.res
        have hm := ST1.out.lt
        go_wp2_with fail
        generalize ((W1.setCell ⟨w.heap.size + 1 + 1, 0, none⟩ (.int .i64 0)).setCell ⟨w.heap.size + 1 + 1, 1, none⟩ (.int .i64 0)).setCell ⟨w.heap.size + 1 + 1, 2, none⟩ (.bool false) = W9 at *
        obtain ⟨r0, r1, r2, -, -, -⟩ := blk3 HFN.out.2
        refine bodyPost_ret (v := .agg #[.int .i64 0, .int .i64 0, .bool false]) (by simp [results, Try.results72, go_sem, r0, r1, r2]) rfl ⟨rfl, HFN.out.1⟩
      | tru tB =>
        by_cases hts : tB = s
        · subst hts
          obtain rfl : R = .tru tB := by rw [HR1.out]; simp
          have xt0 : W1.cell? ⟨g1, 0, none⟩ = some (.int .i64 2) := VB.out.blk.cell 0
          have xt1 : W1.cell? ⟨g1, 1, none⟩ = some (.int .i64 0) := VB.out.blk.cell 1
          have xt2 : W1.cell? ⟨g1, 2, none⟩ = some (.bool tB) := VB.out.blk.cell 2
          cases tB
          · have HFN := Lib.hid (ret3 (.int .i64 2) (.int .i64 0) (.bool false) ST1.out.below (by omega : w.heap.size ≤ w.heap.size + 1 + 1) ST1.out.res)
            obtain ⟨q0, q1, q2, q3, q4, q5⟩ := blk3 ST1.out.res
            have hm := ST1.out.lt
            go_wp2_with fail
            generalize ((W1.setCell ⟨w.heap.size + 1 + 1, 0, none⟩ (.int .i64 2)).setCell ⟨w.heap.size + 1 + 1, 1, none⟩ (.int .i64 0)).setCell ⟨w.heap.size + 1 + 1, 2, none⟩ (.bool false) = W9 at *
            obtain ⟨r0, r1, r2, -, -, -⟩ := blk3 HFN.out.2
            refine bodyPost_ret (v := .agg #[.int .i64 2, .int .i64 0, .bool false]) (by simp [results, Try.results72, go_sem, r0, r1, r2]) rfl ⟨rfl, HFN.out.1⟩
          · have HFN := Lib.hid (ret3 (.int .i64 2) (.int .i64 0) (.bool true) ST1.out.below (by omega : w.heap.size ≤ w.heap.size + 1 + 1) ST1.out.res)
            obtain ⟨q0, q1, q2, q3, q4, q5⟩ := blk3 ST1.out.res
            have hm := ST1.out.lt
            go_wp2_with fail
            generalize ((W1.setCell ⟨w.heap.size + 1 + 1, 0, none⟩ (.int .i64 2)).setCell ⟨w.heap.size + 1 + 1, 1, none⟩ (.int .i64 0)).setCell ⟨w.heap.size + 1 + 1, 2, none⟩ (.bool true) = W9 at *
            obtain ⟨r0, r1, r2, -, -, -⟩ := blk3 HFN.out.2
            refine bodyPost_ret (v := .agg #[.int .i64 2, .int .i64 0, .bool true]) (by simp [results, Try.results72, go_sem, r0, r1, r2]) rfl ⟨rfl, HFN.out.1⟩
        · obtain rfl : R = .unk := by rw [HR1.out]; simp [hts]
          have xt0 : W1.cell? ⟨g1, 0, none⟩ = some (.int .i64 2) := VB.out.blk.cell 0
          have xt1 : W1.cell? ⟨g1, 1, none⟩ = some (.int .i64 0) := VB.out.blk.cell 1
          have xt2 : W1.cell? ⟨g1, 2, none⟩ = some (.bool tB) := VB.out.blk.cell 2
          cases tB <;> cases s <;> first | exact absurd rfl hts | skip
          · have HFN := Lib.hid (ret3 (.int .i64 0) (.int .i64 0) (.bool false) ST1.out.below (by omega : w.heap.size ≤ w.heap.size + 1 + 1) ST1.out.res)
            obtain ⟨q0, q1, q2, q3, q4, q5⟩ := blk3 ST1.out.res
            have hm := ST1.out.lt
            go_wp2_with fail
            generalize ((W1.setCell ⟨w.heap.size + 1 + 1, 0, none⟩ (.int .i64 0)).setCell ⟨w.heap.size + 1 + 1, 1, none⟩ (.int .i64 0)).setCell ⟨w.heap.size + 1 + 1, 2, none⟩ (.bool false) = W9 at *
            obtain ⟨r0, r1, r2, -, -, -⟩ := blk3 HFN.out.2
            refine bodyPost_ret (v := .agg #[.int .i64 0, .int .i64 0, .bool false]) (by simp [results, Try.results72, go_sem, r0, r1, r2]) rfl ⟨rfl, HFN.out.1⟩
          · have HFN := Lib.hid (ret3 (.int .i64 0) (.int .i64 0) (.bool false) ST1.out.below (by omega : w.heap.size ≤ w.heap.size + 1 + 1) ST1.out.res)
            obtain ⟨q0, q1, q2, q3, q4, q5⟩ := blk3 ST1.out.res
            have hm := ST1.out.lt
            go_wp2_with fail
            generalize ((W1.setCell ⟨w.heap.size + 1 + 1, 0, none⟩ (.int .i64 0)).setCell ⟨w.heap.size + 1 + 1, 1, none⟩ (.int .i64 0)).setCell ⟨w.heap.size + 1 + 1, 2, none⟩ (.bool false) = W9 at *
            obtain ⟨r0, r1, r2, -, -, -⟩ := blk3 HFN.out.2
            refine bodyPost_ret (v := .agg #[.int .i64 0, .int .i64 0, .bool false]) (by simp [results, Try.results72, go_sem, r0, r1, r2]) rfl ⟨rfl, HFN.out.1⟩
    | tru t =>
      by_cases hts : t = s
      · subst hts
        obtain rfl : R = .tru t := by rw [HR.out]; simp
        have t0 : W0.cell? ⟨g, 0, none⟩ = some (.int .i64 2) := VA.out.blk.cell 0
        have t1 : W0.cell? ⟨g, 1, none⟩ = some (.int .i64 0) := VA.out.blk.cell 1
        have t2 : W0.cell? ⟨g, 2, none⟩ = some (.bool t) := VA.out.blk.cell 2
        cases t
        · have HFN := Lib.hid (ret3 (.int .i64 2) (.int .i64 0) (.bool false) ST0.out.below (by omega : w.heap.size ≤ w.heap.size + 1 + 1) ST0.out.res)
          obtain ⟨q0, q1, q2, q3, q4, q5⟩ := blk3 ST0.out.res
          have hm := ST0.out.lt
          go_wp2_with fail
          generalize ((W0.setCell ⟨w.heap.size + 1 + 1, 0, none⟩ (.int .i64 2)).setCell ⟨w.heap.size + 1 + 1, 1, none⟩ (.int .i64 0)).setCell ⟨w.heap.size + 1 + 1, 2, none⟩ (.bool false) = W9 at *
          obtain ⟨r0, r1, r2, -, -, -⟩ := blk3 HFN.out.2
          refine bodyPost_ret (v := .agg #[.int .i64 2, .int .i64 0, .bool false]) (by simp [results, Try.results72, go_sem, r0, r1, r2]) rfl ⟨rfl, HFN.out.1⟩
        · have HFN := Lib.hid (ret3 (.int .i64 2) (.int .i64 0) (.bool true) ST0.out.below (by omega : w.heap.size ≤ w.heap.size + 1 + 1) ST0.out.res)
          obtain ⟨q0, q1, q2, q3, q4, q5⟩ := blk3 ST0.out.res
          have hm := ST0.out.lt
          go_wp2_with fail
          generalize ((W0.setCell ⟨w.heap.size + 1 + 1, 0, none⟩ (.int .i64 2)).setCell ⟨w.heap.size + 1 + 1, 1, none⟩ (.int .i64 0)).setCell ⟨w.heap.size + 1 + 1, 2, none⟩ (.bool true) = W9 at *
          obtain ⟨r0, r1, r2, -, -, -⟩ := blk3 HFN.out.2
          refine bodyPost_ret (v := .agg #[.int .i64 2, .int .i64 0, .bool true]) (by simp [results, Try.results72, go_sem, r0, r1, r2]) rfl ⟨rfl, HFN.out.1⟩
      · have HR1 : R = B := by rw [HR.out]; simp [hts]
        subst HR1
        clear HR
        cases t <;> cases s <;> first | exact absurd rfl hts | skip
        · have t0 : W0.cell? ⟨g, 0, none⟩ = some (.int .i64 2) := VA.out.blk.cell 0
          have t1 : W0.cell? ⟨g, 1, none⟩ = some (.int .i64 0) := VA.out.blk.cell 1
          have t2 : W0.cell? ⟨g, 2, none⟩ = some (.bool false) := VA.out.blk.cell 2
          go_wp2_with fail
          go_cut [8] (fun p W1 => ∃ g1, p = .pointer (some ⟨g1, 0, none⟩) ∧ Hid (EvSt w W1 day a len cap op n nm (some ⟨b, o, none⟩) 2 cap') ∧ Hid (EvV w W1 g1 R) ∧ Hid (EvV w W1 g (.tru false)))
          case first =>
            clear t0 t1 t2
            obtain ⟨e0, e1, -, -⟩ := ST0.out.env.two
            have x3 : W0.cell? ⟨w.heap.size + 1, 3, none⟩ = _ := ST0.out.ex.cell 3
            simp only [List.getElem?_toArray, List.getElem?_cons_zero, List.getElem?_cons_succ] at x3
            obtain ⟨u0, u1, u2, u3⟩ := H1.out
            replace u0 := cell_up u0 ST0.out.below
            replace u1 := cell_up u1 ST0.out.below
            replace u2 := cell_up u2 ST0.out.below
            replace u3 := cell_up u3 ST0.out.below
            refine wp_region_till (S := fun W => (W.cell? ⟨w.heap.size, 0, none⟩ = some (.int .i64 day) ∧ W.cell? ⟨w.heap.size, 1, none⟩ = some (.slice a len cap)) ∧ W.cell? ⟨w.heap.size + 1, 3, none⟩ = some (.slice (some ⟨b, o, none⟩) 2 cap') ∧ W.cell? ⟨b, o + 4, none⟩ = some (.int .i64 o1) ∧ W.cell? ⟨b, o + 4 + 1, none⟩ = some (.int .i64 n1) ∧ W.cell? ⟨b, o + 4 + 2, none⟩ = some (.string m1) ∧ W.cell? ⟨b, o + 4 + 3, none⟩ = some (.slice a1 l1 p1)) 7 (by kernel_rfl) ?_
            refine till_take (i := 0) (v := ?_) rfl (by kernel_rfl) (fun _ _ _ h => h) (Or.inl ⟨by rfl, ?_⟩) ⟨⟨e0,e1⟩,x3,u0,u1,u2,u3⟩ ?_
            rotate_left
            · intro W hS
              try dsimp only at hS
              go_split_ands
              go_simp
              try with_reducible rfl
            try simp only [Act.put, List.getElem_toArray, List.getElem_cons_zero, List.getElem_cons_succ, List.setIfInBounds_toArray, List.set_cons_zero, List.set_cons_succ]
            refine till_take (i := 1) (v := ?_) rfl (by kernel_rfl) (fun _ _ _ h => h) (Or.inl ⟨by rfl, ?_⟩) ⟨⟨e0,e1⟩,x3,u0,u1,u2,u3⟩ ?_
            rotate_left
            · intro W hS
              try dsimp only at hS
              go_split_ands
              go_simp
              try with_reducible rfl
            try simp only [Act.put, List.getElem_toArray, List.getElem_cons_zero, List.getElem_cons_succ, List.setIfInBounds_toArray, List.set_cons_zero, List.set_cons_succ]
            refine till_take (i := 2) (v := ?_) rfl (by kernel_rfl) (fun _ _ _ h => h) (Or.inl ⟨by rfl, ?_⟩) ⟨⟨e0,e1⟩,x3,u0,u1,u2,u3⟩ ?_
            rotate_left
            · intro W hS
              try dsimp only at hS
              go_split_ands
              go_simp
              try with_reducible rfl
            try simp only [Act.put, List.getElem_toArray, List.getElem_cons_zero, List.getElem_cons_succ, List.setIfInBounds_toArray, List.set_cons_zero, List.set_cons_succ]
            refine till_take (i := 3) (v := ?_) rfl (by kernel_rfl) (fun _ _ _ h => h) (Or.inl ⟨by rfl, ?_⟩) ⟨⟨e0,e1⟩,x3,u0,u1,u2,u3⟩ ?_
            rotate_left
            · intro W hS
              try dsimp only at hS
              go_split_ands
              go_simp
              try with_reducible rfl
            try simp only [Act.put, List.getElem_toArray, List.getElem_cons_zero, List.getElem_cons_succ, List.setIfInBounds_toArray, List.set_cons_zero, List.set_cons_succ]
            refine till_take (i := 4) (v := ?_) rfl (by kernel_rfl) (fun _ _ _ h => h) (Or.inl ⟨by rfl, ?_⟩) ⟨⟨e0,e1⟩,x3,u0,u1,u2,u3⟩ ?_
            rotate_left
            · intro W hS
              try dsimp only at hS
              go_split_ands
              go_simp
              try with_reducible rfl
            try simp only [Act.put, List.getElem_toArray, List.getElem_cons_zero, List.getElem_cons_succ, List.setIfInBounds_toArray, List.set_cons_zero, List.set_cons_succ]
            refine till_two (i := 5) (j := 6) (by kernel_rfl) rfl rfl (fun K' hK => ?_) (fun K' hK => ?_)
            · go_simp
              go_at_call 60
              (with_reducible refine (EvC.run HCB.out _ ST0.out.below.drew).mono ?_)
              rintro y w1 ⟨hy, b1⟩
              unfold RetV at hy
              subst hy
              have hd := (Below.refl W0.heap.size W0).drew
              have ST1 := Lib.hid ((ST0.out.up hd).up b1)
              have bt := hd.trans (b1.mono hd.size)
              have GG := Lib.hid ((VA.out.up hd).up b1)
              replace e0 := cell_up e0 bt
              replace e1 := cell_up e1 bt
              replace x3 := cell_up x3 bt
              replace u0 := cell_up u0 bt
              replace u1 := cell_up u1 bt
              replace u2 := cell_up u2 bt
              replace u3 := cell_up u3 bt
              refine hK _ _ ⟨⟨e0,e1⟩,x3,u0,u1,u2,u3⟩ ?_
              clear hK K' b1 hd bt
              try simp only [Act.put, List.getElem_toArray, List.getElem_cons_zero, List.getElem_cons_succ, List.setIfInBounds_toArray, List.set_cons_zero, List.set_cons_succ]
              refine till_one (i := 6) (by kernel_rfl) rfl (fun K' hK => ?_)
              go_simp
              have bn := (Below.refl w1.heap.size w1).alloc (Nat.le_refl _) (.cells #[.int .i64 0, .int .i64 0, .bool false] 98)
              have ST2 := Lib.hid (ST1.out.up bn)
              have BZ := Lib.hid (Mem.Blk.new w1 98 #[.int .i64 0, .int .i64 0, .bool false])
              have HZ := Lib.hid ST1.out.lt
              have HP := Lib.hid (And.intro (GG.out.up bn) (Nat.ne_of_lt GG.out.blk.lt))
              refine hK _ _ ⟨⟨cell_up e0 bn, cell_up e1 bn⟩, cell_up x3 bn, cell_up u0 bn, cell_up u1 bn, cell_up u2 bn, cell_up u3 bn⟩ ?_
              clear hK K' bn ST1 e0 e1 x3 u0 u1 u2 u3 GG
              generalize w1.alloc (.cells #[.int .i64 0, .int .i64 0, .bool false] 98) = w2 at *
              generalize w1.heap.size = z at *
              try simp only [Act.put, List.getElem_toArray, List.getElem_cons_zero, List.getElem_cons_succ, List.setIfInBounds_toArray, List.set_cons_zero, List.set_cons_succ]
              obtain ⟨t0, t1, t2, t3, t4, t5⟩ := blk3 BZ.out
              have hm := BZ.out.lt
              refine till_last (by kernel_rfl) rfl (by kernel_rfl) (fun K' hK => ?_)
              go_simp
              have HS9 := Lib.hid (ST2.out.far3 HZ.out (.int .i64 R.K) (.int .i64 R.N) (.bool R.B))
              have HV9 := Lib.hid (EvV.mk (v := R) HZ.out (((BZ.out.set_ 0 (.int .i64 R.K)).set_ 1 (.int .i64 R.N)).set_ 2 (.bool R.B)))
              refine hK _ _ ?_
              clear hK K'
              try simp only [Act.put, List.getElem_toArray, List.getElem_cons_zero, List.getElem_cons_succ, List.setIfInBounds_toArray, List.set_cons_zero, List.set_cons_succ]
              refine wpAny_done (by kernel_rfl) ?_ _
              go_wp2_with fail
              go_meet
              case rel => exact ⟨z, rfl, HS9.out, HV9.out, HP.out.1.far3 HP.out.2 _ _ _⟩
            · go_simp
              have bn := below_new W0 (.cells #[.int .i64 0, .int .i64 0, .bool false] 98)
              have ST1 := Lib.hid (ST0.out.up bn)
              have BZ1 := Lib.hid (Mem.Blk.new W0 98 #[.int .i64 0, .int .i64 0, .bool false]).drew
              have HZ := Lib.hid ST0.out.lt
              have HQ := Lib.hid (And.intro (VA.out.up bn) (Nat.ne_of_lt VA.out.blk.lt))
              replace e0 := cell_up e0 bn
              replace e1 := cell_up e1 bn
              replace x3 := cell_up x3 bn
              replace u0 := cell_up u0 bn
              replace u1 := cell_up u1 bn
              replace u2 := cell_up u2 bn
              replace u3 := cell_up u3 bn
              refine hK _ _ ⟨⟨e0,e1⟩,x3,u0,u1,u2,u3⟩ ?_
              clear hK K' bn
              generalize (W0.alloc (.cells #[.int .i64 0, .int .i64 0, .bool false] 98)).drew = w1 at *
              generalize W0.heap.size = z at *
              try simp only [Act.put, List.getElem_toArray, List.getElem_cons_zero, List.getElem_cons_succ, List.setIfInBounds_toArray, List.set_cons_zero, List.set_cons_succ]
              refine till_one (i := 5) (by kernel_rfl) rfl (fun K' hK => ?_)
              go_simp
              go_at_call 60
              (with_reducible refine (EvC.run HCB.out _ ST1.out.below).mono ?_)
              rintro y w2 ⟨hy, b1⟩
              unfold RetV at hy
              subst hy
              have ST2 := Lib.hid (ST1.out.up b1)
              have BZ := Lib.hid (BZ1.out.below b1)
              have HP := Lib.hid (And.intro (HQ.out.1.up b1) HQ.out.2)
              refine hK _ _ ⟨⟨cell_up e0 b1, cell_up e1 b1⟩, cell_up x3 b1, cell_up u0 b1, cell_up u1 b1, cell_up u2 b1, cell_up u3 b1⟩ ?_
              clear hK K' b1 ST1 BZ1 e0 e1 x3 u0 u1 u2 u3 HQ
              try simp only [Act.put, List.getElem_toArray, List.getElem_cons_zero, List.getElem_cons_succ, List.setIfInBounds_toArray, List.set_cons_zero, List.set_cons_succ]
              obtain ⟨t0, t1, t2, t3, t4, t5⟩ := blk3 BZ.out
              have hm := BZ.out.lt
              refine till_last (by kernel_rfl) rfl (by kernel_rfl) (fun K' hK => ?_)
              go_simp
              have HS9 := Lib.hid (ST2.out.far3 HZ.out (.int .i64 R.K) (.int .i64 R.N) (.bool R.B))
              have HV9 := Lib.hid (EvV.mk (v := R) HZ.out (((BZ.out.set_ 0 (.int .i64 R.K)).set_ 1 (.int .i64 R.N)).set_ 2 (.bool R.B)))
              refine hK _ _ ?_
              clear hK K'
              try simp only [Act.put, List.getElem_toArray, List.getElem_cons_zero, List.getElem_cons_succ, List.setIfInBounds_toArray, List.set_cons_zero, List.set_cons_succ]
              refine wpAny_done (by kernel_rfl) ?_ _
              go_wp2_with fail
              go_meet
              case rel => exact ⟨z, rfl, HS9.out, HV9.out, HP.out.1.far3 HP.out.2 _ _ _⟩
          obtain ⟨g1, rfl, ST1, VB, VA1⟩ := hcut
          obtain ⟨W1, rfl⟩ : ∃ W : World, W = wc := ⟨_, rfl⟩
          clear t0 t1 t2 ST0 VA
          have t0 : W1.cell? ⟨g, 0, none⟩ = some (.int .i64 2) := VA1.out.blk.cell 0
          have t1 : W1.cell? ⟨g, 1, none⟩ = some (.int .i64 0) := VA1.out.blk.cell 1
          have t2 : W1.cell? ⟨g, 2, none⟩ = some (.bool false) := VA1.out.blk.cell 2
          have HP : Hid (RetV R (.returned (.agg #[.int .i64 R.K, .int .i64 R.N, .bool R.B]))) := rfl
          have xt0 : W1.cell? ⟨g1, 0, none⟩ = some (.int .i64 R.K) := VB.out.blk.cell 0
          have xt1 : W1.cell? ⟨g1, 1, none⟩ = some (.int .i64 R.N) := VB.out.blk.cell 1
          have xt2 : W1.cell? ⟨g1, 2, none⟩ = some (.bool R.B) := VB.out.blk.cell 2
          clear HCA HCB
          generalize R.K = rk at *
          generalize R.N = rn at *
          generalize R.B = rb at *
          have HFN := Lib.hid (ret3 (.int .i64 rk) (.int .i64 rn) (.bool rb) ST1.out.below (by omega : w.heap.size ≤ w.heap.size + 1 + 1) ST1.out.res)
          obtain ⟨q0, q1, q2, q3, q4, q5⟩ := blk3 ST1.out.res
          have hm := ST1.out.lt
          go_wp2_with fail
          generalize ((W1.setCell ⟨w.heap.size + 1 + 1, 0, none⟩ (.int .i64 rk)).setCell ⟨w.heap.size + 1 + 1, 1, none⟩ (.int .i64 rn)).setCell ⟨w.heap.size + 1 + 1, 2, none⟩ (.bool rb) = W9 at *
          obtain ⟨r0, r1, r2, -, -, -⟩ := blk3 HFN.out.2
          refine bodyPost_ret (v := .agg #[.int .i64 rk, .int .i64 rn, .bool rb]) (by simp [results, Try.results72, go_sem, r0, r1, r2]) rfl ⟨HP.out, HFN.out.1⟩
        · have t0 : W0.cell? ⟨g, 0, none⟩ = some (.int .i64 2) := VA.out.blk.cell 0
          have t1 : W0.cell? ⟨g, 1, none⟩ = some (.int .i64 0) := VA.out.blk.cell 1
          have t2 : W0.cell? ⟨g, 2, none⟩ = some (.bool true) := VA.out.blk.cell 2
          go_wp2_with fail
          go_cut [8] (fun p W1 => ∃ g1, p = .pointer (some ⟨g1, 0, none⟩) ∧ Hid (EvSt w W1 day a len cap op n nm (some ⟨b, o, none⟩) 2 cap') ∧ Hid (EvV w W1 g1 R) ∧ Hid (EvV w W1 g (.tru true)))
          case first =>
            clear t0 t1 t2
            obtain ⟨e0, e1, -, -⟩ := ST0.out.env.two
            have x3 : W0.cell? ⟨w.heap.size + 1, 3, none⟩ = _ := ST0.out.ex.cell 3
            simp only [List.getElem?_toArray, List.getElem?_cons_zero, List.getElem?_cons_succ] at x3
            obtain ⟨u0, u1, u2, u3⟩ := H1.out
            replace u0 := cell_up u0 ST0.out.below
            replace u1 := cell_up u1 ST0.out.below
            replace u2 := cell_up u2 ST0.out.below
            replace u3 := cell_up u3 ST0.out.below
            refine wp_region_till (S := fun W => (W.cell? ⟨w.heap.size, 0, none⟩ = some (.int .i64 day) ∧ W.cell? ⟨w.heap.size, 1, none⟩ = some (.slice a len cap)) ∧ W.cell? ⟨w.heap.size + 1, 3, none⟩ = some (.slice (some ⟨b, o, none⟩) 2 cap') ∧ W.cell? ⟨b, o + 4, none⟩ = some (.int .i64 o1) ∧ W.cell? ⟨b, o + 4 + 1, none⟩ = some (.int .i64 n1) ∧ W.cell? ⟨b, o + 4 + 2, none⟩ = some (.string m1) ∧ W.cell? ⟨b, o + 4 + 3, none⟩ = some (.slice a1 l1 p1)) 7 (by kernel_rfl) ?_
            refine till_take (i := 0) (v := ?_) rfl (by kernel_rfl) (fun _ _ _ h => h) (Or.inl ⟨by rfl, ?_⟩) ⟨⟨e0,e1⟩,x3,u0,u1,u2,u3⟩ ?_
            rotate_left
            · intro W hS
              try dsimp only at hS
              go_split_ands
              go_simp
              try with_reducible rfl
            try simp only [Act.put, List.getElem_toArray, List.getElem_cons_zero, List.getElem_cons_succ, List.setIfInBounds_toArray, List.set_cons_zero, List.set_cons_succ]
            refine till_take (i := 1) (v := ?_) rfl (by kernel_rfl) (fun _ _ _ h => h) (Or.inl ⟨by rfl, ?_⟩) ⟨⟨e0,e1⟩,x3,u0,u1,u2,u3⟩ ?_
            rotate_left
            · intro W hS
              try dsimp only at hS
              go_split_ands
              go_simp
              try with_reducible rfl
            try simp only [Act.put, List.getElem_toArray, List.getElem_cons_zero, List.getElem_cons_succ, List.setIfInBounds_toArray, List.set_cons_zero, List.set_cons_succ]
            refine till_take (i := 2) (v := ?_) rfl (by kernel_rfl) (fun _ _ _ h => h) (Or.inl ⟨by rfl, ?_⟩) ⟨⟨e0,e1⟩,x3,u0,u1,u2,u3⟩ ?_
            rotate_left
            · intro W hS
              try dsimp only at hS
              go_split_ands
              go_simp
              try with_reducible rfl
            try simp only [Act.put, List.getElem_toArray, List.getElem_cons_zero, List.getElem_cons_succ, List.setIfInBounds_toArray, List.set_cons_zero, List.set_cons_succ]
            refine till_take (i := 3) (v := ?_) rfl (by kernel_rfl) (fun _ _ _ h => h) (Or.inl ⟨by rfl, ?_⟩) ⟨⟨e0,e1⟩,x3,u0,u1,u2,u3⟩ ?_
            rotate_left
            · intro W hS
              try dsimp only at hS
              go_split_ands
              go_simp
              try with_reducible rfl
            try simp only [Act.put, List.getElem_toArray, List.getElem_cons_zero, List.getElem_cons_succ, List.setIfInBounds_toArray, List.set_cons_zero, List.set_cons_succ]
            refine till_take (i := 4) (v := ?_) rfl (by kernel_rfl) (fun _ _ _ h => h) (Or.inl ⟨by rfl, ?_⟩) ⟨⟨e0,e1⟩,x3,u0,u1,u2,u3⟩ ?_
            rotate_left
            · intro W hS
              try dsimp only at hS
              go_split_ands
              go_simp
              try with_reducible rfl
            try simp only [Act.put, List.getElem_toArray, List.getElem_cons_zero, List.getElem_cons_succ, List.setIfInBounds_toArray, List.set_cons_zero, List.set_cons_succ]
            refine till_two (i := 5) (j := 6) (by kernel_rfl) rfl rfl (fun K' hK => ?_) (fun K' hK => ?_)
            · go_simp
              go_at_call 60
              (with_reducible refine (EvC.run HCB.out _ ST0.out.below.drew).mono ?_)
              rintro y w1 ⟨hy, b1⟩
              unfold RetV at hy
              subst hy
              have hd := (Below.refl W0.heap.size W0).drew
              have ST1 := Lib.hid ((ST0.out.up hd).up b1)
              have bt := hd.trans (b1.mono hd.size)
              have GG := Lib.hid ((VA.out.up hd).up b1)
              replace e0 := cell_up e0 bt
              replace e1 := cell_up e1 bt
              replace x3 := cell_up x3 bt
              replace u0 := cell_up u0 bt
              replace u1 := cell_up u1 bt
              replace u2 := cell_up u2 bt
              replace u3 := cell_up u3 bt
              refine hK _ _ ⟨⟨e0,e1⟩,x3,u0,u1,u2,u3⟩ ?_
              clear hK K' b1 hd bt
              try simp only [Act.put, List.getElem_toArray, List.getElem_cons_zero, List.getElem_cons_succ, List.setIfInBounds_toArray, List.set_cons_zero, List.set_cons_succ]
              refine till_one (i := 6) (by kernel_rfl) rfl (fun K' hK => ?_)
              go_simp
              have bn := (Below.refl w1.heap.size w1).alloc (Nat.le_refl _) (.cells #[.int .i64 0, .int .i64 0, .bool false] 98)
              have ST2 := Lib.hid (ST1.out.up bn)
              have BZ := Lib.hid (Mem.Blk.new w1 98 #[.int .i64 0, .int .i64 0, .bool false])
              have HZ := Lib.hid ST1.out.lt
              have HP := Lib.hid (And.intro (GG.out.up bn) (Nat.ne_of_lt GG.out.blk.lt))
              refine hK _ _ ⟨⟨cell_up e0 bn, cell_up e1 bn⟩, cell_up x3 bn, cell_up u0 bn, cell_up u1 bn, cell_up u2 bn, cell_up u3 bn⟩ ?_
              clear hK K' bn ST1 e0 e1 x3 u0 u1 u2 u3 GG
              generalize w1.alloc (.cells #[.int .i64 0, .int .i64 0, .bool false] 98) = w2 at *
              generalize w1.heap.size = z at *
              try simp only [Act.put, List.getElem_toArray, List.getElem_cons_zero, List.getElem_cons_succ, List.setIfInBounds_toArray, List.set_cons_zero, List.set_cons_succ]
              obtain ⟨t0, t1, t2, t3, t4, t5⟩ := blk3 BZ.out
              have hm := BZ.out.lt
              refine till_last (by kernel_rfl) rfl (by kernel_rfl) (fun K' hK => ?_)
              go_simp
              have HS9 := Lib.hid (ST2.out.far3 HZ.out (.int .i64 R.K) (.int .i64 R.N) (.bool R.B))
              have HV9 := Lib.hid (EvV.mk (v := R) HZ.out (((BZ.out.set_ 0 (.int .i64 R.K)).set_ 1 (.int .i64 R.N)).set_ 2 (.bool R.B)))
              refine hK _ _ ?_
              clear hK K'
              try simp only [Act.put, List.getElem_toArray, List.getElem_cons_zero, List.getElem_cons_succ, List.setIfInBounds_toArray, List.set_cons_zero, List.set_cons_succ]
              refine wpAny_done (by kernel_rfl) ?_ _
              go_wp2_with fail
              go_meet
              case rel => exact ⟨z, rfl, HS9.out, HV9.out, HP.out.1.far3 HP.out.2 _ _ _⟩
            · go_simp
              have bn := below_new W0 (.cells #[.int .i64 0, .int .i64 0, .bool false] 98)
              have ST1 := Lib.hid (ST0.out.up bn)
              have BZ1 := Lib.hid (Mem.Blk.new W0 98 #[.int .i64 0, .int .i64 0, .bool false]).drew
              have HZ := Lib.hid ST0.out.lt
              have HQ := Lib.hid (And.intro (VA.out.up bn) (Nat.ne_of_lt VA.out.blk.lt))
              replace e0 := cell_up e0 bn
              replace e1 := cell_up e1 bn
              replace x3 := cell_up x3 bn
              replace u0 := cell_up u0 bn
              replace u1 := cell_up u1 bn
              replace u2 := cell_up u2 bn
              replace u3 := cell_up u3 bn
              refine hK _ _ ⟨⟨e0,e1⟩,x3,u0,u1,u2,u3⟩ ?_
              clear hK K' bn
              generalize (W0.alloc (.cells #[.int .i64 0, .int .i64 0, .bool false] 98)).drew = w1 at *
              generalize W0.heap.size = z at *
              try simp only [Act.put, List.getElem_toArray, List.getElem_cons_zero, List.getElem_cons_succ, List.setIfInBounds_toArray, List.set_cons_zero, List.set_cons_succ]
              refine till_one (i := 5) (by kernel_rfl) rfl (fun K' hK => ?_)
              go_simp
              go_at_call 60
              (with_reducible refine (EvC.run HCB.out _ ST1.out.below).mono ?_)
              rintro y w2 ⟨hy, b1⟩
              unfold RetV at hy
              subst hy
              have ST2 := Lib.hid (ST1.out.up b1)
              have BZ := Lib.hid (BZ1.out.below b1)
              have HP := Lib.hid (And.intro (HQ.out.1.up b1) HQ.out.2)
              refine hK _ _ ⟨⟨cell_up e0 b1, cell_up e1 b1⟩, cell_up x3 b1, cell_up u0 b1, cell_up u1 b1, cell_up u2 b1, cell_up u3 b1⟩ ?_
              clear hK K' b1 ST1 BZ1 e0 e1 x3 u0 u1 u2 u3 HQ
              try simp only [Act.put, List.getElem_toArray, List.getElem_cons_zero, List.getElem_cons_succ, List.setIfInBounds_toArray, List.set_cons_zero, List.set_cons_succ]
              obtain ⟨t0, t1, t2, t3, t4, t5⟩ := blk3 BZ.out
              have hm := BZ.out.lt
              refine till_last (by kernel_rfl) rfl (by kernel_rfl) (fun K' hK => ?_)
              go_simp
              have HS9 := Lib.hid (ST2.out.far3 HZ.out (.int .i64 R.K) (.int .i64 R.N) (.bool R.B))
              have HV9 := Lib.hid (EvV.mk (v := R) HZ.out (((BZ.out.set_ 0 (.int .i64 R.K)).set_ 1 (.int .i64 R.N)).set_ 2 (.bool R.B)))
              refine hK _ _ ?_
              clear hK K'
              try simp only [Act.put, List.getElem_toArray, List.getElem_cons_zero, List.getElem_cons_succ, List.setIfInBounds_toArray, List.set_cons_zero, List.set_cons_succ]
              refine wpAny_done (by kernel_rfl) ?_ _
              go_wp2_with fail
              go_meet
              case rel => exact ⟨z, rfl, HS9.out, HV9.out, HP.out.1.far3 HP.out.2 _ _ _⟩
          obtain ⟨g1, rfl, ST1, VB, VA1⟩ := hcut
          obtain ⟨W1, rfl⟩ : ∃ W : World, W = wc := ⟨_, rfl⟩
          clear t0 t1 t2 ST0 VA
          have t0 : W1.cell? ⟨g, 0, none⟩ = some (.int .i64 2) := VA1.out.blk.cell 0
          have t1 : W1.cell? ⟨g, 1, none⟩ = some (.int .i64 0) := VA1.out.blk.cell 1
          have t2 : W1.cell? ⟨g, 2, none⟩ = some (.bool true) := VA1.out.blk.cell 2
          have HP : Hid (RetV R (.returned (.agg #[.int .i64 R.K, .int .i64 R.N, .bool R.B]))) := rfl
          have xt0 : W1.cell? ⟨g1, 0, none⟩ = some (.int .i64 R.K) := VB.out.blk.cell 0
          have xt1 : W1.cell? ⟨g1, 1, none⟩ = some (.int .i64 R.N) := VB.out.blk.cell 1
          have xt2 : W1.cell? ⟨g1, 2, none⟩ = some (.bool R.B) := VB.out.blk.cell 2
          clear HCA HCB
          generalize R.K = rk at *
          generalize R.N = rn at *
          generalize R.B = rb at *
          have HFN := Lib.hid (ret3 (.int .i64 rk) (.int .i64 rn) (.bool rb) ST1.out.below (by omega : w.heap.size ≤ w.heap.size + 1 + 1) ST1.out.res)
          obtain ⟨q0, q1, q2, q3, q4, q5⟩ := blk3 ST1.out.res
          have hm := ST1.out.lt
          go_wp2_with fail
          generalize ((W1.setCell ⟨w.heap.size + 1 + 1, 0, none⟩ (.int .i64 rk)).setCell ⟨w.heap.size + 1 + 1, 1, none⟩ (.int .i64 rn)).setCell ⟨w.heap.size + 1 + 1, 2, none⟩ (.bool rb) = W9 at *
          obtain ⟨r0, r1, r2, -, -, -⟩ := blk3 HFN.out.2
          refine bodyPost_ret (v := .agg #[.int .i64 rk, .int .i64 rn, .bool rb]) (by simp [results, Try.results72, go_sem, r0, r1, r2]) rfl ⟨HP.out, HFN.out.1⟩
end Go.Proofs.Ytmiinmndbkdjbaa
