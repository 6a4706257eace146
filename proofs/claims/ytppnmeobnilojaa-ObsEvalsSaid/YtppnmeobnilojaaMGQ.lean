/- A part of the proof: RvB, Big, BgT, BgA, BgB, one behind another. -/
import Derived.Test.YtppnmeobnilojaaMGA
import Derived.Test.YtppnmeobnilojaaMGB
import Derived.Test.YtppnmeobnilojaaMGC
import Derived.Test.YtppnmeobnilojaaMGD
import Derived.Test.YtppnmeobnilojaaMGE
import Derived.Test.YtppnmeobnilojaaMGF
import Derived.Test.YtppnmeobnilojaaMGG
import Derived.Test.YtppnmeobnilojaaMGH
import Derived.Test.YtppnmeobnilojaaMGI
import Derived.Test.YtppnmeobnilojaaMGJ
import Derived.Test.YtppnmeobnilojaaMGK
import Derived.Test.YtppnmeobnilojaaMGL
import Derived.Test.YtppnmeobnilojaaMGM
import Derived.Test.YtppnmeobnilojaaMGN
import Derived.Test.YtppnmeobnilojaaMGO
import Derived.WalkSmall
import Derived.BigQuiet
/- The document's evaluation: either. -/
namespace Go.Proofs.Ytppnmeobnilojaa
set_option linter.unusedVariables false
set_option linter.unusedSimpArgs false
open Go.RowKit
set_option maxRecDepth 100000 in
set_option maxHeartbeats 8000000 in
theorem rv_and18 (w : World) (day : Int) (a : Option Addr) (len cap : Nat) (n : Int) (nm : ByteArray) (b o cap' : Nat) (o0 n0 o1 n1 : Int) (m0 m1 : ByteArray) (a0 a1 : Option Addr) (l0 p0 l1 p1 : Nat) (A B : Vl) (hA : Ty 2 A) (hB : Ty 2 B)
    (h0 : Four w b o (.int .i64 o0) (.int .i64 n0) (.string m0) (.slice a0 l0 p0)) (h1 : Four w b (o + 4) (.int .i64 o1) (.int .i64 n1) (.string m1) (.slice a1 l1 p1))
    (HA : RvC w day a len cap (.int .i64 o0) (.int .i64 n0) (.string m0) (.slice a0 l0 p0) A) (HB : RvC w day a len cap (.int .i64 o1) (.int .i64 n1) (.string m1) (.slice a1 l1 p1) B) :
    Calls Try.prog 39 #[.agg #[.int .i64 18, .int .i64 n, .string nm, .slice (some ⟨b, o, none⟩) 2 cap'], .agg #[.int .i64 day, .slice a len cap]] w fun x w' => RetW (bothV (decide ((18 : Int) = 18)) A B) x ∧ Below w.heap.size w w' := by
  have H0 := Lib.hid h0
  have H1 := Lib.hid h1
  have HCA := Lib.hid HA
  have HCB := Lib.hid HB
  have HTA := Lib.hid hA.of2
  have HTB := Lib.hid hB.of2
  have ST := Lib.hid (RvSt.start w day a len cap 18 n nm (some ⟨b, o, none⟩) 2 cap')
  clear h0 h1 HA HB hA hB
  obtain ⟨R, hR⟩ : ∃ R, R = bothV (decide ((18 : Int) = 18)) A B := ⟨_, rfl⟩
  rw [← hR]
  have HR : Hid (R = if A = .brk ∨ A = .tru true then A else if (∃ t, A = .tru t) ∨ B = .brk ∨ B = .tru true then B else .unk) := by
    show R = _
    rw [hR, show decide ((18 : Int) = 18) = true from rfl]; unfold bothV; congr
  clear hR
  go_enter Try.func39, Try.ntmps39
  go_upto_region 1 with (fail)
  generalize ((w.alloc (.cells #[.int .i64 18, .int .i64 n, .string nm, .slice (some ⟨b, o, none⟩) 2 cap'] 46)).alloc (.cells #[.int .i64 day, .slice a len cap] 58)).alloc (.cells #[.string ⟨#[]⟩, .int .i64 0] 69) = v at *
  have e0 : v.cell? ⟨w.heap.size + 1, 0, none⟩ = some (.int .i64 day) := ST.out.env.cell 0
  have e1 : v.cell? ⟨w.heap.size + 1, 1, none⟩ = some (.slice a len cap) := ST.out.env.cell 1
  obtain ⟨x0, x1, x2, x3, -, -, -, -⟩ := blk4 ST.out.ex
  go_wp2_with fail
  go_at_call 67
  (with_reducible refine (rtruth_any true v).mono ?_)
  rintro y w1 ⟨hy, b1⟩
  have hy' : y = .returned (.agg #[.string ⟨#[116]⟩, .int .i64 0]) := hy
  subst hy'
  have ST1 := Lib.hid (ST.out.up b1)
  have bn := (Below.refl w1.heap.size w1).alloc (Nat.le_refl _) (.cells #[.string ⟨#[116]⟩, .int .i64 0] 69)
  have VS := Lib.hid (RvV.mk (v := .tru true) ST1.out.lt (Mem.Blk.new w1 69 #[.string ⟨#[116]⟩, .int .i64 0]))
  have ST2 := Lib.hid (ST1.out.up bn)
  clear hy b1 bn ST1 ST e0 e1 x0 x1 x2 x3
  go_upto_region 3 with (fail)
  generalize w1.alloc (.cells #[.string ⟨#[116]⟩, .int .i64 0] 69) = v1 at *
  generalize w1.heap.size = gs at *
  go_cut [6] (fun p W0 => ∃ g, p = .pointer (some ⟨g, 0, none⟩) ∧ Hid (RvSt w W0 day a len cap 18 n nm (some ⟨b, o, none⟩) 2 cap') ∧ Hid (RvV w W0 g A) ∧ Hid (RvV w W0 gs (.tru true)))
  case first =>
    have e0 : v1.cell? ⟨w.heap.size + 1, 0, none⟩ = some (.int .i64 day) := ST2.out.env.cell 0
    have e1 : v1.cell? ⟨w.heap.size + 1, 1, none⟩ = some (.slice a len cap) := ST2.out.env.cell 1
    have x3 : v1.cell? ⟨w.heap.size, 3, none⟩ = some (.slice (some ⟨b, o, none⟩) 2 cap') := ST2.out.ex.cell 3
    obtain ⟨u0, u1, u2, u3⟩ := H0.out
    replace u0 := cell_up u0 ST2.out.below
    replace u1 := cell_up u1 ST2.out.below
    replace u2 := cell_up u2 ST2.out.below
    replace u3 := cell_up u3 ST2.out.below
    refine wp_region_till (S := fun W => (W.cell? ⟨w.heap.size + 1, 0, none⟩ = some (.int .i64 day) ∧ W.cell? ⟨w.heap.size + 1, 1, none⟩ = some (.slice a len cap)) ∧ W.cell? ⟨w.heap.size, 3, none⟩ = some (.slice (some ⟨b, o, none⟩) 2 cap') ∧ W.cell? ⟨b, o, none⟩ = some (.int .i64 o0) ∧ W.cell? ⟨b, o + 1, none⟩ = some (.int .i64 n0) ∧ W.cell? ⟨b, o + 2, none⟩ = some (.string m0) ∧ W.cell? ⟨b, o + 3, none⟩ = some (.slice a0 l0 p0)) 7 (by kernel_rfl) ?_
    refine till_take (i := 0) (v := ?_) rfl (by kernel_rfl) (fun _ _ _ h => h) (Or.inl ⟨by rfl, ?_⟩) ⟨⟨e0,e1⟩,x3,u0,u1,u2,u3⟩ ?_
    rotate_left
    · intro W hS
      try dsimp only at hS
      go_split_ands
      go_simp
      try with_reducible rfl
    try simp only [Act.put, List.getElem_toArray, List.getElem_cons_zero, List.getElem_cons_succ, List.setIfInBounds_toArray, List.set_cons_zero, List.set_cons_succ]
    refine till_take (i := 1) (v := ?_) rfl (by kernel_rfl) (fun _ _ _ h => h) (Or.inl ⟨by rfl, ?_⟩) ⟨⟨e0,e1⟩,x3,u0,u1,u2,u3⟩ ?_
    rotate_left
    · intro W hS
      try dsimp only at hS
      go_split_ands
      go_simp
      try with_reducible rfl
    try simp only [Act.put, List.getElem_toArray, List.getElem_cons_zero, List.getElem_cons_succ, List.setIfInBounds_toArray, List.set_cons_zero, List.set_cons_succ]
    refine till_take (i := 2) (v := ?_) rfl (by kernel_rfl) (fun _ _ _ h => h) (Or.inl ⟨by rfl, ?_⟩) ⟨⟨e0,e1⟩,x3,u0,u1,u2,u3⟩ ?_
    rotate_left
    · intro W hS
      try dsimp only at hS
      go_split_ands
      go_simp
      try with_reducible rfl
    try simp only [Act.put, List.getElem_toArray, List.getElem_cons_zero, List.getElem_cons_succ, List.setIfInBounds_toArray, List.set_cons_zero, List.set_cons_succ]
    refine till_take (i := 3) (v := ?_) rfl (by kernel_rfl) (fun _ _ _ h => h) (Or.inl ⟨by rfl, ?_⟩) ⟨⟨e0,e1⟩,x3,u0,u1,u2,u3⟩ ?_
    rotate_left
    · intro W hS
      try dsimp only at hS
      go_split_ands
      go_simp
      try with_reducible rfl
    try simp only [Act.put, List.getElem_toArray, List.getElem_cons_zero, List.getElem_cons_succ, List.setIfInBounds_toArray, List.set_cons_zero, List.set_cons_succ]
    refine till_take (i := 4) (v := ?_) rfl (by kernel_rfl) (fun _ _ _ h => h) (Or.inl ⟨by rfl, ?_⟩) ⟨⟨e0,e1⟩,x3,u0,u1,u2,u3⟩ ?_
    rotate_left
    · intro W hS
      try dsimp only at hS
      go_split_ands
      go_simp
      try with_reducible rfl
    try simp only [Act.put, List.getElem_toArray, List.getElem_cons_zero, List.getElem_cons_succ, List.setIfInBounds_toArray, List.set_cons_zero, List.set_cons_succ]
    refine till_two (i := 5) (j := 6) (by kernel_rfl) rfl rfl (fun K' hK => ?_) (fun K' hK => ?_)
    · go_simp
      go_at_call 39
      (with_reducible refine (RvC.run HCA.out _ ST2.out.below.drew).mono ?_)
      rintro y w1 ⟨hy, b1⟩
      unfold RetW at hy
      subst hy
      have hd := (Below.refl v1.heap.size v1).drew
      have ST1 := Lib.hid ((ST2.out.up hd).up b1)
      have bt := hd.trans (b1.mono hd.size)
      have GG := Lib.hid ((VS.out.up hd).up b1)
      replace e0 := cell_up e0 bt
      replace e1 := cell_up e1 bt
      replace x3 := cell_up x3 bt
      replace u0 := cell_up u0 bt
      replace u1 := cell_up u1 bt
      replace u2 := cell_up u2 bt
      replace u3 := cell_up u3 bt
      refine hK _ _ ⟨⟨e0,e1⟩,x3,u0,u1,u2,u3⟩ ?_
      clear hK K' b1 hd bt
      try simp only [Act.put, List.getElem_toArray, List.getElem_cons_zero, List.getElem_cons_succ, List.setIfInBounds_toArray, List.set_cons_zero, List.set_cons_succ]
      refine till_one (i := 6) (by kernel_rfl) rfl (fun K' hK => ?_)
      go_simp
      have bn := (Below.refl w1.heap.size w1).alloc (Nat.le_refl _) (.cells #[.string ⟨#[]⟩, .int .i64 0] 69)
      have ST2 := Lib.hid (ST1.out.up bn)
      have BZ := Lib.hid (Mem.Blk.new w1 69 #[.string ⟨#[]⟩, .int .i64 0])
      have HZ := Lib.hid ST1.out.lt
      have HP := Lib.hid (And.intro (GG.out.up bn) (Nat.ne_of_lt GG.out.blk.lt))
      refine hK _ _ ⟨⟨cell_up e0 bn, cell_up e1 bn⟩, cell_up x3 bn, cell_up u0 bn, cell_up u1 bn, cell_up u2 bn, cell_up u3 bn⟩ ?_
      clear hK K' bn ST1 e0 e1 x3 u0 u1 u2 u3 GG
      generalize w1.alloc (.cells #[.string ⟨#[]⟩, .int .i64 0] 69) = w2 at *
      generalize w1.heap.size = z at *
      try simp only [Act.put, List.getElem_toArray, List.getElem_cons_zero, List.getElem_cons_succ, List.setIfInBounds_toArray, List.set_cons_zero, List.set_cons_succ]
      obtain ⟨t0, t1, t2, t3⟩ := BZ.out.two
      have hm := BZ.out.lt
      refine till_last (by kernel_rfl) rfl (by kernel_rfl) (fun K' hK => ?_)
      go_simp
      have HS9 := Lib.hid (ST2.out.far2 HZ.out (.string (wd A)) (.int .i64 A.N))
      have HV9 := Lib.hid (RvV.mk (v := A) HZ.out ((BZ.out.set_ 0 (.string (wd A))).set_ 1 (.int .i64 A.N)))
      refine hK _ _ ?_
      clear hK K'
      try simp only [Act.put, List.getElem_toArray, List.getElem_cons_zero, List.getElem_cons_succ, List.setIfInBounds_toArray, List.set_cons_zero, List.set_cons_succ]
      refine wpAny_done (by kernel_rfl) ?_ _
      go_wp2_with fail
      go_meet
      case rel => exact ⟨z, rfl, HS9.out, HV9.out, HP.out.1.far2 HP.out.2 _ _⟩
    · go_simp
      have bn := below_new v1 (.cells #[.string ⟨#[]⟩, .int .i64 0] 69)
      have ST1 := Lib.hid (ST2.out.up bn)
      have BZ1 := Lib.hid (Mem.Blk.new v1 69 #[.string ⟨#[]⟩, .int .i64 0]).drew
      have HZ := Lib.hid ST2.out.lt
      have HQ := Lib.hid (And.intro (VS.out.up bn) (Nat.ne_of_lt VS.out.blk.lt))
      replace e0 := cell_up e0 bn
      replace e1 := cell_up e1 bn
      replace x3 := cell_up x3 bn
      replace u0 := cell_up u0 bn
      replace u1 := cell_up u1 bn
      replace u2 := cell_up u2 bn
      replace u3 := cell_up u3 bn
      refine hK _ _ ⟨⟨e0,e1⟩,x3,u0,u1,u2,u3⟩ ?_
      clear hK K' bn
      generalize (v1.alloc (.cells #[.string ⟨#[]⟩, .int .i64 0] 69)).drew = w1 at *
      generalize v1.heap.size = z at *
      try simp only [Act.put, List.getElem_toArray, List.getElem_cons_zero, List.getElem_cons_succ, List.setIfInBounds_toArray, List.set_cons_zero, List.set_cons_succ]
      refine till_one (i := 5) (by kernel_rfl) rfl (fun K' hK => ?_)
      go_simp
      go_at_call 39
      (with_reducible refine (RvC.run HCA.out _ ST1.out.below).mono ?_)
      rintro y w2 ⟨hy, b1⟩
      unfold RetW at hy
      subst hy
      have ST2 := Lib.hid (ST1.out.up b1)
      have BZ := Lib.hid (BZ1.out.below b1)
      have HP := Lib.hid (And.intro (HQ.out.1.up b1) HQ.out.2)
      refine hK _ _ ⟨⟨cell_up e0 b1, cell_up e1 b1⟩, cell_up x3 b1, cell_up u0 b1, cell_up u1 b1, cell_up u2 b1, cell_up u3 b1⟩ ?_
      clear hK K' b1 ST1 BZ1 e0 e1 x3 u0 u1 u2 u3 HQ
      try simp only [Act.put, List.getElem_toArray, List.getElem_cons_zero, List.getElem_cons_succ, List.setIfInBounds_toArray, List.set_cons_zero, List.set_cons_succ]
      obtain ⟨t0, t1, t2, t3⟩ := BZ.out.two
      have hm := BZ.out.lt
      refine till_last (by kernel_rfl) rfl (by kernel_rfl) (fun K' hK => ?_)
      go_simp
      have HS9 := Lib.hid (ST2.out.far2 HZ.out (.string (wd A)) (.int .i64 A.N))
      have HV9 := Lib.hid (RvV.mk (v := A) HZ.out ((BZ.out.set_ 0 (.string (wd A))).set_ 1 (.int .i64 A.N)))
      refine hK _ _ ?_
      clear hK K'
      try simp only [Act.put, List.getElem_toArray, List.getElem_cons_zero, List.getElem_cons_succ, List.setIfInBounds_toArray, List.set_cons_zero, List.set_cons_succ]
      refine wpAny_done (by kernel_rfl) ?_ _
      go_wp2_with fail
      go_meet
      case rel => exact ⟨z, rfl, HS9.out, HV9.out, HP.out.1.far2 HP.out.2 _ _⟩
  obtain ⟨g, rfl, ST0, VA, VS0⟩ := hcut
  obtain ⟨W0, rfl⟩ : ∃ W : World, W = wc := ⟨_, rfl⟩
  clear ST2 VS
  have st0 : W0.cell? ⟨gs, 0, none⟩ = some (.string ⟨#[116]⟩) := VS0.out.blk.cell 0
  have st1 : W0.cell? ⟨gs, 1, none⟩ = some (.int .i64 0) := VS0.out.blk.cell 1
  rcases HTA.out with rfl | rfl | ⟨t, rfl⟩
  · have HR1 : Hid (R = if B = .brk ∨ B = .tru true then B else .unk) := by rw [HR.out]; simp [Hid]
    clear HR
    have t0 : W0.cell? ⟨g, 0, none⟩ = some (.string ⟨#[63]⟩) := VA.out.blk.cell 0
    have t1 : W0.cell? ⟨g, 1, none⟩ = some (.int .i64 0) := VA.out.blk.cell 1
    go_wp2_with fail
    clear t0 t1 st0 st1
    go_cut [7] (fun p W1 => ∃ g1, p = .pointer (some ⟨g1, 0, none⟩) ∧ Hid (RvSt w W1 day a len cap 18 n nm (some ⟨b, o, none⟩) 2 cap') ∧ Hid (RvV w W1 g1 B) ∧ Hid (RvV w W1 gs (.tru true)) ∧ Hid (RvV w W1 g .unk))
    case first =>
      have e0 : W0.cell? ⟨w.heap.size + 1, 0, none⟩ = some (.int .i64 day) := ST0.out.env.cell 0
      have e1 : W0.cell? ⟨w.heap.size + 1, 1, none⟩ = some (.slice a len cap) := ST0.out.env.cell 1
      have x3 : W0.cell? ⟨w.heap.size, 3, none⟩ = some (.slice (some ⟨b, o, none⟩) 2 cap') := ST0.out.ex.cell 3
      obtain ⟨u0, u1, u2, u3⟩ := H1.out
      replace u0 := cell_up u0 ST0.out.below
      replace u1 := cell_up u1 ST0.out.below
      replace u2 := cell_up u2 ST0.out.below
      replace u3 := cell_up u3 ST0.out.below
      refine wp_region_till (S := fun W => (W.cell? ⟨w.heap.size + 1, 0, none⟩ = some (.int .i64 day) ∧ W.cell? ⟨w.heap.size + 1, 1, none⟩ = some (.slice a len cap)) ∧ W.cell? ⟨w.heap.size, 3, none⟩ = some (.slice (some ⟨b, o, none⟩) 2 cap') ∧ W.cell? ⟨b, o + 4, none⟩ = some (.int .i64 o1) ∧ W.cell? ⟨b, o + 4 + 1, none⟩ = some (.int .i64 n1) ∧ W.cell? ⟨b, o + 4 + 2, none⟩ = some (.string m1) ∧ W.cell? ⟨b, o + 4 + 3, none⟩ = some (.slice a1 l1 p1)) 7 (by kernel_rfl) ?_
      refine till_take (i := 0) (v := ?_) rfl (by kernel_rfl) (fun _ _ _ h => h) (Or.inl ⟨by rfl, ?_⟩) ⟨⟨e0,e1⟩,x3,u0,u1,u2,u3⟩ ?_
      rotate_left
      · intro W hS
        try dsimp only at hS
        go_split_ands
        go_simp
        try with_reducible rfl
      try simp only [Act.put, List.getElem_toArray, List.getElem_cons_zero, List.getElem_cons_succ, List.setIfInBounds_toArray, List.set_cons_zero, List.set_cons_succ]
      refine till_take (i := 1) (v := ?_) rfl (by kernel_rfl) (fun _ _ _ h => h) (Or.inl ⟨by rfl, ?_⟩) ⟨⟨e0,e1⟩,x3,u0,u1,u2,u3⟩ ?_
      rotate_left
      · intro W hS
        try dsimp only at hS
        go_split_ands
        go_simp
        try with_reducible rfl
      try simp only [Act.put, List.getElem_toArray, List.getElem_cons_zero, List.getElem_cons_succ, List.setIfInBounds_toArray, List.set_cons_zero, List.set_cons_succ]
      refine till_take (i := 2) (v := ?_) rfl (by kernel_rfl) (fun _ _ _ h => h) (Or.inl ⟨by rfl, ?_⟩) ⟨⟨e0,e1⟩,x3,u0,u1,u2,u3⟩ ?_
      rotate_left
      · intro W hS
        try dsimp only at hS
        go_split_ands
        go_simp
        try with_reducible rfl
      try simp only [Act.put, List.getElem_toArray, List.getElem_cons_zero, List.getElem_cons_succ, List.setIfInBounds_toArray, List.set_cons_zero, List.set_cons_succ]
      refine till_take (i := 3) (v := ?_) rfl (by kernel_rfl) (fun _ _ _ h => h) (Or.inl ⟨by rfl, ?_⟩) ⟨⟨e0,e1⟩,x3,u0,u1,u2,u3⟩ ?_
      rotate_left
      · intro W hS
        try dsimp only at hS
        go_split_ands
        go_simp
        try with_reducible rfl
      try simp only [Act.put, List.getElem_toArray, List.getElem_cons_zero, List.getElem_cons_succ, List.setIfInBounds_toArray, List.set_cons_zero, List.set_cons_succ]
      refine till_take (i := 4) (v := ?_) rfl (by kernel_rfl) (fun _ _ _ h => h) (Or.inl ⟨by rfl, ?_⟩) ⟨⟨e0,e1⟩,x3,u0,u1,u2,u3⟩ ?_
      rotate_left
      · intro W hS
        try dsimp only at hS
        go_split_ands
        go_simp
        try with_reducible rfl
      try simp only [Act.put, List.getElem_toArray, List.getElem_cons_zero, List.getElem_cons_succ, List.setIfInBounds_toArray, List.set_cons_zero, List.set_cons_succ]
      refine till_two (i := 5) (j := 6) (by kernel_rfl) rfl rfl (fun K' hK => ?_) (fun K' hK => ?_)
      · go_simp
        go_at_call 39
        (with_reducible refine (RvC.run HCB.out _ ST0.out.below.drew).mono ?_)
        rintro y w1 ⟨hy, b1⟩
        unfold RetW at hy
        subst hy
        have hd := (Below.refl W0.heap.size W0).drew
        have ST1 := Lib.hid ((ST0.out.up hd).up b1)
        have bt := hd.trans (b1.mono hd.size)
        have GG := Lib.hid (And.intro ((VS0.out.up hd).up b1) ((VA.out.up hd).up b1))
        replace e0 := cell_up e0 bt
        replace e1 := cell_up e1 bt
        replace x3 := cell_up x3 bt
        replace u0 := cell_up u0 bt
        replace u1 := cell_up u1 bt
        replace u2 := cell_up u2 bt
        replace u3 := cell_up u3 bt
        refine hK _ _ ⟨⟨e0,e1⟩,x3,u0,u1,u2,u3⟩ ?_
        clear hK K' b1 hd bt
        try simp only [Act.put, List.getElem_toArray, List.getElem_cons_zero, List.getElem_cons_succ, List.setIfInBounds_toArray, List.set_cons_zero, List.set_cons_succ]
        refine till_one (i := 6) (by kernel_rfl) rfl (fun K' hK => ?_)
        go_simp
        have bn := (Below.refl w1.heap.size w1).alloc (Nat.le_refl _) (.cells #[.string ⟨#[]⟩, .int .i64 0] 69)
        have ST2 := Lib.hid (ST1.out.up bn)
        have BZ := Lib.hid (Mem.Blk.new w1 69 #[.string ⟨#[]⟩, .int .i64 0])
        have HZ := Lib.hid ST1.out.lt
        have HP := Lib.hid (And.intro (And.intro (GG.out.1.up bn) (Nat.ne_of_lt GG.out.1.blk.lt)) (And.intro (GG.out.2.up bn) (Nat.ne_of_lt GG.out.2.blk.lt)))
        refine hK _ _ ⟨⟨cell_up e0 bn, cell_up e1 bn⟩, cell_up x3 bn, cell_up u0 bn, cell_up u1 bn, cell_up u2 bn, cell_up u3 bn⟩ ?_
        clear hK K' bn ST1 e0 e1 x3 u0 u1 u2 u3 GG
        generalize w1.alloc (.cells #[.string ⟨#[]⟩, .int .i64 0] 69) = w2 at *
        generalize w1.heap.size = z at *
        try simp only [Act.put, List.getElem_toArray, List.getElem_cons_zero, List.getElem_cons_succ, List.setIfInBounds_toArray, List.set_cons_zero, List.set_cons_succ]
        obtain ⟨t0, t1, t2, t3⟩ := BZ.out.two
        have hm := BZ.out.lt
        refine till_last (by kernel_rfl) rfl (by kernel_rfl) (fun K' hK => ?_)
        go_simp
        have HS9 := Lib.hid (ST2.out.far2 HZ.out (.string (wd B)) (.int .i64 B.N))
        have HV9 := Lib.hid (RvV.mk (v := B) HZ.out ((BZ.out.set_ 0 (.string (wd B))).set_ 1 (.int .i64 B.N)))
        refine hK _ _ ?_
        clear hK K'
        try simp only [Act.put, List.getElem_toArray, List.getElem_cons_zero, List.getElem_cons_succ, List.setIfInBounds_toArray, List.set_cons_zero, List.set_cons_succ]
        refine wpAny_done (by kernel_rfl) ?_ _
        go_wp2_with fail
        go_meet
        case rel => exact ⟨z, rfl, HS9.out, HV9.out, HP.out.1.1.far2 HP.out.1.2 _ _, HP.out.2.1.far2 HP.out.2.2 _ _⟩
      · go_simp
        have bn := below_new W0 (.cells #[.string ⟨#[]⟩, .int .i64 0] 69)
        have ST1 := Lib.hid (ST0.out.up bn)
        have BZ1 := Lib.hid (Mem.Blk.new W0 69 #[.string ⟨#[]⟩, .int .i64 0]).drew
        have HZ := Lib.hid ST0.out.lt
        have HQ := Lib.hid (And.intro (And.intro (VS0.out.up bn) (Nat.ne_of_lt VS0.out.blk.lt)) (And.intro (VA.out.up bn) (Nat.ne_of_lt VA.out.blk.lt)))
        replace e0 := cell_up e0 bn
        replace e1 := cell_up e1 bn
        replace x3 := cell_up x3 bn
        replace u0 := cell_up u0 bn
        replace u1 := cell_up u1 bn
        replace u2 := cell_up u2 bn
        replace u3 := cell_up u3 bn
        refine hK _ _ ⟨⟨e0,e1⟩,x3,u0,u1,u2,u3⟩ ?_
        clear hK K' bn
        generalize (W0.alloc (.cells #[.string ⟨#[]⟩, .int .i64 0] 69)).drew = w1 at *
        generalize W0.heap.size = z at *
        try simp only [Act.put, List.getElem_toArray, List.getElem_cons_zero, List.getElem_cons_succ, List.setIfInBounds_toArray, List.set_cons_zero, List.set_cons_succ]
        refine till_one (i := 5) (by kernel_rfl) rfl (fun K' hK => ?_)
        go_simp
        go_at_call 39
        (with_reducible refine (RvC.run HCB.out _ ST1.out.below).mono ?_)
        rintro y w2 ⟨hy, b1⟩
        unfold RetW at hy
        subst hy
        have ST2 := Lib.hid (ST1.out.up b1)
        have BZ := Lib.hid (BZ1.out.below b1)
        have HP := Lib.hid (And.intro (And.intro (HQ.out.1.1.up b1) HQ.out.1.2) (And.intro (HQ.out.2.1.up b1) HQ.out.2.2))
        refine hK _ _ ⟨⟨cell_up e0 b1, cell_up e1 b1⟩, cell_up x3 b1, cell_up u0 b1, cell_up u1 b1, cell_up u2 b1, cell_up u3 b1⟩ ?_
        clear hK K' b1 ST1 BZ1 e0 e1 x3 u0 u1 u2 u3 HQ
        try simp only [Act.put, List.getElem_toArray, List.getElem_cons_zero, List.getElem_cons_succ, List.setIfInBounds_toArray, List.set_cons_zero, List.set_cons_succ]
        obtain ⟨t0, t1, t2, t3⟩ := BZ.out.two
        have hm := BZ.out.lt
        refine till_last (by kernel_rfl) rfl (by kernel_rfl) (fun K' hK => ?_)
        go_simp
        have HS9 := Lib.hid (ST2.out.far2 HZ.out (.string (wd B)) (.int .i64 B.N))
        have HV9 := Lib.hid (RvV.mk (v := B) HZ.out ((BZ.out.set_ 0 (.string (wd B))).set_ 1 (.int .i64 B.N)))
        refine hK _ _ ?_
        clear hK K'
        try simp only [Act.put, List.getElem_toArray, List.getElem_cons_zero, List.getElem_cons_succ, List.setIfInBounds_toArray, List.set_cons_zero, List.set_cons_succ]
        refine wpAny_done (by kernel_rfl) ?_ _
        go_wp2_with fail
        go_meet
        case rel => exact ⟨z, rfl, HS9.out, HV9.out, HP.out.1.1.far2 HP.out.1.2 _ _, HP.out.2.1.far2 HP.out.2.2 _ _⟩
    obtain ⟨g1, rfl, ST3, VB, VS1, VA1⟩ := hcut
    obtain ⟨W1, rfl⟩ : ∃ W : World, W = wc := ⟨_, rfl⟩
    clear ST0 VA VS0 HCA HCB
    have st0 : W1.cell? ⟨gs, 0, none⟩ = some (.string ⟨#[116]⟩) := VS1.out.blk.cell 0
    have st1 : W1.cell? ⟨gs, 1, none⟩ = some (.int .i64 0) := VS1.out.blk.cell 1
    have t0 : W1.cell? ⟨g, 0, none⟩ = some (.string ⟨#[63]⟩) := VA1.out.blk.cell 0
    have t1 : W1.cell? ⟨g, 1, none⟩ = some (.int .i64 0) := VA1.out.blk.cell 1
    rcases HTB.out with rfl | rfl | ⟨t', rfl⟩
    · obtain rfl : R = .unk := by rw [HR1.out]; simp
      have xt0 : W1.cell? ⟨g1, 0, none⟩ = some (.string ⟨#[63]⟩) := VB.out.blk.cell 0
      have xt1 : W1.cell? ⟨g1, 1, none⟩ = some (.int .i64 0) := VB.out.blk.cell 1
      obtain ⟨q0, q1, q2, q3⟩ := ST3.out.res.two
      have hm := ST3.out.lt
      have HFN : Hid (Below w.heap.size w ((W1.setCell ⟨w.heap.size + 1 + 1, 0, none⟩ (.string ⟨#[63]⟩)).setCell ⟨w.heap.size + 1 + 1, 1, none⟩ (.int .i64 0)) ∧ Mem.Blk ((W1.setCell ⟨w.heap.size + 1 + 1, 0, none⟩ (.string ⟨#[63]⟩)).setCell ⟨w.heap.size + 1 + 1, 1, none⟩ (.int .i64 0)) (w.heap.size + 1 + 1) 69 #[.string ⟨#[63]⟩, .int .i64 0]) := ⟨(ST3.out.below.setCell (by show w.heap.size ≤ w.heap.size + 1 + 1; omega) _).setCell (by show w.heap.size ≤ w.heap.size + 1 + 1; omega) _, (ST3.out.res.set_ 0 _).set_ 1 _⟩
      go_wp2_with fail
      generalize (W1.setCell ⟨w.heap.size + 1 + 1, 0, none⟩ (.string ⟨#[63]⟩)).setCell ⟨w.heap.size + 1 + 1, 1, none⟩ (.int .i64 0) = W9 at *
      obtain ⟨r0, r1, -, -⟩ := HFN.out.2.two
      refine bodyPost_ret (v := .agg #[.string ⟨#[63]⟩, .int .i64 0]) (by simp [results, Try.results39, go_sem, r0, r1]) rfl ⟨rfl, HFN.out.1⟩
    · obtain rfl : R = .brk := by rw [HR1.out]; simp
      have xt0 : W1.cell? ⟨g1, 0, none⟩ = some (.string ⟨#[33]⟩) := VB.out.blk.cell 0
      have xt1 : W1.cell? ⟨g1, 1, none⟩ = some (.int .i64 0) := VB.out.blk.cell 1
      obtain ⟨q0, q1, q2, q3⟩ := ST3.out.res.two
      have hm := ST3.out.lt
      have HFN : Hid (Below w.heap.size w ((W1.setCell ⟨w.heap.size + 1 + 1, 0, none⟩ (.string ⟨#[33]⟩)).setCell ⟨w.heap.size + 1 + 1, 1, none⟩ (.int .i64 0)) ∧ Mem.Blk ((W1.setCell ⟨w.heap.size + 1 + 1, 0, none⟩ (.string ⟨#[33]⟩)).setCell ⟨w.heap.size + 1 + 1, 1, none⟩ (.int .i64 0)) (w.heap.size + 1 + 1) 69 #[.string ⟨#[33]⟩, .int .i64 0]) := ⟨(ST3.out.below.setCell (by show w.heap.size ≤ w.heap.size + 1 + 1; omega) _).setCell (by show w.heap.size ≤ w.heap.size + 1 + 1; omega) _, (ST3.out.res.set_ 0 _).set_ 1 _⟩
      go_wp2_with fail
      generalize (W1.setCell ⟨w.heap.size + 1 + 1, 0, none⟩ (.string ⟨#[33]⟩)).setCell ⟨w.heap.size + 1 + 1, 1, none⟩ (.int .i64 0) = W9 at *
      obtain ⟨r0, r1, -, -⟩ := HFN.out.2.two
      refine bodyPost_ret (v := .agg #[.string ⟨#[33]⟩, .int .i64 0]) (by simp [results, Try.results39, go_sem, r0, r1]) rfl ⟨rfl, HFN.out.1⟩
    · by_cases ht : t' = true
      · subst ht
        obtain rfl : R = .tru true := by rw [HR1.out]; simp
        have xt0 : W1.cell? ⟨g1, 0, none⟩ = some (.string ⟨#[116]⟩) := VB.out.blk.cell 0
        have xt1 : W1.cell? ⟨g1, 1, none⟩ = some (.int .i64 0) := VB.out.blk.cell 1
        obtain ⟨q0, q1, q2, q3⟩ := ST3.out.res.two
        have hm := ST3.out.lt
        have HFN : Hid (Below w.heap.size w ((W1.setCell ⟨w.heap.size + 1 + 1, 0, none⟩ (.string ⟨#[116]⟩)).setCell ⟨w.heap.size + 1 + 1, 1, none⟩ (.int .i64 0)) ∧ Mem.Blk ((W1.setCell ⟨w.heap.size + 1 + 1, 0, none⟩ (.string ⟨#[116]⟩)).setCell ⟨w.heap.size + 1 + 1, 1, none⟩ (.int .i64 0)) (w.heap.size + 1 + 1) 69 #[.string ⟨#[116]⟩, .int .i64 0]) := ⟨(ST3.out.below.setCell (by show w.heap.size ≤ w.heap.size + 1 + 1; omega) _).setCell (by show w.heap.size ≤ w.heap.size + 1 + 1; omega) _, (ST3.out.res.set_ 0 _).set_ 1 _⟩
        go_wp2_with fail
        generalize (W1.setCell ⟨w.heap.size + 1 + 1, 0, none⟩ (.string ⟨#[116]⟩)).setCell ⟨w.heap.size + 1 + 1, 1, none⟩ (.int .i64 0) = W9 at *
        obtain ⟨r0, r1, -, -⟩ := HFN.out.2.two
        refine bodyPost_ret (v := .agg #[.string ⟨#[116]⟩, .int .i64 0]) (by simp [results, Try.results39, go_sem, r0, r1]) rfl ⟨rfl, HFN.out.1⟩
      · obtain rfl : t' = false := by cases t' <;> simp_all
        obtain rfl : R = .unk := by rw [HR1.out]; simp
        have xt0 : W1.cell? ⟨g1, 0, none⟩ = some (.string ⟨#[102]⟩) := VB.out.blk.cell 0
        have xt1 : W1.cell? ⟨g1, 1, none⟩ = some (.int .i64 0) := VB.out.blk.cell 1
        obtain ⟨q0, q1, q2, q3⟩ := ST3.out.res.two
        have hm := ST3.out.lt
        have HFN : Hid (Below w.heap.size w ((W1.setCell ⟨w.heap.size + 1 + 1, 0, none⟩ (.string ⟨#[63]⟩)).setCell ⟨w.heap.size + 1 + 1, 1, none⟩ (.int .i64 0)) ∧ Mem.Blk ((W1.setCell ⟨w.heap.size + 1 + 1, 0, none⟩ (.string ⟨#[63]⟩)).setCell ⟨w.heap.size + 1 + 1, 1, none⟩ (.int .i64 0)) (w.heap.size + 1 + 1) 69 #[.string ⟨#[63]⟩, .int .i64 0]) := ⟨(ST3.out.below.setCell (by show w.heap.size ≤ w.heap.size + 1 + 1; omega) _).setCell (by show w.heap.size ≤ w.heap.size + 1 + 1; omega) _, (ST3.out.res.set_ 0 _).set_ 1 _⟩
        go_wp2_with fail
        generalize (W1.setCell ⟨w.heap.size + 1 + 1, 0, none⟩ (.string ⟨#[63]⟩)).setCell ⟨w.heap.size + 1 + 1, 1, none⟩ (.int .i64 0) = W9 at *
        obtain ⟨r0, r1, -, -⟩ := HFN.out.2.two
        refine bodyPost_ret (v := .agg #[.string ⟨#[63]⟩, .int .i64 0]) (by simp [results, Try.results39, go_sem, r0, r1]) rfl ⟨rfl, HFN.out.1⟩
  · obtain rfl : R = .brk := by rw [HR.out]; simp
    have t0 : W0.cell? ⟨g, 0, none⟩ = some (.string ⟨#[33]⟩) := VA.out.blk.cell 0
    have t1 : W0.cell? ⟨g, 1, none⟩ = some (.int .i64 0) := VA.out.blk.cell 1
    obtain ⟨q0, q1, q2, q3⟩ := ST0.out.res.two
    have hm := ST0.out.lt
    have HFN : Hid (Below w.heap.size w ((W0.setCell ⟨w.heap.size + 1 + 1, 0, none⟩ (.string ⟨#[33]⟩)).setCell ⟨w.heap.size + 1 + 1, 1, none⟩ (.int .i64 0)) ∧ Mem.Blk ((W0.setCell ⟨w.heap.size + 1 + 1, 0, none⟩ (.string ⟨#[33]⟩)).setCell ⟨w.heap.size + 1 + 1, 1, none⟩ (.int .i64 0)) (w.heap.size + 1 + 1) 69 #[.string ⟨#[33]⟩, .int .i64 0]) := ⟨(ST0.out.below.setCell (by show w.heap.size ≤ w.heap.size + 1 + 1; omega) _).setCell (by show w.heap.size ≤ w.heap.size + 1 + 1; omega) _, (ST0.out.res.set_ 0 _).set_ 1 _⟩
    go_wp2_with fail
    generalize (W0.setCell ⟨w.heap.size + 1 + 1, 0, none⟩ (.string ⟨#[33]⟩)).setCell ⟨w.heap.size + 1 + 1, 1, none⟩ (.int .i64 0) = W9 at *
    obtain ⟨r0, r1, -, -⟩ := HFN.out.2.two
    refine bodyPost_ret (v := .agg #[.string ⟨#[33]⟩, .int .i64 0]) (by simp [results, Try.results39, go_sem, r0, r1]) rfl ⟨rfl, HFN.out.1⟩
  · by_cases ht : t = true
    · subst ht
      obtain rfl : R = .tru true := by rw [HR.out]; simp
      have t0 : W0.cell? ⟨g, 0, none⟩ = some (.string ⟨#[116]⟩) := VA.out.blk.cell 0
      have t1 : W0.cell? ⟨g, 1, none⟩ = some (.int .i64 0) := VA.out.blk.cell 1
      obtain ⟨q0, q1, q2, q3⟩ := ST0.out.res.two
      have hm := ST0.out.lt
      have HFN : Hid (Below w.heap.size w ((W0.setCell ⟨w.heap.size + 1 + 1, 0, none⟩ (.string ⟨#[116]⟩)).setCell ⟨w.heap.size + 1 + 1, 1, none⟩ (.int .i64 0)) ∧ Mem.Blk ((W0.setCell ⟨w.heap.size + 1 + 1, 0, none⟩ (.string ⟨#[116]⟩)).setCell ⟨w.heap.size + 1 + 1, 1, none⟩ (.int .i64 0)) (w.heap.size + 1 + 1) 69 #[.string ⟨#[116]⟩, .int .i64 0]) := ⟨(ST0.out.below.setCell (by show w.heap.size ≤ w.heap.size + 1 + 1; omega) _).setCell (by show w.heap.size ≤ w.heap.size + 1 + 1; omega) _, (ST0.out.res.set_ 0 _).set_ 1 _⟩
      go_wp2_with fail
      generalize (W0.setCell ⟨w.heap.size + 1 + 1, 0, none⟩ (.string ⟨#[116]⟩)).setCell ⟨w.heap.size + 1 + 1, 1, none⟩ (.int .i64 0) = W9 at *
      obtain ⟨r0, r1, -, -⟩ := HFN.out.2.two
      refine bodyPost_ret (v := .agg #[.string ⟨#[116]⟩, .int .i64 0]) (by simp [results, Try.results39, go_sem, r0, r1]) rfl ⟨rfl, HFN.out.1⟩
    · obtain rfl : t = false := by cases t <;> simp_all
      obtain rfl : R = B := by rw [HR.out]; simp
      clear HR
      have t0 : W0.cell? ⟨g, 0, none⟩ = some (.string ⟨#[102]⟩) := VA.out.blk.cell 0
      have t1 : W0.cell? ⟨g, 1, none⟩ = some (.int .i64 0) := VA.out.blk.cell 1
      go_wp2_with fail
      clear t0 t1 st0 st1
      go_cut [7] (fun p W1 => ∃ g1, p = .pointer (some ⟨g1, 0, none⟩) ∧ Hid (RvSt w W1 day a len cap 18 n nm (some ⟨b, o, none⟩) 2 cap') ∧ Hid (RvV w W1 g1 R) ∧ Hid (RvV w W1 gs (.tru true)) ∧ Hid (RvV w W1 g (.tru false)))
      case first =>
        have e0 : W0.cell? ⟨w.heap.size + 1, 0, none⟩ = some (.int .i64 day) := ST0.out.env.cell 0
        have e1 : W0.cell? ⟨w.heap.size + 1, 1, none⟩ = some (.slice a len cap) := ST0.out.env.cell 1
        have x3 : W0.cell? ⟨w.heap.size, 3, none⟩ = some (.slice (some ⟨b, o, none⟩) 2 cap') := ST0.out.ex.cell 3
        obtain ⟨u0, u1, u2, u3⟩ := H1.out
        replace u0 := cell_up u0 ST0.out.below
        replace u1 := cell_up u1 ST0.out.below
        replace u2 := cell_up u2 ST0.out.below
        replace u3 := cell_up u3 ST0.out.below
        refine wp_region_till (S := fun W => (W.cell? ⟨w.heap.size + 1, 0, none⟩ = some (.int .i64 day) ∧ W.cell? ⟨w.heap.size + 1, 1, none⟩ = some (.slice a len cap)) ∧ W.cell? ⟨w.heap.size, 3, none⟩ = some (.slice (some ⟨b, o, none⟩) 2 cap') ∧ W.cell? ⟨b, o + 4, none⟩ = some (.int .i64 o1) ∧ W.cell? ⟨b, o + 4 + 1, none⟩ = some (.int .i64 n1) ∧ W.cell? ⟨b, o + 4 + 2, none⟩ = some (.string m1) ∧ W.cell? ⟨b, o + 4 + 3, none⟩ = some (.slice a1 l1 p1)) 7 (by kernel_rfl) ?_
        refine till_take (i := 0) (v := ?_) rfl (by kernel_rfl) (fun _ _ _ h => h) (Or.inl ⟨by rfl, ?_⟩) ⟨⟨e0,e1⟩,x3,u0,u1,u2,u3⟩ ?_
        rotate_left
        · intro W hS
          try dsimp only at hS
          go_split_ands
          go_simp
          try with_reducible rfl
        try simp only [Act.put, List.getElem_toArray, List.getElem_cons_zero, List.getElem_cons_succ, List.setIfInBounds_toArray, List.set_cons_zero, List.set_cons_succ]
        refine till_take (i := 1) (v := ?_) rfl (by kernel_rfl) (fun _ _ _ h => h) (Or.inl ⟨by rfl, ?_⟩) ⟨⟨e0,e1⟩,x3,u0,u1,u2,u3⟩ ?_
        rotate_left
        · intro W hS
          try dsimp only at hS
          go_split_ands
          go_simp
          try with_reducible rfl
        try simp only [Act.put, List.getElem_toArray, List.getElem_cons_zero, List.getElem_cons_succ, List.setIfInBounds_toArray, List.set_cons_zero, List.set_cons_succ]
        refine till_take (i := 2) (v := ?_) rfl (by kernel_rfl) (fun _ _ _ h => h) (Or.inl ⟨by rfl, ?_⟩) ⟨⟨e0,e1⟩,x3,u0,u1,u2,u3⟩ ?_
        rotate_left
        · intro W hS
          try dsimp only at hS
          go_split_ands
          go_simp
          try with_reducible rfl
        try simp only [Act.put, List.getElem_toArray, List.getElem_cons_zero, List.getElem_cons_succ, List.setIfInBounds_toArray, List.set_cons_zero, List.set_cons_succ]
        refine till_take (i := 3) (v := ?_) rfl (by kernel_rfl) (fun _ _ _ h => h) (Or.inl ⟨by rfl, ?_⟩) ⟨⟨e0,e1⟩,x3,u0,u1,u2,u3⟩ ?_
        rotate_left
        · intro W hS
          try dsimp only at hS
          go_split_ands
          go_simp
          try with_reducible rfl
        try simp only [Act.put, List.getElem_toArray, List.getElem_cons_zero, List.getElem_cons_succ, List.setIfInBounds_toArray, List.set_cons_zero, List.set_cons_succ]
        refine till_take (i := 4) (v := ?_) rfl (by kernel_rfl) (fun _ _ _ h => h) (Or.inl ⟨by rfl, ?_⟩) ⟨⟨e0,e1⟩,x3,u0,u1,u2,u3⟩ ?_
        rotate_left
        · intro W hS
          try dsimp only at hS
          go_split_ands
          go_simp
          try with_reducible rfl
        try simp only [Act.put, List.getElem_toArray, List.getElem_cons_zero, List.getElem_cons_succ, List.setIfInBounds_toArray, List.set_cons_zero, List.set_cons_succ]
        refine till_two (i := 5) (j := 6) (by kernel_rfl) rfl rfl (fun K' hK => ?_) (fun K' hK => ?_)
        · go_simp
          go_at_call 39
          (with_reducible refine (RvC.run HCB.out _ ST0.out.below.drew).mono ?_)
          rintro y w1 ⟨hy, b1⟩
          unfold RetW at hy
          subst hy
          have hd := (Below.refl W0.heap.size W0).drew
          have ST1 := Lib.hid ((ST0.out.up hd).up b1)
          have bt := hd.trans (b1.mono hd.size)
          have GG := Lib.hid (And.intro ((VS0.out.up hd).up b1) ((VA.out.up hd).up b1))
          replace e0 := cell_up e0 bt
          replace e1 := cell_up e1 bt
          replace x3 := cell_up x3 bt
          replace u0 := cell_up u0 bt
          replace u1 := cell_up u1 bt
          replace u2 := cell_up u2 bt
          replace u3 := cell_up u3 bt
          refine hK _ _ ⟨⟨e0,e1⟩,x3,u0,u1,u2,u3⟩ ?_
          clear hK K' b1 hd bt
          try simp only [Act.put, List.getElem_toArray, List.getElem_cons_zero, List.getElem_cons_succ, List.setIfInBounds_toArray, List.set_cons_zero, List.set_cons_succ]
          refine till_one (i := 6) (by kernel_rfl) rfl (fun K' hK => ?_)
          go_simp
          have bn := (Below.refl w1.heap.size w1).alloc (Nat.le_refl _) (.cells #[.string ⟨#[]⟩, .int .i64 0] 69)
          have ST2 := Lib.hid (ST1.out.up bn)
          have BZ := Lib.hid (Mem.Blk.new w1 69 #[.string ⟨#[]⟩, .int .i64 0])
          have HZ := Lib.hid ST1.out.lt
          have HP := Lib.hid (And.intro (And.intro (GG.out.1.up bn) (Nat.ne_of_lt GG.out.1.blk.lt)) (And.intro (GG.out.2.up bn) (Nat.ne_of_lt GG.out.2.blk.lt)))
          refine hK _ _ ⟨⟨cell_up e0 bn, cell_up e1 bn⟩, cell_up x3 bn, cell_up u0 bn, cell_up u1 bn, cell_up u2 bn, cell_up u3 bn⟩ ?_
          clear hK K' bn ST1 e0 e1 x3 u0 u1 u2 u3 GG
          generalize w1.alloc (.cells #[.string ⟨#[]⟩, .int .i64 0] 69) = w2 at *
          generalize w1.heap.size = z at *
          try simp only [Act.put, List.getElem_toArray, List.getElem_cons_zero, List.getElem_cons_succ, List.setIfInBounds_toArray, List.set_cons_zero, List.set_cons_succ]
          obtain ⟨t0, t1, t2, t3⟩ := BZ.out.two
          have hm := BZ.out.lt
          refine till_last (by kernel_rfl) rfl (by kernel_rfl) (fun K' hK => ?_)
          go_simp
          have HS9 := Lib.hid (ST2.out.far2 HZ.out (.string (wd R)) (.int .i64 R.N))
          have HV9 := Lib.hid (RvV.mk (v := R) HZ.out ((BZ.out.set_ 0 (.string (wd R))).set_ 1 (.int .i64 R.N)))
          refine hK _ _ ?_
          clear hK K'
          try simp only [Act.put, List.getElem_toArray, List.getElem_cons_zero, List.getElem_cons_succ, List.setIfInBounds_toArray, List.set_cons_zero, List.set_cons_succ]
          refine wpAny_done (by kernel_rfl) ?_ _
          go_wp2_with fail
          go_meet
          case rel => exact ⟨z, rfl, HS9.out, HV9.out, HP.out.1.1.far2 HP.out.1.2 _ _, HP.out.2.1.far2 HP.out.2.2 _ _⟩
        · go_simp
          have bn := below_new W0 (.cells #[.string ⟨#[]⟩, .int .i64 0] 69)
          have ST1 := Lib.hid (ST0.out.up bn)
          have BZ1 := Lib.hid (Mem.Blk.new W0 69 #[.string ⟨#[]⟩, .int .i64 0]).drew
          have HZ := Lib.hid ST0.out.lt
          have HQ := Lib.hid (And.intro (And.intro (VS0.out.up bn) (Nat.ne_of_lt VS0.out.blk.lt)) (And.intro (VA.out.up bn) (Nat.ne_of_lt VA.out.blk.lt)))
          replace e0 := cell_up e0 bn
          replace e1 := cell_up e1 bn
          replace x3 := cell_up x3 bn
          replace u0 := cell_up u0 bn
          replace u1 := cell_up u1 bn
          replace u2 := cell_up u2 bn
          replace u3 := cell_up u3 bn
          refine hK _ _ ⟨⟨e0,e1⟩,x3,u0,u1,u2,u3⟩ ?_
          clear hK K' bn
          generalize (W0.alloc (.cells #[.string ⟨#[]⟩, .int .i64 0] 69)).drew = w1 at *
          generalize W0.heap.size = z at *
          try simp only [Act.put, List.getElem_toArray, List.getElem_cons_zero, List.getElem_cons_succ, List.setIfInBounds_toArray, List.set_cons_zero, List.set_cons_succ]
          refine till_one (i := 5) (by kernel_rfl) rfl (fun K' hK => ?_)
          go_simp
          go_at_call 39
          (with_reducible refine (RvC.run HCB.out _ ST1.out.below).mono ?_)
          rintro y w2 ⟨hy, b1⟩
          unfold RetW at hy
          subst hy
          have ST2 := Lib.hid (ST1.out.up b1)
          have BZ := Lib.hid (BZ1.out.below b1)
          have HP := Lib.hid (And.intro (And.intro (HQ.out.1.1.up b1) HQ.out.1.2) (And.intro (HQ.out.2.1.up b1) HQ.out.2.2))
          refine hK _ _ ⟨⟨cell_up e0 b1, cell_up e1 b1⟩, cell_up x3 b1, cell_up u0 b1, cell_up u1 b1, cell_up u2 b1, cell_up u3 b1⟩ ?_
          clear hK K' b1 ST1 BZ1 e0 e1 x3 u0 u1 u2 u3 HQ
          try simp only [Act.put, List.getElem_toArray, List.getElem_cons_zero, List.getElem_cons_succ, List.setIfInBounds_toArray, List.set_cons_zero, List.set_cons_succ]
          obtain ⟨t0, t1, t2, t3⟩ := BZ.out.two
          have hm := BZ.out.lt
          refine till_last (by kernel_rfl) rfl (by kernel_rfl) (fun K' hK => ?_)
          go_simp
          have HS9 := Lib.hid (ST2.out.far2 HZ.out (.string (wd R)) (.int .i64 R.N))
          have HV9 := Lib.hid (RvV.mk (v := R) HZ.out ((BZ.out.set_ 0 (.string (wd R))).set_ 1 (.int .i64 R.N)))
          refine hK _ _ ?_
          clear hK K'
          try simp only [Act.put, List.getElem_toArray, List.getElem_cons_zero, List.getElem_cons_succ, List.setIfInBounds_toArray, List.set_cons_zero, List.set_cons_succ]
          refine wpAny_done (by kernel_rfl) ?_ _
          go_wp2_with fail
          go_meet
          case rel => exact ⟨z, rfl, HS9.out, HV9.out, HP.out.1.1.far2 HP.out.1.2 _ _, HP.out.2.1.far2 HP.out.2.2 _ _⟩
      obtain ⟨g1, rfl, ST3, VB, VS1, VA1⟩ := hcut
      obtain ⟨W1, rfl⟩ : ∃ W : World, W = wc := ⟨_, rfl⟩
      clear ST0 VA VS0 HCA HCB
      have st0 : W1.cell? ⟨gs, 0, none⟩ = some (.string ⟨#[116]⟩) := VS1.out.blk.cell 0
      have st1 : W1.cell? ⟨gs, 1, none⟩ = some (.int .i64 0) := VS1.out.blk.cell 1
      have t0 : W1.cell? ⟨g, 0, none⟩ = some (.string ⟨#[102]⟩) := VA1.out.blk.cell 0
      have t1 : W1.cell? ⟨g, 1, none⟩ = some (.int .i64 0) := VA1.out.blk.cell 1
      have HP : Hid (RetW R (.returned (.agg #[.string (wd R), .int .i64 R.N]))) := rfl
      have xt0 : W1.cell? ⟨g1, 0, none⟩ = some (.string (wd R)) := VB.out.blk.cell 0
      have xt1 : W1.cell? ⟨g1, 1, none⟩ = some (.int .i64 R.N) := VB.out.blk.cell 1
      clear HTB HTA
      generalize wd R = rk at *
      generalize R.N = rn at *
      obtain ⟨q0, q1, q2, q3⟩ := ST3.out.res.two
      have hm := ST3.out.lt
      have HFN : Hid (Below w.heap.size w ((W1.setCell ⟨w.heap.size + 1 + 1, 0, none⟩ (.string rk)).setCell ⟨w.heap.size + 1 + 1, 1, none⟩ (.int .i64 rn)) ∧ Mem.Blk ((W1.setCell ⟨w.heap.size + 1 + 1, 0, none⟩ (.string rk)).setCell ⟨w.heap.size + 1 + 1, 1, none⟩ (.int .i64 rn)) (w.heap.size + 1 + 1) 69 #[.string rk, .int .i64 rn]) := ⟨(ST3.out.below.setCell (by show w.heap.size ≤ w.heap.size + 1 + 1; omega) _).setCell (by show w.heap.size ≤ w.heap.size + 1 + 1; omega) _, (ST3.out.res.set_ 0 _).set_ 1 _⟩
      go_wp2_with fail
      generalize (W1.setCell ⟨w.heap.size + 1 + 1, 0, none⟩ (.string rk)).setCell ⟨w.heap.size + 1 + 1, 1, none⟩ (.int .i64 rn) = W9 at *
      obtain ⟨r0, r1, -, -⟩ := HFN.out.2.two
      refine bodyPost_ret (v := .agg #[.string rk, .int .i64 rn]) (by simp [results, Try.results39, go_sem, r0, r1]) rfl ⟨HP.out, HFN.out.1⟩
end Go.Proofs.Ytppnmeobnilojaa

/- Numbers by their digits to the base 65536: plain arithmetic, no program in sight. -/
namespace Go.Big
/-- digits to the base 65536, the lowest first -/
def val : List Nat → Nat
  | [] => 0
  | d :: l => d + 65536 * val l
def Dig (l : List Nat) : Prop := ∀ d ∈ l, d < 65536
def Norm (l : List Nat) : Prop := Dig l ∧ (∀ d, l.getLast? = some d → d ≠ 0)
def pw (k : Nat) : Nat := 65536 ^ k
theorem pw_succ (k : Nat) : pw (k + 1) = 65536 * pw k := by unfold pw; rw [Nat.pow_succ, Nat.mul_comm]
theorem pw_zero : pw 0 = 1 := rfl
theorem pw_pos (k : Nat) : 0 < pw k := Nat.pow_pos (by omega)
theorem pw_add (a b : Nat) : pw (a + b) = pw a * pw b := Nat.pow_add _ _ _
theorem pw_mono {a b : Nat} (h : a ≤ b) : pw a ≤ pw b := Nat.pow_le_pow_right (by omega) h
theorem Dig.nil : Dig [] := by intro d h; cases h
theorem Dig.append {a b : List Nat} (ha : Dig a) (hb : Dig b) : Dig (a ++ b) := by
  intro d h; rcases List.mem_append.1 h with h | h
  · exact ha d h
  · exact hb d h
theorem Dig.take {a : List Nat} (ha : Dig a) (k : Nat) : Dig (a.take k) := fun d h => ha d (List.mem_of_mem_take h)
theorem Dig.drop {a : List Nat} (ha : Dig a) (k : Nat) : Dig (a.drop k) := fun d h => ha d (List.mem_of_mem_drop h)
theorem Dig.getD {a : List Nat} (ha : Dig a) (k : Nat) : a.getD k 0 < 65536 := by
  rw [List.getD_eq_getElem?_getD]
  cases h : a[k]? with
  | none => simp
  | some d => exact ha d (List.mem_of_getElem? h)
theorem val_append (a b : List Nat) : val (a ++ b) = val a + pw a.length * val b := by
  induction a with
  | nil => simp [val, pw]
  | cons d l ih => simp only [List.cons_append, val, ih, List.length_cons, pw_succ]; rw [Nat.mul_add, Nat.mul_assoc, Nat.add_assoc]
theorem val_snoc (a : List Nat) (d : Nat) : val (a ++ [d]) = val a + d * pw a.length := by
  rw [val_append]; simp [val, Nat.mul_comm]
theorem val_lt {a : List Nat} (h : Dig a) : val a < pw a.length := by
  induction a with
  | nil => simp [val, pw]
  | cons d l ih =>
    have h1 := h d (by simp)
    have h2 := ih (fun x hx => h x (by simp [hx]))
    simp only [val, List.length_cons, pw_succ]; omega
theorem val_take_succ (a : List Nat) (k : Nat) : val (a.take (k + 1)) = val (a.take k) + a.getD k 0 * pw k := by
  by_cases h : k < a.length
  · rw [List.take_succ_eq_append_getElem h, val_snoc, List.length_take, Nat.min_eq_left (by omega)]
    simp [List.getD_eq_getElem?_getD, h]
  · rw [List.take_of_length_le (by omega), List.take_of_length_le (by omega)]
    simp [List.getD_eq_getElem?_getD, List.getElem?_eq_none (Nat.not_lt.1 h)]
theorem Norm.nil : Norm [] := ⟨Dig.nil, by simp⟩
theorem Norm.ne {a : List Nat} (h : Norm a) (hn : a ≠ []) : pw (a.length - 1) ≤ val a := by
  rcases List.eq_nil_or_concat a with rfl | ⟨l, d, rfl⟩
  · exact absurd rfl hn
  · have := h.2 d (by simp)
    simp only [List.concat_eq_append, val_snoc, List.length_append, List.length_singleton, Nat.add_sub_cancel]
    have : 1 * pw l.length ≤ d * pw l.length := Nat.mul_le_mul_right _ (by omega)
    omega
theorem Norm.nil_iff {a : List Nat} (h : Norm a) : a = [] ↔ val a = 0 := by
  constructor
  · rintro rfl; rfl
  · intro h0
    apply Classical.byContradiction; intro hn
    have := h.ne hn
    have := pw_pos (a.length - 1)
    omega
theorem Norm.length_le {a : List Nat} (h : Norm a) {k : Nat} (hv : val a < pw k) : a.length ≤ k := by
  apply Classical.byContradiction; intro hk
  have hn : a ≠ [] := by rintro rfl; simp at hk
  have h1 := h.ne hn
  have h2 := pw_mono (a := k) (b := a.length - 1) (by omega)
  omega
theorem Norm.length_lt_val {a b : List Nat} (ha : Norm a) (hb : Norm b) (h : a.length < b.length) : val a < val b := by
  have h1 := val_lt ha.1
  have hn : b ≠ [] := by rintro rfl; simp at h
  have h2 := hb.ne hn
  have h3 := pw_mono (a := a.length) (b := b.length - 1) (by omega)
  omega
theorem dig_inj : ∀ {a b : List Nat}, Dig a → Dig b → a.length = b.length → val a = val b → a = b
  | [], [], _, _, _, _ => rfl
  | [], _ :: _, _, _, h, _ => by simp at h
  | _ :: _, [], _, _, h, _ => by simp at h
  | x :: a, y :: b, ha, hb, hl, hv => by
    have h1 := ha x (by simp)
    have h2 := hb y (by simp)
    simp only [val] at hv
    have e : x = y := by omega
    have e2 : val a = val b := by omega
    rw [e, dig_inj (fun d h => ha d (by simp [h])) (fun d h => hb d (by simp [h])) (by simpa using hl) e2]
theorem Norm.inj {a b : List Nat} (ha : Norm a) (hb : Norm b) (h : val a = val b) : a = b := by
  apply dig_inj ha.1 hb.1 ?_ h
  rcases Nat.lt_trichotomy a.length b.length with g | g | g
  · have := ha.length_lt_val hb g; omega
  · exact g
  · have := hb.length_lt_val ha g; omega
/-- trim: without noughts above -/
def trim (l : List Nat) : List Nat := (l.reverse.dropWhile (· == 0)).reverse
theorem trim_nil : trim [] = [] := rfl
theorem trim_snoc0 (l : List Nat) : trim (l ++ [0]) = trim l := by simp [trim]
theorem trim_snoc (l : List Nat) (d : Nat) (h : d ≠ 0) : trim (l ++ [d]) = l ++ [d] := by
  have : (d == 0) = false := by simp [h]
  simp [trim, this]
theorem trim_take_succ (l : List Nat) (k : Nat) (hk : k < l.length) (h0 : l.getD k 0 = 0) : trim (l.take (k + 1)) = trim (l.take k) := by
  rw [List.take_succ_eq_append_getElem hk]
  have : l[k] = 0 := by simpa [List.getD_eq_getElem?_getD, hk] using h0
  rw [this, trim_snoc0]
theorem trim_take_stop (l : List Nat) (k : Nat) (hk : k < l.length) (h0 : l.getD k 0 ≠ 0) : trim (l.take (k + 1)) = l.take (k + 1) := by
  rw [List.take_succ_eq_append_getElem hk]
  have : l[k] ≠ 0 := by simpa [List.getD_eq_getElem?_getD, hk] using h0
  rw [trim_snoc _ _ this]
theorem trim_spec (l : List Nat) (h : Dig l) : Norm (trim l) ∧ val (trim l) = val l ∧ (trim l).length ≤ l.length := by
  rcases List.eq_nil_or_concat l with rfl | ⟨a, d, rfl⟩
  · exact ⟨Norm.nil, rfl, by simp [trim]⟩
  · simp only [List.concat_eq_append] at h ⊢
    by_cases hd : d = 0
    · subst hd
      rw [trim_snoc0]
      have := trim_spec a (fun x hx => h x (by simp [hx]))
      refine ⟨this.1, by rw [this.2.1, val_snoc]; simp, ?_⟩
      have h3 := this.2.2
      simp only [List.length_append, List.length_singleton]; omega
    · rw [trim_snoc _ _ hd]
      exact ⟨⟨h, fun x hx => by simp at hx; omega⟩, rfl, Nat.le_refl _⟩
termination_by l.length
/-- one step of a sum of digits -/
theorem add_step (out a b : List Nat) (i carry : Nat) (hl : out.length = i) (hinv : val out + carry * pw i = val (a.take i) + val (b.take i)) :
    val (out ++ [(carry + a.getD i 0 + b.getD i 0) % 65536]) + (carry + a.getD i 0 + b.getD i 0) / 65536 * pw (i + 1) = val (a.take (i + 1)) + val (b.take (i + 1)) := by
  rw [val_snoc, hl, val_take_succ, val_take_succ, pw_succ]
  generalize a.getD i 0 = x at *
  generalize b.getD i 0 = y at *
  generalize pw i = P at *
  have h1 : (carry + x + y) % 65536 * P + (carry + x + y) / 65536 * (65536 * P) = (carry + x + y) * P := by
    rw [← Nat.mul_assoc, ← Nat.add_mul]; congr 1; omega
  have h2 : (carry + x + y) * P = carry * P + x * P + y * P := by rw [Nat.add_mul, Nat.add_mul]
  omega
/-- one step of a difference of digits -/
theorem sub_step (out a b : List Nat) (i borrow : Nat) (hb : borrow ≤ 1) (ha : Dig a) (hbd : Dig b) (hl : out.length = i) (hinv : val out + val (b.take i) = val (a.take i) + borrow * pw i) :
    val (out ++ [(65536 + a.getD i 0 - borrow - b.getD i 0) % 65536]) + val (b.take (i + 1)) = val (a.take (i + 1)) + (1 - (65536 + a.getD i 0 - borrow - b.getD i 0) / 65536) * pw (i + 1) := by
  have hx := ha.getD i
  have hy := hbd.getD i
  rw [val_snoc, hl, val_take_succ, val_take_succ, pw_succ]
  generalize a.getD i 0 = x at *
  generalize b.getD i 0 = y at *
  generalize pw i = P at *
  have hv : (65536 + x - borrow - y) / 65536 ≤ 1 := by omega
  have h1 : (65536 + x - borrow - y) % 65536 * P + y * P + borrow * P = x * P + (1 - (65536 + x - borrow - y) / 65536) * (65536 * P) := by
    rw [← Nat.mul_assoc, ← Nat.add_mul, ← Nat.add_mul, ← Nat.add_mul]; congr 1; omega
  omega
/-- digits are compared from the highest on -/
theorem cmp_lt (a b : List Nat) (i : Nat) (ha : Dig a) (hl : a.length = b.length) (hi : i < a.length) (he : a.drop (i + 1) = b.drop (i + 1)) (hlt : a.getD i 0 < b.getD i 0) : val a < val b := by
  have e1 : val a = val (a.take (i + 1)) + pw (i + 1) * val (a.drop (i + 1)) := by
    conv => lhs; rw [← List.take_append_drop (i + 1) a]
    rw [val_append, List.length_take, Nat.min_eq_left (by omega)]
  have e2 : val b = val (b.take (i + 1)) + pw (i + 1) * val (b.drop (i + 1)) := by
    conv => lhs; rw [← List.take_append_drop (i + 1) b]
    rw [val_append, List.length_take, Nat.min_eq_left (by omega)]
  rw [e1, e2, he, val_take_succ, val_take_succ]
  have h1 := val_lt (ha.take i)
  rw [List.length_take, Nat.min_eq_left (by omega)] at h1
  have h3 : (a.getD i 0 + 1) * pw i ≤ b.getD i 0 * pw i := Nat.mul_le_mul_right _ (by omega)
  rw [Nat.add_mul] at h3
  omega
end Go.Big
namespace Go.Big
theorem val_digit (a : List Nat) (j : Nat) (ha : Dig a) : val a / pw j % 65536 = a.getD j 0 := by
  induction a generalizing j with
  | nil => simp [val]
  | cons d l ih =>
    have hd := ha d (by simp)
    have hl : Dig l := fun x hx => ha x (by simp [hx])
    cases j with
    | zero => simp [val, pw]; omega
    | succ j =>
      rw [pw_succ, ← Nat.div_div_eq_div_mul]
      have : val (d :: l) / 65536 = val l := by simp only [val]; omega
      rw [this, ih j hl]; simp
theorem val_bit (a : List Nat) (i : Nat) (ha : Dig a) : val a / 2 ^ i % 2 = a.getD (i / 16) 0 / 2 ^ (i % 16) % 2 := by
  have e : (2 : Nat) ^ i = pw (i / 16) * 2 ^ (i % 16) := by
    unfold pw
    rw [show (65536 : Nat) = 2 ^ 16 from rfl, ← Nat.pow_mul, ← Nat.pow_add]; congr 1; omega
  rw [e, ← Nat.div_div_eq_div_mul, ← val_digit a (i / 16) ha]
  generalize val a / pw (i / 16) = n
  have hk : i % 16 < 16 := Nat.mod_lt _ (by omega)
  generalize i % 16 = k at hk
  have h2 : (65536 : Nat) = 2 ^ k * 2 ^ (16 - k) := by rw [← Nat.pow_add, show k + (16 - k) = 16 from by omega]
  have h3 : (2:Nat) ^ (16 - k) = 2 * 2 ^ (15 - k) := by rw [show 16 - k = (15 - k) + 1 from by omega, Nat.pow_succ, Nat.mul_comm]
  have h4 : n % 65536 / 2 ^ k = n / 2 ^ k % 2 ^ (16 - k) := by rw [h2, Nat.mod_mul_right_div_self]
  rw [h4, h3, Nat.mod_mul_right_mod]
/-- A digit of the quotient is raised. -/
theorem val_set (q : List Nat) (j x : Nat) (hj : j < q.length) : val (q.set j (q.getD j 0 + x)) = val q + x * pw j := by
  induction q generalizing j with
  | nil => simp at hj
  | cons d l ih =>
    cases j with
    | zero => simp [val, pw]; omega
    | succ j =>
      have := ih j (by simpa using hj)
      have e : (d :: l).getD (j + 1) 0 = l.getD j 0 := by simp
      rw [e]
      simp only [List.set_cons_succ, val, this, pw_succ]
      rw [Nat.mul_add, Nat.mul_left_comm 65536 x]; omega
/-- What stands before round i (i + 1 bits are still to come): the quotient of the bits above, the rest. -/
theorem div_step (A b i : Nat) (hb : 0 < b) (left q : Nat) (hleft : left = A / 2 ^ (i + 1) % b) (hq : q = A / 2 ^ (i + 1) / b * 2 ^ (i + 1)) :
    let l2 := 2 * left + A / 2 ^ i % 2
    (b ≤ l2 → l2 - b = A / 2 ^ i % b ∧ q + 2 ^ i = A / 2 ^ i / b * 2 ^ i) ∧ (l2 < b → l2 = A / 2 ^ i % b ∧ q = A / 2 ^ i / b * 2 ^ i) := by
  intro l2
  have hl : l2 = 2 * left + A / 2 ^ i % 2 := rfl
  clear_value l2
  have e1 : A / 2 ^ (i + 1) = A / 2 ^ i / 2 := by rw [Nat.pow_succ, Nat.div_div_eq_div_mul]
  rw [e1] at hleft hq
  have e2 : (2:Nat) ^ (i + 1) = 2 * 2 ^ i := by rw [Nat.pow_succ, Nat.mul_comm]
  rw [e2] at hq
  generalize A / 2 ^ i = N at *
  generalize (2:Nat) ^ i = P at *
  have hN : N = 2 * (N / 2) + N % 2 := by omega
  have hd := Nat.div_add_mod (N / 2) b
  have hlt := Nat.mod_lt (N / 2) hb
  have hl2 : l2 = 2 * (N / 2 % b) + N % 2 := by rw [hl, hleft]
  generalize N / 2 / b = d at *
  generalize N / 2 % b = r at *
  have hNb : N = b * (2 * d) + l2 := by rw [Nat.mul_left_comm]; omega
  constructor
  · intro h
    have h2 : l2 - b < b := by omega
    have hNb' : N = b * (2 * d + 1) + (l2 - b) := by rw [Nat.mul_add]; omega
    have hdiv : N / b = 2 * d + 1 := by rw [hNb', Nat.mul_add_div hb, Nat.div_eq_of_lt h2]
    have hmod : N % b = l2 - b := by rw [hNb', Nat.mul_add_mod, Nat.mod_eq_of_lt h2]
    refine ⟨hmod.symm, ?_⟩
    rw [hdiv, hq, Nat.add_mul]
    have : d * (2 * P) = 2 * d * P := by rw [← Nat.mul_assoc, Nat.mul_comm d 2]
    omega
  · intro h
    have hdiv : N / b = 2 * d := by rw [hNb, Nat.mul_add_div hb, Nat.div_eq_of_lt h, Nat.add_zero]
    have hmod : N % b = l2 := by rw [hNb, Nat.mul_add_mod, Nat.mod_eq_of_lt h]
    refine ⟨hmod.symm, ?_⟩
    rw [hdiv, hq]
    rw [← Nat.mul_assoc, Nat.mul_comm d 2]
/-- The quotient's digits while bits come in from above: digit i / 16 has only bits from i % 16 + 1 on, and all lower digits are nought. -/
def Bits (q : List Nat) (i : Nat) : Prop := Dig q ∧ (∀ j, j < i / 16 → q.getD j 0 = 0) ∧ q.getD (i / 16) 0 % 2 ^ (i % 16) = 0
theorem Bits.start (n : Nat) (i : Nat) : Bits (List.replicate n 0) i := by
  have h0 : ∀ j, (List.replicate n 0).getD j 0 = 0 := by
    intro j; rw [List.getD_eq_getElem?_getD, List.getElem?_replicate]; split <;> rfl
  refine ⟨fun d h => by have := List.eq_of_mem_replicate h; omega, fun j _ => h0 j, by rw [h0]; exact Nat.zero_mod _⟩
theorem getD_set (q : List Nat) (j k x : Nat) (hj : j < q.length) : (q.set j x).getD k 0 = if k = j then x else q.getD k 0 := by
  rw [List.getD_eq_getElem?_getD, List.getElem?_set]
  by_cases h : j = k
  · subst h; simp [hj]
  · rw [if_neg h, if_neg (fun e => h e.symm), List.getD_eq_getElem?_getD]
theorem Bits.down (q : List Nat) (i : Nat) (h : Bits q (i + 1)) : Bits q i := by
  obtain ⟨h1, h2, h3⟩ := h
  by_cases e : (i + 1) % 16 = 0
  · have e1 : (i + 1) / 16 = i / 16 + 1 := by omega
    rw [e1] at h2 h3
    refine ⟨h1, fun j hj => h2 j (by omega), by rw [h2 _ (by omega)]; exact Nat.zero_mod _⟩
  · have e1 : (i + 1) / 16 = i / 16 := by omega
    have e2 : (i + 1) % 16 = i % 16 + 1 := by omega
    rw [e1] at h2 h3
    rw [e2, Nat.pow_succ] at h3
    refine ⟨h1, h2, ?_⟩
    have := Nat.mod_mul_right_mod (q.getD (i / 16) 0) (2 ^ (i % 16)) 2
    rw [h3] at this; rw [← this]; exact Nat.zero_mod _
theorem dig_room (x k : Nat) (hk : k < 16) (hx : x < 65536) (hm : x % 2 ^ (k + 1) = 0) : x + 2 ^ k < 65536 ∧ (x + 2 ^ k) % 2 ^ k = 0 := by
  have h2 : (65536 : Nat) = 2 ^ (k + 1) * 2 ^ (15 - k) := by rw [← Nat.pow_add, show k + 1 + (15 - k) = 16 from by omega]
  have hp : 0 < (2:Nat) ^ k := Nat.pow_pos (by omega)
  have hs : (2:Nat) ^ (k + 1) = 2 * 2 ^ k := by rw [Nat.pow_succ, Nat.mul_comm]
  obtain ⟨c, hc⟩ := Nat.dvd_of_mod_eq_zero hm
  have hc2 : c < 2 ^ (15 - k) := by
    rw [h2, hc] at hx
    exact Nat.lt_of_mul_lt_mul_left hx
  have h4 : 2 ^ (k + 1) * (c + 1) ≤ 65536 := by rw [h2]; exact Nat.mul_le_mul_left _ (by omega)
  rw [Nat.mul_add, ← hc, hs] at h4
  refine ⟨by omega, ?_⟩
  rw [hc, hs, Nat.mul_right_comm, Nat.mul_comm (2 * c), ]
  rw [Nat.add_mod_right, Nat.mul_mod_right]
theorem Bits.set_ (q : List Nat) (i : Nat) (h : Bits q (i + 1)) (hi : i / 16 < q.length) :
    Bits (q.set (i / 16) (q.getD (i / 16) 0 + 2 ^ (i % 16))) i ∧ q.getD (i / 16) 0 + 2 ^ (i % 16) < 65536 := by
  have hz : q.getD (i / 16) 0 % 2 ^ (i % 16 + 1) = 0 := by
    obtain ⟨h1, h2, h3⟩ := h
    by_cases e : (i + 1) % 16 = 0
    · have e1 : (i + 1) / 16 = i / 16 + 1 := by omega
      rw [e1] at h2
      rw [h2 _ (by omega)]; exact Nat.zero_mod _
    · have e1 : (i + 1) / 16 = i / 16 := by omega
      have e2 : (i + 1) % 16 = i % 16 + 1 := by omega
      rw [e1, e2] at h3; exact h3
  have hd := dig_room _ _ (Nat.mod_lt i (by omega)) (h.1.getD (i / 16)) hz
  have hdown := h.down
  refine ⟨⟨?_, ?_, ?_⟩, hd.1⟩
  · intro d hm
    rcases List.mem_or_eq_of_mem_set hm with hm | rfl
    · exact h.1 d hm
    · exact hd.1
  · intro j hj
    rw [getD_set _ _ _ _ hi, if_neg (by omega)]
    exact hdown.2.1 j hj
  · rw [getD_set _ _ _ _ hi, if_pos rfl]; exact hd.2
theorem set_val (q : List Nat) (i : Nat) (hi : i / 16 < q.length) : val (q.set (i / 16) (q.getD (i / 16) 0 + 2 ^ (i % 16))) = val q + 2 ^ i := by
  rw [val_set _ _ _ hi]
  congr 1
  unfold pw
  rw [show (65536 : Nat) = 2 ^ 16 from rfl, ← Nat.pow_mul, ← Nat.pow_add]; congr 1; omega
theorem val_zero (n : Nat) : val (List.replicate n 0) = 0 := by
  induction n with
  | zero => rfl
  | succ n ih => simp [List.replicate_succ, val, ih]
end Go.Big

/- A product of digits, row by row: plain arithmetic. -/
namespace Go.Big
theorem val_put (q : List Nat) (j y : Nat) (hj : j < q.length) : val (q.set j y) + q.getD j 0 * pw j = val q + y * pw j := by
  induction q generalizing j with
  | nil => simp at hj
  | cons d l ih =>
    cases j with
    | zero => simp [val, pw]; omega
    | succ j =>
      have := ih j (by simpa using hj)
      have e : (d :: l).getD (j + 1) 0 = l.getD j 0 := by simp
      rw [e]
      simp only [List.set_cons_succ, val, pw_succ]
      have h1 : l.getD j 0 * (65536 * pw j) = 65536 * (l.getD j 0 * pw j) := Nat.mul_left_comm _ _ _
      have h2 : y * (65536 * pw j) = 65536 * (y * pw j) := Nat.mul_left_comm _ _ _
      rw [h1, h2]
      omega
theorem Dig.set {q : List Nat} (h : Dig q) (j y : Nat) (hy : y < 65536) : Dig (q.set j y) := by
  intro d hd
  rcases List.mem_or_eq_of_mem_set hd with h1 | h1
  · exact h d h1
  · omega
structure MulIn (A B q : List Nat) (i k c : Nat) : Prop where
  len : q.length = A.length + B.length + 1
  dig : Dig q
  up : ∀ j, i + B.length ≤ j → q.getD j 0 = 0
  va : val q + c * pw (i + k) = val (A.take i) * val B + A.getD i 0 * val (B.take k) * pw i
  car : c < 65536
structure MulOut (A B q : List Nat) (i : Nat) : Prop where
  len : q.length = A.length + B.length + 1
  dig : Dig q
  up : ∀ j, i + B.length ≤ j → q.getD j 0 = 0
  va : val q = val (A.take i) * val B
variable {A B q : List Nat} {i k c : Nat}
theorem MulOut.start (h : MulOut A B q i) : MulIn A B q i 0 0 := ⟨h.len, h.dig, h.up, by simp [val, h.va], by omega⟩
theorem MulOut.zero (A B : List Nat) : MulOut A B (List.replicate (A.length + B.length + 1) 0) 0 := by
  refine ⟨by simp, (Bits.start _ 0).1, fun j _ => ?_, ?_⟩
  · rw [List.getD_eq_getElem?_getD, List.getElem?_replicate]; split <;> rfl
  · have : ∀ n, val (List.replicate n 0) = 0 := by
      intro n; induction n with
      | zero => rfl
      | succ n ih => rw [List.replicate_succ]; simp [val, ih]
    rw [this]; simp [val]
theorem mul_bd {x y z c : Nat} (hx : x < 65536) (hy : y < 65536) (hz : z < 65536) (hc : c < 65536) : x * y ≤ 4294836225 ∧ z + x * y + c < 4294967296 := by
  have : x * y ≤ 65535 * 65535 := Nat.mul_le_mul (by omega) (by omega)
  omega
theorem MulIn.step (h : MulIn A B q i k c) (hA : Dig A) (hB : Dig B) (hi : i < A.length) (hk : k < B.length) :
    MulIn A B (q.set (i + k) ((q.getD (i + k) 0 + A.getD i 0 * B.getD k 0 + c) % 65536)) i (k + 1) ((q.getD (i + k) 0 + A.getD i 0 * B.getD k 0 + c) / 65536) := by
  have hx := hA.getD i
  have hy := hB.getD k
  have hz := h.dig.getD (i + k)
  have hlen := h.len
  have hb := mul_bd hx hy hz h.car
  refine ⟨by rw [List.length_set, h.len], h.dig.set _ _ (Nat.mod_lt _ (by decide)), fun j hj => ?_, ?_, by omega⟩
  · rw [getD_set _ _ _ _ (by omega), if_neg (by omega)]; exact h.up j hj
  · have h1 := val_put q (i + k) ((q.getD (i + k) 0 + A.getD i 0 * B.getD k 0 + c) % 65536) (by omega)
    have h2 := h.va
    rw [val_take_succ, ← Nat.add_assoc i k 1, pw_succ]
    have e : A.getD i 0 * (val (B.take k) + B.getD k 0 * pw k) * pw i = A.getD i 0 * val (B.take k) * pw i + A.getD i 0 * B.getD k 0 * pw (i + k) := by
      rw [pw_add, Nat.mul_add, Nat.add_mul]
      congr 1
      rw [← Nat.mul_assoc (A.getD i 0), Nat.mul_assoc (A.getD i 0 * B.getD k 0), Nat.mul_comm (pw k)]
    rw [e]
    generalize val (q.set (i + k) ((q.getD (i + k) 0 + A.getD i 0 * B.getD k 0 + c) % 65536)) = V' at *
    generalize A.getD i 0 * val (B.take k) * pw i = M at *
    generalize val (A.take i) * val B = L at *
    generalize pw (i + k) = P at *
    generalize A.getD i 0 * B.getD k 0 = xy at *
    generalize q.getD (i + k) 0 = z at *
    generalize val q = V at *
    have h3 : (z + xy + c) % 65536 * P + (z + xy + c) / 65536 * (65536 * P) = (z + xy + c) * P := by
      rw [← Nat.mul_assoc, ← Nat.add_mul]; congr 1; omega
    have h4 : (z + xy + c) * P = z * P + xy * P + c * P := by rw [Nat.add_mul, Nat.add_mul]
    omega
theorem MulIn.done (h : MulIn A B q i B.length c) (hi : i < A.length) :
    q.getD (i + B.length) 0 = 0 ∧ MulOut A B (q.set (i + B.length) (q.getD (i + B.length) 0 + c)) (i + 1) := by
  have h0 := h.up (i + B.length) (Nat.le_refl _)
  have hlen := h.len
  refine ⟨h0, by rw [List.length_set, h.len], h.dig.set _ _ (by have := h.car; omega), fun j hj => ?_, ?_⟩
  · rw [getD_set _ _ _ _ (by omega), if_neg (by omega)]; exact h.up j (by omega)
  · have h1 := val_put q (i + B.length) (q.getD (i + B.length) 0 + c) (by omega)
    have h2 := h.va
    rw [List.take_of_length_le (Nat.le_refl B.length)] at h2
    rw [h0] at h1 ⊢
    rw [val_take_succ, Nat.add_mul]
    have e : A.getD i 0 * pw i * val B = A.getD i 0 * val B * pw i := by rw [Nat.mul_assoc, Nat.mul_comm (pw i), ← Nat.mul_assoc]
    rw [e]
    simp only [Nat.zero_mul, Nat.add_zero, Nat.zero_add] at h1 ⊢
    omega
theorem MulOut.all (h : MulOut A B q A.length) : val q = val A * val B := by rw [h.va, List.take_of_length_le (Nat.le_refl _)]
end Go.Big

/- Contracts over slices of digits: trim, cmp. -/
namespace Go.Proofs.Ytppnmeobnilojaa
set_option linter.unusedVariables false
set_option linter.unusedSimpArgs false
open Go.RowKit
theorem ret_int {k : IntKind} {a b : Int} (h : a = b) : Ending.returned (.int k a) = .returned (.int k b) := by rw [h]
/-- A slice of digits: its elements are l. -/
def Nums (w : World) (a : Option Addr) (len cap : Nat) (l : List Nat) : Prop :=
  l.length = len ∧ len ≤ cap ∧ cap ≤ 9223372036854775807 ∧ (0 < len → ∃ b o, a = some ⟨b, o, none⟩ ∧ b < w.heap.size ∧ ∀ i x, l[i]? = some x → w.cell? ⟨b, o + i, none⟩ = some (.int .u64 (x : Nat)))
theorem Nums.below {w w' : World} {a : Option Addr} {len cap : Nat} {l : List Nat} (h : Nums w a len cap l) (hb : Below w.heap.size w w') : Nums w' a len cap l := by
  obtain ⟨h1, h2, h2', h3⟩ := h
  refine ⟨h1, h2, h2', fun hl => ?_⟩
  obtain ⟨b, o, ha, hlt, hc⟩ := h3 hl
  exact ⟨b, o, ha, Nat.lt_of_lt_of_le hlt hb.size, fun i x hx => (hb.cell (p := ⟨b, o + i, none⟩) hlt).trans (hc i x hx)⟩
theorem Nums.take {w : World} {a : Option Addr} {len cap : Nat} {l : List Nat} (h : Nums w a len cap l) (k : Nat) (hk : k ≤ len) : Nums w a k cap (l.take k) := by
  obtain ⟨h1, h2, h2', h3⟩ := h
  refine ⟨by simp; omega, by omega, h2', fun hl => ?_⟩
  obtain ⟨b, o, ha, hlt, hc⟩ := h3 (by omega)
  refine ⟨b, o, ha, hlt, fun i x hx => hc i x ?_⟩
  rw [List.getElem?_take] at hx
  split at hx
  · exact hx
  · cases hx
theorem Nums.at {w : World} {a : Option Addr} {len cap : Nat} {l : List Nat} (h : Nums w a len cap l) (k : Nat) (hk : k < len) : ∃ b o, a = some ⟨b, o, none⟩ ∧ b < w.heap.size ∧ w.cell? ⟨b, o + k, none⟩ = some (.int .u64 (l.getD k 0 : Nat)) := by
  obtain ⟨h1, h2, h2', h3⟩ := h
  obtain ⟨b, o, ha, hlt, hc⟩ := h3 (by omega)
  refine ⟨b, o, ha, hlt, ?_⟩
  rw [hc k (l.getD k 0) (by rw [List.getD_eq_getElem?_getD, List.getElem?_eq_getElem (by omega)]; rfl)]
theorem trim_len (l : List Nat) : Big.trim l = l.take (Big.trim l).length := by
  unfold Big.trim
  have h := List.dropWhile_suffix (fun x : Nat => x == 0) (l := l.reverse)
  have h2 : (l.reverse.dropWhile (· == 0)).reverse <+: l := by
    have := List.reverse_prefix.2 h
    rwa [List.reverse_reverse] at this
  exact List.prefix_iff_eq_take.1 h2
theorem trim_le (l : List Nat) : (Big.trim l).length ≤ l.length := by
  rw [trim_len l, List.length_take]; exact Nat.min_le_right _ _
def lenOf : Value → Nat | .slice _ n _ => n | _ => 0
set_option maxRecDepth 100000 in
set_option maxHeartbeats 400000 in
theorem trim_any (a : Option Addr) (len cap : Nat) (l : List Nat) (w : World) (hl : Nums w a len cap l) :
    Calls Try.prog 111 #[.slice a len cap] w fun e w' => e = .returned (.slice a (Big.trim l).length cap) ∧ w = w' := by
  have HL := Lib.hid hl
  have h1 := hl.1
  have h2 := hl.2.1
  have h3 := hl.2.2.1
  have H1 := Lib.hid h1
  clear hl h1
  go_enter Try.func111, Try.ntmps111
  go_wp2_with fail
  go_loop [0] (fun i => ∃ k : Nat, i = .slice a k cap ∧ k ≤ len ∧ Hid (Big.trim l = Big.trim (l.take k))) (fun i => lenOf i)
  case atStart => exact ⟨len, rfl, Nat.le_refl _, by show _ = _; rw [List.take_of_length_le (by rw [H1.out]; exact Nat.le_refl _)]⟩
  case round =>
    obtain ⟨k, rfl, hk, HX⟩ := hrel
    cases k with
    | zero =>
      have FIN : Hid ((Big.trim l).length = 0) := by show _ = _; rw [HX.out]; rfl
      go_wp2
      go_ret
      rw [FIN.out]; exact ⟨rfl, rfl⟩
    | succ j =>
      obtain ⟨b, o, rfl, hb, hc⟩ := HL.out.at j (by omega)
      have hj : j < l.length := by rw [H1.out]; omega
      have T0 := Lib.hid (Big.trim_take_succ l j hj)
      have T1 := Lib.hid (Big.trim_take_stop l j hj)
      clear hj
      generalize l.getD j 0 = x at *
      by_cases hx : x = 0
      · have HN : Hid (Big.trim l = Big.trim (l.take j)) := by show _ = _; rw [HX.out, T0.out hx]
        subst hx
        go_wp2
        go_round
        case rel => exact ⟨j, by go_num, by omega, HN⟩
        case measure => simp [lenOf]
      · have hx2 : ((x : Int) == 0) = false := by simp [hx]
        have FIN : Hid ((Big.trim l).length = j + 1) := by
          show _ = _
          rw [HX.out, T1.out hx, List.length_take, H1.out]; omega
        clear hx
        go_wp2
        go_ret
        rw [FIN.out]; exact ⟨rfl, rfl⟩
end Go.Proofs.Ytppnmeobnilojaa

namespace Go.Proofs.Ytppnmeobnilojaa
set_option linter.unusedVariables false
set_option linter.unusedSimpArgs false
open Go.RowKit
def cmpI (a b : List Nat) : Int := if Big.val a < Big.val b then -1 else if Big.val a = Big.val b then 0 else 1
theorem cmp_bel (w : World) (n : Nat) : Below w.heap.size w (w.drewN n) := below_drewN (Below.refl _ _) n
set_option maxRecDepth 100000 in
set_option maxHeartbeats 1000000 in
theorem cmp_any (a : Option Addr) (len cap : Nat) (l : List Nat) (a' : Option Addr) (len' cap' : Nat) (l' : List Nat) (w : World) (hl : Nums w a len cap l) (hl' : Nums w a' len' cap' l') (hn : Big.Norm l) (hn' : Big.Norm l') :
    Calls Try.prog 115 #[.slice a len cap, .slice a' len' cap'] w fun e w' => e = .returned (.int .i64 (cmpI l l')) ∧ Below w.heap.size w w' := by
  have HR := Lib.hid (fun (x : Int) (h : cmpI l l' = x) => (ret_int h.symm : Ending.returned (.int .i64 x) = .returned (.int .i64 (cmpI l l'))))
  have h2 := hl.2.1
  have h3 := hl.2.2.1
  have h2' := hl'.2.1
  have h3' := hl'.2.2.1
  have HL := Lib.hid hl
  have HL' := Lib.hid hl'
  rcases Nat.lt_trichotomy len len' with hlt | rfl | hlt
  · have FIN := Lib.hid (HR.out (-1) (by unfold cmpI; rw [if_pos (hn.length_lt_val hn' (by rw [hl.1, hl'.1]; exact hlt))]))
    have t1 : ((len : Int) == (len' : Int)) = false := by simp; omega
    clear hl hl' hn hn'
    go_enter Try.func115, Try.ntmps115
    go_wp2
    go_ret
    exact ⟨FIN.out, Below.refl _ _⟩
  · have HN := Lib.hid hn
    have HN' := Lib.hid hn'
    have HE := Lib.hid (show l.length = l'.length by rw [hl.1, hl'.1])
    have H1 := Lib.hid hl.1
    clear hl hl' hn hn'
    go_enter Try.func115, Try.ntmps115
    go_wp2_with fail
    go_loopw [5] (fun i wr => ∃ k : Nat, i = .int .i64 ((k : Int) - 1) ∧ k ≤ len ∧ Hid (l.drop k = l'.drop k) ∧ Below w.heap.size w wr) (fun i _ => (intOf i + 1).toNat)
    case atStart => exact ⟨len, rfl, Nat.le_refl _, by show _ = _; rw [List.drop_of_length_le (by rw [H1.out]; exact Nat.le_refl _), List.drop_of_length_le (by rw [← HE.out, H1.out]; exact Nat.le_refl _)], Below.refl _ _⟩
    case round =>
      obtain ⟨k, rfl, hk, HX, hbel⟩ := hrel
      cases k with
      | zero =>
        have FIN := Lib.hid (HR.out 0 (by
          have e : l = l' := by simpa using HX.out
          unfold cmpI; rw [e, if_neg (Nat.lt_irrefl _), if_pos rfl]))
        go_wp2
        go_ret
        exact ⟨FIN.out, hbel⟩
      | succ j =>
        obtain ⟨b, o, rfl, hb, hc⟩ := (HL.out.below hbel).at j (by omega)
        obtain ⟨b', o', rfl, hb', hc'⟩ := (HL'.out.below hbel).at j (by omega)
        have hj : j < l.length := by rw [H1.out]; omega
        have C1 := Lib.hid (Big.cmp_lt l l' j HN.out.1 HE.out hj HX.out)
        have C2 := Lib.hid (Big.cmp_lt l' l j HN'.out.1 HE.out.symm (by rw [← HE.out]; exact hj) HX.out.symm)
        have hd : Hid (l.getD j 0 = l'.getD j 0 → l.drop j = l'.drop j) := by
          show _ → _
          intro h
          have hj' : j < l'.length := by rw [← HE.out]; exact hj
          rw [List.drop_eq_getElem_cons hj, List.drop_eq_getElem_cons hj', HX.out]
          rw [List.getD_eq_getElem?_getD, List.getD_eq_getElem?_getD, List.getElem?_eq_getElem hj, List.getElem?_eq_getElem hj'] at h
          simp at h
          rw [h]
        clear hj
        generalize l.getD j 0 = x at *
        generalize l'.getD j 0 = y at *
        rcases Nat.lt_trichotomy x y with hxy | rfl | hxy
        · have FIN := Lib.hid (HR.out (-1) (by unfold cmpI; rw [if_pos (C1.out hxy)]))
          go_wp2_with fail
          go_quiet (fail)
          go_wp2
          go_ret
          exact ⟨FIN.out, below_drewN hbel _⟩
        · have HN2 := Lib.hid (hd.out rfl)
          go_wp2_with fail
          go_quiet (fail)
          go_wp2_with fail
          go_quiet (fail)
          go_wp2_with fail
          go_roundw
          case rel => exact ⟨j, by go_num, by omega, HN2, below_drewN hbel _⟩
          case measure => simp [intOf]
        · have FIN := Lib.hid (HR.out 1 (by unfold cmpI; have := C2.out hxy; rw [if_neg (by omega), if_neg (by omega)]))
          go_wp2_with fail
          go_quiet (fail)
          go_wp2_with fail
          go_quiet (fail)
          go_wp2
          go_ret
          exact ⟨FIN.out, below_drewN (below_drewN hbel _) _⟩
  · have hv := hn'.length_lt_val hn (by rw [hl.1, hl'.1]; exact hlt)
    have FIN := Lib.hid (HR.out 1 (by unfold cmpI; rw [if_neg (by omega), if_neg (by omega)]))
    have t1 : ((len : Int) == (len' : Int)) = false := by simp; omega
    clear hl hl' hn hn' hv
    go_enter Try.func115, Try.ntmps115
    go_wp2
    go_ret
    exact ⟨FIN.out, Below.refl _ _⟩
end Go.Proofs.Ytppnmeobnilojaa
