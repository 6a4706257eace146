/- A part of the proof: RvL, one behind another. -/
import Derived.Test.YtppnmeobnilojaaMGA
import Derived.Test.YtppnmeobnilojaaMGB
import Derived.Test.YtppnmeobnilojaaMGC
import Derived.Test.YtppnmeobnilojaaMGD
import Derived.Test.YtppnmeobnilojaaMGE
import Derived.Test.YtppnmeobnilojaaMGF
import Derived.Test.YtppnmeobnilojaaMGG
import Derived.Test.YtppnmeobnilojaaMGH
import Derived.Test.YtppnmeobnilojaaMGI
import Derived.Test.YtppnmeobnilojaaMGJ
import Derived.Test.YtppnmeobnilojaaMGK
import Derived.Test.YtppnmeobnilojaaMGL
import Derived.Test.YtppnmeobnilojaaMGM
import Derived.Test.YtppnmeobnilojaaMGN
import Derived.Test.YtppnmeobnilojaaMGO
import Derived.Test.YtppnmeobnilojaaMGQ
import Derived.Test.YtppnmeobnilojaaMGR
import Derived.Test.YtppnmeobnilojaaMGS
import Derived.Test.YtppnmeobnilojaaMGT
/- The document's evaluation: all but what is chosen, both and either. -/
namespace Go.Proofs.Ytppnmeobnilojaa
set_option linter.unusedVariables false
set_option linter.unusedSimpArgs false
open Go.RowKit
inductive TailP (day : Int) (fx : List Fx) (op n : Int) (nm : ByteArray) : List Vl → Vl → Prop
  | lit (h : op = 1 ∨ op = 2) : TailP day fx op n nm [] (.num n)
  | obs (r : Vl) (h : op = 3) (hr : seenV day fx nm = r) : TailP day fx op n nm [] r
  | day (h : op = 4) : TailP day fx op n nm [] (.num day)
  | not (t : Bool) (r : Vl) (h : op = 19) (hr : Vl.tru (!t) = r) : TailP day fx op n nm [.tru t] r
  | neg (x : Int) (r : Vl) (h : op = 20) (hx : I64 x) (hr : numV (fitI (-x)) = r) : TailP day fx op n nm [.num x] r
  | ar (x y : Int) (r : Vl) (h : 5 ≤ op ∧ op ≤ 10) (hx : I64 x) (hy : I64 y) (hr : numV (valueM op [x, y]) = r) : TailP day fx op n nm [.num x, .num y] r
  | cmp (x y : Int) (r : Vl) (h : 11 ≤ op ∧ op ≤ 16) (hr : Vl.tru (cmpV op x y) = r) : TailP day fx op n nm [.num x, .num y] r
theorem made_val {op x y : Int} (h : 5 ≤ op ∧ op ≤ 10) : madeM op x y = valueM op [x, y] := by
  have hop : op = 5 ∨ op = 6 ∨ op = 7 ∨ op = 8 ∨ op = 9 ∨ op = 10 := by omega
  rcases hop with rfl | rfl | rfl | rfl | rfl | rfl
  · rfl
  · rfl
  · rfl
  · rfl
  · by_cases hxy : x < y
    · simp [madeM, valueM, hxy, show min x y = x by omega]
    · simp [madeM, valueM, hxy, show min x y = y by omega]
  · by_cases hxy : x < y
    · simp [madeM, valueM, hxy, show max x y = y by omega]
    · simp [madeM, valueM, hxy, show max x y = x by omega]
theorem nlt (x y : Int) : (!decide (y < x)) = decide (x ≤ y) := by by_cases h : y < x <;> simp [h] <;> omega
theorem any_snoc (p : Vl → Bool) (l : List Vl) (x : Vl) : (l ++ [x]).any p = (l.any p || p x) := by simp
set_option maxRecDepth 100000 in
set_option maxHeartbeats 8000000 in
theorem rv_rest (w : World) (day : Int) (fx : List Fx) (a : Option Addr) (len cap : Nat) (op n : Int) (nm : ByteArray) (args : List Ex) (a' : Option Addr) (len' cap' : Nat) (V : Ex → Vl) (R : Vl)
    (hA : SlE w [] args a' len' cap') (hl3 : len' ≤ 5)
    (hC : ∀ (k : Nat) (x : Ex) (c0 c1 : Int) (c2 : ByteArray) (s0 : Option Addr) (s1 s2 : Nat), args[k]? = some x → RepE w [] x [.int .i64 c0, .int .i64 c1, .string c2, .slice s0 s1 s2] → RvC w day a len cap (.int .i64 c0) (.int .i64 c1) (.string c2) (.slice s0 s1 s2) (V x))
    (h17 : op ≠ 17) (h18 : op ≠ 18) (h21 : op ≠ 21)
    (hb : (args.map V).any (fun v => decide (v = .brk)) = true → R = .brk) (hu : (args.map V).any (fun v => decide (v = .brk)) = false → (args.map V).any (fun v => decide (v = .unk)) = true → R = .unk)
    (hf : SlR fxK w [] fx a len cap) (hT : (args.map V).any (fun v => decide (v = .brk)) = false → (args.map V).any (fun v => decide (v = .unk)) = false → TailP day fx op n nm (args.map V) R) :
    Calls Try.prog 39 #[.agg #[.int .i64 op, .int .i64 n, .string nm, .slice a' len' cap'], .agg #[.int .i64 day, .slice a len cap]] w fun x w' => RetW R x ∧ Below w.heap.size w w' := by
  obtain ⟨f1, f2, f3⟩ := hA.facts
  have HL := Lib.hid f1
  have HSA := Lib.hid hA
  have HC := Lib.hid hC
  have HBK := Lib.hid hb
  have HU := Lib.hid hu
  have HTT := Lib.hid hT
  have HF := Lib.hid hf
  have HR0 := Lib.hid (RvJ.start w day a len cap op n nm a' len' cap')
  have z17 : (op == 17) = false := beq_eq_false_iff_ne.2 h17
  have z18 : (op == 18) = false := beq_eq_false_iff_ne.2 h18
  have z21 : (op == 21) = false := beq_eq_false_iff_ne.2 h21
  clear hA hC hb hu hT hf f1 h17 h18 h21
  go_enter Try.func39, Try.ntmps39
  go_upto_region 1 with (fail)
  generalize ((w.alloc (.cells #[.int .i64 op, .int .i64 n, .string nm, .slice a' len' cap'] 46)).alloc (.cells #[.int .i64 day, .slice a len cap] 58)).alloc (.cells #[.string ⟨#[]⟩, .int .i64 0] 69) = v at *
  have e0 : v.cell? ⟨w.heap.size + 1, 0, none⟩ = some (.int .i64 day) := HR0.out.st.env.cell 0
  have e1 : v.cell? ⟨w.heap.size + 1, 1, none⟩ = some (.slice a len cap) := HR0.out.st.env.cell 1
  obtain ⟨x0, x1, x2, x3, -, -, -, -⟩ := blk4 HR0.out.st.ex
  go_wp2_with fail
  clear e0 e1 x0 x1 x2 x3
  go_loopw [9, 10, 11] (fun vl u i wr => ∃ (k : Nat) (uu : Bool), i = .int .i64 (k : Nat) ∧ u = .bool uu ∧ k ≤ len' ∧ Hid (uu = ((args.map V).take k).any (fun v => decide (v = .unk))) ∧ Hid (((args.map V).take k).any (fun v => decide (v = .brk)) = false) ∧ Hid (RvJ w wr day a len cap op n nm a' len' cap' ((args.map V).take k) vl)) (fun _ _ i _ => len' - (intOf i).toNat)
  case atStart => exact ⟨0, false, rfl, rfl, Nat.zero_le _, rfl, rfl, HR0.out⟩
  case round =>
    clear HR0
    obtain ⟨k, uu, rfl, rfl, hk, HUU, HNB, HJ⟩ := hrel
    obtain ⟨vl, hvl⟩ : ∃ x : Value, x = u9 := ⟨_, rfl⟩
    subst hvl
    have e0 : wr.cell? ⟨w.heap.size + 1, 0, none⟩ = some (.int .i64 day) := HJ.out.st.env.cell 0
    have e1 : wr.cell? ⟨w.heap.size + 1, 1, none⟩ = some (.slice a len cap) := HJ.out.st.env.cell 1
    obtain ⟨x0, x1, x2, x3, -, -, -, -⟩ := blk4 HJ.out.st.ex
    by_cases hlt : k < len'
    · have j1' : (k : Int) < (len' : Int) := by omega
      have j0' : (0 : Int) ≤ (k : Int) := by omega
      have hlk : ((args.map V).take k).length = k := by rw [List.length_take, List.length_map, HL.out]; omega
      have HLK := Lib.hid hlk
      obtain ⟨b, o, x, o0, n0, m0, a0, l0, p0, rfl, hbl, hx, hrep, hF⟩ := arg_at HSA.out k hlt
      have HCA := Lib.hid (HC.out k x o0 n0 m0 a0 l0 p0 hx hrep)
      have hvx : (args.map V)[k]? = some (V x) := by rw [List.getElem?_map, hx]; rfl
      have HTK : Hid ((args.map V).take (k + 1) = (args.map V).take k ++ [V x]) := by
        show (args.map V).take (k + 1) = _
        obtain ⟨hk', he⟩ := List.getElem?_eq_some_iff.1 hvx
        rw [← he]; exact (List.take_append_getElem hk').symm
      have HVM := Lib.hid (List.mem_of_getElem? hvx)
      have H0 := Lib.hid hF
      clear hx hrep hF hvx hlk
      generalize (args.map V).take k = VS at *
      generalize V x = A at *
      go_upto_region 22 with (fail)
      go_cut [12] from 94 to 121 (fun p W0 => ∃ z, p = .pointer (some ⟨z, 0, none⟩) ∧ Hid (RvK w W0 day a len cap op n nm (some ⟨b, o, none⟩) len' cap' VS vl z (.string (wd A)) (.int .i64 A.N)))
      case first =>
        clear x0 x1 x2
        obtain ⟨u0, u1, u2, u3⟩ := H0.out
        replace u0 := cell_up u0 HJ.out.below
        replace u1 := cell_up u1 HJ.out.below
        replace u2 := cell_up u2 HJ.out.below
        replace u3 := cell_up u3 HJ.out.below
        refine wp_region_till (S := fun W => (W.cell? ⟨w.heap.size + 1, 0, none⟩ = some (.int .i64 day) ∧ W.cell? ⟨w.heap.size + 1, 1, none⟩ = some (.slice a len cap)) ∧ W.cell? ⟨w.heap.size, 3, none⟩ = some (.slice (some ⟨b, o, none⟩) len' cap') ∧ W.cell? ⟨b, o + k * 4, none⟩ = some (.int .i64 o0) ∧ W.cell? ⟨b, o + k * 4 + 1, none⟩ = some (.int .i64 n0) ∧ W.cell? ⟨b, o + k * 4 + 2, none⟩ = some (.string m0) ∧ W.cell? ⟨b, o + k * 4 + 3, none⟩ = some (.slice a0 l0 p0)) 8 (by kernel_rfl) ?_
        refine till_take (i := 0) (v := ?_) rfl (by kernel_rfl) (fun _ _ _ h => h) (Or.inl ⟨by rfl, ?_⟩) ⟨⟨e0,e1⟩,x3,u0,u1,u2,u3⟩ ?_
        rotate_left
        · intro W hS
          try dsimp only at hS
          go_split_ands
          go_simp
          try with_reducible rfl
        try simp only [Act.put, List.getElem_toArray, List.getElem_cons_zero, List.getElem_cons_succ, List.setIfInBounds_toArray, List.set_cons_zero, List.set_cons_succ]
        refine till_take (i := 1) (v := ?_) rfl (by kernel_rfl) (fun _ _ _ h => h) (Or.inl ⟨by rfl, ?_⟩) ⟨⟨e0,e1⟩,x3,u0,u1,u2,u3⟩ ?_
        rotate_left
        · intro W hS
          try dsimp only at hS
          go_split_ands
          go_simp
          try with_reducible rfl
        try simp only [Act.put, List.getElem_toArray, List.getElem_cons_zero, List.getElem_cons_succ, List.setIfInBounds_toArray, List.set_cons_zero, List.set_cons_succ]
        refine till_take (i := 2) (v := ?_) rfl (by kernel_rfl) (fun _ _ _ h => h) (Or.inl ⟨by rfl, ?_⟩) ⟨⟨e0,e1⟩,x3,u0,u1,u2,u3⟩ ?_
        rotate_left
        · intro W hS
          try dsimp only at hS
          go_split_ands
          go_simp
          try with_reducible rfl
        try simp only [Act.put, List.getElem_toArray, List.getElem_cons_zero, List.getElem_cons_succ, List.setIfInBounds_toArray, List.set_cons_zero, List.set_cons_succ]
        refine till_take (i := 3) (v := ?_) rfl (by kernel_rfl) (fun _ _ _ h => h) (Or.inl ⟨by rfl, ?_⟩) ⟨⟨e0,e1⟩,x3,u0,u1,u2,u3⟩ ?_
        rotate_left
        · intro W hS
          try dsimp only at hS
          go_split_ands
          go_simp
          try with_reducible rfl
        try simp only [Act.put, List.getElem_toArray, List.getElem_cons_zero, List.getElem_cons_succ, List.setIfInBounds_toArray, List.set_cons_zero, List.set_cons_succ]
        refine till_take (i := 4) (v := ?_) rfl (by kernel_rfl) (fun _ _ _ h => h) (Or.inl ⟨by rfl, ?_⟩) ⟨⟨e0,e1⟩,x3,u0,u1,u2,u3⟩ ?_
        rotate_left
        · intro W hS
          try dsimp only at hS
          go_split_ands
          go_simp
          try with_reducible rfl
        try simp only [Act.put, List.getElem_toArray, List.getElem_cons_zero, List.getElem_cons_succ, List.setIfInBounds_toArray, List.set_cons_zero, List.set_cons_succ]
        refine till_take (i := 5) (v := ?_) rfl (by kernel_rfl) (fun _ _ _ h => h) (Or.inl ⟨by rfl, ?_⟩) ⟨⟨e0,e1⟩,x3,u0,u1,u2,u3⟩ ?_
        rotate_left
        · intro W hS
          try dsimp only at hS
          go_split_ands
          go_simp
          try with_reducible rfl
        try simp only [Act.put, List.getElem_toArray, List.getElem_cons_zero, List.getElem_cons_succ, List.setIfInBounds_toArray, List.set_cons_zero, List.set_cons_succ]
        refine till_two (i := 6) (j := 7) (by kernel_rfl) rfl rfl (fun K' hK => ?_) (fun K' hK => ?_)
        · go_simp
          go_at_call 39
          (with_reducible refine (RvC.run HCA.out _ HJ.out.below.drew).mono ?_)
          rintro y w1 ⟨hy, b1⟩
          unfold RetW at hy
          subst hy
          have hd := (Below.refl wr.heap.size wr).drew
          have bt := hd.trans (b1.mono hd.size)
          have HJ1 := Lib.hid (HJ.out.up bt)
          replace e0 := cell_up e0 bt
          replace e1 := cell_up e1 bt
          replace x3 := cell_up x3 bt
          replace u0 := cell_up u0 bt
          replace u1 := cell_up u1 bt
          replace u2 := cell_up u2 bt
          replace u3 := cell_up u3 bt
          refine hK _ _ ⟨⟨e0,e1⟩,x3,u0,u1,u2,u3⟩ ?_
          clear hK K' b1 hd bt
          try simp only [Act.put, List.getElem_toArray, List.getElem_cons_zero, List.getElem_cons_succ, List.setIfInBounds_toArray, List.set_cons_zero, List.set_cons_succ]
          refine till_one (i := 7) (by kernel_rfl) rfl (fun K' hK => ?_)
          go_simp
          have bn := (Below.refl w1.heap.size w1).alloc (Nat.le_refl _) (.cells #[.string ⟨#[]⟩, .int .i64 0] 69)
          have HK2 := Lib.hid (HJ1.out.new (.string ⟨#[]⟩) (.int .i64 0))
          refine hK _ _ ⟨⟨cell_up e0 bn, cell_up e1 bn⟩, cell_up x3 bn, cell_up u0 bn, cell_up u1 bn, cell_up u2 bn, cell_up u3 bn⟩ ?_
          clear hK K' bn HJ1 e0 e1 x3 u0 u1 u2 u3
          generalize w1.alloc (.cells #[.string ⟨#[]⟩, .int .i64 0] 69) = w2 at *
          generalize w1.heap.size = z at *
          try simp only [Act.put, List.getElem_toArray, List.getElem_cons_zero, List.getElem_cons_succ, List.setIfInBounds_toArray, List.set_cons_zero, List.set_cons_succ]
          obtain ⟨t0, t1, t2, t3⟩ := (HK2.out.sep.blk 0 rfl).two
          have hm := (HK2.out.sep.blk 0 rfl).lt
          refine till_last (by kernel_rfl) rfl (by kernel_rfl) (fun K' hK => ?_)
          go_simp
          have HK9 := Lib.hid (HK2.out.set2 (.string (wd A)) (.int .i64 A.N))
          refine hK _ _ ?_
          clear hK K'
          try simp only [Act.put, List.getElem_toArray, List.getElem_cons_zero, List.getElem_cons_succ, List.setIfInBounds_toArray, List.set_cons_zero, List.set_cons_succ]
          refine wpAny_done (by kernel_rfl) ?_ _
          go_wp2_with fail
          go_meet
          case rel => exact ⟨z, rfl, HK9.out⟩
        · go_simp
          have bn := below_new wr (.cells #[.string ⟨#[]⟩, .int .i64 0] 69)
          have HK1 := Lib.hid ((HJ.out.new (.string ⟨#[]⟩) (.int .i64 0)).up (Below.refl _ _).drew)
          replace e0 := cell_up e0 bn
          replace e1 := cell_up e1 bn
          replace x3 := cell_up x3 bn
          replace u0 := cell_up u0 bn
          replace u1 := cell_up u1 bn
          replace u2 := cell_up u2 bn
          replace u3 := cell_up u3 bn
          refine hK _ _ ⟨⟨e0,e1⟩,x3,u0,u1,u2,u3⟩ ?_
          clear hK K' bn
          generalize (wr.alloc (.cells #[.string ⟨#[]⟩, .int .i64 0] 69)).drew = w1 at *
          generalize wr.heap.size = z at *
          try simp only [Act.put, List.getElem_toArray, List.getElem_cons_zero, List.getElem_cons_succ, List.setIfInBounds_toArray, List.set_cons_zero, List.set_cons_succ]
          refine till_one (i := 6) (by kernel_rfl) rfl (fun K' hK => ?_)
          go_simp
          go_at_call 39
          (with_reducible refine (RvC.run HCA.out _ HK1.out.below).mono ?_)
          rintro y w2 ⟨hy, b1⟩
          unfold RetW at hy
          subst hy
          have HK2 := Lib.hid (HK1.out.up b1)
          refine hK _ _ ⟨⟨cell_up e0 b1, cell_up e1 b1⟩, cell_up x3 b1, cell_up u0 b1, cell_up u1 b1, cell_up u2 b1, cell_up u3 b1⟩ ?_
          clear hK K' b1 HK1 e0 e1 x3 u0 u1 u2 u3
          try simp only [Act.put, List.getElem_toArray, List.getElem_cons_zero, List.getElem_cons_succ, List.setIfInBounds_toArray, List.set_cons_zero, List.set_cons_succ]
          obtain ⟨t0, t1, t2, t3⟩ := (HK2.out.sep.blk 0 rfl).two
          have hm := (HK2.out.sep.blk 0 rfl).lt
          refine till_last (by kernel_rfl) rfl (by kernel_rfl) (fun K' hK => ?_)
          go_simp
          have HK9 := Lib.hid (HK2.out.set2 (.string (wd A)) (.int .i64 A.N))
          refine hK _ _ ?_
          clear hK K'
          try simp only [Act.put, List.getElem_toArray, List.getElem_cons_zero, List.getElem_cons_succ, List.setIfInBounds_toArray, List.set_cons_zero, List.set_cons_succ]
          refine wpAny_done (by kernel_rfl) ?_ _
          go_wp2_with fail
          go_meet
          case rel => exact ⟨z, rfl, HK9.out⟩
      case rest =>
        obtain ⟨z, rfl, HK⟩ := hcut
        obtain ⟨W0, rfl⟩ : ∃ W : World, W = wc := ⟨_, rfl⟩
        clear HJ e0 e1 x0 x1 x2 x3 HCA H0
        cases A with
        | brk =>
          obtain rfl : R = .brk := HBK.out (List.any_eq_true.2 ⟨_, HVM.out, by simp⟩)
          have t0 : W0.cell? ⟨z, 0, none⟩ = some (.string ⟨#[33]⟩) := (HK.out.sep.blk 0 rfl).cell 0
          have t1 : W0.cell? ⟨z, 1, none⟩ = some (.int .i64 0) := (HK.out.sep.blk 0 rfl).cell 1
          obtain ⟨q0, q1, q2, q3⟩ := HK.out.st.res.two
          have hm := HK.out.st.lt
          have HFN : Hid (Below w.heap.size w ((W0.setCell ⟨w.heap.size + 1 + 1, 0, none⟩ (.string ⟨#[33]⟩)).setCell ⟨w.heap.size + 1 + 1, 1, none⟩ (.int .i64 0)) ∧ Mem.Blk ((W0.setCell ⟨w.heap.size + 1 + 1, 0, none⟩ (.string ⟨#[33]⟩)).setCell ⟨w.heap.size + 1 + 1, 1, none⟩ (.int .i64 0)) (w.heap.size + 1 + 1) 69 #[.string ⟨#[33]⟩, .int .i64 0]) := ⟨(HK.out.st.below.setCell (by show w.heap.size ≤ w.heap.size + 1 + 1; omega) _).setCell (by show w.heap.size ≤ w.heap.size + 1 + 1; omega) _, (HK.out.st.res.set_ 0 _).set_ 1 _⟩
          go_wp2_with fail
          generalize (W0.setCell ⟨w.heap.size + 1 + 1, 0, none⟩ (.string ⟨#[33]⟩)).setCell ⟨w.heap.size + 1 + 1, 1, none⟩ (.int .i64 0) = W9 at *
          obtain ⟨r0, r1, -, -⟩ := HFN.out.2.two
          refine bodyPost_ret (v := .agg #[.string ⟨#[33]⟩, .int .i64 0]) (by simp [results, Try.results39, go_sem, r0, r1]) rfl ⟨rfl, HFN.out.1⟩
        | unk =>
          cases uu
          · have HU2 : Hid (true = (VS ++ [Vl.unk]).any (fun v => decide (v = .unk))) := by
              show true = _
              rw [any_snoc, ← HUU.out]; rfl
            have HN2 : Hid ((VS ++ [Vl.unk]).any (fun v => decide (v = .brk)) = false) := by
              show _ = false
              rw [any_snoc, HNB.out]; rfl
            have t0 : W0.cell? ⟨z, 0, none⟩ = some (.string ⟨#[63]⟩) := (HK.out.sep.blk 0 rfl).cell 0
            have t1 : W0.cell? ⟨z, 1, none⟩ = some (.int .i64 0) := (HK.out.sep.blk 0 rfl).cell 1
            have bn := (Below.refl W0.heap.size W0).alloc (Nat.le_refl _) (.cells #[.string ⟨#[63]⟩, .int .i64 0] 69)
            have HK2 := Lib.hid (HK.out.up bn)
            obtain ⟨csl, hGr⟩ := (HK.out.up bn).sep.at 1 rfl
            have HG := Lib.hid hGr
            clear hGr bn HK HUU HNB
            go_upto_region 21 with (at_builtin; refine ap_row infoW Try.underlying104 rfl (by decide) rfl (.tmp 118) (.tmp 120) rfl rfl HG.out.own HG.out.room ⟨W0.heap.size, 0, none⟩ 1 1 [.string ⟨#[63]⟩, .int .i64 0] rfl rfl (lit_cells_at W0 #[.string ⟨#[63]⟩, .int .i64 0] 69 _ rfl) (by simp [Value.oneCell']) (by have := HLK.out; unfold maxLen; omega) (by have := HLK.out; omega) ?_; intro v1 w1 o1 g1 hv1; have HJ3 := Lib.hid (HK2.out.push (x := Vl.unk) HG.out o1 g1 hv1); clear o1 g1 hv1 HK2 HG)
            rw [← HTK.out] at HU2 HN2 HJ3
            clear t0 t1
            go_wp2_with fail
            go_roundw
            case rel => exact ⟨k + 1, true, by go_num, rfl, by omega, HU2.out, HN2.out, HJ3.out⟩
            case measure => simp [intOf]; omega
          · have HU2 : Hid (true = (VS ++ [Vl.unk]).any (fun v => decide (v = .unk))) := by
              show true = _
              rw [any_snoc, ← HUU.out]; rfl
            have HN2 : Hid ((VS ++ [Vl.unk]).any (fun v => decide (v = .brk)) = false) := by
              show _ = false
              rw [any_snoc, HNB.out]; rfl
            have t0 : W0.cell? ⟨z, 0, none⟩ = some (.string ⟨#[63]⟩) := (HK.out.sep.blk 0 rfl).cell 0
            have t1 : W0.cell? ⟨z, 1, none⟩ = some (.int .i64 0) := (HK.out.sep.blk 0 rfl).cell 1
            have bn := (Below.refl W0.heap.size W0).alloc (Nat.le_refl _) (.cells #[.string ⟨#[63]⟩, .int .i64 0] 69)
            have HK2 := Lib.hid (HK.out.up bn)
            obtain ⟨csl, hGr⟩ := (HK.out.up bn).sep.at 1 rfl
            have HG := Lib.hid hGr
            clear hGr bn HK HUU HNB
            go_upto_region 21 with (at_builtin; refine ap_row infoW Try.underlying104 rfl (by decide) rfl (.tmp 118) (.tmp 120) rfl rfl HG.out.own HG.out.room ⟨W0.heap.size, 0, none⟩ 1 1 [.string ⟨#[63]⟩, .int .i64 0] rfl rfl (lit_cells_at W0 #[.string ⟨#[63]⟩, .int .i64 0] 69 _ rfl) (by simp [Value.oneCell']) (by have := HLK.out; unfold maxLen; omega) (by have := HLK.out; omega) ?_; intro v1 w1 o1 g1 hv1; have HJ3 := Lib.hid (HK2.out.push (x := Vl.unk) HG.out o1 g1 hv1); clear o1 g1 hv1 HK2 HG)
            rw [← HTK.out] at HU2 HN2 HJ3
            clear t0 t1
            go_wp2_with fail
            go_roundw
            case rel => exact ⟨k + 1, true, by go_num, rfl, by omega, HU2.out, HN2.out, HJ3.out⟩
            case measure => simp [intOf]; omega
        | num m =>
          cases uu
          · have HU2 : Hid (false = (VS ++ [(Vl.num m)]).any (fun v => decide (v = .unk))) := by
              show false = _
              rw [any_snoc, ← HUU.out]; rfl
            have HN2 : Hid ((VS ++ [(Vl.num m)]).any (fun v => decide (v = .brk)) = false) := by
              show _ = false
              rw [any_snoc, HNB.out]; rfl
            have t0 : W0.cell? ⟨z, 0, none⟩ = some (.string ⟨#[110]⟩) := (HK.out.sep.blk 0 rfl).cell 0
            have t1 : W0.cell? ⟨z, 1, none⟩ = some (.int .i64 m) := (HK.out.sep.blk 0 rfl).cell 1
            have bn := (Below.refl W0.heap.size W0).alloc (Nat.le_refl _) (.cells #[.string ⟨#[110]⟩, .int .i64 m] 69)
            have HK2 := Lib.hid (HK.out.up bn)
            obtain ⟨csl, hGr⟩ := (HK.out.up bn).sep.at 1 rfl
            have HG := Lib.hid hGr
            clear hGr bn HK HUU HNB
            go_upto_region 21 with (at_builtin; refine ap_row infoW Try.underlying104 rfl (by decide) rfl (.tmp 118) (.tmp 120) rfl rfl HG.out.own HG.out.room ⟨W0.heap.size, 0, none⟩ 1 1 [.string ⟨#[110]⟩, .int .i64 m] rfl rfl (lit_cells_at W0 #[.string ⟨#[110]⟩, .int .i64 m] 69 _ rfl) (by simp [Value.oneCell']) (by have := HLK.out; unfold maxLen; omega) (by have := HLK.out; omega) ?_; intro v1 w1 o1 g1 hv1; have HJ3 := Lib.hid (HK2.out.push (x := (Vl.num m)) HG.out o1 g1 hv1); clear o1 g1 hv1 HK2 HG)
            rw [← HTK.out] at HU2 HN2 HJ3
            clear t0 t1
            go_wp2_with fail
            go_roundw
            case rel => exact ⟨k + 1, false, by go_num, rfl, by omega, HU2.out, HN2.out, HJ3.out⟩
            case measure => simp [intOf]; omega
          · have HU2 : Hid (true = (VS ++ [(Vl.num m)]).any (fun v => decide (v = .unk))) := by
              show true = _
              rw [any_snoc, ← HUU.out]; rfl
            have HN2 : Hid ((VS ++ [(Vl.num m)]).any (fun v => decide (v = .brk)) = false) := by
              show _ = false
              rw [any_snoc, HNB.out]; rfl
            have t0 : W0.cell? ⟨z, 0, none⟩ = some (.string ⟨#[110]⟩) := (HK.out.sep.blk 0 rfl).cell 0
            have t1 : W0.cell? ⟨z, 1, none⟩ = some (.int .i64 m) := (HK.out.sep.blk 0 rfl).cell 1
            have bn := (Below.refl W0.heap.size W0).alloc (Nat.le_refl _) (.cells #[.string ⟨#[110]⟩, .int .i64 m] 69)
            have HK2 := Lib.hid (HK.out.up bn)
            obtain ⟨csl, hGr⟩ := (HK.out.up bn).sep.at 1 rfl
            have HG := Lib.hid hGr
            clear hGr bn HK HUU HNB
            go_upto_region 21 with (at_builtin; refine ap_row infoW Try.underlying104 rfl (by decide) rfl (.tmp 118) (.tmp 120) rfl rfl HG.out.own HG.out.room ⟨W0.heap.size, 0, none⟩ 1 1 [.string ⟨#[110]⟩, .int .i64 m] rfl rfl (lit_cells_at W0 #[.string ⟨#[110]⟩, .int .i64 m] 69 _ rfl) (by simp [Value.oneCell']) (by have := HLK.out; unfold maxLen; omega) (by have := HLK.out; omega) ?_; intro v1 w1 o1 g1 hv1; have HJ3 := Lib.hid (HK2.out.push (x := (Vl.num m)) HG.out o1 g1 hv1); clear o1 g1 hv1 HK2 HG)
            rw [← HTK.out] at HU2 HN2 HJ3
            clear t0 t1
            go_wp2_with fail
            go_roundw
            case rel => exact ⟨k + 1, true, by go_num, rfl, by omega, HU2.out, HN2.out, HJ3.out⟩
            case measure => simp [intOf]; omega
        | tru t =>
          cases t
          · cases uu
            · have HU2 : Hid (false = (VS ++ [(Vl.tru false)]).any (fun v => decide (v = .unk))) := by
                show false = _
                rw [any_snoc, ← HUU.out]; rfl
              have HN2 : Hid ((VS ++ [(Vl.tru false)]).any (fun v => decide (v = .brk)) = false) := by
                show _ = false
                rw [any_snoc, HNB.out]; rfl
              have t0 : W0.cell? ⟨z, 0, none⟩ = some (.string ⟨#[102]⟩) := (HK.out.sep.blk 0 rfl).cell 0
              have t1 : W0.cell? ⟨z, 1, none⟩ = some (.int .i64 0) := (HK.out.sep.blk 0 rfl).cell 1
              have bn := (Below.refl W0.heap.size W0).alloc (Nat.le_refl _) (.cells #[.string ⟨#[102]⟩, .int .i64 0] 69)
              have HK2 := Lib.hid (HK.out.up bn)
              obtain ⟨csl, hGr⟩ := (HK.out.up bn).sep.at 1 rfl
              have HG := Lib.hid hGr
              clear hGr bn HK HUU HNB
              go_upto_region 21 with (at_builtin; refine ap_row infoW Try.underlying104 rfl (by decide) rfl (.tmp 118) (.tmp 120) rfl rfl HG.out.own HG.out.room ⟨W0.heap.size, 0, none⟩ 1 1 [.string ⟨#[102]⟩, .int .i64 0] rfl rfl (lit_cells_at W0 #[.string ⟨#[102]⟩, .int .i64 0] 69 _ rfl) (by simp [Value.oneCell']) (by have := HLK.out; unfold maxLen; omega) (by have := HLK.out; omega) ?_; intro v1 w1 o1 g1 hv1; have HJ3 := Lib.hid (HK2.out.push (x := (Vl.tru false)) HG.out o1 g1 hv1); clear o1 g1 hv1 HK2 HG)
              rw [← HTK.out] at HU2 HN2 HJ3
              clear t0 t1
              go_wp2_with fail
              go_roundw
              case rel => exact ⟨k + 1, false, by go_num, rfl, by omega, HU2.out, HN2.out, HJ3.out⟩
              case measure => simp [intOf]; omega
            · have HU2 : Hid (true = (VS ++ [(Vl.tru false)]).any (fun v => decide (v = .unk))) := by
                show true = _
                rw [any_snoc, ← HUU.out]; rfl
              have HN2 : Hid ((VS ++ [(Vl.tru false)]).any (fun v => decide (v = .brk)) = false) := by
                show _ = false
                rw [any_snoc, HNB.out]; rfl
              have t0 : W0.cell? ⟨z, 0, none⟩ = some (.string ⟨#[102]⟩) := (HK.out.sep.blk 0 rfl).cell 0
              have t1 : W0.cell? ⟨z, 1, none⟩ = some (.int .i64 0) := (HK.out.sep.blk 0 rfl).cell 1
              have bn := (Below.refl W0.heap.size W0).alloc (Nat.le_refl _) (.cells #[.string ⟨#[102]⟩, .int .i64 0] 69)
              have HK2 := Lib.hid (HK.out.up bn)
              obtain ⟨csl, hGr⟩ := (HK.out.up bn).sep.at 1 rfl
              have HG := Lib.hid hGr
              clear hGr bn HK HUU HNB
              go_upto_region 21 with (at_builtin; refine ap_row infoW Try.underlying104 rfl (by decide) rfl (.tmp 118) (.tmp 120) rfl rfl HG.out.own HG.out.room ⟨W0.heap.size, 0, none⟩ 1 1 [.string ⟨#[102]⟩, .int .i64 0] rfl rfl (lit_cells_at W0 #[.string ⟨#[102]⟩, .int .i64 0] 69 _ rfl) (by simp [Value.oneCell']) (by have := HLK.out; unfold maxLen; omega) (by have := HLK.out; omega) ?_; intro v1 w1 o1 g1 hv1; have HJ3 := Lib.hid (HK2.out.push (x := (Vl.tru false)) HG.out o1 g1 hv1); clear o1 g1 hv1 HK2 HG)
              rw [← HTK.out] at HU2 HN2 HJ3
              clear t0 t1
              go_wp2_with fail
              go_roundw
              case rel => exact ⟨k + 1, true, by go_num, rfl, by omega, HU2.out, HN2.out, HJ3.out⟩
              case measure => simp [intOf]; omega
          · cases uu
            · have HU2 : Hid (false = (VS ++ [(Vl.tru true)]).any (fun v => decide (v = .unk))) := by
                show false = _
                rw [any_snoc, ← HUU.out]; rfl
              have HN2 : Hid ((VS ++ [(Vl.tru true)]).any (fun v => decide (v = .brk)) = false) := by
                show _ = false
                rw [any_snoc, HNB.out]; rfl
              have t0 : W0.cell? ⟨z, 0, none⟩ = some (.string ⟨#[116]⟩) := (HK.out.sep.blk 0 rfl).cell 0
              have t1 : W0.cell? ⟨z, 1, none⟩ = some (.int .i64 0) := (HK.out.sep.blk 0 rfl).cell 1
              have bn := (Below.refl W0.heap.size W0).alloc (Nat.le_refl _) (.cells #[.string ⟨#[116]⟩, .int .i64 0] 69)
              have HK2 := Lib.hid (HK.out.up bn)
              obtain ⟨csl, hGr⟩ := (HK.out.up bn).sep.at 1 rfl
              have HG := Lib.hid hGr
              clear hGr bn HK HUU HNB
              go_upto_region 21 with (at_builtin; refine ap_row infoW Try.underlying104 rfl (by decide) rfl (.tmp 118) (.tmp 120) rfl rfl HG.out.own HG.out.room ⟨W0.heap.size, 0, none⟩ 1 1 [.string ⟨#[116]⟩, .int .i64 0] rfl rfl (lit_cells_at W0 #[.string ⟨#[116]⟩, .int .i64 0] 69 _ rfl) (by simp [Value.oneCell']) (by have := HLK.out; unfold maxLen; omega) (by have := HLK.out; omega) ?_; intro v1 w1 o1 g1 hv1; have HJ3 := Lib.hid (HK2.out.push (x := (Vl.tru true)) HG.out o1 g1 hv1); clear o1 g1 hv1 HK2 HG)
              rw [← HTK.out] at HU2 HN2 HJ3
              clear t0 t1
              go_wp2_with fail
              go_roundw
              case rel => exact ⟨k + 1, false, by go_num, rfl, by omega, HU2.out, HN2.out, HJ3.out⟩
              case measure => simp [intOf]; omega
            · have HU2 : Hid (true = (VS ++ [(Vl.tru true)]).any (fun v => decide (v = .unk))) := by
                show true = _
                rw [any_snoc, ← HUU.out]; rfl
              have HN2 : Hid ((VS ++ [(Vl.tru true)]).any (fun v => decide (v = .brk)) = false) := by
                show _ = false
                rw [any_snoc, HNB.out]; rfl
              have t0 : W0.cell? ⟨z, 0, none⟩ = some (.string ⟨#[116]⟩) := (HK.out.sep.blk 0 rfl).cell 0
              have t1 : W0.cell? ⟨z, 1, none⟩ = some (.int .i64 0) := (HK.out.sep.blk 0 rfl).cell 1
              have bn := (Below.refl W0.heap.size W0).alloc (Nat.le_refl _) (.cells #[.string ⟨#[116]⟩, .int .i64 0] 69)
              have HK2 := Lib.hid (HK.out.up bn)
              obtain ⟨csl, hGr⟩ := (HK.out.up bn).sep.at 1 rfl
              have HG := Lib.hid hGr
              clear hGr bn HK HUU HNB
              go_upto_region 21 with (at_builtin; refine ap_row infoW Try.underlying104 rfl (by decide) rfl (.tmp 118) (.tmp 120) rfl rfl HG.out.own HG.out.room ⟨W0.heap.size, 0, none⟩ 1 1 [.string ⟨#[116]⟩, .int .i64 0] rfl rfl (lit_cells_at W0 #[.string ⟨#[116]⟩, .int .i64 0] 69 _ rfl) (by simp [Value.oneCell']) (by have := HLK.out; unfold maxLen; omega) (by have := HLK.out; omega) ?_; intro v1 w1 o1 g1 hv1; have HJ3 := Lib.hid (HK2.out.push (x := (Vl.tru true)) HG.out o1 g1 hv1); clear o1 g1 hv1 HK2 HG)
              rw [← HTK.out] at HU2 HN2 HJ3
              clear t0 t1
              go_wp2_with fail
              go_roundw
              case rel => exact ⟨k + 1, true, by go_num, rfl, by omega, HU2.out, HN2.out, HJ3.out⟩
              case measure => simp [intOf]; omega
    · have hk' : ¬ (k : Int) < (len' : Int) := by omega
      obtain rfl : k = len' := by omega
      have hta : (args.map V).take k = args.map V := List.take_of_length_le (by rw [List.length_map, HL.out]; omega)
      rw [hta] at HUU HNB HJ
      have HFS := Lib.hid (HF.out.kept (Kept.of_below HJ.out.below []))
      cases uu with
      | true =>
        obtain rfl : R = .unk := HU.out HNB.out HUU.out.symm
        clear HUU HNB HBK HU HTT HC hta
        obtain ⟨q0, q1, q2, q3⟩ := HJ.out.st.res.two
        have hm := HJ.out.st.lt
        have HFN : Hid (Below w.heap.size w ((wr.setCell ⟨w.heap.size + 1 + 1, 0, none⟩ (.string ⟨#[63]⟩)).setCell ⟨w.heap.size + 1 + 1, 1, none⟩ (.int .i64 0)) ∧ Mem.Blk ((wr.setCell ⟨w.heap.size + 1 + 1, 0, none⟩ (.string ⟨#[63]⟩)).setCell ⟨w.heap.size + 1 + 1, 1, none⟩ (.int .i64 0)) (w.heap.size + 1 + 1) 69 #[.string ⟨#[63]⟩, .int .i64 0]) := ⟨(HJ.out.st.below.setCell (by show w.heap.size ≤ w.heap.size + 1 + 1; omega) _).setCell (by show w.heap.size ≤ w.heap.size + 1 + 1; omega) _, (HJ.out.st.res.set_ 0 _).set_ 1 _⟩
        go_wp2_with fail
        generalize (wr.setCell ⟨w.heap.size + 1 + 1, 0, none⟩ (.string ⟨#[63]⟩)).setCell ⟨w.heap.size + 1 + 1, 1, none⟩ (.int .i64 0) = W9 at *
        obtain ⟨r0, r1, -, -⟩ := HFN.out.2.two
        refine bodyPost_ret (v := .agg #[.string ⟨#[63]⟩, .int .i64 0]) (by simp [results, Try.results39, go_sem, r0, r1]) rfl ⟨rfl, HFN.out.1⟩
      | false =>
        have hTP := HTT.out HNB.out HUU.out.symm
        clear HUU HNB HBK HU HTT HC hta HF HSA
        obtain ⟨VL, hVL⟩ : ∃ VL, VL = args.map V := ⟨_, rfl⟩
        rw [← hVL] at hTP HJ
        have hl9 : VL.length = k := by rw [hVL, List.length_map]; exact HL.out
        clear hVL HL
        obtain ⟨p, cL, rfl, hval⟩ := HJ.out.val
        have HVV := Lib.hid hval
        clear hval
        cases hTP with
        | lit h =>
          obtain rfl : k = 0 := by simpa using hl9.symm
          rcases h with rfl | rfl
          · obtain ⟨q0, q1, q2, q3⟩ := HJ.out.st.res.two
            have hm := HJ.out.st.lt
            have HFN : Hid (Below w.heap.size w ((wr.setCell ⟨w.heap.size + 1 + 1, 0, none⟩ (.string ⟨#[110]⟩)).setCell ⟨w.heap.size + 1 + 1, 1, none⟩ (.int .i64 n)) ∧ Mem.Blk ((wr.setCell ⟨w.heap.size + 1 + 1, 0, none⟩ (.string ⟨#[110]⟩)).setCell ⟨w.heap.size + 1 + 1, 1, none⟩ (.int .i64 n)) (w.heap.size + 1 + 1) 69 #[.string ⟨#[110]⟩, .int .i64 n]) := ⟨(HJ.out.st.below.setCell (by show w.heap.size ≤ w.heap.size + 1 + 1; omega) _).setCell (by show w.heap.size ≤ w.heap.size + 1 + 1; omega) _, (HJ.out.st.res.set_ 0 _).set_ 1 _⟩
            go_wp2_with fail
            generalize (wr.setCell ⟨w.heap.size + 1 + 1, 0, none⟩ (.string ⟨#[110]⟩)).setCell ⟨w.heap.size + 1 + 1, 1, none⟩ (.int .i64 n) = W9 at *
            obtain ⟨r0, r1, -, -⟩ := HFN.out.2.two
            refine bodyPost_ret (v := .agg #[.string ⟨#[110]⟩, .int .i64 n]) (by simp [results, Try.results39, go_sem, r0, r1]) rfl ⟨rfl, HFN.out.1⟩
          · obtain ⟨q0, q1, q2, q3⟩ := HJ.out.st.res.two
            have hm := HJ.out.st.lt
            have HFN : Hid (Below w.heap.size w ((wr.setCell ⟨w.heap.size + 1 + 1, 0, none⟩ (.string ⟨#[110]⟩)).setCell ⟨w.heap.size + 1 + 1, 1, none⟩ (.int .i64 n)) ∧ Mem.Blk ((wr.setCell ⟨w.heap.size + 1 + 1, 0, none⟩ (.string ⟨#[110]⟩)).setCell ⟨w.heap.size + 1 + 1, 1, none⟩ (.int .i64 n)) (w.heap.size + 1 + 1) 69 #[.string ⟨#[110]⟩, .int .i64 n]) := ⟨(HJ.out.st.below.setCell (by show w.heap.size ≤ w.heap.size + 1 + 1; omega) _).setCell (by show w.heap.size ≤ w.heap.size + 1 + 1; omega) _, (HJ.out.st.res.set_ 0 _).set_ 1 _⟩
            go_wp2_with fail
            generalize (wr.setCell ⟨w.heap.size + 1 + 1, 0, none⟩ (.string ⟨#[110]⟩)).setCell ⟨w.heap.size + 1 + 1, 1, none⟩ (.int .i64 n) = W9 at *
            obtain ⟨r0, r1, -, -⟩ := HFN.out.2.two
            refine bodyPost_ret (v := .agg #[.string ⟨#[110]⟩, .int .i64 n]) (by simp [results, Try.results39, go_sem, r0, r1]) rfl ⟨rfl, HFN.out.1⟩
        | day h =>
          obtain rfl : k = 0 := by simpa using hl9.symm
          subst h
          obtain ⟨q0, q1, q2, q3⟩ := HJ.out.st.res.two
          have hm := HJ.out.st.lt
          have HFN : Hid (Below w.heap.size w ((wr.setCell ⟨w.heap.size + 1 + 1, 0, none⟩ (.string ⟨#[110]⟩)).setCell ⟨w.heap.size + 1 + 1, 1, none⟩ (.int .i64 day)) ∧ Mem.Blk ((wr.setCell ⟨w.heap.size + 1 + 1, 0, none⟩ (.string ⟨#[110]⟩)).setCell ⟨w.heap.size + 1 + 1, 1, none⟩ (.int .i64 day)) (w.heap.size + 1 + 1) 69 #[.string ⟨#[110]⟩, .int .i64 day]) := ⟨(HJ.out.st.below.setCell (by show w.heap.size ≤ w.heap.size + 1 + 1; omega) _).setCell (by show w.heap.size ≤ w.heap.size + 1 + 1; omega) _, (HJ.out.st.res.set_ 0 _).set_ 1 _⟩
          go_wp2_with fail
          generalize (wr.setCell ⟨w.heap.size + 1 + 1, 0, none⟩ (.string ⟨#[110]⟩)).setCell ⟨w.heap.size + 1 + 1, 1, none⟩ (.int .i64 day) = W9 at *
          obtain ⟨r0, r1, -, -⟩ := HFN.out.2.two
          refine bodyPost_ret (v := .agg #[.string ⟨#[110]⟩, .int .i64 day]) (by simp [results, Try.results39, go_sem, r0, r1]) rfl ⟨rfl, HFN.out.1⟩
        | obs r h hr =>
          obtain rfl : k = 0 := by simpa using hl9.symm
          subst h
          have HSE := Lib.hid (rseen_any day fx nm a len cap wr HFS.out)
          have e0 : wr.cell? ⟨w.heap.size + 1, 0, none⟩ = some (.int .i64 day) := HJ.out.st.env.cell 0
          have e1 : wr.cell? ⟨w.heap.size + 1, 1, none⟩ = some (.slice a len cap) := HJ.out.st.env.cell 1
          obtain ⟨x0, x1, x2, x3, -, -, -, -⟩ := blk4 HJ.out.st.ex
          go_wp2_with fail
          go_at_call 37
          (with_reducible refine HSE.out.mono ?_)
          rintro y w2 ⟨rfl, b2⟩
          have HJ2 := Lib.hid (HJ.out.up b2)
          clear b2 HSE HJ HFS e0 e1 x0 x1 x2 x3
          rcases seen_two day fx nm with h | ⟨m, h⟩
          · rw [h] at hr ⊢
            subst hr
            clear h
            simp only [seenRt]
            obtain ⟨q0, q1, q2, q3⟩ := HJ2.out.st.res.two
            have hm := HJ2.out.st.lt
            have HFN : Hid (Below w.heap.size w ((w2.setCell ⟨w.heap.size + 1 + 1, 0, none⟩ (.string ⟨#[63]⟩)).setCell ⟨w.heap.size + 1 + 1, 1, none⟩ (.int .i64 0)) ∧ Mem.Blk ((w2.setCell ⟨w.heap.size + 1 + 1, 0, none⟩ (.string ⟨#[63]⟩)).setCell ⟨w.heap.size + 1 + 1, 1, none⟩ (.int .i64 0)) (w.heap.size + 1 + 1) 69 #[.string ⟨#[63]⟩, .int .i64 0]) := ⟨(HJ2.out.st.below.setCell (by show w.heap.size ≤ w.heap.size + 1 + 1; omega) _).setCell (by show w.heap.size ≤ w.heap.size + 1 + 1; omega) _, (HJ2.out.st.res.set_ 0 _).set_ 1 _⟩
            go_wp2_with fail
            generalize (w2.setCell ⟨w.heap.size + 1 + 1, 0, none⟩ (.string ⟨#[63]⟩)).setCell ⟨w.heap.size + 1 + 1, 1, none⟩ (.int .i64 0) = W9 at *
            obtain ⟨r0, r1, -, -⟩ := HFN.out.2.two
            refine bodyPost_ret (v := .agg #[.string ⟨#[63]⟩, .int .i64 0]) (by simp [results, Try.results39, go_sem, r0, r1]) rfl ⟨rfl, HFN.out.1⟩
          · rw [h] at hr ⊢
            subst hr
            clear h
            simp only [seenRt]
            obtain ⟨q0, q1, q2, q3⟩ := HJ2.out.st.res.two
            have hm := HJ2.out.st.lt
            have HFN : Hid (Below w.heap.size w ((w2.setCell ⟨w.heap.size + 1 + 1, 0, none⟩ (.string ⟨#[110]⟩)).setCell ⟨w.heap.size + 1 + 1, 1, none⟩ (.int .i64 m)) ∧ Mem.Blk ((w2.setCell ⟨w.heap.size + 1 + 1, 0, none⟩ (.string ⟨#[110]⟩)).setCell ⟨w.heap.size + 1 + 1, 1, none⟩ (.int .i64 m)) (w.heap.size + 1 + 1) 69 #[.string ⟨#[110]⟩, .int .i64 m]) := ⟨(HJ2.out.st.below.setCell (by show w.heap.size ≤ w.heap.size + 1 + 1; omega) _).setCell (by show w.heap.size ≤ w.heap.size + 1 + 1; omega) _, (HJ2.out.st.res.set_ 0 _).set_ 1 _⟩
            go_wp2_with fail
            generalize (w2.setCell ⟨w.heap.size + 1 + 1, 0, none⟩ (.string ⟨#[110]⟩)).setCell ⟨w.heap.size + 1 + 1, 1, none⟩ (.int .i64 m) = W9 at *
            obtain ⟨r0, r1, -, -⟩ := HFN.out.2.two
            refine bodyPost_ret (v := .agg #[.string ⟨#[110]⟩, .int .i64 m]) (by simp [results, Try.results39, go_sem, r0, r1]) rfl ⟨rfl, HFN.out.1⟩
        | not t r h hr =>
          obtain rfl : k = 1 := by simpa using hl9.symm
          subst h
          obtain ⟨g, rfl, hv⟩ := HVV.out (by simp)
          have h0 := hv 0 (.tru t) rfl
          clear hv HVV
          have HRR := Lib.hid hr
          clear hr
          cases t with
          | false =>
            have l0 : wr.cell? ⟨g, 0, none⟩ = some (.string ⟨#[102]⟩) := h0.1
            clear h0
            have e0 : wr.cell? ⟨w.heap.size + 1, 0, none⟩ = some (.int .i64 day) := HJ.out.st.env.cell 0
            have e1 : wr.cell? ⟨w.heap.size + 1, 1, none⟩ = some (.slice a len cap) := HJ.out.st.env.cell 1
            obtain ⟨x0, x1, x2, x3, -, -, -, -⟩ := blk4 HJ.out.st.ex
            go_wp2_with fail
            go_at_call 67
            (with_reducible refine (rtruth_any _ _).mono ?_)
            rintro y w2 ⟨hy, b2⟩
            have hy2 : RetW R y := HRR.out ▸ hy
            have HJ2 := Lib.hid (HJ.out.up b2)
            clear b2 hy HJ e0 e1 x0 x1 x2 x3 l0 HRR
            unfold RetW at hy2
            subst hy2
            have HP : Hid (RetW R (.returned (.agg #[.string (wd R), .int .i64 R.N]))) := rfl
            generalize wd R = rk at *
            generalize R.N = rn at *
            obtain ⟨q0, q1, q2, q3⟩ := HJ2.out.st.res.two
            have hm := HJ2.out.st.lt
            have HFN : Hid (Below w.heap.size w ((w2.setCell ⟨w.heap.size + 1 + 1, 0, none⟩ (.string rk)).setCell ⟨w.heap.size + 1 + 1, 1, none⟩ (.int .i64 rn)) ∧ Mem.Blk ((w2.setCell ⟨w.heap.size + 1 + 1, 0, none⟩ (.string rk)).setCell ⟨w.heap.size + 1 + 1, 1, none⟩ (.int .i64 rn)) (w.heap.size + 1 + 1) 69 #[.string rk, .int .i64 rn]) := ⟨(HJ2.out.st.below.setCell (by show w.heap.size ≤ w.heap.size + 1 + 1; omega) _).setCell (by show w.heap.size ≤ w.heap.size + 1 + 1; omega) _, (HJ2.out.st.res.set_ 0 _).set_ 1 _⟩
            go_wp2_with fail
            generalize (w2.setCell ⟨w.heap.size + 1 + 1, 0, none⟩ (.string rk)).setCell ⟨w.heap.size + 1 + 1, 1, none⟩ (.int .i64 rn) = W9 at *
            obtain ⟨r0, r1, -, -⟩ := HFN.out.2.two
            refine bodyPost_ret (v := .agg #[.string rk, .int .i64 rn]) (by simp [results, Try.results39, go_sem, r0, r1]) rfl ⟨HP.out, HFN.out.1⟩
          | true =>
            have l0 : wr.cell? ⟨g, 0, none⟩ = some (.string ⟨#[116]⟩) := h0.1
            clear h0
            have e0 : wr.cell? ⟨w.heap.size + 1, 0, none⟩ = some (.int .i64 day) := HJ.out.st.env.cell 0
            have e1 : wr.cell? ⟨w.heap.size + 1, 1, none⟩ = some (.slice a len cap) := HJ.out.st.env.cell 1
            obtain ⟨x0, x1, x2, x3, -, -, -, -⟩ := blk4 HJ.out.st.ex
            go_wp2_with fail
            go_at_call 67
            (with_reducible refine (rtruth_any _ _).mono ?_)
            rintro y w2 ⟨hy, b2⟩
            have hy2 : RetW R y := HRR.out ▸ hy
            have HJ2 := Lib.hid (HJ.out.up b2)
            clear b2 hy HJ e0 e1 x0 x1 x2 x3 l0 HRR
            unfold RetW at hy2
            subst hy2
            have HP : Hid (RetW R (.returned (.agg #[.string (wd R), .int .i64 R.N]))) := rfl
            generalize wd R = rk at *
            generalize R.N = rn at *
            obtain ⟨q0, q1, q2, q3⟩ := HJ2.out.st.res.two
            have hm := HJ2.out.st.lt
            have HFN : Hid (Below w.heap.size w ((w2.setCell ⟨w.heap.size + 1 + 1, 0, none⟩ (.string rk)).setCell ⟨w.heap.size + 1 + 1, 1, none⟩ (.int .i64 rn)) ∧ Mem.Blk ((w2.setCell ⟨w.heap.size + 1 + 1, 0, none⟩ (.string rk)).setCell ⟨w.heap.size + 1 + 1, 1, none⟩ (.int .i64 rn)) (w.heap.size + 1 + 1) 69 #[.string rk, .int .i64 rn]) := ⟨(HJ2.out.st.below.setCell (by show w.heap.size ≤ w.heap.size + 1 + 1; omega) _).setCell (by show w.heap.size ≤ w.heap.size + 1 + 1; omega) _, (HJ2.out.st.res.set_ 0 _).set_ 1 _⟩
            go_wp2_with fail
            generalize (w2.setCell ⟨w.heap.size + 1 + 1, 0, none⟩ (.string rk)).setCell ⟨w.heap.size + 1 + 1, 1, none⟩ (.int .i64 rn) = W9 at *
            obtain ⟨r0, r1, -, -⟩ := HFN.out.2.two
            refine bodyPost_ret (v := .agg #[.string rk, .int .i64 rn]) (by simp [results, Try.results39, go_sem, r0, r1]) rfl ⟨HP.out, HFN.out.1⟩
        | neg x r h hx hr =>
          obtain rfl : k = 1 := by simpa using hl9.symm
          subst h
          obtain ⟨g, rfl, hv⟩ := HVV.out (by simp)
          have l0 : wr.cell? ⟨g, 1, none⟩ = some (.int .i64 x) := (hv 0 _ rfl).2
          clear hv HVV z17 z18 z21
          have HRR := Lib.hid (show numV (madeM 20 x 0) = R from hr)
          have HMD := Lib.hid (fun W => made_any 20 x 0 W hx (by unfold I64; omega))
          clear hr hx
          have e0 : wr.cell? ⟨w.heap.size + 1, 0, none⟩ = some (.int .i64 day) := HJ.out.st.env.cell 0
          have e1 : wr.cell? ⟨w.heap.size + 1, 1, none⟩ = some (.slice a len cap) := HJ.out.st.env.cell 1
          obtain ⟨x0, x1, x2, x3, -, -, -, -⟩ := blk4 HJ.out.st.ex
          go_upto_region 57 with (fail)
          clear e0 e1 x1 x2 x3
          refine wp_region_till (S := fun W => W.cell? ⟨w.heap.size, 0, none⟩ = some (.int .i64 20) ∧ W.cell? ⟨g, 1, none⟩ = some (.int .i64 x)) 7 (by kernel_rfl) ?_
          refine till_take (i := 0) (v := ?_) rfl (by kernel_rfl) (fun _ _ _ h => h) (Or.inl ⟨by rfl, ?_⟩) ⟨x0,l0⟩ ?_
          rotate_left
          · intro W hS
            try dsimp only at hS
            go_split_ands
            go_simp
            try with_reducible rfl
          try simp only [Act.put, List.getElem_toArray, List.getElem_cons_zero, List.getElem_cons_succ, List.setIfInBounds_toArray, List.set_cons_zero, List.set_cons_succ]
          refine till_take (i := 1) (v := ?_) rfl (by kernel_rfl) (fun _ _ _ h => h) (Or.inl ⟨by rfl, ?_⟩) ⟨x0,l0⟩ ?_
          rotate_left
          · intro W hS
            try dsimp only at hS
            go_split_ands
            go_simp
            try with_reducible rfl
          try simp only [Act.put, List.getElem_toArray, List.getElem_cons_zero, List.getElem_cons_succ, List.setIfInBounds_toArray, List.set_cons_zero, List.set_cons_succ]
          refine till_take (i := 2) (v := ?_) rfl (by kernel_rfl) (fun _ _ _ h => h) (Or.inl ⟨by rfl, ?_⟩) ⟨x0,l0⟩ ?_
          rotate_left
          · intro W hS
            try dsimp only at hS
            go_split_ands
            go_simp
            try with_reducible rfl
          try simp only [Act.put, List.getElem_toArray, List.getElem_cons_zero, List.getElem_cons_succ, List.setIfInBounds_toArray, List.set_cons_zero, List.set_cons_succ]
          refine till_take (i := 3) (v := ?_) rfl (by kernel_rfl) (fun _ _ _ h => h) (Or.inl ⟨by rfl, ?_⟩) ⟨x0,l0⟩ ?_
          rotate_left
          · intro W hS
            try dsimp only at hS
            go_split_ands
            go_simp
            try with_reducible rfl
          try simp only [Act.put, List.getElem_toArray, List.getElem_cons_zero, List.getElem_cons_succ, List.setIfInBounds_toArray, List.set_cons_zero, List.set_cons_succ]
          refine till_take (i := 4) (v := ?_) rfl (by kernel_rfl) (fun _ _ _ h => h) (Or.inl ⟨by rfl, ?_⟩) ⟨x0,l0⟩ ?_
          rotate_left
          · intro W hS
            try dsimp only at hS
            go_split_ands
            go_simp
            try with_reducible rfl
          try simp only [Act.put, List.getElem_toArray, List.getElem_cons_zero, List.getElem_cons_succ, List.setIfInBounds_toArray, List.set_cons_zero, List.set_cons_succ]
          refine till_take (i := 5) (v := ?_) rfl (by kernel_rfl) (fun _ _ _ h => h) (Or.inl ⟨by rfl, ?_⟩) ⟨x0,l0⟩ ?_
          rotate_left
          · intro W hS
            try dsimp only at hS
            go_split_ands
            go_simp
            try with_reducible rfl
          try simp only [Act.put, List.getElem_toArray, List.getElem_cons_zero, List.getElem_cons_succ, List.setIfInBounds_toArray, List.set_cons_zero, List.set_cons_succ]
          refine till_take (i := 6) (v := ?_) rfl (by kernel_rfl) (fun _ _ _ h => h) (Or.inl ⟨by rfl, ?_⟩) ⟨x0,l0⟩ ?_
          rotate_left
          · intro W hS
            try dsimp only at hS
            go_split_ands
            go_simp
            try with_reducible rfl
          try simp only [Act.put, List.getElem_toArray, List.getElem_cons_zero, List.getElem_cons_succ, List.setIfInBounds_toArray, List.set_cons_zero, List.set_cons_succ]
          refine till_last (by kernel_rfl) rfl (by kernel_rfl) (fun K' hK => ?_)
          go_simp
          go_at_call 61
          (with_reducible refine (HMD.out _).mono ?_)
          rintro y' w2 ⟨rfl, b1⟩
          have hd := (Below.refl wr.heap.size wr).drew
          have HJ2 := Lib.hid (HJ.out.up (hd.trans (b1.mono hd.size)))
          clear b1 hd HMD HJ x0 l0
          unfold fitR fitN fitB
          refine hK _ _ ?_
          clear hK K'
          try simp only [Act.put, List.getElem_toArray, List.getElem_cons_zero, List.getElem_cons_succ, List.setIfInBounds_toArray, List.set_cons_zero, List.set_cons_succ]
          refine any_take (i := 8) (v := ?_) rfl (by kernel_rfl) (fun _ _ _ h => h) (Or.inl ⟨by rfl, ?_⟩) ?_
          rotate_left
          · intro W
            go_simp
            try with_reducible rfl
          try simp only [Act.put, List.getElem_toArray, List.getElem_cons_zero, List.getElem_cons_succ, List.setIfInBounds_toArray, List.set_cons_zero, List.set_cons_succ]
          refine any_take (i := 9) (v := ?_) rfl (by kernel_rfl) (fun _ _ _ h => h) (Or.inl ⟨by rfl, ?_⟩) ?_
          rotate_left
          · intro W
            go_simp
            try with_reducible rfl
          try simp only [Act.put, List.getElem_toArray, List.getElem_cons_zero, List.getElem_cons_succ, List.setIfInBounds_toArray, List.set_cons_zero, List.set_cons_succ]
          refine any_take (i := 10) (v := ?_) rfl (by kernel_rfl) (fun _ _ _ h => h) (Or.inl ⟨by rfl, ?_⟩) ?_
          rotate_left
          · intro W
            go_simp
            try with_reducible rfl
          try simp only [Act.put, List.getElem_toArray, List.getElem_cons_zero, List.getElem_cons_succ, List.setIfInBounds_toArray, List.set_cons_zero, List.set_cons_succ]
          refine any_take (i := 11) (v := ?_) rfl (by kernel_rfl) (fun _ _ _ h => h) (Or.inl ⟨by rfl, ?_⟩) ?_
          rotate_left
          · intro W
            go_simp
            try with_reducible rfl
          try simp only [Act.put, List.getElem_toArray, List.getElem_cons_zero, List.getElem_cons_succ, List.setIfInBounds_toArray, List.set_cons_zero, List.set_cons_succ]
          refine any_take (i := 12) (v := ?_) rfl (by kernel_rfl) (fun _ _ _ h => h) (Or.inl ⟨by rfl, ?_⟩) ?_
          rotate_left
          · intro W
            go_simp
            try with_reducible rfl
          try simp only [Act.put, List.getElem_toArray, List.getElem_cons_zero, List.getElem_cons_succ, List.setIfInBounds_toArray, List.set_cons_zero, List.set_cons_succ]
          refine wpAny_done (by kernel_rfl) ?_ _
          generalize madeM 20 x 0 = oo at *
          cases oo with
          | none =>
            obtain rfl : R = .brk := HRR.out.symm
            clear HRR
            simp only [Option.isSome, Option.getD]
            obtain ⟨q0, q1, q2, q3⟩ := HJ2.out.st.res.two
            have hm := HJ2.out.st.lt
            have HFN : Hid (Below w.heap.size w ((w2.setCell ⟨w.heap.size + 1 + 1, 0, none⟩ (.string ⟨#[33]⟩)).setCell ⟨w.heap.size + 1 + 1, 1, none⟩ (.int .i64 0)) ∧ Mem.Blk ((w2.setCell ⟨w.heap.size + 1 + 1, 0, none⟩ (.string ⟨#[33]⟩)).setCell ⟨w.heap.size + 1 + 1, 1, none⟩ (.int .i64 0)) (w.heap.size + 1 + 1) 69 #[.string ⟨#[33]⟩, .int .i64 0]) := ⟨(HJ2.out.st.below.setCell (by show w.heap.size ≤ w.heap.size + 1 + 1; omega) _).setCell (by show w.heap.size ≤ w.heap.size + 1 + 1; omega) _, (HJ2.out.st.res.set_ 0 _).set_ 1 _⟩
            go_wp2_with fail
            generalize (w2.setCell ⟨w.heap.size + 1 + 1, 0, none⟩ (.string ⟨#[33]⟩)).setCell ⟨w.heap.size + 1 + 1, 1, none⟩ (.int .i64 0) = W9 at *
            obtain ⟨r0, r1, -, -⟩ := HFN.out.2.two
            refine bodyPost_ret (v := .agg #[.string ⟨#[33]⟩, .int .i64 0]) (by simp [results, Try.results39, go_sem, r0, r1]) rfl ⟨rfl, HFN.out.1⟩
          | some m =>
            obtain rfl : R = .num m := HRR.out.symm
            clear HRR
            simp only [Option.isSome, Option.getD]
            obtain ⟨q0, q1, q2, q3⟩ := HJ2.out.st.res.two
            have hm := HJ2.out.st.lt
            have HFN : Hid (Below w.heap.size w ((w2.setCell ⟨w.heap.size + 1 + 1, 0, none⟩ (.string ⟨#[110]⟩)).setCell ⟨w.heap.size + 1 + 1, 1, none⟩ (.int .i64 m)) ∧ Mem.Blk ((w2.setCell ⟨w.heap.size + 1 + 1, 0, none⟩ (.string ⟨#[110]⟩)).setCell ⟨w.heap.size + 1 + 1, 1, none⟩ (.int .i64 m)) (w.heap.size + 1 + 1) 69 #[.string ⟨#[110]⟩, .int .i64 m]) := ⟨(HJ2.out.st.below.setCell (by show w.heap.size ≤ w.heap.size + 1 + 1; omega) _).setCell (by show w.heap.size ≤ w.heap.size + 1 + 1; omega) _, (HJ2.out.st.res.set_ 0 _).set_ 1 _⟩
            go_wp2_with fail
            generalize (w2.setCell ⟨w.heap.size + 1 + 1, 0, none⟩ (.string ⟨#[110]⟩)).setCell ⟨w.heap.size + 1 + 1, 1, none⟩ (.int .i64 m) = W9 at *
            obtain ⟨r0, r1, -, -⟩ := HFN.out.2.two
            refine bodyPost_ret (v := .agg #[.string ⟨#[110]⟩, .int .i64 m]) (by simp [results, Try.results39, go_sem, r0, r1]) rfl ⟨rfl, HFN.out.1⟩
        | ar x y r h hx hy hr =>
          obtain rfl : k = 2 := by simpa using hl9.symm
          obtain ⟨g, rfl, hv⟩ := HVV.out (by simp)
          have l0 : wr.cell? ⟨g, 1, none⟩ = some (.int .i64 x) := (hv 0 _ rfl).2
          have l1 : wr.cell? ⟨g, 3, none⟩ = some (.int .i64 y) := (hv 1 _ rfl).2
          have HRR := Lib.hid (show numV (madeM op x y) = R by rw [made_val h]; exact hr)
          have HMD := Lib.hid (fun W => made_any op x y W hx hy)
          have y1 : (op == 1) = false := beq_eq_false_iff_ne.2 (by omega)
          have y2 : (op == 2) = false := beq_eq_false_iff_ne.2 (by omega)
          have y3 : (op == 3) = false := beq_eq_false_iff_ne.2 (by omega)
          have y4 : (op == 4) = false := beq_eq_false_iff_ne.2 (by omega)
          have y5 : (op == 19) = false := beq_eq_false_iff_ne.2 (by omega)
          have y6 : (op == 11) = false := beq_eq_false_iff_ne.2 (by omega)
          have y7 : (op == 12) = false := beq_eq_false_iff_ne.2 (by omega)
          have y8 : (op == 13) = false := beq_eq_false_iff_ne.2 (by omega)
          have y9 : (op == 14) = false := beq_eq_false_iff_ne.2 (by omega)
          have y10 : (op == 15) = false := beq_eq_false_iff_ne.2 (by omega)
          have y11 : (op == 16) = false := beq_eq_false_iff_ne.2 (by omega)
          clear hv HVV hr hx hy h
          have e0 : wr.cell? ⟨w.heap.size + 1, 0, none⟩ = some (.int .i64 day) := HJ.out.st.env.cell 0
          have e1 : wr.cell? ⟨w.heap.size + 1, 1, none⟩ = some (.slice a len cap) := HJ.out.st.env.cell 1
          obtain ⟨x0, x1, x2, x3, -, -, -, -⟩ := blk4 HJ.out.st.ex
          go_upto_region 57 with (fail)
          clear l1 y1 y2 y3 y4 y5 y6 y7 y8 y9 y10 y11 z17 z18 z21
          clear e0 e1 x1 x2 x3
          refine wp_region_till (S := fun W => W.cell? ⟨w.heap.size, 0, none⟩ = some (.int .i64 op) ∧ W.cell? ⟨g, 1, none⟩ = some (.int .i64 x)) 7 (by kernel_rfl) ?_
          refine till_take (i := 0) (v := ?_) rfl (by kernel_rfl) (fun _ _ _ h => h) (Or.inl ⟨by rfl, ?_⟩) ⟨x0,l0⟩ ?_
          rotate_left
          · intro W hS
            try dsimp only at hS
            go_split_ands
            go_simp
            try with_reducible rfl
          try simp only [Act.put, List.getElem_toArray, List.getElem_cons_zero, List.getElem_cons_succ, List.setIfInBounds_toArray, List.set_cons_zero, List.set_cons_succ]
          refine till_take (i := 1) (v := ?_) rfl (by kernel_rfl) (fun _ _ _ h => h) (Or.inl ⟨by rfl, ?_⟩) ⟨x0,l0⟩ ?_
          rotate_left
          · intro W hS
            try dsimp only at hS
            go_split_ands
            go_simp
            try with_reducible rfl
          try simp only [Act.put, List.getElem_toArray, List.getElem_cons_zero, List.getElem_cons_succ, List.setIfInBounds_toArray, List.set_cons_zero, List.set_cons_succ]
          refine till_take (i := 2) (v := ?_) rfl (by kernel_rfl) (fun _ _ _ h => h) (Or.inl ⟨by rfl, ?_⟩) ⟨x0,l0⟩ ?_
          rotate_left
          · intro W hS
            try dsimp only at hS
            go_split_ands
            go_simp
            try with_reducible rfl
          try simp only [Act.put, List.getElem_toArray, List.getElem_cons_zero, List.getElem_cons_succ, List.setIfInBounds_toArray, List.set_cons_zero, List.set_cons_succ]
          refine till_take (i := 3) (v := ?_) rfl (by kernel_rfl) (fun _ _ _ h => h) (Or.inl ⟨by rfl, ?_⟩) ⟨x0,l0⟩ ?_
          rotate_left
          · intro W hS
            try dsimp only at hS
            go_split_ands
            go_simp
            try with_reducible rfl
          try simp only [Act.put, List.getElem_toArray, List.getElem_cons_zero, List.getElem_cons_succ, List.setIfInBounds_toArray, List.set_cons_zero, List.set_cons_succ]
          refine till_take (i := 4) (v := ?_) rfl (by kernel_rfl) (fun _ _ _ h => h) (Or.inl ⟨by rfl, ?_⟩) ⟨x0,l0⟩ ?_
          rotate_left
          · intro W hS
            try dsimp only at hS
            go_split_ands
            go_simp
            try with_reducible rfl
          try simp only [Act.put, List.getElem_toArray, List.getElem_cons_zero, List.getElem_cons_succ, List.setIfInBounds_toArray, List.set_cons_zero, List.set_cons_succ]
          refine till_take (i := 5) (v := ?_) rfl (by kernel_rfl) (fun _ _ _ h => h) (Or.inl ⟨by rfl, ?_⟩) ⟨x0,l0⟩ ?_
          rotate_left
          · intro W hS
            try dsimp only at hS
            go_split_ands
            go_simp
            try with_reducible rfl
          try simp only [Act.put, List.getElem_toArray, List.getElem_cons_zero, List.getElem_cons_succ, List.setIfInBounds_toArray, List.set_cons_zero, List.set_cons_succ]
          refine till_take (i := 6) (v := ?_) rfl (by kernel_rfl) (fun _ _ _ h => h) (Or.inl ⟨by rfl, ?_⟩) ⟨x0,l0⟩ ?_
          rotate_left
          · intro W hS
            try dsimp only at hS
            go_split_ands
            go_simp
            try with_reducible rfl
          try simp only [Act.put, List.getElem_toArray, List.getElem_cons_zero, List.getElem_cons_succ, List.setIfInBounds_toArray, List.set_cons_zero, List.set_cons_succ]
          refine till_last (by kernel_rfl) rfl (by kernel_rfl) (fun K' hK => ?_)
          go_simp
          go_at_call 61
          (with_reducible refine (HMD.out _).mono ?_)
          rintro y' w2 ⟨rfl, b1⟩
          have hd := (Below.refl wr.heap.size wr).drew
          have HJ2 := Lib.hid (HJ.out.up (hd.trans (b1.mono hd.size)))
          clear b1 hd HMD HJ x0 l0
          unfold fitR fitN fitB
          refine hK _ _ ?_
          clear hK K'
          try simp only [Act.put, List.getElem_toArray, List.getElem_cons_zero, List.getElem_cons_succ, List.setIfInBounds_toArray, List.set_cons_zero, List.set_cons_succ]
          refine any_take (i := 8) (v := ?_) rfl (by kernel_rfl) (fun _ _ _ h => h) (Or.inl ⟨by rfl, ?_⟩) ?_
          rotate_left
          · intro W
            go_simp
            try with_reducible rfl
          try simp only [Act.put, List.getElem_toArray, List.getElem_cons_zero, List.getElem_cons_succ, List.setIfInBounds_toArray, List.set_cons_zero, List.set_cons_succ]
          refine any_take (i := 9) (v := ?_) rfl (by kernel_rfl) (fun _ _ _ h => h) (Or.inl ⟨by rfl, ?_⟩) ?_
          rotate_left
          · intro W
            go_simp
            try with_reducible rfl
          try simp only [Act.put, List.getElem_toArray, List.getElem_cons_zero, List.getElem_cons_succ, List.setIfInBounds_toArray, List.set_cons_zero, List.set_cons_succ]
          refine any_take (i := 10) (v := ?_) rfl (by kernel_rfl) (fun _ _ _ h => h) (Or.inl ⟨by rfl, ?_⟩) ?_
          rotate_left
          · intro W
            go_simp
            try with_reducible rfl
          try simp only [Act.put, List.getElem_toArray, List.getElem_cons_zero, List.getElem_cons_succ, List.setIfInBounds_toArray, List.set_cons_zero, List.set_cons_succ]
          refine any_take (i := 11) (v := ?_) rfl (by kernel_rfl) (fun _ _ _ h => h) (Or.inl ⟨by rfl, ?_⟩) ?_
          rotate_left
          · intro W
            go_simp
            try with_reducible rfl
          try simp only [Act.put, List.getElem_toArray, List.getElem_cons_zero, List.getElem_cons_succ, List.setIfInBounds_toArray, List.set_cons_zero, List.set_cons_succ]
          refine any_take (i := 12) (v := ?_) rfl (by kernel_rfl) (fun _ _ _ h => h) (Or.inl ⟨by rfl, ?_⟩) ?_
          rotate_left
          · intro W
            go_simp
            try with_reducible rfl
          try simp only [Act.put, List.getElem_toArray, List.getElem_cons_zero, List.getElem_cons_succ, List.setIfInBounds_toArray, List.set_cons_zero, List.set_cons_succ]
          refine wpAny_done (by kernel_rfl) ?_ _
          generalize madeM op x y = oo at *
          cases oo with
          | none =>
            obtain rfl : R = .brk := HRR.out.symm
            clear HRR
            simp only [Option.isSome, Option.getD]
            obtain ⟨q0, q1, q2, q3⟩ := HJ2.out.st.res.two
            have hm := HJ2.out.st.lt
            have HFN : Hid (Below w.heap.size w ((w2.setCell ⟨w.heap.size + 1 + 1, 0, none⟩ (.string ⟨#[33]⟩)).setCell ⟨w.heap.size + 1 + 1, 1, none⟩ (.int .i64 0)) ∧ Mem.Blk ((w2.setCell ⟨w.heap.size + 1 + 1, 0, none⟩ (.string ⟨#[33]⟩)).setCell ⟨w.heap.size + 1 + 1, 1, none⟩ (.int .i64 0)) (w.heap.size + 1 + 1) 69 #[.string ⟨#[33]⟩, .int .i64 0]) := ⟨(HJ2.out.st.below.setCell (by show w.heap.size ≤ w.heap.size + 1 + 1; omega) _).setCell (by show w.heap.size ≤ w.heap.size + 1 + 1; omega) _, (HJ2.out.st.res.set_ 0 _).set_ 1 _⟩
            go_wp2_with fail
            generalize (w2.setCell ⟨w.heap.size + 1 + 1, 0, none⟩ (.string ⟨#[33]⟩)).setCell ⟨w.heap.size + 1 + 1, 1, none⟩ (.int .i64 0) = W9 at *
            obtain ⟨r0, r1, -, -⟩ := HFN.out.2.two
            refine bodyPost_ret (v := .agg #[.string ⟨#[33]⟩, .int .i64 0]) (by simp [results, Try.results39, go_sem, r0, r1]) rfl ⟨rfl, HFN.out.1⟩
          | some m =>
            obtain rfl : R = .num m := HRR.out.symm
            clear HRR
            simp only [Option.isSome, Option.getD]
            obtain ⟨q0, q1, q2, q3⟩ := HJ2.out.st.res.two
            have hm := HJ2.out.st.lt
            have HFN : Hid (Below w.heap.size w ((w2.setCell ⟨w.heap.size + 1 + 1, 0, none⟩ (.string ⟨#[110]⟩)).setCell ⟨w.heap.size + 1 + 1, 1, none⟩ (.int .i64 m)) ∧ Mem.Blk ((w2.setCell ⟨w.heap.size + 1 + 1, 0, none⟩ (.string ⟨#[110]⟩)).setCell ⟨w.heap.size + 1 + 1, 1, none⟩ (.int .i64 m)) (w.heap.size + 1 + 1) 69 #[.string ⟨#[110]⟩, .int .i64 m]) := ⟨(HJ2.out.st.below.setCell (by show w.heap.size ≤ w.heap.size + 1 + 1; omega) _).setCell (by show w.heap.size ≤ w.heap.size + 1 + 1; omega) _, (HJ2.out.st.res.set_ 0 _).set_ 1 _⟩
            go_wp2_with fail
            generalize (w2.setCell ⟨w.heap.size + 1 + 1, 0, none⟩ (.string ⟨#[110]⟩)).setCell ⟨w.heap.size + 1 + 1, 1, none⟩ (.int .i64 m) = W9 at *
            obtain ⟨r0, r1, -, -⟩ := HFN.out.2.two
            refine bodyPost_ret (v := .agg #[.string ⟨#[110]⟩, .int .i64 m]) (by simp [results, Try.results39, go_sem, r0, r1]) rfl ⟨rfl, HFN.out.1⟩
        | cmp x y r h hr =>
          obtain rfl : k = 2 := by simpa using hl9.symm
          obtain ⟨g, rfl, hv⟩ := HVV.out (by simp)
          have l0 : wr.cell? ⟨g, 1, none⟩ = some (.int .i64 x) := (hv 0 _ rfl).2
          have l1 : wr.cell? ⟨g, 3, none⟩ = some (.int .i64 y) := (hv 1 _ rfl).2
          clear hv HVV z17 z18 z21
          have HRR := Lib.hid hr
          clear hr
          have hop : op = 11 ∨ op = 12 ∨ op = 13 ∨ op = 14 ∨ op = 15 ∨ op = 16 := by omega
          clear h
          rcases hop with rfl | rfl | rfl | rfl | rfl | rfl
          · have HB9 : Hid (Vl.tru (decide (x < y)) = R) := by rw [← HRR.out]; exact congrArg Vl.tru (show (decide (x < y)) = cmpV _ x y from rfl)
            have e0 : wr.cell? ⟨w.heap.size + 1, 0, none⟩ = some (.int .i64 day) := HJ.out.st.env.cell 0
            have e1 : wr.cell? ⟨w.heap.size + 1, 1, none⟩ = some (.slice a len cap) := HJ.out.st.env.cell 1
            obtain ⟨x0, x1, x2, x3, -, -, -, -⟩ := blk4 HJ.out.st.ex
            go_wp2_with fail
            clear e0 e1 x0 x1 x2 x3
            refine wp_region_till (S := fun W => W.cell? ⟨g, 1, none⟩ = some (.int .i64 x) ∧ W.cell? ⟨g, 3, none⟩ = some (.int .i64 y)) 10 (by kernel_rfl) ?_
            refine till_take (i := 0) (v := ?_) rfl (by kernel_rfl) (fun _ _ _ h => h) (Or.inl ⟨by rfl, ?_⟩) ⟨l0,l1⟩ ?_
            rotate_left
            · intro W hS
              try dsimp only at hS
              go_split_ands
              go_simp
              try with_reducible rfl
            try simp only [Act.put, List.getElem_toArray, List.getElem_cons_zero, List.getElem_cons_succ, List.setIfInBounds_toArray, List.set_cons_zero, List.set_cons_succ]
            refine till_take (i := 1) (v := ?_) rfl (by kernel_rfl) (fun _ _ _ h => h) (Or.inl ⟨by rfl, ?_⟩) ⟨l0,l1⟩ ?_
            rotate_left
            · intro W hS
              try dsimp only at hS
              go_split_ands
              go_simp
              try with_reducible rfl
            try simp only [Act.put, List.getElem_toArray, List.getElem_cons_zero, List.getElem_cons_succ, List.setIfInBounds_toArray, List.set_cons_zero, List.set_cons_succ]
            refine till_take (i := 2) (v := ?_) rfl (by kernel_rfl) (fun _ _ _ h => h) (Or.inl ⟨by rfl, ?_⟩) ⟨l0,l1⟩ ?_
            rotate_left
            · intro W hS
              try dsimp only at hS
              go_split_ands
              go_simp
              try with_reducible rfl
            try simp only [Act.put, List.getElem_toArray, List.getElem_cons_zero, List.getElem_cons_succ, List.setIfInBounds_toArray, List.set_cons_zero, List.set_cons_succ]
            refine till_take (i := 3) (v := ?_) rfl (by kernel_rfl) (fun _ _ _ h => h) (Or.inl ⟨by rfl, ?_⟩) ⟨l0,l1⟩ ?_
            rotate_left
            · intro W hS
              try dsimp only at hS
              go_split_ands
              go_simp
              try with_reducible rfl
            try simp only [Act.put, List.getElem_toArray, List.getElem_cons_zero, List.getElem_cons_succ, List.setIfInBounds_toArray, List.set_cons_zero, List.set_cons_succ]
            refine till_take (i := 4) (v := ?_) rfl (by kernel_rfl) (fun _ _ _ h => h) (Or.inl ⟨by rfl, ?_⟩) ⟨l0,l1⟩ ?_
            rotate_left
            · intro W hS
              try dsimp only at hS
              go_split_ands
              go_simp
              try with_reducible rfl
            try simp only [Act.put, List.getElem_toArray, List.getElem_cons_zero, List.getElem_cons_succ, List.setIfInBounds_toArray, List.set_cons_zero, List.set_cons_succ]
            refine till_take (i := 5) (v := ?_) rfl (by kernel_rfl) (fun _ _ _ h => h) (Or.inl ⟨by rfl, ?_⟩) ⟨l0,l1⟩ ?_
            rotate_left
            · intro W hS
              try dsimp only at hS
              go_split_ands
              go_simp
              try with_reducible rfl
            try simp only [Act.put, List.getElem_toArray, List.getElem_cons_zero, List.getElem_cons_succ, List.setIfInBounds_toArray, List.set_cons_zero, List.set_cons_succ]
            refine till_take (i := 6) (v := ?_) rfl (by kernel_rfl) (fun _ _ _ h => h) (Or.inl ⟨by rfl, ?_⟩) ⟨l0,l1⟩ ?_
            rotate_left
            · intro W hS
              try dsimp only at hS
              go_split_ands
              go_simp
              try with_reducible rfl
            try simp only [Act.put, List.getElem_toArray, List.getElem_cons_zero, List.getElem_cons_succ, List.setIfInBounds_toArray, List.set_cons_zero, List.set_cons_succ]
            refine till_take (i := 7) (v := ?_) rfl (by kernel_rfl) (fun _ _ _ h => h) (Or.inl ⟨by rfl, ?_⟩) ⟨l0,l1⟩ ?_
            rotate_left
            · intro W hS
              try dsimp only at hS
              go_split_ands
              go_simp
              try with_reducible rfl
            try simp only [Act.put, List.getElem_toArray, List.getElem_cons_zero, List.getElem_cons_succ, List.setIfInBounds_toArray, List.set_cons_zero, List.set_cons_succ]
            refine till_take (i := 8) (v := ?_) rfl (by kernel_rfl) (fun _ _ _ h => h) (Or.inl ⟨by rfl, ?_⟩) ⟨l0,l1⟩ ?_
            rotate_left
            · intro W hS
              try dsimp only at hS
              go_split_ands
              go_simp
              try with_reducible rfl
            try simp only [Act.put, List.getElem_toArray, List.getElem_cons_zero, List.getElem_cons_succ, List.setIfInBounds_toArray, List.set_cons_zero, List.set_cons_succ]
            skip
            refine till_one (i := 9) (by kernel_rfl) rfl (fun K' hK => ?_)
            go_simp
            go_at_call 67
            (with_reducible refine (rtruth_any (decide (x < y)) _).mono ?_)
            rintro y' w2 ⟨hy, b1⟩
            rw [HB9.out] at hy
            have hd := (Below.refl wr.heap.size wr).drew
            have b2 := hd.trans (b1.mono hd.size)
            have HJ2 := Lib.hid (HJ.out.up b2)
            replace l0 := cell_up l0 b2
            replace l1 := cell_up l1 b2
            unfold RetW at hy
            subst hy
            have HP : Hid (RetW R (.returned (.agg #[.string (wd R), .int .i64 R.N]))) := rfl
            refine hK _ _ ⟨l0,l1⟩ ?_
            clear hK K' b1 b2 hd l0 l1 HB9 HRR HJ
            generalize wd R = rk at *
            generalize R.N = rn at *
            try simp only [Act.put, List.getElem_toArray, List.getElem_cons_zero, List.getElem_cons_succ, List.setIfInBounds_toArray, List.set_cons_zero, List.set_cons_succ]
            have HFN : Hid (Below w.heap.size w ((w2.setCell ⟨w.heap.size + 1 + 1, 0, none⟩ (.string rk)).setCell ⟨w.heap.size + 1 + 1, 1, none⟩ (.int .i64 rn)) ∧ Mem.Blk ((w2.setCell ⟨w.heap.size + 1 + 1, 0, none⟩ (.string rk)).setCell ⟨w.heap.size + 1 + 1, 1, none⟩ (.int .i64 rn)) (w.heap.size + 1 + 1) 69 #[.string rk, .int .i64 rn]) := ⟨(HJ2.out.st.below.setCell (by show w.heap.size ≤ w.heap.size + 1 + 1; omega) _).setCell (by show w.heap.size ≤ w.heap.size + 1 + 1; omega) _, (HJ2.out.st.res.set_ 0 _).set_ 1 _⟩
            obtain ⟨q0, q1, q2, q3⟩ := HJ2.out.st.res.two
            have hm := HJ2.out.st.lt
            refine till_last (by kernel_rfl) rfl (by kernel_rfl) (fun K' hK => ?_)
            go_simp
            refine hK _ _ ?_
            clear hK K'
            try simp only [Act.put, List.getElem_toArray, List.getElem_cons_zero, List.getElem_cons_succ, List.setIfInBounds_toArray, List.set_cons_zero, List.set_cons_succ]
            refine wpAny_done (by kernel_rfl) ?_ _
            go_wp2_with fail
            generalize (w2.setCell ⟨w.heap.size + 1 + 1, 0, none⟩ (.string rk)).setCell ⟨w.heap.size + 1 + 1, 1, none⟩ (.int .i64 rn) = W9 at *
            obtain ⟨r0, r1, -, -⟩ := HFN.out.2.two
            refine bodyPost_ret (v := .agg #[.string rk, .int .i64 rn]) (by simp [results, Try.results39, go_sem, r0, r1]) rfl ⟨HP.out, HFN.out.1⟩
          · have HB9 : Hid (Vl.tru (!decide (y < x)) = R) := by rw [← HRR.out]; exact congrArg Vl.tru (show (!decide (y < x)) = cmpV _ x y from nlt x y)
            have e0 : wr.cell? ⟨w.heap.size + 1, 0, none⟩ = some (.int .i64 day) := HJ.out.st.env.cell 0
            have e1 : wr.cell? ⟨w.heap.size + 1, 1, none⟩ = some (.slice a len cap) := HJ.out.st.env.cell 1
            obtain ⟨x0, x1, x2, x3, -, -, -, -⟩ := blk4 HJ.out.st.ex
            go_wp2_with fail
            clear e0 e1 x0 x1 x2 x3
            refine wp_region_till (S := fun W => W.cell? ⟨g, 1, none⟩ = some (.int .i64 x) ∧ W.cell? ⟨g, 3, none⟩ = some (.int .i64 y)) 11 (by kernel_rfl) ?_
            refine till_take (i := 0) (v := ?_) rfl (by kernel_rfl) (fun _ _ _ h => h) (Or.inl ⟨by rfl, ?_⟩) ⟨l0,l1⟩ ?_
            rotate_left
            · intro W hS
              try dsimp only at hS
              go_split_ands
              go_simp
              try with_reducible rfl
            try simp only [Act.put, List.getElem_toArray, List.getElem_cons_zero, List.getElem_cons_succ, List.setIfInBounds_toArray, List.set_cons_zero, List.set_cons_succ]
            refine till_take (i := 1) (v := ?_) rfl (by kernel_rfl) (fun _ _ _ h => h) (Or.inl ⟨by rfl, ?_⟩) ⟨l0,l1⟩ ?_
            rotate_left
            · intro W hS
              try dsimp only at hS
              go_split_ands
              go_simp
              try with_reducible rfl
            try simp only [Act.put, List.getElem_toArray, List.getElem_cons_zero, List.getElem_cons_succ, List.setIfInBounds_toArray, List.set_cons_zero, List.set_cons_succ]
            refine till_take (i := 2) (v := ?_) rfl (by kernel_rfl) (fun _ _ _ h => h) (Or.inl ⟨by rfl, ?_⟩) ⟨l0,l1⟩ ?_
            rotate_left
            · intro W hS
              try dsimp only at hS
              go_split_ands
              go_simp
              try with_reducible rfl
            try simp only [Act.put, List.getElem_toArray, List.getElem_cons_zero, List.getElem_cons_succ, List.setIfInBounds_toArray, List.set_cons_zero, List.set_cons_succ]
            refine till_take (i := 3) (v := ?_) rfl (by kernel_rfl) (fun _ _ _ h => h) (Or.inl ⟨by rfl, ?_⟩) ⟨l0,l1⟩ ?_
            rotate_left
            · intro W hS
              try dsimp only at hS
              go_split_ands
              go_simp
              try with_reducible rfl
            try simp only [Act.put, List.getElem_toArray, List.getElem_cons_zero, List.getElem_cons_succ, List.setIfInBounds_toArray, List.set_cons_zero, List.set_cons_succ]
            refine till_take (i := 4) (v := ?_) rfl (by kernel_rfl) (fun _ _ _ h => h) (Or.inl ⟨by rfl, ?_⟩) ⟨l0,l1⟩ ?_
            rotate_left
            · intro W hS
              try dsimp only at hS
              go_split_ands
              go_simp
              try with_reducible rfl
            try simp only [Act.put, List.getElem_toArray, List.getElem_cons_zero, List.getElem_cons_succ, List.setIfInBounds_toArray, List.set_cons_zero, List.set_cons_succ]
            refine till_take (i := 5) (v := ?_) rfl (by kernel_rfl) (fun _ _ _ h => h) (Or.inl ⟨by rfl, ?_⟩) ⟨l0,l1⟩ ?_
            rotate_left
            · intro W hS
              try dsimp only at hS
              go_split_ands
              go_simp
              try with_reducible rfl
            try simp only [Act.put, List.getElem_toArray, List.getElem_cons_zero, List.getElem_cons_succ, List.setIfInBounds_toArray, List.set_cons_zero, List.set_cons_succ]
            refine till_take (i := 6) (v := ?_) rfl (by kernel_rfl) (fun _ _ _ h => h) (Or.inl ⟨by rfl, ?_⟩) ⟨l0,l1⟩ ?_
            rotate_left
            · intro W hS
              try dsimp only at hS
              go_split_ands
              go_simp
              try with_reducible rfl
            try simp only [Act.put, List.getElem_toArray, List.getElem_cons_zero, List.getElem_cons_succ, List.setIfInBounds_toArray, List.set_cons_zero, List.set_cons_succ]
            refine till_take (i := 7) (v := ?_) rfl (by kernel_rfl) (fun _ _ _ h => h) (Or.inl ⟨by rfl, ?_⟩) ⟨l0,l1⟩ ?_
            rotate_left
            · intro W hS
              try dsimp only at hS
              go_split_ands
              go_simp
              try with_reducible rfl
            try simp only [Act.put, List.getElem_toArray, List.getElem_cons_zero, List.getElem_cons_succ, List.setIfInBounds_toArray, List.set_cons_zero, List.set_cons_succ]
            refine till_take (i := 8) (v := ?_) rfl (by kernel_rfl) (fun _ _ _ h => h) (Or.inl ⟨by rfl, ?_⟩) ⟨l0,l1⟩ ?_
            rotate_left
            · intro W hS
              try dsimp only at hS
              go_split_ands
              go_simp
              try with_reducible rfl
            try simp only [Act.put, List.getElem_toArray, List.getElem_cons_zero, List.getElem_cons_succ, List.setIfInBounds_toArray, List.set_cons_zero, List.set_cons_succ]
            refine till_take (i := 9) (v := ?_) rfl (by kernel_rfl) (fun _ _ _ h => h) (Or.inl ⟨by rfl, ?_⟩) ⟨l0,l1⟩ ?_
            rotate_left
            · intro W hS
              try dsimp only at hS
              go_split_ands
              go_simp
              try with_reducible rfl
            try simp only [Act.put, List.getElem_toArray, List.getElem_cons_zero, List.getElem_cons_succ, List.setIfInBounds_toArray, List.set_cons_zero, List.set_cons_succ]
            refine till_one (i := 10) (by kernel_rfl) rfl (fun K' hK => ?_)
            go_simp
            go_at_call 67
            (with_reducible refine (rtruth_any (!decide (y < x)) _).mono ?_)
            rintro y' w2 ⟨hy, b1⟩
            rw [HB9.out] at hy
            have hd := (Below.refl wr.heap.size wr).drew
            have b2 := hd.trans (b1.mono hd.size)
            have HJ2 := Lib.hid (HJ.out.up b2)
            replace l0 := cell_up l0 b2
            replace l1 := cell_up l1 b2
            unfold RetW at hy
            subst hy
            have HP : Hid (RetW R (.returned (.agg #[.string (wd R), .int .i64 R.N]))) := rfl
            refine hK _ _ ⟨l0,l1⟩ ?_
            clear hK K' b1 b2 hd l0 l1 HB9 HRR HJ
            generalize wd R = rk at *
            generalize R.N = rn at *
            try simp only [Act.put, List.getElem_toArray, List.getElem_cons_zero, List.getElem_cons_succ, List.setIfInBounds_toArray, List.set_cons_zero, List.set_cons_succ]
            have HFN : Hid (Below w.heap.size w ((w2.setCell ⟨w.heap.size + 1 + 1, 0, none⟩ (.string rk)).setCell ⟨w.heap.size + 1 + 1, 1, none⟩ (.int .i64 rn)) ∧ Mem.Blk ((w2.setCell ⟨w.heap.size + 1 + 1, 0, none⟩ (.string rk)).setCell ⟨w.heap.size + 1 + 1, 1, none⟩ (.int .i64 rn)) (w.heap.size + 1 + 1) 69 #[.string rk, .int .i64 rn]) := ⟨(HJ2.out.st.below.setCell (by show w.heap.size ≤ w.heap.size + 1 + 1; omega) _).setCell (by show w.heap.size ≤ w.heap.size + 1 + 1; omega) _, (HJ2.out.st.res.set_ 0 _).set_ 1 _⟩
            obtain ⟨q0, q1, q2, q3⟩ := HJ2.out.st.res.two
            have hm := HJ2.out.st.lt
            refine till_last (by kernel_rfl) rfl (by kernel_rfl) (fun K' hK => ?_)
            go_simp
            refine hK _ _ ?_
            clear hK K'
            try simp only [Act.put, List.getElem_toArray, List.getElem_cons_zero, List.getElem_cons_succ, List.setIfInBounds_toArray, List.set_cons_zero, List.set_cons_succ]
            refine wpAny_done (by kernel_rfl) ?_ _
            go_wp2_with fail
            generalize (w2.setCell ⟨w.heap.size + 1 + 1, 0, none⟩ (.string rk)).setCell ⟨w.heap.size + 1 + 1, 1, none⟩ (.int .i64 rn) = W9 at *
            obtain ⟨r0, r1, -, -⟩ := HFN.out.2.two
            refine bodyPost_ret (v := .agg #[.string rk, .int .i64 rn]) (by simp [results, Try.results39, go_sem, r0, r1]) rfl ⟨HP.out, HFN.out.1⟩
          · have HB9 : Hid (Vl.tru (x == y) = R) := by rw [← HRR.out]; exact congrArg Vl.tru (show (x == y) = cmpV _ x y from rfl)
            have e0 : wr.cell? ⟨w.heap.size + 1, 0, none⟩ = some (.int .i64 day) := HJ.out.st.env.cell 0
            have e1 : wr.cell? ⟨w.heap.size + 1, 1, none⟩ = some (.slice a len cap) := HJ.out.st.env.cell 1
            obtain ⟨x0, x1, x2, x3, -, -, -, -⟩ := blk4 HJ.out.st.ex
            go_wp2_with fail
            clear e0 e1 x0 x1 x2 x3
            refine wp_region_till (S := fun W => W.cell? ⟨g, 1, none⟩ = some (.int .i64 x) ∧ W.cell? ⟨g, 3, none⟩ = some (.int .i64 y)) 10 (by kernel_rfl) ?_
            refine till_take (i := 0) (v := ?_) rfl (by kernel_rfl) (fun _ _ _ h => h) (Or.inl ⟨by rfl, ?_⟩) ⟨l0,l1⟩ ?_
            rotate_left
            · intro W hS
              try dsimp only at hS
              go_split_ands
              go_simp
              try with_reducible rfl
            try simp only [Act.put, List.getElem_toArray, List.getElem_cons_zero, List.getElem_cons_succ, List.setIfInBounds_toArray, List.set_cons_zero, List.set_cons_succ]
            refine till_take (i := 1) (v := ?_) rfl (by kernel_rfl) (fun _ _ _ h => h) (Or.inl ⟨by rfl, ?_⟩) ⟨l0,l1⟩ ?_
            rotate_left
            · intro W hS
              try dsimp only at hS
              go_split_ands
              go_simp
              try with_reducible rfl
            try simp only [Act.put, List.getElem_toArray, List.getElem_cons_zero, List.getElem_cons_succ, List.setIfInBounds_toArray, List.set_cons_zero, List.set_cons_succ]
            refine till_take (i := 2) (v := ?_) rfl (by kernel_rfl) (fun _ _ _ h => h) (Or.inl ⟨by rfl, ?_⟩) ⟨l0,l1⟩ ?_
            rotate_left
            · intro W hS
              try dsimp only at hS
              go_split_ands
              go_simp
              try with_reducible rfl
            try simp only [Act.put, List.getElem_toArray, List.getElem_cons_zero, List.getElem_cons_succ, List.setIfInBounds_toArray, List.set_cons_zero, List.set_cons_succ]
            refine till_take (i := 3) (v := ?_) rfl (by kernel_rfl) (fun _ _ _ h => h) (Or.inl ⟨by rfl, ?_⟩) ⟨l0,l1⟩ ?_
            rotate_left
            · intro W hS
              try dsimp only at hS
              go_split_ands
              go_simp
              try with_reducible rfl
            try simp only [Act.put, List.getElem_toArray, List.getElem_cons_zero, List.getElem_cons_succ, List.setIfInBounds_toArray, List.set_cons_zero, List.set_cons_succ]
            refine till_take (i := 4) (v := ?_) rfl (by kernel_rfl) (fun _ _ _ h => h) (Or.inl ⟨by rfl, ?_⟩) ⟨l0,l1⟩ ?_
            rotate_left
            · intro W hS
              try dsimp only at hS
              go_split_ands
              go_simp
              try with_reducible rfl
            try simp only [Act.put, List.getElem_toArray, List.getElem_cons_zero, List.getElem_cons_succ, List.setIfInBounds_toArray, List.set_cons_zero, List.set_cons_succ]
            refine till_take (i := 5) (v := ?_) rfl (by kernel_rfl) (fun _ _ _ h => h) (Or.inl ⟨by rfl, ?_⟩) ⟨l0,l1⟩ ?_
            rotate_left
            · intro W hS
              try dsimp only at hS
              go_split_ands
              go_simp
              try with_reducible rfl
            try simp only [Act.put, List.getElem_toArray, List.getElem_cons_zero, List.getElem_cons_succ, List.setIfInBounds_toArray, List.set_cons_zero, List.set_cons_succ]
            refine till_take (i := 6) (v := ?_) rfl (by kernel_rfl) (fun _ _ _ h => h) (Or.inl ⟨by rfl, ?_⟩) ⟨l0,l1⟩ ?_
            rotate_left
            · intro W hS
              try dsimp only at hS
              go_split_ands
              go_simp
              try with_reducible rfl
            try simp only [Act.put, List.getElem_toArray, List.getElem_cons_zero, List.getElem_cons_succ, List.setIfInBounds_toArray, List.set_cons_zero, List.set_cons_succ]
            refine till_take (i := 7) (v := ?_) rfl (by kernel_rfl) (fun _ _ _ h => h) (Or.inl ⟨by rfl, ?_⟩) ⟨l0,l1⟩ ?_
            rotate_left
            · intro W hS
              try dsimp only at hS
              go_split_ands
              go_simp
              try with_reducible rfl
            try simp only [Act.put, List.getElem_toArray, List.getElem_cons_zero, List.getElem_cons_succ, List.setIfInBounds_toArray, List.set_cons_zero, List.set_cons_succ]
            refine till_take (i := 8) (v := ?_) rfl (by kernel_rfl) (fun _ _ _ h => h) (Or.inl ⟨by rfl, ?_⟩) ⟨l0,l1⟩ ?_
            rotate_left
            · intro W hS
              try dsimp only at hS
              go_split_ands
              go_simp
              try with_reducible rfl
            try simp only [Act.put, List.getElem_toArray, List.getElem_cons_zero, List.getElem_cons_succ, List.setIfInBounds_toArray, List.set_cons_zero, List.set_cons_succ]
            skip
            refine till_one (i := 9) (by kernel_rfl) rfl (fun K' hK => ?_)
            go_simp
            go_at_call 67
            (with_reducible refine (rtruth_any (x == y) _).mono ?_)
            rintro y' w2 ⟨hy, b1⟩
            rw [HB9.out] at hy
            have hd := (Below.refl wr.heap.size wr).drew
            have b2 := hd.trans (b1.mono hd.size)
            have HJ2 := Lib.hid (HJ.out.up b2)
            replace l0 := cell_up l0 b2
            replace l1 := cell_up l1 b2
            unfold RetW at hy
            subst hy
            have HP : Hid (RetW R (.returned (.agg #[.string (wd R), .int .i64 R.N]))) := rfl
            refine hK _ _ ⟨l0,l1⟩ ?_
            clear hK K' b1 b2 hd l0 l1 HB9 HRR HJ
            generalize wd R = rk at *
            generalize R.N = rn at *
            try simp only [Act.put, List.getElem_toArray, List.getElem_cons_zero, List.getElem_cons_succ, List.setIfInBounds_toArray, List.set_cons_zero, List.set_cons_succ]
            have HFN : Hid (Below w.heap.size w ((w2.setCell ⟨w.heap.size + 1 + 1, 0, none⟩ (.string rk)).setCell ⟨w.heap.size + 1 + 1, 1, none⟩ (.int .i64 rn)) ∧ Mem.Blk ((w2.setCell ⟨w.heap.size + 1 + 1, 0, none⟩ (.string rk)).setCell ⟨w.heap.size + 1 + 1, 1, none⟩ (.int .i64 rn)) (w.heap.size + 1 + 1) 69 #[.string rk, .int .i64 rn]) := ⟨(HJ2.out.st.below.setCell (by show w.heap.size ≤ w.heap.size + 1 + 1; omega) _).setCell (by show w.heap.size ≤ w.heap.size + 1 + 1; omega) _, (HJ2.out.st.res.set_ 0 _).set_ 1 _⟩
            obtain ⟨q0, q1, q2, q3⟩ := HJ2.out.st.res.two
            have hm := HJ2.out.st.lt
            refine till_last (by kernel_rfl) rfl (by kernel_rfl) (fun K' hK => ?_)
            go_simp
            refine hK _ _ ?_
            clear hK K'
            try simp only [Act.put, List.getElem_toArray, List.getElem_cons_zero, List.getElem_cons_succ, List.setIfInBounds_toArray, List.set_cons_zero, List.set_cons_succ]
            refine wpAny_done (by kernel_rfl) ?_ _
            go_wp2_with fail
            generalize (w2.setCell ⟨w.heap.size + 1 + 1, 0, none⟩ (.string rk)).setCell ⟨w.heap.size + 1 + 1, 1, none⟩ (.int .i64 rn) = W9 at *
            obtain ⟨r0, r1, -, -⟩ := HFN.out.2.two
            refine bodyPost_ret (v := .agg #[.string rk, .int .i64 rn]) (by simp [results, Try.results39, go_sem, r0, r1]) rfl ⟨HP.out, HFN.out.1⟩
          · have HB9 : Hid (Vl.tru (!(x == y)) = R) := by rw [← HRR.out]; exact congrArg Vl.tru (show (!(x == y)) = cmpV _ x y from by simp [cmpV]; rfl)
            have e0 : wr.cell? ⟨w.heap.size + 1, 0, none⟩ = some (.int .i64 day) := HJ.out.st.env.cell 0
            have e1 : wr.cell? ⟨w.heap.size + 1, 1, none⟩ = some (.slice a len cap) := HJ.out.st.env.cell 1
            obtain ⟨x0, x1, x2, x3, -, -, -, -⟩ := blk4 HJ.out.st.ex
            go_wp2_with fail
            clear e0 e1 x0 x1 x2 x3
            refine wp_region_till (S := fun W => W.cell? ⟨g, 1, none⟩ = some (.int .i64 x) ∧ W.cell? ⟨g, 3, none⟩ = some (.int .i64 y)) 11 (by kernel_rfl) ?_
            refine till_take (i := 0) (v := ?_) rfl (by kernel_rfl) (fun _ _ _ h => h) (Or.inl ⟨by rfl, ?_⟩) ⟨l0,l1⟩ ?_
            rotate_left
            · intro W hS
              try dsimp only at hS
              go_split_ands
              go_simp
              try with_reducible rfl
            try simp only [Act.put, List.getElem_toArray, List.getElem_cons_zero, List.getElem_cons_succ, List.setIfInBounds_toArray, List.set_cons_zero, List.set_cons_succ]
            refine till_take (i := 1) (v := ?_) rfl (by kernel_rfl) (fun _ _ _ h => h) (Or.inl ⟨by rfl, ?_⟩) ⟨l0,l1⟩ ?_
            rotate_left
            · intro W hS
              try dsimp only at hS
              go_split_ands
              go_simp
              try with_reducible rfl
            try simp only [Act.put, List.getElem_toArray, List.getElem_cons_zero, List.getElem_cons_succ, List.setIfInBounds_toArray, List.set_cons_zero, List.set_cons_succ]
            refine till_take (i := 2) (v := ?_) rfl (by kernel_rfl) (fun _ _ _ h => h) (Or.inl ⟨by rfl, ?_⟩) ⟨l0,l1⟩ ?_
            rotate_left
            · intro W hS
              try dsimp only at hS
              go_split_ands
              go_simp
              try with_reducible rfl
            try simp only [Act.put, List.getElem_toArray, List.getElem_cons_zero, List.getElem_cons_succ, List.setIfInBounds_toArray, List.set_cons_zero, List.set_cons_succ]
            refine till_take (i := 3) (v := ?_) rfl (by kernel_rfl) (fun _ _ _ h => h) (Or.inl ⟨by rfl, ?_⟩) ⟨l0,l1⟩ ?_
            rotate_left
            · intro W hS
              try dsimp only at hS
              go_split_ands
              go_simp
              try with_reducible rfl
            try simp only [Act.put, List.getElem_toArray, List.getElem_cons_zero, List.getElem_cons_succ, List.setIfInBounds_toArray, List.set_cons_zero, List.set_cons_succ]
            refine till_take (i := 4) (v := ?_) rfl (by kernel_rfl) (fun _ _ _ h => h) (Or.inl ⟨by rfl, ?_⟩) ⟨l0,l1⟩ ?_
            rotate_left
            · intro W hS
              try dsimp only at hS
              go_split_ands
              go_simp
              try with_reducible rfl
            try simp only [Act.put, List.getElem_toArray, List.getElem_cons_zero, List.getElem_cons_succ, List.setIfInBounds_toArray, List.set_cons_zero, List.set_cons_succ]
            refine till_take (i := 5) (v := ?_) rfl (by kernel_rfl) (fun _ _ _ h => h) (Or.inl ⟨by rfl, ?_⟩) ⟨l0,l1⟩ ?_
            rotate_left
            · intro W hS
              try dsimp only at hS
              go_split_ands
              go_simp
              try with_reducible rfl
            try simp only [Act.put, List.getElem_toArray, List.getElem_cons_zero, List.getElem_cons_succ, List.setIfInBounds_toArray, List.set_cons_zero, List.set_cons_succ]
            refine till_take (i := 6) (v := ?_) rfl (by kernel_rfl) (fun _ _ _ h => h) (Or.inl ⟨by rfl, ?_⟩) ⟨l0,l1⟩ ?_
            rotate_left
            · intro W hS
              try dsimp only at hS
              go_split_ands
              go_simp
              try with_reducible rfl
            try simp only [Act.put, List.getElem_toArray, List.getElem_cons_zero, List.getElem_cons_succ, List.setIfInBounds_toArray, List.set_cons_zero, List.set_cons_succ]
            refine till_take (i := 7) (v := ?_) rfl (by kernel_rfl) (fun _ _ _ h => h) (Or.inl ⟨by rfl, ?_⟩) ⟨l0,l1⟩ ?_
            rotate_left
            · intro W hS
              try dsimp only at hS
              go_split_ands
              go_simp
              try with_reducible rfl
            try simp only [Act.put, List.getElem_toArray, List.getElem_cons_zero, List.getElem_cons_succ, List.setIfInBounds_toArray, List.set_cons_zero, List.set_cons_succ]
            refine till_take (i := 8) (v := ?_) rfl (by kernel_rfl) (fun _ _ _ h => h) (Or.inl ⟨by rfl, ?_⟩) ⟨l0,l1⟩ ?_
            rotate_left
            · intro W hS
              try dsimp only at hS
              go_split_ands
              go_simp
              try with_reducible rfl
            try simp only [Act.put, List.getElem_toArray, List.getElem_cons_zero, List.getElem_cons_succ, List.setIfInBounds_toArray, List.set_cons_zero, List.set_cons_succ]
            refine till_take (i := 9) (v := ?_) rfl (by kernel_rfl) (fun _ _ _ h => h) (Or.inl ⟨by rfl, ?_⟩) ⟨l0,l1⟩ ?_
            rotate_left
            · intro W hS
              try dsimp only at hS
              go_split_ands
              go_simp
              try with_reducible rfl
            try simp only [Act.put, List.getElem_toArray, List.getElem_cons_zero, List.getElem_cons_succ, List.setIfInBounds_toArray, List.set_cons_zero, List.set_cons_succ]
            refine till_one (i := 10) (by kernel_rfl) rfl (fun K' hK => ?_)
            go_simp
            go_at_call 67
            (with_reducible refine (rtruth_any (!(x == y)) _).mono ?_)
            rintro y' w2 ⟨hy, b1⟩
            rw [HB9.out] at hy
            have hd := (Below.refl wr.heap.size wr).drew
            have b2 := hd.trans (b1.mono hd.size)
            have HJ2 := Lib.hid (HJ.out.up b2)
            replace l0 := cell_up l0 b2
            replace l1 := cell_up l1 b2
            unfold RetW at hy
            subst hy
            have HP : Hid (RetW R (.returned (.agg #[.string (wd R), .int .i64 R.N]))) := rfl
            refine hK _ _ ⟨l0,l1⟩ ?_
            clear hK K' b1 b2 hd l0 l1 HB9 HRR HJ
            generalize wd R = rk at *
            generalize R.N = rn at *
            try simp only [Act.put, List.getElem_toArray, List.getElem_cons_zero, List.getElem_cons_succ, List.setIfInBounds_toArray, List.set_cons_zero, List.set_cons_succ]
            have HFN : Hid (Below w.heap.size w ((w2.setCell ⟨w.heap.size + 1 + 1, 0, none⟩ (.string rk)).setCell ⟨w.heap.size + 1 + 1, 1, none⟩ (.int .i64 rn)) ∧ Mem.Blk ((w2.setCell ⟨w.heap.size + 1 + 1, 0, none⟩ (.string rk)).setCell ⟨w.heap.size + 1 + 1, 1, none⟩ (.int .i64 rn)) (w.heap.size + 1 + 1) 69 #[.string rk, .int .i64 rn]) := ⟨(HJ2.out.st.below.setCell (by show w.heap.size ≤ w.heap.size + 1 + 1; omega) _).setCell (by show w.heap.size ≤ w.heap.size + 1 + 1; omega) _, (HJ2.out.st.res.set_ 0 _).set_ 1 _⟩
            obtain ⟨q0, q1, q2, q3⟩ := HJ2.out.st.res.two
            have hm := HJ2.out.st.lt
            refine till_last (by kernel_rfl) rfl (by kernel_rfl) (fun K' hK => ?_)
            go_simp
            refine hK _ _ ?_
            clear hK K'
            try simp only [Act.put, List.getElem_toArray, List.getElem_cons_zero, List.getElem_cons_succ, List.setIfInBounds_toArray, List.set_cons_zero, List.set_cons_succ]
            refine wpAny_done (by kernel_rfl) ?_ _
            go_wp2_with fail
            generalize (w2.setCell ⟨w.heap.size + 1 + 1, 0, none⟩ (.string rk)).setCell ⟨w.heap.size + 1 + 1, 1, none⟩ (.int .i64 rn) = W9 at *
            obtain ⟨r0, r1, -, -⟩ := HFN.out.2.two
            refine bodyPost_ret (v := .agg #[.string rk, .int .i64 rn]) (by simp [results, Try.results39, go_sem, r0, r1]) rfl ⟨HP.out, HFN.out.1⟩
          · have HB9 : Hid (Vl.tru (!decide (x < y)) = R) := by rw [← HRR.out]; exact congrArg Vl.tru (show (!decide (x < y)) = cmpV _ x y from nlt y x)
            have e0 : wr.cell? ⟨w.heap.size + 1, 0, none⟩ = some (.int .i64 day) := HJ.out.st.env.cell 0
            have e1 : wr.cell? ⟨w.heap.size + 1, 1, none⟩ = some (.slice a len cap) := HJ.out.st.env.cell 1
            obtain ⟨x0, x1, x2, x3, -, -, -, -⟩ := blk4 HJ.out.st.ex
            go_wp2_with fail
            clear e0 e1 x0 x1 x2 x3
            refine wp_region_till (S := fun W => W.cell? ⟨g, 1, none⟩ = some (.int .i64 x) ∧ W.cell? ⟨g, 3, none⟩ = some (.int .i64 y)) 11 (by kernel_rfl) ?_
            refine till_take (i := 0) (v := ?_) rfl (by kernel_rfl) (fun _ _ _ h => h) (Or.inl ⟨by rfl, ?_⟩) ⟨l0,l1⟩ ?_
            rotate_left
            · intro W hS
              try dsimp only at hS
              go_split_ands
              go_simp
              try with_reducible rfl
            try simp only [Act.put, List.getElem_toArray, List.getElem_cons_zero, List.getElem_cons_succ, List.setIfInBounds_toArray, List.set_cons_zero, List.set_cons_succ]
            refine till_take (i := 1) (v := ?_) rfl (by kernel_rfl) (fun _ _ _ h => h) (Or.inl ⟨by rfl, ?_⟩) ⟨l0,l1⟩ ?_
            rotate_left
            · intro W hS
              try dsimp only at hS
              go_split_ands
              go_simp
              try with_reducible rfl
            try simp only [Act.put, List.getElem_toArray, List.getElem_cons_zero, List.getElem_cons_succ, List.setIfInBounds_toArray, List.set_cons_zero, List.set_cons_succ]
            refine till_take (i := 2) (v := ?_) rfl (by kernel_rfl) (fun _ _ _ h => h) (Or.inl ⟨by rfl, ?_⟩) ⟨l0,l1⟩ ?_
            rotate_left
            · intro W hS
              try dsimp only at hS
              go_split_ands
              go_simp
              try with_reducible rfl
            try simp only [Act.put, List.getElem_toArray, List.getElem_cons_zero, List.getElem_cons_succ, List.setIfInBounds_toArray, List.set_cons_zero, List.set_cons_succ]
            refine till_take (i := 3) (v := ?_) rfl (by kernel_rfl) (fun _ _ _ h => h) (Or.inl ⟨by rfl, ?_⟩) ⟨l0,l1⟩ ?_
            rotate_left
            · intro W hS
              try dsimp only at hS
              go_split_ands
              go_simp
              try with_reducible rfl
            try simp only [Act.put, List.getElem_toArray, List.getElem_cons_zero, List.getElem_cons_succ, List.setIfInBounds_toArray, List.set_cons_zero, List.set_cons_succ]
            refine till_take (i := 4) (v := ?_) rfl (by kernel_rfl) (fun _ _ _ h => h) (Or.inl ⟨by rfl, ?_⟩) ⟨l0,l1⟩ ?_
            rotate_left
            · intro W hS
              try dsimp only at hS
              go_split_ands
              go_simp
              try with_reducible rfl
            try simp only [Act.put, List.getElem_toArray, List.getElem_cons_zero, List.getElem_cons_succ, List.setIfInBounds_toArray, List.set_cons_zero, List.set_cons_succ]
            refine till_take (i := 5) (v := ?_) rfl (by kernel_rfl) (fun _ _ _ h => h) (Or.inl ⟨by rfl, ?_⟩) ⟨l0,l1⟩ ?_
            rotate_left
            · intro W hS
              try dsimp only at hS
              go_split_ands
              go_simp
              try with_reducible rfl
            try simp only [Act.put, List.getElem_toArray, List.getElem_cons_zero, List.getElem_cons_succ, List.setIfInBounds_toArray, List.set_cons_zero, List.set_cons_succ]
            refine till_take (i := 6) (v := ?_) rfl (by kernel_rfl) (fun _ _ _ h => h) (Or.inl ⟨by rfl, ?_⟩) ⟨l0,l1⟩ ?_
            rotate_left
            · intro W hS
              try dsimp only at hS
              go_split_ands
              go_simp
              try with_reducible rfl
            try simp only [Act.put, List.getElem_toArray, List.getElem_cons_zero, List.getElem_cons_succ, List.setIfInBounds_toArray, List.set_cons_zero, List.set_cons_succ]
            refine till_take (i := 7) (v := ?_) rfl (by kernel_rfl) (fun _ _ _ h => h) (Or.inl ⟨by rfl, ?_⟩) ⟨l0,l1⟩ ?_
            rotate_left
            · intro W hS
              try dsimp only at hS
              go_split_ands
              go_simp
              try with_reducible rfl
            try simp only [Act.put, List.getElem_toArray, List.getElem_cons_zero, List.getElem_cons_succ, List.setIfInBounds_toArray, List.set_cons_zero, List.set_cons_succ]
            refine till_take (i := 8) (v := ?_) rfl (by kernel_rfl) (fun _ _ _ h => h) (Or.inl ⟨by rfl, ?_⟩) ⟨l0,l1⟩ ?_
            rotate_left
            · intro W hS
              try dsimp only at hS
              go_split_ands
              go_simp
              try with_reducible rfl
            try simp only [Act.put, List.getElem_toArray, List.getElem_cons_zero, List.getElem_cons_succ, List.setIfInBounds_toArray, List.set_cons_zero, List.set_cons_succ]
            refine till_take (i := 9) (v := ?_) rfl (by kernel_rfl) (fun _ _ _ h => h) (Or.inl ⟨by rfl, ?_⟩) ⟨l0,l1⟩ ?_
            rotate_left
            · intro W hS
              try dsimp only at hS
              go_split_ands
              go_simp
              try with_reducible rfl
            try simp only [Act.put, List.getElem_toArray, List.getElem_cons_zero, List.getElem_cons_succ, List.setIfInBounds_toArray, List.set_cons_zero, List.set_cons_succ]
            refine till_one (i := 10) (by kernel_rfl) rfl (fun K' hK => ?_)
            go_simp
            go_at_call 67
            (with_reducible refine (rtruth_any (!decide (x < y)) _).mono ?_)
            rintro y' w2 ⟨hy, b1⟩
            rw [HB9.out] at hy
            have hd := (Below.refl wr.heap.size wr).drew
            have b2 := hd.trans (b1.mono hd.size)
            have HJ2 := Lib.hid (HJ.out.up b2)
            replace l0 := cell_up l0 b2
            replace l1 := cell_up l1 b2
            unfold RetW at hy
            subst hy
            have HP : Hid (RetW R (.returned (.agg #[.string (wd R), .int .i64 R.N]))) := rfl
            refine hK _ _ ⟨l0,l1⟩ ?_
            clear hK K' b1 b2 hd l0 l1 HB9 HRR HJ
            generalize wd R = rk at *
            generalize R.N = rn at *
            try simp only [Act.put, List.getElem_toArray, List.getElem_cons_zero, List.getElem_cons_succ, List.setIfInBounds_toArray, List.set_cons_zero, List.set_cons_succ]
            have HFN : Hid (Below w.heap.size w ((w2.setCell ⟨w.heap.size + 1 + 1, 0, none⟩ (.string rk)).setCell ⟨w.heap.size + 1 + 1, 1, none⟩ (.int .i64 rn)) ∧ Mem.Blk ((w2.setCell ⟨w.heap.size + 1 + 1, 0, none⟩ (.string rk)).setCell ⟨w.heap.size + 1 + 1, 1, none⟩ (.int .i64 rn)) (w.heap.size + 1 + 1) 69 #[.string rk, .int .i64 rn]) := ⟨(HJ2.out.st.below.setCell (by show w.heap.size ≤ w.heap.size + 1 + 1; omega) _).setCell (by show w.heap.size ≤ w.heap.size + 1 + 1; omega) _, (HJ2.out.st.res.set_ 0 _).set_ 1 _⟩
            obtain ⟨q0, q1, q2, q3⟩ := HJ2.out.st.res.two
            have hm := HJ2.out.st.lt
            refine till_last (by kernel_rfl) rfl (by kernel_rfl) (fun K' hK => ?_)
            go_simp
            refine hK _ _ ?_
            clear hK K'
            try simp only [Act.put, List.getElem_toArray, List.getElem_cons_zero, List.getElem_cons_succ, List.setIfInBounds_toArray, List.set_cons_zero, List.set_cons_succ]
            refine wpAny_done (by kernel_rfl) ?_ _
            go_wp2_with fail
            generalize (w2.setCell ⟨w.heap.size + 1 + 1, 0, none⟩ (.string rk)).setCell ⟨w.heap.size + 1 + 1, 1, none⟩ (.int .i64 rn) = W9 at *
            obtain ⟨r0, r1, -, -⟩ := HFN.out.2.two
            refine bodyPost_ret (v := .agg #[.string rk, .int .i64 rn]) (by simp [results, Try.results39, go_sem, r0, r1]) rfl ⟨HP.out, HFN.out.1⟩
          · have HB9 : Hid (Vl.tru (decide (y < x)) = R) := by rw [← HRR.out]; exact congrArg Vl.tru (show (decide (y < x)) = cmpV _ x y from rfl)
            have e0 : wr.cell? ⟨w.heap.size + 1, 0, none⟩ = some (.int .i64 day) := HJ.out.st.env.cell 0
            have e1 : wr.cell? ⟨w.heap.size + 1, 1, none⟩ = some (.slice a len cap) := HJ.out.st.env.cell 1
            obtain ⟨x0, x1, x2, x3, -, -, -, -⟩ := blk4 HJ.out.st.ex
            go_wp2_with fail
            clear e0 e1 x0 x1 x2 x3
            refine wp_region_till (S := fun W => W.cell? ⟨g, 1, none⟩ = some (.int .i64 x) ∧ W.cell? ⟨g, 3, none⟩ = some (.int .i64 y)) 10 (by kernel_rfl) ?_
            refine till_take (i := 0) (v := ?_) rfl (by kernel_rfl) (fun _ _ _ h => h) (Or.inl ⟨by rfl, ?_⟩) ⟨l0,l1⟩ ?_
            rotate_left
            · intro W hS
              try dsimp only at hS
              go_split_ands
              go_simp
              try with_reducible rfl
            try simp only [Act.put, List.getElem_toArray, List.getElem_cons_zero, List.getElem_cons_succ, List.setIfInBounds_toArray, List.set_cons_zero, List.set_cons_succ]
            refine till_take (i := 1) (v := ?_) rfl (by kernel_rfl) (fun _ _ _ h => h) (Or.inl ⟨by rfl, ?_⟩) ⟨l0,l1⟩ ?_
            rotate_left
            · intro W hS
              try dsimp only at hS
              go_split_ands
              go_simp
              try with_reducible rfl
            try simp only [Act.put, List.getElem_toArray, List.getElem_cons_zero, List.getElem_cons_succ, List.setIfInBounds_toArray, List.set_cons_zero, List.set_cons_succ]
            refine till_take (i := 2) (v := ?_) rfl (by kernel_rfl) (fun _ _ _ h => h) (Or.inl ⟨by rfl, ?_⟩) ⟨l0,l1⟩ ?_
            rotate_left
            · intro W hS
              try dsimp only at hS
              go_split_ands
              go_simp
              try with_reducible rfl
            try simp only [Act.put, List.getElem_toArray, List.getElem_cons_zero, List.getElem_cons_succ, List.setIfInBounds_toArray, List.set_cons_zero, List.set_cons_succ]
            refine till_take (i := 3) (v := ?_) rfl (by kernel_rfl) (fun _ _ _ h => h) (Or.inl ⟨by rfl, ?_⟩) ⟨l0,l1⟩ ?_
            rotate_left
            · intro W hS
              try dsimp only at hS
              go_split_ands
              go_simp
              try with_reducible rfl
            try simp only [Act.put, List.getElem_toArray, List.getElem_cons_zero, List.getElem_cons_succ, List.setIfInBounds_toArray, List.set_cons_zero, List.set_cons_succ]
            refine till_take (i := 4) (v := ?_) rfl (by kernel_rfl) (fun _ _ _ h => h) (Or.inl ⟨by rfl, ?_⟩) ⟨l0,l1⟩ ?_
            rotate_left
            · intro W hS
              try dsimp only at hS
              go_split_ands
              go_simp
              try with_reducible rfl
            try simp only [Act.put, List.getElem_toArray, List.getElem_cons_zero, List.getElem_cons_succ, List.setIfInBounds_toArray, List.set_cons_zero, List.set_cons_succ]
            refine till_take (i := 5) (v := ?_) rfl (by kernel_rfl) (fun _ _ _ h => h) (Or.inl ⟨by rfl, ?_⟩) ⟨l0,l1⟩ ?_
            rotate_left
            · intro W hS
              try dsimp only at hS
              go_split_ands
              go_simp
              try with_reducible rfl
            try simp only [Act.put, List.getElem_toArray, List.getElem_cons_zero, List.getElem_cons_succ, List.setIfInBounds_toArray, List.set_cons_zero, List.set_cons_succ]
            refine till_take (i := 6) (v := ?_) rfl (by kernel_rfl) (fun _ _ _ h => h) (Or.inl ⟨by rfl, ?_⟩) ⟨l0,l1⟩ ?_
            rotate_left
            · intro W hS
              try dsimp only at hS
              go_split_ands
              go_simp
              try with_reducible rfl
            try simp only [Act.put, List.getElem_toArray, List.getElem_cons_zero, List.getElem_cons_succ, List.setIfInBounds_toArray, List.set_cons_zero, List.set_cons_succ]
            refine till_take (i := 7) (v := ?_) rfl (by kernel_rfl) (fun _ _ _ h => h) (Or.inl ⟨by rfl, ?_⟩) ⟨l0,l1⟩ ?_
            rotate_left
            · intro W hS
              try dsimp only at hS
              go_split_ands
              go_simp
              try with_reducible rfl
            try simp only [Act.put, List.getElem_toArray, List.getElem_cons_zero, List.getElem_cons_succ, List.setIfInBounds_toArray, List.set_cons_zero, List.set_cons_succ]
            refine till_take (i := 8) (v := ?_) rfl (by kernel_rfl) (fun _ _ _ h => h) (Or.inl ⟨by rfl, ?_⟩) ⟨l0,l1⟩ ?_
            rotate_left
            · intro W hS
              try dsimp only at hS
              go_split_ands
              go_simp
              try with_reducible rfl
            try simp only [Act.put, List.getElem_toArray, List.getElem_cons_zero, List.getElem_cons_succ, List.setIfInBounds_toArray, List.set_cons_zero, List.set_cons_succ]
            skip
            refine till_one (i := 9) (by kernel_rfl) rfl (fun K' hK => ?_)
            go_simp
            go_at_call 67
            (with_reducible refine (rtruth_any (decide (y < x)) _).mono ?_)
            rintro y' w2 ⟨hy, b1⟩
            rw [HB9.out] at hy
            have hd := (Below.refl wr.heap.size wr).drew
            have b2 := hd.trans (b1.mono hd.size)
            have HJ2 := Lib.hid (HJ.out.up b2)
            replace l0 := cell_up l0 b2
            replace l1 := cell_up l1 b2
            unfold RetW at hy
            subst hy
            have HP : Hid (RetW R (.returned (.agg #[.string (wd R), .int .i64 R.N]))) := rfl
            refine hK _ _ ⟨l0,l1⟩ ?_
            clear hK K' b1 b2 hd l0 l1 HB9 HRR HJ
            generalize wd R = rk at *
            generalize R.N = rn at *
            try simp only [Act.put, List.getElem_toArray, List.getElem_cons_zero, List.getElem_cons_succ, List.setIfInBounds_toArray, List.set_cons_zero, List.set_cons_succ]
            have HFN : Hid (Below w.heap.size w ((w2.setCell ⟨w.heap.size + 1 + 1, 0, none⟩ (.string rk)).setCell ⟨w.heap.size + 1 + 1, 1, none⟩ (.int .i64 rn)) ∧ Mem.Blk ((w2.setCell ⟨w.heap.size + 1 + 1, 0, none⟩ (.string rk)).setCell ⟨w.heap.size + 1 + 1, 1, none⟩ (.int .i64 rn)) (w.heap.size + 1 + 1) 69 #[.string rk, .int .i64 rn]) := ⟨(HJ2.out.st.below.setCell (by show w.heap.size ≤ w.heap.size + 1 + 1; omega) _).setCell (by show w.heap.size ≤ w.heap.size + 1 + 1; omega) _, (HJ2.out.st.res.set_ 0 _).set_ 1 _⟩
            obtain ⟨q0, q1, q2, q3⟩ := HJ2.out.st.res.two
            have hm := HJ2.out.st.lt
            refine till_last (by kernel_rfl) rfl (by kernel_rfl) (fun K' hK => ?_)
            go_simp
            refine hK _ _ ?_
            clear hK K'
            try simp only [Act.put, List.getElem_toArray, List.getElem_cons_zero, List.getElem_cons_succ, List.setIfInBounds_toArray, List.set_cons_zero, List.set_cons_succ]
            refine wpAny_done (by kernel_rfl) ?_ _
            go_wp2_with fail
            generalize (w2.setCell ⟨w.heap.size + 1 + 1, 0, none⟩ (.string rk)).setCell ⟨w.heap.size + 1 + 1, 1, none⟩ (.int .i64 rn) = W9 at *
            obtain ⟨r0, r1, -, -⟩ := HFN.out.2.two
            refine bodyPost_ret (v := .agg #[.string rk, .int .i64 rn]) (by simp [results, Try.results39, go_sem, r0, r1]) rfl ⟨HP.out, HFN.out.1⟩
end Go.Proofs.Ytppnmeobnilojaa
