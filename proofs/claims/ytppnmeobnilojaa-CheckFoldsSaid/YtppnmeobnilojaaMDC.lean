/- A part of the proof: Rfd, FtdA, Ftd, FtdX, Rftd, one behind another. -/
import Derived.Test.YtppnmeobnilojaaMAA
import Derived.Test.YtppnmeobnilojaaMAB
import Derived.Test.YtppnmeobnilojaaMAC
import Derived.Test.YtppnmeobnilojaaMAD
import Derived.Test.YtppnmeobnilojaaMAE
import Derived.Test.YtppnmeobnilojaaMAF
import Derived.Test.YtppnmeobnilojaaMAG
import Derived.Test.YtppnmeobnilojaaMAH
import Derived.Test.YtppnmeobnilojaaMDA
import Derived.Test.YtppnmeobnilojaaMDB
/- The contract of ref21.Fold; condition: built as it must be. -/
namespace Go.Proofs.Ytppnmeobnilojaa
set_option linter.unusedVariables false
set_option linter.unusedSimpArgs false
open Go.RowKit
theorem allK_snoc (len : Nat) (l : List Ex) (x : Ex) : (decide (0 < len) && (l ++ [x]).all fun e => (knownE e).isSome) = ((decide (0 < len) && l.all fun e => (knownE e).isSome) && (knownE x).isSome) := by
  rw [List.all_append, Bool.and_assoc]; simp
theorem foldOD_eq {op n : Int} {nm : ByteArray} {l : List Ex} (h : ar op = (l.length : Nat)) : foldO op n nm l = if allK l = true then (match madeM op ((valsD l).getD 0 0) ((valsD l).getD 1 0) with | some v => if v = minI then .mk op n nm l else constE v | none => .mk op n nm l) else .mk op n nm l := by
  unfold foldO
  by_cases hk : allK l = true
  · rw [if_pos hk, if_neg (allK_iff.1 hk), vals_known hk, made_value (by rw [valsD_len]; exact h)]
    cases valueM op (valsD l) <;> rfl
  · rw [if_neg hk]
    have := fun h => hk (allK_iff.2 h)
    rw [if_pos (Classical.byContradiction this)]
theorem set4_alloc {w : World} {g : Nat} (h : g < w.heap.size) (o : Obj) (c0 c1 c2 c3 : Value) :
    ((((w.alloc o).setCell ⟨g, 0, none⟩ c0).setCell ⟨g, 1, none⟩ c1).setCell ⟨g, 2, none⟩ c2).setCell ⟨g, 3, none⟩ c3 = ((((w.setCell ⟨g, 0, none⟩ c0).setCell ⟨g, 1, none⟩ c1).setCell ⟨g, 2, none⟩ c2).setCell ⟨g, 3, none⟩ c3).alloc o := by
  rw [World.setCell_alloc_past _ _ _ _ h, World.setCell_alloc_past _ _ _ _ (by simpa [World.setCell] using h), World.setCell_alloc_past _ _ _ _ (by simpa [World.setCell] using h), World.setCell_alloc_past _ _ _ _ (by simpa [World.setCell] using h)]
set_option maxRecDepth 100000 in
set_option maxHeartbeats 8000000 in
theorem rfold_any : ∀ (r : Nat) (e : Ex), e.rk ≤ r → bE e = true → ∀ (X : List Nat) (cs : List Value) (w : World), (∀ b ∈ X, b < w.heap.size) → RepE w [] e cs →
    Calls Try.prog 26 #[.agg cs.toArray] w fun x w' => RetE w' X (foldE e) x ∧ Below w.heap.size w w' := by
  intro r
  induction r with
  | zero => intro e h; have := e.rk_pos; omega
  | succ r ih =>
    intro e hr hb X cs w hX hR
    obtain ⟨op, no, nm, args, a, len, cap, rfl, rfl, i1, i2, i3, hS⟩ := hR.inv
    obtain ⟨g1, g2, g3⟩ := bE_inv hb
    obtain ⟨f1, f2, f3⟩ := hS.facts
    have HI : Hid (∀ (k : Nat) e1, args[k]? = some e1 → ∀ Y cs1 W, (∀ b ∈ Y, b < W.heap.size) → RepE W [] e1 cs1 → Calls Try.prog 26 #[.agg cs1.toArray] W fun x w' => RetE w' Y (foldE e1) x ∧ Below W.heap.size W w') := by
      intro k e1 hk Y cs1 W hY hR1
      exact ih e1 (by have := Ex.rk_lt (op := op) (n := no) (nm := nm) hk; omega) (g3 e1 (List.mem_of_getElem? hk)) Y cs1 W hY hR1
    have HBK : Hid (∀ (k : Nat) e1, args[k]? = some e1 → bE (foldE e1) = true) := fun k e1 hk => foldE_built e1 (g3 e1 (List.mem_of_getElem? hk))
    have HKN : Hid (∀ (k : Nat) e1, args[k]? = some e1 → ∀ v, knownE (foldE e1) = some v → I64 v) := by
      intro k e1 hk v hv
      have hm := List.mem_of_getElem? hk
      obtain ⟨b, o, op', n', nm', args', a', len', cap', -, -, -, hx, j1, j2, j3, hS', -⟩ := hS.at k (by have := (List.getElem?_eq_some_iff.1 hk).1; omega)
      rw [hk] at hx
      injection hx with hx
      have hN := RepE.nums _ _ (Nat.le_refl _) _ (RepE.mk' j1 j2 j3 hS')
      rw [← hx] at hN
      exact known_bd (foldE_built e1 (g3 e1 hm)) (foldE_twice e1 (g3 e1 hm) hN).1 hv
    have HFO := Lib.hid (foldE_mk op no nm args)
    have HJ : Hid (I64 op ∧ I64 no ∧ nm.size ≤ 9223372036854775807) := ⟨i1, i2, i3⟩
    have HR0 := Lib.hid (FoldJ.start (op := op) (n := no) (nm := nm) (a := a) (len := len) (cap := cap) hX)
    have HSS := Lib.hid hS
    have HL := Lib.hid f1
    have HG := Lib.hid (show ar op = (len : Int) by rw [g1, f1])
    have h3 : len ≤ 3 := by have := ar_lt4 op; omega
    clear ih hr hR hS i1 i2 i3 f1 g1 g2 g3 hb hX
    generalize foldE (.mk op no nm args) = R at *
    go_enter Try.func26, Try.ntmps26
    go_upto_region 3 with (fail)
    generalize (((w.alloc (.cells #[.int .i64 op, .int .i64 no, .string nm, .slice a len cap] 46)).alloc (.cells #[.int .i64 0, .int .i64 0, .string ⟨#[]⟩, .slice none 0 0] 46)).alloc (.cells #[.int .i64 op, .int .i64 no, .string nm, .slice none 0 0] 46)).alloc (.cells #[.int .i64 0, .int .i64 0, .int .i64 0] 2) = w0 at *
    obtain ⟨e0, e1, e2, e3, -, -, -, -⟩ := blk4 (HR0.out.sep.blk 4 rfl)
    obtain ⟨kk0, hk2⟩ : ∃ b, decide (0 < len) = b := ⟨_, rfl⟩
    have hk1 : decide ((0 : Int) < (len : Int)) = kk0 := by rw [← hk2]; simp
    have HK0 : Hid (kk0 = (decide (0 < len) && ([] : List Ex).all fun e => (knownE e).isSome)) := by show _ = _; rw [hk2]; simp
    go_wp2_with fail
    clear hk1 hk2
    clear e0 e1 e2 e3
    go_loopw [5, 6] (fun vk i wr => ∃ (k : Nat) (vA : Value) (kk : Bool), i = .int .i64 (k : Nat) ∧ vk = .bool kk ∧ k ≤ len ∧ Hid (kk = (decide (0 < len) && ((args.take k).map foldE).all fun e => (knownE e).isSome)) ∧ Hid (FoldJ w wr op no nm a len cap ((args.take k).map foldE) vA (bx (w.heap.size + 1 + 1 + 1) 2 (numsC ((args.take k).map foldE))) X)) (fun _ i _ => len - (intOf i).toNat)
    case atStart => exact ⟨0, _, kk0, rfl, rfl, Nat.zero_le _, HK0.out, HR0.out⟩
    case round =>
      clear HR0 HK0
      obtain ⟨k, vA, kk, rfl, rfl, hk, HKK, HR⟩ := hrel
      obtain ⟨e0, e1, e2, e3, -, -, -, -⟩ := blk4 (HR.out.sep.blk 4 rfl)
      by_cases hlt : k < len
      · obtain ⟨b, o, cop, cn, cnm, cargs, ca, clen, ccap, rfl, -, -, hxe, j1, j2, j3, hSc, v0, v1, v2, v3⟩ := (HSS.out.kept (Kept.of_below HR.out.below [])).at k hlt
        have j1' : (k : Int) < (len : Int) := by omega
        have j0' : (0 : Int) ≤ (k : Int) := by omega
        have hk3 : k < 3 := by omega
        have HXE := Lib.hid hxe
        have HSC := Lib.hid (RepE.mk' j1 j2 j3 hSc)
        have HTK := Lib.hid (take_known hxe)
        have hlk : ((args.take k).map foldE).length = k := by rw [List.length_map, List.length_take, HL.out]; omega
        have HLK := Lib.hid hlk
        have HC := Lib.hid (HI.out k _ hxe (owns (famJ w.heap.size op no nm (some ⟨b, o, none⟩) len cap ((args.take k).map foldE) vA (bx (w.heap.size + 1 + 1 + 1) 2 (numsC ((args.take k).map foldE))) X)) _ wr.drew HR.out.sep.drew.lt (HSC.out.kept (Kept.of_below (Below.refl wr.heap.size wr).drew _)))
        have HBB := Lib.hid (HBK.out k _ hxe)
        clear hxe j1 j2 j3 hSc hlk HXE HSC
        have d3 : wr.cell? ⟨w.heap.size + 1 + 1, 3, none⟩ = some vA := (HR.out.sep.blk 2 rfl).cell 3
        generalize (args.take k).map foldE = AS at *
        generalize foldE (Ex.mk cop cn cnm cargs) = Y at *
        go_wp2_with fail
        refine wp_region_till (S := fun W => W.cell? ⟨w.heap.size + 1 + 1, 3, none⟩ = some vA ∧ W.cell? ⟨w.heap.size, 3, none⟩ = some (.slice (some ⟨b, o, none⟩) len cap) ∧ W.cell? ⟨b, o + k * 4, none⟩ = some (.int .i64 cop) ∧ W.cell? ⟨b, o + k * 4 + 1, none⟩ = some (.int .i64 cn) ∧ W.cell? ⟨b, o + k * 4 + 2, none⟩ = some (.string cnm) ∧ W.cell? ⟨b, o + k * 4 + 3, none⟩ = some (.slice ca clen ccap)) 9 (by kernel_rfl) ?_
        refine till_take (i := 0) (v := ?_) rfl (by kernel_rfl) (fun _ _ _ h => h) (Or.inl ⟨by rfl, ?_⟩) ⟨d3,e3,v0,v1,v2,v3⟩ ?_
        rotate_left
        · intro W hS
          try dsimp only at hS
          go_split_ands
          go_simp
          try with_reducible rfl
        try simp only [Act.put, List.getElem_toArray, List.getElem_cons_zero, List.getElem_cons_succ, List.setIfInBounds_toArray, List.set_cons_zero, List.set_cons_succ]
        refine till_take (i := 1) (v := ?_) rfl (by kernel_rfl) (fun _ _ _ h => h) (Or.inl ⟨by rfl, ?_⟩) ⟨d3,e3,v0,v1,v2,v3⟩ ?_
        rotate_left
        · intro W hS
          try dsimp only at hS
          go_split_ands
          go_simp
          try with_reducible rfl
        try simp only [Act.put, List.getElem_toArray, List.getElem_cons_zero, List.getElem_cons_succ, List.setIfInBounds_toArray, List.set_cons_zero, List.set_cons_succ]
        refine till_take (i := 2) (v := ?_) rfl (by kernel_rfl) (fun _ _ _ h => h) (Or.inl ⟨by rfl, ?_⟩) ⟨d3,e3,v0,v1,v2,v3⟩ ?_
        rotate_left
        · intro W hS
          try dsimp only at hS
          go_split_ands
          go_simp
          try with_reducible rfl
        try simp only [Act.put, List.getElem_toArray, List.getElem_cons_zero, List.getElem_cons_succ, List.setIfInBounds_toArray, List.set_cons_zero, List.set_cons_succ]
        refine till_take (i := 3) (v := ?_) rfl (by kernel_rfl) (fun _ _ _ h => h) (Or.inl ⟨by rfl, ?_⟩) ⟨d3,e3,v0,v1,v2,v3⟩ ?_
        rotate_left
        · intro W hS
          try dsimp only at hS
          go_split_ands
          go_simp
          try with_reducible rfl
        try simp only [Act.put, List.getElem_toArray, List.getElem_cons_zero, List.getElem_cons_succ, List.setIfInBounds_toArray, List.set_cons_zero, List.set_cons_succ]
        refine till_take (i := 4) (v := ?_) rfl (by kernel_rfl) (fun _ _ _ h => h) (Or.inl ⟨by rfl, ?_⟩) ⟨d3,e3,v0,v1,v2,v3⟩ ?_
        rotate_left
        · intro W hS
          try dsimp only at hS
          go_split_ands
          go_simp
          try with_reducible rfl
        try simp only [Act.put, List.getElem_toArray, List.getElem_cons_zero, List.getElem_cons_succ, List.setIfInBounds_toArray, List.set_cons_zero, List.set_cons_succ]
        refine till_take (i := 5) (v := ?_) rfl (by kernel_rfl) (fun _ _ _ h => h) (Or.inl ⟨by rfl, ?_⟩) ⟨d3,e3,v0,v1,v2,v3⟩ ?_
        rotate_left
        · intro W hS
          try dsimp only at hS
          go_split_ands
          go_simp
          try with_reducible rfl
        try simp only [Act.put, List.getElem_toArray, List.getElem_cons_zero, List.getElem_cons_succ, List.setIfInBounds_toArray, List.set_cons_zero, List.set_cons_succ]
        refine till_take (i := 6) (v := ?_) rfl (by kernel_rfl) (fun _ _ _ h => h) (Or.inl ⟨by rfl, ?_⟩) ⟨d3,e3,v0,v1,v2,v3⟩ ?_
        rotate_left
        · intro W hS
          try dsimp only at hS
          go_split_ands
          go_simp
          try with_reducible rfl
        try simp only [Act.put, List.getElem_toArray, List.getElem_cons_zero, List.getElem_cons_succ, List.setIfInBounds_toArray, List.set_cons_zero, List.set_cons_succ]
        refine till_one (i := 7) (by kernel_rfl) rfl (fun K' hK => ?_)
        go_simp
        go_at_call 26
        (with_reducible refine HC.out.mono ?_)
        rintro x w1 ⟨⟨cs3, rfl, hR3⟩, b3⟩
        obtain ⟨o5, n5, m5, r5, a5, l5, p5, -, rfl, -, -, -, -⟩ := hR3.inv
        have HB1 := Lib.hid ((HR.out.up (Below.refl wr.heap.size wr).drew).up b3)
        have HRP := Lib.hid hR3
        have d3' := cell_up (w := wr.drew) d3 b3
        have e3' := cell_up (w := wr.drew) e3 b3
        have v0' := cell_up (w := wr.drew) v0 b3
        have v1' := cell_up (w := wr.drew) v1 b3
        have v2' := cell_up (w := wr.drew) v2 b3
        have v3' := cell_up (w := wr.drew) v3 b3
        refine hK _ _ ⟨d3',e3',v0',v1',v2',v3'⟩ ?_
        clear hK K' b3 hR3 HC HR d3 e0 e1 e2 e3 v0 v1 v2 v3
        try simp only [Act.put, List.getElem_toArray, List.getElem_cons_zero, List.getElem_cons_succ, List.setIfInBounds_toArray, List.set_cons_zero, List.set_cons_succ]
        refine till_one (i := 8) (by kernel_rfl) rfl (fun K' hK => ?_)
        go_simp
        have hbn := (Below.refl w1.heap.size w1).alloc (Nat.le_refl _) (.cells #[.int .i64 o5, .int .i64 n5, .string m5, .slice a5 l5 p5] 46)
        have HB2 := Lib.hid (HB1.out.up hbn)
        have BZ := Lib.hid (Mem.Blk.new w1 46 #[.int .i64 o5, .int .i64 n5, .string m5, .slice a5 l5 p5])
        have HRP2 := Lib.hid (HRP.out.kept (Kept.of_below hbn _))
        refine hK _ _ ⟨cell_up d3' hbn, cell_up e3' hbn, cell_up v0' hbn, cell_up v1' hbn, cell_up v2' hbn, cell_up v3' hbn⟩ ?_
        clear hK K' hbn HB1 HRP d3' e3' v0' v1' v2' v3'
        generalize w1.alloc (.cells #[.int .i64 o5, .int .i64 n5, .string m5, .slice a5 l5 p5] 46) = w2 at *
        generalize w1.heap.size = z at *
        try simp only [Act.put, List.getElem_toArray, List.getElem_cons_zero, List.getElem_cons_succ, List.setIfInBounds_toArray, List.set_cons_zero, List.set_cons_succ]
        refine till_last (by kernel_rfl) rfl (by kernel_rfl) (fun K' hK => ?_)
        obtain ⟨csl, hGr⟩ := HB2.out.sep.at 0 rfl
        refine step_ap infoE Try.underlying26 rfl (by decide) rfl (.tmp 31) (.tmp 38) rfl rfl hGr.own hGr.room ⟨z, 0, none⟩ 1 1 [.int .i64 o5, .int .i64 n5, .string m5, .slice a5 l5 p5] rfl rfl (fun m u hm => by rw [Mem.add0, BZ.out.cell]; simpa using hm) (by simp [Value.oneCell']) (by have := HLK.out; unfold maxLen; omega) (by have := HLK.out; omega) ?_
        intro v' w3 og gg hv'
        obtain ⟨g2, capn, rfl, -, -, -, -⟩ := own_form og (by omega)
        refine hK _ _ ?_
        clear hK K'
        obtain ⟨⟨m4, m5⟩, hB3⟩ := HB2.out.push hGr HRP2.out og gg hv'
        have HB3 := Lib.hid hB3
        clear HB2 HRP2 hGr og gg hv' BZ hB3
        try simp only [Act.put, List.getElem_toArray, List.getElem_cons_zero, List.getElem_cons_succ, List.setIfInBounds_toArray, List.set_cons_zero, List.set_cons_succ]
        refine any_take (i := 10) (v := ?_) rfl (by kernel_rfl) (fun _ _ _ h => h) (Or.inl ⟨by rfl, ?_⟩) ?_
        rotate_left
        · intro W
          go_simp
          try with_reducible rfl
        try simp only [Act.put, List.getElem_toArray, List.getElem_cons_zero, List.getElem_cons_succ, List.setIfInBounds_toArray, List.set_cons_zero, List.set_cons_succ]
        refine any_one (i := 11) (by kernel_rfl) rfl (fun K' hK => ?_)
        go_simp
        refine hK _ _ ?_
        clear hK K' m4 m5
        refine wpAny_done (by kernel_rfl) ?_ _
        generalize AS.length = ln at *
        obtain rfl : ln = k := HLK.out
        generalize w3.setCell ⟨w.heap.size + 1 + 1, 3, none⟩ (.slice (some ⟨g2, 0, none⟩) (ln + 1) capn) = w5 at *
        have HLA : Hid ((AS ++ [Y]).length = ln + 1) := by
          obtain ⟨a', c', e, hS5⟩ := HB3.out.sep.still 0 rfl
          injection e with e1 e2 e3
          exact e2.symm
        obtain ⟨a', c', e, hS5⟩ := HB3.out.sep.still 0 rfl
        injection e with e1 e2 e3
        subst e1; subst e3
        obtain ⟨b2, o2, x2, cs2, e4, -, -, hx2, hR2, -, hc2⟩ := hS5.at ln (by rw [HLA.out]; omega)
        injection e4 with e4; injection e4 with e4 e5; subst e4; subst e5
        have hxY : x2 = Y := by
          have hal : AS.length = ln := by have := HLA.out; simp at this; exact this
          rw [List.getElem?_append_right (by omega), hal, Nat.sub_self] at hx2
          injection hx2 with hx2; exact hx2.symm
        subst hxY
        have HAL : Hid (AS.length = ln) := by have := HLA.out; simp at this; exact this
        obtain ⟨o6, n6, m6, r6, a6, l6, p6, -, rfl, -, -, -, -⟩ := RepE.inv hR2
        have HRY := Lib.hid (RepE.free hR2)
        have x0 : w5.cell? ⟨g2, ln * 4, none⟩ = some (.int .i64 o6) := by have := hc2 0 _ rfl; simpa [exK] using this
        have x1 : w5.cell? ⟨g2, ln * 4 + 1, none⟩ = some (.int .i64 n6) := by have := hc2 1 _ rfl; simpa [exK] using this
        have x2' : w5.cell? ⟨g2, ln * 4 + 2, none⟩ = some (.string m6) := by have := hc2 2 _ rfl; simpa [exK] using this
        have x3 : w5.cell? ⟨g2, ln * 4 + 3, none⟩ = some (.slice a6 l6 p6) := by have := hc2 3 _ rfl; simpa [exK] using this
        have d3 : w5.cell? ⟨w.heap.size + 1 + 1, 3, none⟩ = some (.slice (some ⟨g2, 0, none⟩) (ln + 1) capn) := (HB3.out.sep.blk 2 rfl).cell 3
        have q1 : (ln : Int) < (ln : Int) + 1 := by omega
        have q2 : (ln : Int) < ((ln + 1 : Nat) : Int) := by omega
        clear hS5 e2 hx2 hR2 hc2 HLA HLK
        go_wp2_with fail
        go_at_call 60
        (with_reducible refine (rvalue_any x2 HBB.out _ _ HRY.out).mono ?_)
        rintro x w6 ⟨rfl, b6⟩
        have HB6 := Lib.hid (HB3.out.up b6)
        have hal2 := HAL.out
        have HB7 := Lib.hid (HB6.out.num x2 ln hk3 hal2)
        have HK7 : Hid ((kk && (knownE x2).isSome) = (decide (0 < len) && (AS ++ [x2]).all fun e => (knownE e).isSome)) := by
          show _ = _
          rw [allK_snoc, ← HKK.out]
        have y0 : w6.cell? ⟨w.heap.size + 1 + 1 + 1, ln, none⟩ = some (.int .i64 ((valsD AS).getD ln 0)) := ((HB6.out.sep.blk 1 rfl).cell ln).trans (numsC_get AS ln hk3)
        have y1 : w6.frozen? ⟨w.heap.size + 1 + 1 + 1, ln, none⟩ = false := (HB6.out.sep.blk 1 rfl).frozen ln
        have y2 : w.heap.size + 1 + 1 + 1 < w6.heap.size := (HB6.out.sep.blk 1 rfl).lt
        have q3 : (ln : Int) < 3 := by omega
        clear b6 HB3 HRY x0 x1 x2' x3 d3 hal2 HAL
        unfold fitR fitN fitB
        generalize (knownE x2).getD 0 = kn at *
        generalize (knownE x2).isSome = ks at *
        cases kk with
        | false =>
          have HK8 : Hid (false = (decide (0 < len) && (AS ++ [x2]).all fun e => (knownE e).isSome)) := HK7.out
          clear HK7
          go_wp2_with fail
          go_roundw
          case rel => exact ⟨ln + 1, _, false, by go_num, rfl, by omega, by rw [HTK.out]; exact HK8.out, by rw [HTK.out]; exact HB7.out⟩
          case measure => simp [intOf]; omega
        | true =>
          have HK8 : Hid (ks = (decide (0 < len) && (AS ++ [x2]).all fun e => (knownE e).isSome)) := by have h := HK7.out; rw [Bool.true_and] at h; exact h
          clear HK7
          go_wp2_with fail
          go_roundw
          case rel => exact ⟨ln + 1, _, ks, by go_num, rfl, by omega, by rw [HTK.out]; exact HK8.out, by rw [HTK.out]; exact HB7.out⟩
          case measure => simp [intOf]; omega
      · have hk' : ¬ (k : Int) < (len : Int) := by omega
        obtain rfl : k = len := by omega
        have HAS : Hid ((args.take k).map foldE = args.map foldE) := by show _ = _; rw [← HL.out, List.take_length]
        rw [HAS.out] at HR HKK
        have hla : Hid ((args.map foldE).length = k) := by show _ = _; rw [List.length_map]; exact HL.out
        obtain ⟨aA, cA, rfl⟩ := HR.out.sep.form 0 rfl
        have HGV : Hid (∀ j, I64 ((valsD (args.map foldE)).getD j 0)) := by
          intro j
          rw [List.getD_eq_getElem?_getD]
          cases hj : (valsD (args.map foldE))[j]? with
          | none => exact ⟨by decide, by decide⟩
          | some x =>
            have hx := List.mem_of_getElem? hj
            unfold valsD at hx
            obtain ⟨c, hc, rfl⟩ := List.mem_map.1 hx
            obtain ⟨y, hy, rfl⟩ := List.mem_map.1 hc
            obtain ⟨i, hi⟩ := List.getElem?_of_mem hy
            cases hkn : knownE (foldE y) with
            | none => exact ⟨by decide, by decide⟩
            | some v => exact HKN.out i y hi v hkn
        have HFO' : Hid (R = if allK (args.map foldE) = true then (match madeM op ((valsD (args.map foldE)).getD 0 0) ((valsD (args.map foldE)).getD 1 0) with | some v => if v = minI then .mk op no nm (args.map foldE) else constE v | none => .mk op no nm (args.map foldE)) else .mk op no nm (args.map foldE)) := by
          show _ = _
          rw [HFO.out, foldOD_eq (by rw [hla.out]; exact HG.out)]
        have HKA : Hid (kk = allK (args.map foldE)) := by show _ = _; rw [HKK.out]; unfold allK; rw [hla.out]
        clear HI HBK HKN HAS HSS HL hlt HFO HKK HG
        generalize args.map foldE = AS at *
        have HVB : Hid (∀ v, madeM op ((valsD AS).getD 0 0) ((valsD AS).getD 1 0) = some v → -9223372036854775808 ≤ v ∧ v ≤ 9223372036854775807) := by
          intro v hv
          have h0 := HGV.out 0
          have h1 := HGV.out 1
          generalize (valsD AS).getD 0 0 = x at *
          generalize (valsD AS).getD 1 0 = y at *
          have hf : ∀ z, fitI z = some v → -9223372036854775808 ≤ v ∧ v ≤ 9223372036854775807 := by
            intro z hz
            unfold fitI at hz
            split at hz
            · injection hz with hz; subst hz; assumption
            · cases hz
          unfold I64 at h0 h1
          unfold madeM at hv
          repeat' split at hv
          all_goals first | exact hf _ hv | (injection hv with hv; omega) | cases hv
        rw [← HKA.out] at HFO'
        clear HKA
        have hm1 : w.heap.size + 1 < wr.heap.size := (HR.out.sep.blk 3 rfl).lt
        obtain ⟨s0, s1, s2, s3, -, -, -, -⟩ := blk4 (HR.out.sep.blk 2 rfl)
        obtain ⟨t0, t1, t2, t3, t4, t5, t6, t7⟩ := blk4 (HR.out.sep.blk 3 rfl)
        cases kk with
        | false =>
          obtain rfl : R = .mk op no nm AS := HFO'.out
          have HFN := Lib.hid (HR.out.fin HJ.out.1 HJ.out.2.1 HJ.out.2.2)
          clear HFO' HR HJ HGV HVB
          go_wp2_with fail
          generalize (((wr.setCell ⟨w.heap.size + 1, 0, none⟩ (.int .i64 op)).setCell ⟨w.heap.size + 1, 1, none⟩ (.int .i64 no)).setCell ⟨w.heap.size + 1, 2, none⟩ (.string nm)).setCell ⟨w.heap.size + 1, 3, none⟩ (.slice aA AS.length cA) = W9 at *
          obtain ⟨r0, r1, r2, r3, -, -, -, -⟩ := blk4 HFN.out.2.2
          refine bodyPost_ret (v := .agg #[.int .i64 op, .int .i64 no, .string nm, .slice aA AS.length cA]) (by simp [results, Try.results26, go_sem, r0, r1, r2, r3]) rfl ⟨⟨_, rfl, HFN.out.1⟩, HFN.out.2.1⟩
        | true =>
          have HFV : Hid (R = match madeM op ((valsD AS).getD 0 0) ((valsD AS).getD 1 0) with | some v => if v = minI then .mk op no nm AS else constE v | none => .mk op no nm AS) := HFO'.out
          clear HFO'
          have y0 : wr.cell? ⟨w.heap.size + 1 + 1 + 1, 0, none⟩ = some (.int .i64 ((valsD AS).getD 0 0)) := ((HR.out.sep.blk 1 rfl).cell 0).trans (numsC_get AS 0 (by omega))
          have y1 : wr.cell? ⟨w.heap.size + 1 + 1 + 1, 1, none⟩ = some (.int .i64 ((valsD AS).getD 1 0)) := ((HR.out.sep.blk 1 rfl).cell 1).trans (numsC_get AS 1 (by omega))
          have HMD := Lib.hid (fun W => made_any op _ _ W (HGV.out 0) (HGV.out 1))
          clear HGV s0 s1 s2 s3 t0 t1 t2 t3 t4 t5 t6 t7
          generalize (valsD AS).getD 0 0 = x at *
          generalize (valsD AS).getD 1 0 = y at *
          generalize madeM op x y = V at *
          go_wp2_with fail
          refine wp_region_till (S := fun W => W.cell? ⟨w.heap.size, 0, none⟩ = some (.int .i64 op) ∧ W.cell? ⟨w.heap.size + 1 + 1 + 1, 0, none⟩ = some (.int .i64 x) ∧ W.cell? ⟨w.heap.size + 1 + 1 + 1, 1, none⟩ = some (.int .i64 y)) 8 (by kernel_rfl) ?_
          refine till_take (i := 0) (v := ?_) rfl (by kernel_rfl) (fun _ _ _ h => h) (Or.inl ⟨by rfl, ?_⟩) ⟨e0,y0,y1⟩ ?_
          rotate_left
          · intro W hS
            try dsimp only at hS
            go_split_ands
            go_simp
            try with_reducible rfl
          try simp only [Act.put, List.getElem_toArray, List.getElem_cons_zero, List.getElem_cons_succ, List.setIfInBounds_toArray, List.set_cons_zero, List.set_cons_succ]
          refine till_take (i := 1) (v := ?_) rfl (by kernel_rfl) (fun _ _ _ h => h) (Or.inl ⟨by rfl, ?_⟩) ⟨e0,y0,y1⟩ ?_
          rotate_left
          · intro W hS
            try dsimp only at hS
            go_split_ands
            go_simp
            try with_reducible rfl
          try simp only [Act.put, List.getElem_toArray, List.getElem_cons_zero, List.getElem_cons_succ, List.setIfInBounds_toArray, List.set_cons_zero, List.set_cons_succ]
          refine till_take (i := 2) (v := ?_) rfl (by kernel_rfl) (fun _ _ _ h => h) (Or.inl ⟨by rfl, ?_⟩) ⟨e0,y0,y1⟩ ?_
          rotate_left
          · intro W hS
            try dsimp only at hS
            go_split_ands
            go_simp
            try with_reducible rfl
          try simp only [Act.put, List.getElem_toArray, List.getElem_cons_zero, List.getElem_cons_succ, List.setIfInBounds_toArray, List.set_cons_zero, List.set_cons_succ]
          refine till_take (i := 3) (v := ?_) rfl (by kernel_rfl) (fun _ _ _ h => h) (Or.inl ⟨by rfl, ?_⟩) ⟨e0,y0,y1⟩ ?_
          rotate_left
          · intro W hS
            try dsimp only at hS
            go_split_ands
            go_simp
            try with_reducible rfl
          try simp only [Act.put, List.getElem_toArray, List.getElem_cons_zero, List.getElem_cons_succ, List.setIfInBounds_toArray, List.set_cons_zero, List.set_cons_succ]
          refine till_take (i := 4) (v := ?_) rfl (by kernel_rfl) (fun _ _ _ h => h) (Or.inl ⟨by rfl, ?_⟩) ⟨e0,y0,y1⟩ ?_
          rotate_left
          · intro W hS
            try dsimp only at hS
            go_split_ands
            go_simp
            try with_reducible rfl
          try simp only [Act.put, List.getElem_toArray, List.getElem_cons_zero, List.getElem_cons_succ, List.setIfInBounds_toArray, List.set_cons_zero, List.set_cons_succ]
          refine till_take (i := 5) (v := ?_) rfl (by kernel_rfl) (fun _ _ _ h => h) (Or.inl ⟨by rfl, ?_⟩) ⟨e0,y0,y1⟩ ?_
          rotate_left
          · intro W hS
            try dsimp only at hS
            go_split_ands
            go_simp
            try with_reducible rfl
          try simp only [Act.put, List.getElem_toArray, List.getElem_cons_zero, List.getElem_cons_succ, List.setIfInBounds_toArray, List.set_cons_zero, List.set_cons_succ]
          refine till_take (i := 6) (v := ?_) rfl (by kernel_rfl) (fun _ _ _ h => h) (Or.inl ⟨by rfl, ?_⟩) ⟨e0,y0,y1⟩ ?_
          rotate_left
          · intro W hS
            try dsimp only at hS
            go_split_ands
            go_simp
            try with_reducible rfl
          try simp only [Act.put, List.getElem_toArray, List.getElem_cons_zero, List.getElem_cons_succ, List.setIfInBounds_toArray, List.set_cons_zero, List.set_cons_succ]
          refine till_take (i := 7) (v := ?_) rfl (by kernel_rfl) (fun _ _ _ h => h) (Or.inl ⟨by rfl, ?_⟩) ⟨e0,y0,y1⟩ ?_
          rotate_left
          · intro W hS
            try dsimp only at hS
            go_split_ands
            go_simp
            try with_reducible rfl
          try simp only [Act.put, List.getElem_toArray, List.getElem_cons_zero, List.getElem_cons_succ, List.setIfInBounds_toArray, List.set_cons_zero, List.set_cons_succ]
          refine till_last (by kernel_rfl) rfl (by kernel_rfl) (fun K' hK => ?_)
          go_simp
          go_at_call 61
          (with_reducible refine (HMD.out _).mono ?_)
          rintro x9 w5 ⟨rfl, b5⟩
          have HR5 := Lib.hid ((HR.out.up (Below.refl wr.heap.size wr).drew).up b5)
          clear b5 HR HMD e0 e1 e2 e3 y0 y1
          unfold fitR fitN fitB
          refine hK _ _ ?_
          clear hK K'
          try simp only [Act.put, List.getElem_toArray, List.getElem_cons_zero, List.getElem_cons_succ, List.setIfInBounds_toArray, List.set_cons_zero, List.set_cons_succ]
          refine any_take (i := 9) (v := ?_) rfl (by kernel_rfl) (fun _ _ _ h => h) (Or.inl ⟨by rfl, ?_⟩) ?_
          rotate_left
          · intro W
            go_simp
            try with_reducible rfl
          try simp only [Act.put, List.getElem_toArray, List.getElem_cons_zero, List.getElem_cons_succ, List.setIfInBounds_toArray, List.set_cons_zero, List.set_cons_succ]
          refine any_take (i := 10) (v := ?_) rfl (by kernel_rfl) (fun _ _ _ h => h) (Or.inl ⟨by rfl, ?_⟩) ?_
          rotate_left
          · intro W
            go_simp
            try with_reducible rfl
          try simp only [Act.put, List.getElem_toArray, List.getElem_cons_zero, List.getElem_cons_succ, List.setIfInBounds_toArray, List.set_cons_zero, List.set_cons_succ]
          refine any_take (i := 11) (v := ?_) rfl (by kernel_rfl) (fun _ _ _ h => h) (Or.inl ⟨by rfl, ?_⟩) ?_
          rotate_left
          · intro W
            go_simp
            try with_reducible rfl
          try simp only [Act.put, List.getElem_toArray, List.getElem_cons_zero, List.getElem_cons_succ, List.setIfInBounds_toArray, List.set_cons_zero, List.set_cons_succ]
          refine any_take (i := 12) (v := ?_) rfl (by kernel_rfl) (fun _ _ _ h => h) (Or.inl ⟨by rfl, ?_⟩) ?_
          rotate_left
          · intro W
            go_simp
            try with_reducible rfl
          try simp only [Act.put, List.getElem_toArray, List.getElem_cons_zero, List.getElem_cons_succ, List.setIfInBounds_toArray, List.set_cons_zero, List.set_cons_succ]
          refine any_take (i := 13) (v := ?_) rfl (by kernel_rfl) (fun _ _ _ h => h) (Or.inl ⟨by rfl, ?_⟩) ?_
          rotate_left
          · intro W
            go_simp
            try with_reducible rfl
          try simp only [Act.put, List.getElem_toArray, List.getElem_cons_zero, List.getElem_cons_succ, List.setIfInBounds_toArray, List.set_cons_zero, List.set_cons_succ]
          refine wpAny_done (by kernel_rfl) ?_ _
          have hm1 : w.heap.size + 1 < w5.heap.size := (HR5.out.sep.blk 3 rfl).lt
          obtain ⟨s0, s1, s2, s3, -, -, -, -⟩ := blk4 (HR5.out.sep.blk 2 rfl)
          obtain ⟨t0, t1, t2, t3, t4, t5, t6, t7⟩ := blk4 (HR5.out.sep.blk 3 rfl)
          cases V with
          | none =>
            obtain rfl : R = .mk op no nm AS := HFV.out
            have HFN := Lib.hid (HR5.out.fin HJ.out.1 HJ.out.2.1 HJ.out.2.2)
            clear HFV HVB HR5 HJ
            go_wp2_with fail
            generalize (((w5.setCell ⟨w.heap.size + 1, 0, none⟩ (.int .i64 op)).setCell ⟨w.heap.size + 1, 1, none⟩ (.int .i64 no)).setCell ⟨w.heap.size + 1, 2, none⟩ (.string nm)).setCell ⟨w.heap.size + 1, 3, none⟩ (.slice aA AS.length cA) = W9 at *
            obtain ⟨r0, r1, r2, r3, -, -, -, -⟩ := blk4 HFN.out.2.2
            refine bodyPost_ret (v := .agg #[.int .i64 op, .int .i64 no, .string nm, .slice aA AS.length cA]) (by simp [results, Try.results26, go_sem, r0, r1, r2, r3]) rfl ⟨⟨_, rfl, HFN.out.1⟩, HFN.out.2.1⟩
          | some v =>
            by_cases hv : v = minI
            · have hR2 : R = .mk op no nm AS := by rw [HFV.out]; simp [hv]
              have HFN := Lib.hid (HR5.out.fin HJ.out.1 HJ.out.2.1 HJ.out.2.2)
              subst hR2
              unfold minI at hv
              subst hv
              clear HFV HVB HR5 HJ
              go_wp2_with fail
              generalize (((w5.setCell ⟨w.heap.size + 1, 0, none⟩ (.int .i64 op)).setCell ⟨w.heap.size + 1, 1, none⟩ (.int .i64 no)).setCell ⟨w.heap.size + 1, 2, none⟩ (.string nm)).setCell ⟨w.heap.size + 1, 3, none⟩ (.slice aA AS.length cA) = W9 at *
              obtain ⟨r0, r1, r2, r3, -, -, -, -⟩ := blk4 HFN.out.2.2
              refine bodyPost_ret (v := .agg #[.int .i64 op, .int .i64 no, .string nm, .slice aA AS.length cA]) (by simp [results, Try.results26, go_sem, r0, r1, r2, r3]) rfl ⟨⟨_, rfl, HFN.out.1⟩, HFN.out.2.1⟩
            · have hR2 : R = constE v := by rw [HFV.out]; simp [hv]
              have hvb := HVB.out v rfl
              unfold minI at hv
              have hv1 : (v == -9223372036854775808) = false := beq_eq_false_iff_ne.2 hv
              clear HFV HVB HJ
              by_cases hneg : v < 0
              · rw [constE_neg (by omega)] at hR2
                have hal := (Below.refl w5.heap.size w5).alloc (Nat.le_refl _) (.cells #[.int .i64 1, .int .i64 (-v), .string ⟨#[]⟩, .slice none 0 0] 46)
                have HR6 := Lib.hid (HR5.out.up hal)
                have hB := Mem.Blk.new w5 46 #[.int .i64 1, .int .i64 (-v), .string ⟨#[]⟩, .slice none 0 0]
                have hRC : RepE (w5.alloc (.cells #[.int .i64 1, .int .i64 (-v), .string ⟨#[]⟩, .slice none 0 0] 46)) (owns (famJ w.heap.size op no nm a k cap AS (.slice aA AS.length cA) (bx (w.heap.size + 1 + 1 + 1) 2 (numsC AS)) X)) (.mk 20 0 ⟨#[]⟩ [.mk 1 (-v) ⟨#[]⟩ []]) [.int .i64 20, .int .i64 0, .string ⟨#[]⟩, .slice (some ⟨w5.heap.size, 0, none⟩) 1 1] :=
                  RepE.mk' (by unfold I64; omega) (by unfold I64; omega) (by decide) (SlR.lit1 (K := exK) (c := [.int .i64 1, .int .i64 (-v), .string ⟨#[]⟩, .slice none 0 0]) hB (fun hm => absurd (HR5.out.sep.lt _ hm) (Nat.lt_irrefl _)) (RepE.mk' (by unfold I64; omega) (by unfold I64; omega) (by decide) (SlE.nil _ _))).slE
                have hfn := HR6.out.cst hRC
                rw [set4_alloc hm1] at hfn
                have HFN := Lib.hid hfn
                have hvl : -9223372036854775807 ≤ v := by omega
                have hvu : v ≤ 9223372036854775807 := hvb.2
                clear hal hB hRC HR5 HR6 hv hfn
                subst hR2
                go_wp2_with fail
                generalize ((((w5.setCell ⟨w.heap.size + 1, 0, none⟩ (.int .i64 20)).setCell ⟨w.heap.size + 1, 1, none⟩ (.int .i64 0)).setCell ⟨w.heap.size + 1, 2, none⟩ (.string ⟨#[]⟩)).setCell ⟨w.heap.size + 1, 3, none⟩ (.slice (some ⟨w5.heap.size, 0, none⟩) 1 1)).alloc (.cells #[.int .i64 1, .int .i64 (-v), .string ⟨#[]⟩, .slice none 0 0] 46) = W9 at *
                obtain ⟨r0, r1, r2, r3, -, -, -, -⟩ := blk4 HFN.out.2.2
                refine bodyPost_ret (v := .agg #[.int .i64 20, .int .i64 0, .string ⟨#[]⟩, .slice (some ⟨w5.heap.size, 0, none⟩) 1 1]) (by simp [results, Try.results26, go_sem, r0, r1, r2, r3]) rfl ⟨⟨_, rfl, HFN.out.1⟩, HFN.out.2.1⟩
              · rw [constE_pos (by omega)] at hR2
                have hRC : RepE w5 (owns (famJ w.heap.size op no nm a k cap AS (.slice aA AS.length cA) (bx (w.heap.size + 1 + 1 + 1) 2 (numsC AS)) X)) (.mk 1 v ⟨#[]⟩ []) [.int .i64 1, .int .i64 v, .string ⟨#[]⟩, .slice none 0 0] := RepE.mk' (by unfold I64; omega) (by unfold I64; omega) (by decide) (SlE.nil _ _)
                have HFN := Lib.hid (HR5.out.cst hRC)
                clear hRC HR5 hv
                subst hR2
                go_wp2_with fail
                generalize (((w5.setCell ⟨w.heap.size + 1, 0, none⟩ (.int .i64 1)).setCell ⟨w.heap.size + 1, 1, none⟩ (.int .i64 v)).setCell ⟨w.heap.size + 1, 2, none⟩ (.string ⟨#[]⟩)).setCell ⟨w.heap.size + 1, 3, none⟩ (.slice none 0 0) = W9 at *
                obtain ⟨r0, r1, r2, r3, -, -, -, -⟩ := blk4 HFN.out.2.2
                refine bodyPost_ret (v := .agg #[.int .i64 1, .int .i64 v, .string ⟨#[]⟩, .slice none 0 0]) (by simp [results, Try.results26, go_sem, r0, r1, r2, r3]) rfl ⟨⟨_, rfl, HFN.out.1⟩, HFN.out.2.1⟩
end Go.Proofs.Ytppnmeobnilojaa

/- A term, folded: what the loops keep. -/
namespace Go.Proofs.Ytppnmeobnilojaa
set_option linter.unusedVariables false
set_option linter.unusedSimpArgs false
open Go.RowKit
theorem arX_lt4 (op : Int) : arX op ≤ 3 := by
  unfold arX
  repeat' split
  all_goals omega
theorem arT_lt4 (op : Int) : arT op ≤ 3 := by
  unfold arT
  repeat' split
  all_goals omega
def famT (h : Nat) (op : Int) (nm : ByteArray) (a : Option Addr) (len cap : Nat) (a2 : Option Addr) (len2 cap2 : Nat) (xs : List Ex) (vX : Value) (ys : List Te) (vY : Value) (X : List Nat) : List Ob :=
  [gr exK 46 h xs vX, gr teK 35 h ys vY, bx (h + 1 + 1) 35 #[.int .i64 op, .string nm, vX, vY], bx (h + 1) 35 #[.int .i64 0, .string ⟨#[]⟩, .slice none 0 0, .slice none 0 0], bx h 35 #[.int .i64 op, .string nm, .slice a len cap, .slice a2 len2 cap2], fo X]
structure FoldT (w wr : World) (op : Int) (nm : ByteArray) (a : Option Addr) (len cap : Nat) (a2 : Option Addr) (len2 cap2 : Nat) (xs : List Ex) (vX : Value) (ys : List Te) (vY : Value) (X : List Nat) : Prop where
  below : Below w.heap.size w wr
  sep : Sep wr (famT w.heap.size op nm a len cap a2 len2 cap2 xs vX ys vY X)
section
variable {w wr wr' : World} {op : Int} {nm : ByteArray} {a a2 : Option Addr} {len cap len2 cap2 : Nat} {xs : List Ex} {vX : Value} {ys : List Te} {vY : Value} {X : List Nat}
theorem FoldT.up (h : FoldT w wr op nm a len cap a2 len2 cap2 xs vX ys vY X) (hb : Below wr.heap.size wr wr') : FoldT w wr' op nm a len cap a2 len2 cap2 xs vX ys vY X := ⟨h.below.trans (hb.mono h.below.size), h.sep.below hb⟩
theorem FoldT.start (hX : ∀ b ∈ X, b < w.heap.size) : FoldT w (((w.alloc (.cells #[.int .i64 op, .string nm, .slice a len cap, .slice a2 len2 cap2] 35)).alloc (.cells #[.int .i64 0, .string ⟨#[]⟩, .slice none 0 0, .slice none 0 0] 35)).alloc (.cells #[.int .i64 op, .string nm, .slice none 0 0, .slice none 0 0] 35)) op nm a len cap a2 len2 cap2 [] (.slice none 0 0) [] (.slice none 0 0) X := by
  have h1 := (((Sep.fo1 w hX).new 35 #[.int .i64 op, .string nm, .slice a len cap, .slice a2 len2 cap2]).new 35 #[.int .i64 0, .string ⟨#[]⟩, .slice none 0 0, .slice none 0 0]).new 35 #[.int .i64 op, .string nm, .slice none 0 0, .slice none 0 0]
  have e1 : (w.alloc (.cells #[.int .i64 op, .string nm, .slice a len cap, .slice a2 len2 cap2] 35)).heap.size = w.heap.size + 1 := by simp
  have e2 : ((w.alloc (.cells #[.int .i64 op, .string nm, .slice a len cap, .slice a2 len2 cap2] 35)).alloc (.cells #[.int .i64 0, .string ⟨#[]⟩, .slice none 0 0, .slice none 0 0] 35)).heap.size = w.heap.size + 1 + 1 := by simp
  rw [e1, e2] at h1
  refine ⟨(((Below.refl _ w).alloc (Nat.le_refl _) _).alloc (by simp) _).alloc (by simp; omega) _, (h1.addGr teK 35 (by simp; omega)).addGr exK 46 (by simp; omega)⟩
theorem FoldT.pushX {w1 : World} {csl : List (List Value)} {v' : Value} {x : Ex} {c : List Value} (h : FoldT w wr op nm a len cap a2 len2 cap2 xs vX ys vY X)
    (hG : Grow exK 46 w.heap.size wr (others (famT w.heap.size op nm a len cap a2 len2 cap2 xs vX ys vY X) 0) xs vX csl)
    (hR : RepE wr (owns (famT w.heap.size op nm a len cap a2 len2 cap2 xs vX ys vY X)) x c)
    (ho : w1.ownsRow w.heap.size 46 4 v' (xs.length + 1) (csl.flatten ++ c)) (hg : wr.grownBy w1 vX.ownBlock) (hv : v'.ownBlock = vX.ownBlock ∨ v'.ownBlock = some wr.heap.size) :
    (w1.cell? ⟨w.heap.size + 1 + 1, 2, none⟩ = some vX ∧ w1.frozen? ⟨w.heap.size + 1 + 1, 2, none⟩ = false) ∧ FoldT w (w1.setCell ⟨w.heap.size + 1 + 1, 2, none⟩ v') op nm a len cap a2 len2 cap2 (xs ++ [x]) v' ys vY X := by
  have h1 := h.sep.push 0 rfl hG (x := x) (c := c) hR ho hg hv
  have h2 := h1.store 2 rfl 2 v'
  exact ⟨⟨(h1.blk 2 rfl).cell 2, (h1.blk 2 rfl).frozen 2⟩, (h.below.grown hg h.below.size (fun b hb => (hG.blt hb).1)).setCell (by show w.heap.size ≤ w.heap.size + 1 + 1; omega) _, h2⟩
theorem FoldT.pushY {w1 : World} {csl : List (List Value)} {v' : Value} {x : Te} {c : List Value} (h : FoldT w wr op nm a len cap a2 len2 cap2 xs vX ys vY X)
    (hG : Grow teK 35 w.heap.size wr (others (famT w.heap.size op nm a len cap a2 len2 cap2 xs vX ys vY X) 1) ys vY csl)
    (hR : RepT wr (owns (famT w.heap.size op nm a len cap a2 len2 cap2 xs vX ys vY X)) x c)
    (ho : w1.ownsRow w.heap.size 35 4 v' (ys.length + 1) (csl.flatten ++ c)) (hg : wr.grownBy w1 vY.ownBlock) (hv : v'.ownBlock = vY.ownBlock ∨ v'.ownBlock = some wr.heap.size) :
    (w1.cell? ⟨w.heap.size + 1 + 1, 3, none⟩ = some vY ∧ w1.frozen? ⟨w.heap.size + 1 + 1, 3, none⟩ = false) ∧ FoldT w (w1.setCell ⟨w.heap.size + 1 + 1, 3, none⟩ v') op nm a len cap a2 len2 cap2 xs vX (ys ++ [x]) v' X := by
  have h1 := h.sep.push 1 rfl hG (x := x) (c := c) hR ho hg hv
  have h2 := h1.store 2 rfl 3 v'
  exact ⟨⟨(h1.blk 2 rfl).cell 3, (h1.blk 2 rfl).frozen 3⟩, (h.below.grown hg h.below.size (fun b hb => (hG.blt hb).1)).setCell (by show w.heap.size ≤ w.heap.size + 1 + 1; omega) _, h2⟩
theorem FoldT.form (h : FoldT w wr op nm a len cap a2 len2 cap2 xs vX ys vY X) : (∃ aA cA, vX = .slice aA xs.length cA) ∧ ∃ aL cL, vY = .slice aL ys.length cL := ⟨h.sep.form 0 rfl, h.sep.form 1 rfl⟩
theorem FoldT.fin {aA aB : Option Addr} {cA cB : Nat} (h : FoldT w wr op nm a len cap a2 len2 cap2 xs (.slice aA xs.length cA) ys (.slice aB ys.length cB) X) (j1 : I64 op) (j3 : nm.size ≤ 9223372036854775807) :
    RepT ((((wr.setCell ⟨w.heap.size + 1, 0, none⟩ (.int .i64 op)).setCell ⟨w.heap.size + 1, 1, none⟩ (.string nm)).setCell ⟨w.heap.size + 1, 2, none⟩ (.slice aA xs.length cA)).setCell ⟨w.heap.size + 1, 3, none⟩ (.slice aB ys.length cB)) X (.mk op nm xs ys) [.int .i64 op, .string nm, .slice aA xs.length cA, .slice aB ys.length cB] ∧
    Below w.heap.size w ((((wr.setCell ⟨w.heap.size + 1, 0, none⟩ (.int .i64 op)).setCell ⟨w.heap.size + 1, 1, none⟩ (.string nm)).setCell ⟨w.heap.size + 1, 2, none⟩ (.slice aA xs.length cA)).setCell ⟨w.heap.size + 1, 3, none⟩ (.slice aB ys.length cB)) ∧
    Mem.Blk ((((wr.setCell ⟨w.heap.size + 1, 0, none⟩ (.int .i64 op)).setCell ⟨w.heap.size + 1, 1, none⟩ (.string nm)).setCell ⟨w.heap.size + 1, 2, none⟩ (.slice aA xs.length cA)).setCell ⟨w.heap.size + 1, 3, none⟩ (.slice aB ys.length cB)) (w.heap.size + 1) 35 #[.int .i64 op, .string nm, .slice aA xs.length cA, .slice aB ys.length cB] := by
  have h1 := (((h.sep.store 3 rfl 0 (.int .i64 op)).store 3 rfl 1 (.string nm)).store 3 rfl 2 (.slice aA xs.length cA)).store 3 rfl 3 (.slice aB ys.length cB)
  obtain ⟨a', c', e, hS⟩ := h1.still 0 rfl
  injection e with e1 e2 e3; subst e1; subst e3
  obtain ⟨a', c', e, hS2⟩ := h1.still 1 rfl
  injection e with e1 e2 e3; subst e1; subst e3
  have hl : w.heap.size ≤ w.heap.size + 1 := by omega
  refine ⟨RepT.mk' j1 j3 (hS.less (fun b hb hm => ?_)).slE (hS2.less (fun b hb hm => ?_)).slT, (((h.below.setCell hl _).setCell hl _).setCell hl _).setCell hl _, h1.blk 3 rfl⟩
  · exact mem_others.2 ⟨5, fo X, by decide, rfl, hm⟩
  · exact mem_others.2 ⟨5, fo X, by decide, rfl, hm⟩
end
theorem take_foldT {l : List Te} {k : Nat} {x : Te} (h : l[k]? = some x) : (l.take (k + 1)).map foldT = (l.take k).map foldT ++ [foldT x] := by
  obtain ⟨hk, rfl⟩ := List.getElem?_eq_some_iff.1 h
  rw [List.take_succ_eq_append_getElem hk, List.map_append]; rfl
theorem foldT_mk (op : Int) (nm : ByteArray) (x : List Ex) (l : List Te) : foldT (.mk op nm x l) = .mk op nm (x.map foldE) (l.map foldT) := by rw [foldT, foldT_go]
/-- A term that is answered. -/
def RetT (w : World) (X : List Nat) (e : Te) (x : Ending) : Prop := ∃ cs, x = .returned (.agg cs.toArray) ∧ RepT w X e cs
end Go.Proofs.Ytppnmeobnilojaa

/- The contract of check.folded; condition: built as it must be. -/
namespace Go.Proofs.Ytppnmeobnilojaa
set_option linter.unusedVariables false
set_option linter.unusedSimpArgs false
open Go.RowKit
set_option maxRecDepth 100000 in
set_option maxHeartbeats 8000000 in
theorem folded_any : ∀ (r : Nat) (e : Te), e.rk ≤ r → bT e = true → ∀ (X : List Nat) (cs : List Value) (w : World), (∀ b ∈ X, b < w.heap.size) → RepT w [] e cs →
    Calls Try.prog 63 #[.agg cs.toArray] w fun x w' => RetT w' X (foldT e) x ∧ Below w.heap.size w w' := by
  intro r
  induction r with
  | zero => intro e h; have := e.rk_pos; omega
  | succ r ih =>
    intro e hr hb X cs w hX hR
    obtain ⟨op, nm, ex, te, a, len, cap, a2, len2, cap2, rfl, rfl, i1, i3, hS, hS2⟩ := hR.inv
    obtain ⟨g1, g2, g3, g4, g5⟩ := bT_inv hb
    obtain ⟨f1, f2, f3⟩ := hS.facts
    obtain ⟨f4, f5, f6⟩ := hS2.facts
    have h3 : len ≤ 3 := by have := arX_lt4 op; omega
    have h4 : len2 ≤ 3 := by have := arT_lt4 op; omega
    have HIX : Hid (∀ (k : Nat) e1, ex[k]? = some e1 → ∀ Y cs1 W, (∀ b ∈ Y, b < W.heap.size) → RepE W [] e1 cs1 → Calls Try.prog 62 #[.agg cs1.toArray] W fun x w' => RetE w' Y (foldE e1) x ∧ Below W.heap.size W w') := by
      intro k e1 hk Y cs1 W hY hR1
      exact fold_any e1.rk e1 (Nat.le_refl _) (g4 e1 (List.mem_of_getElem? hk)) Y cs1 W hY hR1
    have HIT : Hid (∀ (k : Nat) e1, te[k]? = some e1 → ∀ Y cs1 W, (∀ b ∈ Y, b < W.heap.size) → RepT W [] e1 cs1 → Calls Try.prog 63 #[.agg cs1.toArray] W fun x w' => RetT w' Y (foldT e1) x ∧ Below W.heap.size W w') := by
      intro k e1 hk Y cs1 W hY hR1
      exact ih e1 (by have := Te.rk_lt (op := op) (nm := nm) (x := ex) hk; omega) (g5 e1 (List.mem_of_getElem? hk)) Y cs1 W hY hR1
    have HFO := Lib.hid (foldT_mk op nm ex te)
    have HJ : Hid (I64 op ∧ nm.size ≤ 9223372036854775807) := ⟨i1, i3⟩
    have HR0 := Lib.hid (FoldT.start (op := op) (nm := nm) (a := a) (len := len) (cap := cap) (a2 := a2) (len2 := len2) (cap2 := cap2) hX)
    have HSS := Lib.hid hS
    have HST := Lib.hid hS2
    have HL := Lib.hid f1
    have HL2 := Lib.hid f4
    clear ih hr hR hS hS2 i1 i3 f1 f4 g1 g2 g3 g4 g5 hb hX
    generalize foldT (.mk op nm ex te) = R at *
    go_enter Try.func63, Try.ntmps63
    go_upto_region 2 with (fail)
    generalize ((w.alloc (.cells #[.int .i64 op, .string nm, .slice a len cap, .slice a2 len2 cap2] 35)).alloc (.cells #[.int .i64 0, .string ⟨#[]⟩, .slice none 0 0, .slice none 0 0] 35)).alloc (.cells #[.int .i64 op, .string nm, .slice none 0 0, .slice none 0 0] 35) = w0 at *
    obtain ⟨e0, e1, e2, e3, -, -, -, -⟩ := blk4 (HR0.out.sep.blk 4 rfl)
    go_wp2_with fail
    clear e0 e1 e2 e3
    go_loopw [16] (fun i wr => ∃ (k : Nat) (vX : Value), i = .int .i64 (k : Nat) ∧ k ≤ len ∧ Hid (FoldT w wr op nm a len cap a2 len2 cap2 ((ex.take k).map foldE) vX [] (.slice none 0 0) X)) (fun i _ => len - (intOf i).toNat)
    case atStart => exact ⟨0, _, rfl, Nat.zero_le _, HR0.out⟩
    case round =>
      clear HR0
      obtain ⟨k, vX, rfl, hk, HR⟩ := hrel
      obtain ⟨e0, e1, e2, e3, -, -, -, -⟩ := blk4 (HR.out.sep.blk 4 rfl)
      by_cases hlt : k < len
      · obtain ⟨b, o, cop, cn, cnm, cargs, ca, clen, ccap, rfl, -, -, hxe, j1, j2, j3, hSc, v0, v1, v2, v3⟩ := (HSS.out.kept (Kept.of_below HR.out.below [])).at k hlt
        have j1' : (k : Int) < (len : Int) := by omega
        have j0' : (0 : Int) ≤ (k : Int) := by omega
        have HTK := Lib.hid (take_known hxe)
        have HLK := Lib.hid (show ((ex.take k).map foldE).length = k by rw [List.length_map, List.length_take, HL.out]; omega)
        have hal := (Below.refl wr.heap.size wr).alloc (Nat.le_refl _) (.cells #[.int .i64 cop, .int .i64 cn, .string cnm, .slice ca clen ccap] 46)
        have HR1 := Lib.hid (HR.out.up hal)
        have BV := Lib.hid (Mem.Blk.new wr 46 #[.int .i64 cop, .int .i64 cn, .string cnm, .slice ca clen ccap])
        have HC := Lib.hid (HIX.out k _ hxe (owns (famT w.heap.size op nm (some ⟨b, o, none⟩) len cap a2 len2 cap2 ((ex.take k).map foldE) vX [] (.slice none 0 0) X)) _ (wr.alloc (.cells #[.int .i64 cop, .int .i64 cn, .string cnm, .slice ca clen ccap] 46)).drew HR1.out.sep.drew.lt (((RepE.mk' j1 j2 j3 hSc).kept (Kept.of_below hal [])).kept (Kept.of_below (Below.refl _ _).drew _)))
        clear hxe j1 j2 j3 hSc hal
        generalize (ex.take k).map foldE = AS at *
        generalize foldE (Ex.mk cop cn cnm cargs) = Y at *
        go_upto_region 5 with (fail)
        clear HR v0 v1 v2 v3
        generalize wr.alloc (.cells #[.int .i64 cop, .int .i64 cn, .string cnm, .slice ca clen ccap] 46) = v4 at *
        generalize wr.heap.size = zb at *
        obtain ⟨v0, v1, v2, v3, -, -, -, -⟩ := blk4 BV.out
        have d3 : v4.cell? ⟨w.heap.size + 1 + 1, 2, none⟩ = some vX := (HR1.out.sep.blk 2 rfl).cell 2
        refine wp_region_till (S := fun W => W.cell? ⟨w.heap.size + 1 + 1, 2, none⟩ = some vX ∧ W.cell? ⟨zb, 0, none⟩ = some (.int .i64 cop) ∧ W.cell? ⟨zb, 1, none⟩ = some (.int .i64 cn) ∧ W.cell? ⟨zb, 2, none⟩ = some (.string cnm) ∧ W.cell? ⟨zb, 3, none⟩ = some (.slice ca clen ccap)) 5 (by kernel_rfl) ?_
        refine till_take (i := 0) (v := ?_) rfl (by kernel_rfl) (fun _ _ _ h => h) (Or.inl ⟨by rfl, ?_⟩) ⟨d3,v0,v1,v2,v3⟩ ?_
        rotate_left
        · intro W hS
          try dsimp only at hS
          go_split_ands
          go_simp
          try with_reducible rfl
        try simp only [Act.put, List.getElem_toArray, List.getElem_cons_zero, List.getElem_cons_succ, List.setIfInBounds_toArray, List.set_cons_zero, List.set_cons_succ]
        refine till_take (i := 1) (v := ?_) rfl (by kernel_rfl) (fun _ _ _ h => h) (Or.inl ⟨by rfl, ?_⟩) ⟨d3,v0,v1,v2,v3⟩ ?_
        rotate_left
        · intro W hS
          try dsimp only at hS
          go_split_ands
          go_simp
          try with_reducible rfl
        try simp only [Act.put, List.getElem_toArray, List.getElem_cons_zero, List.getElem_cons_succ, List.setIfInBounds_toArray, List.set_cons_zero, List.set_cons_succ]
        refine till_take (i := 2) (v := ?_) rfl (by kernel_rfl) (fun _ _ _ h => h) (Or.inl ⟨by rfl, ?_⟩) ⟨d3,v0,v1,v2,v3⟩ ?_
        rotate_left
        · intro W hS
          try dsimp only at hS
          go_split_ands
          go_simp
          try with_reducible rfl
        try simp only [Act.put, List.getElem_toArray, List.getElem_cons_zero, List.getElem_cons_succ, List.setIfInBounds_toArray, List.set_cons_zero, List.set_cons_succ]
        refine till_one (i := 3) (by kernel_rfl) rfl (fun K' hK => ?_)
        go_simp
        go_at_call 62
        (with_reducible refine HC.out.mono ?_)
        rintro x w1 ⟨⟨cs3, rfl, hR3⟩, b3⟩
        obtain ⟨o5, n5, m5, r5, a5, l5, p5, -, rfl, -, -, -, -⟩ := hR3.inv
        have HB1 := Lib.hid ((HR1.out.up (Below.refl v4.heap.size v4).drew).up b3)
        have HRP := Lib.hid hR3
        have d3' := cell_up (w := v4.drew) d3 b3
        have v0' := cell_up (w := v4.drew) v0 b3
        have v1' := cell_up (w := v4.drew) v1 b3
        have v2' := cell_up (w := v4.drew) v2 b3
        have v3' := cell_up (w := v4.drew) v3 b3
        refine hK _ _ ⟨d3',v0',v1',v2',v3'⟩ ?_
        clear hK K' b3 hR3 HC HR1 d3 e0 e1 e2 e3 v0 v1 v2 v3 BV
        try simp only [Act.put, List.getElem_toArray, List.getElem_cons_zero, List.getElem_cons_succ, List.setIfInBounds_toArray, List.set_cons_zero, List.set_cons_succ]
        refine till_one (i := 4) (by kernel_rfl) rfl (fun K' hK => ?_)
        go_simp
        have hbn := (Below.refl w1.heap.size w1).alloc (Nat.le_refl _) (.cells #[.int .i64 o5, .int .i64 n5, .string m5, .slice a5 l5 p5] 46)
        have HB2 := Lib.hid (HB1.out.up hbn)
        have BZ := Lib.hid (Mem.Blk.new w1 46 #[.int .i64 o5, .int .i64 n5, .string m5, .slice a5 l5 p5])
        have HRP2 := Lib.hid (HRP.out.kept (Kept.of_below hbn _))
        refine hK _ _ ⟨cell_up d3' hbn, cell_up v0' hbn, cell_up v1' hbn, cell_up v2' hbn, cell_up v3' hbn⟩ ?_
        clear hK K' hbn HB1 HRP d3' v0' v1' v2' v3'
        generalize w1.alloc (.cells #[.int .i64 o5, .int .i64 n5, .string m5, .slice a5 l5 p5] 46) = w2 at *
        generalize w1.heap.size = z at *
        try simp only [Act.put, List.getElem_toArray, List.getElem_cons_zero, List.getElem_cons_succ, List.setIfInBounds_toArray, List.set_cons_zero, List.set_cons_succ]
        refine till_last (by kernel_rfl) rfl (by kernel_rfl) (fun K' hK => ?_)
        obtain ⟨csl, hGr⟩ := HB2.out.sep.at 0 rfl
        refine step_ap infoE Try.underlying26 rfl (by decide) rfl (.tmp 21) (.tmp 24) rfl rfl hGr.own hGr.room ⟨z, 0, none⟩ 1 1 [.int .i64 o5, .int .i64 n5, .string m5, .slice a5 l5 p5] rfl rfl (fun m u hm => by rw [Mem.add0, BZ.out.cell]; simpa using hm) (by simp [Value.oneCell']) (by have := HLK.out; unfold maxLen; omega) (by have := HLK.out; omega) ?_
        intro v' w3 og gg hv'
        obtain ⟨g2, capn, rfl, -, -, -, -⟩ := own_form og (by omega)
        refine hK _ _ ?_
        clear hK K'
        obtain ⟨⟨m4, m5'⟩, hB3⟩ := HB2.out.pushX hGr HRP2.out og gg hv'
        have HB3 := Lib.hid hB3
        clear HB2 HRP2 hGr og gg hv' BZ hB3
        try simp only [Act.put, List.getElem_toArray, List.getElem_cons_zero, List.getElem_cons_succ, List.setIfInBounds_toArray, List.set_cons_zero, List.set_cons_succ]
        refine any_take (i := 6) (v := ?_) rfl (by kernel_rfl) (fun _ _ _ h => h) (Or.inl ⟨by rfl, ?_⟩) ?_
        rotate_left
        · intro W
          go_simp
          try with_reducible rfl
        try simp only [Act.put, List.getElem_toArray, List.getElem_cons_zero, List.getElem_cons_succ, List.setIfInBounds_toArray, List.set_cons_zero, List.set_cons_succ]
        refine any_one (i := 7) (by kernel_rfl) rfl (fun K' hK => ?_)
        go_simp
        refine hK _ _ ?_
        clear hK K' m4 m5'
        refine wpAny_done (by kernel_rfl) ?_ _
        go_wp2_with fail
        go_roundw
        case rel => exact ⟨k + 1, _, by go_num, by omega, by rw [HTK.out]; exact HB3.out⟩
        case measure => simp [intOf]; omega
      · have hk' : ¬ (k : Int) < (len : Int) := by omega
        obtain rfl : k = len := by omega
        have HAS : Hid ((ex.take k).map foldE = ex.map foldE) := by show _ = _; rw [← HL.out, List.take_length]
        rw [HAS.out] at HR
        obtain ⟨W0, rfl⟩ : ∃ W : World, W = wr := ⟨_, rfl⟩
        clear HIX HSS HL HAS hlt
        generalize ex.map foldE = AX at *
        go_wp2_with fail
        clear e0 e1 e2 e3
        go_loopw [31] (fun i wr => ∃ (j : Nat) (vY : Value), i = .int .i64 (j : Nat) ∧ j ≤ len2 ∧ Hid (FoldT w wr op nm a k cap a2 len2 cap2 AX vX ((te.take j).map foldT) vY X)) (fun i _ => len2 - (intOf i).toNat)
        case atStart => exact ⟨0, _, rfl, Nat.zero_le _, HR.out⟩
        case round =>
          clear HR
          obtain ⟨j, vY, rfl, hj, HR⟩ := hrel
          obtain ⟨e0, e1, e2, e3, -, -, -, -⟩ := blk4 (HR.out.sep.blk 4 rfl)
          by_cases hlt : j < len2
          · obtain ⟨b, o, cop, cnm, cex, cte, ca, clen, ccap, cb, clen2, ccap2, rfl, -, -, hxe, j1, j2, hSc, hTc, v0, v1, v2, v3⟩ := (HST.out.kept (Kept.of_below HR.out.below [])).at j hlt
            have j1' : (j : Int) < (len2 : Int) := by omega
            have j0' : (0 : Int) ≤ (j : Int) := by omega
            have HTK := Lib.hid (take_foldT hxe)
            have HLK := Lib.hid (show ((te.take j).map foldT).length = j by rw [List.length_map, List.length_take, HL2.out]; omega)
            have hal := (Below.refl wr.heap.size wr).alloc (Nat.le_refl _) (.cells #[.int .i64 cop, .string cnm, .slice ca clen ccap, .slice cb clen2 ccap2] 35)
            have HR1 := Lib.hid (HR.out.up hal)
            have BV := Lib.hid (Mem.Blk.new wr 35 #[.int .i64 cop, .string cnm, .slice ca clen ccap, .slice cb clen2 ccap2])
            have HC := Lib.hid (HIT.out j _ hxe (owns (famT w.heap.size op nm a k cap (some ⟨b, o, none⟩) len2 cap2 AX vX ((te.take j).map foldT) vY X)) _ (wr.alloc (.cells #[.int .i64 cop, .string cnm, .slice ca clen ccap, .slice cb clen2 ccap2] 35)).drew HR1.out.sep.drew.lt (((RepT.mk' j1 j2 hSc hTc).kept (Kept.of_below hal [])).kept (Kept.of_below (Below.refl _ _).drew _)))
            clear hxe j1 j2 hSc hTc hal
            generalize (te.take j).map foldT = AS at *
            generalize foldT (Te.mk cop cnm cex cte) = Y at *
            go_upto_region 10 with (fail)
            clear HR v0 v1 v2 v3
            generalize wr.alloc (.cells #[.int .i64 cop, .string cnm, .slice ca clen ccap, .slice cb clen2 ccap2] 35) = v4 at *
            generalize wr.heap.size = zb at *
            obtain ⟨v0, v1, v2, v3, -, -, -, -⟩ := blk4 BV.out
            have d3 : v4.cell? ⟨w.heap.size + 1 + 1, 3, none⟩ = some vY := (HR1.out.sep.blk 2 rfl).cell 3
            refine wp_region_till (S := fun W => W.cell? ⟨w.heap.size + 1 + 1, 3, none⟩ = some vY ∧ W.cell? ⟨zb, 0, none⟩ = some (.int .i64 cop) ∧ W.cell? ⟨zb, 1, none⟩ = some (.string cnm) ∧ W.cell? ⟨zb, 2, none⟩ = some (.slice ca clen ccap) ∧ W.cell? ⟨zb, 3, none⟩ = some (.slice cb clen2 ccap2)) 5 (by kernel_rfl) ?_
            refine till_take (i := 0) (v := ?_) rfl (by kernel_rfl) (fun _ _ _ h => h) (Or.inl ⟨by rfl, ?_⟩) ⟨d3,v0,v1,v2,v3⟩ ?_
            rotate_left
            · intro W hS
              try dsimp only at hS
              go_split_ands
              go_simp
              try with_reducible rfl
            try simp only [Act.put, List.getElem_toArray, List.getElem_cons_zero, List.getElem_cons_succ, List.setIfInBounds_toArray, List.set_cons_zero, List.set_cons_succ]
            refine till_take (i := 1) (v := ?_) rfl (by kernel_rfl) (fun _ _ _ h => h) (Or.inl ⟨by rfl, ?_⟩) ⟨d3,v0,v1,v2,v3⟩ ?_
            rotate_left
            · intro W hS
              try dsimp only at hS
              go_split_ands
              go_simp
              try with_reducible rfl
            try simp only [Act.put, List.getElem_toArray, List.getElem_cons_zero, List.getElem_cons_succ, List.setIfInBounds_toArray, List.set_cons_zero, List.set_cons_succ]
            refine till_take (i := 2) (v := ?_) rfl (by kernel_rfl) (fun _ _ _ h => h) (Or.inl ⟨by rfl, ?_⟩) ⟨d3,v0,v1,v2,v3⟩ ?_
            rotate_left
            · intro W hS
              try dsimp only at hS
              go_split_ands
              go_simp
              try with_reducible rfl
            try simp only [Act.put, List.getElem_toArray, List.getElem_cons_zero, List.getElem_cons_succ, List.setIfInBounds_toArray, List.set_cons_zero, List.set_cons_succ]
            refine till_one (i := 3) (by kernel_rfl) rfl (fun K' hK => ?_)
            go_simp
            go_at_call 63
            (with_reducible refine HC.out.mono ?_)
            rintro x w1 ⟨⟨cs3, rfl, hR3⟩, b3⟩
            obtain ⟨o5, m5, x5, t5, a5, l5, p5, a6, l6, p6, -, rfl, -⟩ := hR3.inv
            have HB1 := Lib.hid ((HR1.out.up (Below.refl v4.heap.size v4).drew).up b3)
            have HRP := Lib.hid hR3
            have d3' := cell_up (w := v4.drew) d3 b3
            have v0' := cell_up (w := v4.drew) v0 b3
            have v1' := cell_up (w := v4.drew) v1 b3
            have v2' := cell_up (w := v4.drew) v2 b3
            have v3' := cell_up (w := v4.drew) v3 b3
            refine hK _ _ ⟨d3',v0',v1',v2',v3'⟩ ?_
            clear hK K' b3 hR3 HC HR1 d3 e0 e1 e2 e3 v0 v1 v2 v3 BV
            try simp only [Act.put, List.getElem_toArray, List.getElem_cons_zero, List.getElem_cons_succ, List.setIfInBounds_toArray, List.set_cons_zero, List.set_cons_succ]
            refine till_one (i := 4) (by kernel_rfl) rfl (fun K' hK => ?_)
            go_simp
            have hbn := (Below.refl w1.heap.size w1).alloc (Nat.le_refl _) (.cells #[.int .i64 o5, .string m5, .slice a5 l5 p5, .slice a6 l6 p6] 35)
            have HB2 := Lib.hid (HB1.out.up hbn)
            have BZ := Lib.hid (Mem.Blk.new w1 35 #[.int .i64 o5, .string m5, .slice a5 l5 p5, .slice a6 l6 p6])
            have HRP2 := Lib.hid (HRP.out.kept (Kept.of_below hbn _))
            refine hK _ _ ⟨cell_up d3' hbn, cell_up v0' hbn, cell_up v1' hbn, cell_up v2' hbn, cell_up v3' hbn⟩ ?_
            clear hK K' hbn HB1 HRP d3' v0' v1' v2' v3'
            generalize w1.alloc (.cells #[.int .i64 o5, .string m5, .slice a5 l5 p5, .slice a6 l6 p6] 35) = w2 at *
            generalize w1.heap.size = z at *
            try simp only [Act.put, List.getElem_toArray, List.getElem_cons_zero, List.getElem_cons_succ, List.setIfInBounds_toArray, List.set_cons_zero, List.set_cons_succ]
            refine till_last (by kernel_rfl) rfl (by kernel_rfl) (fun K' hK => ?_)
            obtain ⟨csl, hGr⟩ := HB2.out.sep.at 1 rfl
            refine step_ap infoT Try.underlying28 rfl (by decide) rfl (.tmp 36) (.tmp 39) rfl rfl hGr.own hGr.room ⟨z, 0, none⟩ 1 1 [.int .i64 o5, .string m5, .slice a5 l5 p5, .slice a6 l6 p6] rfl rfl (fun m u hm => by rw [Mem.add0, BZ.out.cell]; simpa using hm) (by simp [Value.oneCell']) (by have := HLK.out; unfold maxLen; omega) (by have := HLK.out; omega) ?_
            intro v' w3 og gg hv'
            obtain ⟨g2, capn, rfl, -, -, -, -⟩ := own_form og (by omega)
            refine hK _ _ ?_
            clear hK K'
            obtain ⟨⟨m4, m5'⟩, hB3⟩ := HB2.out.pushY hGr HRP2.out og gg hv'
            have HB3 := Lib.hid hB3
            clear HB2 HRP2 hGr og gg hv' BZ hB3
            try simp only [Act.put, List.getElem_toArray, List.getElem_cons_zero, List.getElem_cons_succ, List.setIfInBounds_toArray, List.set_cons_zero, List.set_cons_succ]
            refine any_take (i := 6) (v := ?_) rfl (by kernel_rfl) (fun _ _ _ h => h) (Or.inl ⟨by rfl, ?_⟩) ?_
            rotate_left
            · intro W
              go_simp
              try with_reducible rfl
            try simp only [Act.put, List.getElem_toArray, List.getElem_cons_zero, List.getElem_cons_succ, List.setIfInBounds_toArray, List.set_cons_zero, List.set_cons_succ]
            refine any_one (i := 7) (by kernel_rfl) rfl (fun K' hK => ?_)
            go_simp
            refine hK _ _ ?_
            clear hK K' m4 m5'
            refine wpAny_done (by kernel_rfl) ?_ _
            go_wp2_with fail
            go_roundw
            case rel => exact ⟨j + 1, _, by go_num, by omega, by rw [HTK.out]; exact HB3.out⟩
            case measure => simp [intOf]; omega
          · have hj' : ¬ (j : Int) < (len2 : Int) := by omega
            obtain rfl : j = len2 := by omega
            have HAT : Hid ((te.take j).map foldT = te.map foldT) := by show _ = _; rw [← HL2.out, List.take_length]
            rw [HAT.out] at HR
            have hR : R = .mk op nm AX (te.map foldT) := HFO.out
            generalize te.map foldT = AY at *
            obtain ⟨⟨aA, cA, rfl⟩, aB, cB, rfl⟩ := HR.out.form
            have HFN := Lib.hid (HR.out.fin HJ.out.1 HJ.out.2)
            have hm1 : w.heap.size + 1 < wr.heap.size := (HR.out.sep.blk 3 rfl).lt
            obtain ⟨s0, s1, s2, s3, -, -, -, -⟩ := blk4 (HR.out.sep.blk 2 rfl)
            obtain ⟨t0, t1, t2, t3, t4, t5, t6, t7⟩ := blk4 (HR.out.sep.blk 3 rfl)
            clear HR HJ HIT HST HAT hlt HFO
            subst hR
            go_wp2_with fail
            generalize (((wr.setCell ⟨w.heap.size + 1, 0, none⟩ (.int .i64 op)).setCell ⟨w.heap.size + 1, 1, none⟩ (.string nm)).setCell ⟨w.heap.size + 1, 2, none⟩ (.slice aA AX.length cA)).setCell ⟨w.heap.size + 1, 3, none⟩ (.slice aB AY.length cB) = W9 at *
            obtain ⟨r0, r1, r2, r3, -, -, -, -⟩ := blk4 HFN.out.2.2
            refine bodyPost_ret (v := .agg #[.int .i64 op, .string nm, .slice aA AX.length cA, .slice aB AY.length cB]) (by simp [results, Try.results63, go_sem, r0, r1, r2, r3]) rfl ⟨⟨_, rfl, HFN.out.1⟩, HFN.out.2.1⟩
end Go.Proofs.Ytppnmeobnilojaa

/- The contract of check.Folded; condition: not more than 1000 deep. -/
namespace Go.Proofs.Ytppnmeobnilojaa
set_option linter.unusedVariables false
set_option linter.unusedSimpArgs false
open Go.RowKit
def foldTX (e : Te) : Te := if rT e then foldT e else e
theorem rT_bT {e : Te} (h : rT e = true) : bT e = true := by unfold rT at h; rw [Bool.and_eq_true] at h; exact h.2
set_option maxRecDepth 100000 in
set_option maxHeartbeats 1000000 in
theorem foldTX_any (e : Te) (X : List Nat) (cs : List Value) (w : World) (hR : RepT w X e cs) (hX : ∀ b ∈ X, b < w.heap.size) (hk : e.rk ≤ 1000) :
    Calls Try.prog 30 #[.agg cs.toArray] w fun x w' => RetT w' X (foldTX e) x ∧ Below w.heap.size w w' := by
  obtain ⟨op, nm, ex, te, a, len, cap, a2, len2, cap2, he, rfl, i1, i3, hS, hS2⟩ := hR.inv
  have HF : Hid (foldTX e = if rT e then foldT e else e) := rfl
  have HB := Lib.hid (@rT_bT e)
  have HX := Lib.hid hX
  have h0 := (Below.refl w.heap.size w).alloc (Nat.le_refl _) (.cells #[.int .i64 op, .string nm, .slice a len cap, .slice a2 len2 cap2] 35)
  have h1 := h0.alloc (by simp) (.cells #[.int .i64 0, .string ⟨#[]⟩, .slice none 0 0, .slice none 0 0] 35)
  have HB0 := Lib.hid h1
  have BX := Lib.hid ((Mem.Blk.new w 35 #[.int .i64 op, .string nm, .slice a len cap, .slice a2 len2 cap2]).alloc (.cells #[.int .i64 0, .string ⟨#[]⟩, .slice none 0 0, .slice none 0 0] 35))
  have e1 : (w.alloc (.cells #[.int .i64 op, .string nm, .slice a len cap, .slice a2 len2 cap2] 35)).heap.size = w.heap.size + 1 := by simp
  have hBY := Mem.Blk.new (w.alloc (.cells #[.int .i64 op, .string nm, .slice a len cap, .slice a2 len2 cap2] 35)) 35 #[.int .i64 0, .string ⟨#[]⟩, .slice none 0 0, .slice none 0 0]
  rw [e1] at hBY
  have BY := Lib.hid hBY
  have HR0 := Lib.hid (hR.kept (Kept.of_below h1 X))
  have HN0 : Hid (RepT w ((w.heap.size + 1) :: X) e [.int .i64 op, .string nm, .slice a len cap, .slice a2 len2 cap2]) := hR.less (fun b hb hm => by
    rcases List.mem_cons.1 hm with rfl | hm
    · omega
    · exact hm)
  have HC := Lib.hid (fun W (hW : RepT W [] e _) => right_any e [.int .i64 op, .string nm, .slice a len cap, .slice a2 len2 cap2] W hW hk)
  have HK : Hid (∀ (Y : List Nat) W, bT e = true → (∀ b ∈ Y, b < W.heap.size) → RepT W [] e [.int .i64 op, .string nm, .slice a len cap, .slice a2 len2 cap2] → Calls Try.prog 63 #[.agg #[.int .i64 op, .string nm, .slice a len cap, .slice a2 len2 cap2]] W fun x w' => RetT w' Y (foldT e) x ∧ Below W.heap.size W w') := fun Y W hb hY hW => folded_any e.rk e (Nat.le_refl _) hb Y _ W hY hW
  clear h0 h1 e1 hBY he i1 i3 hS hS2 hR hk hX
  generalize rT e = re at *
  generalize foldTX e = R at *
  go_enter Try.func30, Try.ntmps30
  go_upto_region 1 with (fail)
  generalize (w.alloc (.cells #[.int .i64 op, .string nm, .slice a len cap, .slice a2 len2 cap2] 35)).alloc (.cells #[.int .i64 0, .string ⟨#[]⟩, .slice none 0 0, .slice none 0 0] 35) = v at *
  obtain ⟨c0, c1, c2, c3, -, -, -, -⟩ := blk4 BX.out
  go_wp2_with fail
  go_at_call 22
  (with_reducible refine (HC.out v HR0.out.free).mono ?_)
  rintro y w1 ⟨rfl, b1⟩
  have HB1 := Lib.hid (HB0.out.trans (b1.mono HB0.out.size))
  have BX1 := Lib.hid (BX.out.below b1)
  have BY1 := Lib.hid (BY.out.below b1)
  have HR1 := Lib.hid (HR0.out.kept (Kept.of_below b1 X))
  clear b1 HB0 BX BY HR0 HC c0 c1 c2 c3
  obtain ⟨c0, c1, c2, c3, -, -, -, -⟩ := blk4 BX1.out
  have h1 : w.heap.size ≤ w.heap.size + 1 := by omega
  have HN : Hid (RepT w1 ((w.heap.size + 1) :: X) e [.int .i64 op, .string nm, .slice a len cap, .slice a2 len2 cap2]) := HN0.out.kept (Kept.of_below HB1.out _)
  clear HN0
  cases re with
  | false =>
    obtain ⟨t0, t1, t2, t3, t4, t5, t6, t7⟩ := blk4 BY1.out
    have hm1 : w.heap.size + 1 < w1.heap.size := BY1.out.lt
    have HFN := Lib.hid (ret4T (c0 := .int .i64 op) (c1 := .string nm) (c2 := .slice a len cap) (c3 := .slice a2 len2 cap2) HB1.out h1 BY1.out HN.out)
    have HF' : R = e := HF.out
    subst HF'
    clear HF BX1 BY1 HN HR1 HB1 HX HB HK h1
    go_wp2_with fail
    generalize (((w1.setCell ⟨w.heap.size + 1, 0, none⟩ (.int .i64 op)).setCell ⟨w.heap.size + 1, 1, none⟩ (.string nm)).setCell ⟨w.heap.size + 1, 2, none⟩ (.slice a len cap)).setCell ⟨w.heap.size + 1, 3, none⟩ (.slice a2 len2 cap2) = W9 at *
    obtain ⟨r0, r1, r2, r3, -, -, -, -⟩ := blk4 HFN.out.2.2
    refine bodyPost_ret (v := .agg #[.int .i64 op, .string nm, .slice a len cap, .slice a2 len2 cap2]) (by simp [results, Try.results30, go_sem, r0, r1, r2, r3]) rfl ⟨⟨_, rfl, HFN.out.1⟩, HFN.out.2.1⟩
  | true =>
    have HY := HB.out rfl
    go_wp2_with fail
    go_at_call 63
    (with_reducible refine (HK.out ((w.heap.size + 1) :: X) w1 HY ?_ HR1.out.free).mono ?_)
    · intro b hb
      have := BY1.out.lt
      rcases List.mem_cons.1 hb with rfl | hb
      · exact this
      · have := HX.out b hb; omega
    rintro x w2 ⟨⟨cs2, rfl, hR2⟩, b2⟩
    obtain ⟨o7, m7, x7, r7, a7, l7, p7, a8, l8, p8, hce, rfl, -⟩ := hR2.inv
    have HFN := Lib.hid (ret4T (HB1.out.trans (b2.mono HB1.out.size)) h1 (BY1.out.below b2) hR2)
    have t' := BY1.out.below b2
    have hm1 : w.heap.size + 1 < w2.heap.size := t'.lt
    obtain ⟨t0, t1, t2, t3, t4, t5, t6, t7⟩ := blk4 t'
    have HF' : R = foldT e := HF.out
    subst HF'
    clear HF BX1 BY1 HN HR1 HB1 HX HB HK h1 t' hce hR2 b2 c0 c1 c2 c3
    go_wp2_with fail
    generalize (((w2.setCell ⟨w.heap.size + 1, 0, none⟩ (.int .i64 o7)).setCell ⟨w.heap.size + 1, 1, none⟩ (.string m7)).setCell ⟨w.heap.size + 1, 2, none⟩ (.slice a7 l7 p7)).setCell ⟨w.heap.size + 1, 3, none⟩ (.slice a8 l8 p8) = W9 at *
    obtain ⟨r0, r1, r2, r3, -, -, -, -⟩ := blk4 HFN.out.2.2
    refine bodyPost_ret (v := .agg #[.int .i64 o7, .string m7, .slice a7 l7 p7, .slice a8 l8 p8]) (by simp [results, Try.results30, go_sem, r0, r1, r2, r3]) rfl ⟨⟨_, rfl, HFN.out.1⟩, HFN.out.2.1⟩
end Go.Proofs.Ytppnmeobnilojaa

/- The contract of ref21.Folded; condition: built as it must be. -/
namespace Go.Proofs.Ytppnmeobnilojaa
set_option linter.unusedVariables false
set_option linter.unusedSimpArgs false
open Go.RowKit
set_option maxRecDepth 100000 in
set_option maxHeartbeats 8000000 in
theorem rfolded_any : ∀ (r : Nat) (e : Te), e.rk ≤ r → bT e = true → ∀ (X : List Nat) (cs : List Value) (w : World), (∀ b ∈ X, b < w.heap.size) → RepT w [] e cs →
    Calls Try.prog 31 #[.agg cs.toArray] w fun x w' => RetT w' X (foldT e) x ∧ Below w.heap.size w w' := by
  intro r
  induction r with
  | zero => intro e h; have := e.rk_pos; omega
  | succ r ih =>
    intro e hr hb X cs w hX hR
    obtain ⟨op, nm, ex, te, a, len, cap, a2, len2, cap2, rfl, rfl, i1, i3, hS, hS2⟩ := hR.inv
    obtain ⟨g1, g2, g3, g4, g5⟩ := bT_inv hb
    obtain ⟨f1, f2, f3⟩ := hS.facts
    obtain ⟨f4, f5, f6⟩ := hS2.facts
    have h3 : len ≤ 3 := by have := arX_lt4 op; omega
    have h4 : len2 ≤ 3 := by have := arT_lt4 op; omega
    have HIX : Hid (∀ (k : Nat) e1, ex[k]? = some e1 → ∀ Y cs1 W, (∀ b ∈ Y, b < W.heap.size) → RepE W [] e1 cs1 → Calls Try.prog 26 #[.agg cs1.toArray] W fun x w' => RetE w' Y (foldE e1) x ∧ Below W.heap.size W w') := by
      intro k e1 hk Y cs1 W hY hR1
      exact rfold_any e1.rk e1 (Nat.le_refl _) (g4 e1 (List.mem_of_getElem? hk)) Y cs1 W hY hR1
    have HIT : Hid (∀ (k : Nat) e1, te[k]? = some e1 → ∀ Y cs1 W, (∀ b ∈ Y, b < W.heap.size) → RepT W [] e1 cs1 → Calls Try.prog 31 #[.agg cs1.toArray] W fun x w' => RetT w' Y (foldT e1) x ∧ Below W.heap.size W w') := by
      intro k e1 hk Y cs1 W hY hR1
      exact ih e1 (by have := Te.rk_lt (op := op) (nm := nm) (x := ex) hk; omega) (g5 e1 (List.mem_of_getElem? hk)) Y cs1 W hY hR1
    have HFO := Lib.hid (foldT_mk op nm ex te)
    have HJ : Hid (I64 op ∧ nm.size ≤ 9223372036854775807) := ⟨i1, i3⟩
    have HR0 := Lib.hid (FoldT.start (op := op) (nm := nm) (a := a) (len := len) (cap := cap) (a2 := a2) (len2 := len2) (cap2 := cap2) hX)
    have HSS := Lib.hid hS
    have HST := Lib.hid hS2
    have HL := Lib.hid f1
    have HL2 := Lib.hid f4
    clear ih hr hR hS hS2 i1 i3 f1 f4 g1 g2 g3 g4 g5 hb hX
    generalize foldT (.mk op nm ex te) = R at *
    go_enter Try.func31, Try.ntmps31
    go_upto_region 2 with (fail)
    generalize ((w.alloc (.cells #[.int .i64 op, .string nm, .slice a len cap, .slice a2 len2 cap2] 35)).alloc (.cells #[.int .i64 0, .string ⟨#[]⟩, .slice none 0 0, .slice none 0 0] 35)).alloc (.cells #[.int .i64 op, .string nm, .slice none 0 0, .slice none 0 0] 35) = w0 at *
    go_wp2_with fail
    go_loopw [4] (fun i wr => ∃ (k : Nat) (vX : Value), i = .int .i64 (k : Nat) ∧ k ≤ len ∧ Hid (FoldT w wr op nm a len cap a2 len2 cap2 ((ex.take k).map foldE) vX [] (.slice none 0 0) X)) (fun i _ => len - (intOf i).toNat)
    case atStart => exact ⟨0, _, rfl, Nat.zero_le _, HR0.out⟩
    case round =>
      clear HR0
      obtain ⟨k, vX, rfl, hk, HR⟩ := hrel
      obtain ⟨e0, e1, e2, e3, -, -, -, -⟩ := blk4 (HR.out.sep.blk 4 rfl)
      by_cases hlt : k < len
      · obtain ⟨b, o, cop, cn, cnm, cargs, ca, clen, ccap, rfl, -, -, hxe, j1, j2, j3, hSc, v0, v1, v2, v3⟩ := (HSS.out.kept (Kept.of_below HR.out.below [])).at k hlt
        have j1' : (k : Int) < (len : Int) := by omega
        have j0' : (0 : Int) ≤ (k : Int) := by omega
        have HTK := Lib.hid (take_known hxe)
        have HLK := Lib.hid (show ((ex.take k).map foldE).length = k by rw [List.length_map, List.length_take, HL.out]; omega)
        have HC := Lib.hid (HIX.out k _ hxe (owns (famT w.heap.size op nm (some ⟨b, o, none⟩) len cap a2 len2 cap2 ((ex.take k).map foldE) vX [] (.slice none 0 0) X)) _ wr.drew HR.out.sep.drew.lt ((RepE.mk' j1 j2 j3 hSc).kept (Kept.of_below (Below.refl wr.heap.size wr).drew _)))
        clear hxe j1 j2 j3 hSc
        have d3 : wr.cell? ⟨w.heap.size + 1 + 1, 2, none⟩ = some vX := (HR.out.sep.blk 2 rfl).cell 2
        generalize (ex.take k).map foldE = AS at *
        generalize foldE (Ex.mk cop cn cnm cargs) = Y at *
        go_wp2_with fail
        refine wp_region_till (S := fun W => W.cell? ⟨w.heap.size + 1 + 1, 2, none⟩ = some vX ∧ W.cell? ⟨w.heap.size, 2, none⟩ = some (.slice (some ⟨b, o, none⟩) len cap) ∧ W.cell? ⟨b, o + k * 4, none⟩ = some (.int .i64 cop) ∧ W.cell? ⟨b, o + k * 4 + 1, none⟩ = some (.int .i64 cn) ∧ W.cell? ⟨b, o + k * 4 + 2, none⟩ = some (.string cnm) ∧ W.cell? ⟨b, o + k * 4 + 3, none⟩ = some (.slice ca clen ccap)) 9 (by kernel_rfl) ?_
        refine till_take (i := 0) (v := ?_) rfl (by kernel_rfl) (fun _ _ _ h => h) (Or.inl ⟨by rfl, ?_⟩) ⟨d3,e2,v0,v1,v2,v3⟩ ?_
        rotate_left
        · intro W hS
          try dsimp only at hS
          go_split_ands
          go_simp
          try with_reducible rfl
        try simp only [Act.put, List.getElem_toArray, List.getElem_cons_zero, List.getElem_cons_succ, List.setIfInBounds_toArray, List.set_cons_zero, List.set_cons_succ]
        refine till_take (i := 1) (v := ?_) rfl (by kernel_rfl) (fun _ _ _ h => h) (Or.inl ⟨by rfl, ?_⟩) ⟨d3,e2,v0,v1,v2,v3⟩ ?_
        rotate_left
        · intro W hS
          try dsimp only at hS
          go_split_ands
          go_simp
          try with_reducible rfl
        try simp only [Act.put, List.getElem_toArray, List.getElem_cons_zero, List.getElem_cons_succ, List.setIfInBounds_toArray, List.set_cons_zero, List.set_cons_succ]
        refine till_take (i := 2) (v := ?_) rfl (by kernel_rfl) (fun _ _ _ h => h) (Or.inl ⟨by rfl, ?_⟩) ⟨d3,e2,v0,v1,v2,v3⟩ ?_
        rotate_left
        · intro W hS
          try dsimp only at hS
          go_split_ands
          go_simp
          try with_reducible rfl
        try simp only [Act.put, List.getElem_toArray, List.getElem_cons_zero, List.getElem_cons_succ, List.setIfInBounds_toArray, List.set_cons_zero, List.set_cons_succ]
        refine till_take (i := 3) (v := ?_) rfl (by kernel_rfl) (fun _ _ _ h => h) (Or.inl ⟨by rfl, ?_⟩) ⟨d3,e2,v0,v1,v2,v3⟩ ?_
        rotate_left
        · intro W hS
          try dsimp only at hS
          go_split_ands
          go_simp
          try with_reducible rfl
        try simp only [Act.put, List.getElem_toArray, List.getElem_cons_zero, List.getElem_cons_succ, List.setIfInBounds_toArray, List.set_cons_zero, List.set_cons_succ]
        refine till_take (i := 4) (v := ?_) rfl (by kernel_rfl) (fun _ _ _ h => h) (Or.inl ⟨by rfl, ?_⟩) ⟨d3,e2,v0,v1,v2,v3⟩ ?_
        rotate_left
        · intro W hS
          try dsimp only at hS
          go_split_ands
          go_simp
          try with_reducible rfl
        try simp only [Act.put, List.getElem_toArray, List.getElem_cons_zero, List.getElem_cons_succ, List.setIfInBounds_toArray, List.set_cons_zero, List.set_cons_succ]
        refine till_take (i := 5) (v := ?_) rfl (by kernel_rfl) (fun _ _ _ h => h) (Or.inl ⟨by rfl, ?_⟩) ⟨d3,e2,v0,v1,v2,v3⟩ ?_
        rotate_left
        · intro W hS
          try dsimp only at hS
          go_split_ands
          go_simp
          try with_reducible rfl
        try simp only [Act.put, List.getElem_toArray, List.getElem_cons_zero, List.getElem_cons_succ, List.setIfInBounds_toArray, List.set_cons_zero, List.set_cons_succ]
        refine till_take (i := 6) (v := ?_) rfl (by kernel_rfl) (fun _ _ _ h => h) (Or.inl ⟨by rfl, ?_⟩) ⟨d3,e2,v0,v1,v2,v3⟩ ?_
        rotate_left
        · intro W hS
          try dsimp only at hS
          go_split_ands
          go_simp
          try with_reducible rfl
        try simp only [Act.put, List.getElem_toArray, List.getElem_cons_zero, List.getElem_cons_succ, List.setIfInBounds_toArray, List.set_cons_zero, List.set_cons_succ]
        refine till_one (i := 7) (by kernel_rfl) rfl (fun K' hK => ?_)
        go_simp
        go_at_call 26
        (with_reducible refine HC.out.mono ?_)
        rintro x w1 ⟨⟨cs3, rfl, hR3⟩, b3⟩
        obtain ⟨o5, n5, m5, r5, a5, l5, p5, -, rfl, -, -, -, -⟩ := hR3.inv
        have HB1 := Lib.hid ((HR.out.up (Below.refl wr.heap.size wr).drew).up b3)
        have HRP := Lib.hid hR3
        have d3' := cell_up (w := wr.drew) d3 b3
        have e3' := cell_up (w := wr.drew) e2 b3
        have v0' := cell_up (w := wr.drew) v0 b3
        have v1' := cell_up (w := wr.drew) v1 b3
        have v2' := cell_up (w := wr.drew) v2 b3
        have v3' := cell_up (w := wr.drew) v3 b3
        refine hK _ _ ⟨d3',e3',v0',v1',v2',v3'⟩ ?_
        clear hK K' b3 hR3 HC HR d3 e0 e1 e2 e3 v0 v1 v2 v3
        try simp only [Act.put, List.getElem_toArray, List.getElem_cons_zero, List.getElem_cons_succ, List.setIfInBounds_toArray, List.set_cons_zero, List.set_cons_succ]
        refine till_one (i := 8) (by kernel_rfl) rfl (fun K' hK => ?_)
        go_simp
        have hbn := (Below.refl w1.heap.size w1).alloc (Nat.le_refl _) (.cells #[.int .i64 o5, .int .i64 n5, .string m5, .slice a5 l5 p5] 46)
        have HB2 := Lib.hid (HB1.out.up hbn)
        have BZ := Lib.hid (Mem.Blk.new w1 46 #[.int .i64 o5, .int .i64 n5, .string m5, .slice a5 l5 p5])
        have HRP2 := Lib.hid (HRP.out.kept (Kept.of_below hbn _))
        refine hK _ _ ⟨cell_up d3' hbn, cell_up e3' hbn, cell_up v0' hbn, cell_up v1' hbn, cell_up v2' hbn, cell_up v3' hbn⟩ ?_
        clear hK K' hbn HB1 HRP d3' e3' v0' v1' v2' v3'
        generalize w1.alloc (.cells #[.int .i64 o5, .int .i64 n5, .string m5, .slice a5 l5 p5] 46) = w2 at *
        generalize w1.heap.size = z at *
        try simp only [Act.put, List.getElem_toArray, List.getElem_cons_zero, List.getElem_cons_succ, List.setIfInBounds_toArray, List.set_cons_zero, List.set_cons_succ]
        refine till_last (by kernel_rfl) rfl (by kernel_rfl) (fun K' hK => ?_)
        obtain ⟨csl, hGr⟩ := HB2.out.sep.at 0 rfl
        refine step_ap infoE Try.underlying26 rfl (by decide) rfl (.tmp 19) (.tmp 26) rfl rfl hGr.own hGr.room ⟨z, 0, none⟩ 1 1 [.int .i64 o5, .int .i64 n5, .string m5, .slice a5 l5 p5] rfl rfl (fun m u hm => by rw [Mem.add0, BZ.out.cell]; simpa using hm) (by simp [Value.oneCell']) (by have := HLK.out; unfold maxLen; omega) (by have := HLK.out; omega) ?_
        intro v' w3 og gg hv'
        obtain ⟨g2, capn, rfl, -, -, -, -⟩ := own_form og (by omega)
        refine hK _ _ ?_
        clear hK K'
        obtain ⟨⟨m4, m5'⟩, hB3⟩ := HB2.out.pushX hGr HRP2.out og gg hv'
        have HB3 := Lib.hid hB3
        clear HB2 HRP2 hGr og gg hv' BZ hB3
        try simp only [Act.put, List.getElem_toArray, List.getElem_cons_zero, List.getElem_cons_succ, List.setIfInBounds_toArray, List.set_cons_zero, List.set_cons_succ]
        refine any_take (i := 10) (v := ?_) rfl (by kernel_rfl) (fun _ _ _ h => h) (Or.inl ⟨by rfl, ?_⟩) ?_
        rotate_left
        · intro W
          go_simp
          try with_reducible rfl
        try simp only [Act.put, List.getElem_toArray, List.getElem_cons_zero, List.getElem_cons_succ, List.setIfInBounds_toArray, List.set_cons_zero, List.set_cons_succ]
        refine any_one (i := 11) (by kernel_rfl) rfl (fun K' hK => ?_)
        go_simp
        refine hK _ _ ?_
        clear hK K' m4 m5'
        refine wpAny_done (by kernel_rfl) ?_ _
        go_wp2_with fail
        go_roundw
        case rel => exact ⟨k + 1, _, by go_num, by omega, by rw [HTK.out]; exact HB3.out⟩
        case measure => simp [intOf]; omega
      · have hk' : ¬ (k : Int) < (len : Int) := by omega
        obtain rfl : k = len := by omega
        have HAS : Hid ((ex.take k).map foldE = ex.map foldE) := by show _ = _; rw [← HL.out, List.take_length]
        rw [HAS.out] at HR
        obtain ⟨W0, rfl⟩ : ∃ W : World, W = wr := ⟨_, rfl⟩
        clear HIX HSS HL HAS hlt
        generalize ex.map foldE = AX at *
        go_wp2_with fail
        clear e0 e1 e2 e3
        go_loopw [5] (fun i wr => ∃ (j : Nat) (vY : Value), i = .int .i64 (j : Nat) ∧ j ≤ len2 ∧ Hid (FoldT w wr op nm a k cap a2 len2 cap2 AX vX ((te.take j).map foldT) vY X)) (fun i _ => len2 - (intOf i).toNat)
        case atStart => exact ⟨0, _, rfl, Nat.zero_le _, HR.out⟩
        case round =>
          clear HR
          obtain ⟨j, vY, rfl, hj, HR⟩ := hrel
          obtain ⟨e0, e1, e2, e3, -, -, -, -⟩ := blk4 (HR.out.sep.blk 4 rfl)
          by_cases hlt : j < len2
          · obtain ⟨b, o, cop, cnm, cex, cte, ca, clen, ccap, cb, clen2, ccap2, rfl, -, -, hxe, j1, j2, hSc, hTc, v0, v1, v2, v3⟩ := (HST.out.kept (Kept.of_below HR.out.below [])).at j hlt
            have j1' : (j : Int) < (len2 : Int) := by omega
            have j0' : (0 : Int) ≤ (j : Int) := by omega
            have HTK := Lib.hid (take_foldT hxe)
            have HLK := Lib.hid (show ((te.take j).map foldT).length = j by rw [List.length_map, List.length_take, HL2.out]; omega)
            have HC := Lib.hid (HIT.out j _ hxe (owns (famT w.heap.size op nm a k cap (some ⟨b, o, none⟩) len2 cap2 AX vX ((te.take j).map foldT) vY X)) _ wr.drew HR.out.sep.drew.lt ((RepT.mk' j1 j2 hSc hTc).kept (Kept.of_below (Below.refl wr.heap.size wr).drew _)))
            clear hxe j1 j2 hSc hTc
            have d3 : wr.cell? ⟨w.heap.size + 1 + 1, 3, none⟩ = some vY := (HR.out.sep.blk 2 rfl).cell 3
            generalize (te.take j).map foldT = AS at *
            generalize foldT (Te.mk cop cnm cex cte) = Y at *
            go_wp2_with fail
            refine wp_region_till (S := fun W => W.cell? ⟨w.heap.size + 1 + 1, 3, none⟩ = some vY ∧ W.cell? ⟨w.heap.size, 3, none⟩ = some (.slice (some ⟨b, o, none⟩) len2 cap2) ∧ W.cell? ⟨b, o + j * 4, none⟩ = some (.int .i64 cop) ∧ W.cell? ⟨b, o + j * 4 + 1, none⟩ = some (.string cnm) ∧ W.cell? ⟨b, o + j * 4 + 2, none⟩ = some (.slice ca clen ccap) ∧ W.cell? ⟨b, o + j * 4 + 3, none⟩ = some (.slice cb clen2 ccap2)) 9 (by kernel_rfl) ?_
            refine till_take (i := 0) (v := ?_) rfl (by kernel_rfl) (fun _ _ _ h => h) (Or.inl ⟨by rfl, ?_⟩) ⟨d3,e3,v0,v1,v2,v3⟩ ?_
            rotate_left
            · intro W hS
              try dsimp only at hS
              go_split_ands
              go_simp
              try with_reducible rfl
            try simp only [Act.put, List.getElem_toArray, List.getElem_cons_zero, List.getElem_cons_succ, List.setIfInBounds_toArray, List.set_cons_zero, List.set_cons_succ]
            refine till_take (i := 1) (v := ?_) rfl (by kernel_rfl) (fun _ _ _ h => h) (Or.inl ⟨by rfl, ?_⟩) ⟨d3,e3,v0,v1,v2,v3⟩ ?_
            rotate_left
            · intro W hS
              try dsimp only at hS
              go_split_ands
              go_simp
              try with_reducible rfl
            try simp only [Act.put, List.getElem_toArray, List.getElem_cons_zero, List.getElem_cons_succ, List.setIfInBounds_toArray, List.set_cons_zero, List.set_cons_succ]
            refine till_take (i := 2) (v := ?_) rfl (by kernel_rfl) (fun _ _ _ h => h) (Or.inl ⟨by rfl, ?_⟩) ⟨d3,e3,v0,v1,v2,v3⟩ ?_
            rotate_left
            · intro W hS
              try dsimp only at hS
              go_split_ands
              go_simp
              try with_reducible rfl
            try simp only [Act.put, List.getElem_toArray, List.getElem_cons_zero, List.getElem_cons_succ, List.setIfInBounds_toArray, List.set_cons_zero, List.set_cons_succ]
            refine till_take (i := 3) (v := ?_) rfl (by kernel_rfl) (fun _ _ _ h => h) (Or.inl ⟨by rfl, ?_⟩) ⟨d3,e3,v0,v1,v2,v3⟩ ?_
            rotate_left
            · intro W hS
              try dsimp only at hS
              go_split_ands
              go_simp
              try with_reducible rfl
            try simp only [Act.put, List.getElem_toArray, List.getElem_cons_zero, List.getElem_cons_succ, List.setIfInBounds_toArray, List.set_cons_zero, List.set_cons_succ]
            refine till_take (i := 4) (v := ?_) rfl (by kernel_rfl) (fun _ _ _ h => h) (Or.inl ⟨by rfl, ?_⟩) ⟨d3,e3,v0,v1,v2,v3⟩ ?_
            rotate_left
            · intro W hS
              try dsimp only at hS
              go_split_ands
              go_simp
              try with_reducible rfl
            try simp only [Act.put, List.getElem_toArray, List.getElem_cons_zero, List.getElem_cons_succ, List.setIfInBounds_toArray, List.set_cons_zero, List.set_cons_succ]
            refine till_take (i := 5) (v := ?_) rfl (by kernel_rfl) (fun _ _ _ h => h) (Or.inl ⟨by rfl, ?_⟩) ⟨d3,e3,v0,v1,v2,v3⟩ ?_
            rotate_left
            · intro W hS
              try dsimp only at hS
              go_split_ands
              go_simp
              try with_reducible rfl
            try simp only [Act.put, List.getElem_toArray, List.getElem_cons_zero, List.getElem_cons_succ, List.setIfInBounds_toArray, List.set_cons_zero, List.set_cons_succ]
            refine till_take (i := 6) (v := ?_) rfl (by kernel_rfl) (fun _ _ _ h => h) (Or.inl ⟨by rfl, ?_⟩) ⟨d3,e3,v0,v1,v2,v3⟩ ?_
            rotate_left
            · intro W hS
              try dsimp only at hS
              go_split_ands
              go_simp
              try with_reducible rfl
            try simp only [Act.put, List.getElem_toArray, List.getElem_cons_zero, List.getElem_cons_succ, List.setIfInBounds_toArray, List.set_cons_zero, List.set_cons_succ]
            refine till_one (i := 7) (by kernel_rfl) rfl (fun K' hK => ?_)
            go_simp
            go_at_call 31
            (with_reducible refine HC.out.mono ?_)
            rintro x w1 ⟨⟨cs3, rfl, hR3⟩, b3⟩
            obtain ⟨o5, m5, x5, t5, a5, l5, p5, a6, l6, p6, -, rfl, -⟩ := hR3.inv
            have HB1 := Lib.hid ((HR.out.up (Below.refl wr.heap.size wr).drew).up b3)
            have HRP := Lib.hid hR3
            have d3' := cell_up (w := wr.drew) d3 b3
            have e3' := cell_up (w := wr.drew) e3 b3
            have v0' := cell_up (w := wr.drew) v0 b3
            have v1' := cell_up (w := wr.drew) v1 b3
            have v2' := cell_up (w := wr.drew) v2 b3
            have v3' := cell_up (w := wr.drew) v3 b3
            refine hK _ _ ⟨d3',e3',v0',v1',v2',v3'⟩ ?_
            clear hK K' b3 hR3 HC HR d3 e0 e1 e2 e3 v0 v1 v2 v3
            try simp only [Act.put, List.getElem_toArray, List.getElem_cons_zero, List.getElem_cons_succ, List.setIfInBounds_toArray, List.set_cons_zero, List.set_cons_succ]
            refine till_one (i := 8) (by kernel_rfl) rfl (fun K' hK => ?_)
            go_simp
            have hbn := (Below.refl w1.heap.size w1).alloc (Nat.le_refl _) (.cells #[.int .i64 o5, .string m5, .slice a5 l5 p5, .slice a6 l6 p6] 35)
            have HB2 := Lib.hid (HB1.out.up hbn)
            have BZ := Lib.hid (Mem.Blk.new w1 35 #[.int .i64 o5, .string m5, .slice a5 l5 p5, .slice a6 l6 p6])
            have HRP2 := Lib.hid (HRP.out.kept (Kept.of_below hbn _))
            refine hK _ _ ⟨cell_up d3' hbn, cell_up e3' hbn, cell_up v0' hbn, cell_up v1' hbn, cell_up v2' hbn, cell_up v3' hbn⟩ ?_
            clear hK K' hbn HB1 HRP d3' e3' v0' v1' v2' v3'
            generalize w1.alloc (.cells #[.int .i64 o5, .string m5, .slice a5 l5 p5, .slice a6 l6 p6] 35) = w2 at *
            generalize w1.heap.size = z at *
            try simp only [Act.put, List.getElem_toArray, List.getElem_cons_zero, List.getElem_cons_succ, List.setIfInBounds_toArray, List.set_cons_zero, List.set_cons_succ]
            refine till_last (by kernel_rfl) rfl (by kernel_rfl) (fun K' hK => ?_)
            obtain ⟨csl, hGr⟩ := HB2.out.sep.at 1 rfl
            refine step_ap infoT Try.underlying28 rfl (by decide) rfl (.tmp 37) (.tmp 44) rfl rfl hGr.own hGr.room ⟨z, 0, none⟩ 1 1 [.int .i64 o5, .string m5, .slice a5 l5 p5, .slice a6 l6 p6] rfl rfl (fun m u hm => by rw [Mem.add0, BZ.out.cell]; simpa using hm) (by simp [Value.oneCell']) (by have := HLK.out; unfold maxLen; omega) (by have := HLK.out; omega) ?_
            intro v' w3 og gg hv'
            obtain ⟨g2, capn, rfl, -, -, -, -⟩ := own_form og (by omega)
            refine hK _ _ ?_
            clear hK K'
            obtain ⟨⟨m4, m5'⟩, hB3⟩ := HB2.out.pushY hGr HRP2.out og gg hv'
            have HB3 := Lib.hid hB3
            clear HB2 HRP2 hGr og gg hv' BZ hB3
            try simp only [Act.put, List.getElem_toArray, List.getElem_cons_zero, List.getElem_cons_succ, List.setIfInBounds_toArray, List.set_cons_zero, List.set_cons_succ]
            refine any_take (i := 10) (v := ?_) rfl (by kernel_rfl) (fun _ _ _ h => h) (Or.inl ⟨by rfl, ?_⟩) ?_
            rotate_left
            · intro W
              go_simp
              try with_reducible rfl
            try simp only [Act.put, List.getElem_toArray, List.getElem_cons_zero, List.getElem_cons_succ, List.setIfInBounds_toArray, List.set_cons_zero, List.set_cons_succ]
            refine any_one (i := 11) (by kernel_rfl) rfl (fun K' hK => ?_)
            go_simp
            refine hK _ _ ?_
            clear hK K' m4 m5'
            refine wpAny_done (by kernel_rfl) ?_ _
            go_wp2_with fail
            go_roundw
            case rel => exact ⟨j + 1, _, by go_num, by omega, by rw [HTK.out]; exact HB3.out⟩
            case measure => simp [intOf]; omega
          · have hj' : ¬ (j : Int) < (len2 : Int) := by omega
            obtain rfl : j = len2 := by omega
            have HAT : Hid ((te.take j).map foldT = te.map foldT) := by show _ = _; rw [← HL2.out, List.take_length]
            rw [HAT.out] at HR
            have hR : R = .mk op nm AX (te.map foldT) := HFO.out
            generalize te.map foldT = AY at *
            obtain ⟨⟨aA, cA, rfl⟩, aB, cB, rfl⟩ := HR.out.form
            have HFN := Lib.hid (HR.out.fin HJ.out.1 HJ.out.2)
            have hm1 : w.heap.size + 1 < wr.heap.size := (HR.out.sep.blk 3 rfl).lt
            obtain ⟨s0, s1, s2, s3, -, -, -, -⟩ := blk4 (HR.out.sep.blk 2 rfl)
            obtain ⟨t0, t1, t2, t3, t4, t5, t6, t7⟩ := blk4 (HR.out.sep.blk 3 rfl)
            clear HR HJ HIT HST HAT hlt HFO
            subst hR
            go_wp2_with fail
            generalize (((wr.setCell ⟨w.heap.size + 1, 0, none⟩ (.int .i64 op)).setCell ⟨w.heap.size + 1, 1, none⟩ (.string nm)).setCell ⟨w.heap.size + 1, 2, none⟩ (.slice aA AX.length cA)).setCell ⟨w.heap.size + 1, 3, none⟩ (.slice aB AY.length cB) = W9 at *
            obtain ⟨r0, r1, r2, r3, -, -, -, -⟩ := blk4 HFN.out.2.2
            refine bodyPost_ret (v := .agg #[.int .i64 op, .string nm, .slice aA AX.length cA, .slice aB AY.length cB]) (by simp [results, Try.results31, go_sem, r0, r1, r2, r3]) rfl ⟨⟨_, rfl, HFN.out.1⟩, HFN.out.2.1⟩
end Go.Proofs.Ytppnmeobnilojaa
