/- A part of the proof: LiW, LiT, LiU, LiN, Fts, LiS, SizeN, one behind another. -/
import Derived.Test.YtmiinmndbkdjbaaGreatMTA
import Derived.Test.YtmiinmndbkdjbaaGreatMTB
import Derived.Test.YtmiinmndbkdjbaaGreatMTC
import Derived.Test.YtmiinmndbkdjbaaGreatMTD
import Derived.Test.YtmiinmndbkdjbaaGreatMTE
import Derived.Test.YtmiinmndbkdjbaaGreatMTF
import Derived.Test.YtmiinmndbkdjbaaGreatMTG
import Derived.Test.YtmiinmndbkdjbaaGreatMTH
import Derived.Test.YtmiinmndbkdjbaaGreatMTI
import Derived.Test.YtmiinmndbkdjbaaGreatMTJ
import Derived.Deep.DeepCutAuto
import Derived.LoopTactic
import Derived.Deep.CutBlock
import Derived.BigQuiet
import Derived.Deep.QuietTactic
/- A part with another term. -/
namespace Go.Proofs.YtmiinmndbkdjbaaGreat
set_option linter.unusedVariables false
set_option linter.unusedSimpArgs false
open Go.RowKit
theorem blk7 {w : World} {g : Nat} {t : TypeId} {a b c d e f h : Value} (H : Mem.Blk w g t #[a, b, c, d, e, f, h]) : w.cell? ⟨g, 0, none⟩ = some a ∧ w.cell? ⟨g, 1, none⟩ = some b ∧ w.cell? ⟨g, 2, none⟩ = some c ∧ w.cell? ⟨g, 3, none⟩ = some d ∧ w.cell? ⟨g, 4, none⟩ = some e ∧ w.cell? ⟨g, 5, none⟩ = some f ∧ w.cell? ⟨g, 6, none⟩ = some h :=
  ⟨H.cell 0, H.cell 1, H.cell 2, H.cell 3, H.cell 4, H.cell 5, H.cell 6⟩
theorem frz7 {w : World} {g : Nat} {t : TypeId} {a b c d e f h : Value} (H : Mem.Blk w g t #[a, b, c, d, e, f, h]) : w.frozen? ⟨g, 0, none⟩ = false ∧ w.frozen? ⟨g, 1, none⟩ = false ∧ w.frozen? ⟨g, 2, none⟩ = false ∧ w.frozen? ⟨g, 3, none⟩ = false ∧ w.frozen? ⟨g, 4, none⟩ = false ∧ w.frozen? ⟨g, 5, none⟩ = false ∧ w.frozen? ⟨g, 6, none⟩ = false :=
  ⟨H.frozen 0, H.frozen 1, H.frozen 2, H.frozen 3, H.frozen 4, H.frozen 5, H.frozen 6⟩
set_option maxRecDepth 100000 in
set_option maxHeartbeats 4000000 in
theorem partWith_any (f : Int) (tn : Bool) (ua : Option Addr) (ul uc : Nat) (o o' : Int) (s s' : ByteArray) (x y x' y' : Option Addr) (xl xc yl yc xl' xc' yl' yc' : Nat) (w : World) :
    Calls Tryz.prog 39 #[.agg #[.int .i64 f, .bool tn, .slice ua ul uc, .int .i64 o, .string s, .slice x xl xc, .slice y yl yc], .agg #[.int .i64 o', .string s', .slice x' xl' xc', .slice y' yl' yc']] w fun e w' =>
      e = .returned (.agg #[.int .i64 f, .bool tn, .slice ua ul uc, .int .i64 o', .string s', .slice x' xl' xc', .slice y' yl' yc']) ∧ Below w.heap.size w w' := by
  have h1 := (((Sep.nil w).new 88 #[.int .i64 f, .bool tn, .slice ua ul uc, .int .i64 o, .string s, .slice x xl xc, .slice y yl yc]).new 41 #[.int .i64 o', .string s', .slice x' xl' xc', .slice y' yl' yc']).new 88 #[.int .i64 0, .bool false, .slice none 0 0, .int .i64 0, .string ⟨#[]⟩, .slice none 0 0, .slice none 0 0]
  have hb := ((((Below.refl _ w).alloc (Nat.le_refl _) (.cells #[.int .i64 f, .bool tn, .slice ua ul uc, .int .i64 o, .string s, .slice x xl xc, .slice y yl yc] 88)).alloc (by simp) (.cells #[.int .i64 o', .string s', .slice x' xl' xc', .slice y' yl' yc'] 41)).alloc (by simp; omega) (.cells #[.int .i64 0, .bool false, .slice none 0 0, .int .i64 0, .string ⟨#[]⟩, .slice none 0 0, .slice none 0 0] 88))
  have e1 : (w.alloc (.cells #[.int .i64 f, .bool tn, .slice ua ul uc, .int .i64 o, .string s, .slice x xl xc, .slice y yl yc] 88)).heap.size = w.heap.size + 1 := by simp
  have e2 : ((w.alloc (.cells #[.int .i64 f, .bool tn, .slice ua ul uc, .int .i64 o, .string s, .slice x xl xc, .slice y yl yc] 88)).alloc (.cells #[.int .i64 o', .string s', .slice x' xl' xc', .slice y' yl' yc'] 41)).heap.size = w.heap.size + 1 + 1 := by simp
  rw [e1, e2] at h1
  have HS := Lib.hid h1
  have HB := Lib.hid hb
  clear h1 hb e1 e2
  go_enter Tryz.func39, Tryz.ntmps39
  go_upto_region 1 with (fail)
  generalize ((w.alloc (.cells #[.int .i64 f, .bool tn, .slice ua ul uc, .int .i64 o, .string s, .slice x xl xc, .slice y yl yc] 88)).alloc (.cells #[.int .i64 o', .string s', .slice x' xl' xc', .slice y' yl' yc'] 41)).alloc (.cells #[.int .i64 0, .bool false, .slice none 0 0, .int .i64 0, .string ⟨#[]⟩, .slice none 0 0, .slice none 0 0] 88) = v at *
  obtain ⟨c0, c1, c2, c3, -, -, -, -⟩ := blk4 (HS.out.blk 1 rfl)
  obtain ⟨-, -, -, d3, d4, d5, d6⟩ := blk7 (HS.out.blk 2 rfl)
  obtain ⟨-, -, -, f3, f4, f5, f6⟩ := frz7 (HS.out.blk 2 rfl)
  have h2 := (((HS.out.store 2 rfl 3 (.int .i64 o')).store 2 rfl 4 (.string s')).store 2 rfl 5 (.slice x' xl' xc')).store 2 rfl 6 (.slice y' yl' yc')
  have hb2 := (((HB.out.setCell (p := ⟨w.heap.size, 3, none⟩) (Nat.le_refl _) (.int .i64 o')).setCell (p := ⟨w.heap.size, 4, none⟩) (Nat.le_refl _) (.string s')).setCell (p := ⟨w.heap.size, 5, none⟩) (Nat.le_refl _) (.slice x' xl' xc')).setCell (p := ⟨w.heap.size, 6, none⟩) (Nat.le_refl _) (.slice y' yl' yc')
  have HS2 := Lib.hid h2
  have HB2 := Lib.hid hb2
  clear h2 hb2 HS HB
  go_upto_region 2 with (fail)
  generalize (((v.setCell ⟨w.heap.size, 3, none⟩ (.int .i64 o')).setCell ⟨w.heap.size, 4, none⟩ (.string s')).setCell ⟨w.heap.size, 5, none⟩ (.slice x' xl' xc')).setCell ⟨w.heap.size, 6, none⟩ (.slice y' yl' yc') = v2 at *
  clear c0 c1 c2 c3 d3 d4 d5 d6 f3 f4 f5 f6
  obtain ⟨c0, c1, c2, c3, c4, c5, c6⟩ := blk7 (HS2.out.blk 2 rfl)
  obtain ⟨d0, d1, d2, d3, d4, d5, d6⟩ := blk7 (HS2.out.blk 0 rfl)
  obtain ⟨f0, f1, f2, f3, f4, f5, f6⟩ := frz7 (HS2.out.blk 0 rfl)
  have h3 := (((((((HS2.out.store 0 rfl 0 (.int .i64 f)).store 0 rfl 1 (.bool tn)).store 0 rfl 2 (.slice ua ul uc)).store 0 rfl 3 (.int .i64 o')).store 0 rfl 4 (.string s')).store 0 rfl 5 (.slice x' xl' xc')).store 0 rfl 6 (.slice y' yl' yc'))
  have hb3 := (((((((HB2.out.setCell (p := ⟨w.heap.size + 1 + 1, 0, none⟩) (by show w.heap.size ≤ w.heap.size + 1 + 1; omega) (.int .i64 f)).setCell (p := ⟨w.heap.size + 1 + 1, 1, none⟩) (by show w.heap.size ≤ w.heap.size + 1 + 1; omega) (.bool tn)).setCell (p := ⟨w.heap.size + 1 + 1, 2, none⟩) (by show w.heap.size ≤ w.heap.size + 1 + 1; omega) (.slice ua ul uc)).setCell (p := ⟨w.heap.size + 1 + 1, 3, none⟩) (by show w.heap.size ≤ w.heap.size + 1 + 1; omega) (.int .i64 o')).setCell (p := ⟨w.heap.size + 1 + 1, 4, none⟩) (by show w.heap.size ≤ w.heap.size + 1 + 1; omega) (.string s')).setCell (p := ⟨w.heap.size + 1 + 1, 5, none⟩) (by show w.heap.size ≤ w.heap.size + 1 + 1; omega) (.slice x' xl' xc')).setCell (p := ⟨w.heap.size + 1 + 1, 6, none⟩) (by show w.heap.size ≤ w.heap.size + 1 + 1; omega) (.slice y' yl' yc'))
  have HS3 := Lib.hid h3
  have HB3 := Lib.hid hb3
  clear h3 hb3 HS2 HB2
  go_wp2_with fail
  generalize ((((((v2.setCell ⟨w.heap.size + 1 + 1, 0, none⟩ (.int .i64 f)).setCell ⟨w.heap.size + 1 + 1, 1, none⟩ (.bool tn)).setCell ⟨w.heap.size + 1 + 1, 2, none⟩ (.slice ua ul uc)).setCell ⟨w.heap.size + 1 + 1, 3, none⟩ (.int .i64 o')).setCell ⟨w.heap.size + 1 + 1, 4, none⟩ (.string s')).setCell ⟨w.heap.size + 1 + 1, 5, none⟩ (.slice x' xl' xc')).setCell ⟨w.heap.size + 1 + 1, 6, none⟩ (.slice y' yl' yc') = v3 at *
  clear c0 c1 c2 c3 c4 c5 c6 d0 d1 d2 d3 d4 d5 d6 f0 f1 f2 f3 f4 f5 f6
  obtain ⟨r0, r1, r2, r3, r4, r5, r6⟩ := blk7 (HS3.out.blk 0 rfl)
  refine bodyPost_ret (v := .agg #[.int .i64 f, .bool tn, .slice ua ul uc, .int .i64 o', .string s', .slice x' xl' xc', .slice y' yl' yc']) (by simp [results, Tryz.results39, go_sem, r0, r1, r2, r3, r4, r5, r6]) rfl ⟨rfl, HB3.out⟩
end Go.Proofs.YtmiinmndbkdjbaaGreat

/- A run's truth; what a run tells. -/
namespace Go.Proofs.YtmiinmndbkdjbaaGreat
set_option linter.unusedVariables false
set_option linter.unusedSimpArgs false
open Go.RowKit
def orB (s : RS) (v : Vl) : RS := { s with bad := s.bad || decide (v.K = 3) }
set_option maxRecDepth 100000 in
set_option maxHeartbeats 4000000 in
theorem runTruth_any (base rb : Nat) (day : Int) (fx : List Fx) (fa : Option Addr) (fl fc : Nat) (s : RS) (vP vF : Value) (e : Ex) (cs : List Value) (w : World) (hd : I64 day) (hJ : RunJ base rb day fx fa fl fc w s vP vF) (hR : RepE w (X3 rb vP vF) e cs) (hk : e.rk ≤ 1000) :
    Calls Tryz.prog 53 #[.pointer (some ⟨rb, 0, none⟩), .agg cs.toArray] w fun x w' => x = .returned (.bool (evalX day fx e).B) ∧ RunTo base rb day fx fa fl fc w w' vP vF (orB s (evalX day fx e)) vP vF ∧ Fr [rb] w w' := by
  have HJ := Lib.hid hJ
  have hR0 : RepE w [] e cs := hR.less (fun b _ hm => nomatch hm)
  have HQ := Lib.hid (fun W (hW : Below w.heap.size w W) => obsEval_any day fx fa fl fc e cs W hd (hR0.kept (Kept.of_below hW [])) hk (hJ.seen.kept (Kept.of_below hW [])))
  obtain ⟨v, hv⟩ : ∃ v, v = evalX day fx e := ⟨_, rfl⟩
  rw [← hv] at HQ ⊢
  clear hv
  obtain ⟨op, no, nm, args, a, len, cap, rfl, rfl, -, -, -, -⟩ := hR0.inv
  have HB0 := Lib.hid ((Below.refl w.heap.size w).alloc (Nat.le_refl _) (.cells #[.int .i64 op, .int .i64 no, .string nm, .slice a len cap] 74))
  have BX := Lib.hid (Mem.Blk.new w 74 #[.int .i64 op, .int .i64 no, .string nm, .slice a len cap])
  have HRB : Hid (rb < w.heap.size) := hJ.lt rb (by unfold X3; simp)
  clear hJ hR hR0 hk
  go_enter Tryz.func53, Tryz.ntmps53
  go_upto_region 1 with (fail)
  generalize w.alloc (.cells #[.int .i64 op, .int .i64 no, .string nm, .slice a len cap] 74) = w1 at *
  obtain ⟨x0, x1, x2, x3, -, -, -, -⟩ := blk4 BX.out
  have q0 : w1.cell? ⟨rb, 0, none⟩ = some (.int .i64 day) := ((HJ.out.below HB0.out).run.cells).cell 0
  have q1 : w1.cell? ⟨rb, 1, none⟩ = some (.slice fa fl fc) := ((HJ.out.below HB0.out).run.cells).cell 1
  go_cut [5] (fun p W0 => ∃ z, p = .pointer (some ⟨z, 0, none⟩) ∧ Hid (Below w.heap.size w W0) ∧ Hid (w.heap.size ≤ z) ∧ Hid (Mem.Blk W0 z 150 #[.int .i64 v.K, .int .i64 v.N, .bool v.B]))
  case first =>
    refine wp_region_till (S := fun W => W.cell? ⟨w.heap.size, 0, none⟩ = some (.int .i64 op) ∧ W.cell? ⟨w.heap.size, 1, none⟩ = some (.int .i64 no) ∧ W.cell? ⟨w.heap.size, 2, none⟩ = some (.string nm) ∧ W.cell? ⟨w.heap.size, 3, none⟩ = some (.slice a len cap) ∧ W.cell? ⟨rb, 0, none⟩ = some (.int .i64 day) ∧ W.cell? ⟨rb, 1, none⟩ = some (.slice fa fl fc)) 7 (by kernel_rfl) ?_
    refine till_take (i := 0) (v := ?_) rfl (by kernel_rfl) (fun _ _ _ h => h) (Or.inl ⟨by rfl, ?_⟩) ⟨x0,x1,x2,x3,q0,q1⟩ ?_
    rotate_left
    · intro W hS
      try dsimp only at hS
      go_split_ands
      go_simp
      try with_reducible rfl
    try simp only [Act.put, List.getElem_toArray, List.getElem_cons_zero, List.getElem_cons_succ, List.setIfInBounds_toArray, List.set_cons_zero, List.set_cons_succ]
    refine till_take (i := 1) (v := ?_) rfl (by kernel_rfl) (fun _ _ _ h => h) (Or.inl ⟨by rfl, ?_⟩) ⟨x0,x1,x2,x3,q0,q1⟩ ?_
    rotate_left
    · intro W hS
      try dsimp only at hS
      go_split_ands
      go_simp
      try with_reducible rfl
    try simp only [Act.put, List.getElem_toArray, List.getElem_cons_zero, List.getElem_cons_succ, List.setIfInBounds_toArray, List.set_cons_zero, List.set_cons_succ]
    refine till_take (i := 2) (v := ?_) rfl (by kernel_rfl) (fun _ _ _ h => h) (Or.inl ⟨by rfl, ?_⟩) ⟨x0,x1,x2,x3,q0,q1⟩ ?_
    rotate_left
    · intro W hS
      try dsimp only at hS
      go_split_ands
      go_simp
      try with_reducible rfl
    try simp only [Act.put, List.getElem_toArray, List.getElem_cons_zero, List.getElem_cons_succ, List.setIfInBounds_toArray, List.set_cons_zero, List.set_cons_succ]
    refine till_take (i := 3) (v := ?_) rfl (by kernel_rfl) (fun _ _ _ h => h) (Or.inl ⟨by rfl, ?_⟩) ⟨x0,x1,x2,x3,q0,q1⟩ ?_
    rotate_left
    · intro W hS
      try dsimp only at hS
      go_split_ands
      go_simp
      try with_reducible rfl
    try simp only [Act.put, List.getElem_toArray, List.getElem_cons_zero, List.getElem_cons_succ, List.setIfInBounds_toArray, List.set_cons_zero, List.set_cons_succ]
    refine till_take (i := 4) (v := ?_) rfl (by kernel_rfl) (fun _ _ _ h => h) (Or.inl ⟨by rfl, ?_⟩) ⟨x0,x1,x2,x3,q0,q1⟩ ?_
    rotate_left
    · intro W hS
      try dsimp only at hS
      go_split_ands
      go_simp
      try with_reducible rfl
    try simp only [Act.put, List.getElem_toArray, List.getElem_cons_zero, List.getElem_cons_succ, List.setIfInBounds_toArray, List.set_cons_zero, List.set_cons_succ]
    refine till_two (i := 5) (j := 6) (by kernel_rfl) rfl rfl (fun K' hK => ?_) (fun K' hK => ?_)
    · go_simp
      have b0 : Below w1.heap.size w1 w1.drew := (Below.refl w1.heap.size w1).drew
      (with_reducible refine (HQ.out _ (HB0.out.trans (b0.mono HB0.out.size))).mono ?_)
      rintro y w2 ⟨hy, b1⟩
      unfold RetV at hy
      subst hy
      have bt : Below w1.heap.size w1 w2 := b0.trans (b1.mono b0.size)
      replace x0 := cell_up x0 bt
      replace x1 := cell_up x1 bt
      replace x2 := cell_up x2 bt
      replace x3 := cell_up x3 bt
      replace q0 := cell_up q0 bt
      replace q1 := cell_up q1 bt
      have HB2 := Lib.hid (HB0.out.trans (bt.mono HB0.out.size))
      refine hK _ _ ⟨x0, x1, x2, x3, q0, q1⟩ ?_
      clear hK K' b0 b1 bt HB0 BX
      try simp only [Act.put, List.getElem_toArray, List.getElem_cons_zero, List.getElem_cons_succ, List.setIfInBounds_toArray, List.set_cons_zero, List.set_cons_succ]
      refine till_one (i := 6) (by kernel_rfl) rfl (fun K' hK => ?_)
      go_simp
      have bn := (Below.refl w2.heap.size w2).alloc (Nat.le_refl _) (.cells #[.int .i64 0, .int .i64 0, .bool false] 150)
      have BZ := Lib.hid (Mem.Blk.new w2 150 #[.int .i64 0, .int .i64 0, .bool false])
      have HZ : Hid (w.heap.size ≤ w2.heap.size) := HB2.out.size
      have HB3 := Lib.hid (HB2.out.trans (bn.mono HB2.out.size))
      refine hK _ _ ⟨cell_up x0 bn, cell_up x1 bn, cell_up x2 bn, cell_up x3 bn, cell_up q0 bn, cell_up q1 bn⟩ ?_
      clear hK K' bn HB2 x0 x1 x2 x3 q0 q1
      generalize w2.alloc (.cells #[.int .i64 0, .int .i64 0, .bool false] 150) = w3 at *
      generalize w2.heap.size = z at *
      try simp only [Act.put, List.getElem_toArray, List.getElem_cons_zero, List.getElem_cons_succ, List.setIfInBounds_toArray, List.set_cons_zero, List.set_cons_succ]
      obtain ⟨t0, t1, t2, t3, t4, t5⟩ := blk3 BZ.out
      refine till_last (by kernel_rfl) rfl (by kernel_rfl) (fun K' hK => ?_)
      go_simp
      have HB9 := Lib.hid (((HB3.out.setCell (p := ⟨z, 0, none⟩) HZ.out (.int .i64 v.K)).setCell (p := ⟨z, 1, none⟩) HZ.out (.int .i64 v.N)).setCell (p := ⟨z, 2, none⟩) HZ.out (.bool v.B))
      have BZ9 := Lib.hid (((BZ.out.set_ 0 (.int .i64 v.K)).set_ 1 (.int .i64 v.N)).set_ 2 (.bool v.B))
      refine hK _ _ ?_
      clear hK K'
      try simp only [Act.put, List.getElem_toArray, List.getElem_cons_zero, List.getElem_cons_succ, List.setIfInBounds_toArray, List.set_cons_zero, List.set_cons_succ]
      refine wpAny_done (by kernel_rfl) ?_ _
      go_wp2_with fail
      go_meet
      case rel => exact ⟨z, rfl, HB9.out, HZ.out, BZ9.out⟩
    · go_simp
      have bn : Below w1.heap.size w1 (w1.alloc (.cells #[.int .i64 0, .int .i64 0, .bool false] 150)).drew := ((Below.refl w1.heap.size w1).alloc (Nat.le_refl _) (.cells #[.int .i64 0, .int .i64 0, .bool false] 150)).drew
      have BZ1 := Lib.hid (Mem.Blk.new w1 150 #[.int .i64 0, .int .i64 0, .bool false]).drew
      have HZ : Hid (w.heap.size ≤ w1.heap.size) := HB0.out.size
      have HB2 := Lib.hid (HB0.out.trans (bn.mono HB0.out.size))
      replace x0 := cell_up x0 bn
      replace x1 := cell_up x1 bn
      replace x2 := cell_up x2 bn
      replace x3 := cell_up x3 bn
      replace q0 := cell_up q0 bn
      replace q1 := cell_up q1 bn
      refine hK _ _ ⟨x0, x1, x2, x3, q0, q1⟩ ?_
      clear hK K' bn HB0 BX
      generalize (w1.alloc (.cells #[.int .i64 0, .int .i64 0, .bool false] 150)).drew = w2 at *
      generalize w1.heap.size = z at *
      try simp only [Act.put, List.getElem_toArray, List.getElem_cons_zero, List.getElem_cons_succ, List.setIfInBounds_toArray, List.set_cons_zero, List.set_cons_succ]
      refine till_one (i := 5) (by kernel_rfl) rfl (fun K' hK => ?_)
      go_simp
      (with_reducible refine (HQ.out _ HB2.out).mono ?_)
      rintro y w3 ⟨hy, b1⟩
      unfold RetV at hy
      subst hy
      have BZ := Lib.hid (BZ1.out.below b1)
      have HB3 := Lib.hid (HB2.out.trans (b1.mono HB2.out.size))
      refine hK _ _ ⟨cell_up x0 b1, cell_up x1 b1, cell_up x2 b1, cell_up x3 b1, cell_up q0 b1, cell_up q1 b1⟩ ?_
      clear hK K' b1 HB2 BZ1 x0 x1 x2 x3 q0 q1
      try simp only [Act.put, List.getElem_toArray, List.getElem_cons_zero, List.getElem_cons_succ, List.setIfInBounds_toArray, List.set_cons_zero, List.set_cons_succ]
      obtain ⟨t0, t1, t2, t3, t4, t5⟩ := blk3 BZ.out
      refine till_last (by kernel_rfl) rfl (by kernel_rfl) (fun K' hK => ?_)
      go_simp
      have HB9 := Lib.hid (((HB3.out.setCell (p := ⟨z, 0, none⟩) HZ.out (.int .i64 v.K)).setCell (p := ⟨z, 1, none⟩) HZ.out (.int .i64 v.N)).setCell (p := ⟨z, 2, none⟩) HZ.out (.bool v.B))
      have BZ9 := Lib.hid (((BZ.out.set_ 0 (.int .i64 v.K)).set_ 1 (.int .i64 v.N)).set_ 2 (.bool v.B))
      refine hK _ _ ?_
      clear hK K'
      try simp only [Act.put, List.getElem_toArray, List.getElem_cons_zero, List.getElem_cons_succ, List.setIfInBounds_toArray, List.set_cons_zero, List.set_cons_succ]
      refine wpAny_done (by kernel_rfl) ?_ _
      go_wp2_with fail
      go_meet
      case rel => exact ⟨z, rfl, HB9.out, HZ.out, BZ9.out⟩
  obtain ⟨z, rfl, HB, HZ, BZ⟩ := hcut
  obtain ⟨w2, rfl⟩ : ∃ W : World, W = wc := ⟨_, rfl⟩
  have HJ2 := Lib.hid (HJ.out.below HB.out)
  have q4 : w2.cell? ⟨rb, 4, none⟩ = some (.bool s.bad) := HJ2.out.run.cells.cell 4
  have f4 : w2.frozen? ⟨rb, 4, none⟩ = false := HJ2.out.run.cells.frozen 4
  have HNE : Hid (z ≠ rb) := by have := HRB.out; have := HZ.out; show z ≠ rb; omega
  obtain ⟨bd, hbd⟩ : ∃ b, b = s.bad := ⟨_, rfl⟩
  rw [← hbd] at q4
  have HBD := Lib.hid hbd
  clear hbd x0 x1 x2 x3 q0 q1 HQ BX HB0 HJ
  cases v with
  | unk =>
    cases bd
    · have t0 : w2.cell? ⟨z, 0, none⟩ = some (.int .i64 0) := BZ.out.cell 0
      have t2 : w2.cell? ⟨z, 2, none⟩ = some (.bool false) := BZ.out.cell 2
      have BZ3 := Lib.hid ((Fr.setCell w2 (X := [rb]) (p := ⟨rb, 4, none⟩) (by simp) (.bool false)).blk BZ.out (by simpa using HNE.out))
      have HS : Hid (RunTo base rb day fx fa fl fc w (w2.setCell ⟨rb, 4, none⟩ (.bool false)) vP vF (orB s .unk) vP vF) := by
        have e : orB s .unk = { s with bad := false } := by unfold orB; rw [← HBD.out]; rfl
        rw [e]
        exact HJ2.out.trans (HJ2.out.run.setBad false)
      have HFR := Lib.hid ((Fr.of_below HB.out [rb]).trans (Fr.setCell w2 (X := [rb]) (p := ⟨rb, 4, none⟩) (by simp) (.bool false)))
      go_upto_region 3 with (fail)
      generalize w2.setCell ⟨rb, 4, none⟩ (.bool false) = w3 at *
      clear t0 t2 q4 f4
      have t0 : w3.cell? ⟨z, 0, none⟩ = some (.int .i64 0) := BZ3.out.cell 0
      have t2 : w3.cell? ⟨z, 2, none⟩ = some (.bool false) := BZ3.out.cell 2
      go_wp2_with fail
      go_ret
      exact ⟨rfl, HS.out, HFR.out⟩
    · have t0 : w2.cell? ⟨z, 0, none⟩ = some (.int .i64 0) := BZ.out.cell 0
      have t2 : w2.cell? ⟨z, 2, none⟩ = some (.bool false) := BZ.out.cell 2
      have BZ3 := Lib.hid ((Fr.setCell w2 (X := [rb]) (p := ⟨rb, 4, none⟩) (by simp) (.bool true)).blk BZ.out (by simpa using HNE.out))
      have HS : Hid (RunTo base rb day fx fa fl fc w (w2.setCell ⟨rb, 4, none⟩ (.bool true)) vP vF (orB s .unk) vP vF) := by
        have e : orB s .unk = { s with bad := true } := by unfold orB; rw [← HBD.out]; rfl
        rw [e]
        exact HJ2.out.trans (HJ2.out.run.setBad true)
      have HFR := Lib.hid ((Fr.of_below HB.out [rb]).trans (Fr.setCell w2 (X := [rb]) (p := ⟨rb, 4, none⟩) (by simp) (.bool true)))
      go_upto_region 3 with (fail)
      generalize w2.setCell ⟨rb, 4, none⟩ (.bool true) = w3 at *
      clear t0 t2 q4 f4
      have t0 : w3.cell? ⟨z, 0, none⟩ = some (.int .i64 0) := BZ3.out.cell 0
      have t2 : w3.cell? ⟨z, 2, none⟩ = some (.bool false) := BZ3.out.cell 2
      go_wp2_with fail
      go_ret
      exact ⟨rfl, HS.out, HFR.out⟩
  | num n =>
    cases bd
    · have t0 : w2.cell? ⟨z, 0, none⟩ = some (.int .i64 1) := BZ.out.cell 0
      have t2 : w2.cell? ⟨z, 2, none⟩ = some (.bool false) := BZ.out.cell 2
      have BZ3 := Lib.hid ((Fr.setCell w2 (X := [rb]) (p := ⟨rb, 4, none⟩) (by simp) (.bool false)).blk BZ.out (by simpa using HNE.out))
      have HS : Hid (RunTo base rb day fx fa fl fc w (w2.setCell ⟨rb, 4, none⟩ (.bool false)) vP vF (orB s (.num n)) vP vF) := by
        have e : orB s (.num n) = { s with bad := false } := by unfold orB; rw [← HBD.out]; rfl
        rw [e]
        exact HJ2.out.trans (HJ2.out.run.setBad false)
      have HFR := Lib.hid ((Fr.of_below HB.out [rb]).trans (Fr.setCell w2 (X := [rb]) (p := ⟨rb, 4, none⟩) (by simp) (.bool false)))
      go_upto_region 3 with (fail)
      generalize w2.setCell ⟨rb, 4, none⟩ (.bool false) = w3 at *
      clear t0 t2 q4 f4
      have t0 : w3.cell? ⟨z, 0, none⟩ = some (.int .i64 1) := BZ3.out.cell 0
      have t2 : w3.cell? ⟨z, 2, none⟩ = some (.bool false) := BZ3.out.cell 2
      go_wp2_with fail
      go_ret
      exact ⟨rfl, HS.out, HFR.out⟩
    · have t0 : w2.cell? ⟨z, 0, none⟩ = some (.int .i64 1) := BZ.out.cell 0
      have t2 : w2.cell? ⟨z, 2, none⟩ = some (.bool false) := BZ.out.cell 2
      have BZ3 := Lib.hid ((Fr.setCell w2 (X := [rb]) (p := ⟨rb, 4, none⟩) (by simp) (.bool true)).blk BZ.out (by simpa using HNE.out))
      have HS : Hid (RunTo base rb day fx fa fl fc w (w2.setCell ⟨rb, 4, none⟩ (.bool true)) vP vF (orB s (.num n)) vP vF) := by
        have e : orB s (.num n) = { s with bad := true } := by unfold orB; rw [← HBD.out]; rfl
        rw [e]
        exact HJ2.out.trans (HJ2.out.run.setBad true)
      have HFR := Lib.hid ((Fr.of_below HB.out [rb]).trans (Fr.setCell w2 (X := [rb]) (p := ⟨rb, 4, none⟩) (by simp) (.bool true)))
      go_upto_region 3 with (fail)
      generalize w2.setCell ⟨rb, 4, none⟩ (.bool true) = w3 at *
      clear t0 t2 q4 f4
      have t0 : w3.cell? ⟨z, 0, none⟩ = some (.int .i64 1) := BZ3.out.cell 0
      have t2 : w3.cell? ⟨z, 2, none⟩ = some (.bool false) := BZ3.out.cell 2
      go_wp2_with fail
      go_ret
      exact ⟨rfl, HS.out, HFR.out⟩
  | tru b =>
    cases bd
    · have t0 : w2.cell? ⟨z, 0, none⟩ = some (.int .i64 2) := BZ.out.cell 0
      have t2 : w2.cell? ⟨z, 2, none⟩ = some (.bool b) := BZ.out.cell 2
      have BZ3 := Lib.hid ((Fr.setCell w2 (X := [rb]) (p := ⟨rb, 4, none⟩) (by simp) (.bool false)).blk BZ.out (by simpa using HNE.out))
      have HS : Hid (RunTo base rb day fx fa fl fc w (w2.setCell ⟨rb, 4, none⟩ (.bool false)) vP vF (orB s (.tru b)) vP vF) := by
        have e : orB s (.tru b) = { s with bad := false } := by unfold orB; rw [← HBD.out]; rfl
        rw [e]
        exact HJ2.out.trans (HJ2.out.run.setBad false)
      have HFR := Lib.hid ((Fr.of_below HB.out [rb]).trans (Fr.setCell w2 (X := [rb]) (p := ⟨rb, 4, none⟩) (by simp) (.bool false)))
      go_upto_region 3 with (fail)
      generalize w2.setCell ⟨rb, 4, none⟩ (.bool false) = w3 at *
      clear t0 t2 q4 f4
      have t0 : w3.cell? ⟨z, 0, none⟩ = some (.int .i64 2) := BZ3.out.cell 0
      have t2 : w3.cell? ⟨z, 2, none⟩ = some (.bool b) := BZ3.out.cell 2
      go_wp2_with fail
      go_ret
      exact ⟨rfl, HS.out, HFR.out⟩
    · have t0 : w2.cell? ⟨z, 0, none⟩ = some (.int .i64 2) := BZ.out.cell 0
      have t2 : w2.cell? ⟨z, 2, none⟩ = some (.bool b) := BZ.out.cell 2
      have BZ3 := Lib.hid ((Fr.setCell w2 (X := [rb]) (p := ⟨rb, 4, none⟩) (by simp) (.bool true)).blk BZ.out (by simpa using HNE.out))
      have HS : Hid (RunTo base rb day fx fa fl fc w (w2.setCell ⟨rb, 4, none⟩ (.bool true)) vP vF (orB s (.tru b)) vP vF) := by
        have e : orB s (.tru b) = { s with bad := true } := by unfold orB; rw [← HBD.out]; rfl
        rw [e]
        exact HJ2.out.trans (HJ2.out.run.setBad true)
      have HFR := Lib.hid ((Fr.of_below HB.out [rb]).trans (Fr.setCell w2 (X := [rb]) (p := ⟨rb, 4, none⟩) (by simp) (.bool true)))
      go_upto_region 3 with (fail)
      generalize w2.setCell ⟨rb, 4, none⟩ (.bool true) = w3 at *
      clear t0 t2 q4 f4
      have t0 : w3.cell? ⟨z, 0, none⟩ = some (.int .i64 2) := BZ3.out.cell 0
      have t2 : w3.cell? ⟨z, 2, none⟩ = some (.bool b) := BZ3.out.cell 2
      go_wp2_with fail
      go_ret
      exact ⟨rfl, HS.out, HFR.out⟩
  | brk =>
    cases bd
    · have t0 : w2.cell? ⟨z, 0, none⟩ = some (.int .i64 3) := BZ.out.cell 0
      have t2 : w2.cell? ⟨z, 2, none⟩ = some (.bool false) := BZ.out.cell 2
      have BZ3 := Lib.hid ((Fr.setCell w2 (X := [rb]) (p := ⟨rb, 4, none⟩) (by simp) (.bool true)).blk BZ.out (by simpa using HNE.out))
      have HS : Hid (RunTo base rb day fx fa fl fc w (w2.setCell ⟨rb, 4, none⟩ (.bool true)) vP vF (orB s .brk) vP vF) := by
        have e : orB s .brk = { s with bad := true } := by unfold orB; rw [← HBD.out]; rfl
        rw [e]
        exact HJ2.out.trans (HJ2.out.run.setBad true)
      have HFR := Lib.hid ((Fr.of_below HB.out [rb]).trans (Fr.setCell w2 (X := [rb]) (p := ⟨rb, 4, none⟩) (by simp) (.bool true)))
      go_upto_region 3 with (fail)
      generalize w2.setCell ⟨rb, 4, none⟩ (.bool true) = w3 at *
      clear t0 t2 q4 f4
      have t0 : w3.cell? ⟨z, 0, none⟩ = some (.int .i64 3) := BZ3.out.cell 0
      have t2 : w3.cell? ⟨z, 2, none⟩ = some (.bool false) := BZ3.out.cell 2
      go_wp2_with fail
      go_ret
      exact ⟨rfl, HS.out, HFR.out⟩
    · have t0 : w2.cell? ⟨z, 0, none⟩ = some (.int .i64 3) := BZ.out.cell 0
      have t2 : w2.cell? ⟨z, 2, none⟩ = some (.bool false) := BZ.out.cell 2
      have BZ3 := Lib.hid ((Fr.setCell w2 (X := [rb]) (p := ⟨rb, 4, none⟩) (by simp) (.bool true)).blk BZ.out (by simpa using HNE.out))
      have HS : Hid (RunTo base rb day fx fa fl fc w (w2.setCell ⟨rb, 4, none⟩ (.bool true)) vP vF (orB s .brk) vP vF) := by
        have e : orB s .brk = { s with bad := true } := by unfold orB; rw [← HBD.out]; rfl
        rw [e]
        exact HJ2.out.trans (HJ2.out.run.setBad true)
      have HFR := Lib.hid ((Fr.of_below HB.out [rb]).trans (Fr.setCell w2 (X := [rb]) (p := ⟨rb, 4, none⟩) (by simp) (.bool true)))
      go_upto_region 3 with (fail)
      generalize w2.setCell ⟨rb, 4, none⟩ (.bool true) = w3 at *
      clear t0 t2 q4 f4
      have t0 : w3.cell? ⟨z, 0, none⟩ = some (.int .i64 3) := BZ3.out.cell 0
      have t2 : w3.cell? ⟨z, 2, none⟩ = some (.bool false) := BZ3.out.cell 2
      go_wp2_with fail
      go_ret
      exact ⟨rfl, HS.out, HFR.out⟩
end Go.Proofs.YtmiinmndbkdjbaaGreat

/- What a run tells; whether one of some truths is true. -/
namespace Go.Proofs.YtmiinmndbkdjbaaGreat
set_option linter.unusedVariables false
set_option linter.unusedSimpArgs false
open Go.RowKit
set_option maxRecDepth 100000 in
set_option maxHeartbeats 4000000 in
theorem told_bad (base rb : Nat) (day : Int) (fx : List Fx) (fa : Option Addr) (fl fc : Nat) (s : RS) (vP vF : Value) (w : World) (hJ : RunJ base rb day fx fa fl fc w s vP vF) (hb : s.bad = true) :
    Calls Tryz.prog 28 #[.pointer (some ⟨rb, 0, none⟩)] w fun x w' => x = .returned (.tuple #[.slice none 0 0, .slice none 0 0, .int .i64 2]) ∧ Below w.heap.size w w' := by
  have q4 : w.cell? ⟨rb, 4, none⟩ = some (.bool s.bad) := hJ.cells.cell 4
  rw [hb] at q4
  clear hJ hb
  go_enter Tryz.func28, Tryz.ntmps28
  go_wp2_with fail
  go_ret3
  exact ⟨rfl, Below.refl _ _⟩
set_option maxRecDepth 100000 in
set_option maxHeartbeats 4000000 in
theorem told_ok (base rb : Nat) (day : Int) (fx : List Fx) (fa : Option Addr) (fl fc : Nat) (s : RS) (pa : Option Addr) (pn pc : Nat) (qa : Option Addr) (qn qc : Nat) (w : World) (hJ : RunJ base rb day fx fa fl fc w s (.slice pa pn pc) (.slice qa qn qc)) (hb : s.bad = false) :
    Calls Tryz.prog 28 #[.pointer (some ⟨rb, 0, none⟩)] w fun x w' => x = .returned (.tuple #[.slice pa pn pc, .slice qa qn qc, .int .i64 0]) ∧ Below w.heap.size w w' := by
  have q4 : w.cell? ⟨rb, 4, none⟩ = some (.bool s.bad) := hJ.cells.cell 4
  have q2 : w.cell? ⟨rb, 2, none⟩ = some (.slice pa pn pc) := hJ.cells.cell 2
  have q3 : w.cell? ⟨rb, 3, none⟩ = some (.slice qa qn qc) := hJ.cells.cell 3
  rw [hb] at q4
  clear hJ hb
  go_enter Tryz.func28, Tryz.ntmps28
  go_upto_region 3 with (fail)
  go_quiet (fail)
  have bq : Below w.heap.size w (w.drewN nq) := (below_drewN (Below.refl w.heap.size w) nq)
  have HB := Lib.hid bq
  clear bq
  generalize w.drewN nq = w2 at *
  go_wp2_with fail
  go_ret3
  exact ⟨rfl, HB.out⟩
/-- A run behind some truths. -/
noncomputable def endS (day : Int) (fx : List Fx) (l : List Ex) (s : RS) : RS := l.foldl (fun s e => orB s (evalX day fx e)) s
noncomputable def endB (day : Int) (fx : List Fx) (l : List Ex) : Bool := l.any fun e => (evalX day fx e).B
set_option maxRecDepth 100000 in
set_option maxHeartbeats 4000000 in
theorem ended_any (base rb : Nat) (day : Int) (fx : List Fx) (fa : Option Addr) (fl fc : Nat) (s : RS) (vP vF : Value) (l : List Ex) (a : Option Addr) (len cap : Nat) (w : World) (hd : I64 day) (hJ : RunJ base rb day fx fa fl fc w s vP vF) (hR : SlR exK w (X3 rb vP vF) l a len cap) (hk : ∀ e ∈ l, e.rk ≤ 1000) (hlen : len ≤ 1000) :
    Calls Tryz.prog 48 #[.pointer (some ⟨rb, 0, none⟩), .slice a len cap] w fun x w' => x = .returned (.bool (endB day fx l)) ∧ RunTo base rb day fx fa fl fc w w' vP vF (endS day fx l s) vP vF := by
  have HJ := Lib.hid hJ.to
  have HR := Lib.hid hR
  have HL := Lib.hid hR.facts.1
  have HK := Lib.hid hk
  have HN := Lib.hid hlen
  clear hJ hR hk hlen
  go_enter Tryz.func48, Tryz.ntmps48
  go_wp2_with fail
  go_loopw [5, 10] (fun v i wr => ∃ (k : Nat), v = .bool (endB day fx (l.take k)) ∧ i = .int .i64 (k : Nat) ∧ k ≤ len ∧ Hid (RunTo base rb day fx fa fl fc w wr vP vF (endS day fx (l.take k) s) vP vF)) (fun _ i _ => len - (intOf i).toNat)
  case atStart => exact ⟨0, rfl, rfl, Nat.zero_le _, HJ.out⟩
  case round =>
    clear HJ
    rename World => w3
    obtain ⟨k, rfl, rfl, hk, HT⟩ := hrel
    by_cases hlt : k < len
    · have hlt' : (k : Int) < (len : Int) := by omega
      have k0 : (0 : Int) ≤ (k : Int) := by omega
      have k1 : (k : Int) ≤ 1000 := by have := HN.out; omega
      obtain ⟨b, o, x, cs, ha, -, -, hx, hRx, -, hc⟩ := (HT.out.slr HR.out).at k hlt
      have hRx' : RepE w3 (X3 rb vP vF) x cs := hRx
      have hkx := HK.out x (List.mem_of_getElem? hx)
      have htk : l.take (k + 1) = l.take k ++ [x] := by
        obtain ⟨hk', e⟩ := List.getElem?_eq_some_iff.1 hx
        rw [← List.take_append_getElem hk', e]
      have HES : Hid (endS day fx (l.take (k + 1)) s = orB (endS day fx (l.take k) s) (evalX day fx x)) := by show _ = _; rw [htk]; unfold endS; rw [List.foldl_append]; rfl
      have HEB : Hid (endB day fx (l.take (k + 1)) = (endB day fx (l.take k) || (evalX day fx x).B)) := by show _ = _; rw [htk]; unfold endB; rw [List.any_append]; simp
      obtain ⟨op, no, nm, args, aa, al, ac, e1, e2, -, -, -, -⟩ := hRx'.inv
      subst e2
      have bn := below_nT w3 (.cells #[.int .i64 op, .int .i64 no, .string nm, .slice aa al ac] 74)
      have BX := Lib.hid (Mem.Blk.new w3 74 #[.int .i64 op, .int .i64 no, .string nm, .slice aa al ac])
      have HT4 := Lib.hid (HT.out.trans (HT.out.run.below bn))
      have HTR := Lib.hid (runTruth_any base rb day fx fa fl fc (endS day fx (l.take k) s) vP vF x [.int .i64 op, .int .i64 no, .string nm, .slice aa al ac] _ hd (HT.out.run.below bn).run (hRx'.kept (Kept.of_below bn _)) hkx)
      obtain ⟨EB, hEB⟩ : ∃ E, E = endB day fx (l.take k) := ⟨_, rfl⟩
      obtain ⟨B, hB⟩ : ∃ B, B = (evalX day fx x).B := ⟨_, rfl⟩
      rw [← hEB, ← hB] at HEB
      rw [← hB] at HTR
      rw [← hEB]
      have u0 : w3.cell? ⟨b, o + k * 4, none⟩ = some (.int .i64 op) := hc 0 _ rfl
      have u1 : w3.cell? ⟨b, o + k * 4 + 1, none⟩ = some (.int .i64 no) := hc 1 _ rfl
      have u2 : w3.cell? ⟨b, o + k * 4 + 2, none⟩ = some (.string nm) := hc 2 _ rfl
      have u3 : w3.cell? ⟨b, o + k * 4 + 3, none⟩ = some (.slice aa al ac) := hc 3 _ rfl
      have HA := Lib.hid ha
      subst ha
      have HLT := Lib.hid hlt
      clear hRx hRx' hkx htk hx hc e1 hEB hB hlt bn HT
      go_upto_region 5 with (fail)
      generalize w3.alloc (.cells #[.int .i64 op, .int .i64 no, .string nm, .slice aa al ac] 74) = w4 at *
      generalize w3.heap.size = z at *
      clear u0 u1 u2 u3
      obtain ⟨c0, c1, c2, c3, -, -, -, -⟩ := blk4 BX.out
      go_wp2_with fail
      go_at_call 53
      (with_reducible refine HTR.out.mono ?_)
      rintro y w5 ⟨rfl, ht, -⟩
      have HT5 : Hid (RunTo base rb day fx fa fl fc w w5 vP vF (endS day fx (l.take (k + 1)) s) vP vF) := by
        have := HT4.out.trans ht
        rw [← HES.out] at this
        exact this
      clear ht HTR HT4 c0 c1 c2 c3 HES
      cases B
      · rw [Bool.or_false] at HEB
        rw [← HEB.out]
        go_wp2_with fail
        go_roundw
        case rel => exact ⟨k + 1, rfl, by go_num, by have := HLT.out; omega, HT5.out⟩
        case measure => simp [intOf]; have := HLT.out; omega
      · rw [Bool.or_true] at HEB
        go_wp2_with fail
        go_roundw
        case rel => exact ⟨k + 1, by rw [HEB.out], by go_num, by have := HLT.out; omega, HT5.out⟩
        case measure => simp [intOf]; have := HLT.out; omega
    · have hlt' : ¬ (k : Int) < (len : Int) := by omega
      obtain rfl : k = len := by omega
      rw [List.take_of_length_le (by rw [HL.out]; omega)] at HT ⊢
      clear hlt
      go_wp2_with fail
      go_ret
      exact ⟨rfl, HT.out⟩
end Go.Proofs.YtmiinmndbkdjbaaGreat

/- How much comes of a term: plain. -/
namespace Go.Proofs.YtmiinmndbkdjbaaGreat
set_option linter.unusedVariables false
set_option linter.unusedSimpArgs false
open Go.RowKit
theorem nd_kids {t : Te} (hb : bT t = true) : (t.op = 4 → (t0 t).nd + (t1 t).nd + 1 ≤ t.nd) ∧ (t.op = 3 ∨ t.op = 6 ∨ t.op = 7 ∨ t.op = 8 → (t0 t).nd + 1 ≤ t.nd) ∧ 1 ≤ t.nd := by
  obtain ⟨k1, k2, -⟩ := te_kids hb
  obtain ⟨op, nm, x, l⟩ := t
  have e : (Te.mk op nm x l).nd = 1 + Ex.nd.go x + Te.nd.go l := rfl
  refine ⟨fun h => ?_, fun h => ?_, by omega⟩
  · have k := k2 (.inl h)
    change l = _ at k
    have g : Te.nd.go l = (t0 (Te.mk op nm x l)).nd + ((t1 (Te.mk op nm x l)).nd + 0) := by
      conv => lhs; rw [k]
      rfl
    omega
  · have k := k1 (by rcases h with h | h | h | h <;> simp [h])
    change l = _ at k
    have g : Te.nd.go l = (t0 (Te.mk op nm x l)).nd + 0 := by
      conv => lhs; rw [k]
      rfl
    omega
/-- No more comes than there are nodes. -/
def LenB (n : Nat) (s s' : RS) : Prop := s'.ps.length ≤ s.ps.length + n ∧ s'.fs.length ≤ s.fs.length + n
theorem LenB.refl (n : Nat) (s : RS) : LenB n s s := ⟨Nat.le_add_right _ _, Nat.le_add_right _ _⟩
theorem LenB.trans {n m k : Nat} {a b c : RS} (h : LenB n a b) (g : LenB m b c) (e : n + m ≤ k) : LenB k a c := by
  obtain ⟨h1, h2⟩ := h
  obtain ⟨g1, g2⟩ := g
  exact ⟨by omega, by omega⟩
theorem LenB.up {n k : Nat} {a b : RS} (h : LenB n a b) (e : n ≤ k) : LenB k a b := ⟨by have := h.1; omega, by have := h.2; omega⟩
theorem LenB.part {n : Nat} (s : RS) (p : Prt) (h : 1 ≤ n) : LenB n s { s with ps := s.ps ++ [p] } := ⟨by show (s.ps ++ [p]).length ≤ _; rw [List.length_append]; simp; omega, Nat.le_add_right _ _⟩
theorem LenB.flow {n : Nat} (s : RS) (p : Flw) (h : 1 ≤ n) : LenB n s { s with fs := s.fs ++ [p] } := ⟨Nat.le_add_right _ _, by show (s.fs ++ [p]).length ≤ _; rw [List.length_append]; simp; omega⟩
theorem acq_len (day : Int) (fx : List Fx) : ∀ (r : Nat) (t : Te), t.rk ≤ r → bT t = true → ∀ (f : Int) (tn : Bool) (un : List Ex) (s : RS), LenB t.nd s (acq day fx t f tn un s) := by
  intro r
  induction r with
  | zero =>
    intro t hr hb
    obtain ⟨op, nm, x, l⟩ := t
    have h2 : (Te.mk op nm x l).rk = 1 + max (Ex.rk.go x) (Te.rk.go l) := rfl
    omega
  | succ r ih =>
    intro t hr hb f tn un s
    obtain ⟨k1, k2, -⟩ := te_kids hb
    obtain ⟨n1, n2, n3⟩ := nd_kids hb
    have i0 : (t.op = 3 ∨ t.op = 6 ∨ t.op = 7 ∨ t.op = 8 ∨ t.op = 4) → ∀ (f : Int) (tn : Bool) (un : List Ex) (s : RS), LenB (t0 t).nd s (acq day fx (t0 t) f tn un s) := fun h => by
      have hm : t0 t ∈ t.terms := by
        by_cases h' : t.op = 4 ∨ t.op = 5
        · rw [k2 h']; exact List.mem_cons_self ..
        · rw [k1 (by omega)]; exact List.mem_cons_self ..
      exact ih _ (by have := rk_kid hm; omega) (bT_kid hb hm)
    have i1 : t.op = 4 → ∀ (f : Int) (tn : Bool) (un : List Ex) (s : RS), LenB (t1 t).nd s (acq day fx (t1 t) f tn un s) := fun h => by
      have hm : t1 t ∈ t.terms := by rw [k2 (.inl h)]; exact List.mem_cons_of_mem _ (List.mem_cons_self ..)
      exact ih _ (by have := rk_kid hm; omega) (bT_kid hb hm)
    rw [acq_eq day fx hb, acqB]
    split
    · exact LenB.refl _ _
    split
    · split
      · exact LenB.refl _ _
      · exact LenB.flow _ _ n3
    split
    · rename_i h3
      exact (i0 (by omega) _ _ _ { s with bad := !(fitB (fitI (-f))) }).up (by have := n2 (by omega); omega)
    split
    · rename_i h4
      exact (i0 (by omega) _ _ _ s).trans (i1 h4 _ _ _ _) (by have := n1 h4; omega)
    split
    · rename_i h8
      split
      · exact LenB.refl t.nd s
      split
      · exact LenB.refl _ _
      · exact (i0 (by omega) _ _ _ s).up (by have := n2 (by omega); omega)
    split
    · rename_i h6
      unfold waitW
      split
      · exact LenB.refl t.nd s
      split
      · exact (i0 (by omega) _ _ _ { s with bad := !(fitB (fitI (f * (evalX day fx (x0 t)).N))) }).up (by have := n2 (by omega); omega)
      split
      · exact (i0 (by omega) _ _ _ s).up (by have := n2 (by omega); omega)
      · exact LenB.part _ _ n3
    split
    · exact LenB.part _ _ n3
    · exact LenB.refl _ _
end Go.Proofs.YtmiinmndbkdjbaaGreat

/- The contracts of check.needs, fits, Fits; condition: the term is built as it must be. -/
namespace Go.Proofs.YtmiinmndbkdjbaaGreat
set_option linter.unusedVariables false
set_option linter.unusedSimpArgs false
open Go.RowKit
theorem needs_any (op : Int) (v1 v2 v3 : Value) (w : World) : Calls Tryz.prog 84 #[.agg #[.int .i64 op, v1, v2, v3]] w fun e w' => e = .returned (.int .i64 (needT op)) ∧ Below w.heap.size w w' := by
  have HN : Hid (needT op = if op = 6 then 1 else 2) := rfl
  by_cases h6 : op = 6
  · subst h6
    rw [show needT 6 = 1 from rfl]
    clear HN
    go_enter Tryz.func84, Tryz.ntmps84
    go_wp2_with fail
    go_ret
    exact ⟨rfl, (Below.refl _ _).alloc (Nat.le_refl _) _⟩
  · rw [HN.out, if_neg h6]
    have h6' : (op == 6) = false := beq_eq_false_iff_ne.2 h6
    clear HN
    go_enter Tryz.func84, Tryz.ntmps84
    go_wp2_with fail
    go_ret
    exact ⟨rfl, (Below.refl _ _).alloc (Nat.le_refl _) _⟩
theorem fitT_noX {op : Int} {nm : ByteArray} {x : List Ex} {l : List Te} {j : Nat} {c : Ex} (h : x[j]? = some c) (hne : kE c ≠ needT op) : fitT (.mk op nm x l) = false := by
  rw [fitT]
  have : (x.all fun e => decide (kE e = needT op)) = false := by
    rw [List.all_eq_false]; exact ⟨c, List.mem_of_getElem? h, by simpa using hne⟩
  rw [this]; rfl
theorem fitT_noT {op : Int} {nm : ByteArray} {x : List Ex} {l : List Te} {j : Nat} {c : Te} (h : l[j]? = some c) (hne : fitT c = false) : fitT (.mk op nm x l) = false := by
  rw [fitT, fitT_go]
  have : l.all fitT = false := by
    rw [List.all_eq_false]; exact ⟨c, List.mem_of_getElem? h, by simp [hne]⟩
  rw [this, Bool.and_false]
theorem fitT_yes {op : Int} {nm : ByteArray} {x : List Ex} {l : List Te} (h1 : ∀ (j : Nat) c, x[j]? = some c → kE c = needT op) (h2 : ∀ (j : Nat) c, l[j]? = some c → fitT c = true) : fitT (.mk op nm x l) = true := by
  rw [fitT, fitT_go, Bool.and_eq_true, List.all_eq_true, List.all_eq_true]
  constructor
  · intro c hc
    obtain ⟨j, hj⟩ := List.getElem?_of_mem hc
    simpa using h1 j c hj
  · intro c hc
    obtain ⟨j, hj⟩ := List.getElem?_of_mem hc
    exact h2 j c hj
set_option maxRecDepth 100000 in
set_option maxHeartbeats 4000000 in
theorem fits_any : ∀ (r : Nat) (e : Te), e.rk ≤ r → bT e = true → ∀ (cs : List Value) (w : World), RepT w [] e cs →
    Calls Tryz.prog 51 #[.agg cs.toArray] w fun x w' => x = .returned (.bool (fitT e)) ∧ Below w.heap.size w w' := by
  intro r
  induction r with
  | zero => intro e h; have := e.rk_pos; omega
  | succ r ih =>
    intro e hr hb cs w hR
    obtain ⟨op, nm, exprs, terms, a, len, cap, a2, len2, cap2, rfl, rfl, i1, i3, hS, hS2⟩ := hR.inv
    obtain ⟨-, -, -, g4, g5⟩ := bT_inv hb
    obtain ⟨f1, f2, f3⟩ := hS.facts
    obtain ⟨f4, f5, f6⟩ := hS2.facts
    have HI : Hid (∀ (k : Nat) e1, terms[k]? = some e1 → ∀ cs1 W, RepT W [] e1 cs1 → Calls Tryz.prog 51 #[.agg cs1.toArray] W fun x w' => x = .returned (.bool (fitT e1)) ∧ Below W.heap.size W w') := by
      intro k e1 hk cs1 W hR1
      exact ih e1 (by have := Te.rk_lt (op := op) (nm := nm) (x := exprs) hk; omega) (g5 e1 (List.mem_of_getElem? hk)) cs1 W hR1
    have HK : Hid (∀ (k : Nat) e1, exprs[k]? = some e1 → ∀ cs1 W, RepE W [] e1 cs1 → Calls Tryz.prog 83 #[.agg cs1.toArray] W fun x w' => x = .returned (.int .i64 (kE e1)) ∧ Below W.heap.size W w') := by
      intro k e1 hk cs1 W hR1
      exact kind_any e1.rk e1 (Nat.le_refl _) (g4 e1 (List.mem_of_getElem? hk)) cs1 W hR1
    have HNX := Lib.hid (fun (j : Nat) c (h : exprs[j]? = some c) (hne : kE c ≠ needT op) => fitT_noX (nm := nm) (l := terms) h hne)
    have HNT := Lib.hid (fun (j : Nat) c (h : terms[j]? = some c) (hne : fitT c = false) => fitT_noT (op := op) (nm := nm) (x := exprs) h hne)
    have HY := Lib.hid (fun (h1 : ∀ (j : Nat) c, exprs[j]? = some c → kE c = needT op) (h2 : ∀ (j : Nat) c, terms[j]? = some c → fitT c = true) => fitT_yes (nm := nm) h1 h2)
    have HN := Lib.hid (fun W => needs_any op (.string nm) (.slice a len cap) (.slice a2 len2 cap2) W)
    have HB0 := Lib.hid ((Below.refl w.heap.size w).alloc (Nat.le_refl _) (.cells #[.int .i64 op, .string nm, .slice a len cap, .slice a2 len2 cap2] 41))
    have BX := Lib.hid (Mem.Blk.new w 41 #[.int .i64 op, .string nm, .slice a len cap, .slice a2 len2 cap2])
    have HSS := Lib.hid (hS.kept (Kept.of_below HB0.out []))
    have HST := Lib.hid (hS2.kept (Kept.of_below HB0.out []))
    have HL := Lib.hid f1
    have HL2 := Lib.hid f4
    clear ih hr hR hS hS2 i1 i3 f1 f4 g4 g5 hb
    generalize fitT (.mk op nm exprs terms) = R at *
    generalize needT op = nd at *
    go_enter Tryz.func51, Tryz.ntmps51
    go_upto_region 1 with (fail)
    generalize w.alloc (.cells #[.int .i64 op, .string nm, .slice a len cap, .slice a2 len2 cap2] 41) = v at *
    obtain ⟨c0, c1, c2, c3, -, -, -, -⟩ := blk4 BX.out
    go_wp2_with fail
    go_loopw [10] (fun i wr => ∃ k : Nat, i = .int .i64 (k : Nat) ∧ k ≤ len ∧ Hid (Below v.heap.size v wr) ∧ Hid (∀ (j : Nat) x, j < k → exprs[j]? = some x → kE x = nd)) (fun i _ => len - (intOf i).toNat)
    case atStart => exact ⟨0, rfl, Nat.zero_le _, Below.refl _ _, fun j x h => by omega⟩
    case round =>
      obtain ⟨k, rfl, hk, HB, HP⟩ := hrel
      have t0 := cell_up c0 HB.out
      have t1 := cell_up c1 HB.out
      have t2 := cell_up c2 HB.out
      have t3 := cell_up c3 HB.out
      clear c0 c1 c2 c3
      by_cases hlt : k < len
      · obtain ⟨b, o, cop, cn, cnm, cargs, ca, clen, ccap, rfl, -, -, hxe, j1, j2, j3, hSc, v0, v1, v2, v3⟩ := (HSS.out.kept (Kept.of_below HB.out [])).at k hlt
        have j1' : (k : Int) < (len : Int) := by omega
        have j0' : (0 : Int) ≤ (k : Int) := by omega
        have HXE := Lib.hid hxe
        have HSC := Lib.hid (RepE.mk' j1 j2 j3 hSc)
        clear hxe j1 j2 j3 hSc
        go_upto_region 4 with (fail)
        have hfa := (Below.refl wr.heap.size wr).alloc (Nat.le_refl _) (.cells #[.int .i64 cop, .int .i64 cn, .string cnm, .slice ca clen ccap] 74)
        have BV := Lib.hid (Mem.Blk.new wr 74 #[.int .i64 cop, .int .i64 cn, .string cnm, .slice ca clen ccap])
        have HV := Lib.hid (HB.out.trans (hfa.mono HB.out.size))
        have HC := Lib.hid (fun W (hW : Below wr.heap.size wr W) => HK.out k _ HXE.out _ _ (HSC.out.kept (Kept.of_below hW [])))
        have HFA := Lib.hid hfa
        have t0' := cell_up t0 hfa
        have t1' := cell_up t1 hfa
        have t2' := cell_up t2 hfa
        have t3' := cell_up t3 hfa
        clear hfa HB HSC v0 v1 v2 v3 t0 t1 t2 t3
        generalize wr.alloc (.cells #[.int .i64 cop, .int .i64 cn, .string cnm, .slice ca clen ccap] 74) = v4 at *
        obtain ⟨u0, u1, u2, u3, -, -, -, -⟩ := blk4 BV.out
        have HX2 : Hid (∀ x, exprs[k]? = some x → kE x = kE (Ex.mk cop cn cnm cargs)) := fun x hx => by rw [HXE.out] at hx; injection hx with hx; rw [hx]
        have HX3 : Hid (kE (Ex.mk cop cn cnm cargs) ≠ nd → R = false) := fun h => HNX.out k _ HXE.out h
        generalize kE (Ex.mk cop cn cnm cargs) = kc at *
        go_wp2_with fail
        refine wp_region_till (S := fun W => Below wr.heap.size wr W ∧ Below v4.heap.size v4 W ∧ (W.cell? ⟨wr.heap.size, 0, none⟩ = some (.int .i64 cop) ∧ W.cell? ⟨wr.heap.size, 1, none⟩ = some (.int .i64 cn) ∧ W.cell? ⟨wr.heap.size, 2, none⟩ = some (.string cnm) ∧ W.cell? ⟨wr.heap.size, 3, none⟩ = some (.slice ca clen ccap)) ∧
          W.cell? ⟨w.heap.size, 0, none⟩ = some (.int .i64 op) ∧ W.cell? ⟨w.heap.size, 1, none⟩ = some (.string nm) ∧ W.cell? ⟨w.heap.size, 2, none⟩ = some (.slice (some ⟨b, o, none⟩) len cap) ∧ W.cell? ⟨w.heap.size, 3, none⟩ = some (.slice a2 len2 cap2)) 4 (by kernel_rfl) ?_
        have D1 := HFA.out.drew
        have D2 := (Below.refl v4.heap.size v4).drew
        refine till_take (i := 0) (v := ?_) rfl (by kernel_rfl) (fun _ _ _ h => h) (Or.inl ⟨by rfl, ?_⟩) ⟨D1,D2,⟨u0,u1,u2,u3⟩,t0',t1',t2',t3'⟩ ?_
        rotate_left
        · intro W hS
          try dsimp only at hS
          go_split_ands
          go_simp
          try with_reducible rfl
        try simp only [Act.put, List.getElem_toArray, List.getElem_cons_zero, List.getElem_cons_succ, List.setIfInBounds_toArray, List.set_cons_zero, List.set_cons_succ]
        refine till_take (i := 2) (v := ?_) rfl (by kernel_rfl) (fun _ _ _ h => h) (Or.inl ⟨by rfl, ?_⟩) ⟨D1,D2,⟨u0,u1,u2,u3⟩,t0',t1',t2',t3'⟩ ?_
        rotate_left
        · intro W hS
          try dsimp only at hS
          go_split_ands
          go_simp
          try with_reducible rfl
        try simp only [Act.put, List.getElem_toArray, List.getElem_cons_zero, List.getElem_cons_succ, List.setIfInBounds_toArray, List.set_cons_zero, List.set_cons_succ]
        refine till_one (i := 1) (by kernel_rfl) rfl (fun K' hK => ?_)
        go_simp
        go_at_call 83
        (with_reducible refine (HC.out _ HFA.out.drew).mono ?_)
        rintro y w1 ⟨rfl, bb⟩
        have hb1 := HFA.out.drew.trans (bb.mono HFA.out.drew.size)
        have hb2 := ((Below.refl v4.heap.size v4).drew).trans (bb.mono ((Below.refl v4.heap.size v4).drew).size)
        refine hK _ _ ⟨hb1, hb2, ⟨cell_up (w := v4.drew) u0 bb, cell_up (w := v4.drew) u1 bb, cell_up (w := v4.drew) u2 bb, cell_up (w := v4.drew) u3 bb⟩, cell_up (w := v4.drew) t0' bb, cell_up (w := v4.drew) t1' bb, cell_up (w := v4.drew) t2' bb, cell_up (w := v4.drew) t3' bb⟩ ?_
        have HB2 := Lib.hid hb2
        clear hK K' bb hb1 hb2
        try simp only [Act.put, List.getElem_toArray, List.getElem_cons_zero, List.getElem_cons_succ, List.setIfInBounds_toArray, List.set_cons_zero, List.set_cons_succ]
        refine till_one (i := 3) (by kernel_rfl) rfl (fun K' hK => ?_)
        go_simp
        go_at_call 84
        (with_reducible refine (HN.out _).mono ?_)
        rintro y w2 ⟨rfl, bb⟩
        have hb3 := HB2.out.trans (bb.mono HB2.out.size)
        have hv3 := HV.out.trans (hb3.mono HV.out.size)
        refine hK _ _ ⟨HFA.out.trans (hb3.mono HFA.out.size), hb3, ⟨cell_up u0 hb3, cell_up u1 hb3, cell_up u2 hb3, cell_up u3 hb3⟩, cell_up t0' hb3, cell_up t1' hb3, cell_up t2' hb3, cell_up t3' hb3⟩ ?_
        have HV3 := Lib.hid hv3
        clear hK K' bb hb3 hv3 HB2 D1 D2
        try simp only [Act.put, List.getElem_toArray, List.getElem_cons_zero, List.getElem_cons_succ, List.setIfInBounds_toArray, List.set_cons_zero, List.set_cons_succ]
        refine till_last (by kernel_rfl) rfl (by kernel_rfl) (fun K' hK => ?_)
        go_simp
        refine hK _ _ ?_
        clear hK K'
        refine wpAny_done (by kernel_rfl) ?_ _
        clear HC HFA BV HV u0 u1 u2 u3 t0' t1' t2' t3'
        by_cases hkc : kc = nd
        · subst hkc
          have FIN : Hid (∀ (j : Nat) x, j < k + 1 → exprs[j]? = some x → kE x = kc) := fun j x hj hx => by
            rcases Nat.eq_or_lt_of_le (Nat.le_of_lt_succ hj) with rfl | h
            · exact HX2.out x hx
            · exact HP.out j x h hx
          clear HX2 HX3 HP HXE
          go_wp2_with fail
          go_roundw
          case rel => exact ⟨k + 1, by go_num, by omega, HV3.out, FIN.out⟩
          case measure => simp [intOf]; omega
        · obtain rfl := HX3.out hkc
          have hkc' : (kc == nd) = false := beq_eq_false_iff_ne.2 hkc
          have HF := Lib.hid (HB0.out.trans (HV3.out.mono HB0.out.size))
          clear HX2 HX3 HP HXE
          go_wp2_with fail
          go_ret
          exact ⟨rfl, HF.out⟩
      · have hk' : ¬ (k : Int) < (len : Int) := by omega
        have HPX : Hid (∀ (j : Nat) x, exprs[j]? = some x → kE x = nd) := fun j x hx => HP.out j x (by have h1 := (List.getElem?_eq_some_iff.1 hx).1; have h2 := HL.out; omega) hx
        clear HP HK HN HNX HL HSS
        go_wp2_with fail
        go_loopw [23] (fun i w2 => ∃ m : Nat, i = .int .i64 (m : Nat) ∧ m ≤ len2 ∧ Hid (Below v.heap.size v w2) ∧ Hid (∀ (j : Nat) x, j < m → terms[j]? = some x → fitT x = true)) (fun i _ => len2 - (intOf i).toNat)
        case atStart => exact ⟨0, rfl, Nat.zero_le _, HB.out, fun j x h => by omega⟩
        case round =>
          clear HB t0 t1 t2 t3
          obtain ⟨m, rfl, hm, HB, HP⟩ := hrel
          by_cases hlt2 : m < len2
          · obtain ⟨b, o, cop, cnm, cex, cte, ca, clen, ccap, ca2, clen2, ccap2, rfl, -, -, hxe, j1, j3, hSc, hSc2, v0, v1, v2, v3⟩ := (HST.out.kept (Kept.of_below HB.out [])).at m hlt2
            have j1' : (m : Int) < (len2 : Int) := by omega
            have j0' : (0 : Int) ≤ (m : Int) := by omega
            have HXE := Lib.hid hxe
            have HSC := Lib.hid (RepT.mk' j1 j3 hSc hSc2)
            clear hxe j1 j3 hSc hSc2
            go_upto_region 10 with (fail)
            have hfa := (Below.refl wr.heap.size wr).alloc (Nat.le_refl _) (.cells #[.int .i64 cop, .string cnm, .slice ca clen ccap, .slice ca2 clen2 ccap2] 41)
            have BV := Lib.hid (Mem.Blk.new wr 41 #[.int .i64 cop, .string cnm, .slice ca clen ccap, .slice ca2 clen2 ccap2])
            have HV := Lib.hid (HB.out.trans (hfa.mono HB.out.size))
            have HC := Lib.hid (HI.out m _ HXE.out _ _ (HSC.out.kept (Kept.of_below hfa [])))
            clear hfa HB HSC v0 v1 v2 v3
            generalize wr.alloc (.cells #[.int .i64 cop, .string cnm, .slice ca clen ccap, .slice ca2 clen2 ccap2] 41) = v4 at *
            obtain ⟨u0, u1, u2, u3, -, -, -, -⟩ := blk4 BV.out
            have HX2 : Hid (∀ x, terms[m]? = some x → fitT x = fitT (Te.mk cop cnm cex cte)) := fun x hx => by rw [HXE.out] at hx; injection hx with hx; rw [hx]
            have HX3 : Hid (fitT (Te.mk cop cnm cex cte) = false → R = false) := fun h => HNT.out m _ HXE.out h
            generalize fitT (Te.mk cop cnm cex cte) = kc at *
            cases kc
            · obtain rfl := HX3.out rfl
              go_wp2_with fail
              go_at_call 51
              (with_reducible refine HC.out.mono ?_)
              rintro y w3 ⟨rfl, bb⟩
              have HF := Lib.hid (HB0.out.trans ((HV.out.trans (bb.mono HV.out.size)).mono HB0.out.size))
              clear bb HC HV BV HX2 HX3 HP
              go_wp2_with fail
              go_ret
              exact ⟨rfl, HF.out⟩
            · have FIN : Hid (∀ (j : Nat) x, j < m + 1 → terms[j]? = some x → fitT x = true) := fun j x hj hx => by
                rcases Nat.eq_or_lt_of_le (Nat.le_of_lt_succ hj) with rfl | h
                · exact HX2.out x hx
                · exact HP.out j x h hx
              go_wp2_with fail
              go_at_call 51
              (with_reducible refine HC.out.mono ?_)
              rintro y w3 ⟨rfl, bb⟩
              have HF := Lib.hid (HV.out.trans (bb.mono HV.out.size))
              clear bb HC HV BV HX2 HX3 HP
              go_wp2_with fail
              go_roundw
              case rel => exact ⟨m + 1, by go_num, by omega, HF.out, FIN.out⟩
              case measure => simp [intOf]; omega
          · have hm' : ¬ (m : Int) < (len2 : Int) := by omega
            have hR := HY.out HPX.out (fun j x hx => HP.out j x (by have h1 := (List.getElem?_eq_some_iff.1 hx).1; have h2 := HL2.out; omega) hx)
            have HF := Lib.hid (HB0.out.trans (HB.out.mono HB0.out.size))
            clear HP HPX HY HNT
            subst hR
            go_wp2_with fail
            go_ret
            exact ⟨rfl, HF.out⟩
/-- What Fits answers. -/
def fitC (e : Te) : Int := if rT e then (if fitT e then 0 else 12) else 1
set_option maxRecDepth 100000 in
theorem fitsX_any (e : Te) (cs : List Value) (w : World) (hR : RepT w [] e cs) (hk : e.rk < 1000) :
    Calls Tryz.prog 26 #[.agg cs.toArray] w fun x w' => x = .returned (.int .i64 (fitC e)) ∧ Below w.heap.size w w' := by
  have HI : Hid (fitC e = if rT e then (if fitT e then 0 else 12) else 1) := rfl
  have HB := Lib.hid (show rT e = true → bT e = true from fun h => by unfold rT at h; rw [Bool.and_eq_true] at h; exact h.2)
  have HC := Lib.hid (fun W (hW : Below w.heap.size w W) => right_any e cs W (hR.kept (Kept.of_below hW [])) (by omega))
  have HK := Lib.hid (fun W (hW : Below w.heap.size w W) (hb : bT e = true) => fits_any e.rk e (Nat.le_refl _) hb cs W (hR.kept (Kept.of_below hW [])))
  obtain ⟨op, nm, exprs, terms, a, len, cap, a2, len2, cap2, rfl, rfl, i1, i3, hS, hS2⟩ := hR.inv
  have HB0 := Lib.hid ((Below.refl w.heap.size w).alloc (Nat.le_refl _) (.cells #[.int .i64 op, .string nm, .slice a len cap, .slice a2 len2 cap2] 41))
  have BX := Lib.hid (Mem.Blk.new w 41 #[.int .i64 op, .string nm, .slice a len cap, .slice a2 len2 cap2])
  clear i1 i3 hS hS2 hR hk
  generalize (Te.mk op nm exprs terms) = e at *
  cases hr : rT e with
  | true =>
    have hb := HB.out hr
    have HK := Lib.hid (fun W hW => HK.out W hW hb)
    rw [hr, if_pos rfl] at HI
    rw [hr] at HC
    rw [HI.out]
    clear hr hb HB HI
    cases hf : fitT e with
    | true =>
      rw [hf] at HK
      rw [if_pos rfl]
      clear hf
      go_enter Tryz.func26, Tryz.ntmps26
      go_upto_region 1 with (fail)
      generalize w.alloc (.cells #[.int .i64 op, .string nm, .slice a len cap, .slice a2 len2 cap2] 41) = v at *
      obtain ⟨c0, c1, c2, c3, -, -, -, -⟩ := blk4 BX.out
      go_wp2_with fail
      go_at_call 50
      (with_reducible refine (HC.out _ HB0.out).mono ?_)
      rintro y w1 ⟨rfl, b1⟩
      have HB1 := Lib.hid (HB0.out.trans (b1.mono HB0.out.size))
      have c0' := cell_up c0 b1
      have c1' := cell_up c1 b1
      have c2' := cell_up c2 b1
      have c3' := cell_up c3 b1
      clear c0 c1 c2 c3
      go_wp2_with fail
      go_at_call 51
      (with_reducible refine (HK.out _ HB1.out).mono ?_)
      rintro y w2 ⟨rfl, b2⟩
      have HB2 := Lib.hid (HB1.out.trans (b2.mono HB1.out.size))
      go_wp2_with fail
      go_ret
      exact ⟨rfl, HB2.out⟩
    | false =>
      rw [hf] at HK
      rw [if_neg (by decide)]
      clear hf
      go_enter Tryz.func26, Tryz.ntmps26
      go_upto_region 1 with (fail)
      generalize w.alloc (.cells #[.int .i64 op, .string nm, .slice a len cap, .slice a2 len2 cap2] 41) = v at *
      obtain ⟨c0, c1, c2, c3, -, -, -, -⟩ := blk4 BX.out
      go_wp2_with fail
      go_at_call 50
      (with_reducible refine (HC.out _ HB0.out).mono ?_)
      rintro y w1 ⟨rfl, b1⟩
      have HB1 := Lib.hid (HB0.out.trans (b1.mono HB0.out.size))
      have c0' := cell_up c0 b1
      have c1' := cell_up c1 b1
      have c2' := cell_up c2 b1
      have c3' := cell_up c3 b1
      clear c0 c1 c2 c3
      go_wp2_with fail
      go_at_call 51
      (with_reducible refine (HK.out _ HB1.out).mono ?_)
      rintro y w2 ⟨rfl, b2⟩
      have HB2 := Lib.hid (HB1.out.trans (b2.mono HB1.out.size))
      go_wp2_with fail
      go_ret
      exact ⟨rfl, HB2.out⟩
  | false =>
    rw [hr] at HC HI
    rw [if_neg (by decide)] at HI
    rw [HI.out]
    clear hr HB HI HK
    go_enter Tryz.func26, Tryz.ntmps26
    go_upto_region 1 with (fail)
    generalize w.alloc (.cells #[.int .i64 op, .string nm, .slice a len cap, .slice a2 len2 cap2] 41) = v at *
    obtain ⟨c0, c1, c2, c3, -, -, -, -⟩ := blk4 BX.out
    go_wp2_with fail
    go_at_call 50
    (with_reducible refine (HC.out _ HB0.out).mono ?_)
    rintro y w1 ⟨rfl, b1⟩
    have HB1 := Lib.hid (HB0.out.trans (b1.mono HB0.out.size))
    have c0' := cell_up c0 b1
    have c1' := cell_up c1 b1
    have c2' := cell_up c2 b1
    have c3' := cell_up c3 b1
    clear c0 c1 c2 c3
    go_wp2_with fail
    go_ret
    exact ⟨rfl, HB1.out⟩
end Go.Proofs.YtmiinmndbkdjbaaGreat

/- Parts that go on, step by step: plain. -/
namespace Go.Proofs.YtmiinmndbkdjbaaGreat
set_option linter.unusedVariables false
set_option linter.unusedSimpArgs false
open Go.RowKit
noncomputable def stepP (day : Int) (fx : List Fx) (s : RS) (p : Prt) : RS :=
  if endB day fx p.til = true ∨ (endS day fx p.til s).bad = true then endS day fx p.til s
  else if p.term.op = 6 ∨ p.term.op = 7 then waitW (acq day fx) (evalX day fx (x0 p.term)) p.term p.factor p.turned p.til (endS day fx p.til s)
  else { endS day fx p.til s with ps := (endS day fx p.til s).ps ++ [p] }
noncomputable def stepL (day : Int) (fx : List Fx) (l : List Prt) (s : RS) : RS := l.foldl (stepP day fx) s
def ndL : List Prt → Nat
  | [] => 0
  | p :: t => p.term.nd + ndL t
theorem ndL_append (a b : List Prt) : ndL (a ++ b) = ndL a + ndL b := by
  induction a with
  | nil => simp [ndL]
  | cons x t ih => rw [List.cons_append, ndL, ndL, ih]; omega
section
variable {day : Int} {fx : List Fx}
theorem endS_eq (l : List Ex) (s : RS) : endS day fx l s = ⟨s.ps, s.fs, s.bad || l.any fun e => decide ((evalX day fx e).K = 3)⟩ := by
  induction l generalizing s with
  | nil => cases s; simp [endS]
  | cons e t ih =>
    have h : endS day fx (e :: t) s = endS day fx t (orB s (evalX day fx e)) := rfl
    rw [h, ih, List.any_cons, ← Bool.or_assoc]
    rfl
theorem acq_good {t : Te} {f : Int} {tn : Bool} {un : List Ex} {s : RS} (h : (acq day fx t f tn un s).bad = false) : s.bad = false := by
  cases hs : s.bad with
  | false => rfl
  | true => rw [acq_bad hs, hs] at h; exact h
theorem endS_good {l : List Ex} {s : RS} (h : (endS day fx l s).bad = false) : s.bad = false ∧ (∀ e ∈ l, (evalX day fx e).K ≠ 3) ∧ endS day fx l s = s := by
  rw [endS_eq] at h ⊢
  change (s.bad || l.any fun e => decide ((evalX day fx e).K = 3)) = false at h
  rw [h]
  rw [Bool.or_eq_false_iff, List.any_eq_false] at h
  refine ⟨h.1, fun e he => by have := h.2 e he; simpa using this, ?_⟩
  rw [← h.1]
/-- A part that may be there, and may have come from a term of so many levels. -/
structure PrtOk (p : Prt) : Prop where
  op : p.term.op = 5 ∨ p.term.op = 6 ∨ p.term.op = 7 ∨ p.term.op = 9
  right : rT p.term = true
  fit : fitT p.term = true
  til : ∀ e ∈ p.til, kI e = 2
  len : p.til.length + p.term.rk ≤ 16
/-- A part of which nothing comes now. -/
structure Sat (day : Int) (fx : List Fx) (p : Prt) : Prop where
  til : ∀ e ∈ p.til, (evalX day fx e).K ≠ 3 ∧ (evalX day fx e).B = false
  x6 : p.term.op = 6 → (evalX day fx (x0 p.term)).K ≠ 3 ∧ (evalX day fx (x0 p.term)).K ≠ 1
  x7 : p.term.op = 7 → (evalX day fx (x0 p.term)).K ≠ 3 ∧ (evalX day fx (x0 p.term)).B = false
theorem rT_get {t : Te} (h : rT t = true) : t.nd ≤ 200 ∧ t.rk ≤ 16 ∧ bT t = true := by
  have e : rT t = (decide (t.nd ≤ 200 ∧ t.rk ≤ 16) && bT t) := rfl
  rw [e, Bool.and_eq_true, decide_eq_true_eq] at h
  exact ⟨h.1.1, h.1.2, h.2⟩
theorem rT_mk9 {t : Te} (h : bT t = true) (h1 : t.nd ≤ 200) (h2 : t.rk ≤ 16) : rT t = true := by
  have e : rT t = (decide (t.nd ≤ 200 ∧ t.rk ≤ 16) && bT t) := rfl
  rw [e, Bool.and_eq_true, decide_eq_true_eq]
  exact ⟨⟨h1, h2⟩, h⟩
theorem nd_mem {l : List Te} {u : Te} (h : u ∈ l) : u.nd ≤ Te.nd.go l := by
  induction l with
  | nil => cases h
  | cons x t ih =>
    simp only [Te.nd.go]
    rcases List.mem_cons.1 h with rfl | h
    · omega
    · have := ih h; omega
theorem rT_kid {t u : Te} (h : rT t = true) (hu : u ∈ t.terms) : rT u = true := by
  obtain ⟨h1, h2, h3⟩ := rT_get h
  have hr := rk_kid hu
  refine rT_mk9 (bT_kid h3 hu) ?_ (by omega)
  obtain ⟨op, nm, x, l⟩ := t
  have e : (Te.mk op nm x l).nd = 1 + Ex.nd.go x + Te.nd.go l := rfl
  have := nd_mem (l := l) hu
  omega
theorem fit_kid {t u : Te} (h : fitT t = true) (hu : u ∈ t.terms) : fitT u = true := by
  obtain ⟨op, nm, x, l⟩ := t
  rw [fitT, fitT_go, Bool.and_eq_true] at h
  exact List.all_eq_true.1 h.2 u hu
theorem kI_kid {t : Te} {e : Ex} (h : rT t = true) (hf : fitT t = true) (hm : e ∈ t.exprs) : kI e = needT t.op := by
  obtain ⟨h1, h2, h3⟩ := rT_get h
  have hr := rk_kidX hm
  obtain ⟨op, nm, x, l⟩ := t
  change e ∈ x at hm
  rw [fitT, Bool.and_eq_true] at hf
  have h4 := List.all_eq_true.1 hf.1 e hm
  rw [decide_eq_true_eq] at h4
  obtain ⟨-, -, -, hb, -⟩ := bT_inv h3
  have h5 : e.nd ≤ Ex.nd.go x := by
    clear h4 hb h3 hf h1 h h2 hr
    induction x with
    | nil => cases hm
    | cons y t ih =>
      simp only [Ex.nd.go]
      rcases List.mem_cons.1 hm with rfl | hm
      · omega
      · have := ih hm; omega
  have e1 : (Te.mk op nm x l).nd = 1 + Ex.nd.go x + Te.nd.go l := rfl
  have hrE : rE e = true := by
    have e2 : rE e = (decide (e.nd ≤ 200 ∧ e.rk ≤ 16) && bE e) := rfl
    rw [e2, Bool.and_eq_true, decide_eq_true_eq]
    exact ⟨⟨by omega, by omega⟩, hb e hm⟩
  unfold kI
  rw [if_pos hrE]
  exact h4
theorem fit_good {z : Int} (h : (!(fitB (fitI z))) = false) : fitN (fitI z) = z := by
  cases hz : fitI z with
  | none => rw [hz] at h; cases h
  | some v =>
    unfold fitI at hz
    split at hz
    · injection hz with hz; exact hz.symm
    · cases hz
/-- What comes of a term: parts that may be there, of which nothing comes now. -/
def Comes (day : Int) (fx : List Fx) (n : Nat) (s s' : RS) : Prop := ∃ new, s'.ps = s.ps ++ new ∧ (∀ p ∈ new, PrtOk p ∧ Sat day fx p) ∧ ndL new ≤ n
theorem Comes.refl (n : Nat) (s : RS) : Comes day fx n s s := ⟨[], by simp, (fun p h => nomatch h), by simp [ndL]⟩
theorem Comes.up {n m : Nat} {s s' : RS} (h : Comes day fx n s s') (e : n ≤ m) : Comes day fx m s s' := by
  obtain ⟨l, h1, h2, h3⟩ := h
  exact ⟨l, h1, h2, by omega⟩
theorem Comes.trans {n m k : Nat} {a b c : RS} (h : Comes day fx n a b) (g : Comes day fx m b c) (e : n + m ≤ k) : Comes day fx k a c := by
  obtain ⟨l, h1, h2, h3⟩ := h
  obtain ⟨l', g1, g2, g3⟩ := g
  refine ⟨l ++ l', by rw [g1, h1, List.append_assoc], fun p hp => ?_, by rw [ndL_append]; omega⟩
  rcases List.mem_append.1 hp with h | h
  · exact h2 p h
  · exact g2 p h
theorem Comes.part {t : Te} {f : Int} {tn : Bool} {un : List Ex} {s : RS} (h : PrtOk ⟨f, tn, un, t⟩) (h' : Sat day fx ⟨f, tn, un, t⟩) : Comes day fx t.nd s { s with ps := s.ps ++ [⟨f, tn, un, t⟩] } :=
  ⟨[⟨f, tn, un, t⟩], rfl, fun p hp => by rw [List.mem_singleton] at hp; subst hp; exact ⟨h, h'⟩, by simp [ndL]⟩
/-- Scale and When, under what is known of the kid. -/
theorem wait_comes {t : Te} (hr : rT t = true) (hfit : fitT t = true) (hop : t.op = 6 ∨ t.op = 7) {f : Int} {tn : Bool} {un : List Ex} {s : RS}
    (hun : ∀ e ∈ un, kI e = 2 ∧ (evalX day fx e).K ≠ 3 ∧ (evalX day fx e).B = false) (hlen : un.length + t.rk ≤ 16)
    (ih : ∀ (f : Int) (s : RS), (acq day fx (t0 t) f tn un s).bad = false → Comes day fx (t0 t).nd s (acq day fx (t0 t) f tn un s))
    (h : (waitW (acq day fx) (evalX day fx (x0 t)) t f tn un s).bad = false) : Comes day fx t.nd s (waitW (acq day fx) (evalX day fx (x0 t)) t f tn un s) := by
  obtain ⟨-, n2, -⟩ := nd_kids (rT_get hr).2.2
  have n3 := n2 (by omega)
  unfold waitW at h ⊢
  by_cases h3 : (evalX day fx (x0 t)).K = 3
  · rw [if_pos h3] at h; cases h
  rw [if_neg h3] at h ⊢
  by_cases h6 : t.op = 6 ∧ (evalX day fx (x0 t)).K = 1
  · rw [if_pos h6] at h ⊢
    have h7 := ih _ _ h
    exact (show Comes day fx (t0 t).nd s _ from h7).up (by omega)
  rw [if_neg h6] at h ⊢
  by_cases h7 : t.op = 7 ∧ (evalX day fx (x0 t)).B = true
  · rw [if_pos h7] at h ⊢
    exact (ih _ _ h).up (by omega)
  rw [if_neg h7] at h ⊢
  refine Comes.part ⟨by show t.op = 5 ∨ t.op = 6 ∨ t.op = 7 ∨ t.op = 9; omega, hr, hfit, fun e he => (hun e he).1, hlen⟩ ⟨fun e he => (hun e he).2, fun h8 => ⟨h3, fun h9 => h6 ⟨h8, h9⟩⟩, fun h8 => ⟨h3, ?_⟩⟩
  cases hB : (evalX day fx (x0 t)).B with
  | false => rfl
  | true => exact absurd ⟨h8, hB⟩ h7
theorem acq_comes : ∀ (r : Nat) (t : Te), t.rk ≤ r → rT t = true → fitT t = true → ∀ (f : Int) (tn : Bool) (un : List Ex) (s : RS),
    (∀ e ∈ un, kI e = 2 ∧ (evalX day fx e).K ≠ 3 ∧ (evalX day fx e).B = false) → un.length + t.rk ≤ 16 → (acq day fx t f tn un s).bad = false → Comes day fx t.nd s (acq day fx t f tn un s) := by
  intro r
  induction r with
  | zero =>
    intro t hr
    obtain ⟨op, nm, x, l⟩ := t
    have h2 : (Te.mk op nm x l).rk = 1 + max (Ex.rk.go x) (Te.rk.go l) := rfl
    omega
  | succ r ih =>
    intro t hr hR hF f tn un s hun hlen h
    have hb := (rT_get hR).2.2
    obtain ⟨k1, k2, k3, -, -⟩ := te_kids hb
    obtain ⟨n1, n2, n3⟩ := nd_kids hb
    have kid : ∀ u ∈ t.terms, ∀ (f : Int) (tn : Bool) (s : RS), (acq day fx u f tn un s).bad = false → Comes day fx u.nd s (acq day fx u f tn un s) := fun u hu f tn s hg =>
      ih u (by have := rk_kid hu; omega) (rT_kid hR hu) (fit_kid hF hu) f tn un s hun (by have := rk_kid hu; omega) hg
    have m0 : t.op = 3 ∨ t.op = 4 ∨ t.op = 6 ∨ t.op = 7 ∨ t.op = 8 → t0 t ∈ t.terms := fun h' => by
      by_cases h4 : t.op = 4
      · rw [k2 (.inl h4)]; exact List.mem_cons_self ..
      · rw [k1 (by omega)]; exact List.mem_cons_self ..
    rw [acq_eq day fx hb] at h ⊢
    unfold acqB at h ⊢
    by_cases hs : s.bad = true
    · rw [if_pos hs]; exact Comes.refl _ _
    rw [if_neg hs] at h ⊢
    by_cases h2 : t.op = 2
    · rw [if_pos h2] at h ⊢
      split
      · exact Comes.refl _ _
      · exact Comes.refl _ s
    rw [if_neg h2] at h ⊢
    by_cases h3 : t.op = 3
    · rw [if_pos h3] at h ⊢
      have hx := kid _ (m0 (.inl h3)) _ _ _ h
      exact (show Comes day fx (t0 t).nd s _ from hx).up (by have := n2 (.inl h3); omega)
    rw [if_neg h3] at h ⊢
    by_cases h4 : t.op = 4
    · rw [if_pos h4] at h ⊢
      have m1 : t1 t ∈ t.terms := by rw [k2 (.inl h4)]; exact List.mem_cons_of_mem _ (List.mem_cons_self ..)
      exact (kid _ (m0 (by omega)) _ _ _ (acq_good h)).trans (kid _ m1 _ _ _ h) (by have := n1 h4; omega)
    rw [if_neg h4] at h ⊢
    by_cases h8 : t.op = 8
    · rw [if_pos h8] at h ⊢
      by_cases hK : (evalX day fx (x0 t)).K = 3
      · rw [if_pos hK] at h; cases h
      rw [if_neg hK] at h ⊢
      by_cases hB : (evalX day fx (x0 t)).B = true
      · rw [if_pos hB]; exact Comes.refl _ _
      rw [if_neg hB] at h ⊢
      have mx : x0 t ∈ t.exprs := by rw [k3 (by omega)]; exact List.mem_cons_self ..
      have hk := kI_kid hR hF mx
      have hn : needT t.op = 2 := by unfold needT; rw [if_neg (by omega)]
      have hu := m0 (by omega)
      refine (ih _ (by have := rk_kid hu; omega) (rT_kid hR hu) (fit_kid hF hu) f tn (un ++ [x0 t]) s (fun e he => ?_) ?_ h).up (by have := n2 (by omega); omega)
      · rcases List.mem_append.1 he with he | he
        · exact hun e he
        · rw [List.mem_singleton] at he; subst he
          exact ⟨hk.trans hn, hK, by cases hq : (evalX day fx (x0 t)).B with | false => rfl | true => exact absurd hq hB⟩
      · have := rk_kid hu
        rw [List.length_append, List.length_singleton]; omega
    rw [if_neg h8] at h ⊢
    by_cases h6 : t.op = 6 ∨ t.op = 7
    · rw [if_pos h6] at h ⊢
      exact wait_comes hR hF h6 hun hlen (fun f s hg => kid _ (m0 (by omega)) f tn s hg) h
    rw [if_neg h6] at h ⊢
    by_cases h5 : t.op = 5 ∨ t.op = 9
    · rw [if_pos h5] at h ⊢
      exact Comes.part ⟨by show t.op = 5 ∨ t.op = 6 ∨ t.op = 7 ∨ t.op = 9; omega, hR, hF, fun e he => (hun e he).1, hlen⟩ ⟨fun e he => (hun e he).2, fun h9 => by have : t.op = 6 := h9; omega, fun h9 => by have : t.op = 7 := h9; omega⟩
    rw [if_neg h5]
    exact Comes.refl _ _
theorem endB_no {l : List Ex} (h : ¬ endB day fx l = true) : ∀ e ∈ l, (evalX day fx e).B = false := by
  intro e he
  unfold endB at h
  rw [Bool.not_eq_true, List.any_eq_false] at h
  have := h e he
  simpa using this
theorem stepP_good {p : Prt} {s : RS} (h : (stepP day fx s p).bad = false) : (endS day fx p.til s).bad = false := by
  unfold stepP at h
  split at h
  · exact h
  · rename_i hn
    cases hb : (endS day fx p.til s).bad with
    | false => rfl
    | true => exact absurd (.inr hb) hn
theorem stepP_comes {p : Prt} (hp : PrtOk p) {s : RS} (h : (stepP day fx s p).bad = false) : Comes day fx p.term.nd s (stepP day fx s p) := by
  have hg := stepP_good h
  obtain ⟨g1, g2, g3⟩ := endS_good hg
  unfold stepP at h ⊢
  rw [g3] at h ⊢
  by_cases he : endB day fx p.til = true ∨ s.bad = true
  · rw [if_pos he]; exact Comes.refl _ _
  rw [if_neg he] at h ⊢
  have hun : ∀ e ∈ p.til, kI e = 2 ∧ (evalX day fx e).K ≠ 3 ∧ (evalX day fx e).B = false := fun e hm => ⟨hp.til e hm, g2 e hm, endB_no (fun hh => he (.inl hh)) e hm⟩
  by_cases h6 : p.term.op = 6 ∨ p.term.op = 7
  · rw [if_pos h6] at h ⊢
    obtain ⟨k1, -, -⟩ := te_kids (rT_get hp.right).2.2
    have hu : t0 p.term ∈ p.term.terms := by rw [k1 (by omega)]; exact List.mem_cons_self ..
    exact wait_comes hp.right hp.fit h6 hun hp.len (fun f s hq => acq_comes _ _ (Nat.le_refl _) (rT_kid hp.right hu) (fit_kid hp.fit hu) f _ _ s hun (by have := rk_kid hu; have := hp.len; omega) hq) h
  rw [if_neg h6] at h ⊢
  exact Comes.part (t := p.term) (f := p.factor) (tn := p.turned) (un := p.til) hp ⟨fun e hm => (hun e hm).2, fun h9 => absurd (.inl h9) h6, fun h9 => absurd (.inr h9) h6⟩
theorem stepL_bad {l : List Prt} {s : RS} (h : s.bad = true) : (stepL day fx l s).bad = true := by
  induction l generalizing s with
  | nil => exact h
  | cons p l ih =>
    refine ih ?_
    cases hq : (stepP day fx s p).bad with
    | true => rfl
    | false =>
      have := (endS_good (stepP_good hq)).1
      rw [h] at this; cases this
theorem stepL_comes {l : List Prt} (hl : ∀ p ∈ l, PrtOk p) {s : RS} (h : (stepL day fx l s).bad = false) : Comes day fx (ndL l) s (stepL day fx l s) := by
  induction l generalizing s with
  | nil => exact Comes.refl _ _
  | cons p l ih =>
    have h1 : (stepP day fx s p).bad = false := by
      cases hq : (stepP day fx s p).bad with
      | false => rfl
      | true =>
        have := stepL_bad (day := day) (fx := fx) (l := l) hq
        change (stepL day fx l (stepP day fx s p)).bad = false at h
        rw [this] at h; cases h
    exact (stepP_comes (hl p (List.mem_cons_self ..)) h1).trans (ih (fun q hq => hl q (List.mem_cons_of_mem _ hq)) h) (by simp [ndL])
/-- A Step changes nothing where nothing comes. -/
theorem stepP_sat {p : Prt} (hs : Sat day fx p) {s : RS} (h : s.bad = false) : stepP day fx s p = { s with ps := s.ps ++ [p] } := by
  have e : endS day fx p.til s = s := by
    rw [endS_eq]
    have : (p.til.any fun e => decide ((evalX day fx e).K = 3)) = false := by
      rw [List.any_eq_false]; intro e he; have := (hs.til e he).1; simpa using this
    rw [this, Bool.or_false]
  unfold stepP
  rw [e]
  have hB : ¬ (endB day fx p.til = true ∨ s.bad = true) := by
    rintro (h1 | h1)
    · unfold endB at h1
      obtain ⟨x, hx, hxB⟩ := List.any_eq_true.1 h1
      rw [(hs.til x hx).2] at hxB; cases hxB
    · rw [h] at h1; cases h1
  rw [if_neg hB]
  by_cases h6 : p.term.op = 6 ∨ p.term.op = 7
  · rw [if_pos h6]
    unfold waitW
    rw [if_neg (by rcases h6 with h6 | h6; exact (hs.x6 h6).1; exact (hs.x7 h6).1), if_neg (fun hh => (hs.x6 hh.1).2 hh.2), if_neg (fun hh => by have := (hs.x7 hh.1).2; rw [this] at hh; cases hh.2)]
  · rw [if_neg h6]
theorem stepL_sat {l : List Prt} (hs : ∀ p ∈ l, Sat day fx p) {s : RS} (h : s.bad = false) : stepL day fx l s = { s with ps := s.ps ++ l } := by
  induction l generalizing s with
  | nil => cases s; simp [stepL]
  | cons p l ih =>
    have h1 : stepL day fx (p :: l) s = stepL day fx l (stepP day fx s p) := rfl
    rw [h1, stepP_sat (hs p (List.mem_cons_self ..)) h, ih (fun q hq => hs q (List.mem_cons_of_mem _ hq)) (s := { s with ps := s.ps ++ [p] }) h]
    simp
/-- The other side. -/
def negP (p : Prt) : Prt := { p with factor := -p.factor, turned := !p.turned }
def negF (f : Flw) : Flw := { f with amt := -f.amt }
def Opp (s s' : RS) : Prop := s'.ps = s.ps.map negP ∧ s'.fs = s.fs.map negF
theorem Opp.part {s s' : RS} (h : Opp s s') (p : Prt) : Opp { s with ps := s.ps ++ [p] } { s' with ps := s'.ps ++ [negP p] } := ⟨by show s'.ps ++ [negP p] = (s.ps ++ [p]).map negP; rw [h.1, List.map_append]; rfl, h.2⟩
theorem Opp.flow {s s' : RS} (h : Opp s s') (p : Flw) : Opp { s with fs := s.fs ++ [p] } { s' with fs := s'.fs ++ [negF p] } := ⟨h.1, by show s'.fs ++ [negF p] = (s.fs ++ [p]).map negF; rw [h.2, List.map_append]; rfl⟩
theorem wait_opp {V : Vl} {t : Te} {f : Int} {tn : Bool} {un : List Ex} {s s' : RS} (ho : Opp s s')
    (ih : ∀ (f : Int) (s s' : RS), Opp s s' → (acq day fx (t0 t) f tn un s).bad = false → (acq day fx (t0 t) (-f) (!tn) un s').bad = false → Opp (acq day fx (t0 t) f tn un s) (acq day fx (t0 t) (-f) (!tn) un s'))
    (h : (waitW (acq day fx) V t f tn un s).bad = false) (h' : (waitW (acq day fx) V t (-f) (!tn) un s').bad = false) : Opp (waitW (acq day fx) V t f tn un s) (waitW (acq day fx) V t (-f) (!tn) un s') := by
  unfold waitW at h h' ⊢
  by_cases h3 : V.K = 3
  · rw [if_pos h3] at h; cases h
  rw [if_neg h3] at h h'
  rw [if_neg h3, if_neg h3]
  by_cases h6 : t.op = 6 ∧ V.K = 1
  · rw [if_pos h6] at h h'
    rw [if_pos h6, if_pos h6]
    have e1 := fit_good (acq_good h)
    have e2 := fit_good (acq_good h')
    rw [e1] at h ⊢
    rw [e2] at h' ⊢
    rw [Int.neg_mul] at h' ⊢
    exact ih _ ⟨s.ps, s.fs, _⟩ ⟨s'.ps, s'.fs, _⟩ ⟨ho.1, ho.2⟩ h h'
  rw [if_neg h6] at h h'
  rw [if_neg h6, if_neg h6]
  by_cases h7 : t.op = 7 ∧ V.B = true
  · rw [if_pos h7] at h h'
    rw [if_pos h7, if_pos h7]
    exact ih _ _ _ ho h h'
  rw [if_neg h7] at h h'
  rw [if_neg h7, if_neg h7]
  exact ho.part ⟨f, tn, un, t⟩
theorem acq_opp : ∀ (r : Nat) (t : Te), t.rk ≤ r → bT t = true → ∀ (f : Int) (tn : Bool) (un : List Ex) (s s' : RS), Opp s s' →
    (acq day fx t f tn un s).bad = false → (acq day fx t (-f) (!tn) un s').bad = false → Opp (acq day fx t f tn un s) (acq day fx t (-f) (!tn) un s') := by
  intro r
  induction r with
  | zero =>
    intro t hr
    obtain ⟨op, nm, x, l⟩ := t
    have h2 : (Te.mk op nm x l).rk = 1 + max (Ex.rk.go x) (Te.rk.go l) := rfl
    omega
  | succ r ih =>
    intro t hr hb f tn un s s' ho h h'
    obtain ⟨k1, k2, -, -, -⟩ := te_kids hb
    have kid : ∀ u ∈ t.terms, ∀ (f : Int) (tn : Bool) (un : List Ex) (s s' : RS), Opp s s' → (acq day fx u f tn un s).bad = false → (acq day fx u (-f) (!tn) un s').bad = false → Opp (acq day fx u f tn un s) (acq day fx u (-f) (!tn) un s') :=
      fun u hu => ih u (by have := rk_kid hu; omega) (bT_kid hb hu)
    have m0 : t.op = 3 ∨ t.op = 4 ∨ t.op = 6 ∨ t.op = 7 ∨ t.op = 8 → t0 t ∈ t.terms := fun h' => by
      by_cases h4 : t.op = 4
      · rw [k2 (.inl h4)]; exact List.mem_cons_self ..
      · rw [k1 (by omega)]; exact List.mem_cons_self ..
    rw [acq_eq day fx hb] at h ⊢
    rw [acq_eq day fx hb] at h' ⊢
    unfold acqB at h h' ⊢
    by_cases hs : s.bad = true
    · rw [if_pos hs, hs] at h; cases h
    by_cases hs' : s'.bad = true
    · rw [if_pos hs', hs'] at h'; cases h'
    rw [if_neg hs] at h ⊢
    rw [if_neg hs'] at h' ⊢
    by_cases h2 : t.op = 2
    · rw [if_pos h2] at h h' ⊢
      rw [if_pos h2]
      by_cases hf : f = 0
      · rw [if_pos hf, if_pos (by omega)]; exact ho
      · rw [if_neg hf, if_neg (by omega)]; exact ho.flow ⟨t.nm, f⟩
    rw [if_neg h2] at h h' ⊢
    rw [if_neg h2]
    by_cases h3 : t.op = 3
    · rw [if_pos h3] at h h' ⊢
      rw [if_pos h3]
      have e1 := fit_good (acq_good h)
      have e2 := fit_good (acq_good h')
      rw [e1] at h ⊢
      rw [e2] at h' ⊢
      exact kid _ (m0 (.inl h3)) _ _ _ ⟨s.ps, s.fs, _⟩ ⟨s'.ps, s'.fs, _⟩ ⟨ho.1, ho.2⟩ h h'
    rw [if_neg h3] at h h' ⊢
    rw [if_neg h3]
    by_cases h4 : t.op = 4
    · rw [if_pos h4] at h h' ⊢
      rw [if_pos h4]
      have m1 : t1 t ∈ t.terms := by rw [k2 (.inl h4)]; exact List.mem_cons_of_mem _ (List.mem_cons_self ..)
      exact kid _ m1 _ _ _ _ _ (kid _ (m0 (by omega)) _ _ _ _ _ ho (acq_good h) (acq_good h')) h h'
    rw [if_neg h4] at h h' ⊢
    rw [if_neg h4]
    by_cases h8 : t.op = 8
    · rw [if_pos h8] at h h' ⊢
      rw [if_pos h8]
      by_cases hK : (evalX day fx (x0 t)).K = 3
      · rw [if_pos hK] at h; cases h
      rw [if_neg hK] at h h' ⊢
      rw [if_neg hK]
      by_cases hB : (evalX day fx (x0 t)).B = true
      · rw [if_pos hB, if_pos hB]; exact ho
      rw [if_neg hB] at h h' ⊢
      rw [if_neg hB]
      exact kid _ (m0 (by omega)) _ _ _ _ _ ho h h'
    rw [if_neg h8] at h h' ⊢
    rw [if_neg h8]
    by_cases h6 : t.op = 6 ∨ t.op = 7
    · rw [if_pos h6] at h h' ⊢
      rw [if_pos h6]
      exact wait_opp ho (fun f s s' => kid _ (m0 (by omega)) f tn un s s') h h'
    rw [if_neg h6] at h h' ⊢
    rw [if_neg h6]
    by_cases h5 : t.op = 5 ∨ t.op = 9
    · rw [if_pos h5, if_pos h5]; exact ho.part ⟨f, tn, un, t⟩
    rw [if_neg h5, if_neg h5]
    exact ho
theorem stepP_opp {p : Prt} (hb : bT p.term = true) {s s' : RS} (ho : Opp s s') (h : (stepP day fx s p).bad = false) (h' : (stepP day fx s' (negP p)).bad = false) : Opp (stepP day fx s p) (stepP day fx s' (negP p)) := by
  obtain ⟨g1, g2, g3⟩ := endS_good (stepP_good h)
  obtain ⟨g1', g2', g3'⟩ := endS_good (stepP_good h')
  unfold stepP at h h' ⊢
  rw [g3] at h ⊢
  rw [g3'] at h' ⊢
  have e1 : (negP p).til = p.til := rfl
  have e2 : (negP p).term = p.term := rfl
  rw [e1, e2] at h' ⊢
  rw [g1] at h ⊢
  rw [g1'] at h' ⊢
  by_cases he : endB day fx p.til = true ∨ false = true
  · rw [if_pos he, if_pos he]; exact ho
  rw [if_neg he] at h h' ⊢
  rw [if_neg he]
  by_cases h6 : p.term.op = 6 ∨ p.term.op = 7
  · rw [if_pos h6] at h h' ⊢
    rw [if_pos h6]
    obtain ⟨k1, -, -⟩ := te_kids hb
    have hu : t0 p.term ∈ p.term.terms := by rw [k1 (by omega)]; exact List.mem_cons_self ..
    exact wait_opp ho (fun f s s' => acq_opp _ _ (Nat.le_refl _) (bT_kid hb hu) f _ _ s s') h h'
  rw [if_neg h6, if_neg h6]
  exact ho.part p
theorem stepL_opp {l : List Prt} (hb : ∀ p ∈ l, bT p.term = true) {s s' : RS} (ho : Opp s s') (h : (stepL day fx l s).bad = false) (h' : (stepL day fx (l.map negP) s').bad = false) : Opp (stepL day fx l s) (stepL day fx (l.map negP) s') := by
  induction l generalizing s s' with
  | nil => exact ho
  | cons p l ih =>
    have h1 : (stepP day fx s p).bad = false := by
      cases hq : (stepP day fx s p).bad with
      | false => rfl
      | true =>
        have := stepL_bad (day := day) (fx := fx) (l := l) hq
        change (stepL day fx l (stepP day fx s p)).bad = false at h
        rw [this] at h; cases h
    have h1' : (stepP day fx s' (negP p)).bad = false := by
      cases hq : (stepP day fx s' (negP p)).bad with
      | false => rfl
      | true =>
        have := stepL_bad (day := day) (fx := fx) (l := l.map negP) hq
        change (stepL day fx (l.map negP) (stepP day fx s' (negP p))).bad = false at h'
        rw [this] at h'; cases h'
    exact ih (fun q hq => hb q (List.mem_cons_of_mem _ hq)) (stepP_opp (hb p (List.mem_cons_self ..)) ho h1 h1') h h'
end
end Go.Proofs.YtmiinmndbkdjbaaGreat

/- The contract of Size; condition: the tree is less than 1000 deep. -/
namespace Go.Proofs.YtmiinmndbkdjbaaGreat
set_option linter.unusedVariables false
set_option linter.unusedSimpArgs false
open Go.RowKit
theorem size_any (e : Te) (cs : List Value) (w : World) (hR : RepT w [] e cs) (hk : e.rk < 1000) :
    Calls Tryz.prog 66 #[.agg cs.toArray] w fun x w' => x = .returned (.tuple #[.int .i64 (if e.nd < 1000 then (e.nd : Int) else 1000), .int .i64 (if e.nd < 1000 then (e.rk : Int) else 1000)]) ∧ Below w.heap.size w w' := by
  have HS := Lib.hid (fun W hW => sizeTerm_any e.rk e (Nat.le_refl _) cs 0 W (hR.kept hW) (by omega) (by omega))
  have HT := Lib.hid (fun x d (h : St e.nd e.rk x d) => h.told hk)
  obtain ⟨op, nm, ex, te, a, len, cap, a2, len2, cap2, rfl, rfl, _, _, _, _⟩ := hR.inv
  have hk0 := Lib.hid (Kept.alloc w (.cells #[.int .i64 op, .string nm, .slice a len cap, .slice a2 len2 cap2] 41) [])
  have HW0 := Lib.hid ((Below.refl w.heap.size w).alloc (Nat.le_refl _) (.cells #[.int .i64 op, .string nm, .slice a len cap, .slice a2 len2 cap2] 41))
  generalize (Te.mk op nm ex te).nd = ND at *
  generalize (Te.mk op nm ex te).rk = RK at *
  generalize (if ND < 1000 then (ND : Int) else 1000) = U at *
  generalize (if ND < 1000 then (RK : Int) else 1000) = V at *
  clear hR hk
  go_enter Tryz.func66, Tryz.ntmps66
  go_wp2_with fail
  refine (HS.out _ hk0.out).mono ?_; rintro x w1 ⟨hx, b1⟩
  obtain ⟨x, d, rfl, hst⟩ := hx.st
  have E := Lib.hid (HT.out x d hst)
  clear hst hx
  go_wp2_with fail
  refine (told_size_any _ _ _).mono ?_; rintro x w2 ⟨rfl, b2⟩
  rw [E.out.1, E.out.2]
  go_wp2
  go_ret2
  exact ⟨rfl, (HW0.out.trans (b1.mono HW0.out.size)).trans (b2.mono (HW0.out.trans (b1.mono HW0.out.size)).size)⟩
end Go.Proofs.YtmiinmndbkdjbaaGreat
