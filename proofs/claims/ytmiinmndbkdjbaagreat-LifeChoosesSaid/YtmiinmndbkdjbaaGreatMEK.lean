/- A part of the proof: LiW, LiT, LiU, LiN, Fts, LiS, SizeN, one behind another. -/
import Derived.Test.YtmiinmndbkdjbaaGreatMEA
import Derived.Test.YtmiinmndbkdjbaaGreatMEC
import Derived.Test.YtmiinmndbkdjbaaGreatMED
import Derived.Test.YtmiinmndbkdjbaaGreatMEF
import Derived.Test.YtmiinmndbkdjbaaGreatMEJ
import Derived.Deep.DeepCutAuto
import Derived.LoopTactic
import Derived.Deep.CutBlock
import Derived.BigQuiet
import Derived.Deep.QuietTactic
import Derived.Lib.Hide
import Derived.WalkKit
set_option maxRecDepth 100000
set_option maxHeartbeats 16000000
set_option linter.unusedVariables false
set_option linter.unusedSimpArgs false
namespace Go.Proofs.YtmiinmndbkdjbaaGreat
open Go.RowKit
section
theorem blk7 {w : World} {g : Nat} {t : TypeId} {a b c d e f h : Value} (H : Mem.Blk w g t #[a,b,c,d,e,f,h]) : w.cell? ⟨g,0,none⟩=some a/\w.cell? ⟨g,1,none⟩=some b/\w.cell? ⟨g,2,none⟩=some c/\w.cell? ⟨g,3,none⟩=some d/\w.cell? ⟨g,4,none⟩=some e/\w.cell? ⟨g,5,none⟩=some f/\w.cell? ⟨g,6,none⟩=some h :=
 ⟨H.cell 0,H.cell 1,H.cell 2,H.cell 3,H.cell 4,H.cell 5,H.cell 6⟩
theorem frz7 {w : World} {g : Nat} {t : TypeId} {a b c d e f h : Value} (H : Mem.Blk w g t #[a,b,c,d,e,f,h]) : w.frozen? ⟨g,0,none⟩=false/\w.frozen? ⟨g,1,none⟩=false/\w.frozen? ⟨g,2,none⟩=false/\w.frozen? ⟨g,3,none⟩=false/\w.frozen? ⟨g,4,none⟩=false/\w.frozen? ⟨g,5,none⟩=false/\w.frozen? ⟨g,6,none⟩=false :=
 ⟨H.frozen 0,H.frozen 1,H.frozen 2,H.frozen 3,H.frozen 4,H.frozen 5,H.frozen 6⟩
theorem partWith_any (f : Int) (tn : Bool) (ua : Option Addr) (ul uc : Nat) (o o' : Int) (s s' : ByteArray) (x y x' y' : Option Addr) (xl xc yl yc xl' xc' yl' yc' : Nat) (w : World) :
 Calls Tryz.prog 39 #[.agg #[.int .i64 f,.bool tn,.slice ua ul uc,.int .i64 o,.string s,.slice x xl xc,.slice y yl yc],.agg #[.int .i64 o',.string s',.slice x' xl' xc',.slice y' yl' yc']] w fun e w' =>
  e=.returned (.agg #[.int .i64 f,.bool tn,.slice ua ul uc,.int .i64 o',.string s',.slice x' xl' xc',.slice y' yl' yc'])/\Below w.heap.size w w' := by
 have h1 := (((Sep.nil w).new 88 #[.int .i64 f,.bool tn,.slice ua ul uc,.int .i64 o,.string s,.slice x xl xc,.slice y yl yc]).new 41 #[.int .i64 o',.string s',.slice x' xl' xc',.slice y' yl' yc']).new 88 #[.int .i64 0,.bool false,.slice none 0 0,.int .i64 0,.string ⟨#[]⟩,.slice none 0 0,.slice none 0 0];have hb := ((((Below.refl _ w).alloc (Nat.le_refl _) (.cells #[.int .i64 f,.bool tn,.slice ua ul uc,.int .i64 o,.string s,.slice x xl xc,.slice y yl yc] 88)).alloc (by simp) (.cells #[.int .i64 o',.string s',.slice x' xl' xc',.slice y' yl' yc'] 41)).alloc (by simp; omega) (.cells #[.int .i64 0,.bool false,.slice none 0 0,.int .i64 0,.string ⟨#[]⟩,.slice none 0 0,.slice none 0 0] 88));have e1 : (w.alloc (.cells #[.int .i64 f,.bool tn,.slice ua ul uc,.int .i64 o,.string s,.slice x xl xc,.slice y yl yc] 88)).heap.size=w.heap.size + 1 := by simp
 have e2 : ((w.alloc (.cells #[.int .i64 f,.bool tn,.slice ua ul uc,.int .i64 o,.string s,.slice x xl xc,.slice y yl yc] 88)).alloc (.cells #[.int .i64 o',.string s',.slice x' xl' xc',.slice y' yl' yc'] 41)).heap.size=w.heap.size + 1 + 1 := by simp
 rw [e1,e2] at h1;have HS := LH9 h1;have HB := LH9 hb;clear h1 hb e1 e2
 go_enter Tryz.func39,Tryz.ntmps39
 go_upto_region 1 with (fail);generalize ((w.alloc (.cells #[.int .i64 f,.bool tn,.slice ua ul uc,.int .i64 o,.string s,.slice x xl xc,.slice y yl yc] 88)).alloc (.cells #[.int .i64 o',.string s',.slice x' xl' xc',.slice y' yl' yc'] 41)).alloc (.cells #[.int .i64 0,.bool false,.slice none 0 0,.int .i64 0,.string ⟨#[]⟩,.slice none 0 0,.slice none 0 0] 88)=v at *;obtain ⟨c0,c1,c2,c3,-,-,-,-⟩ := blk4 (HS.o.blk 1 rfl);obtain ⟨-,-,-,d3,d4,d5,d6⟩ := blk7 (HS.o.blk 2 rfl);obtain ⟨-,-,-,f3,f4,f5,f6⟩ := frz7 (HS.o.blk 2 rfl);have h2 := (((HS.o.store 2 rfl 3 (.int .i64 o')).store 2 rfl 4 (.string s')).store 2 rfl 5 (.slice x' xl' xc')).store 2 rfl 6 (.slice y' yl' yc');have hb2 := (((HB.o.setCell (p := ⟨w.heap.size,3,none⟩) (Nat.le_refl _) (.int .i64 o')).setCell (p := ⟨w.heap.size,4,none⟩) (Nat.le_refl _) (.string s')).setCell (p := ⟨w.heap.size,5,none⟩) (Nat.le_refl _) (.slice x' xl' xc')).setCell (p := ⟨w.heap.size,6,none⟩) (Nat.le_refl _) (.slice y' yl' yc');have HS2 := LH9 h2;have HB2 := LH9 hb2;clear h2 hb2 HS HB;go_upto_region 2 with (fail);generalize (((v.setCell ⟨w.heap.size,3,none⟩ (.int .i64 o')).setCell ⟨w.heap.size,4,none⟩ (.string s')).setCell ⟨w.heap.size,5,none⟩ (.slice x' xl' xc')).setCell ⟨w.heap.size,6,none⟩ (.slice y' yl' yc')=v2 at *;clear c0 c1 c2 c3 d3 d4 d5 d6 f3 f4 f5 f6;obtain ⟨c0,c1,c2,c3,c4,c5,c6⟩ := blk7 (HS2.o.blk 2 rfl);obtain ⟨d0,d1,d2,d3,d4,d5,d6⟩ := blk7 (HS2.o.blk 0 rfl);obtain ⟨f0,f1,f2,f3,f4,f5,f6⟩ := frz7 (HS2.o.blk 0 rfl);have h3 := (((((((HS2.o.store 0 rfl 0 (.int .i64 f)).store 0 rfl 1 (.bool tn)).store 0 rfl 2 (.slice ua ul uc)).store 0 rfl 3 (.int .i64 o')).store 0 rfl 4 (.string s')).store 0 rfl 5 (.slice x' xl' xc')).store 0 rfl 6 (.slice y' yl' yc'));have hb3 := (((((((HB2.o.setCell (p := ⟨w.heap.size + 1 + 1,0,none⟩) (by show w.heap.size<=w.heap.size + 1 + 1; omega) (.int .i64 f)).setCell (p := ⟨w.heap.size + 1 + 1,1,none⟩) (by show w.heap.size<=w.heap.size + 1 + 1; omega) (.bool tn)).setCell (p := ⟨w.heap.size + 1 + 1,2,none⟩) (by show w.heap.size<=w.heap.size + 1 + 1; omega) (.slice ua ul uc)).setCell (p := ⟨w.heap.size + 1 + 1,3,none⟩) (by show w.heap.size<=w.heap.size + 1 + 1; omega) (.int .i64 o')).setCell (p := ⟨w.heap.size + 1 + 1,4,none⟩) (by show w.heap.size<=w.heap.size + 1 + 1; omega) (.string s')).setCell (p := ⟨w.heap.size + 1 + 1,5,none⟩) (by show w.heap.size<=w.heap.size + 1 + 1; omega) (.slice x' xl' xc')).setCell (p := ⟨w.heap.size + 1 + 1,6,none⟩) (by show w.heap.size<=w.heap.size + 1 + 1; omega) (.slice y' yl' yc'));have HS3 := LH9 h3;have HB3 := LH9 hb3;clear h3 hb3 HS2 HB2;go_wp2_with fail;generalize ((((((v2.setCell ⟨w.heap.size + 1 + 1,0,none⟩ (.int .i64 f)).setCell ⟨w.heap.size + 1 + 1,1,none⟩ (.bool tn)).setCell ⟨w.heap.size + 1 + 1,2,none⟩ (.slice ua ul uc)).setCell ⟨w.heap.size + 1 + 1,3,none⟩ (.int .i64 o')).setCell ⟨w.heap.size + 1 + 1,4,none⟩ (.string s')).setCell ⟨w.heap.size + 1 + 1,5,none⟩ (.slice x' xl' xc')).setCell ⟨w.heap.size + 1 + 1,6,none⟩ (.slice y' yl' yc')=v3 at *;clear c0 c1 c2 c3 c4 c5 c6 d0 d1 d2 d3 d4 d5 d6 f0 f1 f2 f3 f4 f5 f6;obtain ⟨r0,r1,r2,r3,r4,r5,r6⟩ := blk7 (HS3.o.blk 0 rfl);refine bodyPost_ret (v := .agg #[.int .i64 f,.bool tn,.slice ua ul uc,.int .i64 o',.string s',.slice x' xl' xc',.slice y' yl' yc']) (by simp [results,Tryz.results39,go_sem,r0,r1,r2,r3,r4,r5,r6]) rfl ⟨rfl,HB3.o⟩
end
section
def orB (s : RS) (v : Vl) : RS := { s with bad := s.bad || decide (v.K=3) }
theorem runTruth_any (base rb : Nat) (day : Int) (fx : List Fx) (fa : Option Addr) (fl fc : Nat) (s : RS) (vP vF : Value) (e : Ex) (cs : List Value) (w : World) (hd : I64 day) (hJ : RunJ base rb day fx fa fl fc w s vP vF) (hR : RepE w (X3 rb vP vF) e cs) (hk : e.rk<=1000) :
 Calls Tryz.prog 53 #[.pointer (some ⟨rb,0,none⟩),.agg cs.toArray] w fun x w' => x=.returned (.bool (evalX day fx e).B)/\RunTo base rb day fx fa fl fc w w' vP vF (orB s (evalX day fx e)) vP vF/\Fr [rb] w w' := by
 have HJ := LH9 hJ;have hR0 : RepE w [] e cs := hR.less (fun b _ hm => nomatch hm);have HQ := LH9 (fun W (hW : Below w.heap.size w W) => obsEval_any day fx fa fl fc e cs W hd (hR0.kept (Kept.of_below hW [])) hk (hJ.seen.kept (Kept.of_below hW [])));obtain ⟨v,hv⟩ : ∃ v,v=evalX day fx e := ⟨_,rfl⟩;rw [<- hv] at HQ ⊢;clear hv;obtain ⟨op,no,nm,args,a,len,cap,rfl,rfl,-,-,-,-⟩ := hR0.inv;have HB0 := LH9 ((Below.refl w.heap.size w).alloc (Nat.le_refl _) (.cells #[.int .i64 op,.int .i64 no,.string nm,.slice a len cap] 74));have BX := LH9 (Mem.Blk.new w 74 #[.int .i64 op,.int .i64 no,.string nm,.slice a len cap]);have HRB : Hid (rb < w.heap.size) := hJ.lt rb (by unfold X3; simp);clear hJ hR hR0 hk
 go_enter Tryz.func53,Tryz.ntmps53
 go_upto_region 1 with (fail);generalize w.alloc (.cells _ 74)=w1 at *;obtain ⟨x0,x1,x2,x3,-,-,-,-⟩ := blk4 BX.o;have q0 : w1.cell? ⟨rb,0,none⟩=some (.int .i64 day) := ((HJ.o.below HB0.o).run.cells).cell 0;have q1 : w1.cell? ⟨rb,1,none⟩=some (.slice fa fl fc) := ((HJ.o.below HB0.o).run.cells).cell 1
 go_cut [5] (fun p W0 => ∃ z,p=.pointer (some ⟨z,0,none⟩)/\Hid (Below w.heap.size w W0)/\Hid (w.heap.size<=z)/\Hid (Mem.Blk W0 z 150 #[.int .i64 v.K,.int .i64 v.N,.bool v.B]))
 case first =>
  refine wp_region_till (S := fun W => W.cell? ⟨w.heap.size,0,none⟩=some (.int .i64 op)/\W.cell? ⟨w.heap.size,1,none⟩=some (.int .i64 no)/\W.cell? ⟨w.heap.size,2,none⟩=some (.string nm)/\W.cell? ⟨w.heap.size,3,none⟩=some (.slice a len cap)/\W.cell? ⟨rb,0,none⟩=some (.int .i64 day)/\W.cell? ⟨rb,1,none⟩=some (.slice fa fl fc)) 7 (by kernel_rfl) ?_;refine tk 0 ⟨x0,x1,x2,x3,q0,q1⟩ ?_;refine tk 1 ⟨x0,x1,x2,x3,q0,q1⟩ ?_;refine tk 2 ⟨x0,x1,x2,x3,q0,q1⟩ ?_;refine tk 3 ⟨x0,x1,x2,x3,q0,q1⟩ ?_;refine tk 4 ⟨x0,x1,x2,x3,q0,q1⟩ ?_;refine till_two (i := 5) (j := 6) (by kernel_rfl) rfl rfl (fun K' hK => ?_) (fun K' hK => ?_)
  . go_simp;have b0 : Below w1.heap.size w1 w1.drew := (Below.refl w1.heap.size w1).drew;(with_reducible refine (HQ.o _ (HB0.o.trans (b0.mono HB0.o.size))).mono ?_);rintro y w2 ⟨hy,b1⟩;unfold RetV at hy;subst hy;have bt : Below w1.heap.size w1 w2 := b0.trans (b1.mono b0.size);replace x0 := cu9 x0 bt;replace x1 := cu9 x1 bt;replace x2 := cu9 x2 bt;replace x3 := cu9 x3 bt;replace q0 := cu9 q0 bt;replace q1 := cu9 q1 bt;have HB2 := bt9 HB0 bt;refine hK _ _ ⟨x0,x1,x2,x3,q0,q1⟩ ?_;clear hK K' b0 b1 bt HB0 BX
    try simp only [Act.put,zp1,zp2,zp3,zp4,zp5,zp6]
    refine t19 6 (fun K' hK=>?_);go_simp;have bn := (Below.refl w2.heap.size w2).alloc (Nat.le_refl _) (.cells #[.int .i64 0,.int .i64 0,.bool false] 150);have BZ := LH9 (Mem.Blk.new w2 150 #[.int .i64 0,.int .i64 0,.bool false]);have HZ : Hid (w.heap.size<=w2.heap.size) := HB2.o.size;have HB3 := bt9 HB2 bn;refine hK _ _ ⟨cu9 x0 bn,cu9 x1 bn,cu9 x2 bn,cu9 x3 bn,cu9 q0 bn,cu9 q1 bn⟩ ?_;clear hK K' bn HB2 x0 x1 x2 x3 q0 q1;generalize w2.alloc (.cells _ 150)=w3 at *;generalize w2.heap.size=z at *
    exact Z7_79
  . go_simp;have bn : Below w1.heap.size w1 (w1.alloc (.cells #[.int .i64 0,.int .i64 0,.bool false] 150)).drew := ((Below.refl w1.heap.size w1).alloc (Nat.le_refl _) (.cells #[.int .i64 0,.int .i64 0,.bool false] 150)).drew;have BZ1 := LH9 (Mem.Blk.new w1 150 #[.int .i64 0,.int .i64 0,.bool false]).drew;have HZ : Hid (w.heap.size<=w1.heap.size) := HB0.o.size;have HB2 := bt9 HB0 bn;replace x0 := cu9 x0 bn;replace x1 := cu9 x1 bn;replace x2 := cu9 x2 bn;replace x3 := cu9 x3 bn;replace q0 := cu9 q0 bn;replace q1 := cu9 q1 bn;refine hK _ _ ⟨x0,x1,x2,x3,q0,q1⟩ ?_;clear hK K' bn HB0 BX;generalize (w1.alloc (.cells _ 150)).drew=w2 at *;generalize w1.heap.size=z at *
    try simp only [Act.put,zp1,zp2,zp3,zp4,zp5,zp6]
    refine t19 5 (fun K' hK=>?_);go_simp;(with_reducible refine (HQ.o _ HB2.o).mono ?_);rintro y w3 ⟨hy,b1⟩;unfold RetV at hy;subst hy;have BZ := LH9 (BZ1.o.below b1);have HB3 := bt9 HB2 b1;refine hK _ _ ⟨cu9 x0 b1,cu9 x1 b1,cu9 x2 b1,cu9 x3 b1,cu9 q0 b1,cu9 q1 b1⟩ ?_;clear hK K' b1 HB2 BZ1 x0 x1 x2 x3 q0 q1
    exact Z7_79
 obtain ⟨z,rfl,HB,HZ,BZ⟩ := hcut;obtain ⟨w2,rfl⟩ : ∃ W : World,W=wc := ⟨_,rfl⟩;have HJ2 := LH9 (HJ.o.below HB.o);have q4 : w2.cell? ⟨rb,4,none⟩=some (.bool s.bad) := HJ2.o.run.cells.cell 4;have f4 : w2.frozen? ⟨rb,4,none⟩=false := HJ2.o.run.cells.frozen 4;have HNE : Hid (z ≠ rb) := by have := HRB.o; have := HZ.o; show z ≠ rb; omega
 obtain ⟨bd,hbd⟩ : ∃ b,b=s.bad := ⟨_,rfl⟩;rw [<- hbd] at q4;have HBD := LH9 hbd;clear hbd x0 x1 x2 x3 q0 q1 HQ BX HB0 HJ
 cases v with
 | unk =>
   cases bd
   . have t0 : w2.cell? ⟨z,0,none⟩=some (.int .i64 0) := BZ.o.cell 0;have t2 : w2.cell? ⟨z,2,none⟩=some (.bool false) := BZ.o.cell 2;have BZ3 := LH9 ((Fr.setCell w2 (X := [rb]) (p := ⟨rb,4,none⟩) (by simp) (.bool false)).blk BZ.o (by simpa using HNE.o));have HS : Hid (RunTo base rb day fx fa fl fc w (w2.setCell ⟨rb,4,none⟩ (.bool false)) vP vF (orB s .unk) vP vF) := by
      have e : orB s .unk={ s with bad := false } := by unfold orB; rw [<- HBD.o]; rfl
      rw [e];exact HJ2.o.trans (HJ2.o.run.setBad false)
     have HFR := LH9 ((Fr.of_below HB.o [rb]).trans (Fr.setCell w2 (X := [rb]) (p := ⟨rb,4,none⟩) (by simp) (.bool false)));go_upto_region 3 with (fail);generalize w2.setCell ⟨rb,4,none⟩ (.bool false)=w3 at *;clear t0 t2 q4 f4;have t0 : w3.cell? ⟨z,0,none⟩=some (.int .i64 0) := BZ3.o.cell 0;exact Z7_74
   . have t0 : w2.cell? ⟨z,0,none⟩=some (.int .i64 0) := BZ.o.cell 0;have t2 : w2.cell? ⟨z,2,none⟩=some (.bool false) := BZ.o.cell 2;have BZ3 := LH9 ((Fr.setCell w2 (X := [rb]) (p := ⟨rb,4,none⟩) (by simp) (.bool true)).blk BZ.o (by simpa using HNE.o));have HS : Hid (RunTo base rb day fx fa fl fc w (w2.setCell ⟨rb,4,none⟩ (.bool true)) vP vF (orB s .unk) vP vF) := by
      have e : orB s .unk={ s with bad := true } := by unfold orB; rw [<- HBD.o]; rfl
      rw [e];exact HJ2.o.trans (HJ2.o.run.setBad true)
     have HFR := LH9 ((Fr.of_below HB.o [rb]).trans (Fr.setCell w2 (X := [rb]) (p := ⟨rb,4,none⟩) (by simp) (.bool true)));go_upto_region 3 with (fail);generalize w2.setCell ⟨rb,4,none⟩ (.bool true)=w3 at *;clear t0 t2 q4 f4;have t0 : w3.cell? ⟨z,0,none⟩=some (.int .i64 0) := BZ3.o.cell 0;exact Z7_74
 | num n =>
   cases bd
   . have t0 : w2.cell? ⟨z,0,none⟩=some (.int .i64 1) := BZ.o.cell 0;have t2 : w2.cell? ⟨z,2,none⟩=some (.bool false) := BZ.o.cell 2;have BZ3 := LH9 ((Fr.setCell w2 (X := [rb]) (p := ⟨rb,4,none⟩) (by simp) (.bool false)).blk BZ.o (by simpa using HNE.o));have HS : Hid (RunTo base rb day fx fa fl fc w (w2.setCell ⟨rb,4,none⟩ (.bool false)) vP vF (orB s (.num n)) vP vF) := by
      have e : orB s (.num n)={ s with bad := false } := by unfold orB; rw [<- HBD.o]; rfl
      rw [e];exact HJ2.o.trans (HJ2.o.run.setBad false)
     have HFR := LH9 ((Fr.of_below HB.o [rb]).trans (Fr.setCell w2 (X := [rb]) (p := ⟨rb,4,none⟩) (by simp) (.bool false)));go_upto_region 3 with (fail);generalize w2.setCell ⟨rb,4,none⟩ (.bool false)=w3 at *;clear t0 t2 q4 f4;have t0 : w3.cell? ⟨z,0,none⟩=some (.int .i64 1) := BZ3.o.cell 0;exact Z7_74
   . have t0 : w2.cell? ⟨z,0,none⟩=some (.int .i64 1) := BZ.o.cell 0;have t2 : w2.cell? ⟨z,2,none⟩=some (.bool false) := BZ.o.cell 2;have BZ3 := LH9 ((Fr.setCell w2 (X := [rb]) (p := ⟨rb,4,none⟩) (by simp) (.bool true)).blk BZ.o (by simpa using HNE.o));have HS : Hid (RunTo base rb day fx fa fl fc w (w2.setCell ⟨rb,4,none⟩ (.bool true)) vP vF (orB s (.num n)) vP vF) := by
      have e : orB s (.num n)={ s with bad := true } := by unfold orB; rw [<- HBD.o]; rfl
      rw [e];exact HJ2.o.trans (HJ2.o.run.setBad true)
     have HFR := LH9 ((Fr.of_below HB.o [rb]).trans (Fr.setCell w2 (X := [rb]) (p := ⟨rb,4,none⟩) (by simp) (.bool true)));go_upto_region 3 with (fail);generalize w2.setCell ⟨rb,4,none⟩ (.bool true)=w3 at *;clear t0 t2 q4 f4;have t0 : w3.cell? ⟨z,0,none⟩=some (.int .i64 1) := BZ3.o.cell 0;exact Z7_74
 | tru b =>
   cases bd
   . have t0 : w2.cell? ⟨z,0,none⟩=some (.int .i64 2) := BZ.o.cell 0;have t2 : w2.cell? ⟨z,2,none⟩=some (.bool b) := BZ.o.cell 2;have BZ3 := LH9 ((Fr.setCell w2 (X := [rb]) (p := ⟨rb,4,none⟩) (by simp) (.bool false)).blk BZ.o (by simpa using HNE.o));have HS : Hid (RunTo base rb day fx fa fl fc w (w2.setCell ⟨rb,4,none⟩ (.bool false)) vP vF (orB s (.tru b)) vP vF) := by
      have e : orB s (.tru b)={ s with bad := false } := by unfold orB; rw [<- HBD.o]; rfl
      rw [e];exact HJ2.o.trans (HJ2.o.run.setBad false)
     have HFR := LH9 ((Fr.of_below HB.o [rb]).trans (Fr.setCell w2 (X := [rb]) (p := ⟨rb,4,none⟩) (by simp) (.bool false)));go_upto_region 3 with (fail);generalize w2.setCell ⟨rb,4,none⟩ (.bool false)=w3 at *;exact Z7_129
   . have t0 : w2.cell? ⟨z,0,none⟩=some (.int .i64 2) := BZ.o.cell 0;have t2 : w2.cell? ⟨z,2,none⟩=some (.bool b) := BZ.o.cell 2;have BZ3 := LH9 ((Fr.setCell w2 (X := [rb]) (p := ⟨rb,4,none⟩) (by simp) (.bool true)).blk BZ.o (by simpa using HNE.o));have HS : Hid (RunTo base rb day fx fa fl fc w (w2.setCell ⟨rb,4,none⟩ (.bool true)) vP vF (orB s (.tru b)) vP vF) := by
      have e : orB s (.tru b)={ s with bad := true } := by unfold orB; rw [<- HBD.o]; rfl
      rw [e];exact HJ2.o.trans (HJ2.o.run.setBad true)
     have HFR := LH9 ((Fr.of_below HB.o [rb]).trans (Fr.setCell w2 (X := [rb]) (p := ⟨rb,4,none⟩) (by simp) (.bool true)));go_upto_region 3 with (fail);generalize w2.setCell ⟨rb,4,none⟩ (.bool true)=w3 at *;exact Z7_129
 | brk =>
   cases bd
   . exact Z7_63
   . exact Z7_63
end
section
theorem told_bad (base rb : Nat) (day : Int) (fx : List Fx) (fa : Option Addr) (fl fc : Nat) (s : RS) (vP vF : Value) (w : World) (hJ : RunJ base rb day fx fa fl fc w s vP vF) (hb : s.bad=true) :
 Calls Tryz.prog 28 #[.pointer (some ⟨rb,0,none⟩)] w fun x w' => x=.returned (.tuple #[.slice none 0 0,.slice none 0 0,.int .i64 2])/\Below w.heap.size w w' := by
 have q4 : w.cell? ⟨rb,4,none⟩=some (.bool s.bad) := hJ.cells.cell 4;rw [hb] at q4;clear hJ hb
 go_enter Tryz.func28,Tryz.ntmps28
 go_wp2_with fail;go_ret3;exact ⟨rfl,Below.refl _ _⟩
theorem told_ok (base rb : Nat) (day : Int) (fx : List Fx) (fa : Option Addr) (fl fc : Nat) (s : RS) (pa : Option Addr) (pn pc : Nat) (qa : Option Addr) (qn qc : Nat) (w : World) (hJ : RunJ base rb day fx fa fl fc w s (.slice pa pn pc) (.slice qa qn qc)) (hb : s.bad=false) :
 Calls Tryz.prog 28 #[.pointer (some ⟨rb,0,none⟩)] w fun x w' => x=.returned (.tuple #[.slice pa pn pc,.slice qa qn qc,.int .i64 0])/\Below w.heap.size w w' := by
 have q4 : w.cell? ⟨rb,4,none⟩=some (.bool s.bad) := hJ.cells.cell 4;have q2 : w.cell? ⟨rb,2,none⟩=some (.slice pa pn pc) := hJ.cells.cell 2;have q3 : w.cell? ⟨rb,3,none⟩=some (.slice qa qn qc) := hJ.cells.cell 3;rw [hb] at q4;clear hJ hb
 go_enter Tryz.func28,Tryz.ntmps28
 go_upto_region 3 with (fail);go_quiet (fail);have bq : Below w.heap.size w (w.drewN nq) := (below_drewN (Below.refl w.heap.size w) nq);have HB := LH9 bq;clear bq;generalize w.drewN nq=w2 at *;go_wp2_with fail;go_ret3;exact ⟨rfl,HB.o⟩
noncomputable def endS (day : Int) (fx : List Fx) (l : List Ex) (s : RS) : RS := l.foldl (fun s e => orB s (evalX day fx e)) s
noncomputable def endB (day : Int) (fx : List Fx) (l : List Ex) : Bool := l.any fun e => (evalX day fx e).B
theorem ended_any (base rb : Nat) (day : Int) (fx : List Fx) (fa : Option Addr) (fl fc : Nat) (s : RS) (vP vF : Value) (l : List Ex) (a : Option Addr) (len cap : Nat) (w : World) (hd : I64 day) (hJ : RunJ base rb day fx fa fl fc w s vP vF) (hR : SlR exK w (X3 rb vP vF) l a len cap) (hk : ∀ e ∈ l,e.rk<=1000) (hlen : len<=1000) :
 Calls Tryz.prog 48 #[.pointer (some ⟨rb,0,none⟩),.slice a len cap] w fun x w' => x=.returned (.bool (endB day fx l))/\RunTo base rb day fx fa fl fc w w' vP vF (endS day fx l s) vP vF := by
 have HJ := LH9 hJ.to;have HR := LH9 hR;have HL := LH9 hR.facts.1;have HK := LH9 hk;have HN := LH9 hlen;clear hJ hR hk hlen
 go_enter Tryz.func48,Tryz.ntmps48
 go_wp2_with fail
 go_loopw [5,10] (fun v i wr => ∃ (k : Nat),v=.bool (endB day fx (l.take k))/\i=.int .i64 (k : Nat)/\k<=len/\Hid (RunTo base rb day fx fa fl fc w wr vP vF (endS day fx (l.take k) s) vP vF)) (fun _ i _ => len - (intOf i).toNat)
 case atStart => exact ⟨0,rfl,rfl,Nat.zero_le _,HJ.o⟩
 case round =>
  clear HJ;rename World => w3
  obtain ⟨k,rfl,rfl,hk,HT⟩ := hrel;by_cases hlt : k < len
  . have hlt' : (k : Int) < (len : Int) := by omega
    have k0 : (0 : Int)<=(k : Int) := by omega
    have k1 : (k : Int)<=1000 := by have := HN.o; omega
    obtain ⟨b,o,x,cs,ha,-,-,hx,hRx,-,hc⟩ := (HT.o.slr HR.o).at k hlt;have hRx' : RepE w3 (X3 rb vP vF) x cs := hRx;have hkx := HK.o x (List.mem_of_getElem? hx);have htk : l.take (k + 1)=l.take k ++ [x] := by
     obtain ⟨hk',e⟩ := List.getElem?_eq_some_iff.1 hx;rw [<- List.take_append_getElem hk',e]
    have HES : Hid (endS day fx (l.take (k + 1)) s=orB (endS day fx (l.take k) s) (evalX day fx x)) := by show _=_; rw [htk]; unfold endS; rw [List.foldl_append]; rfl
    have HEB : Hid (endB day fx (l.take (k + 1))=(endB day fx (l.take k) || (evalX day fx x).B)) := by show _=_; rw [htk]; unfold endB; rw [List.any_append]; simp
    obtain ⟨op,no,nm,args,aa,al,ac,e1,e2,-,-,-,-⟩ := hRx'.inv;subst e2;have bn := below_nT w3 (.cells #[.int .i64 op,.int .i64 no,.string nm,.slice aa al ac] 74);have BX := LH9 (Mem.Blk.new w3 74 #[.int .i64 op,.int .i64 no,.string nm,.slice aa al ac]);have HT4 := LH9 (HT.o.trans (HT.o.run.below bn));have HTR := LH9 (runTruth_any base rb day fx fa fl fc (endS day fx (l.take k) s) vP vF x [.int .i64 op,.int .i64 no,.string nm,.slice aa al ac] _ hd (HT.o.run.below bn).run (hRx'.kept (Kept.of_below bn _)) hkx);obtain ⟨EB,hEB⟩ : ∃ E,E=endB day fx (l.take k) := ⟨_,rfl⟩;obtain ⟨B,hB⟩ : ∃ B,B=(evalX day fx x).B := ⟨_,rfl⟩;rw [<- hEB,<- hB] at HEB;rw [<- hB] at HTR;rw [<- hEB];have u0 : w3.cell? ⟨b,o + k * 4,none⟩=some (.int .i64 op) := hc 0 _ rfl;have u1 : w3.cell? ⟨b,o + k * 4 + 1,none⟩=some (.int .i64 no) := hc 1 _ rfl;have u2 : w3.cell? ⟨b,o + k * 4 + 2,none⟩=some (.string nm) := hc 2 _ rfl;have u3 : w3.cell? ⟨b,o + k * 4 + 3,none⟩=some (.slice aa al ac) := hc 3 _ rfl;have HA := LH9 ha;subst ha;have HLT := LH9 hlt;clear hRx hRx' hkx htk hx hc e1 hEB hB hlt bn HT;go_upto_region 5 with (fail);generalize w3.alloc (.cells _ 74)=w4 at *;generalize w3.heap.size=z at *;clear u0 u1 u2 u3;obtain ⟨c0,c1,c2,c3,-,-,-,-⟩ := blk4 BX.o;go_wp2_with fail;go_at_call 53;(with_reducible refine HTR.o.mono ?_);rintro y w5 ⟨rfl,ht,-⟩;have HT5 : Hid (RunTo base rb day fx fa fl fc w w5 vP vF (endS day fx (l.take (k + 1)) s) vP vF) := by
     have := HT4.o.trans ht;rw [<- HES.o] at this;exact this
    clear ht HTR HT4 c0 c1 c2 c3 HES
    cases B
    . rw [Bool.or_false] at HEB;rw [<- HEB.o];go_wp2_with fail;go_roundw
      case rel => exact ⟨k + 1,rfl,by go_num,by have := HLT.o; omega,HT5.o⟩
      case measure => simp [intOf]; have := HLT.o; omega
    . rw [Bool.or_true] at HEB;go_wp2_with fail;go_roundw
      case rel => exact ⟨k + 1,by rw [HEB.o],by go_num,by have := HLT.o; omega,HT5.o⟩
      case measure => simp [intOf]; have := HLT.o; omega
  . have hlt' : ¬ (k : Int) < (len : Int) := by omega
    obtain rfl : k=len := by omega
    rw [List.take_of_length_le (by rw [HL.o]; omega)] at HT ⊢;clear hlt;go_wp2_with fail;go_ret;exact ⟨rfl,HT.o⟩
end
section
theorem nd_kids {t : Te} (hb : bT t=true) : (t.op=4->(t0 t).nd + (t1 t).nd + 1<=t.nd)/\(t.op=3\/t.op=6\/t.op=7\/t.op=8->(t0 t).nd + 1<=t.nd)/\1<=t.nd := by
 obtain ⟨k1,k2,-⟩ := te_kids hb;obtain ⟨op,nm,x,l⟩ := t;have e : (Te.mk op nm x l).nd=1 + Ex.nd.go x + Te.nd.go l := rfl;refine ⟨fun h => ?_,fun h => ?_,by omega⟩
 . have k := k2 (.inl h);change l=_ at k;have g : Te.nd.go l=(t0 (Te.mk op nm x l)).nd + ((t1 (Te.mk op nm x l)).nd + 0) := by
    conv => lhs; rw [k]
    rfl
   omega
 . have k := k1 (by rcases h with h | h | h | h <;> simp [h]);change l=_ at k;have g : Te.nd.go l=(t0 (Te.mk op nm x l)).nd + 0 := by
    conv => lhs; rw [k]
    rfl
   omega
def LenB (n : Nat) (s s' : RS) : Prop := s'.ps.length<=s.ps.length + n/\s'.fs.length<=s.fs.length + n
theorem LenB.refl (n : Nat) (s : RS) : LenB n s s := ⟨Nat.le_add_right _ _,Nat.le_add_right _ _⟩
theorem LenB.trans {n m k : Nat} {a b c : RS} (h : LenB n a b) (g : LenB m b c) (e : n + m<=k) : LenB k a c := by
 obtain ⟨h1,h2⟩ := h;obtain ⟨g1,g2⟩ := g;exact ⟨by omega,by omega⟩
theorem LenB.up {n k : Nat} {a b : RS} (h : LenB n a b) (e : n<=k) : LenB k a b := ⟨by have := h.1; omega,by have := h.2; omega⟩
theorem LenB.part {n : Nat} (s : RS) (p : Prt) (h : 1<=n) : LenB n s { s with ps := s.ps ++ [p] } := ⟨by show (s.ps ++ [p]).length<=_; rw [List.length_append]; simp; omega,Nat.le_add_right _ _⟩
theorem LenB.flow {n : Nat} (s : RS) (p : Flw) (h : 1<=n) : LenB n s { s with fs := s.fs ++ [p] } := ⟨Nat.le_add_right _ _,by show (s.fs ++ [p]).length<=_; rw [List.length_append]; simp; omega⟩
theorem acq_len (day : Int) (fx : List Fx) : ∀ (r : Nat) (t : Te),t.rk<=r->bT t=true->∀ (f : Int) (tn : Bool) (un : List Ex) (s : RS),LenB t.nd s (acq day fx t f tn un s) := by
 intro r
 induction r with
 | zero =>
   intro t hr hb;exact Z7_100
 | succ r ih =>
   intro t hr hb f tn un s;obtain ⟨k1,k2,-⟩ := te_kids hb;obtain ⟨n1,n2,n3⟩ := nd_kids hb;have i0 : (t.op=3\/t.op=6\/t.op=7\/t.op=8\/t.op=4)->∀ (f : Int) (tn : Bool) (un : List Ex) (s : RS),LenB (t0 t).nd s (acq day fx (t0 t) f tn un s) := fun h => by
    have hm : t0 t ∈ t.terms := by
     by_cases h' : t.op=4\/t.op=5
     . rw [k2 h']; exact List.mem_cons_self ..
     . rw [k1 (by omega)]; exact List.mem_cons_self ..
    exact ih _ (by have := rk_kid hm; omega) (bT_kid hb hm)
   have i1 : t.op=4->∀ (f : Int) (tn : Bool) (un : List Ex) (s : RS),LenB (t1 t).nd s (acq day fx (t1 t) f tn un s) := fun h => by
    have hm : t1 t ∈ t.terms := by rw [k2 (.inl h)]; exact List.mem_cons_of_mem _ (List.mem_cons_self ..)
    exact ih _ (by have := rk_kid hm; omega) (bT_kid hb hm)
   rw [acq_eq day fx hb,acqB]
   split
   . exact LenB.refl _ _
   split
   . split
     . exact LenB.refl _ _
     . exact LenB.flow _ _ n3
   split
   . rename_i h3
     exact (i0 (by omega) _ _ _ { s with bad := !(fitB (fitI (-f))) }).up (by have := n2 (by omega); omega)
   split
   . rename_i h4
     exact (i0 (by omega) _ _ _ s).trans (i1 h4 _ _ _ _) (by have := n1 h4; omega)
   split
   . rename_i h8
     split
     . exact LenB.refl t.nd s
     split
     . exact LenB.refl _ _
     . exact (i0 (by omega) _ _ _ s).up (by have := n2 (by omega); omega)
   split
   . rename_i h6
     unfold waitW
     split
     . exact LenB.refl t.nd s
     split
     . exact (i0 (by omega) _ _ _ { s with bad := !(fitB (fitI (f * (evalX day fx (x0 t)).N))) }).up (by have := n2 (by omega); omega)
     split
     . exact (i0 (by omega) _ _ _ s).up (by have := n2 (by omega); omega)
     . exact LenB.part _ _ n3
   split
   . exact LenB.part _ _ n3
   . exact LenB.refl _ _
end
section
theorem needs_any (op : Int) (v1 v2 v3 : Value) (w : World) : Calls Tryz.prog 84 #[.agg #[.int .i64 op,v1,v2,v3]] w fun e w' => e=.returned (.int .i64 (needT op))/\Below w.heap.size w w' := by
 have HN : Hid (needT op=if op=6 then 1 else 2) := rfl;by_cases h6 : op=6
 . subst h6;rw [show needT 6=1 from rfl];exact Z7_158
 . rw [HN.o,if_neg h6];have h6' : (op == 6)=false := beq_eq_false_iff_ne.2 h6;exact Z7_158
theorem fitT_noX {op : Int} {nm : ByteArray} {x : List Ex} {l : List Te} {j : Nat} {c : Ex} (h : x[j]?=some c) (hne : kE c ≠ needT op) : fitT (.mk op nm x l)=false := by
 rw [fitT];have : (x.all fun e => decide (kE e=needT op))=false := by
  rw [List.all_eq_false]; exact ⟨c,List.mem_of_getElem? h,by simpa using hne⟩
 rw [this]; rfl
theorem fitT_noT {op : Int} {nm : ByteArray} {x : List Ex} {l : List Te} {j : Nat} {c : Te} (h : l[j]?=some c) (hne : fitT c=false) : fitT (.mk op nm x l)=false := by
 rw [fitT,fitT_go];have : l.all fitT=false := by
  rw [List.all_eq_false]; exact ⟨c,List.mem_of_getElem? h,by simp [hne]⟩
 rw [this,Bool.and_false]
theorem fitT_yes {op : Int} {nm : ByteArray} {x : List Ex} {l : List Te} (h1 : ∀ (j : Nat) c,x[j]?=some c->kE c=needT op) (h2 : ∀ (j : Nat) c,l[j]?=some c->fitT c=true) : fitT (.mk op nm x l)=true := by
 rw [fitT,fitT_go,Bool.and_eq_true,List.all_eq_true,List.all_eq_true]
 constructor
 . intro c hc;obtain ⟨j,hj⟩ := List.getElem?_of_mem hc
   simpa using h1 j c hj
 . intro c hc;obtain ⟨j,hj⟩ := List.getElem?_of_mem hc;exact h2 j c hj
theorem fits_any : ∀ (r : Nat) (e : Te),e.rk<=r->bT e=true->∀ (cs : List Value) (w : World),RepT w [] e cs ->
 Calls Tryz.prog 51 #[.agg cs.toArray] w fun x w' => x=.returned (.bool (fitT e))/\Below w.heap.size w w' := by
 intro r
 induction r with
 | zero => intro e h; have := e.rk_pos; omega
 | succ r ih =>
   intro e hr hb cs w hR;obtain ⟨op,nm,exprs,terms,a,len,cap,a2,len2,cap2,rfl,rfl,i1,i3,hS,hS2⟩ := hR.inv;obtain ⟨-,-,-,g4,g5⟩ := bT_inv hb;obtain ⟨f1,f2,f3⟩ := hS.facts;obtain ⟨f4,f5,f6⟩ := hS2.facts;have HI : Hid (∀ (k : Nat) e1,terms[k]?=some e1->∀ cs1 W,RepT W [] e1 cs1->Calls Tryz.prog 51 #[.agg cs1.toArray] W fun x w' => x=.returned (.bool (fitT e1))/\Below W.heap.size W w') := by
    exact Z7_147
   have HK : Hid (∀ (k : Nat) e1,exprs[k]?=some e1->∀ cs1 W,RepE W [] e1 cs1->Calls Tryz.prog 83 #[.agg cs1.toArray] W fun x w' => x=.returned (.int .i64 (kE e1))/\Below W.heap.size W w') := by
    intro k e1 hk cs1 W hR1;exact kind_any e1.rk e1 (Nat.le_refl _) (g4 e1 (List.mem_of_getElem? hk)) cs1 W hR1
   have HNX := LH9 (fun (j : Nat) c (h : exprs[j]?=some c) (hne : kE c ≠ needT op) => fitT_noX (nm := nm) (l := terms) h hne);have HNT := LH9 (fun (j : Nat) c (h : terms[j]?=some c) (hne : fitT c=false) => fitT_noT (op := op) (nm := nm) (x := exprs) h hne);have HY := LH9 (fun (h1 : ∀ (j : Nat) c,exprs[j]?=some c->kE c=needT op) (h2 : ∀ (j : Nat) c,terms[j]?=some c->fitT c=true) => fitT_yes (nm := nm) h1 h2);have HN := LH9 (fun W => needs_any op (.string nm) (.slice a len cap) (.slice a2 len2 cap2) W);have HB0 := LH9 ((Below.refl w.heap.size w).alloc (Nat.le_refl _) (.cells #[.int .i64 op,.string nm,.slice a len cap,.slice a2 len2 cap2] 41));have BX := LH9 (Mem.Blk.new w 41 #[.int .i64 op,.string nm,.slice a len cap,.slice a2 len2 cap2]);have HSS := LH9 (hS.kept (Kept.of_below HB0.o []));have HST := LH9 (hS2.kept (Kept.of_below HB0.o []));have HL := LH9 f1;have HL2 := LH9 f4;clear ih hr hR hS hS2 i1 i3 f1 f4 g4 g5 hb;generalize fitT (.mk op nm exprs terms)=R at *;generalize needT op=nd at *
   go_enter Tryz.func51,Tryz.ntmps51
   go_upto_region 1 with (fail);generalize w.alloc (.cells _ 41)=v at *;obtain ⟨c0,c1,c2,c3,-,-,-,-⟩ := blk4 BX.o;go_wp2_with fail
   go_loopw [10] (fun i wr => ∃ k : Nat,i=.int .i64 (k : Nat)/\k<=len/\Hid (Below v.heap.size v wr)/\Hid (∀ (j : Nat) x,j < k->exprs[j]?=some x->kE x=nd)) (fun i _ => len - (intOf i).toNat)
   case atStart => exact ⟨0,rfl,Nat.zero_le _,Below.refl _ _,fun j x h => by omega⟩
   case round =>
    obtain ⟨k,rfl,hk,HB,HP⟩ := hrel;have t0 := cu9 c0 HB.o;have t1 := cu9 c1 HB.o;have t2 := cu9 c2 HB.o;have t3 := cu9 c3 HB.o;clear c0 c1 c2 c3;by_cases hlt : k < len
    . obtain ⟨b,o,cop,cn,cnm,cargs,ca,clen,ccap,rfl,-,-,hxe,j1,j2,j3,hSc,v0,v1,v2,v3⟩ := (HSS.o.kept (Kept.of_below HB.o [])).at k hlt;have j1' : (k : Int) < (len : Int) := by omega
      have j0' : (0 : Int)<=(k : Int) := by omega
      have HXE := LH9 hxe;have HSC := LH9 (RepE.mk' j1 j2 j3 hSc);clear hxe j1 j2 j3 hSc;go_upto_region 4 with (fail);have hfa := (Below.refl wr.heap.size wr).alloc (Nat.le_refl _) (.cells #[.int .i64 cop,.int .i64 cn,.string cnm,.slice ca clen ccap] 74);have BV := LH9 (Mem.Blk.new wr 74 #[.int .i64 cop,.int .i64 cn,.string cnm,.slice ca clen ccap]);have HV := bt9 HB hfa;have HC := LH9 (fun W (hW : Below wr.heap.size wr W) => HK.o k _ HXE.o _ _ (HSC.o.kept (Kept.of_below hW [])));have HFA := LH9 hfa;have t0' := cu9 t0 hfa;have t1' := cu9 t1 hfa;have t2' := cu9 t2 hfa;have t3' := cu9 t3 hfa;clear hfa HB HSC v0 v1 v2 v3 t0 t1 t2 t3;generalize wr.alloc (.cells _ 74)=v4 at *;obtain ⟨u0,u1,u2,u3,-,-,-,-⟩ := blk4 BV.o;have HX2 : Hid (∀ x,exprs[k]?=some x->kE x=kE (Ex.mk cop cn cnm cargs)) := fun x hx => by rw [HXE.o] at hx; injection hx with hx; rw [hx]
      have HX3 : Hid (kE (Ex.mk cop cn cnm cargs) ≠ nd->R=false) := fun h => HNX.o k _ HXE.o h
      generalize kE (Ex.mk cop cn cnm cargs)=kc at *;go_wp2_with fail;refine wp_region_till (S := fun W => Below wr.heap.size wr W/\Below v4.heap.size v4 W/\(W.cell? ⟨wr.heap.size,0,none⟩=some (.int .i64 cop)/\W.cell? ⟨wr.heap.size,1,none⟩=some (.int .i64 cn)/\W.cell? ⟨wr.heap.size,2,none⟩=some (.string cnm)/\W.cell? ⟨wr.heap.size,3,none⟩=some (.slice ca clen ccap)) /\
       W.cell? ⟨w.heap.size,0,none⟩=some (.int .i64 op)/\W.cell? ⟨w.heap.size,1,none⟩=some (.string nm)/\W.cell? ⟨w.heap.size,2,none⟩=some (.slice (some ⟨b,o,none⟩) len cap)/\W.cell? ⟨w.heap.size,3,none⟩=some (.slice a2 len2 cap2)) 4 (by kernel_rfl) ?_
      have D1 := HFA.o.drew;have D2 := (Below.refl v4.heap.size v4).drew;refine tk 0 ⟨D1,D2,⟨u0,u1,u2,u3⟩,t0',t1',t2',t3'⟩ ?_;refine tk 2 ⟨D1,D2,⟨u0,u1,u2,u3⟩,t0',t1',t2',t3'⟩ ?_;refine t19 1 (fun K' hK=>?_);go_simp;go_at_call 83;(with_reducible refine (HC.o _ HFA.o.drew).mono ?_);rintro y w1 ⟨rfl,bb⟩;have hb1 := HFA.o.drew.trans (bb.mono HFA.o.drew.size);have hb2 := ((Below.refl v4.heap.size v4).drew).trans (bb.mono ((Below.refl v4.heap.size v4).drew).size);refine hK _ _ ⟨hb1,hb2,⟨cu9 (w := v4.drew) u0 bb,cu9 (w := v4.drew) u1 bb,cu9 (w := v4.drew) u2 bb,cu9 (w := v4.drew) u3 bb⟩,cu9 (w := v4.drew) t0' bb,cu9 (w := v4.drew) t1' bb,cu9 (w := v4.drew) t2' bb,cu9 (w := v4.drew) t3' bb⟩ ?_;have HB2 := LH9 hb2;clear hK K' bb hb1 hb2
      try simp only [Act.put,zp1,zp2,zp3,zp4,zp5,zp6]
      refine t19 3 (fun K' hK=>?_);go_simp;go_at_call 84;(with_reducible refine (HN.o _).mono ?_);rintro y w2 ⟨rfl,bb⟩;have hb3 := HB2.o.trans (bb.mono HB2.o.size);have hv3 := HV.o.trans (hb3.mono HV.o.size);refine hK _ _ ⟨HFA.o.trans (hb3.mono HFA.o.size),hb3,⟨cu9 u0 hb3,cu9 u1 hb3,cu9 u2 hb3,cu9 u3 hb3⟩,cu9 t0' hb3,cu9 t1' hb3,cu9 t2' hb3,cu9 t3' hb3⟩ ?_;have HV3 := LH9 hv3;clear hK K' bb hb3 hv3 HB2 D1 D2
      try simp only [Act.put,zp1,zp2,zp3,zp4,zp5,zp6]
      refine tl9 (fun K' hK=>?_);go_simp;refine hK _ _ ?_;clear hK K';refine wd9 ?_;clear HC HFA BV HV u0 u1 u2 u3 t0' t1' t2' t3';by_cases hkc : kc=nd
      . subst hkc;have FIN : Hid (∀ (j : Nat) x,j < k + 1->exprs[j]?=some x->kE x=kc) := fun j x hj hx => by
         rcases Nat.eq_or_lt_of_le (Nat.le_of_lt_succ hj) with rfl | h
         . exact HX2.o x hx
         . exact HP.o j x h hx
        clear HX2 HX3 HP HXE;go_wp2_with fail;go_roundw
        case rel => exact ⟨k + 1,by go_num,by omega,HV3.o,FIN.o⟩
        case measure => simp [intOf]; omega
      . obtain rfl := HX3.o hkc;have hkc' : (kc == nd)=false := beq_eq_false_iff_ne.2 hkc;have HF := bu9 HB0 HV3;clear HX2 HX3 HP HXE;go_wp2_with fail;go_ret;exact ⟨rfl,HF.o⟩
    . have hk' : ¬ (k : Int) < (len : Int) := by omega
      have HPX : Hid (∀ (j : Nat) x,exprs[j]?=some x->kE x=nd) := fun j x hx => HP.o j x (by have h1 := (List.getElem?_eq_some_iff.1 hx).1; have h2 := HL.o; omega) hx
      clear HP HK HN HNX HL HSS;go_wp2_with fail
      go_loopw [23] (fun i w2 => ∃ m : Nat,i=.int .i64 (m : Nat)/\m<=len2/\Hid (Below v.heap.size v w2)/\Hid (∀ (j : Nat) x,j < m->terms[j]?=some x->fitT x=true)) (fun i _ => len2 - (intOf i).toNat)
      case atStart => exact ⟨0,rfl,Nat.zero_le _,HB.o,fun j x h => by omega⟩
      case round =>
       clear HB t0 t1 t2 t3;obtain ⟨m,rfl,hm,HB,HP⟩ := hrel;by_cases hlt2 : m < len2
       . obtain ⟨b,o,cop,cnm,cex,cte,ca,clen,ccap,ca2,clen2,ccap2,rfl,-,-,hxe,j1,j3,hSc,hSc2,v0,v1,v2,v3⟩ := (HST.o.kept (Kept.of_below HB.o [])).at m hlt2;have j1' : (m : Int) < (len2 : Int) := by omega
         have j0' : (0 : Int)<=(m : Int) := by omega
         have HXE := LH9 hxe;have HSC := LH9 (RepT.mk' j1 j3 hSc hSc2);clear hxe j1 j3 hSc hSc2;go_upto_region 10 with (fail);have hfa := (Below.refl wr.heap.size wr).alloc (Nat.le_refl _) (.cells #[.int .i64 cop,.string cnm,.slice ca clen ccap,.slice ca2 clen2 ccap2] 41);have BV := LH9 (Mem.Blk.new wr 41 #[.int .i64 cop,.string cnm,.slice ca clen ccap,.slice ca2 clen2 ccap2]);have HV := bt9 HB hfa;have HC := LH9 (HI.o m _ HXE.o _ _ (HSC.o.kept (Kept.of_below hfa [])));clear hfa HB HSC v0 v1 v2 v3;generalize wr.alloc (.cells _ 41)=v4 at *;obtain ⟨u0,u1,u2,u3,-,-,-,-⟩ := blk4 BV.o;have HX2 : Hid (∀ x,terms[m]?=some x->fitT x=fitT (Te.mk cop cnm cex cte)) := fun x hx => by rw [HXE.o] at hx; injection hx with hx; rw [hx]
         have HX3 : Hid (fitT (Te.mk cop cnm cex cte)=false->R=false) := fun h => HNT.o m _ HXE.o h
         generalize fitT (Te.mk cop cnm cex cte)=kc at *
         cases kc
         . obtain rfl := HX3.o rfl;go_wp2_with fail;go_at_call 51;(with_reducible refine HC.o.mono ?_);rintro y w3 ⟨rfl,bb⟩;have HF := LH9 (HB0.o.trans ((HV.o.trans (bb.mono HV.o.size)).mono HB0.o.size));clear bb HC HV BV HX2 HX3 HP;go_wp2_with fail;go_ret;exact ⟨rfl,HF.o⟩
         . have FIN : Hid (∀ (j : Nat) x,j < m + 1->terms[j]?=some x->fitT x=true) := fun j x hj hx => by
            rcases Nat.eq_or_lt_of_le (Nat.le_of_lt_succ hj) with rfl | h
            . exact HX2.o x hx
            . exact HP.o j x h hx
           go_wp2_with fail;go_at_call 51;(with_reducible refine HC.o.mono ?_);rintro y w3 ⟨rfl,bb⟩;have HF := bt9 HV bb;clear bb HC HV BV HX2 HX3 HP;go_wp2_with fail;go_roundw
           case rel => exact ⟨m + 1,by go_num,by omega,HF.o,FIN.o⟩
           case measure => simp [intOf]; omega
       . have hm' : ¬ (m : Int) < (len2 : Int) := by omega
         have hR := HY.o HPX.o (fun j x hx => HP.o j x (by have h1 := (List.getElem?_eq_some_iff.1 hx).1; have h2 := HL2.o; omega) hx);have HF := bu9 HB0 HB;clear HP HPX HY HNT;subst hR;go_wp2_with fail;go_ret;exact ⟨rfl,HF.o⟩
def fitC (e : Te) : Int := if rT e then (if fitT e then 0 else 12) else 1
theorem fitsX_any (e : Te) (cs : List Value) (w : World) (hR : RepT w [] e cs) (hk : e.rk < 1000) :
 Calls Tryz.prog 26 #[.agg cs.toArray] w fun x w' => x=.returned (.int .i64 (fitC e))/\Below w.heap.size w w' := by
 have HI : Hid (fitC e=if rT e then (if fitT e then 0 else 12) else 1) := rfl;have HB := LH9 (show rT e=true->bT e=true from fun h => by unfold rT at h; rw [Bool.and_eq_true] at h; exact h.2);have HC := LH9 (fun W (hW : Below w.heap.size w W) => right_any e cs W (hR.kept (Kept.of_below hW [])) (by omega));have HK := LH9 (fun W (hW : Below w.heap.size w W) (hb : bT e=true) => fits_any e.rk e (Nat.le_refl _) hb cs W (hR.kept (Kept.of_below hW [])));obtain ⟨op,nm,exprs,terms,a,len,cap,a2,len2,cap2,rfl,rfl,i1,i3,hS,hS2⟩ := hR.inv;have HB0 := LH9 ((Below.refl w.heap.size w).alloc (Nat.le_refl _) (.cells #[.int .i64 op,.string nm,.slice a len cap,.slice a2 len2 cap2] 41));have BX := LH9 (Mem.Blk.new w 41 #[.int .i64 op,.string nm,.slice a len cap,.slice a2 len2 cap2]);clear i1 i3 hS hS2 hR hk;generalize (Te.mk op nm exprs terms)=e at *
 cases hr : rT e with
 | true =>
   have hb := HB.o hr;have HK := LH9 (fun W hW => HK.o W hW hb);rw [hr,if_pos rfl] at HI;rw [hr] at HC;rw [HI.o];clear hr hb HB HI
   cases hf : fitT e with
   | true =>
     rw [hf] at HK;rw [if_pos rfl];exact Z7_75
   | false =>
     rw [hf] at HK;rw [if_neg (by decide)];exact Z7_75
 | false =>
   rw [hr] at HC HI;rw [if_neg (by decide)] at HI;rw [HI.o];clear hr HB HI HK
   go_enter Tryz.func26,Tryz.ntmps26
   go_upto_region 1 with (fail);generalize w.alloc (.cells _ 41)=v at *;obtain ⟨c0,c1,c2,c3,-,-,-,-⟩ := blk4 BX.o;go_wp2_with fail;go_at_call 50;(with_reducible refine (HC.o _ HB0.o).mono ?_);rintro y w1 ⟨rfl,b1⟩;have HB1 := bt9 HB0 b1;have c0' := cu9 c0 b1;have c1' := cu9 c1 b1;have c2' := cu9 c2 b1;have c3' := cu9 c3 b1;clear c0 c1 c2 c3;go_wp2_with fail;go_ret;exact ⟨rfl,HB1.o⟩
end
section
noncomputable def stepP (day : Int) (fx : List Fx) (s : RS) (p : Prt) : RS :=
 if endB day fx p.til=true\/(endS day fx p.til s).bad=true then endS day fx p.til s
 else if p.term.op=6\/p.term.op=7 then waitW (acq day fx) (evalX day fx (x0 p.term)) p.term p.factor p.turned p.til (endS day fx p.til s)
 else { endS day fx p.til s with ps := (endS day fx p.til s).ps ++ [p] }
noncomputable def stepL (day : Int) (fx : List Fx) (l : List Prt) (s : RS) : RS := l.foldl (stepP day fx) s
def ndL : List Prt->Nat
 | [] => 0
 | p :: t => p.term.nd + ndL t
theorem ndL_append (a b : List Prt) : ndL (a ++ b)=ndL a + ndL b := by
 induction a with
 | nil => simp [ndL]
 | cons x t ih => rw [List.cons_append,ndL,ndL,ih]; omega
section
variable {day : Int} {fx : List Fx}
theorem endS_eq (l : List Ex) (s : RS) : endS day fx l s=⟨s.ps,s.fs,s.bad || l.any fun e => decide ((evalX day fx e).K=3)⟩ := by
 induction l generalizing s with
 | nil => cases s; simp [endS]
 | cons e t ih =>
   have h : endS day fx (e :: t) s=endS day fx t (orB s (evalX day fx e)) := rfl;rw [h,ih,List.any_cons,<- Bool.or_assoc]
   rfl
structure PrtOk (p : Prt) : Prop where
 op : p.term.op=5\/p.term.op=6\/p.term.op=7\/p.term.op=9
 right : rT p.term=true
 fit : fitT p.term=true
 til : ∀ e ∈ p.til,kI e=2
 len : p.til.length + p.term.rk<=16
structure Sat (day : Int) (fx : List Fx) (p : Prt) : Prop where
 til : ∀ e ∈ p.til,(evalX day fx e).K ≠ 3/\(evalX day fx e).B=false
 x6 : p.term.op=6->(evalX day fx (x0 p.term)).K ≠ 3/\(evalX day fx (x0 p.term)).K ≠ 1
 x7 : p.term.op=7->(evalX day fx (x0 p.term)).K ≠ 3/\(evalX day fx (x0 p.term)).B=false
theorem rT_get {t : Te} (h : rT t=true) : t.nd<=200/\t.rk<=16/\bT t=true := by
 exact Z7_155
theorem rT_mk9 {t : Te} (h : bT t=true) (h1 : t.nd<=200) (h2 : t.rk<=16) : rT t=true := by
 have e : rT t=(decide (t.nd<=200/\t.rk<=16) && bT t) := rfl;rw [e,Bool.and_eq_true,decide_eq_true_eq];exact ⟨⟨h1,h2⟩,h⟩
theorem nd_mem {l : List Te} {u : Te} (h : u ∈ l) : u.nd<=Te.nd.go l := by
 induction l with
 | nil => cases h
 | cons x t ih =>
   simp only [Te.nd.go];rcases List.mem_cons.1 h with rfl | h
   . omega
   . have := ih h; omega
theorem rT_kid {t u : Te} (h : rT t=true) (hu : u ∈ t.terms) : rT u=true := by
 obtain ⟨h1,h2,h3⟩ := rT_get h;have hr := rk_kid hu;refine rT_mk9 (bT_kid h3 hu) ?_ (by omega);obtain ⟨op,nm,x,l⟩ := t;have e : (Te.mk op nm x l).nd=1 + Ex.nd.go x + Te.nd.go l := rfl;have := nd_mem (l := l) hu;omega
theorem fit_kid {t u : Te} (h : fitT t=true) (hu : u ∈ t.terms) : fitT u=true := by
 obtain ⟨op,nm,x,l⟩ := t;rw [fitT,fitT_go,Bool.and_eq_true] at h;exact List.all_eq_true.1 h.2 u hu
theorem kI_kid {t : Te} {e : Ex} (h : rT t=true) (hf : fitT t=true) (hm : e ∈ t.exprs) : kI e=needT t.op := by
 obtain ⟨h1,h2,h3⟩ := rT_get h;have hr := rk_kidX hm;obtain ⟨op,nm,x,l⟩ := t;change e ∈ x at hm;rw [fitT,Bool.and_eq_true] at hf;have h4 := List.all_eq_true.1 hf.1 e hm;rw [decide_eq_true_eq] at h4;obtain ⟨-,-,-,hb,-⟩ := bT_inv h3;have h5 : e.nd<=Ex.nd.go x := by
  clear h4 hb h3 hf h1 h h2 hr
  induction x with
  | nil => cases hm
  | cons y t ih =>
    simp only [Ex.nd.go];rcases List.mem_cons.1 hm with rfl | hm
    . omega
    . have := ih hm; omega
 have e1 : (Te.mk op nm x l).nd=1 + Ex.nd.go x + Te.nd.go l := rfl;have hrE : rE e=true := by
  have e2 : rE e=(decide (e.nd<=200/\e.rk<=16) && bE e) := rfl;rw [e2,Bool.and_eq_true,decide_eq_true_eq];exact ⟨⟨by omega,by omega⟩,hb e hm⟩
 unfold kI;rw [if_pos hrE];exact h4
def Comes (day : Int) (fx : List Fx) (n : Nat) (s s' : RS) : Prop := ∃ new,s'.ps=s.ps ++ new/\(∀ p ∈ new,PrtOk p/\Sat day fx p)/\ndL new<=n
def negP (p : Prt) : Prt := { p with factor := -p.factor,turned := !p.turned }
def negF (f : Flw) : Flw := { f with amt := -f.amt }
def Opp (s s' : RS) : Prop := s'.ps=s.ps.map negP/\s'.fs=s.fs.map negF
end
end
section
theorem size_any (e : Te) (cs : List Value) (w : World) (hR : RepT w [] e cs) (hk : e.rk < 1000) :
 Calls Tryz.prog 66 #[.agg cs.toArray] w fun x w' => x=.returned (.tuple #[.int .i64 (if e.nd < 1000 then (e.nd : Int) else 1000),.int .i64 (if e.nd < 1000 then (e.rk : Int) else 1000)])/\Below w.heap.size w w' := by
 have HS := LH9 (fun W hW => sizeTerm_any e.rk e (Nat.le_refl _) cs 0 W (hR.kept hW) (by omega) (by omega));have HT := LH9 (fun x d (h : St e.nd e.rk x d) => h.told hk);obtain ⟨op,nm,ex,te,a,len,cap,a2,len2,cap2,rfl,rfl,_,_,_,_⟩ := hR.inv;have hk0 := LH9 (Kept.alloc w (.cells #[.int .i64 op,.string nm,.slice a len cap,.slice a2 len2 cap2] 41) []);have HW0 := LH9 ((Below.refl w.heap.size w).alloc (Nat.le_refl _) (.cells #[.int .i64 op,.string nm,.slice a len cap,.slice a2 len2 cap2] 41));generalize (Te.mk op nm ex te).nd=ND at *;generalize (Te.mk op nm ex te).rk=RK at *;generalize (if ND < 1000 then (ND : Int) else 1000)=U at *;generalize (if ND < 1000 then (RK : Int) else 1000)=V at *;clear hR hk
 go_enter Tryz.func66,Tryz.ntmps66
 go_wp2_with fail;refine (HS.o _ hk0.o).mono ?_; rintro x w1 ⟨hx,b1⟩;obtain ⟨x,d,rfl,hst⟩ := hx.st;have E := LH9 (HT.o x d hst);clear hst hx;go_wp2_with fail;refine (told_size_any _ _ _).mono ?_; rintro x w2 ⟨rfl,b2⟩;rw [E.o.1,E.o.2]
 go_wp2
 go_ret2;exact ⟨rfl,(HW0.o.trans (b1.mono HW0.o.size)).trans (b2.mono (HW0.o.trans (b1.mono HW0.o.size)).size)⟩
end
end Go.Proofs.YtmiinmndbkdjbaaGreat
