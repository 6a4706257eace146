/- A part of the proof: LiC, LiD, LiE, SimpA, one behind another. -/
import Derived.Test.YtmiinmndbkdjbaaGreatMTA
import Derived.Test.YtmiinmndbkdjbaaGreatMTB
import Derived.Test.YtmiinmndbkdjbaaGreatMTM
import Derived.Test.YtmiinmndbkdjbaaGreatProg
import Derived.Test.YtmiinmndbkdjbaaGreatChecked
import Derived.WalkSpells
import Derived.LoopTactic
import Derived.Lib.Hide
import Derived.WalkKit
set_option maxRecDepth 100000
set_option maxHeartbeats 16000000
set_option linter.unusedVariables false
set_option linter.unusedSimpArgs false
namespace Go.Proofs.YtmiinmndbkdjbaaGreat
open Go.RowKit
section
section
variable {day : Int} {fx : List Fx} {t : Te} {f : Int} {tn : Bool} {un : List Ex} {s : RS}
theorem acq1 (hb : bT t=true) (h : t.op=1) : acq day fx t f tn un s=s := by
 rw [acq_eq day fx hb,acqB]
 split
 · rfl
 · rw [if_neg (by omega),if_neg (by omega),if_neg (by omega),if_neg (by omega),if_neg (by omega),if_neg (by omega)]
theorem acq2z (hb : bT t=true) (h : t.op=2) (hf : f=0) : acq day fx t f tn un s=s := by
 rw [acq_eq day fx hb,acqB];by_cases hs : s.bad=true
 · rw [if_pos hs]
 · rw [if_neg hs,if_pos h,if_pos hf]
theorem acq2 (hb : bT t=true) (hs : s.bad=false) (h : t.op=2) (hf : f ≠ 0) : acq day fx t f tn un s={ s with fs := s.fs ++ [⟨t.nm,f⟩] } := by
 rw [acq_eq day fx hb,acqB,hs,if_neg (by simp),if_pos h,if_neg hf]
theorem acq3 (hb : bT t=true) (hs : s.bad=false) (h : t.op=3) : acq day fx t f tn un s=acq day fx (t0 t) (fitN (fitI (-f))) (!tn) un { s with bad := !(fitB (fitI (-f))) } := by
 rw [acq_eq day fx hb,acqB,hs,if_neg (by simp),if_neg (by omega),if_pos h]
theorem acq4 (hb : bT t=true) (hs : s.bad=false) (h : t.op=4) : acq day fx t f tn un s=acq day fx (t1 t) f tn un (acq day fx (t0 t) f tn un s) := by
 rw [acq_eq day fx hb,acqB,hs,if_neg (by simp),if_neg (by omega),if_neg (by omega),if_pos h]
theorem acq8k (hb : bT t=true) (hs : s.bad=false) (h : t.op=8) (hK : (evalX day fx (x0 t)).K=3) : acq day fx t f tn un s={ s with bad := true } := by
 rw [acq_eq day fx hb,acqB,hs,if_neg (by simp),if_neg (by omega),if_neg (by omega),if_neg (by omega),if_pos h,if_pos hK]
theorem acq8e (hb : bT t=true) (hs : s.bad=false) (h : t.op=8) (hK : (evalX day fx (x0 t)).K ≠ 3) (hB : (evalX day fx (x0 t)).B=true) : acq day fx t f tn un s=s := by
 rw [acq_eq day fx hb,acqB,hs,if_neg (by simp),if_neg (by omega),if_neg (by omega),if_neg (by omega),if_pos h,if_neg hK,if_pos hB]
theorem acq8 (hb : bT t=true) (hs : s.bad=false) (h : t.op=8) (hK : (evalX day fx (x0 t)).K ≠ 3) (hB : (evalX day fx (x0 t)).B=false) : acq day fx t f tn un s=acq day fx (t0 t) f tn (un ++ [x0 t]) s := by
 rw [acq_eq day fx hb,acqB,hs,if_neg (by simp),if_neg (by omega),if_neg (by omega),if_neg (by omega),if_pos h,if_neg hK,hB,if_neg (by simp)]
theorem acq67 (hb : bT t=true) (hs : s.bad=false) (h : t.op=6∨t.op=7) : acq day fx t f tn un s=waitW (acq day fx) (evalX day fx (x0 t)) t f tn un s := by
 rw [acq_eq day fx hb,acqB,hs,if_neg (by simp),if_neg (by omega),if_neg (by omega),if_neg (by omega),if_neg (by omega),if_pos h]
theorem acq59 (hb : bT t=true) (hs : s.bad=false) (h : t.op=5∨t.op=9) : acq day fx t f tn un s={ s with ps := s.ps ++ [⟨f,tn,un,t⟩] } := by
 rw [acq_eq day fx hb,acqB,hs,if_neg (by simp),if_neg (by omega),if_neg (by omega),if_neg (by omega),if_neg (by omega),if_neg (by omega),if_pos h]
end
theorem kid0_at {t : Te} (hb : bT t=true) (h : t.op=3∨t.op=4∨t.op=8) : t.terms[0]?=some (t0 t) := by
 obtain ⟨k1,k2,-⟩ := te_kids hb;by_cases h4 : t.op=4
 · rw [k2 (.inl h4)]; rfl
 · rw [k1 (by omega)]; rfl
theorem kid0_bd {t : Te} (hb : bT t=true) (h : t.op=3∨t.op=4∨t.op=8) : (t0 t).rk + 1≤t.rk∧(t0 t).nd + 1≤t.nd := by
 have := rk_kid (List.mem_of_getElem? (kid0_at hb h));obtain ⟨n1,n2,-⟩ := nd_kids hb;refine ⟨by omega,?_⟩;by_cases h4 : t.op=4
 · have := n1 h4; omega
 · exact n2 (by omega)
section
variable (base rb : Nat) (day : Int) (fx : List Fx) (fa : Option Addr) (fl fc : Nat) (t : Te) (f : Int) (tn : Bool) (un : List Ex) (s : RS) (vP vF : Value) (ua : Option Addr) (uc : Nat) (cs : List Value) (w : World)
theorem acq_bad_any (hJ : RunJ base rb day fx fa fl fc w s vP vF) (hT : RepT w (X3 rb vP vF) t cs) (hbad : s.bad=true) :
 Calls Tryz.prog 27 #[.pointer (some ⟨rb,0,none⟩),.agg (.int .i64 f :: .bool tn :: .slice ua un.length uc :: cs).toArray] w fun x w' => x=.returned (.tuple #[])∧∃ vP' vF',RunTo base rb day fx fa fl fc w w' vP vF (acq day fx t f tn un s) vP' vF' := by
 rw [acq_bad hbad];obtain ⟨op,nm,exprs,terms,xa,xl,xc,ta,tl,tc,e1,e2,-,hnm,hX,hL⟩ := hT.inv;subst e2;have HJ := LH9 hJ;have HBD := LH9 hbad;have HS1 := LH9 (hJ.sep.new 88 #[.int .i64 f,.bool tn,.slice ua un.length uc,.int .i64 op,.string nm,.slice xa xl xc,.slice ta tl tc]);have HN1 := LH9 (below_nT w (.cells #[.int .i64 f,.bool tn,.slice ua un.length uc,.int .i64 op,.string nm,.slice xa xl xc,.slice ta tl tc] 88));have HN2 := LH9 (HN1.o.trans ((below_nT (w.alloc (.cells #[.int .i64 f,.bool tn,.slice ua un.length uc,.int .i64 op,.string nm,.slice xa xl xc,.slice ta tl tc] 88)) (.cells #[.int .i64 op,.string nm,.slice xa xl xc,.slice ta tl tc] 41)).mono HN1.o.size));clear e1 hT hJ hX hL hnm hbad
 go_enter Tryz.func27,Tryz.ntmps27
 go_upto_region 1 with (fail)
 generalize w.alloc (.cells #[.int .i64 f,.bool tn,.slice ua un.length uc,.int .i64 op,.string nm,.slice xa xl xc,.slice ta tl tc] 88)=w1 at *;obtain ⟨c0,c1,c2,c3,c4,c5,c6⟩ := blk7 (HS1.o.blk 0 rfl)
 go_upto_region 2 with (fail)
 generalize w1.alloc (.cells #[.int .i64 op,.string nm,.slice xa xl xc,.slice ta tl tc] 41)=w2 at *;have q4 : w2.cell? ⟨rb,4,none⟩=some (.bool s.bad) := (HJ.o.below HN2.o).run.cells.cell 4;rw [HBD.o] at q4
 go_wp2_with fail
 go_end0
 exact ⟨rfl,vP,vF,HJ.o.below HN2.o⟩
variable (hd : I64 day) (hf : I64 f) (hJ : RunJ base rb day fx fa fl fc w s vP vF) (hT : RepT w (X3 rb vP vF) t cs) (hU : SlR exK w (X3 rb vP vF) un ua un.length uc) (hb : bT t=true) (hbad : s.bad=false) (hk : un.length + t.rk≤1000) (hP : s.ps.length + t.nd≤100000) (hF : s.fs.length + t.nd≤100000)
include hd hf hJ hT hU hb hbad hk hP hF
theorem acq1_any (hop : t.op=1) :
 Calls Tryz.prog 27 #[.pointer (some ⟨rb,0,none⟩),.agg (.int .i64 f :: .bool tn :: .slice ua un.length uc :: cs).toArray] w fun x w' => x=.returned (.tuple #[])∧∃ vP' vF',RunTo base rb day fx fa fl fc w w' vP vF (acq day fx t f tn un s) vP' vF' := by
 obtain ⟨op,nm,exprs,terms,xa,xl,xc,ta,tl,tc,e1,e2,-,hnm,hX,hL⟩ := hT.inv;have hoe : op=t.op := by rw [e1]; rfl
 have hne : nm=t.nm := by rw [e1]; rfl
 have hxe : exprs=t.exprs := by rw [e1]; rfl
 have hte : terms=t.terms := by rw [e1]; rfl
 have HPT : Hid (ptK.R w (X3 rb vP vF) ⟨f,tn,un,t⟩ (.int .i64 f :: .bool tn :: .slice ua un.length uc :: cs)) := ⟨ua,uc,cs,rfl,hf,hU,hT⟩;subst e2;rw [hxe] at hX;rw [hte] at hL;clear e1 hxe hte;obtain rfl : op=1 := hoe.trans hop;have HT := LH9 hT;have HU := LH9 hU;have HX := LH9 hX;have HL := LH9 hL;have HJ := LH9 hJ;have HSM := LH9 (And.intro hk (And.intro hP hF));have HFI := LH9 hf;have HBT := LH9 hb;have HNM := LH9 hnm;have HDY := LH9 hd;have HOP := LH9 hop;have HNE := LH9 hne;have HBD := LH9 hbad;have HRB : Hid (rb < w.heap.size) := hJ.lt rb (by unfold X3; simp);obtain ⟨S9,hS9⟩ : ∃ S9,S9=acq day fx t f tn un s := ⟨_,rfl⟩;rw [← hS9];have HSS := LH9 hS9;have HS1 := LH9 (hJ.sep.new 88 #[.int .i64 f,.bool tn,.slice ua un.length uc,.int .i64 1,.string nm,.slice xa xl xc,.slice ta tl tc]);have HS2 := LH9 (HS1.o.new 41 #[.int .i64 1,.string nm,.slice xa xl xc,.slice ta tl tc]);have HN1 := LH9 (below_nT w (.cells #[.int .i64 f,.bool tn,.slice ua un.length uc,.int .i64 1,.string nm,.slice xa xl xc,.slice ta tl tc] 88));have HN2 := LH9 (HN1.o.trans ((below_nT (w.alloc (.cells #[.int .i64 f,.bool tn,.slice ua un.length uc,.int .i64 1,.string nm,.slice xa xl xc,.slice ta tl tc] 88)) (.cells #[.int .i64 1,.string nm,.slice xa xl xc,.slice ta tl tc] 41)).mono HN1.o.size));have HSZ : Hid ((w.alloc (.cells #[.int .i64 f,.bool tn,.slice ua un.length uc,.int .i64 1,.string nm,.slice xa xl xc,.slice ta tl tc] 88)).heap.size=w.heap.size + 1) := by show _=_; simp
 clear hT hU hX hL hJ hk hP hF hf hb hnm hd hoe hne hS9 hop hbad
 go_enter Tryz.func27,Tryz.ntmps27
 go_upto_region 1 with (fail)
 generalize w.alloc (.cells #[.int .i64 f,.bool tn,.slice ua un.length uc,.int .i64 1,.string nm,.slice xa xl xc,.slice ta tl tc] 88)=w1 at *;obtain ⟨c0,c1,c2,c3,c4,c5,c6⟩ := blk7 (HS1.o.blk 0 rfl)
 go_upto_region 2 with (fail)
 generalize w1.alloc (.cells #[.int .i64 1,.string nm,.slice xa xl xc,.slice ta tl tc] 41)=w2 at *;generalize w1.heap.size=g1 at *;clear c0 c1 c2 c3 c4 c5 c6;have HG1 : Hid (w.heap.size < g1) := by have := HSZ.o; show _ < _; omega
 have q4 : w2.cell? ⟨rb,4,none⟩=some (.bool s.bad) := (HS2.o.blk 4 rfl).cell 4;rw [HBD.o] at q4;have y0 : w2.cell? ⟨g1,0,none⟩=some (.int .i64 1) := (HS2.o.blk 0 rfl).cell 0
 go_wp2_with fail
 go_end0
 exact ⟨rfl,vP,vF,by rw [HSS.o,acq1 HBT.o HOP.o]; exact HJ.o.below HN2.o⟩
theorem acq2z_any (hop : t.op=2) (hz : f=0) :
 Calls Tryz.prog 27 #[.pointer (some ⟨rb,0,none⟩),.agg (.int .i64 f :: .bool tn :: .slice ua un.length uc :: cs).toArray] w fun x w' => x=.returned (.tuple #[])∧∃ vP' vF',RunTo base rb day fx fa fl fc w w' vP vF (acq day fx t f tn un s) vP' vF' := by
 have HZ := LH9 hz;clear hz;obtain ⟨op,nm,exprs,terms,xa,xl,xc,ta,tl,tc,e1,e2,-,hnm,hX,hL⟩ := hT.inv;have hoe : op=t.op := by rw [e1]; rfl
 have hne : nm=t.nm := by rw [e1]; rfl
 have hxe : exprs=t.exprs := by rw [e1]; rfl
 have hte : terms=t.terms := by rw [e1]; rfl
 have HPT : Hid (ptK.R w (X3 rb vP vF) ⟨f,tn,un,t⟩ (.int .i64 f :: .bool tn :: .slice ua un.length uc :: cs)) := ⟨ua,uc,cs,rfl,hf,hU,hT⟩;subst e2;rw [hxe] at hX;rw [hte] at hL;clear e1 hxe hte;obtain rfl : op=2 := hoe.trans hop;have HT := LH9 hT;have HU := LH9 hU;have HX := LH9 hX;have HL := LH9 hL;have HJ := LH9 hJ;have HSM := LH9 (And.intro hk (And.intro hP hF));have HFI := LH9 hf;have HBT := LH9 hb;have HNM := LH9 hnm;have HDY := LH9 hd;have HOP := LH9 hop;have HNE := LH9 hne;have HBD := LH9 hbad;have HRB : Hid (rb < w.heap.size) := hJ.lt rb (by unfold X3; simp);obtain ⟨S9,hS9⟩ : ∃ S9,S9=acq day fx t f tn un s := ⟨_,rfl⟩;rw [← hS9];have HSS := LH9 hS9;have HS1 := LH9 (hJ.sep.new 88 #[.int .i64 f,.bool tn,.slice ua un.length uc,.int .i64 2,.string nm,.slice xa xl xc,.slice ta tl tc]);have HS2 := LH9 (HS1.o.new 41 #[.int .i64 2,.string nm,.slice xa xl xc,.slice ta tl tc]);have HN1 := LH9 (below_nT w (.cells #[.int .i64 f,.bool tn,.slice ua un.length uc,.int .i64 2,.string nm,.slice xa xl xc,.slice ta tl tc] 88));have HN2 := LH9 (HN1.o.trans ((below_nT (w.alloc (.cells #[.int .i64 f,.bool tn,.slice ua un.length uc,.int .i64 2,.string nm,.slice xa xl xc,.slice ta tl tc] 88)) (.cells #[.int .i64 2,.string nm,.slice xa xl xc,.slice ta tl tc] 41)).mono HN1.o.size));have HSZ : Hid ((w.alloc (.cells #[.int .i64 f,.bool tn,.slice ua un.length uc,.int .i64 2,.string nm,.slice xa xl xc,.slice ta tl tc] 88)).heap.size=w.heap.size + 1) := by show _=_; simp
 clear hT hU hX hL hJ hk hP hF hf hb hnm hd hoe hne hS9 hop hbad
 go_enter Tryz.func27,Tryz.ntmps27
 go_upto_region 1 with (fail)
 generalize w.alloc (.cells #[.int .i64 f,.bool tn,.slice ua un.length uc,.int .i64 2,.string nm,.slice xa xl xc,.slice ta tl tc] 88)=w1 at *;obtain ⟨c0,c1,c2,c3,c4,c5,c6⟩ := blk7 (HS1.o.blk 0 rfl)
 go_upto_region 2 with (fail)
 generalize w1.alloc (.cells #[.int .i64 2,.string nm,.slice xa xl xc,.slice ta tl tc] 41)=w2 at *;generalize w1.heap.size=g1 at *;clear c0 c1 c2 c3 c4 c5 c6;have HG1 : Hid (w.heap.size < g1) := by have := HSZ.o; show _ < _; omega
 have q4 : w2.cell? ⟨rb,4,none⟩=some (.bool s.bad) := (HS2.o.blk 4 rfl).cell 4;rw [HBD.o] at q4;have y0 : w2.cell? ⟨g1,0,none⟩=some (.int .i64 2) := (HS2.o.blk 0 rfl).cell 0;have b0 : w2.cell? ⟨w.heap.size,0,none⟩=some (.int .i64 f) := (HS2.o.blk 1 rfl).cell 0;rw [HZ.o] at b0
 go_wp2_with fail
 go_end0
 exact ⟨rfl,vP,vF,by rw [HSS.o,acq2z HBT.o HOP.o HZ.o]; exact HJ.o.below HN2.o⟩
theorem acq2_any (hop : t.op=2) (hz : f ≠ 0) :
 Calls Tryz.prog 27 #[.pointer (some ⟨rb,0,none⟩),.agg (.int .i64 f :: .bool tn :: .slice ua un.length uc :: cs).toArray] w fun x w' => x=.returned (.tuple #[])∧∃ vP' vF',RunTo base rb day fx fa fl fc w w' vP vF (acq day fx t f tn un s) vP' vF' := by
 have HZ := LH9 hz;have hz' : (f != 0)=true := bne_iff_ne.2 hz;clear hz;obtain ⟨op,nm,exprs,terms,xa,xl,xc,ta,tl,tc,e1,e2,-,hnm,hX,hL⟩ := hT.inv;have hoe : op=t.op := by rw [e1]; rfl
 have hne : nm=t.nm := by rw [e1]; rfl
 have hxe : exprs=t.exprs := by rw [e1]; rfl
 have hte : terms=t.terms := by rw [e1]; rfl
 have HPT : Hid (ptK.R w (X3 rb vP vF) ⟨f,tn,un,t⟩ (.int .i64 f :: .bool tn :: .slice ua un.length uc :: cs)) := ⟨ua,uc,cs,rfl,hf,hU,hT⟩;subst e2;rw [hxe] at hX;rw [hte] at hL;clear e1 hxe hte;obtain rfl : op=2 := hoe.trans hop;have HT := LH9 hT;have HU := LH9 hU;have HX := LH9 hX;have HL := LH9 hL;have HJ := LH9 hJ;have HSM := LH9 (And.intro hk (And.intro hP hF));have HFI := LH9 hf;have HBT := LH9 hb;have HNM := LH9 hnm;have HDY := LH9 hd;have HOP := LH9 hop;have HNE := LH9 hne;have HBD := LH9 hbad;have HRB : Hid (rb < w.heap.size) := hJ.lt rb (by unfold X3; simp);obtain ⟨S9,hS9⟩ : ∃ S9,S9=acq day fx t f tn un s := ⟨_,rfl⟩;rw [← hS9];have HSS := LH9 hS9;have HS1 := LH9 (hJ.sep.new 88 #[.int .i64 f,.bool tn,.slice ua un.length uc,.int .i64 2,.string nm,.slice xa xl xc,.slice ta tl tc]);have HS2 := LH9 (HS1.o.new 41 #[.int .i64 2,.string nm,.slice xa xl xc,.slice ta tl tc]);have HN1 := LH9 (below_nT w (.cells #[.int .i64 f,.bool tn,.slice ua un.length uc,.int .i64 2,.string nm,.slice xa xl xc,.slice ta tl tc] 88));have HN2 := LH9 (HN1.o.trans ((below_nT (w.alloc (.cells #[.int .i64 f,.bool tn,.slice ua un.length uc,.int .i64 2,.string nm,.slice xa xl xc,.slice ta tl tc] 88)) (.cells #[.int .i64 2,.string nm,.slice xa xl xc,.slice ta tl tc] 41)).mono HN1.o.size));have HSZ : Hid ((w.alloc (.cells #[.int .i64 f,.bool tn,.slice ua un.length uc,.int .i64 2,.string nm,.slice xa xl xc,.slice ta tl tc] 88)).heap.size=w.heap.size + 1) := by show _=_; simp
 clear hT hU hX hL hJ hk hP hF hf hb hnm hd hoe hne hS9 hop hbad
 go_enter Tryz.func27,Tryz.ntmps27
 go_upto_region 1 with (fail)
 generalize w.alloc (.cells #[.int .i64 f,.bool tn,.slice ua un.length uc,.int .i64 2,.string nm,.slice xa xl xc,.slice ta tl tc] 88)=w1 at *;obtain ⟨c0,c1,c2,c3,c4,c5,c6⟩ := blk7 (HS1.o.blk 0 rfl)
 go_upto_region 2 with (fail)
 generalize w1.alloc (.cells #[.int .i64 2,.string nm,.slice xa xl xc,.slice ta tl tc] 41)=w2 at *;generalize w1.heap.size=g1 at *;clear c0 c1 c2 c3 c4 c5 c6;have HG1 : Hid (w.heap.size < g1) := by have := HSZ.o; show _ < _; omega
 have q4 : w2.cell? ⟨rb,4,none⟩=some (.bool s.bad) := (HS2.o.blk 4 rfl).cell 4;rw [HBD.o] at q4;have y0 : w2.cell? ⟨g1,0,none⟩=some (.int .i64 2) := (HS2.o.blk 0 rfl).cell 0;have b0 : w2.cell? ⟨w.heap.size,0,none⟩=some (.int .i64 f) := (HS2.o.blk 1 rfl).cell 0;have y1 : w2.cell? ⟨g1,1,none⟩=some (.string nm) := (HS2.o.blk 0 rfl).cell 1;have HJ2 := LH9 (HJ.o.below HN2.o)
 go_upto_region 4 with (fail)
 clear hz' q4 y0;have d1 : w2.cell? ⟨rb,3,none⟩=some vF := HJ2.o.run.cells.cell 3;refine wp_region_any (by kernel_rfl) ?_;refine ak 0 ?_;refine any_of_till (n := 11) (S := fun W => W.cell? ⟨rb,3,none⟩=some vF∧W.cell? ⟨w.heap.size,0,none⟩=some (.int .i64 f)∧W.cell? ⟨g1,1,none⟩=some (.string nm)) _ _ _ _ ?_;refine tk 1 ⟨d1,b0,y1⟩ ?_;refine tk 2 ⟨d1,b0,y1⟩ ?_;refine tk 3 ⟨d1,b0,y1⟩ ?_;refine tk 4 ⟨d1,b0,y1⟩ ?_;refine tk 5 ⟨d1,b0,y1⟩ ?_;refine tk 6 ⟨d1,b0,y1⟩ ?_;refine tk 7 ⟨d1,b0,y1⟩ ?_;refine tk 8 ⟨d1,b0,y1⟩ ?_;refine tk 9 ⟨d1,b0,y1⟩ ?_;refine till_one (i := 10) (by kernel_rfl) rfl (fun K' hK => ?_);go_simp;have hbn : Below w2.heap.size w2 (w2.alloc (.cells #[.string nm,.int .i64 f] 66)).drew := (below_nT w2 (.cells #[.string nm,.int .i64 f] 66)).drew;have HB2 := LH9 (HJ2.o.trans (HJ2.o.run.below hbn));have BZ := LH9 (Mem.Blk.new w2 66 #[.string nm,.int .i64 f]).drew;refine hK _ _ ⟨cu9 d1 hbn,cu9 b0 hbn,cu9 y1 hbn⟩ ?_;clear hK K' hbn d1 b0 y1;generalize (w2.alloc (.cells #[.string nm,.int .i64 f] 66)).drew=w5 at *;generalize w2.heap.size=zz at *
 try simp only [Act.put,zp1,zp2,zp3,zp4,zp5,zp6]
 refine till_last (by kernel_rfl) rfl (by kernel_rfl) (fun K' hK => ?_);obtain ⟨csl,hGr⟩ := HB2.o.run.sep.at 1 rfl;have hRp : flK.R w5 (X3 rb vP vF) ⟨nm,f⟩ [.string nm,.int .i64 f] := ⟨rfl,by have := HNM.o; show nm.size≤maxLen; unfold maxLen; omega,HFI.o⟩;refine step_ap infoLF Tryz.underlying36 rfl (by decide) rfl (.tmp 28) (.tmp 34) rfl rfl hGr.own hGr.room ⟨zz,0,none⟩ 1 1 [.string nm,.int .i64 f] rfl rfl (fun m u hm => by rw [Mem.add0,BZ.o.cell]; simpa using hm) (by simp [Value.oneCell']) (by have := HSM.o; unfold maxLen; omega) (by have := HSM.o; omega) ?_;intro v' w6 og gg hv';obtain ⟨gP,capn,rfl,-,-,-,-⟩ := own_form og (by omega);have MB := (HB2.o.run.sep.push 1 rfl hGr (x := ⟨nm,f⟩) (c := [.string nm,.int .i64 f]) (by rw [owns_famR]; exact hRp) og gg hv').blk 2 rfl;have m4 : w6.cell? ⟨rb,3,none⟩=some vF := MB.cell 3;have m5 : w6.frozen? ⟨rb,3,none⟩=false := MB.frozen 3;have HB3 := LH9 (HB2.o.trans (HB2.o.run.pushF hGr (x := ⟨nm,f⟩) (c := [.string nm,.int .i64 f]) hRp og gg hv'));clear HB2 hGr og gg hv' BZ hRp MB;refine hK _ _ ?_;clear hK K'
 try simp only [Act.put,zp1,zp2,zp3,zp4,zp5,zp6]
 refine ak 12 ?_;refine ak 13 ?_;refine any_one (i := 14) (by kernel_rfl) rfl (fun K' hK => ?_);go_simp;refine hK _ _ ?_;clear hK K' m4 m5;refine wpAny_done (by kernel_rfl) ?_ _
 go_wp2_with fail
 go_end0
 exact ⟨rfl,vP,_,by rw [HSS.o,acq2 HBT.o HBD.o HOP.o HZ.o,← HNE.o]; exact HB3.o⟩
end
end
section
section
variable (base rb : Nat) (day : Int) (fx : List Fx) (fa : Option Addr) (fl fc : Nat) (t : Te) (f : Int) (tn : Bool) (un : List Ex) (s : RS) (vP vF : Value) (ua : Option Addr) (uc : Nat) (cs : List Value) (w : World)
variable (hd : I64 day) (hf : I64 f) (hJ : RunJ base rb day fx fa fl fc w s vP vF) (hT : RepT w (X3 rb vP vF) t cs) (hU : SlR exK w (X3 rb vP vF) un ua un.length uc) (hb : bT t=true) (hbad : s.bad=false) (hk : un.length + t.rk≤1000) (hP : s.ps.length + t.nd≤100000) (hF : s.fs.length + t.nd≤100000)
include hd hf hJ hT hU hb hbad hk hP hF
theorem acq5_any (hop : t.op=5) :
 Calls Tryz.prog 27 #[.pointer (some ⟨rb,0,none⟩),.agg (.int .i64 f :: .bool tn :: .slice ua un.length uc :: cs).toArray] w fun x w' => x=.returned (.tuple #[])∧∃ vP' vF',RunTo base rb day fx fa fl fc w w' vP vF (acq day fx t f tn un s) vP' vF' := by
 obtain ⟨op,nm,exprs,terms,xa,xl,xc,ta,tl,tc,e1,e2,-,hnm,hX,hL⟩ := hT.inv;have hoe : op=t.op := by rw [e1]; rfl
 have hne : nm=t.nm := by rw [e1]; rfl
 have hxe : exprs=t.exprs := by rw [e1]; rfl
 have hte : terms=t.terms := by rw [e1]; rfl
 have HPT : Hid (ptK.R w (X3 rb vP vF) ⟨f,tn,un,t⟩ (.int .i64 f :: .bool tn :: .slice ua un.length uc :: cs)) := ⟨ua,uc,cs,rfl,hf,hU,hT⟩;subst e2;rw [hxe] at hX;rw [hte] at hL;clear e1 hxe hte;obtain rfl : op=5 := hoe.trans hop;have HT := LH9 hT;have HU := LH9 hU;have HX := LH9 hX;have HL := LH9 hL;have HJ := LH9 hJ;have HSM := LH9 (And.intro hk (And.intro hP hF));have HFI := LH9 hf;have HBT := LH9 hb;have HNM := LH9 hnm;have HDY := LH9 hd;have HOP := LH9 hop;have HNE := LH9 hne;have HBD := LH9 hbad;have HRB : Hid (rb < w.heap.size) := hJ.lt rb (by unfold X3; simp);obtain ⟨S9,hS9⟩ : ∃ S9,S9=acq day fx t f tn un s := ⟨_,rfl⟩;rw [← hS9];have HSS := LH9 hS9;have HS1 := LH9 (hJ.sep.new 88 #[.int .i64 f,.bool tn,.slice ua un.length uc,.int .i64 5,.string nm,.slice xa xl xc,.slice ta tl tc]);have HS2 := LH9 (HS1.o.new 41 #[.int .i64 5,.string nm,.slice xa xl xc,.slice ta tl tc]);have HN1 := LH9 (below_nT w (.cells #[.int .i64 f,.bool tn,.slice ua un.length uc,.int .i64 5,.string nm,.slice xa xl xc,.slice ta tl tc] 88));have HN2 := LH9 (HN1.o.trans ((below_nT (w.alloc (.cells #[.int .i64 f,.bool tn,.slice ua un.length uc,.int .i64 5,.string nm,.slice xa xl xc,.slice ta tl tc] 88)) (.cells #[.int .i64 5,.string nm,.slice xa xl xc,.slice ta tl tc] 41)).mono HN1.o.size));have HSZ : Hid ((w.alloc (.cells #[.int .i64 f,.bool tn,.slice ua un.length uc,.int .i64 5,.string nm,.slice xa xl xc,.slice ta tl tc] 88)).heap.size=w.heap.size + 1) := by show _=_; simp
 clear hT hU hX hL hJ hk hP hF hf hb hnm hd hoe hne hS9 hop hbad
 go_enter Tryz.func27,Tryz.ntmps27
 go_upto_region 1 with (fail)
 generalize w.alloc (.cells #[.int .i64 f,.bool tn,.slice ua un.length uc,.int .i64 5,.string nm,.slice xa xl xc,.slice ta tl tc] 88)=w1 at *;obtain ⟨c0,c1,c2,c3,c4,c5,c6⟩ := blk7 (HS1.o.blk 0 rfl)
 go_upto_region 2 with (fail)
 generalize w1.alloc (.cells #[.int .i64 5,.string nm,.slice xa xl xc,.slice ta tl tc] 41)=w2 at *;generalize w1.heap.size=g1 at *;clear c0 c1 c2 c3 c4 c5 c6;have HG1 : Hid (w.heap.size < g1) := by have := HSZ.o; show _ < _; omega
 have q4 : w2.cell? ⟨rb,4,none⟩=some (.bool s.bad) := (HS2.o.blk 4 rfl).cell 4;rw [HBD.o] at q4;have y0 : w2.cell? ⟨g1,0,none⟩=some (.int .i64 5) := (HS2.o.blk 0 rfl).cell 0;have BP2 : Hid (Mem.Blk w2 w.heap.size 88 #[.int .i64 f,.bool tn,.slice ua un.length uc,.int .i64 5,.string nm,.slice xa xl xc,.slice ta tl tc]) := HS2.o.blk 1 rfl;have HJ2 := LH9 (HJ.o.below HN2.o)
 go_upto_region 21 with (fail)
 clear q4 y0;have d1 : w2.cell? ⟨rb,2,none⟩=some vP := HJ2.o.run.cells.cell 2;obtain ⟨c0,c1,c2,c3,c4,c5,c6⟩ := blk7 BP2.o;refine wp_region_any (by kernel_rfl) ?_;refine ak 0 ?_;refine any_of_till (n := 7) (S := fun W => W.cell? ⟨rb,2,none⟩=some vP∧W.cell? ⟨w.heap.size,0,none⟩=some (.int .i64 f)∧W.cell? ⟨w.heap.size,1,none⟩=some (.bool tn)∧W.cell? ⟨w.heap.size,2,none⟩=some (.slice ua un.length uc)∧W.cell? ⟨w.heap.size,3,none⟩=some (.int .i64 5)∧W.cell? ⟨w.heap.size,4,none⟩=some (.string nm)∧W.cell? ⟨w.heap.size,5,none⟩=some (.slice xa xl xc)∧W.cell? ⟨w.heap.size,6,none⟩=some (.slice ta tl tc)) _ _ _ _ ?_;refine tk 1 ⟨d1,c0,c1,c2,c3,c4,c5,c6⟩ ?_;refine tk 2 ⟨d1,c0,c1,c2,c3,c4,c5,c6⟩ ?_;refine tk 3 ⟨d1,c0,c1,c2,c3,c4,c5,c6⟩ ?_;refine tk 4 ⟨d1,c0,c1,c2,c3,c4,c5,c6⟩ ?_;refine tk 5 ⟨d1,c0,c1,c2,c3,c4,c5,c6⟩ ?_;refine till_one (i := 6) (by kernel_rfl) rfl (fun K' hK => ?_);go_simp;have hbn : Below w2.heap.size w2 (w2.alloc (.cells #[.int .i64 f,.bool tn,.slice ua un.length uc,.int .i64 5,.string nm,.slice xa xl xc,.slice ta tl tc] 88)).drew := (below_nT w2 (.cells #[.int .i64 f,.bool tn,.slice ua un.length uc,.int .i64 5,.string nm,.slice xa xl xc,.slice ta tl tc] 88)).drew;have HB2 := LH9 (HJ2.o.trans (HJ2.o.run.below hbn));have BZ := LH9 (Mem.Blk.new w2 88 #[.int .i64 f,.bool tn,.slice ua un.length uc,.int .i64 5,.string nm,.slice xa xl xc,.slice ta tl tc]).drew;refine hK _ _ ⟨cu9 d1 hbn,cu9 c0 hbn,cu9 c1 hbn,cu9 c2 hbn,cu9 c3 hbn,cu9 c4 hbn,cu9 c5 hbn,cu9 c6 hbn⟩ ?_;clear hK K' hbn d1 c0 c1 c2 c3 c4 c5 c6;generalize (w2.alloc (.cells #[.int .i64 f,.bool tn,.slice ua un.length uc,.int .i64 5,.string nm,.slice xa xl xc,.slice ta tl tc] 88)).drew=w5 at *;generalize w2.heap.size=zz at *
 try simp only [Act.put,zp1,zp2,zp3,zp4,zp5,zp6]
 refine till_last (by kernel_rfl) rfl (by kernel_rfl) (fun K' hK => ?_);obtain ⟨csl,hGr⟩ := HB2.o.run.sep.at 0 rfl;have hRp := HB2.o.rep (K := ptK) HPT.o;refine step_ap infoPt Tryz.underlying35 rfl (by decide) rfl (.tmp 147) (.tmp 149) rfl rfl hGr.own hGr.room ⟨zz,0,none⟩ 1 1 [.int .i64 f,.bool tn,.slice ua un.length uc,.int .i64 5,.string nm,.slice xa xl xc,.slice ta tl tc] rfl rfl (fun m u hm => by rw [Mem.add0,BZ.o.cell]; simpa using hm) (by simp [Value.oneCell']) (by have := HSM.o; unfold maxLen; omega) (by have := HSM.o; omega) ?_;intro v' w6 og gg hv';obtain ⟨gP,capn,rfl,-,-,-,-⟩ := own_form og (by omega);have MB := (HB2.o.run.sep.push 0 rfl hGr (x := ⟨f,tn,un,t⟩) (c := [.int .i64 f,.bool tn,.slice ua un.length uc,.int .i64 5,.string nm,.slice xa xl xc,.slice ta tl tc]) (by rw [owns_famR]; exact hRp) og gg hv').blk 2 rfl;have m4 : w6.cell? ⟨rb,2,none⟩=some vP := MB.cell 2;have m5 : w6.frozen? ⟨rb,2,none⟩=false := MB.frozen 2;have HB3 := LH9 (HB2.o.trans (HB2.o.run.pushP hGr (x := ⟨f,tn,un,t⟩) (c := [.int .i64 f,.bool tn,.slice ua un.length uc,.int .i64 5,.string nm,.slice xa xl xc,.slice ta tl tc]) hRp og gg hv'));clear HB2 hGr og gg hv' BZ hRp MB;refine hK _ _ ?_;clear hK K'
 try simp only [Act.put,zp1,zp2,zp3,zp4,zp5,zp6]
 refine ak 8 ?_;refine ak 9 ?_;refine any_one (i := 10) (by kernel_rfl) rfl (fun K' hK => ?_);go_simp;refine hK _ _ ?_;clear hK K' m4 m5;refine wpAny_done (by kernel_rfl) ?_ _
 go_wp2_with fail
 go_end0
 exact ⟨rfl,_,vF,by rw [HSS.o,acq59 HBT.o HBD.o (.inl HOP.o)]; exact HB3.o⟩
theorem acq9_any (hop : t.op=9) :
 Calls Tryz.prog 27 #[.pointer (some ⟨rb,0,none⟩),.agg (.int .i64 f :: .bool tn :: .slice ua un.length uc :: cs).toArray] w fun x w' => x=.returned (.tuple #[])∧∃ vP' vF',RunTo base rb day fx fa fl fc w w' vP vF (acq day fx t f tn un s) vP' vF' := by
 obtain ⟨op,nm,exprs,terms,xa,xl,xc,ta,tl,tc,e1,e2,-,hnm,hX,hL⟩ := hT.inv;have hoe : op=t.op := by rw [e1]; rfl
 have hne : nm=t.nm := by rw [e1]; rfl
 have hxe : exprs=t.exprs := by rw [e1]; rfl
 have hte : terms=t.terms := by rw [e1]; rfl
 have HPT : Hid (ptK.R w (X3 rb vP vF) ⟨f,tn,un,t⟩ (.int .i64 f :: .bool tn :: .slice ua un.length uc :: cs)) := ⟨ua,uc,cs,rfl,hf,hU,hT⟩;subst e2;rw [hxe] at hX;rw [hte] at hL;clear e1 hxe hte;obtain rfl : op=9 := hoe.trans hop;have HT := LH9 hT;have HU := LH9 hU;have HX := LH9 hX;have HL := LH9 hL;have HJ := LH9 hJ;have HSM := LH9 (And.intro hk (And.intro hP hF));have HFI := LH9 hf;have HBT := LH9 hb;have HNM := LH9 hnm;have HDY := LH9 hd;have HOP := LH9 hop;have HNE := LH9 hne;have HBD := LH9 hbad;have HRB : Hid (rb < w.heap.size) := hJ.lt rb (by unfold X3; simp);obtain ⟨S9,hS9⟩ : ∃ S9,S9=acq day fx t f tn un s := ⟨_,rfl⟩;rw [← hS9];have HSS := LH9 hS9;have HS1 := LH9 (hJ.sep.new 88 #[.int .i64 f,.bool tn,.slice ua un.length uc,.int .i64 9,.string nm,.slice xa xl xc,.slice ta tl tc]);have HS2 := LH9 (HS1.o.new 41 #[.int .i64 9,.string nm,.slice xa xl xc,.slice ta tl tc]);have HN1 := LH9 (below_nT w (.cells #[.int .i64 f,.bool tn,.slice ua un.length uc,.int .i64 9,.string nm,.slice xa xl xc,.slice ta tl tc] 88));have HN2 := LH9 (HN1.o.trans ((below_nT (w.alloc (.cells #[.int .i64 f,.bool tn,.slice ua un.length uc,.int .i64 9,.string nm,.slice xa xl xc,.slice ta tl tc] 88)) (.cells #[.int .i64 9,.string nm,.slice xa xl xc,.slice ta tl tc] 41)).mono HN1.o.size));have HSZ : Hid ((w.alloc (.cells #[.int .i64 f,.bool tn,.slice ua un.length uc,.int .i64 9,.string nm,.slice xa xl xc,.slice ta tl tc] 88)).heap.size=w.heap.size + 1) := by show _=_; simp
 clear hT hU hX hL hJ hk hP hF hf hb hnm hd hoe hne hS9 hop hbad
 go_enter Tryz.func27,Tryz.ntmps27
 go_upto_region 1 with (fail)
 generalize w.alloc (.cells #[.int .i64 f,.bool tn,.slice ua un.length uc,.int .i64 9,.string nm,.slice xa xl xc,.slice ta tl tc] 88)=w1 at *;obtain ⟨c0,c1,c2,c3,c4,c5,c6⟩ := blk7 (HS1.o.blk 0 rfl)
 go_upto_region 2 with (fail)
 generalize w1.alloc (.cells #[.int .i64 9,.string nm,.slice xa xl xc,.slice ta tl tc] 41)=w2 at *;generalize w1.heap.size=g1 at *;clear c0 c1 c2 c3 c4 c5 c6;have HG1 : Hid (w.heap.size < g1) := by have := HSZ.o; show _ < _; omega
 have q4 : w2.cell? ⟨rb,4,none⟩=some (.bool s.bad) := (HS2.o.blk 4 rfl).cell 4;rw [HBD.o] at q4;have y0 : w2.cell? ⟨g1,0,none⟩=some (.int .i64 9) := (HS2.o.blk 0 rfl).cell 0;have BP2 : Hid (Mem.Blk w2 w.heap.size 88 #[.int .i64 f,.bool tn,.slice ua un.length uc,.int .i64 9,.string nm,.slice xa xl xc,.slice ta tl tc]) := HS2.o.blk 1 rfl;have HJ2 := LH9 (HJ.o.below HN2.o)
 go_upto_region 21 with (fail)
 clear q4 y0;have d1 : w2.cell? ⟨rb,2,none⟩=some vP := HJ2.o.run.cells.cell 2;obtain ⟨c0,c1,c2,c3,c4,c5,c6⟩ := blk7 BP2.o;refine wp_region_any (by kernel_rfl) ?_;refine ak 0 ?_;refine any_of_till (n := 7) (S := fun W => W.cell? ⟨rb,2,none⟩=some vP∧W.cell? ⟨w.heap.size,0,none⟩=some (.int .i64 f)∧W.cell? ⟨w.heap.size,1,none⟩=some (.bool tn)∧W.cell? ⟨w.heap.size,2,none⟩=some (.slice ua un.length uc)∧W.cell? ⟨w.heap.size,3,none⟩=some (.int .i64 9)∧W.cell? ⟨w.heap.size,4,none⟩=some (.string nm)∧W.cell? ⟨w.heap.size,5,none⟩=some (.slice xa xl xc)∧W.cell? ⟨w.heap.size,6,none⟩=some (.slice ta tl tc)) _ _ _ _ ?_;refine tk 1 ⟨d1,c0,c1,c2,c3,c4,c5,c6⟩ ?_;refine tk 2 ⟨d1,c0,c1,c2,c3,c4,c5,c6⟩ ?_;refine tk 3 ⟨d1,c0,c1,c2,c3,c4,c5,c6⟩ ?_;refine tk 4 ⟨d1,c0,c1,c2,c3,c4,c5,c6⟩ ?_;refine tk 5 ⟨d1,c0,c1,c2,c3,c4,c5,c6⟩ ?_;refine till_one (i := 6) (by kernel_rfl) rfl (fun K' hK => ?_);go_simp;have hbn : Below w2.heap.size w2 (w2.alloc (.cells #[.int .i64 f,.bool tn,.slice ua un.length uc,.int .i64 9,.string nm,.slice xa xl xc,.slice ta tl tc] 88)).drew := (below_nT w2 (.cells #[.int .i64 f,.bool tn,.slice ua un.length uc,.int .i64 9,.string nm,.slice xa xl xc,.slice ta tl tc] 88)).drew;have HB2 := LH9 (HJ2.o.trans (HJ2.o.run.below hbn));have BZ := LH9 (Mem.Blk.new w2 88 #[.int .i64 f,.bool tn,.slice ua un.length uc,.int .i64 9,.string nm,.slice xa xl xc,.slice ta tl tc]).drew;refine hK _ _ ⟨cu9 d1 hbn,cu9 c0 hbn,cu9 c1 hbn,cu9 c2 hbn,cu9 c3 hbn,cu9 c4 hbn,cu9 c5 hbn,cu9 c6 hbn⟩ ?_;clear hK K' hbn d1 c0 c1 c2 c3 c4 c5 c6;generalize (w2.alloc (.cells #[.int .i64 f,.bool tn,.slice ua un.length uc,.int .i64 9,.string nm,.slice xa xl xc,.slice ta tl tc] 88)).drew=w5 at *;generalize w2.heap.size=zz at *
 try simp only [Act.put,zp1,zp2,zp3,zp4,zp5,zp6]
 refine till_last (by kernel_rfl) rfl (by kernel_rfl) (fun K' hK => ?_);obtain ⟨csl,hGr⟩ := HB2.o.run.sep.at 0 rfl;have hRp := HB2.o.rep (K := ptK) HPT.o;refine step_ap infoPt Tryz.underlying35 rfl (by decide) rfl (.tmp 147) (.tmp 149) rfl rfl hGr.own hGr.room ⟨zz,0,none⟩ 1 1 [.int .i64 f,.bool tn,.slice ua un.length uc,.int .i64 9,.string nm,.slice xa xl xc,.slice ta tl tc] rfl rfl (fun m u hm => by rw [Mem.add0,BZ.o.cell]; simpa using hm) (by simp [Value.oneCell']) (by have := HSM.o; unfold maxLen; omega) (by have := HSM.o; omega) ?_;intro v' w6 og gg hv';obtain ⟨gP,capn,rfl,-,-,-,-⟩ := own_form og (by omega);have MB := (HB2.o.run.sep.push 0 rfl hGr (x := ⟨f,tn,un,t⟩) (c := [.int .i64 f,.bool tn,.slice ua un.length uc,.int .i64 9,.string nm,.slice xa xl xc,.slice ta tl tc]) (by rw [owns_famR]; exact hRp) og gg hv').blk 2 rfl;have m4 : w6.cell? ⟨rb,2,none⟩=some vP := MB.cell 2;have m5 : w6.frozen? ⟨rb,2,none⟩=false := MB.frozen 2;have HB3 := LH9 (HB2.o.trans (HB2.o.run.pushP hGr (x := ⟨f,tn,un,t⟩) (c := [.int .i64 f,.bool tn,.slice ua un.length uc,.int .i64 9,.string nm,.slice xa xl xc,.slice ta tl tc]) hRp og gg hv'));clear HB2 hGr og gg hv' BZ hRp MB;refine hK _ _ ?_;clear hK K'
 try simp only [Act.put,zp1,zp2,zp3,zp4,zp5,zp6]
 refine ak 8 ?_;refine ak 9 ?_;refine any_one (i := 10) (by kernel_rfl) rfl (fun K' hK => ?_);go_simp;refine hK _ _ ?_;clear hK K' m4 m5;refine wpAny_done (by kernel_rfl) ?_ _
 go_wp2_with fail
 go_end0
 exact ⟨rfl,_,vF,by rw [HSS.o,acq59 HBT.o HBD.o (.inr HOP.o)]; exact HB3.o⟩
theorem acq6_any (hop : t.op=6) (IH : AcqC base rb day fx fa fl fc (t0 t)) :
 Calls Tryz.prog 27 #[.pointer (some ⟨rb,0,none⟩),.agg (.int .i64 f :: .bool tn :: .slice ua un.length uc :: cs).toArray] w fun x w' => x=.returned (.tuple #[])∧∃ vP' vF',RunTo base rb day fx fa fl fc w w' vP vF (acq day fx t f tn un s) vP' vF' := by
 have HWT := LH9 (fun (W : World) (cs' : List Value) (hJ' : RunJ base rb day fx fa fl fc W s vP vF) (hT' : RepT W (X3 rb vP vF) t cs') (hU' : SlR exK W (X3 rb vP vF) un ua un.length uc) => wait_any base rb day fx fa fl fc t f tn un s vP vF ua uc cs' W hd hf hJ' hT' hU' hb (.inl hop) hk hP hF IH);clear IH;obtain ⟨op,nm,exprs,terms,xa,xl,xc,ta,tl,tc,e1,e2,-,hnm,hX,hL⟩ := hT.inv;have hoe : op=t.op := by rw [e1]; rfl
 have hne : nm=t.nm := by rw [e1]; rfl
 have hxe : exprs=t.exprs := by rw [e1]; rfl
 have hte : terms=t.terms := by rw [e1]; rfl
 have HPT : Hid (ptK.R w (X3 rb vP vF) ⟨f,tn,un,t⟩ (.int .i64 f :: .bool tn :: .slice ua un.length uc :: cs)) := ⟨ua,uc,cs,rfl,hf,hU,hT⟩;subst e2;rw [hxe] at hX;rw [hte] at hL;clear e1 hxe hte;obtain rfl : op=6 := hoe.trans hop;have HT := LH9 hT;have HU := LH9 hU;have HX := LH9 hX;have HL := LH9 hL;have HJ := LH9 hJ;have HSM := LH9 (And.intro hk (And.intro hP hF));have HFI := LH9 hf;have HBT := LH9 hb;have HNM := LH9 hnm;have HDY := LH9 hd;have HOP := LH9 hop;have HNE := LH9 hne;have HBD := LH9 hbad;have HRB : Hid (rb < w.heap.size) := hJ.lt rb (by unfold X3; simp);obtain ⟨S9,hS9⟩ : ∃ S9,S9=acq day fx t f tn un s := ⟨_,rfl⟩;rw [← hS9];have HSS := LH9 hS9;have HS1 := LH9 (hJ.sep.new 88 #[.int .i64 f,.bool tn,.slice ua un.length uc,.int .i64 6,.string nm,.slice xa xl xc,.slice ta tl tc]);have HS2 := LH9 (HS1.o.new 41 #[.int .i64 6,.string nm,.slice xa xl xc,.slice ta tl tc]);have HN1 := LH9 (below_nT w (.cells #[.int .i64 f,.bool tn,.slice ua un.length uc,.int .i64 6,.string nm,.slice xa xl xc,.slice ta tl tc] 88));have HN2 := LH9 (HN1.o.trans ((below_nT (w.alloc (.cells #[.int .i64 f,.bool tn,.slice ua un.length uc,.int .i64 6,.string nm,.slice xa xl xc,.slice ta tl tc] 88)) (.cells #[.int .i64 6,.string nm,.slice xa xl xc,.slice ta tl tc] 41)).mono HN1.o.size));have HSZ : Hid ((w.alloc (.cells #[.int .i64 f,.bool tn,.slice ua un.length uc,.int .i64 6,.string nm,.slice xa xl xc,.slice ta tl tc] 88)).heap.size=w.heap.size + 1) := by show _=_; simp
 clear hT hU hX hL hJ hk hP hF hf hb hnm hd hoe hne hS9 hop hbad
 go_enter Tryz.func27,Tryz.ntmps27
 go_upto_region 1 with (fail)
 generalize w.alloc (.cells #[.int .i64 f,.bool tn,.slice ua un.length uc,.int .i64 6,.string nm,.slice xa xl xc,.slice ta tl tc] 88)=w1 at *;obtain ⟨c0,c1,c2,c3,c4,c5,c6⟩ := blk7 (HS1.o.blk 0 rfl)
 go_upto_region 2 with (fail)
 generalize w1.alloc (.cells #[.int .i64 6,.string nm,.slice xa xl xc,.slice ta tl tc] 41)=w2 at *;generalize w1.heap.size=g1 at *;clear c0 c1 c2 c3 c4 c5 c6;have HG1 : Hid (w.heap.size < g1) := by have := HSZ.o; show _ < _; omega
 have q4 : w2.cell? ⟨rb,4,none⟩=some (.bool s.bad) := (HS2.o.blk 4 rfl).cell 4;rw [HBD.o] at q4;have y0 : w2.cell? ⟨g1,0,none⟩=some (.int .i64 6) := (HS2.o.blk 0 rfl).cell 0;obtain ⟨c0,c1,c2,c3,c4,c5,c6⟩ := blk7 (HS2.o.blk 1 rfl);have HJ2 := LH9 (HJ.o.below HN2.o)
 go_upto_region 19 with (fail)
 go_wp2_with fail
 go_at_call 49;have hT2 : RepT w2 (X3 rb vP vF) t [.int .i64 6,.string nm,.slice xa xl xc,.slice ta tl tc] := HJ2.o.rep (K := teK) (x := t) HT.o;(with_reducible refine (HWT.o w2 _ HJ2.o.run hT2 (HJ2.o.slr (K := exK) HU.o)).mono ?_);rintro y w3 ⟨rfl,vP',vF',hR9⟩;have HR9 := LH9 (HJ2.o.trans hR9);clear hR9 hT2 c0 c1 c2 c3 c4 c5 c6 q4 y0
 go_wp2_with fail
 go_end0
 exact ⟨rfl,vP',vF',by rw [HSS.o,acq67 HBT.o HBD.o (.inl HOP.o)]; exact HR9.o⟩
theorem acq7_any (hop : t.op=7) (IH : AcqC base rb day fx fa fl fc (t0 t)) :
 Calls Tryz.prog 27 #[.pointer (some ⟨rb,0,none⟩),.agg (.int .i64 f :: .bool tn :: .slice ua un.length uc :: cs).toArray] w fun x w' => x=.returned (.tuple #[])∧∃ vP' vF',RunTo base rb day fx fa fl fc w w' vP vF (acq day fx t f tn un s) vP' vF' := by
 have HWT := LH9 (fun (W : World) (cs' : List Value) (hJ' : RunJ base rb day fx fa fl fc W s vP vF) (hT' : RepT W (X3 rb vP vF) t cs') (hU' : SlR exK W (X3 rb vP vF) un ua un.length uc) => wait_any base rb day fx fa fl fc t f tn un s vP vF ua uc cs' W hd hf hJ' hT' hU' hb (.inr hop) hk hP hF IH);clear IH;obtain ⟨op,nm,exprs,terms,xa,xl,xc,ta,tl,tc,e1,e2,-,hnm,hX,hL⟩ := hT.inv;have hoe : op=t.op := by rw [e1]; rfl
 have hne : nm=t.nm := by rw [e1]; rfl
 have hxe : exprs=t.exprs := by rw [e1]; rfl
 have hte : terms=t.terms := by rw [e1]; rfl
 have HPT : Hid (ptK.R w (X3 rb vP vF) ⟨f,tn,un,t⟩ (.int .i64 f :: .bool tn :: .slice ua un.length uc :: cs)) := ⟨ua,uc,cs,rfl,hf,hU,hT⟩;subst e2;rw [hxe] at hX;rw [hte] at hL;clear e1 hxe hte;obtain rfl : op=7 := hoe.trans hop;have HT := LH9 hT;have HU := LH9 hU;have HX := LH9 hX;have HL := LH9 hL;have HJ := LH9 hJ;have HSM := LH9 (And.intro hk (And.intro hP hF));have HFI := LH9 hf;have HBT := LH9 hb;have HNM := LH9 hnm;have HDY := LH9 hd;have HOP := LH9 hop;have HNE := LH9 hne;have HBD := LH9 hbad;have HRB : Hid (rb < w.heap.size) := hJ.lt rb (by unfold X3; simp);obtain ⟨S9,hS9⟩ : ∃ S9,S9=acq day fx t f tn un s := ⟨_,rfl⟩;rw [← hS9];have HSS := LH9 hS9;have HS1 := LH9 (hJ.sep.new 88 #[.int .i64 f,.bool tn,.slice ua un.length uc,.int .i64 7,.string nm,.slice xa xl xc,.slice ta tl tc]);have HS2 := LH9 (HS1.o.new 41 #[.int .i64 7,.string nm,.slice xa xl xc,.slice ta tl tc]);have HN1 := LH9 (below_nT w (.cells #[.int .i64 f,.bool tn,.slice ua un.length uc,.int .i64 7,.string nm,.slice xa xl xc,.slice ta tl tc] 88));have HN2 := LH9 (HN1.o.trans ((below_nT (w.alloc (.cells #[.int .i64 f,.bool tn,.slice ua un.length uc,.int .i64 7,.string nm,.slice xa xl xc,.slice ta tl tc] 88)) (.cells #[.int .i64 7,.string nm,.slice xa xl xc,.slice ta tl tc] 41)).mono HN1.o.size));have HSZ : Hid ((w.alloc (.cells #[.int .i64 f,.bool tn,.slice ua un.length uc,.int .i64 7,.string nm,.slice xa xl xc,.slice ta tl tc] 88)).heap.size=w.heap.size + 1) := by show _=_; simp
 clear hT hU hX hL hJ hk hP hF hf hb hnm hd hoe hne hS9 hop hbad
 go_enter Tryz.func27,Tryz.ntmps27
 go_upto_region 1 with (fail)
 generalize w.alloc (.cells #[.int .i64 f,.bool tn,.slice ua un.length uc,.int .i64 7,.string nm,.slice xa xl xc,.slice ta tl tc] 88)=w1 at *;obtain ⟨c0,c1,c2,c3,c4,c5,c6⟩ := blk7 (HS1.o.blk 0 rfl)
 go_upto_region 2 with (fail)
 generalize w1.alloc (.cells #[.int .i64 7,.string nm,.slice xa xl xc,.slice ta tl tc] 41)=w2 at *;generalize w1.heap.size=g1 at *;clear c0 c1 c2 c3 c4 c5 c6;have HG1 : Hid (w.heap.size < g1) := by have := HSZ.o; show _ < _; omega
 have q4 : w2.cell? ⟨rb,4,none⟩=some (.bool s.bad) := (HS2.o.blk 4 rfl).cell 4;rw [HBD.o] at q4;have y0 : w2.cell? ⟨g1,0,none⟩=some (.int .i64 7) := (HS2.o.blk 0 rfl).cell 0;obtain ⟨c0,c1,c2,c3,c4,c5,c6⟩ := blk7 (HS2.o.blk 1 rfl);have HJ2 := LH9 (HJ.o.below HN2.o)
 go_upto_region 19 with (fail)
 go_wp2_with fail
 go_at_call 49;have hT2 : RepT w2 (X3 rb vP vF) t [.int .i64 7,.string nm,.slice xa xl xc,.slice ta tl tc] := HJ2.o.rep (K := teK) (x := t) HT.o;(with_reducible refine (HWT.o w2 _ HJ2.o.run hT2 (HJ2.o.slr (K := exK) HU.o)).mono ?_);rintro y w3 ⟨rfl,vP',vF',hR9⟩;have HR9 := LH9 (HJ2.o.trans hR9);clear hR9 hT2 c0 c1 c2 c3 c4 c5 c6 q4 y0
 go_wp2_with fail
 go_end0
 exact ⟨rfl,vP',vF',by rw [HSS.o,acq67 HBT.o HBD.o (.inr HOP.o)]; exact HR9.o⟩
theorem acq3_any (hop : t.op=3) (IH : AcqC base rb day fx fa fl fc (t0 t)) :
 Calls Tryz.prog 27 #[.pointer (some ⟨rb,0,none⟩),.agg (.int .i64 f :: .bool tn :: .slice ua un.length uc :: cs).toArray] w fun x w' => x=.returned (.tuple #[])∧∃ vP' vF',RunTo base rb day fx fa fl fc w w' vP vF (acq day fx t f tn un s) vP' vF' := by
 have HIH := LH9 IH;clear IH;have HKD : Hid ((t0 t).rk + 1≤t.rk∧(t0 t).nd + 1≤t.nd) := kid0_bd hb (.inl hop);have hte : t.terms[0]?=some (t0 t) := kid0_at hb (.inl hop);obtain ⟨op,nm,exprs,terms,xa,xl,xc,ta,tl,tc,e1,e2,-,hnm,hX,hL⟩ := hT.inv;have hoe : op=t.op := by rw [e1]; rfl
 have hne : nm=t.nm := by rw [e1]; rfl
 have hxe : exprs=t.exprs := by rw [e1]; rfl
 have hte : terms=t.terms := by rw [e1]; rfl
 have HPT : Hid (ptK.R w (X3 rb vP vF) ⟨f,tn,un,t⟩ (.int .i64 f :: .bool tn :: .slice ua un.length uc :: cs)) := ⟨ua,uc,cs,rfl,hf,hU,hT⟩;subst e2;rw [hxe] at hX;rw [hte] at hL;clear e1 hxe hte;obtain rfl : op=3 := hoe.trans hop;have HT := LH9 hT;have HU := LH9 hU;have HX := LH9 hX;have HL := LH9 hL;have HJ := LH9 hJ;have HSM := LH9 (And.intro hk (And.intro hP hF));have HFI := LH9 hf;have HBT := LH9 hb;have HNM := LH9 hnm;have HDY := LH9 hd;have HOP := LH9 hop;have HNE := LH9 hne;have HBD := LH9 hbad;have HRB : Hid (rb < w.heap.size) := hJ.lt rb (by unfold X3; simp);obtain ⟨S9,hS9⟩ : ∃ S9,S9=acq day fx t f tn un s := ⟨_,rfl⟩;rw [← hS9];have HSS := LH9 hS9;have HS1 := LH9 (hJ.sep.new 88 #[.int .i64 f,.bool tn,.slice ua un.length uc,.int .i64 3,.string nm,.slice xa xl xc,.slice ta tl tc]);have HS2 := LH9 (HS1.o.new 41 #[.int .i64 3,.string nm,.slice xa xl xc,.slice ta tl tc]);have HN1 := LH9 (below_nT w (.cells #[.int .i64 f,.bool tn,.slice ua un.length uc,.int .i64 3,.string nm,.slice xa xl xc,.slice ta tl tc] 88));have HN2 := LH9 (HN1.o.trans ((below_nT (w.alloc (.cells #[.int .i64 f,.bool tn,.slice ua un.length uc,.int .i64 3,.string nm,.slice xa xl xc,.slice ta tl tc] 88)) (.cells #[.int .i64 3,.string nm,.slice xa xl xc,.slice ta tl tc] 41)).mono HN1.o.size));have HSZ : Hid ((w.alloc (.cells #[.int .i64 f,.bool tn,.slice ua un.length uc,.int .i64 3,.string nm,.slice xa xl xc,.slice ta tl tc] 88)).heap.size=w.heap.size + 1) := by show _=_; simp
 clear hT hU hX hL hJ hk hP hF hf hb hnm hd hoe hne hS9 hop hbad
 go_enter Tryz.func27,Tryz.ntmps27
 go_upto_region 1 with (fail)
 generalize w.alloc (.cells #[.int .i64 f,.bool tn,.slice ua un.length uc,.int .i64 3,.string nm,.slice xa xl xc,.slice ta tl tc] 88)=w1 at *;obtain ⟨c0,c1,c2,c3,c4,c5,c6⟩ := blk7 (HS1.o.blk 0 rfl)
 go_upto_region 2 with (fail)
 generalize w1.alloc (.cells #[.int .i64 3,.string nm,.slice xa xl xc,.slice ta tl tc] 41)=w2 at *;generalize w1.heap.size=g1 at *;clear c0 c1 c2 c3 c4 c5 c6;have HG1 : Hid (w.heap.size < g1) := by have := HSZ.o; show _ < _; omega
 have q4 : w2.cell? ⟨rb,4,none⟩=some (.bool s.bad) := (HS2.o.blk 4 rfl).cell 4;rw [HBD.o] at q4;have y0 : w2.cell? ⟨g1,0,none⟩=some (.int .i64 3) := (HS2.o.blk 0 rfl).cell 0;obtain ⟨htl,tb,hto,q1,q2,q3,q4',q5,q6,q7,q8,rfl,htX,hRT,v0,v1,v2,v3⟩ := te_one HL.o hte;rw [Nat.zero_mul,Nat.add_zero] at v0 v1 v2 v3;have HW : Hid (w.cell? ⟨tb,hto,none⟩=some (.int .i64 q1)∧w.cell? ⟨tb,hto + 1,none⟩=some (.string q2)∧w.cell? ⟨tb,hto + 2,none⟩=some (.slice q3 q4' q5)∧w.cell? ⟨tb,hto + 3,none⟩=some (.slice q6 q7 q8)) := ⟨v0,v1,v2,v3⟩;have HRT := LH9 hRT;have HNX : Hid (tb ∉ X3 rb vP vF) := htX;have HLT := LH9 htl;clear htl htX hRT v0 v1 v2 v3 hte;have b0 : w2.cell? ⟨w.heap.size,0,none⟩=some (.int .i64 f) := (HS2.o.blk 1 rfl).cell 0
 go_upto_region 6 with (fail)
 go_wp2_with fail
 (with_reducible refine (numNeg_any f w2 HFI.o).mono ?_);rintro y w4 ⟨hy,rfl⟩;unfold fitR at hy;subst hy;have HN9 := LH9 (fit_i64 (-f));have HE := LH9 (acq3 (day := day) (fx := fx) (f := f) (tn := tn) (un := un) HBT.o HBD.o HOP.o);rw [← HSS.o] at HE;generalize fitN (fitI (-f))=N9 at *;generalize fitB (fitI (-f))=b9 at *;clear q4 y0 b0;have q4 : w2.cell? ⟨rb,4,none⟩=some (.bool s.bad) := (HS2.o.blk 4 rfl).cell 4;have f4 : w2.frozen? ⟨rb,4,none⟩=false := (HS2.o.blk 4 rfl).frozen 4;have HS5 := LH9 (HS2.o.store 4 rfl 4 (.bool (!b9)));have HF5 : Hid (Fr (X3 rb vP vF) w (w2.setCell ⟨rb,4,none⟩ (.bool (!b9)))) := (Fr.of_below HN2.o _).trans (Fr.setCell w2 (p := ⟨rb,4,none⟩) (by unfold X3; simp) _)
 go_upto_region 8 with (fail)
 generalize w2.setCell ⟨rb,4,none⟩ (.bool (!b9))=w5 at *;clear q4 f4 HS2;have r0 : w5.cell? ⟨w.heap.size,0,none⟩=some (.int .i64 f) := (HS5.o.blk 1 rfl).cell 0;have r1 : w5.cell? ⟨w.heap.size,1,none⟩=some (.bool tn) := (HS5.o.blk 1 rfl).cell 1;have k0 : w5.frozen? ⟨w.heap.size,0,none⟩=false := (HS5.o.blk 1 rfl).frozen 0;have k1 : w5.frozen? ⟨w.heap.size,1,none⟩=false := (HS5.o.blk 1 rfl).frozen 1;have HS6 := LH9 ((HS5.o.store 1 rfl 0 (.int .i64 N9)).store 1 rfl 1 (.bool (!tn)));have HF6 := LH9 ((HF5.o.setNew (p := ⟨w.heap.size,0,none⟩) (Nat.le_refl _) (.int .i64 N9)).setNew (p := ⟨w.heap.size,1,none⟩) (Nat.le_refl _) (.bool (!tn)))
 go_upto_region 9 with (fail)
 generalize (w5.setCell ⟨w.heap.size,0,none⟩ (.int .i64 N9)).setCell ⟨w.heap.size,1,none⟩ (.bool (!tn))=w6 at *;clear r0 r1 k0 k1 HS5 HF5;have BT6 : Hid (Mem.Blk w6 g1 41 #[.int .i64 3,.string nm,.slice xa xl xc,.slice (some ⟨tb,hto,none⟩) tl tc]) := HS6.o.blk 0 rfl;have BP6 : Hid (Mem.Blk w6 w.heap.size 88 #[.int .i64 N9,.bool (!tn),.slice ua un.length uc,.int .i64 3,.string nm,.slice xa xl xc,.slice (some ⟨tb,hto,none⟩) tl tc]) := HS6.o.blk 1 rfl;have HJ6 : Hid (RunTo base rb day fx fa fl fc w w6 vP vF { s with bad := !b9 } vP vF) := RunTo.of HJ.o ((HS6.o.drop 0).drop 0) HF6.o;clear HS6 HF6;obtain ⟨c0,c1,c2,c3,c4,c5,c6⟩ := blk7 BP6.o;have y3 : w6.cell? ⟨g1,3,none⟩=some (.slice (some ⟨tb,hto,none⟩) tl tc) := BT6.o.cell 3;obtain ⟨v0,v1,v2,v3⟩ := HW.o;replace v0 := HJ6.o.fr.cell v0 HNX.o;replace v1 := HJ6.o.fr.cell v1 HNX.o;replace v2 := HJ6.o.fr.cell v2 HNX.o;replace v3 := HJ6.o.fr.cell v3 HNX.o;have hlt9 : 0 < tl := HLT.o;refine wp_region_till (S := fun W => W.cell? ⟨g1,3,none⟩=some (.slice (some ⟨tb,hto,none⟩) tl tc)∧W.cell? ⟨w.heap.size,0,none⟩=some (.int .i64 N9)∧W.cell? ⟨w.heap.size,1,none⟩=some (.bool (!tn))∧W.cell? ⟨w.heap.size,2,none⟩=some (.slice ua un.length uc)∧W.cell? ⟨w.heap.size,3,none⟩=some (.int .i64 3)∧W.cell? ⟨w.heap.size,4,none⟩=some (.string nm)∧W.cell? ⟨w.heap.size,5,none⟩=some (.slice xa xl xc)∧W.cell? ⟨w.heap.size,6,none⟩=some (.slice (some ⟨tb,hto,none⟩) tl tc)∧W.cell? ⟨tb,hto,none⟩=some (.int .i64 q1)∧W.cell? ⟨tb,hto + 1,none⟩=some (.string q2)∧W.cell? ⟨tb,hto + 2,none⟩=some (.slice q3 q4' q5)∧W.cell? ⟨tb,hto + 3,none⟩=some (.slice q6 q7 q8)) 7 (by kernel_rfl) ?_;refine tk 0 ⟨y3,c0,c1,c2,c3,c4,c5,c6,v0,v1,v2,v3⟩ ?_;refine tk 1 ⟨y3,c0,c1,c2,c3,c4,c5,c6,v0,v1,v2,v3⟩ ?_;refine tk 2 ⟨y3,c0,c1,c2,c3,c4,c5,c6,v0,v1,v2,v3⟩ ?_;refine tk 3 ⟨y3,c0,c1,c2,c3,c4,c5,c6,v0,v1,v2,v3⟩ ?_;refine tk 4 ⟨y3,c0,c1,c2,c3,c4,c5,c6,v0,v1,v2,v3⟩ ?_;refine tk 5 ⟨y3,c0,c1,c2,c3,c4,c5,c6,v0,v1,v2,v3⟩ ?_;refine till_one (i := 6) (by kernel_rfl) rfl (fun K' hK => ?_);go_simp;have b0 : Below w6.heap.size w6 w6.drew := (Below.refl w6.heap.size w6).drew;(with_reducible refine (partWith_any _ _ _ _ _ _ _ _ _ _ _ _ _ _ _ _ _ _ _ _ _ _).mono ?_);rintro y w8 ⟨rfl,b1⟩;have bt := b0.trans (b1.mono b0.size);have HJ8 := LH9 (HJ6.o.trans (HJ6.o.run.below bt));have BP8 := LH9 (BP6.o.below bt);have BT8 := LH9 (BT6.o.below bt);refine hK _ _ ⟨cu9 y3 bt,cu9 c0 bt,cu9 c1 bt,cu9 c2 bt,cu9 c3 bt,cu9 c4 bt,cu9 c5 bt,cu9 c6 bt,cu9 v0 bt,cu9 v1 bt,cu9 v2 bt,cu9 v3 bt⟩ ?_;clear hK K' b0 b1 y3 c0 c1 c2 c3 c4 c5 c6 v0 v1 v2 v3 hlt9
 try simp only [Act.put,zp1,zp2,zp3,zp4,zp5,zp6]
 refine till_last (by kernel_rfl) rfl (by kernel_rfl) (fun K' hK => ?_);go_simp;have hic := HIH.o;have hrt8 : RepT w8 (X3 rb vP vF) (t0 t) [.int .i64 q1,.string q2,.slice q3 q4' q5,.slice q6 q7 q8] := HJ8.o.rep (K := teK) (x := (t0 t)) HRT.o;have huu8 : SlR exK w8 (X3 rb vP vF) un ua un.length uc := (HJ8.o.slr (K := exK) HU.o);unfold AcqC at hic;(with_reducible refine (hic N9 (!tn) un _ vP vF ua uc [.int .i64 q1,.string q2,.slice q3 q4' q5,.slice q6 q7 q8] w8 HN9.o HJ8.o.run hrt8 huu8 (by have := HSM.o; have := HKD.o; omega) (by have := HSM.o; have := HKD.o; first | omega | (show s.ps.length + _≤_; omega)) (by have := HSM.o; have := HKD.o; first | omega | (show s.fs.length + _≤_; omega))).mono ?_);rintro y w9 ⟨rfl,vP',vF',hR9⟩;have HR9 := LH9 (HJ8.o.trans hR9);have HR98 := LH9 hR9;clear hic hrt8 huu8;refine hK _ _ ?_;clear hK K' hR9 bt
 try simp only [Act.put,zp1,zp2,zp3,zp4,zp5,zp6]
 refine wpAny_done (by kernel_rfl) ?_ _
 go_wp2_with fail
 go_end0
 exact ⟨rfl,vP',vF',by rw [HE.o]; exact HR9.o⟩
end
end
section
theorem kid1_at {t : Te} (hb : bT t=true) (h : t.op=4) : t.terms[1]?=some (t1 t) := by
 obtain ⟨k1,k2,-⟩ := te_kids hb;rw [k2 (.inl h)]; rfl
section
variable (base rb : Nat) (day : Int) (fx : List Fx) (fa : Option Addr) (fl fc : Nat) (t : Te) (f : Int) (tn : Bool) (un : List Ex) (s : RS) (vP vF : Value) (ua : Option Addr) (uc : Nat) (cs : List Value) (w : World)
variable (hd : I64 day) (hf : I64 f) (hJ : RunJ base rb day fx fa fl fc w s vP vF) (hT : RepT w (X3 rb vP vF) t cs) (hU : SlR exK w (X3 rb vP vF) un ua un.length uc) (hb : bT t=true) (hbad : s.bad=false) (hk : un.length + t.rk≤1000) (hP : s.ps.length + t.nd≤100000) (hF : s.fs.length + t.nd≤100000)
include hd hf hJ hT hU hb hbad hk hP hF
theorem acq4_any (hop : t.op=4) (IH : AcqC base rb day fx fa fl fc (t0 t)) (IH1 : AcqC base rb day fx fa fl fc (t1 t)) :
 Calls Tryz.prog 27 #[.pointer (some ⟨rb,0,none⟩),.agg (.int .i64 f :: .bool tn :: .slice ua un.length uc :: cs).toArray] w fun x w' => x=.returned (.tuple #[])∧∃ vP' vF',RunTo base rb day fx fa fl fc w w' vP vF (acq day fx t f tn un s) vP' vF' := by
 have HIH := LH9 IH;have HIH1 := LH9 IH1;clear IH IH1;have HKD : Hid ((t0 t).rk + 1≤t.rk∧(t0 t).nd + 1≤t.nd) := kid0_bd hb (.inr (.inl hop));have hte : t.terms[0]?=some (t0 t) := kid0_at hb (.inr (.inl hop));have hte1 : t.terms[1]?=some (t1 t) := kid1_at hb hop;obtain ⟨S1,hS1⟩ : ∃ S1,S1=acq day fx (t0 t) f tn un s := ⟨_,rfl⟩;have HS1E := LH9 hS1;have HKD1 : Hid ((t1 t).rk + 1≤t.rk) := by
  have := rk_kid (List.mem_of_getElem? hte1);show _≤_; omega
 have HSM1 : Hid (un.length + t.rk≤1000∧S1.ps.length + (t1 t).nd≤100000∧S1.fs.length + (t1 t).nd≤100000) := by
  have h1 := acq_len day fx (t0 t).rk (t0 t) (Nat.le_refl _) (bT_kid hb (List.mem_of_getElem? hte)) f tn un s;rw [← hS1] at h1;obtain ⟨h2,h3⟩ := h1;have h4 := (nd_kids hb).1 hop;exact ⟨hk,by omega,by omega⟩
 clear hS1;obtain ⟨op,nm,exprs,terms,xa,xl,xc,ta,tl,tc,e1,e2,-,hnm,hX,hL⟩ := hT.inv;have hoe : op=t.op := by rw [e1]; rfl
 have hne : nm=t.nm := by rw [e1]; rfl
 have hxe : exprs=t.exprs := by rw [e1]; rfl
 have hte : terms=t.terms := by rw [e1]; rfl
 have HPT : Hid (ptK.R w (X3 rb vP vF) ⟨f,tn,un,t⟩ (.int .i64 f :: .bool tn :: .slice ua un.length uc :: cs)) := ⟨ua,uc,cs,rfl,hf,hU,hT⟩;subst e2;rw [hxe] at hX;rw [hte] at hL;clear e1 hxe hte;obtain rfl : op=4 := hoe.trans hop;have HT := LH9 hT;have HU := LH9 hU;have HX := LH9 hX;have HL := LH9 hL;have HJ := LH9 hJ;have HSM := LH9 (And.intro hk (And.intro hP hF));have HFI := LH9 hf;have HBT := LH9 hb;have HNM := LH9 hnm;have HDY := LH9 hd;have HOP := LH9 hop;have HNE := LH9 hne;have HBD := LH9 hbad;have HRB : Hid (rb < w.heap.size) := hJ.lt rb (by unfold X3; simp);obtain ⟨S9,hS9⟩ : ∃ S9,S9=acq day fx t f tn un s := ⟨_,rfl⟩;rw [← hS9];have HSS := LH9 hS9;have HS1 := LH9 (hJ.sep.new 88 #[.int .i64 f,.bool tn,.slice ua un.length uc,.int .i64 4,.string nm,.slice xa xl xc,.slice ta tl tc]);have HS2 := LH9 (HS1.o.new 41 #[.int .i64 4,.string nm,.slice xa xl xc,.slice ta tl tc]);have HN1 := LH9 (below_nT w (.cells #[.int .i64 f,.bool tn,.slice ua un.length uc,.int .i64 4,.string nm,.slice xa xl xc,.slice ta tl tc] 88));have HN2 := LH9 (HN1.o.trans ((below_nT (w.alloc (.cells #[.int .i64 f,.bool tn,.slice ua un.length uc,.int .i64 4,.string nm,.slice xa xl xc,.slice ta tl tc] 88)) (.cells #[.int .i64 4,.string nm,.slice xa xl xc,.slice ta tl tc] 41)).mono HN1.o.size));have HSZ : Hid ((w.alloc (.cells #[.int .i64 f,.bool tn,.slice ua un.length uc,.int .i64 4,.string nm,.slice xa xl xc,.slice ta tl tc] 88)).heap.size=w.heap.size + 1) := by show _=_; simp
 clear hT hU hX hL hJ hk hP hF hf hb hnm hd hoe hne hS9 hop hbad
 go_enter Tryz.func27,Tryz.ntmps27
 go_upto_region 1 with (fail)
 generalize w.alloc (.cells #[.int .i64 f,.bool tn,.slice ua un.length uc,.int .i64 4,.string nm,.slice xa xl xc,.slice ta tl tc] 88)=w1 at *;obtain ⟨c0,c1,c2,c3,c4,c5,c6⟩ := blk7 (HS1.o.blk 0 rfl)
 go_upto_region 2 with (fail)
 generalize w1.alloc (.cells #[.int .i64 4,.string nm,.slice xa xl xc,.slice ta tl tc] 41)=w2 at *;generalize w1.heap.size=g1 at *;clear c0 c1 c2 c3 c4 c5 c6;have HG1 : Hid (w.heap.size < g1) := by have := HSZ.o; show _ < _; omega
 have q4 : w2.cell? ⟨rb,4,none⟩=some (.bool s.bad) := (HS2.o.blk 4 rfl).cell 4;rw [HBD.o] at q4;have y0 : w2.cell? ⟨g1,0,none⟩=some (.int .i64 4) := (HS2.o.blk 0 rfl).cell 0;obtain ⟨htl,tb,hto,q1,q2,q3,q4',q5,q6,q7,q8,rfl,htX,hRT,v0,v1,v2,v3⟩ := te_one HL.o hte;obtain ⟨htl1,tb1,hto1,p1,p2,p3,p4,p5,p6,p7,p8,htE,htX1,hRT1,x0,x1,x2,x3⟩ := te_one HL.o hte1;injection htE with htE;injection htE with htE1 htE2;subst htE1;subst htE2;rw [Nat.zero_mul,Nat.add_zero] at v0 v1 v2 v3;rw [Nat.one_mul] at x0 x1 x2 x3;have HW : Hid (w.cell? ⟨tb,hto,none⟩=some (.int .i64 q1)∧w.cell? ⟨tb,hto + 1,none⟩=some (.string q2)∧w.cell? ⟨tb,hto + 2,none⟩=some (.slice q3 q4' q5)∧w.cell? ⟨tb,hto + 3,none⟩=some (.slice q6 q7 q8)) := ⟨v0,v1,v2,v3⟩;have HW1 : Hid (w.cell? ⟨tb,hto + 4,none⟩=some (.int .i64 p1)∧w.cell? ⟨tb,hto + 4 + 1,none⟩=some (.string p2)∧w.cell? ⟨tb,hto + 4 + 2,none⟩=some (.slice p3 p4 p5)∧w.cell? ⟨tb,hto + 4 + 3,none⟩=some (.slice p6 p7 p8)) := ⟨x0,x1,x2,x3⟩;have HRT := LH9 hRT;have HRT1 := LH9 hRT1;have HNX : Hid (tb ∉ X3 rb vP vF) := htX;have HLT := LH9 htl;have HLT1 := LH9 htl1;clear htl htl1 htX htX1 hRT hRT1 v0 v1 v2 v3 x0 x1 x2 x3 hte hte1;have BT2 : Hid (Mem.Blk w2 g1 41 #[.int .i64 4,.string nm,.slice xa xl xc,.slice (some ⟨tb,hto,none⟩) tl tc]) := HS2.o.blk 0 rfl;have BP2 : Hid (Mem.Blk w2 w.heap.size 88 #[.int .i64 f,.bool tn,.slice ua un.length uc,.int .i64 4,.string nm,.slice xa xl xc,.slice (some ⟨tb,hto,none⟩) tl tc]) := HS2.o.blk 1 rfl;have HJ2 := LH9 (HJ.o.below HN2.o);have HE := LH9 (acq4 (day := day) (fx := fx) (f := f) (tn := tn) (un := un) HBT.o HBD.o HOP.o);rw [← HSS.o,← HS1E.o] at HE
 go_upto_region 11 with (fail)
 clear q4 y0;obtain ⟨c0,c1,c2,c3,c4,c5,c6⟩ := blk7 BP2.o;have y3 : w2.cell? ⟨g1,3,none⟩=some (.slice (some ⟨tb,hto,none⟩) tl tc) := BT2.o.cell 3;obtain ⟨v0,v1,v2,v3⟩ := HW.o;replace v0 := HJ2.o.fr.cell v0 HNX.o;replace v1 := HJ2.o.fr.cell v1 HNX.o;replace v2 := HJ2.o.fr.cell v2 HNX.o;replace v3 := HJ2.o.fr.cell v3 HNX.o;have hlt9 : 0 < tl := HLT.o;refine wp_region_till (S := fun W => W.cell? ⟨g1,3,none⟩=some (.slice (some ⟨tb,hto,none⟩) tl tc)∧W.cell? ⟨w.heap.size,0,none⟩=some (.int .i64 f)∧W.cell? ⟨w.heap.size,1,none⟩=some (.bool tn)∧W.cell? ⟨w.heap.size,2,none⟩=some (.slice ua un.length uc)∧W.cell? ⟨w.heap.size,3,none⟩=some (.int .i64 4)∧W.cell? ⟨w.heap.size,4,none⟩=some (.string nm)∧W.cell? ⟨w.heap.size,5,none⟩=some (.slice xa xl xc)∧W.cell? ⟨w.heap.size,6,none⟩=some (.slice (some ⟨tb,hto,none⟩) tl tc)∧W.cell? ⟨tb,hto,none⟩=some (.int .i64 q1)∧W.cell? ⟨tb,hto + 1,none⟩=some (.string q2)∧W.cell? ⟨tb,hto + 2,none⟩=some (.slice q3 q4' q5)∧W.cell? ⟨tb,hto + 3,none⟩=some (.slice q6 q7 q8)) 7 (by kernel_rfl) ?_;refine tk 0 ⟨y3,c0,c1,c2,c3,c4,c5,c6,v0,v1,v2,v3⟩ ?_;refine tk 1 ⟨y3,c0,c1,c2,c3,c4,c5,c6,v0,v1,v2,v3⟩ ?_;refine tk 2 ⟨y3,c0,c1,c2,c3,c4,c5,c6,v0,v1,v2,v3⟩ ?_;refine tk 3 ⟨y3,c0,c1,c2,c3,c4,c5,c6,v0,v1,v2,v3⟩ ?_;refine tk 4 ⟨y3,c0,c1,c2,c3,c4,c5,c6,v0,v1,v2,v3⟩ ?_;refine tk 5 ⟨y3,c0,c1,c2,c3,c4,c5,c6,v0,v1,v2,v3⟩ ?_;refine till_one (i := 6) (by kernel_rfl) rfl (fun K' hK => ?_);go_simp;have b0 : Below w2.heap.size w2 w2.drew := (Below.refl w2.heap.size w2).drew;(with_reducible refine (partWith_any _ _ _ _ _ _ _ _ _ _ _ _ _ _ _ _ _ _ _ _ _ _).mono ?_);rintro y w8 ⟨rfl,b1⟩;have bt := b0.trans (b1.mono b0.size);have HJ8 := LH9 (HJ2.o.trans (HJ2.o.run.below bt));have BP8 := LH9 (BP2.o.below bt);have BT8 := LH9 (BT2.o.below bt);refine hK _ _ ⟨cu9 y3 bt,cu9 c0 bt,cu9 c1 bt,cu9 c2 bt,cu9 c3 bt,cu9 c4 bt,cu9 c5 bt,cu9 c6 bt,cu9 v0 bt,cu9 v1 bt,cu9 v2 bt,cu9 v3 bt⟩ ?_;clear hK K' b0 b1 y3 c0 c1 c2 c3 c4 c5 c6 v0 v1 v2 v3 hlt9
 try simp only [Act.put,zp1,zp2,zp3,zp4,zp5,zp6]
 refine till_last (by kernel_rfl) rfl (by kernel_rfl) (fun K' hK => ?_);go_simp;have hic := HIH.o;have hrt8 : RepT w8 (X3 rb vP vF) (t0 t) [.int .i64 q1,.string q2,.slice q3 q4' q5,.slice q6 q7 q8] := HJ8.o.rep (K := teK) (x := (t0 t)) HRT.o;have huu8 : SlR exK w8 (X3 rb vP vF) un ua un.length uc := (HJ8.o.slr (K := exK) HU.o);unfold AcqC at hic;(with_reducible refine (hic f tn un _ vP vF ua uc [.int .i64 q1,.string q2,.slice q3 q4' q5,.slice q6 q7 q8] w8 HFI.o HJ8.o.run hrt8 huu8 (by have := HSM.o; have := HKD.o; omega) (by have := HSM.o; have := HKD.o; first | omega | (show s.ps.length + _≤_; omega)) (by have := HSM.o; have := HKD.o; first | omega | (show s.fs.length + _≤_; omega))).mono ?_);rintro y w9 ⟨rfl,vP',vF',hR9⟩;have HR9 := LH9 (HJ8.o.trans hR9);have HR98 := LH9 hR9;clear hic hrt8 huu8;refine hK _ _ ?_;clear hK K' hR9 bt
 try simp only [Act.put,zp1,zp2,zp3,zp4,zp5,zp6]
 refine wpAny_done (by kernel_rfl) ?_ _;rw [← HS1E.o] at HR9;have hnP : w.heap.size ∉ X3 rb vP vF := fun hm => by have := HJ.o.lt _ hm; omega
 have hnT : g1 ∉ X3 rb vP vF := fun hm => by have := HJ.o.lt _ hm; have := HG1.o; omega
 have BP9 := LH9 (HR98.o.fr.blk BP8.o hnP);have BT9 := LH9 (HR98.o.fr.blk BT8.o hnT);have HJ9 := HR9;clear HR9 HR98 BP8 BT8 hnP hnT HJ8 HJ2 BP2 BT2;obtain ⟨pV,hpV⟩ : ∃ v,v=vP' := ⟨_,rfl⟩;subst hpV;obtain ⟨fV,hfV⟩ : ∃ v,v=vF' := ⟨_,rfl⟩;subst hfV;obtain ⟨W9,hW9⟩ : ∃ v,v=w9 := ⟨_,rfl⟩;subst hW9
 go_upto_region 12 with (fail)
 obtain ⟨c0,c1,c2,c3,c4,c5,c6⟩ := blk7 BP9.o;have y3 : W9.cell? ⟨g1,3,none⟩=some (.slice (some ⟨tb,hto,none⟩) tl tc) := BT9.o.cell 3;obtain ⟨v0,v1,v2,v3⟩ := HW1.o;replace v0 := HJ9.o.fr.cell v0 HNX.o;replace v1 := HJ9.o.fr.cell v1 HNX.o;replace v2 := HJ9.o.fr.cell v2 HNX.o;replace v3 := HJ9.o.fr.cell v3 HNX.o;have hlt9 : (1 : Int) < (tl : Int) := by have := HLT1.o; omega
 refine wp_region_till (S := fun W => W.cell? ⟨g1,3,none⟩=some (.slice (some ⟨tb,hto,none⟩) tl tc)∧W.cell? ⟨w.heap.size,0,none⟩=some (.int .i64 f)∧W.cell? ⟨w.heap.size,1,none⟩=some (.bool tn)∧W.cell? ⟨w.heap.size,2,none⟩=some (.slice ua un.length uc)∧W.cell? ⟨w.heap.size,3,none⟩=some (.int .i64 4)∧W.cell? ⟨w.heap.size,4,none⟩=some (.string nm)∧W.cell? ⟨w.heap.size,5,none⟩=some (.slice xa xl xc)∧W.cell? ⟨w.heap.size,6,none⟩=some (.slice (some ⟨tb,hto,none⟩) tl tc)∧W.cell? ⟨tb,hto + 4,none⟩=some (.int .i64 p1)∧W.cell? ⟨tb,hto + 4 + 1,none⟩=some (.string p2)∧W.cell? ⟨tb,hto + 4 + 2,none⟩=some (.slice p3 p4 p5)∧W.cell? ⟨tb,hto + 4 + 3,none⟩=some (.slice p6 p7 p8)) 7 (by kernel_rfl) ?_;refine tk 0 ⟨y3,c0,c1,c2,c3,c4,c5,c6,v0,v1,v2,v3⟩ ?_;refine tk 1 ⟨y3,c0,c1,c2,c3,c4,c5,c6,v0,v1,v2,v3⟩ ?_;refine tk 2 ⟨y3,c0,c1,c2,c3,c4,c5,c6,v0,v1,v2,v3⟩ ?_;refine tk 3 ⟨y3,c0,c1,c2,c3,c4,c5,c6,v0,v1,v2,v3⟩ ?_;refine tk 4 ⟨y3,c0,c1,c2,c3,c4,c5,c6,v0,v1,v2,v3⟩ ?_;refine tk 5 ⟨y3,c0,c1,c2,c3,c4,c5,c6,v0,v1,v2,v3⟩ ?_;refine till_one (i := 6) (by kernel_rfl) rfl (fun K' hK => ?_);go_simp;have b0 : Below W9.heap.size W9 W9.drew := (Below.refl W9.heap.size W9).drew;(with_reducible refine (partWith_any _ _ _ _ _ _ _ _ _ _ _ _ _ _ _ _ _ _ _ _ _ _).mono ?_);rintro y w8 ⟨rfl,b1⟩;have bt := b0.trans (b1.mono b0.size);have HJ8 := LH9 (HJ9.o.trans (HJ9.o.run.below bt));have BP8 := LH9 (BP9.o.below bt);have BT8 := LH9 (BT9.o.below bt);refine hK _ _ ⟨cu9 y3 bt,cu9 c0 bt,cu9 c1 bt,cu9 c2 bt,cu9 c3 bt,cu9 c4 bt,cu9 c5 bt,cu9 c6 bt,cu9 v0 bt,cu9 v1 bt,cu9 v2 bt,cu9 v3 bt⟩ ?_;clear hK K' b0 b1 y3 c0 c1 c2 c3 c4 c5 c6 v0 v1 v2 v3 hlt9
 try simp only [Act.put,zp1,zp2,zp3,zp4,zp5,zp6]
 refine till_last (by kernel_rfl) rfl (by kernel_rfl) (fun K' hK => ?_);go_simp;have hic := HIH1.o;have hrt8 : RepT w8 (X3 rb pV fV) (t1 t) [.int .i64 p1,.string p2,.slice p3 p4 p5,.slice p6 p7 p8] := HJ8.o.rep (K := teK) (x := (t1 t)) HRT1.o;have huu8 : SlR exK w8 (X3 rb pV fV) un ua un.length uc := (HJ8.o.slr (K := exK) HU.o);unfold AcqC at hic;(with_reducible refine (hic f tn un _ pV fV ua uc [.int .i64 p1,.string p2,.slice p3 p4 p5,.slice p6 p7 p8] w8 HFI.o HJ8.o.run hrt8 huu8 (by have := HSM1.o; have := HKD1.o; omega) (by have := HSM1.o; have := HKD1.o; first | omega | (show s.ps.length + _≤_; omega)) (by have := HSM1.o; have := HKD1.o; first | omega | (show s.fs.length + _≤_; omega))).mono ?_);rintro y w9 ⟨rfl,vP',vF',hR9⟩;have HR9 := LH9 (HJ8.o.trans hR9);have HR98 := LH9 hR9;clear hic hrt8 huu8;refine hK _ _ ?_;clear hK K' hR9 bt
 try simp only [Act.put,zp1,zp2,zp3,zp4,zp5,zp6]
 refine wpAny_done (by kernel_rfl) ?_ _
 go_wp2_with fail
 go_end0
 exact ⟨rfl,vP',vF',by rw [HE.o]; exact HR9.o⟩
end
end
section
end
end Go.Proofs.YtmiinmndbkdjbaaGreat
