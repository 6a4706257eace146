/- A part of the proof: Enw, LvU, Open, OpenV, one behind another. -/
import Derived.Test.YtmiinmndbkdjbaaGreatMTA
import Derived.Test.YtmiinmndbkdjbaaGreatMTB
import Derived.Test.YtmiinmndbkdjbaaGreatMTC
import Derived.Test.YtmiinmndbkdjbaaGreatMTD
import Derived.Test.YtmiinmndbkdjbaaGreatMTE
import Derived.Test.YtmiinmndbkdjbaaGreatMTG
import Derived.Test.YtmiinmndbkdjbaaGreatMTK
import Derived.Test.YtmiinmndbkdjbaaGreatMTO
import Derived.Test.YtmiinmndbkdjbaaGreatMTQ
import Derived.Test.YtmiinmndbkdjbaaGreatMTR
import Derived.Test.YtmiinmndbkdjbaaGreatMTZ
import Derived.Test.YtmiinmndbkdjbaaGreatMTQA
import Derived.Test.YtmiinmndbkdjbaaGreatMTQB
import Derived.WalkKit
import Derived.ProofKit
import Derived.OpenShut
import Derived.ShutString
import Derived.ChangeOld
import Derived.Below
import Derived.Deep.Slices
import Derived.Deep.Fields
import Derived.ChangeSame
import Derived.Lib.Hide
set_option maxRecDepth 100000
set_option maxHeartbeats 16000000
set_option linter.unusedVariables false
set_option linter.unusedSimpArgs false
namespace Go.Proofs.YtmiinmndbkdjbaaGreat
open Go.RowKit
section
theorem infoF : (Tryz.prog.info? 91).map (fun i => (i.zero,i.size,i.bytes))=some (some (.agg #[.string ⟨#[]⟩,.int .i64 0,.int .i64 0]),3,32) := by kernel_rfl
def famV (h : Nat) (day : Int) (a : Option Addr) (len cap : Nat) (fs : List Fx) (vA : Value) : List Ob :=
 [gr fxK 91 h fs vA,bx (h + 1 + 1) 44 #[.int .i64 day,vA],bx (h + 1) 44 #[.int .i64 0,.slice none 0 0],bx h 26 #[.int .i64 day,.slice a len cap]]
structure EnvJ (w wr : World) (day : Int) (a : Option Addr) (len cap : Nat) (fs : List Fx) (vA : Value) : Prop where
 below : Below w.heap.size w wr
 sep : Sep wr (famV w.heap.size day a len cap fs vA)
section
variable {w wr wr' : World} {day : Int} {a : Option Addr} {len cap : Nat} {fs : List Fx} {vA : Value}
theorem EnvJ.up (h : EnvJ w wr day a len cap fs vA) (hb : Below wr.heap.size wr wr') : EnvJ w wr' day a len cap fs vA := ⟨h.below.trans (hb.mono h.below.size),h.sep.below hb⟩
theorem EnvJ.push {w1 : World} {csl : List (List Value)} {v' : Value} {x : Fx} {c : List Value} (h : EnvJ w wr day a len cap fs vA)
 (hG : Grow fxK 91 w.heap.size wr (others (famV w.heap.size day a len cap fs vA) 0) fs vA csl)
 (hR : fxK.R wr (owns (famV w.heap.size day a len cap fs vA)) x c)
 (ho : w1.ownsRow w.heap.size 91 3 v' (fs.length + 1) (csl.flatten ++ c)) (hg : wr.grownBy w1 vA.ownBlock) (hv : v'.ownBlock=vA.ownBlock∨v'.ownBlock=some wr.heap.size) :
 (w1.cell? ⟨w.heap.size + 1 + 1,1,none⟩=some vA∧w1.frozen? ⟨w.heap.size + 1 + 1,1,none⟩=false)∧EnvJ w (w1.setCell ⟨w.heap.size + 1 + 1,1,none⟩ v') day a len cap (fs ++ [x]) v' := by
 have h1 := h.sep.push 0 rfl hG (x := x) (c := c) hR ho hg hv;have h2 := h1.store 1 rfl 1 v';exact ⟨⟨(h1.blk 1 rfl).cell 1,(h1.blk 1 rfl).frozen 1⟩,(h.below.grown hg h.below.size (fun b hb => (hG.blt hb).1)).setCell (by show w.heap.size≤w.heap.size + 1 + 1; omega) _,h2⟩
theorem EnvJ.fin {aA : Option Addr} {cA : Nat} (h : EnvJ w wr day a len cap fs (.slice aA fs.length cA)) :
 SlR fxK ((wr.setCell ⟨w.heap.size + 1,0,none⟩ (.int .i64 day)).setCell ⟨w.heap.size + 1,1,none⟩ (.slice aA fs.length cA)) [] fs aA fs.length cA ∧
 Below w.heap.size w ((wr.setCell ⟨w.heap.size + 1,0,none⟩ (.int .i64 day)).setCell ⟨w.heap.size + 1,1,none⟩ (.slice aA fs.length cA)) ∧
 Mem.Blk ((wr.setCell ⟨w.heap.size + 1,0,none⟩ (.int .i64 day)).setCell ⟨w.heap.size + 1,1,none⟩ (.slice aA fs.length cA)) (w.heap.size + 1) 44 #[.int .i64 day,.slice aA fs.length cA] := by
 have h1 := (h.sep.store 2 rfl 0 (.int .i64 day)).store 2 rfl 1 (.slice aA fs.length cA);obtain ⟨a',c',e,hS⟩ := h1.still 0 rfl;injection e with e1 e2 e3; subst e1; subst e3;have hl : w.heap.size≤w.heap.size + 1 := by omega
 exact ⟨hS.free,(h.below.setCell hl _).setCell hl _,h1.blk 2 rfl⟩
end
theorem EnvJ.start {w : World} {day : Int} {a : Option Addr} {len cap : Nat} : EnvJ w (((w.alloc (.cells #[.int .i64 day,.slice a len cap] 26)).alloc (.cells #[.int .i64 0,.slice none 0 0] 44)).alloc (.cells #[.int .i64 day,.slice none 0 0] 44)) day a len cap [] (.slice none 0 0) := by
 have h1 := (((Sep.nil w).new 26 #[.int .i64 day,.slice a len cap]).new 44 #[.int .i64 0,.slice none 0 0]).new 44 #[.int .i64 day,.slice none 0 0];have e1 : (w.alloc (.cells #[.int .i64 day,.slice a len cap] 26)).heap.size=w.heap.size + 1 := by simp
 have e2 : ((w.alloc (.cells #[.int .i64 day,.slice a len cap] 26)).alloc (.cells #[.int .i64 0,.slice none 0 0] 44)).heap.size=w.heap.size + 1 + 1 := by simp
 rw [e1,e2] at h1;exact ⟨(((Below.refl _ w).alloc (Nat.le_refl _) _).alloc (by simp) _).alloc (by simp; omega) _,h1.addGr fxK 91 (by simp; omega)⟩
def RetVs (w : World) (day : Int) (fs : List Fx) (x : Ending) : Prop := ∃ a cap,x=.returned (.agg #[.int .i64 day,.slice a fs.length cap])∧SlR fxK w [] fs a fs.length cap
theorem env_any (day : Int) (fx : List Fx) (a : Option Addr) (len cap : Nat) (w : World) (hS : SlR fxK w [] fx a len cap) (h2 : len≤200) :
 Calls Tryz.prog 10 #[.agg #[.int .i64 day,.slice a len cap]] w fun x w' => RetVs w' day fx x∧Below w.heap.size w w' := by
 obtain ⟨f1,f2,f3⟩ := hS.facts;have HL := LH9 f1;have HSS := LH9 hS;have HR0 := LH9 (EnvJ.start (w := w) (day := day) (a := a) (len := len) (cap := cap));clear hS f1
 go_enter Tryz.func10,Tryz.ntmps10
 go_upto_region 2 with (fail)
 generalize ((w.alloc (.cells #[.int .i64 day,.slice a len cap] 26)).alloc (.cells #[.int .i64 0,.slice none 0 0] 44)).alloc (.cells #[.int .i64 day,.slice none 0 0] 44)=v at *
 go_wp2_with fail
 go_loopw [4] (fun i wr => ∃ (k : Nat) (vA : Value),i=.int .i64 (k : Nat)∧k≤len∧Hid (EnvJ w wr day a len cap (fx.take k) vA)) (fun i _ => len - (intOf i).toNat)
 case atStart => exact ⟨0,_,rfl,Nat.zero_le _,HR0.o⟩
 case round =>
  clear HR0;obtain ⟨k,vA,rfl,hk,HR⟩ := hrel;obtain ⟨e0,e1,-,-⟩ := (HR.o.sep.blk 3 rfl).two;have hlk : (fx.take k).length=k := by rw [List.length_take,HL.o]; omega
  have HLK := LH9 hlk;by_cases hlt : k < len
  · have j1' : (k : Int) < (len : Int) := by omega
    obtain ⟨b,o,f,rfl,-,-,hxe,hsz,q1,q2,u0,u1,u2⟩ := fx_at (HSS.o.kept (Kept.of_below HR.o.below [])) k hlt;have HTK : Hid (fx.take (k + 1)=fx.take k ++ [f]) := by
     show fx.take (k + 1)=_;obtain ⟨hk',he⟩ := List.getElem?_eq_some_iff.1 hxe;rw [← he]; exact (List.take_append_getElem hk').symm
    have HFX : Hid (f.name.size≤9223372036854775807∧I64 f.day∧I64 f.val) := ⟨hsz,q1,q2⟩;clear hxe hlk hsz q1 q2;have d1 : wr.cell? ⟨w.heap.size + 1 + 1,1,none⟩=some vA := (HR.o.sep.blk 1 rfl).cell 1;generalize fx.take k=FS at *
    go_wp2_with fail
    refine wp_region_till (S := fun W => W.cell? ⟨w.heap.size + 1 + 1,1,none⟩=some vA∧W.cell? ⟨w.heap.size,1,none⟩=some (.slice (some ⟨b,o,none⟩) len cap)∧W.cell? ⟨b,o + k * 3,none⟩=some (.string f.name)∧W.cell? ⟨b,o + k * 3 + 1,none⟩=some (.int .i64 f.day)∧W.cell? ⟨b,o + k * 3 + 2,none⟩=some (.int .i64 f.val)) 8 (by kernel_rfl) ?_;refine tk 0 ⟨d1,e1,u0,u1,u2⟩ ?_;refine tk 1 ⟨d1,e1,u0,u1,u2⟩ ?_;refine tk 2 ⟨d1,e1,u0,u1,u2⟩ ?_;refine tk 3 ⟨d1,e1,u0,u1,u2⟩ ?_;refine tk 4 ⟨d1,e1,u0,u1,u2⟩ ?_;refine tk 5 ⟨d1,e1,u0,u1,u2⟩ ?_;refine tk 6 ⟨d1,e1,u0,u1,u2⟩ ?_;refine till_one (i := 7) (by kernel_rfl) rfl (fun K' hK => ?_);go_simp;have hbn := below_new wr (.cells #[.string f.name,.int .i64 f.day,.int .i64 f.val] 91);have HB2 := LH9 (HR.o.up hbn);have BZ := LH9 (Mem.Blk.new wr 91 #[.string f.name,.int .i64 f.day,.int .i64 f.val]).drew;refine hK _ _ ⟨cu9 d1 hbn,cu9 e1 hbn,cu9 u0 hbn,cu9 u1 hbn,cu9 u2 hbn⟩ ?_;clear hK K' hbn HR d1 e0 e1 u0 u1 u2;generalize (wr.alloc (.cells #[.string f.name,.int .i64 f.day,.int .i64 f.val] 91)).drew=w2 at *;generalize wr.heap.size=z at *
    try simp only [Act.put,zp1,zp2,zp3,zp4,zp5,zp6]
    refine till_last (by kernel_rfl) rfl (by kernel_rfl) (fun K' hK => ?_);obtain ⟨csl,hGr⟩ := HB2.o.sep.at 0 rfl;refine step_ap infoF Tryz.underlying42 rfl (by decide) rfl (.tmp 16) (.tmp 22) rfl rfl hGr.own hGr.room ⟨z,0,none⟩ 1 1 [.string f.name,.int .i64 f.day,.int .i64 f.val] rfl rfl (fun m u hm => by rw [Mem.add0,BZ.o.cell]; simpa using hm) (by simp [Value.oneCell']) (by have := HLK.o; unfold maxLen; omega) (by have := HLK.o; omega) ?_;intro v' w3 og gg hv';obtain ⟨g2,capn,rfl,-,-,-,-⟩ := own_form og (by omega);refine hK _ _ ?_;clear hK K';obtain ⟨⟨m4,m5⟩,hB3⟩ := HB2.o.push hGr (x := f) (c := fxC f) ⟨rfl,HFX.o⟩ og gg hv';have HB3 := LH9 hB3;clear HB2 hGr og gg hv' BZ hB3
    try simp only [Act.put,zp1,zp2,zp3,zp4,zp5,zp6]
    refine ak 9 ?_;refine any_one (i := 10) (by kernel_rfl) rfl (fun K' hK => ?_);go_simp;refine hK _ _ ?_;clear hK K' m4 m5;refine wpAny_done (by kernel_rfl) ?_ _;rw [← HTK.o] at HB3;generalize FS.length=ln at *;obtain rfl : ln=k := HLK.o
    go_wp2_with fail
    go_roundw
    case rel => exact ⟨ln + 1,_,by go_num,by omega,HB3.o⟩
    case measure => simp [intOf]; omega
  · have hk' : ¬ (k : Int) < (len : Int) := by omega
    obtain rfl : k=len := by omega
    have hfk : fx.take k=fx := List.take_of_length_le (by rw [HL.o]; omega);rw [hfk] at HR;obtain ⟨a',cA,rfl,hSv⟩ := HR.o.sep.still 0 rfl;have HFN := LH9 HR.o.fin;obtain ⟨s0,s1,s2,s3⟩ := (HR.o.sep.blk 1 rfl).two;obtain ⟨t0,t1,t2,t3⟩ := (HR.o.sep.blk 2 rfl).two;have hm := (HR.o.sep.blk 2 rfl).lt;clear hSv HR hfk hlk HLK;have hfl := HL.o;clear HL;subst hfl
    go_wp2_with fail
    generalize (wr.setCell ⟨w.heap.size + 1,0,none⟩ (.int .i64 day)).setCell ⟨w.heap.size + 1,1,none⟩ (.slice a' fx.length cA)=W9 at *;obtain ⟨r0,r1,-,-⟩ := HFN.o.2.2.two;refine bodyPost_ret (v := .agg #[.int .i64 day,.slice a' fx.length cA]) (by simp [results,Tryz.results10,go_sem,r0,r1]) rfl ⟨⟨a',cA,rfl,HFN.o.1⟩,HFN.o.2.1⟩
end
section
def OutA (day : Int) (fx : List Fx) (t : Te) (w : World) (x : Ending) : Prop := ∃ pa pn pc qa qn qc e,x=.returned (.tuple #[.slice pa pn pc,.slice qa qn qc,.int .i64 e]) ∧
 ((fitC t ≠ 0∧e=fitC t∧pa=none∧pn=0∧pc=0∧qa=none∧qn=0∧qc=0)∨(fitC t=0∧(acq day fx t 1 false [] s0).bad=true∧e=2∧pa=none∧pn=0∧pc=0∧qa=none∧qn=0∧qc=0) ∨
  (fitC t=0∧(acq day fx t 1 false [] s0).bad=false∧e=0∧pn=(acq day fx t 1 false [] s0).ps.length∧qn=(acq day fx t 1 false [] s0).fs.length∧SlR ptK w [] (acq day fx t 1 false [] s0).ps pa pn pc∧SlR flK w [] (acq day fx t 1 false [] s0).fs qa qn qc))
theorem start_all (day : Int) (fx : List Fx) (fa : Option Addr) (fl fc : Nat) (t : Te) (cs : List Value) (w : World) (hd : I64 day) (hS : SlR fxK w [] fx fa fl fc) (hT : RepT w [] t cs) (hk : t.rk < 1000) :
 Calls Tryz.prog 9 #[.agg cs.toArray,.agg #[.int .i64 day,.slice fa fl fc]] w fun x w' => OutA day fx t w' x∧Below w.heap.size w w' := by
 by_cases hf : fitC t=0
 · cases hb : (acq day fx t 1 false [] s0).bad with
   | true => exact (start_bad day fx fa fl fc t cs w hd hS hT hf hb).mono fun x w' ⟨h1,h2⟩ => ⟨⟨none,0,0,none,0,0,2,h1,.inr (.inl ⟨hf,hb,rfl,rfl,rfl,rfl,rfl,rfl,rfl⟩)⟩,h2⟩
   | false => exact (start_ok day fx fa fl fc t cs w hd hS hT hf hb).mono fun x w' ⟨⟨pa,pc,qa,qc,h1,h3,h4⟩,h2⟩ => ⟨⟨pa,_,pc,qa,_,qc,0,h1,.inr (.inr ⟨hf,hb,rfl,rfl,rfl,h3,h4⟩)⟩,h2⟩
 · exact (start_err day fa fl fc t cs w hT hk hf).mono fun x w' ⟨h1,h2⟩ => ⟨⟨none,0,0,none,0,0,_,h1,.inl ⟨hf,rfl,rfl,rfl,rfl,rfl,rfl,rfl⟩⟩,h2⟩
theorem AqR.bad {w : World} {R : RS} {x : Ending} (h : AqR w R x) (hb : R.bad=true) : x=.returned (.tuple #[.slice none 0 0,.slice none 0 0,.bool false]) := by
 rcases h with ⟨-,h⟩ | ⟨h,-⟩
 · exact h
 · rw [hb] at h; cases h
theorem AqR.good {w : World} {R : RS} {x : Ending} (h : AqR w R x) (hb : R.bad=false) : ∃ pa pc qa qc,x=.returned (.tuple #[.slice pa R.ps.length pc,.slice qa R.fs.length qc,.bool true])∧SlR ptK w [] R.ps pa R.ps.length pc∧SlR flK w [] R.fs qa R.fs.length qc := by
 rcases h with ⟨h,-⟩ | ⟨-,h⟩
 · rw [hb] at h; cases h
 · exact h
theorem lifeStarts_any (a : Option Addr) (len cap : Nat) (lfs : List Lf) (a' : Option Addr) (len' cap' : Nat) (kns : List Kn) (day1 : Int) (f1 : Option Addr) (l1 c1 : Nat) (fx1 : List Fx) (W : World)
 (h1 : SlR lfK W [] lfs a len cap) (h2 : SlR knK W [] kns a' len' cap') (h3 : SlR fxK W [] fx1 f1 l1 c1) (d1 : I64 day1) :
 Calls Tryz.prog 3 #[.slice a len cap,.slice a' len' cap',.agg #[.int .i64 day1,.slice f1 l1 c1]] W fun x w' => x=.returned (.bool true)∧Below W.heap.size W w' := by
 have hb1 := below_nT W (.cells #[.int .i64 day1,.slice f1 l1 c1] 26);have HB0 := LH9 hb1;have E1 := LH9 (Mem.Blk.new W 26 #[.int .i64 day1,.slice f1 l1 c1]);have H1 := LH9 h1;have H2 := LH9 h2;have H3 := LH9 h3;have D1 := LH9 d1;clear h1 h2 h3 d1 hb1
 go_enter Tryz.func3,Tryz.ntmps3
 go_upto_region 1 with (fail)
 generalize W.alloc (.cells #[.int .i64 day1,.slice f1 l1 c1] 26)=w0 at *;obtain ⟨m0,m1,-,-⟩ := E1.o.two
 go_wp2_with fail
 go_at_call 6;(with_reducible refine (great23_any day1 a a' f1 len cap len' cap' l1 c1 w0).mono ?_);rintro y w1 ⟨rfl,b1⟩;have HB1 := LH9 (HB0.o.trans (b1.mono HB0.o.size));have E11 := LH9 (E1.o.below b1);clear m0 m1 b1 HB0 E1;by_cases hg : 60 < len∨60 < len'∨60 < l1
 · rw [decide_eq_true hg];clear hg
   go_wp2_with fail
   go_at_call 7;(with_reducible refine (awake23_any w1).mono ?_);rintro y w9 ⟨rfl,b9⟩;have HB9 := LH9 (HB1.o.trans (b9.mono HB1.o.size));clear b9
   go_wp2_with fail
   go_ret;exact ⟨rfl,HB9.o⟩
 rw [decide_eq_false hg];have HG := LH9 hg;clear hg;have HBU := LH9 (build_any lfs kns a a' len cap len' cap' w1 (H1.o.kept (Kept.of_below HB1.o [])) (H2.o.kept (Kept.of_below HB1.o [])))
 go_wp2_with fail
 go_at_call 8;(with_reducible refine HBU.o.mono ?_);rintro e w2 ⟨⟨es,ts,cs,rfl,hT,-,hle,-,hrk⟩,b2⟩;obtain ⟨aE,cE,aN,cN,aD,cD,aT,cT,aM,cM,aP,cP,hcs,-⟩ := id hT;have hal := below_nT w2 (.cells #[.slice aE es.length cE,.slice aN (nds es).length cN,.slice aD (rks es).length cD,.slice aT ts.length cT,.slice aM (ndsT ts).length cM,.slice aP (rksT ts).length cP] 33);have HB3 := LH9 (HB1.o.trans ((b2.trans (hal.mono b2.size)).mono HB1.o.size));have HT0 := LH9 (hT.kept (Kept.of_below hal []));have BT0 := LH9 (Mem.Blk.new w2 33 #[.slice aE es.length cE,.slice aN (nds es).length cN,.slice aD (rks es).length cD,.slice aT ts.length cT,.slice aM (ndsT ts).length cM,.slice aP (rksT ts).length cP]);have HRK := LH9 hrk;have E12 := LH9 (E11.o.below (b2.trans (hal.mono b2.size)));subst hcs;clear hT b2 hrk HBU hal HB1 E11
 go_wp2_with fail
 generalize w2.alloc (.cells #[.slice aE es.length cE,.slice aN (nds es).length cN,.slice aD (rks es).length cD,.slice aT ts.length cT,.slice aM (ndsT ts).length cM,.slice aP (rksT ts).length cP] 33)=v at *;generalize w2.heap.size=tb at *
 go_loopw [8] (fun i wr => ∃ (k : Nat),i=.int .i64 (k : Nat)∧k≤ts.length∧Hid (Below v.heap.size v wr)) (fun i _ => ts.length - (intOf i).toNat)
 case atStart => exact ⟨0,rfl,Nat.zero_le _,Below.refl _ _⟩
 case round =>
  rename World => wr
  obtain ⟨k,rfl,hk,HR⟩ := hrel;have d3 : wr.cell? ⟨tb,3,none⟩=some (.slice aT ts.length cT) := (BT0.o.below HR.o).cell 3;by_cases hlt : k < ts.length
  · have hk' : (k : Int) < (ts.length : Int) := by omega
    have i0 : (0 : Int)≤(k : Int) := by omega
    obtain ⟨t,ht⟩ : ∃ t,ts[k]?=some t := ⟨_,List.getElem?_eq_getElem hlt⟩;have HRt := LH9 (HRK.o t (List.mem_of_getElem? ht));have HRE := LH9 (fun W (hW : Below v.heap.size v W) => treeRight_any (HT0.o.kept (Kept.of_below hW [])) k ht (by have := HRt.o; omega));obtain ⟨_,_,_,_,_,_,_,_,_,_,_,_,e,-,-,-,h4,-⟩ := id (HT0.o.kept (Kept.of_below HR.o []));injection e with _ e;injection e with _ e;injection e with _ e;injection e with e3 e;injection e3 with e3 _ e3';subst e3; subst e3';clear e;obtain ⟨bt,ot,xt,ct,rfl,-,-,hxt,hRt,-,hct⟩ := h4.at k hlt;obtain rfl : t=xt := by rw [ht] at hxt; injection hxt
    have HRT := LH9 (show RepT wr [] t ct from hRt);have HQ1 := LH9 (fun W' fa fl fc (hW : Below wr.heap.size wr W') (hF : SlR fxK W' [] fx1 fa fl fc) => start_all day1 fx1 fa fl fc t ct W' D1.o hF (HRT.o.kept (Kept.of_below hW [])) (by have := HRt.o; omega));have HQ4 := LH9 (fun W (hW : Below wr.heap.size wr W) (hb : rT t=true) => rfits_any t.rk t (Nat.le_refl _) (rT_get hb).2.2 ct W (HRT.o.kept (Kept.of_below hW [])));obtain ⟨o5,m5,x5,t5,a5,l5,p5,a6,l6,p6,-,rfl,-⟩ := HRT.o.inv;have v0 : wr.cell? ⟨bt,ot + k * 4,none⟩=some (.int .i64 o5) := hct 0 _ rfl;have v1 : wr.cell? ⟨bt,ot + k * 4 + 1,none⟩=some (.string m5) := hct 1 _ rfl;have v2 : wr.cell? ⟨bt,ot + k * 4 + 2,none⟩=some (.slice a5 l5 p5) := hct 2 _ rfl;have v3 : wr.cell? ⟨bt,ot + k * 4 + 3,none⟩=some (.slice a6 l6 p6) := hct 3 _ rfl;have HBW := LH9 (HB3.o.trans (HR.o.mono HB3.o.size));have HEB := LH9 (E12.o.below HR.o);have HUP : Hid (∀ W',Below wr.heap.size wr W'→W'.cell? ⟨tb,3,none⟩=some (.slice (some ⟨bt,ot,none⟩) ts.length cT)∧W'.cell? ⟨bt,ot + k * 4,none⟩=some (.int .i64 o5)∧W'.cell? ⟨bt,ot + k * 4 + 1,none⟩=some (.string m5)∧W'.cell? ⟨bt,ot + k * 4 + 2,none⟩=some (.slice a5 l5 p5)∧W'.cell? ⟨bt,ot + k * 4 + 3,none⟩=some (.slice a6 l6 p6)) := fun W' hW => ⟨cu9 d3 hW,cu9 v0 hW,cu9 v1 hW,cu9 v2 hW,cu9 v3 hW⟩
    have HLT := LH9 hlt;clear h4 hxt hRt hct ht HRt hlt;obtain ⟨m0,m1,-,-⟩ := HEB.o.two
    go_upto_region 7 with (fail)
    go_cut [9,10,11] from 24 to 79 (fun vp vf ve W6 => ∃ pa pn pc qa qn qc e,vp=.slice pa pn pc∧vf=.slice qa qn qc∧ve=.int .i64 e∧Hid (Below wr.heap.size wr W6)∧Hid (OutA day1 fx1 t W6 (.returned (.tuple #[.slice pa pn pc,.slice qa qn qc,.int .i64 e]))))
    case first =>
     as_aux_lemma =>
      refine wp_region_till (S := fun W' => W'.cell? ⟨tb,3,none⟩=some (.slice (some ⟨bt,ot,none⟩) ts.length cT)∧W'.cell? ⟨bt,ot + k * 4,none⟩=some (.int .i64 o5)∧W'.cell? ⟨bt,ot + k * 4 + 1,none⟩=some (.string m5)∧W'.cell? ⟨bt,ot + k * 4 + 2,none⟩=some (.slice a5 l5 p5)∧W'.cell? ⟨bt,ot + k * 4 + 3,none⟩=some (.slice a6 l6 p6)∧W'.cell? ⟨W.heap.size,0,none⟩=some (.int .i64 day1)∧W'.cell? ⟨W.heap.size,1,none⟩=some (.slice f1 l1 c1)) 7 (by kernel_rfl) ?_;refine tk 0 ⟨d3,v0,v1,v2,v3,m0,m1⟩ ?_;refine tk 1 ⟨d3,v0,v1,v2,v3,m0,m1⟩ ?_;refine tk 2 ⟨d3,v0,v1,v2,v3,m0,m1⟩ ?_;refine tk 3 ⟨d3,v0,v1,v2,v3,m0,m1⟩ ?_;refine tk 4 ⟨d3,v0,v1,v2,v3,m0,m1⟩ ?_;refine tk 5 ⟨d3,v0,v1,v2,v3,m0,m1⟩ ?_;refine till_one (i := 6) (by kernel_rfl) rfl (fun K' hK => ?_);go_simp;have b0 : Below wr.heap.size wr wr.drew := (Below.refl wr.heap.size wr).drew;go_at_call 10;(with_reducible refine (env_any day1 fx1 f1 l1 c1 _ (H3.o.kept (Kept.of_below (HBW.o.trans (b0.mono HBW.o.size)) [])) (by have := HG.o; omega)).mono ?_);rintro y w5 ⟨⟨ea,ec,rfl,hE⟩,b5⟩;have bt5 : Below wr.heap.size wr w5 := b0.trans (b5.mono b0.size);have HE5 := LH9 hE;have HB5 := LH9 bt5;refine hK _ _ ⟨cu9 d3 bt5,cu9 v0 bt5,cu9 v1 bt5,cu9 v2 bt5,cu9 v3 bt5,cu9 m0 bt5,cu9 m1 bt5⟩ ?_;clear hK K' d3 v0 v1 v2 v3 m0 m1 hE b0 b5 bt5
      try simp only [Act.put,zp1,zp2,zp3,zp4,zp5,zp6]
      refine till_last (by kernel_rfl) rfl (by kernel_rfl) (fun K' hK => ?_);go_simp;go_at_call 9;(with_reducible refine (HQ1.o w5 _ _ _ HB5.o HE5.o).mono ?_);rintro y w6 ⟨⟨pa,pn,pc,qa,qn,qc,e,rfl,hO⟩,b6⟩;have HO : Hid (OutA day1 fx1 t w6 (.returned (.tuple #[.slice pa pn pc,.slice qa qn qc,.int .i64 e]))) := ⟨pa,pn,pc,qa,qn,qc,e,rfl,hO⟩;have HB6 := LH9 (HB5.o.trans (b6.mono HB5.o.size));refine hK _ _ ?_;clear hK K' hO b6 HQ1 HE5 HB5
      try simp only [Act.put,zp1,zp2,zp3,zp4,zp5,zp6]
      refine ak 8 ?_;refine ak 9 ?_;refine ak 10 ?_;refine ak 11 ?_;refine ak 12 ?_;refine ak 13 ?_;refine ak 14 ?_;refine wpAny_done (by kernel_rfl) ?_ _
      go_wp2_with fail
      go_meet
      case rel => exact ⟨pa,pn,pc,qa,qn,qc,e,rfl,rfl,rfl,HB6.o,HO.o⟩
    obtain ⟨pa,pn,pc,qa,qn,qc,e,rfl,rfl,rfl,HB6,HO⟩ := hcut;obtain ⟨w6,rfl⟩ : ∃ W4 : World,W4=wc := ⟨_,rfl⟩;obtain ⟨pa',pn',pc',qa',qn',qc',e',hxx,hO⟩ := HO.o;injection hxx with hxx;injection hxx with hxx;injection hxx with hxx;injection hxx with hx1 hxx;injection hxx with hx2 hxx;injection hxx with hx3 _;injection hx1 with hx1a hx1b hx1c;injection hx2 with hx2a hx2b hx2c;injection hx3 with _ hx3;subst hx1a; subst hx1b; subst hx1c; subst hx2a; subst hx2b; subst hx2c; subst hx3;have HVR := LH9 (HR.o.trans (HB6.o.mono HR.o.size));have HBW6 := LH9 (HBW.o.trans (HB6.o.mono HBW.o.size));clear d3 v0 v1 v2 v3 m0 m1 HQ1 HO;have q := BT0.o.below HVR.o;have c0 : w6.cell? ⟨tb,0,none⟩=_ := q.cell 0;have c1' : w6.cell? ⟨tb,1,none⟩=_ := q.cell 1;have c2 : w6.cell? ⟨tb,2,none⟩=_ := q.cell 2;have c3 : w6.cell? ⟨tb,3,none⟩=_ := q.cell 3;have c4 : w6.cell? ⟨tb,4,none⟩=_ := q.cell 4;have c5 : w6.cell? ⟨tb,5,none⟩=_ := q.cell 5;simp only [List.getElem?_toArray,List.getElem?_cons_zero,List.getElem?_cons_succ] at c0 c1' c2 c3 c4 c5;clear q
    cases hrt : rT t with
    | false =>
      have hfc : fitC t=1 := by unfold fitC; rw [hrt]; rfl
      obtain ⟨-,rfl,rfl,rfl,rfl,rfl,rfl,rfl⟩ : fitC t ≠ 0∧e=fitC t∧pa=none∧pn=0∧pc=0∧qa=none∧qn=0∧qc=0 := by
       rcases hO with h | ⟨h,-⟩ | ⟨h,-⟩
       · exact h
       · rw [hfc] at h; cases h
       · rw [hfc] at h; cases h
      rw [hfc];have HRI := LH9 hrt;clear hO hrt hfc
      go_wp2_with fail
      go_at_call 11;(with_reducible refine (HRE.o w6 HVR.o).mono ?_);rintro y w7 ⟨rfl,b7⟩;rw [HRI.o];have HVR7 := LH9 (HVR.o.trans (b7.mono HVR.o.size));have HW7 := LH9 (HB6.o.trans (b7.mono HB6.o.size));clear b7 HRE c0 c1' c2 c3 c4 c5
      go_wp2_with fail
      go_at_call 14;(with_reducible refine (same23_any [] [] none none none none 0 0 0 0 0 0 w7 (SlR.nil _ _ _) (SlR.nil _ _ _) (SlR.nil _ _ _) (SlR.nil _ _ _)).mono ?_);rintro y wz ⟨rfl,bz⟩;have HVZ := LH9 (HVR7.o.trans (bz.mono HVR7.o.size));clear bz
      go_wp2_with fail
      go_roundw
      case rel => exact ⟨k + 1,by go_num,by have := HLT.o; omega,HVZ.o⟩
      case measure => simp [intOf]; have := HLT.o; omega
    | true =>
      cases hft : fitT t with
      | false =>
        have hfc : fitC t=12 := by unfold fitC; rw [hrt,hft]; rfl
        obtain ⟨-,rfl,rfl,rfl,rfl,rfl,rfl,rfl⟩ : fitC t ≠ 0∧e=fitC t∧pa=none∧pn=0∧pc=0∧qa=none∧qn=0∧qc=0 := by
         rcases hO with h | ⟨h,-⟩ | ⟨h,-⟩
         · exact h
         · rw [hfc] at h; cases h
         · rw [hfc] at h; cases h
        rw [hfc];have HRI := LH9 hrt;have HFI := LH9 hft;clear hO hrt hfc hft
        go_wp2_with fail
        go_at_call 11;(with_reducible refine (HRE.o w6 HVR.o).mono ?_);rintro y w7 ⟨rfl,b7⟩;rw [HRI.o];have HB7 := LH9 b7;have HVR7 := LH9 (HVR.o.trans (b7.mono HVR.o.size));have HW7 := LH9 (HB6.o.trans (b7.mono HB6.o.size));clear b7 HRE c0 c1' c2 c3 c4 c5;obtain ⟨d3,v0,v1,v2,v3⟩ := HUP.o w7 HW7.o
        go_wp2_with fail
        go_at_call 12;(with_reducible refine (HQ4.o w7 HW7.o HRI.o).mono ?_);rintro y w8 ⟨rfl,b8⟩;have HVR8 := LH9 (HVR7.o.trans (b8.mono HVR7.o.size));have HW8 := LH9 (HW7.o.trans (b8.mono HW7.o.size));have HB68 := LH9 (HB7.o.trans (b8.mono HB7.o.size));clear b8 d3 v0 v1 v2 v3 HW7 HVR7 HB7 HQ4;rw [HFI.o]
        go_wp2_with fail
        go_at_call 14;(with_reducible refine (same23_any [] [] none none none none 0 0 0 0 0 0 w8 (SlR.nil _ _ _) (SlR.nil _ _ _) (SlR.nil _ _ _) (SlR.nil _ _ _)).mono ?_);rintro y wz ⟨rfl,bz⟩;have HVZ := LH9 (HVR8.o.trans (bz.mono HVR8.o.size));clear bz
        go_wp2_with fail
        go_roundw
        case rel => exact ⟨k + 1,by go_num,by have := HLT.o; omega,HVZ.o⟩
        case measure => simp [intOf]; have := HLT.o; omega
      | true =>
        have hfc : fitC t=0 := by unfold fitC; rw [hrt,hft]; rfl
        cases hbd : (acq day1 fx1 t 1 false [] s0).bad with
        | true =>
          obtain ⟨rfl,rfl,rfl,rfl,rfl,rfl,rfl⟩ : e=2∧pa=none∧pn=0∧pc=0∧qa=none∧qn=0∧qc=0 := by
           rcases hO with ⟨h,-⟩ | ⟨-,-,h⟩ | ⟨-,h,-⟩
           · exact absurd hfc h
           · exact h
           · rw [hbd] at h; cases h
          have HBD := LH9 hbd;clear hbd;have HRI := LH9 hrt;have HFI := LH9 hft;clear hO hrt hfc hft
          go_wp2_with fail
          go_at_call 11;(with_reducible refine (HRE.o w6 HVR.o).mono ?_);rintro y w7 ⟨rfl,b7⟩;rw [HRI.o];have HB7 := LH9 b7;have HVR7 := LH9 (HVR.o.trans (b7.mono HVR.o.size));have HW7 := LH9 (HB6.o.trans (b7.mono HB6.o.size));clear b7 HRE c0 c1' c2 c3 c4 c5;obtain ⟨d3,v0,v1,v2,v3⟩ := HUP.o w7 HW7.o
          go_wp2_with fail
          go_at_call 12;(with_reducible refine (HQ4.o w7 HW7.o HRI.o).mono ?_);rintro y w8 ⟨rfl,b8⟩;have HVR8 := LH9 (HVR7.o.trans (b8.mono HVR7.o.size));have HW8 := LH9 (HW7.o.trans (b8.mono HW7.o.size));have HB68 := LH9 (HB7.o.trans (b8.mono HB7.o.size));clear b8 d3 v0 v1 v2 v3 HW7 HVR7 HB7 HQ4;rw [HFI.o];obtain ⟨d3,v0,v1,v2,v3⟩ := HUP.o w8 HW8.o;obtain ⟨m0,m1,-,-⟩ := (E12.o.below HVR8.o).two;have HF8 := LH9 (H3.o.kept (Kept.of_below (HB3.o.trans (HVR8.o.mono HB3.o.size)) []));have HT8 := LH9 (HRT.o.kept (Kept.of_below HW8.o []));have HTD : Hid (TdOk ⟨1,false,[],t⟩) := ⟨HRI.o,HFI.o,by have := (rT_get HRI.o).2.1; show 0 + t.rk≤_; omega⟩;have HND : Hid (ndL [(⟨1,false,[],t⟩ : Prt)]≤100000) := by have := (rT_get HRI.o).1; show t.nd + 0≤_; omega
          go_upto_region 16 with (fail)
          go_cut [13,14,15] from 24 to 79 (fun vp vf ve W9 => ∃ x,Hid (x=.returned (.tuple #[vp,vf,ve]))∧Hid (Below w8.heap.size w8 W9)∧Hid (AqR W9 (acq day1 fx1 t 1 false [] s0) x))
          case first =>
           as_aux_lemma =>
            refine wp_region_till (S := fun W' => W'.cell? ⟨tb,3,none⟩=some (.slice (some ⟨bt,ot,none⟩) ts.length cT)∧W'.cell? ⟨bt,ot + k * 4,none⟩=some (.int .i64 o5)∧W'.cell? ⟨bt,ot + k * 4 + 1,none⟩=some (.string m5)∧W'.cell? ⟨bt,ot + k * 4 + 2,none⟩=some (.slice a5 l5 p5)∧W'.cell? ⟨bt,ot + k * 4 + 3,none⟩=some (.slice a6 l6 p6)∧W'.cell? ⟨W.heap.size,0,none⟩=some (.int .i64 day1)∧W'.cell? ⟨W.heap.size,1,none⟩=some (.slice f1 l1 c1)) 8 (by kernel_rfl) ?_;refine tk 0 ⟨d3,v0,v1,v2,v3,m0,m1⟩ ?_;refine tk 1 ⟨d3,v0,v1,v2,v3,m0,m1⟩ ?_;refine tk 2 ⟨d3,v0,v1,v2,v3,m0,m1⟩ ?_;refine tk 3 ⟨d3,v0,v1,v2,v3,m0,m1⟩ ?_;refine tk 4 ⟨d3,v0,v1,v2,v3,m0,m1⟩ ?_;refine till_take (i := 5) (v := .agg #[.int .i64 1,.bool false,.slice none 0 0,.int .i64 o5,.string m5,.slice a5 l5 p5,.slice a6 l6 p6]) rfl (by kernel_rfl) (fun _ _ _ h => h) (Or.inl ⟨by rfl,build_y1 rfl rfl rfl⟩) ⟨d3,v0,v1,v2,v3,m0,m1⟩ ?_
            try simp only [Act.put,zp1,zp2,zp3,zp4,zp5,zp6]
            refine tk 7 ⟨d3,v0,v1,v2,v3,m0,m1⟩ ?_;refine till_one (i := 6) (by kernel_rfl) rfl (fun K' hK => ?_);refine wp_of_run (by rfl) (bs_y rfl rfl) ?_;have bn : Below w8.heap.size w8 (w8.drew.alloc (.cells #[.int .i64 1,.bool false,.slice none 0 0,.int .i64 o5,.string m5,.slice a5 l5 p5,.slice a6 l6 p6] 53)) := (below_nT w8 (.cells #[.int .i64 1,.bool false,.slice none 0 0,.int .i64 o5,.string m5,.slice a5 l5 p5,.slice a6 l6 p6] 53)).drew;have BN := LH9 (Mem.Blk.new w8 53 #[.int .i64 1,.bool false,.slice none 0 0,.int .i64 o5,.string m5,.slice a5 l5 p5,.slice a6 l6 p6]).drew;have HBN := LH9 bn;refine hK _ _ ⟨cu9 d3 bn,cu9 v0 bn,cu9 v1 bn,cu9 v2 bn,cu9 v3 bn,cu9 m0 bn,cu9 m1 bn⟩ ?_;clear hK K' d3 v0 v1 v2 v3 m0 m1 bn;have HSQ : Hid (SlR ptK (w8.drew.alloc (.cells #[.int .i64 1,.bool false,.slice none 0 0,.int .i64 o5,.string m5,.slice a5 l5 p5,.slice a6 l6 p6] 53)) [] [(⟨1,false,[],t⟩ : Prt)] (some ⟨w8.heap.size,0,none⟩) 1 1) :=
             SlR.lit1 (K := ptK) (X := []) (x := ⟨1,false,[],t⟩) BN.o (by simp) ⟨none,0,_,rfl,(show I64 1 by unfold I64; omega),SlR.nil _ _ _,HT8.o.kept (Kept.of_below HBN.o [])⟩
            have HRQ := LH9 (racq_any day1 fx1 f1 l1 c1 [⟨1,false,[],t⟩] (some ⟨w8.heap.size,0,none⟩) 1 1 _ D1.o (HF8.o.kept (Kept.of_below HBN.o [])) HSQ.o (fun p hp => by rw [List.mem_singleton] at hp; subst hp; exact HTD.o) HND.o);generalize (w8.drew.alloc (.cells #[.int .i64 1,.bool false,.slice none 0 0,.int .i64 o5,.string m5,.slice a5 l5 p5,.slice a6 l6 p6] 53))=wn at *
            try simp only [Act.put,zp1,zp2,zp3,zp4,zp5,zp6]
            refine till_last (by kernel_rfl) rfl (by kernel_rfl) (fun K' hK => ?_);go_simp;go_at_call 13;(with_reducible refine HRQ.o.mono ?_);rintro y w9 ⟨hy,b9⟩;have HY := LH9 hy;have HB9 := LH9 (HBN.o.trans (b9.mono HBN.o.size));clear HRQ HSQ BN b9;rcases hy with ⟨hy,rfl⟩ | ⟨hy,ra,rc,ua,uc,rfl,hr1,hr2⟩
            · clear hy;refine hK _ _ ?_;clear hK K'
              try simp only [Act.put,zp1,zp2,zp3,zp4,zp5,zp6]
              refine ak 9 ?_;refine ak 10 ?_;refine ak 11 ?_;refine ak 12 ?_;refine ak 13 ?_;refine ak 14 ?_;refine ak 15 ?_;refine wpAny_done (by kernel_rfl) ?_ _
              go_wp2_with fail
              go_meet
              case rel => exact ⟨_,rfl,HB9.o,HY.o⟩
            · clear hy hr1 hr2;refine hK _ _ ?_;clear hK K'
              try simp only [Act.put,zp1,zp2,zp3,zp4,zp5,zp6]
              refine ak 9 ?_;refine ak 10 ?_;refine ak 11 ?_;refine ak 12 ?_;refine ak 13 ?_;refine ak 14 ?_;refine ak 15 ?_;refine wpAny_done (by kernel_rfl) ?_ _
              go_wp2_with fail
              go_meet
              case rel => exact ⟨_,rfl,HB9.o,HY.o⟩
          obtain ⟨x,HX,HW89,HAQ⟩ := hcut;obtain ⟨w9,rfl⟩ : ∃ W4 : World,W4=wc := ⟨_,rfl⟩;have hy := HAQ.o;have HW9 := LH9 (HB68.o.trans (HW89.o.mono HB68.o.size));clear d3 v0 v1 v2 v3 m0 m1 HTD HND HT8 HF8;obtain rfl := hy.bad HBD.o;have hxe := HX.o;injection hxe with hxe;injection hxe with hxe;injection hxe with hxe;injection hxe with hx1 hxe;injection hxe with hx2 hxe;injection hxe with hx3 _;subst hx1; subst hx2; subst hx3;have HVR9 := LH9 (HVR8.o.trans (HW89.o.mono HVR8.o.size));clear hy HX HAQ HW89 HVR8 HW8 HB68
          go_wp2_with fail
          go_at_call 14;(with_reducible refine (same23_any [] [] none none none none 0 0 0 0 0 0 w9 (SlR.nil _ _ _) (SlR.nil _ _ _) (SlR.nil _ _ _) (SlR.nil _ _ _)).mono ?_);rintro y wz ⟨rfl,bz⟩;have HVZ := LH9 (HVR9.o.trans (bz.mono HVR9.o.size));clear bz
          go_wp2_with fail
          go_roundw
          case rel => exact ⟨k + 1,by go_num,by have := HLT.o; omega,HVZ.o⟩
          case measure => simp [intOf]; have := HLT.o; omega
        | false =>
          obtain ⟨rfl,rfl,rfl,hP,hF⟩ : e=0∧pn=(acq day1 fx1 t 1 false [] s0).ps.length∧qn=(acq day1 fx1 t 1 false [] s0).fs.length∧SlR ptK w6 [] (acq day1 fx1 t 1 false [] s0).ps pa pn pc∧SlR flK w6 [] (acq day1 fx1 t 1 false [] s0).fs qa qn qc := by
           rcases hO with ⟨h,-⟩ | ⟨-,h,-⟩ | ⟨-,-,h⟩
           · exact absurd hfc h
           · rw [hbd] at h; cases h
           · exact h
          have HBD := LH9 hbd;have HPP := LH9 hP;have HFF := LH9 hF;clear hbd hP hF;have HRI := LH9 hrt;have HFI := LH9 hft;clear hO hrt hfc hft
          go_wp2_with fail
          go_at_call 11;(with_reducible refine (HRE.o w6 HVR.o).mono ?_);rintro y w7 ⟨rfl,b7⟩;rw [HRI.o];have HB7 := LH9 b7;have HVR7 := LH9 (HVR.o.trans (b7.mono HVR.o.size));have HW7 := LH9 (HB6.o.trans (b7.mono HB6.o.size));clear b7 HRE c0 c1' c2 c3 c4 c5;obtain ⟨d3,v0,v1,v2,v3⟩ := HUP.o w7 HW7.o
          go_wp2_with fail
          go_at_call 12;(with_reducible refine (HQ4.o w7 HW7.o HRI.o).mono ?_);rintro y w8 ⟨rfl,b8⟩;have HVR8 := LH9 (HVR7.o.trans (b8.mono HVR7.o.size));have HW8 := LH9 (HW7.o.trans (b8.mono HW7.o.size));have HB68 := LH9 (HB7.o.trans (b8.mono HB7.o.size));clear b8 d3 v0 v1 v2 v3 HW7 HVR7 HB7 HQ4;rw [HFI.o];obtain ⟨d3,v0,v1,v2,v3⟩ := HUP.o w8 HW8.o;obtain ⟨m0,m1,-,-⟩ := (E12.o.below HVR8.o).two;have HF8 := LH9 (H3.o.kept (Kept.of_below (HB3.o.trans (HVR8.o.mono HB3.o.size)) []));have HT8 := LH9 (HRT.o.kept (Kept.of_below HW8.o []));have HTD : Hid (TdOk ⟨1,false,[],t⟩) := ⟨HRI.o,HFI.o,by have := (rT_get HRI.o).2.1; show 0 + t.rk≤_; omega⟩;have HND : Hid (ndL [(⟨1,false,[],t⟩ : Prt)]≤100000) := by have := (rT_get HRI.o).1; show t.nd + 0≤_; omega
          go_upto_region 16 with (fail)
          go_cut [13,14,15] from 24 to 79 (fun vp vf ve W9 => ∃ x,Hid (x=.returned (.tuple #[vp,vf,ve]))∧Hid (Below w8.heap.size w8 W9)∧Hid (AqR W9 (acq day1 fx1 t 1 false [] s0) x))
          case first =>
           as_aux_lemma =>
            refine wp_region_till (S := fun W' => W'.cell? ⟨tb,3,none⟩=some (.slice (some ⟨bt,ot,none⟩) ts.length cT)∧W'.cell? ⟨bt,ot + k * 4,none⟩=some (.int .i64 o5)∧W'.cell? ⟨bt,ot + k * 4 + 1,none⟩=some (.string m5)∧W'.cell? ⟨bt,ot + k * 4 + 2,none⟩=some (.slice a5 l5 p5)∧W'.cell? ⟨bt,ot + k * 4 + 3,none⟩=some (.slice a6 l6 p6)∧W'.cell? ⟨W.heap.size,0,none⟩=some (.int .i64 day1)∧W'.cell? ⟨W.heap.size,1,none⟩=some (.slice f1 l1 c1)) 8 (by kernel_rfl) ?_;refine tk 0 ⟨d3,v0,v1,v2,v3,m0,m1⟩ ?_;refine tk 1 ⟨d3,v0,v1,v2,v3,m0,m1⟩ ?_;refine tk 2 ⟨d3,v0,v1,v2,v3,m0,m1⟩ ?_;refine tk 3 ⟨d3,v0,v1,v2,v3,m0,m1⟩ ?_;refine tk 4 ⟨d3,v0,v1,v2,v3,m0,m1⟩ ?_;refine till_take (i := 5) (v := .agg #[.int .i64 1,.bool false,.slice none 0 0,.int .i64 o5,.string m5,.slice a5 l5 p5,.slice a6 l6 p6]) rfl (by kernel_rfl) (fun _ _ _ h => h) (Or.inl ⟨by rfl,build_y1 rfl rfl rfl⟩) ⟨d3,v0,v1,v2,v3,m0,m1⟩ ?_
            try simp only [Act.put,zp1,zp2,zp3,zp4,zp5,zp6]
            refine tk 7 ⟨d3,v0,v1,v2,v3,m0,m1⟩ ?_;refine till_one (i := 6) (by kernel_rfl) rfl (fun K' hK => ?_);refine wp_of_run (by rfl) (bs_y rfl rfl) ?_;have bn : Below w8.heap.size w8 (w8.drew.alloc (.cells #[.int .i64 1,.bool false,.slice none 0 0,.int .i64 o5,.string m5,.slice a5 l5 p5,.slice a6 l6 p6] 53)) := (below_nT w8 (.cells #[.int .i64 1,.bool false,.slice none 0 0,.int .i64 o5,.string m5,.slice a5 l5 p5,.slice a6 l6 p6] 53)).drew;have BN := LH9 (Mem.Blk.new w8 53 #[.int .i64 1,.bool false,.slice none 0 0,.int .i64 o5,.string m5,.slice a5 l5 p5,.slice a6 l6 p6]).drew;have HBN := LH9 bn;refine hK _ _ ⟨cu9 d3 bn,cu9 v0 bn,cu9 v1 bn,cu9 v2 bn,cu9 v3 bn,cu9 m0 bn,cu9 m1 bn⟩ ?_;clear hK K' d3 v0 v1 v2 v3 m0 m1 bn;have HSQ : Hid (SlR ptK (w8.drew.alloc (.cells #[.int .i64 1,.bool false,.slice none 0 0,.int .i64 o5,.string m5,.slice a5 l5 p5,.slice a6 l6 p6] 53)) [] [(⟨1,false,[],t⟩ : Prt)] (some ⟨w8.heap.size,0,none⟩) 1 1) :=
             SlR.lit1 (K := ptK) (X := []) (x := ⟨1,false,[],t⟩) BN.o (by simp) ⟨none,0,_,rfl,(show I64 1 by unfold I64; omega),SlR.nil _ _ _,HT8.o.kept (Kept.of_below HBN.o [])⟩
            have HRQ := LH9 (racq_any day1 fx1 f1 l1 c1 [⟨1,false,[],t⟩] (some ⟨w8.heap.size,0,none⟩) 1 1 _ D1.o (HF8.o.kept (Kept.of_below HBN.o [])) HSQ.o (fun p hp => by rw [List.mem_singleton] at hp; subst hp; exact HTD.o) HND.o);generalize (w8.drew.alloc (.cells #[.int .i64 1,.bool false,.slice none 0 0,.int .i64 o5,.string m5,.slice a5 l5 p5,.slice a6 l6 p6] 53))=wn at *
            try simp only [Act.put,zp1,zp2,zp3,zp4,zp5,zp6]
            refine till_last (by kernel_rfl) rfl (by kernel_rfl) (fun K' hK => ?_);go_simp;go_at_call 13;(with_reducible refine HRQ.o.mono ?_);rintro y w9 ⟨hy,b9⟩;have HY := LH9 hy;have HB9 := LH9 (HBN.o.trans (b9.mono HBN.o.size));clear HRQ HSQ BN b9;rcases hy with ⟨hy,rfl⟩ | ⟨hy,ra,rc,ua,uc,rfl,hr1,hr2⟩
            · clear hy;refine hK _ _ ?_;clear hK K'
              try simp only [Act.put,zp1,zp2,zp3,zp4,zp5,zp6]
              refine ak 9 ?_;refine ak 10 ?_;refine ak 11 ?_;refine ak 12 ?_;refine ak 13 ?_;refine ak 14 ?_;refine ak 15 ?_;refine wpAny_done (by kernel_rfl) ?_ _
              go_wp2_with fail
              go_meet
              case rel => exact ⟨_,rfl,HB9.o,HY.o⟩
            · clear hy hr1 hr2;refine hK _ _ ?_;clear hK K'
              try simp only [Act.put,zp1,zp2,zp3,zp4,zp5,zp6]
              refine ak 9 ?_;refine ak 10 ?_;refine ak 11 ?_;refine ak 12 ?_;refine ak 13 ?_;refine ak 14 ?_;refine ak 15 ?_;refine wpAny_done (by kernel_rfl) ?_ _
              go_wp2_with fail
              go_meet
              case rel => exact ⟨_,rfl,HB9.o,HY.o⟩
          obtain ⟨x,HX,HW89,HAQ⟩ := hcut;obtain ⟨w9,rfl⟩ : ∃ W4 : World,W4=wc := ⟨_,rfl⟩;have hy := HAQ.o;have HW9 := LH9 (HB68.o.trans (HW89.o.mono HB68.o.size));clear d3 v0 v1 v2 v3 m0 m1 HTD HND HT8 HF8;obtain ⟨ra,rc,ua,uc,rfl,hr1,hr2⟩ := hy.good HBD.o;have HR1 := LH9 hr1;have HR2 := LH9 hr2;have HP9 := LH9 (HPP.o.kept (Kept.of_below HW9.o []));have HF9 := LH9 (HFF.o.kept (Kept.of_below HW9.o []));clear hr1 hr2 HPP HFF;have hxe := HX.o;injection hxe with hxe;injection hxe with hxe;injection hxe with hxe;injection hxe with hx1 hxe;injection hxe with hx2 hxe;injection hxe with hx3 _;subst hx1; subst hx2; subst hx3;have HVR9 := LH9 (HVR8.o.trans (HW89.o.mono HVR8.o.size));clear hy HX HAQ HW89 HVR8 HW8 HB68;generalize acq day1 fx1 t 1 false [] s0=R at *
          go_wp2_with fail
          go_at_call 14;(with_reducible refine (same23_any R.ps R.fs pa qa ra ua R.ps.length pc R.fs.length qc rc uc w9 HP9.o HF9.o HR1.o HR2.o).mono ?_);rintro y wz ⟨rfl,bz⟩;have HVZ := LH9 (HVR9.o.trans (bz.mono HVR9.o.size));clear bz
          go_wp2_with fail
          go_roundw
          case rel => exact ⟨k + 1,by go_num,by have := HLT.o; omega,HVZ.o⟩
          case measure => simp [intOf]; have := HLT.o; omega
  · have hk' : ¬ (k : Int) < (ts.length : Int) := by omega
    have HB := LH9 (HB3.o.trans (HR.o.mono HB3.o.size));clear HR hlt
    go_wp2_with fail
    go_at_call 7;(with_reducible refine (awake23_any wr).mono ?_);rintro y w9 ⟨rfl,b9⟩;have HB9 := LH9 (HB.o.trans (b9.mono HB.o.size));clear b9
    go_wp2_with fail
    go_ret;exact ⟨rfl,HB9.o⟩
end
section
open Go.ChangeShapes Go.WideShapes Go.ChangeAt Go.RowKit Go.Deep
def Opens {α : Type} (P : Program) (e : TypeId) (K : Elt α) : Prop :=
 ∀ (H : Type) (enc : TypeId × Value→H) (W : World) (fuel : Nat) (cs : List Value) (x : DataW H × List MemPlace),DataW.trod enc P W 0 (fun _ => true) true fuel e cs=some x→∃ d,K.R W [] d cs
theorem i64_of {n : Int} (h : (Lit.int .i64 n).wf=true) : I64 n := by
 simp [Lit.wf,IntKind.min,IntKind.max,IntKind.signed,IntKind.bits] at h;unfold I64;omega
theorem opens_int {P : Program} {t : TypeId} (ht : P.underlying t=some (.int .i64)) : Opens P t i64K := by
 intro H enc W fuel cs x h;obtain ⟨n,rfl,_,hw⟩ := DataW.trod_int ht h;exact ⟨n,rfl,i64_of hw⟩
theorem pick_all {α : Type} {Q : Nat→α→List Value→Prop} : ∀ (len : Nat),(∀ i,i < len→∃ d c,Q i d c)→∃ (l : List α) (vs : List (List Value)),l.length=len∧vs.length=len∧∀ i d c,l[i]?=some d→vs[i]?=some c→Q i d c := by
 intro len
 induction len with
 | zero => intro _; exact ⟨[],[],rfl,rfl,fun i d c h _ => by simp at h⟩
 | succ n ih =>
   intro h;obtain ⟨l,vs,h1,h2,h3⟩ := ih (fun i hi => h i (by omega));obtain ⟨d,c,hq⟩ := h n (by omega);refine ⟨l ++ [d],vs ++ [c],by simp [h1],by simp [h2],fun i d' c' hd hc => ?_⟩;rcases Nat.lt_or_ge i n with hi | hi
   · rw [List.getElem?_append_left (by omega)] at hd hc;exact h3 i d' c' hd hc
   · have hin : i=n := by
      have := (List.getElem?_eq_some_iff.1 hd).1; simp at this; omega
     subst hin;rw [List.getElem?_append_right (by omega),h1,Nat.sub_self] at hd;rw [List.getElem?_append_right (by omega),h2,Nat.sub_self] at hc;injection hd with hd; injection hc with hc;subst hd; subst hc;exact hq
theorem opens_slice {α : Type} {K : Elt α} {P : Program} {t e : TypeId} (ht : P.underlying t=some (.slice e)) (hK : P.cellsOf e=K.sz) (he : Opens P e K) {H : Type} {enc : TypeId × Value→H} {W : World} {fuel : Nat} {cs : List Value} {x : DataW H × List MemPlace}
 (h : DataW.trod enc P W 0 (fun _ => true) true fuel t cs=some x) : ∃ a len cap l,cs=[.slice a len cap]∧SlR K W [] l a len cap := by
 rcases open_slice ht h with ⟨rfl,_⟩ | ⟨a,len,cap,m,n,D,Pl,rfl,_,hl,hm,hmm,_,hi⟩
 · exact ⟨none,0,0,[],rfl,SlR.nil K W []⟩
 · have hmx : cap≤9223372036854775807 := by
    have : maxLen=9223372036854775807 := by decide
    omega
   rw [if_pos rfl] at hmm;obtain ⟨l,vs,h1,h2,h3⟩ := pick_all (Q := fun i d c => K.R W [] d c∧c.length=K.sz∧∀ j u,c[j]?=some u→W.cell? (a.add (i * K.sz + j))=some u) len (fun i hi' => by
    obtain ⟨c,hc,ht'⟩ := hi i (by omega);obtain ⟨d,hd⟩ := he H enc W n c _ ht';obtain ⟨_,hcl,hat⟩ := World.cells?_some hc;rw [hK] at hcl hat;refine ⟨d,c,hd,hcl,fun j u hj => ?_⟩;have hjs : j < K.sz := by rw [← hcl]; exact (List.getElem?_eq_some_iff.1 hj).1
    rw [← Go.Deep.add_add,hat j hjs];exact hj)
   refine ⟨some a,len,cap,l,rfl,vs,by rw [h1,h2],fun i d c hd hc => (h3 i d c hd hc).1,h2,hl,hmx,fun hp => ?_⟩;have hv0 : vs[0]?=some (vs[0]'(by omega)) := List.getElem?_eq_getElem (by omega);have hl0 : l[0]?=some (l[0]'(by omega)) := List.getElem?_eq_getElem (by omega);obtain ⟨_,hlen0,hcell0⟩ := h3 0 _ _ hl0 hv0;have hK0 := K.pos;have hz := hcell0 0 _ (List.getElem?_eq_getElem (by omega));obtain ⟨b,off,spot⟩ := a;obtain rfl : spot=none := by simpa [Addr.add] using World.cell?_spot hz
   have hblt := cell_lt hz;rw [show (⟨b,off,none⟩ : Addr).add (0 * K.sz + 0)=⟨b,off + (0 * K.sz + 0),none⟩ from Mem.add_off _ _ _] at hblt;refine ⟨b,off,rfl,hblt,List.not_mem_nil,fun i c hc => ?_⟩;have hlt : i < l.length := by rw [h1,← h2]; exact (List.getElem?_eq_some_iff.1 hc).1
   obtain ⟨_,g2,g3⟩ := h3 i _ c (List.getElem?_eq_getElem hlt) hc;refine ⟨g2,fun j u hj => ?_⟩;have := g3 j u hj;rw [Mem.add_off,← Nat.add_assoc] at this;exact this
theorem opens_struct {P : Program} {e : TypeId} {fs : Array Field} (he : P.underlying e=some (.struct fs)) (hone : oneCellFields P fs=true) (hC : P.cellsOf e=fs.size) {H : Type} {enc : TypeId × Value→H} {W : World} {fuel : Nat} {cs : List Value} {x : DataW H × List MemPlace}
 (h : DataW.trod enc P W 0 (fun _ => true) true fuel e cs=some x) : cs.length=fs.size∧∀ (j : Nat) (f : Field),fs[j]?=some f→∃ v n y,cs[j]?=some v∧DataW.trod enc P W 0 (fun _ => true) true n f.type [v]=some y := by
 obtain ⟨ys,n',hn',hy,hlen,hyl,hf⟩ := DataW.trod_struct he h;refine ⟨by rw [hlen,hC],fun j f hj => ?_⟩;obtain ⟨ho,hk⟩ := hone_of hone j f hj;have hjl : j < fs.size := (Array.getElem?_eq_some_iff.1 hj).1;have hv : cs[j]?=some (cs[j]'(by omega)) := List.getElem?_eq_getElem (by omega);have h1 := hf j f hj;rw [ho,hk] at h1;have hone' : (cs.drop j).take 1=[cs[j]'(by omega)] := by
  rw [List.drop_eq_getElem_cons (by omega)]
  rfl
 rw [hone'] at h1;have hys : ys[j]?=some (ys[j]'(by omega)) := List.getElem?_eq_getElem (by omega);exact ⟨_,_,_,hv,h1.trans hys⟩
theorem four_list {α : Type} {cs : List α} (h : cs.length=4) {a b c d : α} (h0 : cs[0]?=some a) (h1 : cs[1]?=some b) (h2 : cs[2]?=some c) (h3 : cs[3]?=some d) : cs=[a,b,c,d] := by
 match cs,h with
 | [p,q,r,s],_ => simp at h0 h1 h2 h3; subst h0; subst h1; subst h2; subst h3; rfl
theorem opens_leaf : Opens Tryz.prog 77 lfK := by
 intro H enc W fuel cs x h;obtain ⟨hl,hf⟩ := opens_struct Tryz.underlying77 (by kernel_rfl) (by kernel_rfl) h;obtain ⟨v0,n0,y0,c0,t0⟩ := hf 0 _ rfl;obtain ⟨v1,n1,y1,c1,t1⟩ := hf 1 _ rfl;obtain ⟨v2,n2,y2,c2,t2⟩ := hf 2 _ rfl;obtain ⟨v3,n3,y3,c3,t3⟩ := hf 3 _ rfl;obtain ⟨a,e0,_,w0⟩ := DataW.trod_int (k := .i64) Tryz.underlying3 t0;obtain ⟨b,e1,_,w1⟩ := DataW.trod_int (k := .i64) Tryz.underlying2 t1;obtain ⟨s,e2,_,w2⟩ := DataW.trod_string Tryz.underlying9 t2;obtain ⟨p,len,cap,l,e3,hS⟩ := opens_slice (K := i64K) Tryz.underlying30 (by kernel_rfl) (opens_int Tryz.underlying3) t3;injection e0 with e0; injection e1 with e1; injection e2 with e2; injection e3 with e3;subst e0; subst e1; subst e2; subst e3;have hll := hS.facts.1;subst hll;exact ⟨⟨a,b,s,l⟩,p,cap,four_list hl c0 c1 c2 c3,i64_of w0,i64_of w1,(show s.size≤9223372036854775807 by unfold maxLen at w2; omega),hS⟩
theorem opens_knot : Opens Tryz.prog 82 knK := by
 intro H enc W fuel cs x h;obtain ⟨hl,hf⟩ := opens_struct Tryz.underlying82 (by kernel_rfl) (by kernel_rfl) h;obtain ⟨v0,n0,y0,c0,t0⟩ := hf 0 _ rfl;obtain ⟨v1,n1,y1,c1,t1⟩ := hf 1 _ rfl;obtain ⟨v2,n2,y2,c2,t2⟩ := hf 2 _ rfl;obtain ⟨v3,n3,y3,c3,t3⟩ := hf 3 _ rfl;obtain ⟨a,e0,_,w0⟩ := DataW.trod_int (k := .i64) Tryz.underlying3 t0;obtain ⟨s,e1,_,w1⟩ := DataW.trod_string Tryz.underlying9 t1;obtain ⟨p,len,cap,l,e2,hS⟩ := opens_slice (K := i64K) Tryz.underlying30 (by kernel_rfl) (opens_int Tryz.underlying3) t2;obtain ⟨p2,len2,cap2,l2,e3,hS2⟩ := opens_slice (K := i64K) Tryz.underlying30 (by kernel_rfl) (opens_int Tryz.underlying3) t3;injection e0 with e0; injection e1 with e1; injection e2 with e2; injection e3 with e3;subst e0; subst e1; subst e2; subst e3;have hll := hS.facts.1;subst hll;have hll2 := hS2.facts.1;subst hll2;exact ⟨⟨a,s,l,l2⟩,p,cap,p2,cap2,four_list hl c0 c1 c2 c3,i64_of w0,(show s.size≤9223372036854775807 by unfold maxLen at w1; omega),hS,hS2⟩
theorem leaves_of {H : Type} {enc : TypeId × Value→H} {W : World} {a : Option Addr} {len cap : Nat} {x : DataW H × List MemPlace} (k : ∃ fuel,DataW.trod enc Tryz.prog W 0 (fun _ => true) true fuel 22 (Value.cells (.slice a len cap)).toList=some x) :
 ∃ l,SlR lfK W [] l a len cap := by
 obtain ⟨fuel,hf⟩ := k;obtain ⟨a',len',cap',l,e,hS⟩ := opens_slice (K := lfK) Tryz.underlying22 (by kernel_rfl) opens_leaf hf;simp [Value.cells] at e;obtain ⟨rfl,rfl,rfl⟩ := e;exact ⟨l,hS⟩
theorem knots_of {H : Type} {enc : TypeId × Value→H} {W : World} {a : Option Addr} {len cap : Nat} {x : DataW H × List MemPlace} (k : ∃ fuel,DataW.trod enc Tryz.prog W 0 (fun _ => true) true fuel 23 (Value.cells (.slice a len cap)).toList=some x) :
 ∃ l,SlR knK W [] l a len cap := by
 obtain ⟨fuel,hf⟩ := k;obtain ⟨a',len',cap',l,e,hS⟩ := opens_slice (K := knK) Tryz.underlying23 (by kernel_rfl) opens_knot hf;simp [Value.cells] at e;obtain ⟨rfl,rfl,rfl⟩ := e;exact ⟨l,hS⟩
end
section
open Go.ChangeShapes Go.WideShapes Go.ChangeAt Go.RowKit Go.Deep
theorem three_list {α : Type} {cs : List α} (h : cs.length=3) {a b c : α} (h0 : cs[0]?=some a) (h1 : cs[1]?=some b) (h2 : cs[2]?=some c) : cs=[a,b,c] := by
 match cs,h with
 | [p,q,r],_ => simp at h0 h1 h2; subst h0; subst h1; subst h2; rfl
theorem two_list {α : Type} {cs : List α} (h : cs.length=2) {a b : α} (h0 : cs[0]?=some a) (h1 : cs[1]?=some b) : cs=[a,b] := by
 match cs,h with
 | [p,q],_ => simp at h0 h1; subst h0; subst h1; rfl
theorem opens_fixing : Opens Tryz.prog 92 fxK := by
 intro H enc W fuel cs x h;obtain ⟨hl,hf⟩ := opens_struct Tryz.underlying92 (by kernel_rfl) (by kernel_rfl) h;obtain ⟨v0,n0,y0,c0,t0⟩ := hf 0 _ rfl;obtain ⟨v1,n1,y1,c1,t1⟩ := hf 1 _ rfl;obtain ⟨v2,n2,y2,c2,t2⟩ := hf 2 _ rfl;obtain ⟨s,e0,_,w0⟩ := DataW.trod_string Tryz.underlying9 t0;obtain ⟨a,e1,_,w1⟩ := DataW.trod_int (k := .i64) Tryz.underlying3 t1;obtain ⟨b,e2,_,w2⟩ := DataW.trod_int (k := .i64) Tryz.underlying2 t2;injection e0 with e0; injection e1 with e1; injection e2 with e2;subst e0; subst e1; subst e2;exact ⟨⟨s,a,b⟩,three_list hl c0 c1 c2,(show s.size≤9223372036854775807 by unfold maxLen at w0; omega),i64_of w1,i64_of w2⟩
theorem env_of {H : Type} {enc : TypeId × Value→H} {W : World} {base : Nat} {v : Value} {x : DataW H × List MemPlace} (hv : Value.okWide Tryz.prog W .any base 26 v) (k : ∃ fuel,DataW.trod enc Tryz.prog W 0 (fun _ => true) true fuel 26 (Value.cells v).toList=some x) :
 ∃ day a len cap fx,v=.agg #[.int .i64 day,.slice a len cap]∧I64 day∧SlR fxK W [] fx a len cap := by
 obtain ⟨cs,rfl,-⟩ := okWide_struct Tryz.underlying26 hv;obtain ⟨fuel,h⟩ := k;obtain ⟨hl,hf⟩ := opens_struct Tryz.underlying26 (by kernel_rfl) (by kernel_rfl) h;obtain ⟨v0,n0,y0,c0,t0⟩ := hf 0 _ rfl;obtain ⟨v1,n1,y1,c1,t1⟩ := hf 1 _ rfl;obtain ⟨a,e0,_,w0⟩ := DataW.trod_int (k := .i64) Tryz.underlying3 t0;obtain ⟨p,len,cap,l,e1,hS⟩ := opens_slice (K := fxK) Tryz.underlying24 (by kernel_rfl) opens_fixing t1;injection e0 with e0; injection e1 with e1;subst e0; subst e1;refine ⟨a,p,len,cap,l,?_,i64_of w0,hS⟩;have hcs : cs.toList=[.int .i64 a,.slice p len cap] := two_list hl c0 c1;rw [show cs=#[.int .i64 a,.slice p len cap] by rw [← Array.toArray_toList (xs := cs),hcs]]
end
end Go.Proofs.YtmiinmndbkdjbaaGreat
