/- A part of the proof: Enw, ChQ, Open, OpenV, OpenC, one behind another. -/
import Derived.Test.YtmiinmndbkdjbaaGreatMEA
import Derived.Test.YtmiinmndbkdjbaaGreatMEB
import Derived.Test.YtmiinmndbkdjbaaGreatMEC
import Derived.Test.YtmiinmndbkdjbaaGreatMED
import Derived.Test.YtmiinmndbkdjbaaGreatMEE
import Derived.Test.YtmiinmndbkdjbaaGreatMEJ
import Derived.Test.YtmiinmndbkdjbaaGreatMEO
import Derived.Test.YtmiinmndbkdjbaaGreatMEQ
import Derived.Test.YtmiinmndbkdjbaaGreatMEQE
import Derived.Test.YtmiinmndbkdjbaaGreatMEQF
import Derived.Test.YtmiinmndbkdjbaaGreatMEQG
import Derived.WalkKit
import Derived.ProofKit
import Derived.OpenShut
import Derived.ShutString
import Derived.ChangeOld
import Derived.Below
import Derived.Deep.Slices
import Derived.Deep.Fields
import Derived.ChangeSame
import Derived.Lib.Hide
set_option maxRecDepth 100000
set_option maxHeartbeats 16000000
set_option linter.unusedVariables false
set_option linter.unusedSimpArgs false
namespace Go.Proofs.YtmiinmndbkdjbaaGreat
open Go.RowKit
section
theorem infoF : (Tryz.prog.info? 91).map (fun i => (i.zero,i.size,i.bytes))=some (some (.agg #[.string ⟨#[]⟩,.int .i64 0,.int .i64 0]),3,32) := by kernel_rfl
def famV (h : Nat) (day : Int) (a : Option Addr) (len cap : Nat) (fs : List Fx) (vA : Value) : List Ob :=
 [gr fxK 91 h fs vA,bx (h + 1 + 1) 44 #[.int .i64 day,vA],bx (h + 1) 44 #[.int .i64 0,.slice none 0 0],bx h 26 #[.int .i64 day,.slice a len cap]]
structure EnvJ (w wr : World) (day : Int) (a : Option Addr) (len cap : Nat) (fs : List Fx) (vA : Value) : Prop where
 below : Below w.heap.size w wr
 sep : Sep wr (famV w.heap.size day a len cap fs vA)
section
variable {w wr wr' : World} {day : Int} {a : Option Addr} {len cap : Nat} {fs : List Fx} {vA : Value}
theorem EnvJ.up (h : EnvJ w wr day a len cap fs vA) (hb : Below wr.heap.size wr wr') : EnvJ w wr' day a len cap fs vA := ⟨h.below.trans (hb.mono h.below.size),h.sep.below hb⟩
theorem EnvJ.push {w1 : World} {csl : List (List Value)} {v' : Value} {x : Fx} {c : List Value} (h : EnvJ w wr day a len cap fs vA)
 (hG : Grow fxK 91 w.heap.size wr (others (famV w.heap.size day a len cap fs vA) 0) fs vA csl)
 (hR : fxK.R wr (owns (famV w.heap.size day a len cap fs vA)) x c)
 (ho : w1.ownsRow w.heap.size 91 3 v' (fs.length + 1) (csl.flatten ++ c)) (hg : wr.grownBy w1 vA.ownBlock) (hv : v'.ownBlock=vA.ownBlock\/v'.ownBlock=some wr.heap.size) :
 (w1.cell? ⟨w.heap.size + 1 + 1,1,none⟩=some vA/\w1.frozen? ⟨w.heap.size + 1 + 1,1,none⟩=false)/\EnvJ w (w1.setCell ⟨w.heap.size + 1 + 1,1,none⟩ v') day a len cap (fs ++ [x]) v' := by
 have h1 := h.sep.push 0 rfl hG (x := x) (c := c) hR ho hg hv;have h2 := h1.store 1 rfl 1 v';exact ⟨⟨(h1.blk 1 rfl).cell 1,(h1.blk 1 rfl).frozen 1⟩,(h.below.grown hg h.below.size (fun b hb => (hG.blt hb).1)).setCell (by show w.heap.size<=w.heap.size + 1 + 1; omega) _,h2⟩
theorem EnvJ.fin {aA : Option Addr} {cA : Nat} (h : EnvJ w wr day a len cap fs (.slice aA fs.length cA)) :
 SlR fxK ((wr.setCell ⟨w.heap.size + 1,0,none⟩ (.int .i64 day)).setCell ⟨w.heap.size + 1,1,none⟩ (.slice aA fs.length cA)) [] fs aA fs.length cA /\
 Below w.heap.size w ((wr.setCell ⟨w.heap.size + 1,0,none⟩ (.int .i64 day)).setCell ⟨w.heap.size + 1,1,none⟩ (.slice aA fs.length cA)) /\
 Mem.Blk ((wr.setCell ⟨w.heap.size + 1,0,none⟩ (.int .i64 day)).setCell ⟨w.heap.size + 1,1,none⟩ (.slice aA fs.length cA)) (w.heap.size + 1) 44 #[.int .i64 day,.slice aA fs.length cA] := by
 have h1 := (h.sep.store 2 rfl 0 (.int .i64 day)).store 2 rfl 1 (.slice aA fs.length cA);obtain ⟨a',c',e,hS⟩ := h1.still 0 rfl;injection e with e1 e2 e3; subst e1; subst e3;have hl : w.heap.size<=w.heap.size + 1 := by omega
 exact ⟨hS.free,(h.below.setCell hl _).setCell hl _,h1.blk 2 rfl⟩
end
theorem EnvJ.start {w : World} {day : Int} {a : Option Addr} {len cap : Nat} : EnvJ w (((w.alloc (.cells #[.int .i64 day,.slice a len cap] 26)).alloc (.cells #[.int .i64 0,.slice none 0 0] 44)).alloc (.cells #[.int .i64 day,.slice none 0 0] 44)) day a len cap [] (.slice none 0 0) := by
 have h1 := (((Sep.nil w).new 26 #[.int .i64 day,.slice a len cap]).new 44 #[.int .i64 0,.slice none 0 0]).new 44 #[.int .i64 day,.slice none 0 0];have e1 : (w.alloc (.cells #[.int .i64 day,.slice a len cap] 26)).heap.size=w.heap.size + 1 := by simp
 have e2 : ((w.alloc (.cells #[.int .i64 day,.slice a len cap] 26)).alloc (.cells #[.int .i64 0,.slice none 0 0] 44)).heap.size=w.heap.size + 1 + 1 := by simp
 rw [e1,e2] at h1;exact ⟨(((Below.refl _ w).alloc (Nat.le_refl _) _).alloc (by simp) _).alloc (by simp; omega) _,h1.addGr fxK 91 (by simp; omega)⟩
def RetVs (w : World) (day : Int) (fs : List Fx) (x : Ending) : Prop := ∃ a cap,x=.returned (.agg #[.int .i64 day,.slice a fs.length cap])/\SlR fxK w [] fs a fs.length cap
theorem env_any (day : Int) (fx : List Fx) (a : Option Addr) (len cap : Nat) (w : World) (hS : SlR fxK w [] fx a len cap) (h2 : len<=200) :
 Calls Tryz.prog 10 #[.agg #[.int .i64 day,.slice a len cap]] w fun x w' => RetVs w' day fx x/\Below w.heap.size w w' := by
 obtain ⟨f1,f2,f3⟩ := hS.facts;have HL := LH9 f1;have HSS := LH9 hS;have HR0 := LH9 (EnvJ.start (w := w) (day := day) (a := a) (len := len) (cap := cap));clear hS f1
 go_enter Tryz.func10,Tryz.ntmps10
 go_upto_region 2 with (fail);generalize ((w.alloc (.cells #[.int .i64 day,.slice a len cap] 26)).alloc (.cells #[.int .i64 0,.slice none 0 0] 44)).alloc (.cells #[.int .i64 day,.slice none 0 0] 44)=v at *;go_wp2_with fail
 go_loopw [4] (fun i wr => ∃ (k : Nat) (vA : Value),i=.int .i64 (k : Nat)/\k<=len/\Hid (EnvJ w wr day a len cap (fx.take k) vA)) (fun i _ => len - (intOf i).toNat)
 case atStart => exact ⟨0,_,rfl,Nat.zero_le _,HR0.o⟩
 case round =>
  clear HR0;obtain ⟨k,vA,rfl,hk,HR⟩ := hrel;obtain ⟨e0,e1,-,-⟩ := (HR.o.sep.blk 3 rfl).two;have hlk : (fx.take k).length=k := by rw [List.length_take,HL.o]; omega
  have HLK := LH9 hlk;by_cases hlt : k < len
  . have j1' : (k : Int) < (len : Int) := by omega
    obtain ⟨b,o,f,rfl,-,-,hxe,hsz,q1,q2,u0,u1,u2⟩ := fx_at (HSS.o.kept (Kept.of_below HR.o.below [])) k hlt;have HTK : Hid (fx.take (k + 1)=fx.take k ++ [f]) := by
     show fx.take (k + 1)=_;obtain ⟨hk',he⟩ := List.getElem?_eq_some_iff.1 hxe;rw [<- he]; exact (List.take_append_getElem hk').symm
    have HFX : Hid (f.name.size<=9223372036854775807/\I64 f.day/\I64 f.val) := ⟨hsz,q1,q2⟩;clear hxe hlk hsz q1 q2;have d1 : wr.cell? ⟨w.heap.size + 1 + 1,1,none⟩=some vA := (HR.o.sep.blk 1 rfl).cell 1;generalize fx.take k=FS at *;go_wp2_with fail;refine wp_region_till (S := fun W => W.cell? ⟨w.heap.size + 1 + 1,1,none⟩=some vA/\W.cell? ⟨w.heap.size,1,none⟩=some (.slice (some ⟨b,o,none⟩) len cap)/\W.cell? ⟨b,o + k * 3,none⟩=some (.string f.name)/\W.cell? ⟨b,o + k * 3 + 1,none⟩=some (.int .i64 f.day)/\W.cell? ⟨b,o + k * 3 + 2,none⟩=some (.int .i64 f.val)) 8 (by kernel_rfl) ?_;refine tk 0 ⟨d1,e1,u0,u1,u2⟩ ?_;refine tk 1 ⟨d1,e1,u0,u1,u2⟩ ?_;refine tk 2 ⟨d1,e1,u0,u1,u2⟩ ?_;refine tk 3 ⟨d1,e1,u0,u1,u2⟩ ?_;refine tk 4 ⟨d1,e1,u0,u1,u2⟩ ?_;refine tk 5 ⟨d1,e1,u0,u1,u2⟩ ?_;refine tk 6 ⟨d1,e1,u0,u1,u2⟩ ?_;refine t19 7 (fun K' hK=>?_);go_simp;have hbn := below_new wr (.cells #[.string f.name,.int .i64 f.day,.int .i64 f.val] 91);have HB2 := LH9 (HR.o.up hbn);have BZ := LH9 (Mem.Blk.new wr 91 #[.string f.name,.int .i64 f.day,.int .i64 f.val]).drew;refine hK _ _ ⟨cu9 d1 hbn,cu9 e1 hbn,cu9 u0 hbn,cu9 u1 hbn,cu9 u2 hbn⟩ ?_;clear hK K' hbn HR d1 e0 e1 u0 u1 u2;generalize (wr.alloc (.cells _ 91)).drew=w2 at *;generalize wr.heap.size=z at *
    try simp only [Act.put,zp1,zp2,zp3,zp4,zp5,zp6]
    refine tl9 (fun K' hK=>?_);obtain ⟨csl,hGr⟩ := HB2.o.sep.at 0 rfl;refine step_ap infoF Tryz.underlying42 rfl (by decide) rfl (.tmp 16) (.tmp 22) rfl rfl hGr.own hGr.room ⟨z,0,none⟩ 1 1 [.string f.name,.int .i64 f.day,.int .i64 f.val] rfl rfl (fun m u hm => by rw [Mem.add0,BZ.o.cell]; simpa using hm) (by simp [Value.oneCell']) (by have := HLK.o; unfold maxLen; omega) (by have := HLK.o; omega) ?_;intro v' w3 og gg hv';obtain ⟨g2,capn,rfl,-,-,-,-⟩ := own_form og (by omega);refine hK _ _ ?_;clear hK K';obtain ⟨⟨m4,m5⟩,hB3⟩ := HB2.o.push hGr (x := f) (c := fxC f) ⟨rfl,HFX.o⟩ og gg hv';have HB3 := LH9 hB3;clear HB2 hGr og gg hv' BZ hB3
    try simp only [Act.put,zp1,zp2,zp3,zp4,zp5,zp6]
    refine ak 9 ?_;refine any_one (i := 10) (by kernel_rfl) rfl (fun K' hK => ?_);go_simp;refine hK _ _ ?_;clear hK K' m4 m5;refine wd9 ?_;rw [<- HTK.o] at HB3;generalize FS.length=ln at *;obtain rfl : ln=k := HLK.o;go_wp2_with fail;go_roundw
    case rel => exact ⟨ln + 1,_,by go_num,by omega,HB3.o⟩
    case measure => simp [intOf]; omega
  . have hk' : ¬ (k : Int) < (len : Int) := by omega
    obtain rfl : k=len := by omega
    have hfk : fx.take k=fx := List.take_of_length_le (by rw [HL.o]; omega);rw [hfk] at HR;obtain ⟨a',cA,rfl,hSv⟩ := HR.o.sep.still 0 rfl;have HFN := LH9 HR.o.fin;obtain ⟨s0,s1,s2,s3⟩ := (HR.o.sep.blk 1 rfl).two;obtain ⟨t0,t1,t2,t3⟩ := (HR.o.sep.blk 2 rfl).two;have hm := (HR.o.sep.blk 2 rfl).lt;clear hSv HR hfk hlk HLK;have hfl := HL.o;clear HL;subst hfl;go_wp2_with fail;generalize (wr.setCell ⟨w.heap.size + 1,0,none⟩ (.int .i64 day)).setCell ⟨w.heap.size + 1,1,none⟩ (.slice a' fx.length cA)=W9 at *;obtain ⟨r0,r1,-,-⟩ := HFN.o.2.2.two;refine bodyPost_ret (v := .agg #[.int .i64 day,.slice a' fx.length cA]) (by simp [results,Tryz.results10,go_sem,r0,r1]) rfl ⟨⟨a',cA,rfl,HFN.o.1⟩,HFN.o.2.1⟩
end
section
theorem RcR.good {w : World} {E : Int} {R : RS} {x : Ending} (h : RcR w E R x) (h0 : E=0) : ∃ pa pc qa qc,x=.returned (.tuple #[.slice pa R.ps.length pc,.slice qa R.fs.length qc,.int .i64 0])/\SlR ptK w [] R.ps pa R.ps.length pc/\SlR flK w [] R.fs qa R.fs.length qc := by
 rcases h with ⟨h,-⟩ | ⟨-,h⟩
 . exact absurd h0 h
 . exact h
theorem RcR.bad {w : World} {E : Int} {R : RS} {x : Ending} (h : RcR w E R x) (h0 : E ≠ 0) : x=.returned (.tuple #[.slice none 0 0,.slice none 0 0,.int .i64 E]) := by
 rcases h with ⟨-,h⟩ | ⟨h,-⟩
 . exact h
 . exact absurd h h0
theorem RcR.three {w : World} {E : Int} {R : RS} {x : Ending} (h : RcR w E R x) : ∃ pa pn pc qa qn qc,x=.returned (.tuple #[.slice pa pn pc,.slice qa qn qc,.int .i64 E]) := by
 rcases h with ⟨-,h⟩ | ⟨rfl,pa,pc,qa,qc,h,-⟩
 . exact ⟨_,_,_,_,_,_,h⟩
 . exact ⟨_,_,_,_,_,_,h⟩
theorem RcR.kept {w w' : World} {E : Int} {R : RS} {x : Ending} (h : RcR w E R x) (hb : Below w.heap.size w w') : RcR w' E R x := by
 rcases h with h | ⟨h0,pa,pc,qa,qc,h,h1,h2⟩
 . exact .inl h
 . exact .inr ⟨h0,pa,pc,qa,qc,h,h1.kept (Kept.of_below hb _),h2.kept (Kept.of_below hb _)⟩
theorem same_rc {w : World} {E : Int} {R : RS} {pa qa ra sa : Option Addr} {pn pc qn qc rn rc sn sc : Nat} (h : RcR w E R (.returned (.tuple #[.slice pa pn pc,.slice qa qn qc,.int .i64 E]))) (h' : RcR w E R (.returned (.tuple #[.slice ra rn rc,.slice sa sn sc,.int .i64 E]))) :
 Calls Tryz.prog 14 #[.slice pa pn pc,.slice qa qn qc,.slice ra rn rc,.slice sa sn sc] w fun x w' => x=.returned (.bool true)/\Below w.heap.size w w' := by
 by_cases h0 : E=0
 . obtain ⟨_,_,_,_,e,h1,h2⟩ := h.good h0;injection e with e; injection e with e; injection e with e;injection e with e1 e; injection e with e2 _;injection e1 with a1 a2 a3; injection e2 with a4 a5 a6;subst a1; subst a2; subst a3; subst a4; subst a5; subst a6;obtain ⟨_,_,_,_,e,h3,h4⟩ := h'.good h0;injection e with e; injection e with e; injection e with e;injection e with e1 e; injection e with e2 _;injection e1 with a1 a2 a3; injection e2 with a4 a5 a6;subst a1; subst a2; subst a3; subst a4; subst a5; subst a6;exact same23_any R.ps R.fs pa qa ra sa _ pc _ qc rc sc w h1 h2 h3 h4
 . have e := h.bad h0;injection e with e; injection e with e; injection e with e;injection e with e1 e; injection e with e2 _;injection e1 with a1 a2 a3; injection e2 with a4 a5 a6;subst a1; subst a2; subst a3; subst a4; subst a5; subst a6;have e := h'.bad h0;injection e with e; injection e with e; injection e with e;injection e with e1 e; injection e with e2 _;injection e1 with a1 a2 a3; injection e2 with a4 a5 a6;subst a1; subst a2; subst a3; subst a4; subst a5; subst a6;exact same23_any [] [] none none none none 0 0 0 0 0 0 w (SlR.nil _ _ _) (SlR.nil _ _ _) (SlR.nil _ _ _) (SlR.nil _ _ _)
theorem mk1 (W : World) : (Instr.makeSlice 31 (.int .i64 1) (.int .i64 1)).run Tryz.prog W=.ok (.slice (some ⟨W.heap.size,0,none⟩) 1 1) (W.alloc (.cells #[.int .i64 0,.string ⟨#[]⟩,.slice none 0 0,.slice none 0 0] 41)) := by kernel_rfl
theorem mk2 (W : World) : (Instr.makeSlice 31 (.int .i64 2) (.int .i64 2)).run Tryz.prog W=.ok (.slice (some ⟨W.heap.size,0,none⟩) 2 2) (W.alloc (.cells #[.int .i64 0,.string ⟨#[]⟩,.slice none 0 0,.slice none 0 0,.int .i64 0,.string ⟨#[]⟩,.slice none 0 0,.slice none 0 0] 41)) := by kernel_rfl
theorem z1_rep (w : World) : RepT w [] z1 [.int .i64 1,.string ⟨#[]⟩,.slice none 0 0,.slice none 0 0] := RepT.mk' (by unfold I64; omega) (by decide) (SlR.nil exK w []) (SlR.nil teK w [])
theorem kids12 {p : Prt} (h : partB p=true) : p.term.terms.length=1\/p.term.terms.length=2 := by
 obtain ⟨q1,-,-,-⟩ := part_get h;obtain ⟨k1,k2,-,k4,k5⟩ := te_kids (rT_get q1).2.2;unfold partB at h;simp only [Bool.and_eq_true] at h;have hl := h.1.1.1;unfold lastB at hl;rw [decide_eq_true_eq] at hl;by_cases h5 : p.term.op=5
 . right; rw [k2 (.inr h5)]; rfl
 . left; rw [k1 (by omega)]; rfl
theorem of_ok {es : List Ex} {ts : List Te} {l : List Pc} (he : ∀ e ∈ es,e.rk<=60) (ht : ∀ t ∈ ts,t.rk<=121) : ∀ p ∈ ofL es ts l,p.term.rk < 1000/\p.til.length<=1000/\∀ e ∈ p.til,e.rk<=1000 := by
 intro p hp;unfold ofL at hp
 split at hp
 . cases hp
 . rename_i h0
   obtain ⟨c,-,rfl⟩ := List.mem_map.1 hp;have htl : 0 < ts.length := by omega
   have hel : 0 < es.length := by omega
   refine ⟨?_,by show (tilOf es c.un).length<=1000; rw [til_len]; omega,fun e hm => ?_⟩
   . show (ts.getD (pkI c.tm ts.length) zT).rk < 1000;have hp2 := (earl_in (z := c.tm) htl).2;rw [List.getD_eq_getElem?_getD,List.getElem?_eq_getElem hp2];have := ht _ (List.getElem_mem hp2);simp only [Option.getD_some]; omega
   . have hm' : e ∈ tilOf es c.un := hm;unfold tilOf at hm';obtain ⟨z,-,rfl⟩ := List.mem_map.1 hm';have hp2 := (earl_in (z := z) hel).2;rw [List.getD_eq_getElem?_getD,List.getElem?_eq_getElem hp2];have := he _ (List.getElem_mem hp2);simp only [Option.getD_some]; omega
theorem of_len {es : List Ex} {ts : List Te} {l : List Pc} : (ofL es ts l).length<=l.length := by
 unfold ofL
 split
 . exact Nat.zero_le _
 . rw [List.length_map]; exact Nat.le_refl _
theorem lifeChooses_any (a : Option Addr) (len cap : Nat) (lfs : List Lf) (a' : Option Addr) (len' cap' : Nat) (kns : List Kn) (a2 : Option Addr) (len2 cap2 : Nat) (pcs : List Pc) (day1 : Int) (f1 : Option Addr) (l1 c1 : Nat) (fx1 : List Fx) (at_ which : Int) (turned : Bool) (W : World)
 (h1 : SlR lfK W [] lfs a len cap) (h2 : SlR knK W [] kns a' len' cap') (h4 : SlR pcK W [] pcs a2 len2 cap2) (h3 : SlR fxK W [] fx1 f1 l1 c1) (d1 : I64 day1) (hat : I64 at_) (hwh : I64 which) :
 Calls Tryz.prog 4 #[.slice a len cap,.slice a' len' cap',.slice a2 len2 cap2,.agg #[.int .i64 day1,.slice f1 l1 c1],.int .i64 at_,.int .i64 which,.bool turned] W fun x w' => x=.returned (.bool true)/\Below W.heap.size W w' := by
 have hb1 := below_nT W (.cells #[.int .i64 day1,.slice f1 l1 c1] 26);have HB0 := LH9 hb1;have E1 := LH9 (Mem.Blk.new W 26 #[.int .i64 day1,.slice f1 l1 c1]);have H1 := LH9 h1;have H2 := LH9 h2;have H3 := LH9 h3;have H4 := LH9 h4;have D1 := LH9 d1;have HAT := LH9 hat;clear h1 h2 h3 h4 d1 hb1 hat hwh
 go_enter Tryz.func4,Tryz.ntmps4
 go_upto_region 1 with (fail);generalize W.alloc (.cells _ 26)=w0 at *;obtain ⟨m0,m1,-,-⟩ := E1.o.two;go_wp2_with fail;go_at_call 6;(with_reducible refine (great23_any day1 a a' f1 len cap len' cap' l1 c1 w0).mono ?_);rintro y w1 ⟨rfl,b1⟩;have HB1 := bt9 HB0 b1;have E11 := LH9 (E1.o.below b1);clear m0 m1 b1 HB0 E1;by_cases hg : 60 < len\/60 < len'\/60 < l1
 . rw [decide_eq_true hg];clear hg;exact Z7_132
 rw [decide_eq_false hg];have HG := LH9 hg;clear hg;by_cases hg8 : 8 < len2
 . have hg8' : (8 : Int) < (len2 : Int) := by omega
   clear hg8;exact Z7_132
 have hg8' : ¬ (8 : Int) < (len2 : Int) := by omega
 have HG8 : Hid (len2<=8) := by show _<=_; omega
 clear hg8;have HBU := LH9 (build_any lfs kns a a' len cap len' cap' w1 (H1.o.kept (Kept.of_below HB1.o [])) (H2.o.kept (Kept.of_below HB1.o [])));go_wp2_with fail;go_at_call 8;(with_reducible refine HBU.o.mono ?_);rintro e w2 ⟨⟨es,ts,cs,rfl,hT,hel,htl,hre,hrt⟩,b2⟩;have HB2 := bt9 HB1 b2;have E2 := LH9 (E11.o.below b2);have HOF := LH9 (of_any es ts cs pcs a2 len2 cap2 w2 hT (H4.o.kept (Kept.of_below HB2.o [])) HG8.o hre hrt hel htl);have HOK := LH9 (of_ok (l := pcs) hre hrt);have hll : (ofL es ts pcs).length<=8 := by have h9 := of_len (es := es) (ts := ts) (l := pcs); have := H4.o.facts.1; have := HG8.o; omega
 obtain ⟨aE,cE,aN,cN,aD,cD,aT,cT,aM,cM,aP,cP,rfl,-⟩ := id hT;clear hT b2 hre hrt hel htl HBU HB1 E11;obtain ⟨L,hL⟩ : ∃ L,L=ofL es ts pcs := ⟨_,rfl⟩;rw [<- hL] at HOF HOK hll;have HLL := LH9 hll;obtain ⟨BU,hBU⟩ : ∃ b,b=L.all prtB := ⟨_,rfl⟩;rw [<- hBU] at HOF;have HBUE := LH9 hBU;clear hL hll hBU;go_wp2_with fail;go_at_call 15;(with_reducible refine HOF.o.mono ?_);rintro e w3 ⟨⟨la,lc,rfl,hS⟩,b3⟩;have HB3 := bt9 HB2 b3;have E3 := LH9 (E2.o.below b3);have HS := LH9 hS;obtain ⟨ln,hln⟩ : ∃ n,n=L.length := ⟨_,rfl⟩;rw [<- hln] at HS HLL ⊢;have HLN := LH9 hln;have HF3 := LH9 (H3.o.kept (Kept.of_below HB3.o []));have HL1 : Hid (l1<=60) := by have := HG.o; show _<=_; omega
 clear hS b3 HOF E2 HB2 hln;obtain ⟨e0,e1,-,-⟩ := E3.o.two;go_upto_region 4 with (fail)
 go_cut [17,18,19] (fun vp vf ve W6 => ∃ pa pn pc qa qn qc,vp=.slice pa pn pc/\vf=.slice qa qn qc/\ve=.int .i64 (chX day1 fx1 L at_ which turned)/\Hid (Below w3.heap.size w3 W6)/\Hid (RcR W6 (chX day1 fx1 L at_ which turned) (chS day1 fx1 L at_ which) (.returned (.tuple #[.slice pa pn pc,.slice qa qn qc,.int .i64 (chX day1 fx1 L at_ which turned)]))))
 case first =>
  as_aux_lemma =>
   refine wp_region_till (S := fun W' => W'.cell? ⟨W.heap.size,0,none⟩=some (.int .i64 day1)/\W'.cell? ⟨W.heap.size,1,none⟩=some (.slice f1 l1 c1)) 7 (by kernel_rfl) ?_;refine tk 0 ⟨e0,e1⟩ ?_;refine tk 2 ⟨e0,e1⟩ ?_;refine tk 4 ⟨e0,e1⟩ ?_;refine tk 5 ⟨e0,e1⟩ ?_;refine tk 6 ⟨e0,e1⟩ ?_;have b0 : Below w3.heap.size w3 w3.drew := (Below.refl w3.heap.size w3).drew;have hpt := parts_any L la ln lc w3.drew (HS.o.kept (Kept.of_below b0 [])) (by have := HLL.o; omega);rw [<- HLN.o] at hpt;refine t19 1 (fun K' hK=>?_);go_simp;go_at_call 17;(with_reducible refine hpt.mono ?_);rintro y w4 ⟨⟨pa,pc,rfl,hP⟩,b4⟩;have bt4 := b0.trans (b4.mono b0.size);have HP4 := LH9 hP;refine hK _ _ ⟨cu9 e0 bt4,cu9 e1 bt4⟩ ?_;clear hK K' hpt hP;replace e0 := cu9 e0 bt4;replace e1 := cu9 e1 bt4
   try simp only [Act.put,zp1,zp2,zp3,zp4,zp5,zp6]
   refine t19 3 (fun K' hK=>?_);go_simp;go_at_call 10;(with_reducible refine (env_any day1 fx1 f1 l1 c1 w4 (HF3.o.kept (Kept.of_below bt4 [])) (by have := HL1.o; omega)).mono ?_);rintro y w5 ⟨⟨ea,ec,rfl,hE⟩,b5⟩;have HE5 := LH9 hE;have HP5 := LH9 (HP4.o.kept (Kept.of_below b5 []));have HB5 := LH9 (bt4.trans (b5.mono bt4.size));refine hK _ _ ⟨cu9 e0 b5,cu9 e1 b5⟩ ?_;clear hK K' hE b5 b4 bt4 b0 HP4 e0 e1
   try simp only [Act.put,zp1,zp2,zp3,zp4,zp5,zp6]
   refine tl9 (fun K' hK=>?_);go_simp;go_at_call 16;(with_reducible refine (choose_any day1 fx1 ea _ ec L pa ln pc at_ which turned w5 D1.o HAT.o HE5.o HP5.o HOK.o (by have := HLL.o; omega)).mono ?_);rintro y w6 ⟨hy,b6⟩;obtain ⟨qa,qn,qc,ra,rn,rc,rfl⟩ := hy.three;have HY := LH9 hy;have HB6 := bt9 HB5 b6;clear hy b6 HP5 HE5 HB5;refine hK _ _ ?_;clear hK K'
   try simp only [Act.put,zp1,zp2,zp3,zp4,zp5,zp6]
   refine ak 8 ?_;refine ak 9 ?_;refine ak 10 ?_;refine ak 11 ?_;refine ak 12 ?_;refine ak 13 ?_;refine ak 14 ?_;refine wd9 ?_;go_wp2_with fail;go_meet
   case rel => exact ⟨qa,qn,qc,ra,rn,rc,rfl,rfl,rfl,HB6.o,HY.o⟩
 obtain ⟨pa,pn,pc,qa,qn,qc,rfl,rfl,rfl,HB6,HY⟩ := hcut;obtain ⟨w6,rfl⟩ : ∃ W4 : World,W4=wc := ⟨_,rfl⟩;have E6 := LH9 (E3.o.below HB6.o);obtain ⟨e0,e1,-,-⟩ := E6.o.two;have HS6 := LH9 (HS.o.kept (Kept.of_below HB6.o []));have HF6 := LH9 (HF3.o.kept (Kept.of_below HB6.o []));have HB36 := bu9 HB3 HB6;go_upto_region 5 with (fail)
 go_cut [20] (fun vo W7 => ∃ oa on oc,vo=.slice oa on oc/\on=(chO day1 fx1 L).length/\Hid (Below w6.heap.size w6 W7)/\Hid (SlR i64K W7 [] (chO day1 fx1 L) oa on oc))
 case first =>
  as_aux_lemma =>
   refine wp_region_till (S := fun W' => W'.cell? ⟨W.heap.size,0,none⟩=some (.int .i64 day1)/\W'.cell? ⟨W.heap.size,1,none⟩=some (.slice f1 l1 c1)) 4 (by kernel_rfl) ?_;refine tk 0 ⟨e0,e1⟩ ?_;refine tk 2 ⟨e0,e1⟩ ?_;have b0 : Below w6.heap.size w6 w6.drew := (Below.refl w6.heap.size w6).drew;have hpt := parts_any L la ln lc w6.drew (HS6.o.kept (Kept.of_below b0 [])) (by have := HLL.o; omega);rw [<- HLN.o] at hpt;refine t19 1 (fun K' hK=>?_);go_simp;go_at_call 17;(with_reducible refine hpt.mono ?_);rintro y w4 ⟨⟨pa,pc,rfl,hP⟩,b4⟩;have bt4 := b0.trans (b4.mono b0.size);have HP4 := LH9 hP;refine hK _ _ ⟨cu9 e0 bt4,cu9 e1 bt4⟩ ?_;clear hK K' hpt hP;replace e0 := cu9 e0 bt4;replace e1 := cu9 e1 bt4
   try simp only [Act.put,zp1,zp2,zp3,zp4,zp5,zp6]
   refine t19 3 (fun K' hK=>?_);go_simp;go_at_call 10;(with_reducible refine (env_any day1 fx1 f1 l1 c1 w4 (HF6.o.kept (Kept.of_below bt4 [])) (by have := HL1.o; omega)).mono ?_);rintro y w5 ⟨⟨ea,ec,rfl,hE⟩,b5⟩;have HE5 := LH9 hE;have HP5 := LH9 (HP4.o.kept (Kept.of_below b5 []));have HB5 := LH9 (bt4.trans (b5.mono bt4.size));refine hK _ _ ⟨cu9 e0 b5,cu9 e1 b5⟩ ?_;clear hK K' hE b5 b4 bt4 b0 HP4 e0 e1
   try simp only [Act.put,zp1,zp2,zp3,zp4,zp5,zp6]
   refine tl9 (fun K' hK=>?_);go_simp;go_at_call 18;(with_reducible refine (choices_any day1 fx1 ea _ ec L pa ln pc w5 D1.o HE5.o HP5.o HOK.o (by have := HLL.o; omega)).mono ?_);rintro y w6 ⟨⟨oa,oc,rfl,hO⟩,b6⟩;have HO := LH9 hO;have HB6 := bt9 HB5 b6;clear hO b6 HP5 HE5 HB5;refine hK _ _ ?_;clear hK K'
   try simp only [Act.put,zp1,zp2,zp3,zp4,zp5,zp6]
   refine ak 5 ?_;refine wd9 ?_;go_wp2_with fail;go_meet
   case rel => exact ⟨oa,_,oc,rfl,rfl,HB6.o,HO.o⟩
 obtain ⟨oa,on,oc,rfl,hon,HB7,HO⟩ := hcut;obtain ⟨w7,rfl⟩ : ∃ W4 : World,W4=wc := ⟨_,rfl⟩;have E7 := LH9 (E6.o.below HB7.o);have HS7 := LH9 (HS6.o.kept (Kept.of_below HB7.o []));have HF7 := LH9 (HF6.o.kept (Kept.of_below HB7.o []));have HB37 := bu9 HB36 HB7;have HY7 := LH9 (HY.o.kept HB7.o);have HON := LH9 hon;clear e0 e1 E6 HS6 HF6 HB36 HB7 HB6 HY E3 HS HF3 HB3 hon
 cases hrp : rightP L with
 | false =>
   have hx : chX day1 fx1 L at_ which turned=1 := by unfold chX; rw [hrp]; exact if_neg (by decide)
   have ho : chO day1 fx1 L=[] := by unfold chO; rw [hrp]; exact if_neg (by decide)
   rw [hx] at HY7 ⊢;rw [ho] at HON;have e := HY7.o.bad (by decide);injection e with e; injection e with e; injection e with e;injection e with e1 e; injection e with e2 _;injection e1 with a1 a2 a3; injection e2 with a4 a5 a6;subst a1; subst a2; subst a3; subst a4; subst a5; subst a6;have hon0 : on=0 := HON.o;subst hon0;clear hx ho HON HY7 HO
   cases BU with
   | false =>
     clear hrp HBUE;go_wp2_with fail;go_at_call 7;(with_reducible refine (awake23_any w7).mono ?_);rintro y w9 ⟨rfl,b9⟩;have HB9 := bt9 HB37 b9;clear b9;go_wp2_with fail;go_ret;exact ⟨rfl,HB9.o⟩
   | true =>
     have HRR := LH9 (rright_any L la ln lc w7 HS7.o (fun p hp => prtB_iff.1 (List.all_eq_true.1 HBUE.o.symm p hp)) (by have := HLL.o; omega));rw [hrp] at HRR;clear hrp HBUE;go_wp2_with fail;go_at_call 19;(with_reducible refine HRR.o.mono ?_);rintro y w8 ⟨rfl,b8⟩;have HB8 := bt9 HB37 b8;clear b8 HRR;go_wp2_with fail;go_at_call 7;(with_reducible refine (awake23_any w8).mono ?_);rintro y w9 ⟨rfl,b9⟩;have HB9 := bt9 HB8 b9;clear b9;go_wp2_with fail;go_ret;exact ⟨rfl,HB9.o⟩
 | true =>
 have hx : chX day1 fx1 L at_ which turned=chE day1 fx1 L at_ which turned := by unfold chX; rw [hrp]; exact if_pos rfl
 have ho : chO day1 fx1 L=chC day1 fx1 L L.length := by unfold chO; rw [hrp]; exact if_pos rfl
 have hbu : BU=true := by rw [HBUE.o]; exact right_prt hrp
 subst hbu;have HRR := LH9 (rright_any L la ln lc w7 HS7.o (fun p hp => prtB_of (right_parts hrp p hp)) (by have := HLL.o; omega));rw [hrp] at HRR;have HPB := LH9 (right_parts hrp);rw [hx] at HY7 ⊢;rw [ho,<- HLN.o] at HO HON;clear hx ho hrp HBUE;go_wp2_with fail;go_at_call 19;(with_reducible refine HRR.o.mono ?_);rintro y w8 ⟨rfl,b8⟩;have HB8 := bt9 HB37 b8;have E8 := LH9 (E7.o.below b8);have HY8 := LH9 (HY7.o.kept b8);have HO8 := LH9 (HO.o.kept (Kept.of_below b8 []));have HS8 := LH9 (HS7.o.kept (Kept.of_below b8 []));have HF8 := LH9 (HF7.o.kept (Kept.of_below b8 []));have HCH := LH9 (rchoose_any day1 fx1 f1 l1 c1 L la ln lc at_ which turned w8 D1.o HAT.o HF8.o HS8.o (by have := HLL.o; omega) (fun p hp => chOk_of (HPB.o p hp)));obtain ⟨EE,hEE⟩ : ∃ E,E=chE day1 fx1 L at_ which turned := ⟨_,rfl⟩;obtain ⟨SS,hSS⟩ : ∃ E,E=chS day1 fx1 L at_ which := ⟨_,rfl⟩;rw [<- hEE,<- hSS] at HY8 HCH;rw [<- hEE];clear b8 HRR HY7 HO HS7 HF7 HB37 E7 hEE hSS;obtain ⟨e0,e1,-,-⟩ := E8.o.two;go_wp2_with fail;go_at_call 20;(with_reducible refine HCH.o.mono ?_);rintro y w9 ⟨hy,b9⟩;obtain ⟨ra,rn,rc,sa,sn,sc,rfl⟩ := hy.three;have HSA := LH9 (same_rc (HY8.o.kept b9) hy);have HB9 := bt9 HB8 b9;have E9 := LH9 (E8.o.below b9);have HO9 := LH9 (HO8.o.kept (Kept.of_below b9 []));have HS9 := LH9 (HS8.o.kept (Kept.of_below b9 []));have HF9 := LH9 (HF8.o.kept (Kept.of_below b9 []));clear hy b9 HCH HY8 HO8 HS8 HF8 HB8 E8 e0 e1;go_wp2_with fail;go_at_call 14;(with_reducible refine HSA.o.mono ?_);rintro y w4 ⟨rfl,b4⟩;have HB4 := bt9 HB9 b4;have E4 := LH9 (E9.o.below b4);have HO4 := LH9 (HO9.o.kept (Kept.of_below b4 []));have HS4 := LH9 (HS9.o.kept (Kept.of_below b4 []));have HF4 := LH9 (HF9.o.kept (Kept.of_below b4 []));clear b4 HSA HO9 HS9 HF9 HB9 E9;have hcl := chC_len day1 fx1 L;have HCL := LH9 hcl;clear hcl;go_wp2_with fail
 go_loopw [24,25] (fun v i wr => ∃ (k : Nat),v=.int .i64 (((chC day1 fx1 L k).length : Nat) : Int)/\i=.int .i64 (k : Nat)/\k<=ln/\Hid (Below w4.heap.size w4 wr)) (fun _ i _ => ln - (intOf i).toNat)
 case atStart => exact ⟨0,rfl,rfl,Nat.zero_le _,Below.refl _ _⟩
 case round =>
  rename World => wr
  obtain ⟨k,rfl,rfl,hk,HB⟩ := hrel;have hc := HCL.o k;by_cases hlt : k < ln
  . have hlt' : (k : Int) < (ln : Int) := by omega
    have k0 : (0 : Int)<=(k : Int) := by omega
    have k1 : (k : Int)<=8 := by have := HLL.o; omega
    obtain ⟨b,o,p,ua,uc,op,nm,xa,xl,xc,ka,kl,kc,ha,-,-,hp,hop,hf,hU,hT,u0,u1,u2,u3,u4,u5,u6⟩ := pt_at (HS4.o.kept (Kept.of_below HB.o [])) k hlt;have hpb := HPB.o p (List.mem_of_getElem? hp);have hk12 := kids12 hpb;have hke := hT;have hYES := fun h => chC_yes (day := day1) (fx := fx1) hp h
    have hNO := fun h => chC_no (day := day1) (fx := fx1) hp h
    have hGET := fun h => chC_get (day := day1) (fx := fx1) (n := ln) hp hlt h
    have hZE := zed_chE (day := day1) (fx := fx1) (p := p);have HZO := LH9 (zed_ok hpb);obtain ⟨C,hC⟩ : ∃ C,C=choE day1 fx1 p 0 p.turned := ⟨_,rfl⟩;rw [<- hC] at hYES hNO hGET hZE;have HYES := LH9 hYES;have HNO := LH9 hNO;have HGET := LH9 hGET;have HZE := LH9 hZE;obtain ⟨h1,h2⟩ := rep_terms hT;have hkl : p.term.terms.length=kl := h2.facts.1;rw [hkl] at hk12;have HXE := LH9 h1;obtain ⟨_,_,_,_,_,_,_,_,_,_,e1,e2,hop1,hnm1,-,-⟩ := RepT.inv hT;injection e2 with q1 e2;injection e2 with q2 e2;injection q1 with _ q1;injection q2 with q2;rw [<- q1] at hop1;rw [<- q2] at hnm1;have HON1 := LH9 (And.intro hop1 hnm1);have hpn : p.term.op=op/\p.term.nm=nm := ⟨hop.symm,by rw [e1]; exact q2.symm⟩;have HPN := LH9 hpn;have HKL := LH9 hkl;have HU := LH9 hU;have HFI := LH9 hf;have HLT := LH9 hlt;have HA := LH9 ha;have HBW := bu9 HB4 HB;have EW := LH9 (E4.o.below HB.o);clear hke hYES hNO hGET hZE hC hpb h1 h2 hkl e1 e2 q1 q2 hop1 hnm1 hpn hU hf hp hop hlt hT;subst ha;obtain ⟨f,tn,un,t⟩ := p;dsimp only at u0 u1 u2 u3 u4 u5 u6;dsimp only at HU HXE HFI HKL HPN HZE;have b1 := below_nT wr (.cells #[.int .i64 f,.bool tn,.slice ua un.length uc,.int .i64 op,.string nm,.slice xa xl xc,.slice ka kl kc] 53);have BX := LH9 (Mem.Blk.new wr 53 #[.int .i64 f,.bool tn,.slice ua un.length uc,.int .i64 op,.string nm,.slice xa xl xc,.slice ka kl kc]);have HX1 := LH9 b1;have HXS := LH9 ((Sep.nil wr).new 53 #[.int .i64 f,.bool tn,.slice ua un.length uc,.int .i64 op,.string nm,.slice xa xl xc,.slice ka kl kc]);clear b1;go_upto_region 16 with (fail);generalize wr.alloc (.cells _ 53)=w1 at *;obtain ⟨xb,hxb⟩ : ∃ g,g=wr.heap.size := ⟨_,rfl⟩;rw [<- hxb] at BX HXS;rw [show Value.pointer (some ⟨wr.heap.size,0,none⟩)=.pointer (some ⟨xb,0,none⟩) by rw [hxb]];have HXB := LH9 hxb;clear hxb u0 u1 u2 u3 u4 u5 u6;obtain ⟨r0,r1,r2,r3,r4,r5,r6⟩ := blk7 BX.o;rcases hk12 with rfl | rfl
    . have hmk := mk1;have hxa := HXS.o.new 41 #[.int .i64 0,.string ⟨#[]⟩,.slice none 0 0,.slice none 0 0];have n6 : (w1.alloc (.cells #[.int .i64 0,.string ⟨#[]⟩,.slice none 0 0,.slice none 0 0] 41)).cell? ⟨xb,6,none⟩=some (.slice ka 1 kc) := (hxa.blk 1 rfl).cell 6;have n7 : (w1.alloc (.cells #[.int .i64 0,.string ⟨#[]⟩,.slice none 0 0,.slice none 0 0] 41)).frozen? ⟨xb,6,none⟩=false := (hxa.blk 1 rfl).frozen 6;have HXA := LH9 hxa;clear hxa;go_upto_region 17 with (fail);have HXC := LH9 (HXA.o.store 1 rfl 6 (.slice (some ⟨w1.heap.size,0,none⟩) 1 1));have HBC := LH9 ((HX1.o.trans ((below_nT w1 (.cells #[.int .i64 0,.string ⟨#[]⟩,.slice none 0 0,.slice none 0 0] 41)).mono HX1.o.size)).setCell (p := ⟨xb,6,none⟩) (by show wr.heap.size<=xb; have := HXB.o; omega) (.slice (some ⟨w1.heap.size,0,none⟩) 1 1));have HMB := LH9 HX1.o.size;clear n6 n7 HXA r0 r1 r2 r3 r4 r5 r6 hmk;generalize (w1.alloc (.cells #[.int .i64 0,.string ⟨#[]⟩,.slice none 0 0,.slice none 0 0] 41)).setCell ⟨xb,6,none⟩ (.slice (some ⟨w1.heap.size,0,none⟩) 1 1)=w2 at *;generalize w1.heap.size=mb at *;go_wp2_with fail
      go_loopw [27] (fun j W2 => ∃ (q : Nat),j=.int .i64 (q : Nat)/\q<=1/\Hid (Below wr.heap.size wr W2)/\Hid (Sep W2 [bx mb 41 (zc 1 q).toArray,bx xb 53 #[.int .i64 f,.bool tn,.slice ua un.length uc,.int .i64 op,.string nm,.slice xa xl xc,.slice (some ⟨mb,0,none⟩) 1 1]])) (fun j _ => 1 - (intOf j).toNat)
      case atStart => exact ⟨0,rfl,Nat.zero_le _,HBC.o,HXC.o⟩
      case' round =>
       clear HXC HBC;rename World => w5
       obtain ⟨q,rfl,hq,HB5,HS5⟩ := hrel;have x6 : w5.cell? ⟨xb,6,none⟩=some (.slice (some ⟨mb,0,none⟩) 1 1) := (HS5.o.blk 1 rfl).cell 6;by_cases hqn : q < 1
      . obtain rfl : q=0 := by omega
        exact Z7_55
      . obtain rfl : q=1 := by omega
        have hzl : SlR teK w5 [] (List.replicate 1 z1) (some ⟨mb,0,none⟩) 1 1 := SlR.lit1 (K := teK) (x := z1) (c := [.int .i64 1,.string ⟨#[]⟩,.slice none 0 0,.slice none 0 0]) (HS5.o.blk 0 rfl) (by simp) (z1_rep w5);have hzt : RepT w5 [] (zed ⟨f,tn,un,t⟩).term [.int .i64 op,.string nm,.slice xa xl xc,.slice (some ⟨mb,0,none⟩) 1 1] := by
         exact Z7_130
        obtain ⟨e0,e1,-,-⟩ := (EW.o.below HB5.o).two;obtain ⟨r0,r1,r2,r3,r4,r5,r6⟩ := blk7 (HS5.o.blk 1 rfl);have hbn := below_nT w5 (.cells #[.int .i64 f,.bool tn,.slice ua un.length uc,.int .i64 op,.string nm,.slice xa xl xc,.slice (some ⟨mb,0,none⟩) 1 1] 53);have hsq : SlR ptK (w5.alloc (.cells #[.int .i64 f,.bool tn,.slice ua un.length uc,.int .i64 op,.string nm,.slice xa xl xc,.slice (some ⟨mb,0,none⟩) 1 1] 53)) [] [zed ⟨f,tn,un,t⟩] (some ⟨w5.heap.size,0,none⟩) 1 1 := SlR.lit1 (K := ptK) (X := []) (x := zed ⟨f,tn,un,t⟩) (Mem.Blk.new w5 53 _) (by simp) ⟨ua,uc,_,rfl,HFI.o,(HU.o.kept (Kept.of_below HB5.o [])).kept (Kept.of_below hbn []),hzt.kept (Kept.of_below hbn [])⟩;exact Z7_42
    . have hmk := mk2;have hxa := HXS.o.new 41 #[.int .i64 0,.string ⟨#[]⟩,.slice none 0 0,.slice none 0 0,.int .i64 0,.string ⟨#[]⟩,.slice none 0 0,.slice none 0 0];have n6 : (w1.alloc (.cells #[.int .i64 0,.string ⟨#[]⟩,.slice none 0 0,.slice none 0 0,.int .i64 0,.string ⟨#[]⟩,.slice none 0 0,.slice none 0 0] 41)).cell? ⟨xb,6,none⟩=some (.slice ka 2 kc) := (hxa.blk 1 rfl).cell 6;have n7 : (w1.alloc (.cells #[.int .i64 0,.string ⟨#[]⟩,.slice none 0 0,.slice none 0 0,.int .i64 0,.string ⟨#[]⟩,.slice none 0 0,.slice none 0 0] 41)).frozen? ⟨xb,6,none⟩=false := (hxa.blk 1 rfl).frozen 6;have HXA := LH9 hxa;clear hxa;go_upto_region 17 with (fail);have HXC := LH9 (HXA.o.store 1 rfl 6 (.slice (some ⟨w1.heap.size,0,none⟩) 2 2));have HBC := LH9 ((HX1.o.trans ((below_nT w1 (.cells #[.int .i64 0,.string ⟨#[]⟩,.slice none 0 0,.slice none 0 0,.int .i64 0,.string ⟨#[]⟩,.slice none 0 0,.slice none 0 0] 41)).mono HX1.o.size)).setCell (p := ⟨xb,6,none⟩) (by show wr.heap.size<=xb; have := HXB.o; omega) (.slice (some ⟨w1.heap.size,0,none⟩) 2 2));have HMB := LH9 HX1.o.size;clear n6 n7 HXA r0 r1 r2 r3 r4 r5 r6 hmk;generalize (w1.alloc (.cells #[.int .i64 0,.string ⟨#[]⟩,.slice none 0 0,.slice none 0 0,.int .i64 0,.string ⟨#[]⟩,.slice none 0 0,.slice none 0 0] 41)).setCell ⟨xb,6,none⟩ (.slice (some ⟨w1.heap.size,0,none⟩) 2 2)=w2 at *;generalize w1.heap.size=mb at *;go_wp2_with fail
      go_loopw [27] (fun j W2 => ∃ (q : Nat),j=.int .i64 (q : Nat)/\q<=2/\Hid (Below wr.heap.size wr W2)/\Hid (Sep W2 [bx mb 41 (zc 2 q).toArray,bx xb 53 #[.int .i64 f,.bool tn,.slice ua un.length uc,.int .i64 op,.string nm,.slice xa xl xc,.slice (some ⟨mb,0,none⟩) 2 2]])) (fun j _ => 2 - (intOf j).toNat)
      case atStart => exact ⟨0,rfl,Nat.zero_le _,HBC.o,HXC.o⟩
      case' round =>
       clear HXC HBC;rename World => w5
       obtain ⟨q,rfl,hq,HB5,HS5⟩ := hrel;have x6 : w5.cell? ⟨xb,6,none⟩=some (.slice (some ⟨mb,0,none⟩) 2 2) := (HS5.o.blk 1 rfl).cell 6;by_cases hqn : q < 2
      . rcases (show q=0\/q=1 by omega) with rfl | rfl
        . exact Z7_55
        . have y0 : w5.cell? ⟨mb,4,none⟩=some (.int .i64 0) := (HS5.o.blk 0 rfl).cell 4;have y1 : w5.cell? ⟨mb,5,none⟩=some (.string ⟨#[]⟩) := (HS5.o.blk 0 rfl).cell 5;have y2 : w5.cell? ⟨mb,6,none⟩=some (.slice none 0 0) := (HS5.o.blk 0 rfl).cell 6;have y3 : w5.cell? ⟨mb,7,none⟩=some (.slice none 0 0) := (HS5.o.blk 0 rfl).cell 7;have z0 : w5.frozen? ⟨mb,4,none⟩=false := (HS5.o.blk 0 rfl).frozen 4;have z1' : w5.frozen? ⟨mb,5,none⟩=false := (HS5.o.blk 0 rfl).frozen 5;have z2 : w5.frozen? ⟨mb,6,none⟩=false := (HS5.o.blk 0 rfl).frozen 6;have z3 : w5.frozen? ⟨mb,7,none⟩=false := (HS5.o.blk 0 rfl).frozen 7;have HS9 := LH9 ((((HS5.o.store 0 rfl 4 (.int .i64 1)).store 0 rfl 5 (.string ⟨#[]⟩)).store 0 rfl 6 (.slice none 0 0)).store 0 rfl 7 (.slice none 0 0));have HB9 := LH9 ((((HB5.o.setCell (p := ⟨mb,4,none⟩) HMB.o (.int .i64 1)).setCell (p := ⟨mb,5,none⟩) HMB.o (.string ⟨#[]⟩)).setCell (p := ⟨mb,6,none⟩) HMB.o (.slice none 0 0)).setCell (p := ⟨mb,7,none⟩) HMB.o (.slice none 0 0));clear HS5 HB5;go_wp2_with fail;go_roundw
          case rel => exact ⟨1 + 1,rfl,by omega,HB9.o,HS9.o⟩
          case measure => simp [intOf]
      . obtain rfl : q=2 := by omega
        have hzl : SlR teK w5 [] (List.replicate 2 z1) (some ⟨mb,0,none⟩) 2 2 := SlR.lit2 (K := teK) (x := z1) (y := z1) (c := [.int .i64 1,.string ⟨#[]⟩,.slice none 0 0,.slice none 0 0]) (d := [.int .i64 1,.string ⟨#[]⟩,.slice none 0 0,.slice none 0 0]) (HS5.o.blk 0 rfl) rfl (by simp) (z1_rep w5) (z1_rep w5);have hzt : RepT w5 [] (zed ⟨f,tn,un,t⟩).term [.int .i64 op,.string nm,.slice xa xl xc,.slice (some ⟨mb,0,none⟩) 2 2] := by
         exact Z7_130
        obtain ⟨e0,e1,-,-⟩ := (EW.o.below HB5.o).two;obtain ⟨r0,r1,r2,r3,r4,r5,r6⟩ := blk7 (HS5.o.blk 1 rfl);have hbn := below_nT w5 (.cells #[.int .i64 f,.bool tn,.slice ua un.length uc,.int .i64 op,.string nm,.slice xa xl xc,.slice (some ⟨mb,0,none⟩) 2 2] 53);have hsq : SlR ptK (w5.alloc (.cells #[.int .i64 f,.bool tn,.slice ua un.length uc,.int .i64 op,.string nm,.slice xa xl xc,.slice (some ⟨mb,0,none⟩) 2 2] 53)) [] [zed ⟨f,tn,un,t⟩] (some ⟨w5.heap.size,0,none⟩) 1 1 := SlR.lit1 (K := ptK) (X := []) (x := zed ⟨f,tn,un,t⟩) (Mem.Blk.new w5 53 _) (by simp) ⟨ua,uc,_,rfl,HFI.o,(HU.o.kept (Kept.of_below HB5.o [])).kept (Kept.of_below hbn []),hzt.kept (Kept.of_below hbn [])⟩;exact Z7_42
  . have hlt' : ¬ (k : Int) < (ln : Int) := by omega
    obtain rfl : k=ln := by omega
    have HBW := bu9 HB4 HB;have hon2 : on=(chC day1 fx1 L k).length := HON.o;subst hon2;clear hlt hc;go_wp2_with fail;go_at_call 7;(with_reducible refine (awake23_any wr).mono ?_);rintro y w9 ⟨rfl,b9⟩;have HB9 := bt9 HBW b9;clear b9;go_wp2_with fail;go_ret;exact ⟨rfl,HB9.o⟩
end
section
open Go.ChangeShapes Go.WideShapes Go.ChangeAt Go.RowKit Go.Deep
def Opens {α : Type} (P : Program) (e : TypeId) (K : Elt α) : Prop :=
 ∀ (H : Type) (enc : TypeId × Value->H) (W : World) (fuel : Nat) (cs : List Value) (x : DataW H × List MemPlace),DataW.trod enc P W 0 (fun _ => true) true fuel e cs=some x->∃ d,K.R W [] d cs
theorem i64_of {n : Int} (h : (Lit.int .i64 n).wf=true) : I64 n := by
 simp [Lit.wf,IntKind.min,IntKind.max,IntKind.signed,IntKind.bits] at h;unfold I64;omega
theorem opens_int {P : Program} {t : TypeId} (ht : P.underlying t=some (.int .i64)) : Opens P t i64K := by
 intro H enc W fuel cs x h;obtain ⟨n,rfl,_,hw⟩ := DataW.trod_int ht h;exact ⟨n,rfl,i64_of hw⟩
theorem pick_all {α : Type} {Q : Nat->α->List Value->Prop} : ∀ (len : Nat),(∀ i,i < len->∃ d c,Q i d c)->∃ (l : List α) (vs : List (List Value)),l.length=len/\vs.length=len/\∀ i d c,l[i]?=some d->vs[i]?=some c->Q i d c := by
 intro len
 induction len with
 | zero => intro _; exact ⟨[],[],rfl,rfl,fun i d c h _ => by simp at h⟩
 | succ n ih =>
   intro h;obtain ⟨l,vs,h1,h2,h3⟩ := ih (fun i hi => h i (by omega));obtain ⟨d,c,hq⟩ := h n (by omega);refine ⟨l ++ [d],vs ++ [c],by simp [h1],by simp [h2],fun i d' c' hd hc => ?_⟩;rcases Nat.lt_or_ge i n with hi | hi
   . rw [List.getElem?_append_left (by omega)] at hd hc;exact h3 i d' c' hd hc
   . have hin : i=n := by
      have := (List.getElem?_eq_some_iff.1 hd).1; simp at this; omega
     subst hin;rw [List.getElem?_append_right (by omega),h1,Nat.sub_self] at hd;rw [List.getElem?_append_right (by omega),h2,Nat.sub_self] at hc;injection hd with hd; injection hc with hc;subst hd; subst hc;exact hq
theorem opens_slice {α : Type} {K : Elt α} {P : Program} {t e : TypeId} (ht : P.underlying t=some (.slice e)) (hK : P.cellsOf e=K.sz) (he : Opens P e K) {H : Type} {enc : TypeId × Value->H} {W : World} {fuel : Nat} {cs : List Value} {x : DataW H × List MemPlace}
 (h : DataW.trod enc P W 0 (fun _ => true) true fuel t cs=some x) : ∃ a len cap l,cs=[.slice a len cap]/\SlR K W [] l a len cap := by
 rcases open_slice ht h with ⟨rfl,_⟩ | ⟨a,len,cap,m,n,D,Pl,rfl,_,hl,hm,hmm,_,hi⟩
 . exact ⟨none,0,0,[],rfl,SlR.nil K W []⟩
 . have hmx : cap<=9223372036854775807 := by
    have : maxLen=9223372036854775807 := by decide
    omega
   rw [if_pos rfl] at hmm;obtain ⟨l,vs,h1,h2,h3⟩ := pick_all (Q := fun i d c => K.R W [] d c/\c.length=K.sz/\∀ j u,c[j]?=some u->W.cell? (a.add (i * K.sz + j))=some u) len (fun i hi' => by
    obtain ⟨c,hc,ht'⟩ := hi i (by omega);obtain ⟨d,hd⟩ := he H enc W n c _ ht';obtain ⟨_,hcl,hat⟩ := World.cells?_some hc;rw [hK] at hcl hat;refine ⟨d,c,hd,hcl,fun j u hj => ?_⟩;have hjs : j < K.sz := by rw [<- hcl]; exact (List.getElem?_eq_some_iff.1 hj).1
    rw [<- Go.Deep.add_add,hat j hjs];exact hj)
   refine ⟨some a,len,cap,l,rfl,vs,by rw [h1,h2],fun i d c hd hc => (h3 i d c hd hc).1,h2,hl,hmx,fun hp => ?_⟩;have hv0 : vs[0]?=some (vs[0]'(by omega)) := List.getElem?_eq_getElem (by omega);have hl0 : l[0]?=some (l[0]'(by omega)) := List.getElem?_eq_getElem (by omega);obtain ⟨_,hlen0,hcell0⟩ := h3 0 _ _ hl0 hv0;have hK0 := K.pos;have hz := hcell0 0 _ (List.getElem?_eq_getElem (by omega));obtain ⟨b,off,spot⟩ := a;obtain rfl : spot=none := by simpa [Addr.add] using World.cell?_spot hz
   have hblt := cell_lt hz;rw [show (⟨b,off,none⟩ : Addr).add (0 * K.sz + 0)=⟨b,off + (0 * K.sz + 0),none⟩ from Mem.add_off _ _ _] at hblt;refine ⟨b,off,rfl,hblt,List.not_mem_nil,fun i c hc => ?_⟩;have hlt : i < l.length := by rw [h1,<- h2]; exact (List.getElem?_eq_some_iff.1 hc).1
   obtain ⟨_,g2,g3⟩ := h3 i _ c (List.getElem?_eq_getElem hlt) hc;refine ⟨g2,fun j u hj => ?_⟩;have := g3 j u hj;rw [Mem.add_off,<- Nat.add_assoc] at this;exact this
theorem opens_struct {P : Program} {e : TypeId} {fs : Array Field} (he : P.underlying e=some (.struct fs)) (hone : oneCellFields P fs=true) (hC : P.cellsOf e=fs.size) {H : Type} {enc : TypeId × Value->H} {W : World} {fuel : Nat} {cs : List Value} {x : DataW H × List MemPlace}
 (h : DataW.trod enc P W 0 (fun _ => true) true fuel e cs=some x) : cs.length=fs.size/\∀ (j : Nat) (f : Field),fs[j]?=some f->∃ v n y,cs[j]?=some v/\DataW.trod enc P W 0 (fun _ => true) true n f.type [v]=some y := by
 obtain ⟨ys,n',hn',hy,hlen,hyl,hf⟩ := DataW.trod_struct he h;refine ⟨by rw [hlen,hC],fun j f hj => ?_⟩;obtain ⟨ho,hk⟩ := hone_of hone j f hj;have hjl : j < fs.size := (Array.getElem?_eq_some_iff.1 hj).1;have hv : cs[j]?=some (cs[j]'(by omega)) := List.getElem?_eq_getElem (by omega);have h1 := hf j f hj;rw [ho,hk] at h1;have hone' : (cs.drop j).take 1=[cs[j]'(by omega)] := by
  rw [List.drop_eq_getElem_cons (by omega)]
  rfl
 rw [hone'] at h1;have hys : ys[j]?=some (ys[j]'(by omega)) := List.getElem?_eq_getElem (by omega);exact ⟨_,_,_,hv,h1.trans hys⟩
theorem four_list {α : Type} {cs : List α} (h : cs.length=4) {a b c d : α} (h0 : cs[0]?=some a) (h1 : cs[1]?=some b) (h2 : cs[2]?=some c) (h3 : cs[3]?=some d) : cs=[a,b,c,d] := by
 match cs,h with
 | [p,q,r,s],_ => simp at h0 h1 h2 h3; subst h0; subst h1; subst h2; subst h3; rfl
theorem opens_leaf : Opens Tryz.prog 77 lfK := by
 intro H enc W fuel cs x h;obtain ⟨hl,hf⟩ := opens_struct Tryz.underlying77 (by kernel_rfl) (by kernel_rfl) h;obtain ⟨v0,n0,y0,c0,t0⟩ := hf 0 _ rfl;obtain ⟨v1,n1,y1,c1,t1⟩ := hf 1 _ rfl;obtain ⟨v2,n2,y2,c2,t2⟩ := hf 2 _ rfl;obtain ⟨v3,n3,y3,c3,t3⟩ := hf 3 _ rfl;obtain ⟨a,e0,_,w0⟩ := DataW.trod_int (k := .i64) Tryz.underlying3 t0;obtain ⟨b,e1,_,w1⟩ := DataW.trod_int (k := .i64) Tryz.underlying2 t1;obtain ⟨s,e2,_,w2⟩ := DataW.trod_string Tryz.underlying9 t2;obtain ⟨p,len,cap,l,e3,hS⟩ := opens_slice (K := i64K) Tryz.underlying30 (by kernel_rfl) (opens_int Tryz.underlying3) t3;injection e0 with e0; injection e1 with e1; injection e2 with e2; injection e3 with e3;subst e0; subst e1; subst e2; subst e3;have hll := hS.facts.1;subst hll;exact ⟨⟨a,b,s,l⟩,p,cap,four_list hl c0 c1 c2 c3,i64_of w0,i64_of w1,(show s.size<=9223372036854775807 by unfold maxLen at w2; omega),hS⟩
theorem opens_knot : Opens Tryz.prog 82 knK := by
 intro H enc W fuel cs x h;obtain ⟨hl,hf⟩ := opens_struct Tryz.underlying82 (by kernel_rfl) (by kernel_rfl) h;obtain ⟨v0,n0,y0,c0,t0⟩ := hf 0 _ rfl;obtain ⟨v1,n1,y1,c1,t1⟩ := hf 1 _ rfl;obtain ⟨v2,n2,y2,c2,t2⟩ := hf 2 _ rfl;obtain ⟨v3,n3,y3,c3,t3⟩ := hf 3 _ rfl;obtain ⟨a,e0,_,w0⟩ := DataW.trod_int (k := .i64) Tryz.underlying3 t0;obtain ⟨s,e1,_,w1⟩ := DataW.trod_string Tryz.underlying9 t1;obtain ⟨p,len,cap,l,e2,hS⟩ := opens_slice (K := i64K) Tryz.underlying30 (by kernel_rfl) (opens_int Tryz.underlying3) t2;obtain ⟨p2,len2,cap2,l2,e3,hS2⟩ := opens_slice (K := i64K) Tryz.underlying30 (by kernel_rfl) (opens_int Tryz.underlying3) t3;injection e0 with e0; injection e1 with e1; injection e2 with e2; injection e3 with e3;subst e0; subst e1; subst e2; subst e3;have hll := hS.facts.1;subst hll;have hll2 := hS2.facts.1;subst hll2;exact ⟨⟨a,s,l,l2⟩,p,cap,p2,cap2,four_list hl c0 c1 c2 c3,i64_of w0,(show s.size<=9223372036854775807 by unfold maxLen at w1; omega),hS,hS2⟩
theorem leaves_of {H : Type} {enc : TypeId × Value->H} {W : World} {a : Option Addr} {len cap : Nat} {x : DataW H × List MemPlace} (k : ∃ fuel,DataW.trod enc Tryz.prog W 0 (fun _ => true) true fuel 22 (Value.cells (.slice a len cap)).toList=some x) :
 ∃ l,SlR lfK W [] l a len cap := by
 obtain ⟨fuel,hf⟩ := k;obtain ⟨a',len',cap',l,e,hS⟩ := opens_slice (K := lfK) Tryz.underlying22 (by kernel_rfl) opens_leaf hf;simp [Value.cells] at e;obtain ⟨rfl,rfl,rfl⟩ := e;exact ⟨l,hS⟩
theorem knots_of {H : Type} {enc : TypeId × Value->H} {W : World} {a : Option Addr} {len cap : Nat} {x : DataW H × List MemPlace} (k : ∃ fuel,DataW.trod enc Tryz.prog W 0 (fun _ => true) true fuel 23 (Value.cells (.slice a len cap)).toList=some x) :
 ∃ l,SlR knK W [] l a len cap := by
 obtain ⟨fuel,hf⟩ := k;obtain ⟨a',len',cap',l,e,hS⟩ := opens_slice (K := knK) Tryz.underlying23 (by kernel_rfl) opens_knot hf;simp [Value.cells] at e;obtain ⟨rfl,rfl,rfl⟩ := e;exact ⟨l,hS⟩
end
section
open Go.ChangeShapes Go.WideShapes Go.ChangeAt Go.RowKit Go.Deep
theorem three_list {α : Type} {cs : List α} (h : cs.length=3) {a b c : α} (h0 : cs[0]?=some a) (h1 : cs[1]?=some b) (h2 : cs[2]?=some c) : cs=[a,b,c] := by
 match cs,h with
 | [p,q,r],_ => simp at h0 h1 h2; subst h0; subst h1; subst h2; rfl
theorem two_list {α : Type} {cs : List α} (h : cs.length=2) {a b : α} (h0 : cs[0]?=some a) (h1 : cs[1]?=some b) : cs=[a,b] := by
 match cs,h with
 | [p,q],_ => simp at h0 h1; subst h0; subst h1; rfl
theorem opens_fixing : Opens Tryz.prog 92 fxK := by
 intro H enc W fuel cs x h;obtain ⟨hl,hf⟩ := opens_struct Tryz.underlying92 (by kernel_rfl) (by kernel_rfl) h;obtain ⟨v0,n0,y0,c0,t0⟩ := hf 0 _ rfl;obtain ⟨v1,n1,y1,c1,t1⟩ := hf 1 _ rfl;obtain ⟨v2,n2,y2,c2,t2⟩ := hf 2 _ rfl;obtain ⟨s,e0,_,w0⟩ := DataW.trod_string Tryz.underlying9 t0;obtain ⟨a,e1,_,w1⟩ := DataW.trod_int (k := .i64) Tryz.underlying3 t1;obtain ⟨b,e2,_,w2⟩ := DataW.trod_int (k := .i64) Tryz.underlying2 t2;injection e0 with e0; injection e1 with e1; injection e2 with e2;subst e0; subst e1; subst e2;exact ⟨⟨s,a,b⟩,three_list hl c0 c1 c2,(show s.size<=9223372036854775807 by unfold maxLen at w0; omega),i64_of w1,i64_of w2⟩
theorem env_of {H : Type} {enc : TypeId × Value->H} {W : World} {base : Nat} {v : Value} {x : DataW H × List MemPlace} (hv : Value.okWide Tryz.prog W .any base 26 v) (k : ∃ fuel,DataW.trod enc Tryz.prog W 0 (fun _ => true) true fuel 26 (Value.cells v).toList=some x) :
 ∃ day a len cap fx,v=.agg #[.int .i64 day,.slice a len cap]/\I64 day/\SlR fxK W [] fx a len cap := by
 obtain ⟨cs,rfl,-⟩ := okWide_struct Tryz.underlying26 hv;obtain ⟨fuel,h⟩ := k;obtain ⟨hl,hf⟩ := opens_struct Tryz.underlying26 (by kernel_rfl) (by kernel_rfl) h;obtain ⟨v0,n0,y0,c0,t0⟩ := hf 0 _ rfl;obtain ⟨v1,n1,y1,c1,t1⟩ := hf 1 _ rfl;obtain ⟨a,e0,_,w0⟩ := DataW.trod_int (k := .i64) Tryz.underlying3 t0;obtain ⟨p,len,cap,l,e1,hS⟩ := opens_slice (K := fxK) Tryz.underlying24 (by kernel_rfl) opens_fixing t1;injection e0 with e0; injection e1 with e1;subst e0; subst e1;refine ⟨a,p,len,cap,l,?_,i64_of w0,hS⟩;have hcs : cs.toList=[.int .i64 a,.slice p len cap] := two_list hl c0 c1;rw [show cs=#[.int .i64 a,.slice p len cap] by rw [<- Array.toArray_toList (xs := cs),hcs]]
end
section
open Go.ChangeShapes Go.WideShapes Go.ChangeAt Go.RowKit Go.Deep
theorem opens_piece : Opens Tryz.prog 103 pcK := by
 intro H enc W fuel cs x h;obtain ⟨hl,hf⟩ := opens_struct Tryz.underlying103 (by kernel_rfl) (by kernel_rfl) h;obtain ⟨v0,n0,y0,c0,t0⟩ := hf 0 _ rfl;obtain ⟨v1,n1,y1,c1,t1⟩ := hf 1 _ rfl;obtain ⟨v2,n2,y2,c2,t2⟩ := hf 2 _ rfl;obtain ⟨v3,n3,y3,c3,t3⟩ := hf 3 _ rfl;obtain ⟨a,e0,_,w0⟩ := DataW.trod_int (k := .i64) Tryz.underlying2 t0;obtain ⟨b,e1,_⟩ := DataW.trod_bool Tryz.underlying4 t1;obtain ⟨p,len,cap,l,e2,hS⟩ := opens_slice (K := i64K) Tryz.underlying30 (by kernel_rfl) (opens_int Tryz.underlying3) t2;obtain ⟨d,e3,_,w3⟩ := DataW.trod_int (k := .i64) Tryz.underlying3 t3;injection e0 with e0; injection e1 with e1; injection e2 with e2; injection e3 with e3;subst e0; subst e1; subst e2; subst e3;have hll := hS.facts.1;subst hll;exact ⟨⟨a,b,l,d⟩,p,cap,four_list hl c0 c1 c2 c3,i64_of w0,i64_of w3,hS⟩
theorem pieces_of {H : Type} {enc : TypeId × Value->H} {W : World} {a : Option Addr} {len cap : Nat} {x : DataW H × List MemPlace} (k : ∃ fuel,DataW.trod enc Tryz.prog W 0 (fun _ => true) true fuel 55 (Value.cells (.slice a len cap)).toList=some x) :
 ∃ l,SlR pcK W [] l a len cap := by
 obtain ⟨fuel,hf⟩ := k;obtain ⟨a',len',cap',l,e,hS⟩ := opens_slice (K := pcK) Tryz.underlying55 (by kernel_rfl) opens_piece hf;simp [Value.cells] at e;obtain ⟨rfl,rfl,rfl⟩ := e;exact ⟨l,hS⟩
end
end Go.Proofs.YtmiinmndbkdjbaaGreat
