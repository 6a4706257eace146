/- A part of the proof: ChP, ChA, one behind another. -/
import Derived.Test.YtmiinmndbkdjbaaGreatMEA
import Derived.Test.YtmiinmndbkdjbaaGreatMEB
import Derived.Test.YtmiinmndbkdjbaaGreatMEE
import Derived.Test.YtmiinmndbkdjbaaGreatMEF
import Derived.Test.YtmiinmndbkdjbaaGreatMEL
import Derived.Test.YtmiinmndbkdjbaaGreatMEZ
import Derived.Test.YtmiinmndbkdjbaaGreatMEQE
import Derived.Lib.Hide
import Derived.WalkKit
set_option maxRecDepth 100000
set_option maxHeartbeats 16000000
set_option linter.unusedVariables false
set_option linter.unusedSimpArgs false
namespace Go.Proofs.YtmiinmndbkdjbaaGreat
open Go.RowKit
section
theorem build_rp2 (f : Int) (tn : Bool) (o : Int) (s : ByteArray) (x y : Option Addr) (xl xc yl yc : Nat) (W : World) : (Instr.build 53 #[(0,.int .i64 f),(1,.bool tn),(3,.agg #[.int .i64 o,.string s,.slice x xl xc,.slice y yl yc])]).run Tryz.prog W=.ok (.agg #[.int .i64 f,.bool tn,.slice none 0 0,.int .i64 o,.string s,.slice x xl xc,.slice y yl yc]) W := by kernel_rfl
theorem build_y3 {S : World->Prop} {a : Act} {op : Oper} {x0 x1 x3 : Operand} {f : Int} {tn : Bool} {o : Int} {s : ByteArray} {x y : Option Addr} {xl xc yl yc : Nat} (ho : op.op=.build 53 #[(0,x0),(1,x1),(3,x3)]) (h0 : a.eval x0=.int .i64 f) (h1 : a.eval x1=.bool tn)
 (h3 : a.eval x3=.agg #[.int .i64 o,.string s,.slice x xl xc,.slice y yl yc]) : ∀ w,S w->(execOp a.eval op).run Tryz.prog w=.ok (.value (.agg #[.int .i64 f,.bool tn,.slice none 0 0,.int .i64 o,.string s,.slice x xl xc,.slice y yl yc])) w := by
 intro w _;unfold execOp;rw [ho];simp only [Sem.run_bind,List.map_toArray,List.map_cons,List.map_nil,h0,h1,h3,build_rp2,Result.andThen_ok,Sem.run_pure]
theorem earl_w (z n : Int) (h0 : 0 < n) (h1 : n<=1000) : wrap64 (n - 1 - wrap64 ((IntKind.u64.wrap z).tmod n))=earl z n := by
 have h := ret_earl z n (by omega) h1 (by omega);injection h with h;injection h
def famO (base tb : Nat) (cs : Array Value) (out : List Prt) (vO : Value) : List Ob := [gr ptK 53 base out vO,bx tb 33 cs]
theorem owns_ge {w' : World} {B : Nat} {l : List Ex} {vU : Value} {z : Nat} {cs : Array Value} {tb : Nat} {cs' : Array Value} {out : List Prt} {vO : Value} (h : Sep w' (gr exK 74 B l vU :: bx z 53 cs :: famO B tb cs' out vO)) (hz : B<=z) (ht : B<=tb) : ∀ q ∈ owns (gr exK 74 B l vU :: bx z 53 cs :: famO B tb cs' out vO),B<=q := by
 intro q hq;obtain ⟨m,om,hom,hb⟩ := mem_owns.1 hq
 match m,hom with
 | 0,hom =>
   injection hom with hom;subst hom;obtain ⟨csl,hG⟩ := h.at 0 rfl;have h2 : q ∈ vU.ownBlock.toList := hb;rw [Option.mem_toList] at h2;exact (hG.blt h2).1
 | 1,hom =>
   injection hom with hom;subst hom;have h2 : q ∈ [z] := hb;rw [List.mem_singleton] at h2;omega
 | 2,hom =>
   injection hom with hom;subst hom;obtain ⟨csl,hG⟩ := h.at 2 rfl;have h2 : q ∈ vO.ownBlock.toList := hb;rw [Option.mem_toList] at h2;exact (hG.blt h2).1
 | 3,hom =>
   injection hom with hom;subst hom;have h2 : q ∈ [tb] := hb;rw [List.mem_singleton] at h2;omega
 | k + 4,hom => simp [famO] at hom
theorem of_any (es : List Ex) (ts : List Te) (cs : List Value) (l : List Pc) (a : Option Addr) (n c : Nat) (w : World) (hT : TreeIs w [] es ts cs) (hS : SlR pcK w [] l a n c) (h8 : n<=8) (hre : ∀ e ∈ es,e.rk<=60) (hrt : ∀ t ∈ ts,t.rk<=121) (hel : es.length<=60) (htl : ts.length<=60) :
 Calls Tryz.prog 15 #[.agg cs.toArray,.slice a n c] w fun x w' => (∃ a' c',x=.returned (.tuple #[.slice a' (ofL es ts l).length c',.bool ((ofL es ts l).all prtB)])/\SlR ptK w' [] (ofL es ts l) a' (ofL es ts l).length c')/\Below w.heap.size w w' := by
 have hfl : l.length=n := hS.facts.1;have HFL := LH9 hfl;have HT := LH9 hT;have HS := LH9 hS;have H8 := LH9 h8;have HRE := LH9 hre;have HRT := LH9 hrt;have HSZ := LH9 (And.intro hel htl);obtain ⟨aE,cE,aN,cN,aD,cD,aT,cT,aM,cM,aP,cP,rfl,h1,-,-,h4,-,-⟩ := id hT;have HEX := LH9 h1;have HTE := LH9 h4;have hs1 : Sep (w.alloc (.cells #[.slice aE es.length cE,.slice aN (nds es).length cN,.slice aD (rks es).length cD,.slice aT ts.length cT,.slice aM (ndsT ts).length cM,.slice aP (rksT ts).length cP] 33)) (famO w.heap.size w.heap.size #[.slice aE es.length cE,.slice aN (nds es).length cN,.slice aD (rks es).length cD,.slice aT ts.length cT,.slice aM (ndsT ts).length cM,.slice aP (rksT ts).length cP] [] (.slice none 0 0)) :=
  ((Sep.nil w).new 33 _).addGr ptK 53 (by simp)
 have HS1 := LH9 hs1;have HB1 := LH9 (below_nT w (.cells #[.slice aE es.length cE,.slice aN (nds es).length cN,.slice aD (rks es).length cD,.slice aT ts.length cT,.slice aM (ndsT ts).length cM,.slice aP (rksT ts).length cP] 33));obtain ⟨L,hL⟩ : ∃ L,L=l.map (prtOf es ts) := ⟨_,rfl⟩;have HLL := LH9 hL;have hof : ofL es ts l=if es.length=0\/ts.length=0 then [] else L := by rw [hL]; rfl
 have HOF := LH9 hof;obtain ⟨R,hR⟩ : ∃ R,R=ofL es ts l := ⟨_,rfl⟩;rw [<- hR] at HOF ⊢;have hLn : L.length=n := by rw [hL,List.length_map,hfl]
 have HLN := LH9 hLn;clear hfl hT hS h8 hre hrt h1 h4 hs1 hL hof hR hLn hel htl
 go_enter Tryz.func15,Tryz.ntmps15
 go_upto_region 4 with (fail);generalize w.alloc (.cells _ 33)=w1 at *
 go_loopw [6,7,8] (fun v b i wr => ∃ (k : Nat),b=.bool ((L.take k).all prtB)/\i=.int .i64 (k : Nat)/\k<=n/\Hid (k=0\/(0 < es.length/\0 < ts.length))/\Hid (Below w.heap.size w wr)/\Hid (Sep wr (famO w.heap.size w.heap.size #[.slice aE es.length cE,.slice aN (nds es).length cN,.slice aD (rks es).length cD,.slice aT ts.length cT,.slice aM (ndsT ts).length cM,.slice aP (rksT ts).length cP] (L.take k) v))) (fun _ _ i _ => n - (intOf i).toNat)
 case atStart => exact ⟨0,rfl,rfl,Nat.zero_le _,.inl rfl,HB1.o,HS1.o⟩
 case round =>
  rename World => wr
  obtain ⟨k,rfl,rfl,hk,HZ,HB,HW⟩ := hrel;have d0 : wr.cell? ⟨w.heap.size,0,none⟩=some (.slice aE es.length cE) := (HW.o.blk 1 rfl).cell 0;have d3 : wr.cell? ⟨w.heap.size,3,none⟩=some (.slice aT ts.length cT) := (HW.o.blk 1 rfl).cell 3;have k8 : (k : Int)<=8 := by have := H8.o; omega
  have k0 : (0 : Int)<=(k : Int) := by omega
  by_cases hlt : k < n
  . have hlt' : (k : Int) < (n : Int) := by omega
    have hk8 : (k : Int) < 8 := by have := H8.o; omega
    by_cases ht0 : 0 < ts.length
    . by_cases he0 : 0 < es.length
      . have hti : (0 : Int) < (ts.length : Int) := by omega
        have hei : (0 : Int) < (es.length : Int) := by omega
        obtain ⟨b,o,p,ua,uc,ha,hbl,hp,hf,htm,hU,u0,u1,u2,u3⟩ := pc_at (HS.o.kept (Kept.of_below HB.o [])) k hlt;obtain ⟨hea,hpk⟩ := earl_in (z := p.tm) ht0;have hts : (ts.length : Int)<=60 := by have := HSZ.o.2; omega
        have hes : (es.length : Int)<=60 := by have := HSZ.o.1; omega
        have HLK : Hid (L[k]?=some (prtOf es ts p)) := by show _=_; rw [HLL.o,List.getElem?_map,hp]; rfl
        have hue : (prtOf es ts p).term=ts.getD (pkI p.tm ts.length) zT := rfl;obtain ⟨u,hu⟩ : ∃ u,ts[pkI p.tm ts.length]?=some u := ⟨_,List.getElem?_eq_getElem hpk⟩;rw [List.getD_eq_getElem?_getD,hu] at hue;obtain ⟨bT,oT,u',op,nm,xa,xl,xc,ka,kl,kc,hta,-,hu',hRT,v0,v1,v2,v3⟩ := te_at (HTE.o.kept (Kept.of_below HB.o [])) (pkI p.tm ts.length) hpk;obtain rfl : u'=u := by rw [hu] at hu'; injection hu' with hu'; exact hu'.symm
        have HRI := LH9 (fun W (hW : Below w.heap.size w W) => treeRight_any (HT.o.kept (Kept.of_below hW [])) (pkI p.tm ts.length) hu (by have := HRT.o u' (List.mem_of_getElem? hu); omega));have HR0 := LH9 (show RepT w [] u' [.int .i64 op,.string nm,.slice xa xl xc,.slice ka kl kc] by
         obtain ⟨bT',oT',u2,op',nm',xa',xl',xc',ka',kl',kc',hta',hbT,hu2,hRT',y0,y1,y2,y3⟩ := te_at HTE.o (pkI p.tm ts.length) hpk;obtain rfl : u'=u2 := by rw [hu] at hu2; injection hu2
         rw [hta] at hta';injection hta' with hta';injection hta' with q1 q2;subst q1; subst q2;have z0 := cu9 y0 HB.o;have z1 := cu9 y1 HB.o;have z2 := cu9 y2 HB.o;have z3 := cu9 y3 HB.o;rw [v0] at z0; rw [v1] at z1; rw [v2] at z2; rw [v3] at z3;injection z0 with z0; injection z1 with z1; injection z2 with z2; injection z3 with z3;rw [z0,z1,z2,z3];exact hRT')
        obtain ⟨f,tn,un,tm⟩ := p;dsimp only at hf htm hU u0 u1 u2 u3 hea hpk hue hu v0 v1 v2 v3;have HUE : Hid (prtOf es ts ⟨f,tn,un,tm⟩=⟨f,tn,tilOf es un,u'⟩) := by
         show _=_;have : (prtOf es ts ⟨f,tn,un,tm⟩).term=u' := hue;show (⟨f,tn,tilOf es un,(prtOf es ts ⟨f,tn,un,tm⟩).term⟩ : Prt)=_;rw [this]
        rw [HUE.o] at HLK;have HEA := LH9 hea;obtain ⟨pk,hpke⟩ : ∃ q,q=pkI tm ts.length := ⟨_,rfl⟩;rw [<- hpke] at hpk v0 v1 v2 v3;dsimp only at HRI HEA;rw [<- hpke] at HRI HEA;have HPK := LH9 hpk;have HFI := LH9 hf;have HUU := LH9 (show SlR i64K w [] un ua un.length uc/\w.cell? ⟨b,o + k * 4 + 2,none⟩=some (.slice ua un.length uc) by
         obtain ⟨b',o',p',ua',uc',ha',hb',hp',-,-,hU',x0,x1,x2,x3⟩ := pc_at HS.o k hlt;obtain rfl : p'=⟨f,tn,un,tm⟩ := by rw [hp] at hp'; injection hp' with hp'; exact hp'.symm
         rw [ha] at ha';injection ha' with ha';injection ha' with q1 q2;subst q1; subst q2;have z2 := cu9 x2 HB.o;rw [u2] at z2;injection z2 with z2;injection z2 with z2 _ z3;subst z2; subst z3;exact ⟨hU',x2⟩)
        have HLT := LH9 hlt;have HA := LH9 ha;have HTA := LH9 hta;have hpi : ((pk : Nat) : Int) < (ts.length : Int) := by omega
        have hp0 : (0 : Int)<=((pk : Nat) : Int) := by omega
        have hw1 : IntKind.i64.wrap ((ts.length : Int) - 1)=(ts.length : Int) - 1 := IntWalk.i64_in _ (by omega);clear hea hue hu hu' hRT hf htm hU hbl hp hpk hpke hlt HS;subst ha;subst hta;go_upto_region 6 with (fail);go_quiet (fail);rw [earl_w tm (ts.length : Int) hti (by omega),HEA.o];have bq : Below wr.heap.size wr (wr.drewN nq) := below_drewN (Below.refl wr.heap.size wr) nq;have HB2 := bt9 HB bq;have HW2 := LH9 (HW.o.below bq);replace u0 := cu9 u0 bq;replace u1 := cu9 u1 bq;replace v0 := cu9 v0 bq;replace v1 := cu9 v1 bq;replace v2 := cu9 v2 bq;replace v3 := cu9 v3 bq;replace d3 := cu9 d3 bq;clear bq hw1 u2 u3 d0 HB HW;generalize wr.drewN nq=w2 at *;go_upto_region 7 with (fail)
        go_cut [10] from 13 to 127 (fun p9 W0 => ∃ z,p9=.pointer (some ⟨z,0,none⟩)/\Hid (Below w2.heap.size w2 W0)/\Hid (w.heap.size<=z)/\Hid (Sep W0 (bx z 53 #[.int .i64 f,.bool tn,.slice none 0 0,.int .i64 op,.string nm,.slice xa xl xc,.slice ka kl kc] :: famO w.heap.size w.heap.size #[.slice aE es.length cE,.slice aN (nds es).length cN,.slice aD (rks es).length cD,.slice (some ⟨bT,oT,none⟩) ts.length cT,.slice aM (ndsT ts).length cM,.slice aP (rksT ts).length cP] (L.take k) u6)))
        case first =>
         as_aux_lemma =>
          refine wp_region_tillQ (S := fun W => W.cell? ⟨w.heap.size,3,none⟩=some (.slice (some ⟨bT,oT,none⟩) ts.length cT)/\W.cell? ⟨b,o + k * 4,none⟩=some (.int .i64 f)/\W.cell? ⟨b,o + k * 4 + 1,none⟩=some (.bool tn)/\W.cell? ⟨bT,oT + pk * 4,none⟩=some (.int .i64 op)/\W.cell? ⟨bT,oT + pk * 4 + 1,none⟩=some (.string nm)/\W.cell? ⟨bT,oT + pk * 4 + 2,none⟩=some (.slice xa xl xc)/\W.cell? ⟨bT,oT + pk * 4 + 3,none⟩=some (.slice ka kl kc)) 17 (by kernel_rfl) (fun _ _ _ _ _ h => h) (fun Q9 HQP HQ9 => ?_);refine tk 0 ⟨d3,u0,u1,v0,v1,v2,v3⟩ ?_ (hQ := hq HQP);refine tk 1 ⟨d3,u0,u1,v0,v1,v2,v3⟩ ?_ (hQ := hq HQP);refine tk 2 ⟨d3,u0,u1,v0,v1,v2,v3⟩ ?_ (hQ := hq HQP);refine tk 3 ⟨d3,u0,u1,v0,v1,v2,v3⟩ ?_ (hQ := hq HQP);refine tk 4 ⟨d3,u0,u1,v0,v1,v2,v3⟩ ?_ (hQ := hq HQP);refine tk 5 ⟨d3,u0,u1,v0,v1,v2,v3⟩ ?_ (hQ := hq HQP);refine tk 6 ⟨d3,u0,u1,v0,v1,v2,v3⟩ ?_ (hQ := hq HQP);refine tk 7 ⟨d3,u0,u1,v0,v1,v2,v3⟩ ?_ (hQ := hq HQP);refine tk 8 ⟨d3,u0,u1,v0,v1,v2,v3⟩ ?_ (hQ := hq HQP);refine tk 9 ⟨d3,u0,u1,v0,v1,v2,v3⟩ ?_ (hQ := hq HQP);refine tk 10 ⟨d3,u0,u1,v0,v1,v2,v3⟩ ?_ (hQ := hq HQP);refine tk 11 ⟨d3,u0,u1,v0,v1,v2,v3⟩ ?_ (hQ := hq HQP);refine tk 12 ⟨d3,u0,u1,v0,v1,v2,v3⟩ ?_ (hQ := hq HQP);refine tk 13 ⟨d3,u0,u1,v0,v1,v2,v3⟩ ?_ (hQ := hq HQP);refine tk 14 ⟨d3,u0,u1,v0,v1,v2,v3⟩ ?_ (hQ := hq HQP);refine till_take (i := 15) (v := .agg #[.int .i64 f,.bool tn,.slice none 0 0,.int .i64 op,.string nm,.slice xa xl xc,.slice ka kl kc]) rfl (by kernel_rfl) (hq HQP) (Or.inl ⟨by rfl,build_y3 rfl rfl rfl rfl⟩) ⟨d3,u0,u1,v0,v1,v2,v3⟩ ?_
          try simp only [Act.put,zp1,zp2,zp3,zp4,zp5,zp6]
          refine t19 16 (fun K' hK=>?_);go_simp;have bn : Below w2.heap.size w2 (w2.alloc (.cells #[.int .i64 0,.bool false,.slice none 0 0,.int .i64 0,.string ⟨#[]⟩,.slice none 0 0,.slice none 0 0] 53)).drew := (below_nT w2 (.cells #[.int .i64 0,.bool false,.slice none 0 0,.int .i64 0,.string ⟨#[]⟩,.slice none 0 0,.slice none 0 0] 53)).drew;have HS3 := LH9 (HW2.o.new 53 #[.int .i64 0,.bool false,.slice none 0 0,.int .i64 0,.string ⟨#[]⟩,.slice none 0 0,.slice none 0 0]).drew;have HBN := LH9 bn;refine hK _ _ ⟨cu9 d3 bn,cu9 u0 bn,cu9 u1 bn,cu9 v0 bn,cu9 v1 bn,cu9 v2 bn,cu9 v3 bn⟩ ?_;clear hK K' bn d3 u0 u1 v0 v1 v2 v3;obtain ⟨z,hz⟩ : ∃ z,z=w2.heap.size := ⟨_,rfl⟩;have HZ : Hid (w2.heap.size<=z) := by show _<=_; omega
          rw [<- hz] at HS3;rw [show Value.pointer (some ⟨w2.heap.size,0,none⟩)=.pointer (some ⟨z,0,none⟩) by rw [hz]];clear hz;generalize (w2.alloc (.cells _ 53)).drew=w3 at *
          try simp only [Act.put,zp1,zp2,zp3,zp4,zp5,zp6]
          obtain ⟨c0,c1,c2,c3,c4,c5,c6⟩ := blk7 (HS3.o.blk 0 rfl);obtain ⟨g0,g1,g2,g3,g4,g5,g6⟩ := frz7 (HS3.o.blk 0 rfl);refine tl9 (fun K' hK=>?_);go_simp;have HS4 := LH9 (((((((HS3.o.store 0 rfl 0 (.int .i64 f)).store 0 rfl 1 (.bool tn)).store 0 rfl 2 (.slice none 0 0)).store 0 rfl 3 (.int .i64 op)).store 0 rfl 4 (.string nm)).store 0 rfl 5 (.slice xa xl xc)).store 0 rfl 6 (.slice ka kl kc));have HB4 := LH9 (((((((HBN.o.setCell (p := ⟨z,0,none⟩) HZ.o (.int .i64 f)).setCell (p := ⟨z,1,none⟩) HZ.o (.bool tn)).setCell (p := ⟨z,2,none⟩) HZ.o (.slice none 0 0)).setCell (p := ⟨z,3,none⟩) HZ.o (.int .i64 op)).setCell (p := ⟨z,4,none⟩) HZ.o (.string nm)).setCell (p := ⟨z,5,none⟩) HZ.o (.slice xa xl xc)).setCell (p := ⟨z,6,none⟩) HZ.o (.slice ka kl kc));refine hK _ _ ?_;clear hK K'
          try simp only [Act.put,zp1,zp2,zp3,zp4,zp5,zp6]
          refine wd9 ?_;rw [HQ9.o];clear HQ9 HQP;go_wp2_with fail;go_meet
          case rel => exact ⟨z,rfl,HB4.o,Nat.le_trans HB2.o.size HZ.o,HS4.o⟩
        obtain ⟨z,rfl,HW3,HZ,HS3⟩ := hcut;obtain ⟨w3,rfl⟩ : ∃ W4 : World,W4=wc := ⟨_,rfl⟩;have HB3 := bu9 HB2 HW3;obtain ⟨BB,hBB⟩ : ∃ b,b=(L.take k).all prtB := ⟨_,rfl⟩;rw [<- hBB];have HBB := LH9 hBB;clear d3 u0 u1 v0 v1 v2 v3 HB2 HW2 HW3 hBB;have BT := HS3.o.blk 2 rfl;have d0 : w3.cell? ⟨w.heap.size,0,none⟩=_ := BT.cell 0;have d1 : w3.cell? ⟨w.heap.size,1,none⟩=_ := BT.cell 1;have d2 : w3.cell? ⟨w.heap.size,2,none⟩=_ := BT.cell 2;have d3 : w3.cell? ⟨w.heap.size,3,none⟩=_ := BT.cell 3;have d4 : w3.cell? ⟨w.heap.size,4,none⟩=_ := BT.cell 4;have d5 : w3.cell? ⟨w.heap.size,5,none⟩=_ := BT.cell 5;simp only [List.getElem?_toArray,List.getElem?_cons_zero,List.getElem?_cons_succ] at d0 d1 d2 d3 d4 d5;clear BT;go_upto_region 8 with (fail)
        go_cut [7] from 13 to 127 (fun v W4 => v=.bool (BB && rT u')/\Hid (Below w3.heap.size w3 W4))
        case first =>
         cases BB with
         | false =>
           go_wp2_with fail;go_meet
           case rel => exact ⟨rfl,Below.refl _ _⟩
         | true =>
           go_wp2_with fail;go_at_call 11;(with_reducible refine (HRI.o w3 HB3.o).mono ?_);rintro y w4 ⟨rfl,b4⟩;have HB4 := LH9 b4;clear b4;go_wp2_with fail;go_meet
           case rel => exact ⟨by rw [Bool.true_and],HB4.o⟩
        obtain ⟨rfl,HW4⟩ := hcut;obtain ⟨w4,rfl⟩ : ∃ W4 : World,W4=wc := ⟨_,rfl⟩;have HB4 := bu9 HB3 HW4;have HS4 := LH9 (HS3.o.below HW4.o);obtain ⟨O1,hO1⟩ : ∃ b,b=(BB && rT u') := ⟨_,rfl⟩;rw [<- hO1];have HO1 := LH9 hO1;clear d0 d1 d2 d3 d4 d5 hO1 HW4 HS3 HB3 HRI;obtain ⟨til,htil⟩ : ∃ l,l=tilOf es un := ⟨_,rfl⟩;have HTI := LH9 htil;have htn : til.length=min 18 un.length := by rw [htil]; exact til_len es un
        have HTN := LH9 htn;rw [<- htil] at HLK HUE;clear htil htn;go_wp2_with fail
        go_loopw [7,11] (fun v i wr2 => ∃ (j : Nat) (vU : Value),v=.bool (O1 && (til.take j).all rE)/\i=.int .i64 (j : Nat)/\j<=til.length/\Hid (Below w.heap.size w wr2)/\Hid (Sep wr2 (gr exK 74 w.heap.size (til.take j) vU :: bx z 53 #[.int .i64 f,.bool tn,vU,.int .i64 op,.string nm,.slice xa xl xc,.slice ka kl kc] :: famO w.heap.size w.heap.size #[.slice aE es.length cE,.slice aN (nds es).length cN,.slice aD (rks es).length cD,.slice (some ⟨bT,oT,none⟩) ts.length cT,.slice aM (ndsT ts).length cM,.slice aP (rksT ts).length cP] (L.take k) u6))) (fun _ i _ => til.length - (intOf i).toNat)
        case atStart => exact ⟨0,.slice none 0 0,by rw [List.take_zero,List.all_nil,Bool.and_true],rfl,Nat.zero_le _,HB4.o,by rw [List.take_zero]; exact HS4.o.addGr exK 74 HB4.o.size⟩
        case round =>
         clear HS4 HB4;rename World => w5
         obtain ⟨j,vU,rfl,rfl,hj,HB5,HS5⟩ := hrel;have HWU := cu9 HUU.o.2 HB5.o;have j0 : (0 : Int)<=(j : Int) := by omega
         have j18 : (j : Int)<=18 := by have := HTN.o; omega
         by_cases hjt : j < til.length
         . have hjn : j < un.length := by have := HTN.o; omega
           have hju : (j : Int) < (un.length : Int) := by omega
           have hj8 : (j : Int) < 18 := by have := HTN.o; omega
           obtain ⟨zz,hzz⟩ : ∃ zz,un[j]?=some zz := ⟨_,List.getElem?_eq_getElem hjn⟩;obtain ⟨-,bu,ou,hua,y0⟩ := i64_at HUU.o.1 hzz;obtain ⟨e,hee,htk⟩ := til_take (es := es) hzz (by omega) he0;rw [<- HTI.o] at htk;obtain ⟨hea,hpk⟩ := earl_in (z := zz) he0;obtain ⟨bE,oE,e',eo,en,es9,ea,el,ec,haE,-,he',hRE,x0,x1,x2,x3⟩ := ex_at HEX.o (pkI zz es.length) hpk;obtain rfl : e'=e := by rw [hee] at he'; injection he' with he'; exact he'.symm
           have HRI := LH9 (fun W (hW : Below w.heap.size w W) => treeRightE_any (HT.o.kept (Kept.of_below hW [])) (pkI zz es.length) hee (by have := HRE.o e' (List.mem_of_getElem? hee); omega));have HEA := LH9 hea;obtain ⟨pj,hpj⟩ : ∃ q,q=pkI zz es.length := ⟨_,rfl⟩;rw [<- hpj] at hpk x0 x1 x2 x3 HRI HEA;have HRX := LH9 hRE;have HTK := LH9 htk;have HJT := LH9 hjt;have HUA := LH9 hua;have HAE := LH9 haE;have hpi2 : ((pj : Nat) : Int) < (es.length : Int) := by omega
           have hp02 : (0 : Int)<=((pj : Nat) : Int) := by omega
           have hw1 : IntKind.i64.wrap ((es.length : Int) - 1)=(es.length : Int) - 1 := IntWalk.i64_in _ (by omega);replace y0 := cu9 y0 HB5.o;replace x0 := cu9 x0 HB5.o;replace x1 := cu9 x1 HB5.o;replace x2 := cu9 x2 HB5.o;replace x3 := cu9 x3 HB5.o;have d0 : w5.cell? ⟨w.heap.size,0,none⟩=some (.slice aE es.length cE) := (HS5.o.blk 3 rfl).cell 0;clear hzz hee htk hea he' hpk hpj hRE hjt;rw [hua] at HWU;rw [haE] at d0;clear hua haE;go_upto_region 12 with (fail);go_quiet (fail);rw [earl_w zz (es.length : Int) hei (by omega),HEA.o];have bq : Below w5.heap.size w5 (w5.drewN nq) := below_drewN (Below.refl w5.heap.size w5) nq;have HB6 := bt9 HB5 bq;have HS6 := LH9 (HS5.o.below bq);replace x0 := cu9 x0 bq;replace x1 := cu9 x1 bq;replace x2 := cu9 x2 bq;replace x3 := cu9 x3 bq;replace d0 := cu9 d0 bq;clear bq hw1 y0 HWU HB5 HS5;generalize w5.drewN nq=w6 at *;have p2 : w6.cell? ⟨z,2,none⟩=some vU := (HS6.o.blk 1 rfl).cell 2;have HJ8 := LH9 j18;have HTL : Hid ((til.take j).length<=18) := by show _<=_; rw [List.length_take]; omega
           go_upto_region 13 with (fail)
           go_cut [7] from 74 to 123 (fun v W6 => v=.bool (O1 && (til.take j).all rE)/\∃ vU',Hid (Below w.heap.size w W6)/\Hid (Sep W6 (gr exK 74 w.heap.size (til.take (j + 1)) vU' :: bx z 53 #[.int .i64 f,.bool tn,vU',.int .i64 op,.string nm,.slice xa xl xc,.slice ka kl kc] :: famO w.heap.size w.heap.size #[.slice aE es.length cE,.slice aN (nds es).length cN,.slice aD (rks es).length cD,.slice (some ⟨bT,oT,none⟩) ts.length cT,.slice aM (ndsT ts).length cM,.slice aP (rksT ts).length cP] (L.take k) u6)))
           case first =>
            as_aux_lemma =>
             refine wp_region_tillQ (S := fun W => W.cell? ⟨z,2,none⟩=some vU/\W.cell? ⟨w.heap.size,0,none⟩=some (.slice (some ⟨bE,oE,none⟩) es.length cE)/\W.cell? ⟨bE,oE + pj * 4,none⟩=some (.int .i64 eo)/\W.cell? ⟨bE,oE + pj * 4 + 1,none⟩=some (.int .i64 en)/\W.cell? ⟨bE,oE + pj * 4 + 2,none⟩=some (.string es9)/\W.cell? ⟨bE,oE + pj * 4 + 3,none⟩=some (.slice ea el ec)) 8 (by kernel_rfl) (fun _ _ _ _ _ h => h) (fun Q9 HQP HQ9 => ?_);refine tk 0 ⟨p2,d0,x0,x1,x2,x3⟩ ?_ (hQ := hq HQP);refine tk 1 ⟨p2,d0,x0,x1,x2,x3⟩ ?_ (hQ := hq HQP);refine tk 2 ⟨p2,d0,x0,x1,x2,x3⟩ ?_ (hQ := hq HQP);refine tk 3 ⟨p2,d0,x0,x1,x2,x3⟩ ?_ (hQ := hq HQP);refine tk 4 ⟨p2,d0,x0,x1,x2,x3⟩ ?_ (hQ := hq HQP);refine tk 5 ⟨p2,d0,x0,x1,x2,x3⟩ ?_ (hQ := hq HQP);refine tk 6 ⟨p2,d0,x0,x1,x2,x3⟩ ?_ (hQ := hq HQP);refine t19 7 (fun K' hK=>?_);go_simp;have hbn : Below w6.heap.size w6 (w6.alloc (.cells #[.int .i64 eo,.int .i64 en,.string es9,.slice ea el ec] 74)).drew := (below_nT w6 (.cells #[.int .i64 eo,.int .i64 en,.string es9,.slice ea el ec] 74)).drew;have HB7 := bt9 HB6 hbn;have HS7 := LH9 (HS6.o.below hbn);have BZ := LH9 (Mem.Blk.new w6 74 #[.int .i64 eo,.int .i64 en,.string es9,.slice ea el ec]).drew;refine hK _ _ ⟨cu9 p2 hbn,cu9 d0 hbn,cu9 x0 hbn,cu9 x1 hbn,cu9 x2 hbn,cu9 x3 hbn⟩ ?_;clear hK K' hbn p2 d0 x0 x1 x2 x3;generalize (w6.alloc (.cells _ 74)).drew=w7 at *;generalize w6.heap.size=z7 at *
             try simp only [Act.put,zp1,zp2,zp3,zp4,zp5,zp6]
             refine tl9 (fun K' hK=>?_);obtain ⟨csl,hGr⟩ := HS7.o.at 0 rfl;have hge := owns_ge HS7.o HZ.o (Nat.le_refl _);refine step_ap infoE Tryz.underlying29 rfl (by decide) rfl (.tmp 109) (.tmp 115) rfl rfl hGr.own hGr.room ⟨z7,0,none⟩ 1 1 [.int .i64 eo,.int .i64 en,.string es9,.slice ea el ec] rfl rfl (fun m u hm => by rw [Mem.add0,BZ.o.cell]; simpa using hm) (by simp [Value.oneCell']) (by have := HTL.o; unfold maxLen; omega) (by have := HTL.o; omega) ?_;intro v' w8 og gg hv';obtain ⟨gP,capn,hv9,-,-,-,-⟩ := own_form og (by omega);rw [show (til.take j).length + 1=j + 1 by rw [List.length_take]; have := HJT.o; omega] at hv9;subst hv9;have hs8 := HS7.o.push 0 rfl hGr (x := e') (c := [.int .i64 eo,.int .i64 en,.string es9,.slice ea el ec]) ((HRX.o.less (fun q hq hm => absurd hq (by have := hge q hm; omega))).kept (Kept.of_below HB7.o _)) og gg hv';have MB := hs8.blk 1 rfl;have m4 : w8.cell? ⟨z,2,none⟩=some vU := MB.cell 2;have m5 : w8.frozen? ⟨z,2,none⟩=false := MB.frozen 2;have hs9 := hs8.store 1 rfl 2 (.slice (some ⟨gP,0,none⟩) (j + 1) capn);have HB9 := LH9 ((HB7.o.grown gg HB7.o.size (fun b hb => (hGr.blt hb).1)).setCell (p := ⟨z,2,none⟩) HZ.o (.slice (some ⟨gP,0,none⟩) (j + 1) capn));have HS9 : Hid (Sep (w8.setCell ⟨z,2,none⟩ (.slice (some ⟨gP,0,none⟩) (j + 1) capn)) (gr exK 74 w.heap.size (til.take (j + 1)) (.slice (some ⟨gP,0,none⟩) (j + 1) capn) :: bx z 53 #[.int .i64 f,.bool tn,.slice (some ⟨gP,0,none⟩) (j + 1) capn,.int .i64 op,.string nm,.slice xa xl xc,.slice ka kl kc] :: famO w.heap.size w.heap.size #[.slice aE es.length cE,.slice aN (nds es).length cN,.slice aD (rks es).length cD,.slice (some ⟨bT,oT,none⟩) ts.length cT,.slice aM (ndsT ts).length cM,.slice aP (rksT ts).length cP] (L.take k) u6)) := by rw [HTK.o]; exact hs9
             clear hGr og gg hv' BZ MB hs8 hs9 hge HS7 HB7 HS6 HB6;refine hK _ _ ?_;clear hK K'
             try simp only [Act.put,zp1,zp2,zp3,zp4,zp5,zp6]
             refine ak 9 ?_ (hQ := hq HQP);refine any_one (i := 10) (by kernel_rfl) rfl (fun K' hK => ?_);go_simp;refine hK _ _ ?_;clear hK K' m4 m5;refine wd9 ?_;rw [HQ9.o];clear HQ9 HQP;go_wp2_with fail;go_meet
             case rel => exact ⟨rfl,_,HB9.o,HS9.o⟩
           obtain ⟨rfl,vU',HB7,HS7⟩ := hcut;obtain ⟨w7,rfl⟩ : ∃ W4 : World,W4=wc := ⟨_,rfl⟩;clear HB6 HS6 d0 x0 x1 x2 x3 p2;have BT := HS7.o.blk 3 rfl;have d0 : w7.cell? ⟨w.heap.size,0,none⟩=_ := BT.cell 0;have d1 : w7.cell? ⟨w.heap.size,1,none⟩=_ := BT.cell 1;have d2 : w7.cell? ⟨w.heap.size,2,none⟩=_ := BT.cell 2;have d3 : w7.cell? ⟨w.heap.size,3,none⟩=_ := BT.cell 3;have d4 : w7.cell? ⟨w.heap.size,4,none⟩=_ := BT.cell 4;have d5 : w7.cell? ⟨w.heap.size,5,none⟩=_ := BT.cell 5;simp only [List.getElem?_toArray,List.getElem?_cons_zero,List.getElem?_cons_succ] at d0 d1 d2 d3 d4 d5;clear BT;obtain ⟨BO,hBO⟩ : ∃ b,b=(O1 && (til.take j).all rE) := ⟨_,rfl⟩;rw [<- hBO];have HBO := LH9 hBO;clear hBO;have HOO : Hid ((BO && rE e')=(O1 && (til.take (j + 1)).all rE)) := by show _=_; rw [HBO.o,HTK.o,List.all_append,Bool.and_assoc]; simp
           clear HBO
           cases BO with
           | false =>
             go_wp2_with fail;go_roundw
             case rel => exact ⟨j + 1,vU',by rw [<- HOO.o]; rfl,by go_num,by have := HJT.o; omega,HB7.o,HS7.o⟩
             case measure => simp [intOf]; have := HJT.o; omega
           | true =>
             go_wp2_with fail;go_at_call 35;(with_reducible refine (HRI.o w7 HB7.o).mono ?_);rintro y w8 ⟨rfl,b8⟩;have HB8 := bt9 HB7 b8;have HS8 := LH9 (HS7.o.below b8);clear d0 d1 d2 d3 d4 d5 b8 HS7 HB7 HRI;go_wp2_with fail;go_roundw
             case rel => exact ⟨j + 1,vU',by rw [<- HOO.o,Bool.true_and],by go_num,by have := HJT.o; omega,HB8.o,HS8.o⟩
             case measure => simp [intOf]; have := HJT.o; omega
         . obtain rfl : j=til.length := by omega
           have hjx : ¬ ((til.length : Int) < (un.length : Int))\/¬ ((til.length : Int) < 18) := by have := HTN.o; omega
           have hta : til.take til.length=til := List.take_length;rw [hta] at HS5 ⊢;obtain ⟨pa,pc,rfl,hP⟩ := HS5.o.still 0 rfl;have hge := owns_ge HS5.o HZ.o (Nat.le_refl _);have hP2 : SlR exK w5 (owns (bx z 53 #[.int .i64 f,.bool tn,.slice pa til.length pc,.int .i64 op,.string nm,.slice xa xl xc,.slice ka kl kc] :: famO w.heap.size w.heap.size #[.slice aE es.length cE,.slice aN (nds es).length cN,.slice aD (rks es).length cD,.slice (some ⟨bT,oT,none⟩) ts.length cT,.slice aM (ndsT ts).length cM,.slice aP (rksT ts).length cP] (L.take k) u6)) til pa til.length pc := hP.less (fun q _ hm => by
            obtain ⟨m,om,hom,hbm⟩ := mem_owns.1 hm;exact mem_others.2 ⟨m + 1,om,by omega,by simpa using hom,hbm⟩)
           have hT2 : RepT w5 (owns (bx z 53 #[.int .i64 f,.bool tn,.slice pa til.length pc,.int .i64 op,.string nm,.slice xa xl xc,.slice ka kl kc] :: famO w.heap.size w.heap.size #[.slice aE es.length cE,.slice aN (nds es).length cN,.slice aD (rks es).length cD,.slice (some ⟨bT,oT,none⟩) ts.length cT,.slice aM (ndsT ts).length cM,.slice aP (rksT ts).length cP] (L.take k) u6)) u' [.int .i64 op,.string nm,.slice xa xl xc,.slice ka kl kc] :=
            (HR0.o.less (fun q hq hm => absurd hq (by have := hge q (List.mem_append_right _ hm); omega))).kept (Kept.of_below HB5.o _)
           have hs := HS5.o.drop 0;have hbn := below_nT w5 (.cells #[.int .i64 f,.bool tn,.slice pa til.length pc,.int .i64 op,.string nm,.slice xa xl xc,.slice ka kl kc] 53);have HS6 := LH9 (hs.below hbn);have HB6 := bt9 HB5 hbn;have HPR := LH9 (show ptK.R _ _ (⟨f,tn,til,u'⟩ : Prt) [.int .i64 f,.bool tn,.slice pa til.length pc,.int .i64 op,.string nm,.slice xa xl xc,.slice ka kl kc] from ⟨pa,pc,_,rfl,HFI.o,hP2.kept (Kept.of_below hbn _),hT2.kept (Kept.of_below hbn _)⟩);obtain ⟨csl,hG⟩ := HS6.o.at 1 rfl;have HG := LH9 hG;obtain ⟨c0,c1,c2,c3,c4,c5,c6⟩ := blk7 (HS5.o.blk 1 rfl);have HTL : Hid ((L.take k).length<=8) := by have := H8.o; have := HLT.o; show _<=_; rw [List.length_take]; omega
           obtain ⟨hkq,hke⟩ := List.getElem?_eq_some_iff.1 HLK.o;have hlk : L.take (k + 1)=L.take k ++ [⟨f,tn,til,u'⟩] := by rw [<- hke]; exact (List.take_append_getElem hkq).symm
           have HLK2 := LH9 hlk;have hok : (O1 && til.all rE)=(L.take (k + 1)).all prtB := by
            rw [hlk,List.all_append,<- HBB.o,HO1.o,Bool.and_assoc];simp [prtB]
           rw [hok];clear hta hP hge hP2 hT2 hs hbn hG HS5 HB5 hkq hke hlk hok hjt;rcases hjx with hjx | hjx
           . exact Z7_32
           . by_cases hun : (til.length : Int) < (un.length : Int)
             . exact Z7_32
             . exact Z7_32
      . have hei : ¬ (0 : Int) < (es.length : Int) := by omega
        have hti : (0 : Int) < (ts.length : Int) := by omega
        have hk00 : k=0 := by rcases HZ.o with h | h; exact h; omega
        subst hk00;have hR0 : R=[] := HOF.o.trans (if_pos (.inl (by omega)));exact Z7_117
    . have hti : ¬ (0 : Int) < (ts.length : Int) := by omega
      have hk00 : k=0 := by rcases HZ.o with h | h; exact h; omega
      subst hk00;have hR0 : R=[] := HOF.o.trans (if_pos (.inr (by omega)));exact Z7_117
  . have hlt' : ¬ (k : Int) < (n : Int) := by omega
    obtain rfl : k=n := by omega
    have e : L.take k=L := List.take_of_length_le (by rw [HLN.o]; omega);rw [e] at HW ⊢;have hRL : R=L := by
     rw [HOF.o];rcases HZ.o with h | h
     . subst h;have : L=[] := List.length_eq_zero_iff.1 HLN.o;rw [this]; split <;> rfl
     . exact if_neg (by omega)
    rw [<- hRL] at HW ⊢;obtain ⟨pa,pc,rfl,hP⟩ := HW.o.still 0 rfl;have HP := LH9 hP.free;clear hlt e hRL hP;go_wp2_with fail;go_ret2;exact ⟨⟨pa,pc,rfl,HP.o⟩,HB.o⟩
end
section
theorem parts_any (l : List Prt) (a : Option Addr) (n c : Nat) (w : World) (hS : SlR ptK w [] l a n c) (hn : n<=1000) :
 Calls Tryz.prog 17 #[.slice a n c] w fun x w' => (∃ a' c',x=.returned (.slice a' l.length c')/\SlR ptK w' [] l a' l.length c')/\Below w.heap.size w w' := by
 have HS := LH9 hS;have HL := LH9 hS.facts.1;have HN := LH9 hn;clear hS hn
 go_enter Tryz.func17,Tryz.ntmps17
 go_wp2_with fail
 go_loopw [3,4] (fun v i wr => ∃ (k : Nat),i=.int .i64 (k : Nat)/\k<=n/\Hid (Below w.heap.size w wr)/\Hid (Sep wr [gr ptK 88 w.heap.size (l.take k) v])) (fun _ i _ => n - (intOf i).toNat)
 case atStart => exact ⟨0,rfl,Nat.zero_le _,Below.refl _ _,by rw [List.take_zero]; exact (Sep.nil w).addGr ptK 88 (Nat.le_refl _)⟩
 case round =>
  rename World => wr
  obtain ⟨k,rfl,hk,HB,HS1⟩ := hrel;by_cases hlt : k < n
  . have hlt' : (k : Int) < (n : Int) := by omega
    have k0 : (0 : Int)<=(k : Int) := by omega
    have k1 : (k : Int)<=1000 := by have := HN.o; omega
    obtain ⟨b,o,p,ua,uc,op,nm,xa,xl,xc,ta,tl,tc,rfl,-,-,hp,hop,hf,hU,hT,c0,c1,c2,c3,c4,c5,c6⟩ := pt_at (HS.o.kept (Kept.of_below HB.o [])) k hlt;obtain ⟨b',o',p',ua',uc',op',nm',xa',xl',xc',ta',tl',tc',ha',-,-,hp',hop',hf',hU',hT',d0,d1,d2,d3,d4,d5,d6⟩ := pt_at HS.o k hlt;injection ha' with ha';injection ha' with ha1 ha2;subst ha1; subst ha2;rw [hp] at hp';injection hp' with hp';subst hp';have g2 := cu9 d2 HB.o;have g3 := cu9 d3 HB.o;have g4 := cu9 d4 HB.o;have g5 := cu9 d5 HB.o;have g6 := cu9 d6 HB.o;rw [c2] at g2;rw [c3] at g3;rw [c4] at g4;rw [c5] at g5;rw [c6] at g6;injection g2 with g2; injection g2 with g2a g2b g2c;injection g3 with g3; injection g3 with _ g3;injection g4 with g4; injection g4 with g4;injection g5 with g5; injection g5 with g5a g5b g5c;injection g6 with g6; injection g6 with g6a g6b g6c;subst g2a; subst g2c; subst g3; subst g4; subst g5a; subst g5b; subst g5c; subst g6a; subst g6b; subst g6c;have HP0 : Hid (ptK.R w [] p [.int .i64 p.factor,.bool p.turned,.slice ua p.til.length uc,.int .i64 op,.string nm,.slice xa xl xc,.slice ta tl tc]) := ⟨ua,uc,_,rfl,hf',hU',hT'⟩;have HTK := LH9 (ndL_take hp).1;obtain ⟨csl,hG⟩ := HS1.o.at 0 rfl;have HG := LH9 hG;have HLT := LH9 hlt;generalize p.factor=pf at *;generalize p.turned=pt at *;generalize p.til.length=pl at *;clear hp hop hf hU hT hG hlt hop' hf' hU' hT' d0 d1 d2 d3 d4 d5 d6;have hb4 := below_nT wr (.cells #[.int .i64 pf,.bool pt,.slice ua pl uc,.int .i64 op,.string nm,.slice xa xl xc,.slice ta tl tc] 88);have HB4 := bt9 HB hb4;have HS4 := LH9 (HS1.o.below hb4);obtain ⟨csl4,hG4⟩ := HS4.o.at 0 rfl;have HG4 := LH9 hG4;have HR4 : Hid (ptK.R (wr.alloc (.cells #[.int .i64 pf,.bool pt,.slice ua pl uc,.int .i64 op,.string nm,.slice xa xl xc,.slice ta tl tc] 88)) (owns [gr ptK 88 w.heap.size (l.take k) u3]) p [.int .i64 pf,.bool pt,.slice ua pl uc,.int .i64 op,.string nm,.slice xa xl xc,.slice ta tl tc]) := by
     have h1 : ptK.R w (owns [gr ptK 88 w.heap.size (l.take k) u3]) p [.int .i64 pf,.bool pt,.slice ua pl uc,.int .i64 op,.string nm,.slice xa xl xc,.slice ta tl tc] := ptK.less HP0.o (fun b hb hm => by
      obtain ⟨m,om,hom,hbm⟩ := mem_owns.1 hm;have hm0 : m=0 := by have := (List.getElem?_eq_some_iff.1 hom).1; simp at this; exact this
      subst hm0;injection hom with hom;subst hom;have hbm2 : b ∈ (u3 : Value).ownBlock.toList := hbm;rw [Option.mem_toList] at hbm2;have := (HG4.o.blt hbm2).1;omega)
     exact ptK.kept h1 (Kept.of_below HB4.o _)
    clear hb4 hG4 HP0 HG;go_wp2_with (at_builtin; refine ap_row infoPt Tryz.underlying35 rfl (by decide) rfl (.tmp 11) (.tmp 16) rfl rfl HG4.o.own HG4.o.room ⟨wr.heap.size,0,none⟩ 1 1 [.int .i64 pf,.bool pt,.slice ua pl uc,.int .i64 op,.string nm,.slice xa xl xc,.slice ta tl tc] rfl rfl (lit_cells_at wr #[.int .i64 pf,.bool pt,.slice ua pl uc,.int .i64 op,.string nm,.slice xa xl xc,.slice ta tl tc] 88 _ rfl) (by simp [Value.oneCell']) (by unfold maxLen; rw [List.length_take]; omega) (by rw [List.length_take]; omega) ?_; intro v' w5 o' g' h'; have HO := LH9 o'; have HGG := LH9 g'; have HV9 := LH9 h'; clear o' g' h');have hpu := HS4.o.push 0 rfl HG4.o HR4.o HO.o HGG.o HV9.o;have HS5 : Hid (Sep w5 [gr ptK 88 w.heap.size (l.take (k + 1)) v']) := by rw [HTK.o]; exact hpu
    have HB5 := LH9 (HB4.o.grown HGG.o HB4.o.size (fun b hb => (HG4.o.blt hb).1));clear hpu HO HGG HV9 HG4 HS4 HB4 HR4;go_roundw
    case rel => exact ⟨k + 1,by go_num,by have := HLT.o; omega,HB5.o,HS5.o⟩
    case measure => simp [intOf]; have := HLT.o; omega
  . have hlt' : ¬ (k : Int) < (n : Int) := by omega
    obtain rfl : k=n := by omega
    obtain ⟨pa,pc,rfl,hP⟩ := HS1.o.still 0 rfl;have e : l.take k=l := List.take_of_length_le (by rw [HL.o]; omega);rw [e] at hP ⊢;have HP := LH9 hP.free;clear hlt hP e;go_wp2_with fail;go_ret;exact ⟨⟨pa,pc,rfl,HP.o⟩,HB.o⟩
end
end Go.Proofs.YtmiinmndbkdjbaaGreat
