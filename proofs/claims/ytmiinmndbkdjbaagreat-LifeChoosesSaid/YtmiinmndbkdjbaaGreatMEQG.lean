/- A part of the proof: BuildB, one behind another. -/
import Derived.Test.YtmiinmndbkdjbaaGreatMEA
import Derived.Test.YtmiinmndbkdjbaaGreatMEE
import Derived.Lib.Hide
import Derived.WalkKit
set_option maxRecDepth 100000
set_option maxHeartbeats 16000000
set_option linter.unusedVariables false
set_option linter.unusedSimpArgs false
namespace Go.Proofs.YtmiinmndbkdjbaaGreat
open Go.RowKit
section
theorem build_any (lfs : List Lf) (kns : List Kn) (a a' : Option Addr) (len cap len' cap' : Nat) (w : World) (h1 : SlR lfK w [] lfs a len cap) (h2 : SlR knK w [] kns a' len' cap') :
 Calls Tryz.prog 8 #[.slice a len cap,.slice a' len' cap'] w fun e w' => (∃ es ts cs,e=.returned (.agg cs.toArray)/\TreeIs w' [] es ts cs/\es.length<=60/\ts.length<=60/\(∀ e ∈ es,e.rk<=60)/\∀ t ∈ ts,t.rk<=121)/\Below w.heap.size w w' := by
 obtain ⟨f1,f2,f3⟩ := h1.facts;obtain ⟨f4,f5,f6⟩ := h2.facts;have HL := LH9 (fun W (hW : Below w.heap.size w W) => h1.kept (Kept.of_below hW []));have HK := LH9 (fun W (hW : Below w.heap.size w W) => h2.kept (Kept.of_below hW []));have HS0 := LH9 (((Sep.nil w).new 33 #[.slice none 0 0,.slice none 0 0,.slice none 0 0,.slice none 0 0,.slice none 0 0,.slice none 0 0]).new 33 #[.slice none 0 0,.slice none 0 0,.slice none 0 0,.slice none 0 0,.slice none 0 0,.slice none 0 0]);have HB0 := LH9 (((Below.refl w.heap.size w).alloc (Nat.le_refl _) (.cells #[.slice none 0 0,.slice none 0 0,.slice none 0 0,.slice none 0 0,.slice none 0 0,.slice none 0 0] 33)).alloc (by simp) (.cells #[.slice none 0 0,.slice none 0 0,.slice none 0 0,.slice none 0 0,.slice none 0 0,.slice none 0 0] 33));rw [show (w.alloc (.cells #[.slice none 0 0,.slice none 0 0,.slice none 0 0,.slice none 0 0,.slice none 0 0,.slice none 0 0] 33)).heap.size=w.heap.size + 1 by simp] at HS0;clear h1 h2 f1 f4
 go_enter Tryz.func8,Tryz.ntmps8
 go_upto_block 0 with (fail);have HR0 := LH9 (B1.start HS0.o HB0.o);clear HS0 HB0;generalize (w.alloc (.cells #[.slice none 0 0,.slice none 0 0,.slice none 0 0,.slice none 0 0,.slice none 0 0,.slice none 0 0] 33)).alloc (.cells #[.slice none 0 0,.slice none 0 0,.slice none 0 0,.slice none 0 0,.slice none 0 0,.slice none 0 0] 33)=w0 at *
 go_cut [6] (fun _ wc => ∃ (es : List Ex) (vE vN vD : Value),Hid (es.length<=60/\(∀ e ∈ es,e.rk<=60)/\B1 w wc es [] (nds es) (rks es) [] [] vE vN vD (.slice none 0 0) (.slice none 0 0) (.slice none 0 0)))
 case first =>
  go_wp2_with fail
  go_loopw [6] (fun i wr => ∃ (k : Nat) (es : List Ex) (vE vN vD : Value),i=.int .i64 (k : Nat)/\k<=len/\k<=60/\Hid (es.length=k/\(∀ e ∈ es,e.rk<=k)/\B1 w wr es [] (nds es) (rks es) [] [] vE vN vD (.slice none 0 0) (.slice none 0 0) (.slice none 0 0))) (fun i _ => 60 - (intOf i).toNat)
  case atStart => exact ⟨0,[],_,_,_,rfl,Nat.zero_le _,by omega,rfl,fun e h => absurd h List.not_mem_nil,HR0.o⟩
  case round =>
   clear HR0;obtain ⟨k,es,vE,vN,vD,rfl,hk1,hk2,HR⟩ := hrel;by_cases hlt : k < len/\k < 60
   . as_aux_lemma =>
      obtain ⟨hl1,hl2⟩ := hlt;obtain ⟨b,o,lf,cs,rfl,hb,-,hlf,hR,-,hcell0⟩ := (HL.o w (Below.refl _ _)).at k hl1;have hcell : ∀ j c,cs[j]?=some c->wr.cell? ⟨b,o + k * 4 + j,none⟩=some c := fun j c hj => (HR.o.2.2.below.cell (p := ⟨b,o + k * 4 + j,none⟩) hb).trans (hcell0 j c hj)
      clear hcell0;obtain ⟨ka,kc,rfl,j1,j2,j3,hS⟩ := hR;have g0 : wr.cell? ⟨b,o + k * 4,none⟩=some (.int .i64 lf.op) := hcell 0 _ rfl;have g1 : wr.cell? ⟨b,o + k * 4 + 1,none⟩=some (.int .i64 lf.n) := hcell 1 _ rfl;have g2 : wr.cell? ⟨b,o + k * 4 + 2,none⟩=some (.string lf.nm) := hcell 2 _ rfl;have g3 : wr.cell? ⟨b,o + k * 4 + 3,none⟩=some (.slice ka lf.kids.length kc) := hcell 3 _ rfl;have i0 : (0 : Int)<=(k : Int) := by omega
      have i1 : (k : Int) < (len : Int) := by omega
      have i2 : (k : Int) < 60 := by omega
      clear hcell hb hlf;have HQ : Hid (∀ W,Below w.heap.size w W->SlR i64K W [] lf.kids ka lf.kids.length kc) := fun W hW => hS.kept (Kept.of_below hW [])
      have HE := LH9 (HR.o.2.2.enter lf ka kc);have HP : Hid (es.length=k/\(∀ e ∈ es,e.rk<=k)) := ⟨HR.o.1,HR.o.2.1⟩;have hfk := LH9 hS.facts;have hxb : w.heap.size<=wr.heap.size := HR.o.2.2.below.size;clear HR hS;go_wp2_with fail;generalize ((wr.alloc (.cells #[.int .i64 lf.op,.int .i64 lf.n,.string lf.nm,.slice ka lf.kids.length kc] 77)).alloc (.cells #[.int .i64 lf.op,.int .i64 lf.n,.string lf.nm,.slice none 0 0] 74))=w1 at *;clear g0 g1 g2 g3;generalize wr.heap.size=xb at *
      go_loopw [9,10,11] (fun n d q w2 => ∃ (q' : Nat) (args : List Ex) (vA : Value) (N D : Int),n=.int .i64 N/\d=.int .i64 D/\q=.int .i64 (q' : Nat)/\q'<=lf.kids.length/\q'<=5 /\
       Hid (Cnt args.length (1 + Ex.nd.go args) (1 + Ex.rk.go args) N D/\args.length<=q'/\(∀ e ∈ args,e.rk<=k)/\B2 w w2 xb lf ka kc args vA es [] (nds es) (rks es) [] [] vE vN vD (.slice none 0 0) (.slice none 0 0) (.slice none 0 0))) (fun _ _ q _ => 5 - (intOf q).toNat)
      case atStart => exact ⟨0,[],_,1,1,rfl,rfl,rfl,Nat.zero_le _,by omega,Cnt.one,Nat.le_refl _,fun e h => absurd h List.not_mem_nil,HE.o⟩
      case round =>
       clear HE;obtain ⟨q,args,vA,N,D,rfl,rfl,rfl,hq1,hq2,HI⟩ := hrel;have x3 : wr.cell? ⟨xb,3,none⟩=some (.slice ka lf.kids.length kc) := (HI.o.2.2.2.sep.blk 2 rfl).cell 3;by_cases hq : q < lf.kids.length/\q < 5
       . obtain ⟨hq3,hq4⟩ := hq;obtain ⟨b',o',xq,cq,rfl,-,-,-,⟨rfl,hxi⟩,-,hcq⟩ := (HQ.o wr HI.o.2.2.2.below).at q hq3;have y0 : wr.cell? ⟨b',o' + q,none⟩=some (.int .i64 xq) := by have := hcq 0 _ rfl; simpa [i64K] using this
         have j0 : (0 : Int)<=(q : Int) := by omega
         have j1 : (q : Int) < (lf.kids.length : Int) := by omega
         have j2 : (q : Int) < 5 := by omega
         clear hcq;go_wp2_with fail;go_at_call 24;(with_reducible refine (earlier_any _ _ _ (by omega) (by omega)).mono ?_);rintro e w' ⟨rfl,rfl⟩;rcases Nat.eq_zero_or_pos k with hk0 | hk0
         . have hj : earl xq (k : Int)=-1 := by subst hk0; rfl
           have hk0' := LH9 hk0;rw [hj];clear hk0 hj;go_wp2_with fail;go_roundw
           case rel => exact ⟨q + 1,args,vA,N,D,rfl,rfl,by go_num,by omega,by omega,HI.o.1,by have := HI.o.2.1; omega,HI.o.2.2.1,HI.o.2.2.2⟩
           case measure => simp [intOf]; omega
         . obtain ⟨j,hj,hjk⟩ : ∃ j : Nat,earl xq (k : Int)=(j : Int)/\j < k := by
            exact Z7_113
           rw [hj];have HJ := LH9 hj;clear hj hk0 x3 y0;have hje : j < es.length := by rw [HP.o.1]; exact hjk
           have hS := HI.o.2.2.2.sep;obtain ⟨g,capE,xe,csE,rfl,hcapE,hxe,hRe,-,hce⟩ := hS.elt 3 rfl j hje;obtain ⟨oe,ne,sme,arge,ae,le,ce,rfl,rfl,-,-,-,-⟩ := RepE.inv hRe;have ee := hS.blk 1 rfl;have et := hS.blk 9 rfl;have s0 : wr.cell? ⟨xb + 1,3,none⟩=some vA := ee.cell 3;have s1 : wr.cell? ⟨w.heap.size + 1,0,none⟩=some (.slice (some ⟨g,0,none⟩) es.length capE) := et.cell 0;have s2 : wr.cell? ⟨g,j * 4,none⟩=some (.int .i64 oe) := hce 0 _ (by decide) rfl;have s3 : wr.cell? ⟨g,j * 4 + 1,none⟩=some (.int .i64 ne) := hce 1 _ (by decide) rfl;have s4 : wr.cell? ⟨g,j * 4 + 2,none⟩=some (.string sme) := hce 2 _ (by decide) rfl;have s5 : wr.cell? ⟨g,j * 4 + 3,none⟩=some (.slice ae le ce) := hce 3 _ (by decide) rfl;have l0 : (0 : Int)<=(j : Int) := by omega
           have l1 : (j : Int) < (es.length : Int) := by omega
           have hse := LH9 (HP.o.1);clear ee et hce;go_wp2_with fail;refine wp_region_till (S := fun W => W.cell? ⟨xb + 1,3,none⟩=some vA/\W.cell? ⟨w.heap.size + 1,0,none⟩=some (.slice (some ⟨g,0,none⟩) es.length capE)/\W.cell? ⟨g,j * 4,none⟩=some (.int .i64 oe)/\W.cell? ⟨g,j * 4 + 1,none⟩=some (.int .i64 ne)/\W.cell? ⟨g,j * 4 + 2,none⟩=some (.string sme)/\W.cell? ⟨g,j * 4 + 3,none⟩=some (.slice ae le ce)) 8 (by kernel_rfl) ?_;refine tk 0 ⟨s0,s1,s2,s3,s4,s5⟩ ?_;refine tk 1 ⟨s0,s1,s2,s3,s4,s5⟩ ?_;refine tk 2 ⟨s0,s1,s2,s3,s4,s5⟩ ?_;refine tk 3 ⟨s0,s1,s2,s3,s4,s5⟩ ?_;refine tk 4 ⟨s0,s1,s2,s3,s4,s5⟩ ?_;refine tk 5 ⟨s0,s1,s2,s3,s4,s5⟩ ?_;refine tk 6 ⟨s0,s1,s2,s3,s4,s5⟩ ?_;refine t19 7 (fun K' hK=>?_);go_simp;have hbn := below_new wr (.cells #[.int .i64 oe,.int .i64 ne,.string sme,.slice ae le ce] 74);have HB2 := LH9 (HI.o.2.2.2.up hbn);have BZ := LH9 ((Mem.Blk.new wr 74 #[.int .i64 oe,.int .i64 ne,.string sme,.slice ae le ce]).drew);have HRe := LH9 (hRe.kept (Kept.of_below hbn _));refine hK _ _ ⟨cu9 s0 hbn,cu9 s1 hbn,cu9 s2 hbn,cu9 s3 hbn,cu9 s4 hbn,cu9 s5 hbn⟩ ?_;clear hK K' hbn s0 s1 s2 s3 s4 s5 hRe hS;have HP2 : Hid (Cnt args.length (1 + Ex.nd.go args) (1 + Ex.rk.go args) N D/\args.length<=q/\(∀ e ∈ args,e.rk<=k)) := ⟨HI.o.1,HI.o.2.1,HI.o.2.2.1⟩;clear HI;generalize (wr.alloc (.cells _ 74)).drew=v at *;generalize wr.heap.size=z at *
           try simp only [Act.put,zp1,zp2,zp3,zp4,zp5,zp6]
           refine tl9 (fun K' hK=>?_);obtain ⟨csl,hG⟩ := HB2.o.sep.at 0 rfl;refine step_ap infoE Tryz.underlying29 rfl (by decide) rfl (.tmp 65) (.tmp 71) rfl rfl hG.own hG.room ⟨z,0,none⟩ 1 1 [.int .i64 oe,.int .i64 ne,.string sme,.slice ae le ce] rfl rfl (fun m u hm => by rw [Mem.add0,BZ.o.cell]; simpa using hm) (by simp [Value.oneCell']) (by have := HP2.o.2.1; unfold maxLen; omega) (by have := HP2.o.2.1; omega) ?_;intro v' w2 o' g' hv';obtain ⟨g2,cap2,rfl,-,-,-,-⟩ := own_form o' (by omega);refine hK _ _ ?_;clear hK K';have HS3 := HB2.o.sep.push 0 rfl hG HRe.o o' g' hv';have m4 : w2.cell? ⟨xb + 1,3,none⟩=some vA := (HS3.blk 1 rfl).cell 3;have m5 : w2.frozen? ⟨xb + 1,3,none⟩=false := (HS3.blk 1 rfl).frozen 3;have HB3 := LH9 (HB2.o.push hG HRe.o o' g' hv' hxb);clear HB2 HRe hG o' g' hv' HS3 BZ
           try simp only [Act.put,zp1,zp2,zp3,zp4,zp5,zp6]
           refine ak 9 ?_;refine any_one (i := 10) (by kernel_rfl) rfl (fun K' hK => ?_);go_simp;refine hK _ _ ?_;clear hK K' m4 m5;refine wd9 ?_;generalize w2.setCell ⟨xb + 1,3,none⟩ (.slice (some ⟨g2,0,none⟩) (args.length + 1) cap2)=w3 at *;have hS := HB3.o.sep;have hjn : j < (nds es).length := by unfold nds; rw [List.length_map]; exact hje
           have hjd : j < (rks es).length := by unfold rks; rw [List.length_map]; exact hje
           obtain ⟨gN,capN,xN,csN,hvN,hcapN,hxN,⟨rfl,-⟩,-,hcN⟩ := hS.elt 4 rfl j hjn;obtain ⟨gD,capD,xD,csD,hvD,hcapD,hxD,⟨rfl,-⟩,-,hcD⟩ := hS.elt 5 rfl j hjd;have et := hS.blk 9 rfl;have s1 : w3.cell? ⟨w.heap.size + 1,1,none⟩=some vN := et.cell 1;have s2 : w3.cell? ⟨w.heap.size + 1,2,none⟩=some vD := et.cell 2;rw [hvN] at s1;rw [hvD] at s2;have s3 : w3.cell? ⟨gN,j,none⟩=some (.int .i64 xN) := by have := hcN 0 _ (by decide) rfl; simpa [i64K] using this
           have s4 : w3.cell? ⟨gD,j,none⟩=some (.int .i64 xD) := by have := hcD 0 _ (by decide) rfl; simpa [i64K] using this
           obtain rfl : xN=ndI (Ex.mk oe ne sme arge).nd := by
            unfold nds at hxN;rw [List.getElem?_map,hxe] at hxN;injection hxN with h; exact h.symm
           obtain rfl : xD=rkI (Ex.mk oe ne sme arge).nd (Ex.mk oe ne sme arge).rk := by
            unfold rks at hxD;rw [List.getElem?_map,hxe] at hxD;injection hxD with h; exact h.symm
           have hrk : (Ex.mk oe ne sme arge).rk<=k := HP.o.2 _ (List.mem_of_getElem? hxe);have HC := LH9 (HP2.o.1.push (show (Ex.mk oe ne sme arge).rk < 1000 by omega));have n1 := HP2.o.1.n1;have n2 := HP2.o.1.n2;have n3 := HP2.o.1.d1;have n4 := HP2.o.1.d2;have n5 := HP2.o.2.1;have n6 := ndI_bd (Ex.mk oe ne sme arge).nd;have n7 := rkI_bd (Ex.mk oe ne sme arge).nd (Ex.mk oe ne sme arge).rk (by omega);have k1 : (j : Int) < ((nds es).length : Int) := by omega
           have k2 : (j : Int) < ((rks es).length : Int) := by omega
           have HRK := LH9 hrk;clear hS hvN hvD hcN hcD et hxN hxD hxe hrk hjn hjd;generalize ndI (Ex.mk oe ne sme arge).nd=nj at *;generalize rkI (Ex.mk oe ne sme arge).nd (Ex.mk oe ne sme arge).rk=dj at *;go_wp2_with fail;refine ⟨⟨q + 1,args ++ [Ex.mk oe ne sme arge],_,_,_,rfl,rfl,by go_num,by omega,by omega,HC.o,by rw [List.length_append]; simp; omega,fun e he => ?_,HB3.o⟩,by simp [intOf]; omega⟩;exact Z7_114
       . clear HQ;by_cases hq3 : q < lf.kids.length
         . have hq4 : ¬ q < 5 := fun h => hq ⟨hq3,h⟩
           exact Z7_10
         . exact Z7_10
   . have HFIN : Hid (es.length<=60/\(∀ e ∈ es,e.rk<=60)/\B1 w wr es [] (nds es) (rks es) [] [] vE vN vD (.slice none 0 0) (.slice none 0 0) (.slice none 0 0)) := ⟨by rw [HR.o.1]; exact hk2,fun e he => by have := HR.o.2.1 e he; omega,HR.o.2.2⟩;clear HR HL HK;have i0 : (0 : Int)<=(k : Int) := by omega
     by_cases h3 : k < len
     . have h4 : ¬ k < 60 := fun h => hlt ⟨h3,h⟩
       clear hlt;go_wp2_with fail;go_meet
       case rel => exact ⟨es,vE,vN,vD,HFIN.o⟩
     . clear hlt;go_wp2_with fail;go_meet
       case rel => exact ⟨es,vE,vN,vD,HFIN.o⟩
 case rest =>
  obtain ⟨es,vE,vN,vD,HR⟩ := hcut;obtain ⟨W0,rfl⟩ : ∃ W : World,W=wc := ⟨_,rfl⟩;clear HL;obtain ⟨aE,cE,rfl⟩ := HR.o.2.2.sep.form 0 rfl;have HP : Hid (es.length<=60/\(∀ e ∈ es,e.rk<=60)) := ⟨HR.o.1,HR.o.2.1⟩;go_upto_block 4 with (fail)
  go_cut [13] (fun _ wc => ∃ (ts : List Te) (vT vM vP : Value),Hid (ts.length<=60/\(∀ t ∈ ts,t.rk<=121)/\B1 w wc es ts (nds es) (rks es) (ndsT ts) (rksT ts) (.slice aE es.length cE) vN vD vT vM vP))
  case first =>
   go_wp2_with fail
   go_loopw [13] (fun i wr => ∃ (k : Nat) (ts : List Te) (vT vM vP : Value),i=.int .i64 (k : Nat)/\k<=len'/\k<=60/\Hid (ts.length=k/\(∀ t ∈ ts,t.rk<=61 + k)/\B1 w wr es ts (nds es) (rks es) (ndsT ts) (rksT ts) (.slice aE es.length cE) vN vD vT vM vP)) (fun i _ => 60 - (intOf i).toNat)
   case atStart => exact ⟨0,[],_,_,_,rfl,Nat.zero_le _,by omega,rfl,fun e h => absurd h List.not_mem_nil,HR.o.2.2⟩
   case round =>
    clear HR;obtain ⟨k,ts,vT,vM,vP,rfl,hk1,hk2,HR⟩ := hrel;by_cases hlt : k < len'/\k < 60
    . obtain ⟨hl1,hl2⟩ := hlt;obtain ⟨b,o,kn,cs,rfl,hb,-,hlf,hR,-,hcell0⟩ := (HK.o w (Below.refl _ _)).at k hl1;have hcell : ∀ j c,cs[j]?=some c->wr.cell? ⟨b,o + k * 4 + j,none⟩=some c := fun j c hj => (HR.o.2.2.below.cell (p := ⟨b,o + k * 4 + j,none⟩) hb).trans (hcell0 j c hj)
      clear hcell0;obtain ⟨ka,kc,kb,kd,rfl,j1,j3,hX,hY⟩ := hR;have g0 : wr.cell? ⟨b,o + k * 4,none⟩=some (.int .i64 kn.op) := hcell 0 _ rfl;have g1 : wr.cell? ⟨b,o + k * 4 + 1,none⟩=some (.string kn.nm) := hcell 1 _ rfl;have g2 : wr.cell? ⟨b,o + k * 4 + 2,none⟩=some (.slice ka kn.exprs.length kc) := hcell 2 _ rfl;have g3 : wr.cell? ⟨b,o + k * 4 + 3,none⟩=some (.slice kb kn.terms.length kd) := hcell 3 _ rfl;have i0 : (0 : Int)<=(k : Int) := by omega
      have i1 : (k : Int) < (len' : Int) := by omega
      have i2 : (k : Int) < 60 := by omega
      clear hcell hb hlf;have HQX : Hid (∀ W,Below w.heap.size w W->SlR i64K W [] kn.exprs ka kn.exprs.length kc) := fun W hW => hX.kept (Kept.of_below hW [])
      have HQY : Hid (∀ W,Below w.heap.size w W->SlR i64K W [] kn.terms kb kn.terms.length kd) := fun W hW => hY.kept (Kept.of_below hW [])
      have HE := LH9 (HR.o.2.2.enterK kn ka kb kc kd);have HPT : Hid (ts.length=k/\(∀ t ∈ ts,t.rk<=61 + k)) := ⟨HR.o.1,HR.o.2.1⟩;have hfX := LH9 hX.facts;have hfY := LH9 hY.facts;have hxb : w.heap.size<=wr.heap.size := HR.o.2.2.below.size;clear HR hX hY HK;go_upto_block 6 with (fail);generalize ((wr.alloc (.cells #[.int .i64 kn.op,.string kn.nm,.slice ka kn.exprs.length kc,.slice kb kn.terms.length kd] 82)).alloc (.cells #[.int .i64 kn.op,.string kn.nm,.slice none 0 0,.slice none 0 0] 41))=w1 at *;clear g0 g1 g2 g3;generalize wr.heap.size=xb at *
      go_cut [16,17] (fun n d wc => ∃ (xs : List Ex) (vX : Value) (N D : Int) (kx : Nat),n=.int .i64 N/\d=.int .i64 D/\Hid (Cnt kx (Te.nds xs []) (Te.rks xs []) N D/\kx<=3/\xs.length=kx/\(∀ e ∈ xs,e.rk<=60)/\B3 w wc xb kn ka kb kc kd xs vX [] (.slice none 0 0) es ts (nds es) (rks es) (ndsT ts) (rksT ts) (.slice aE es.length cE) vN vD vT vM vP))
      case first =>
       go_wp2_with fail
       go_loopw [16,17,18] (fun n d q w2 => ∃ (q' : Nat) (xs : List Ex) (vX : Value) (N D : Int),n=.int .i64 N/\d=.int .i64 D/\q=.int .i64 (q' : Nat)/\q'<=kn.exprs.length/\q'<=3 /\
        Hid (Cnt xs.length (Te.nds xs []) (Te.rks xs []) N D/\xs.length<=q'/\(∀ e ∈ xs,e.rk<=60)/\B3 w w2 xb kn ka kb kc kd xs vX [] (.slice none 0 0) es ts (nds es) (rks es) (ndsT ts) (rksT ts) (.slice aE es.length cE) vN vD vT vM vP)) (fun _ _ q _ => 3 - (intOf q).toNat)
       case atStart => exact ⟨0,[],_,1,1,rfl,rfl,rfl,Nat.zero_le _,by omega,Cnt.one,Nat.le_refl _,fun e h => absurd h List.not_mem_nil,HE.o⟩
       case round =>
        clear HE;obtain ⟨q,xs,vX,N,D,rfl,rfl,rfl,hq1,hq2,HI⟩ := hrel;have x2 : wr.cell? ⟨xb,2,none⟩=some (.slice ka kn.exprs.length kc) := (HI.o.2.2.2.sep.blk 3 rfl).cell 2;by_cases hq : q < kn.exprs.length/\q < 3
        . obtain ⟨hq3,hq4⟩ := hq;obtain ⟨b',o',xq,cq,rfl,-,-,-,⟨rfl,hxi⟩,-,hcq⟩ := (HQX.o wr HI.o.2.2.2.below).at q hq3;have y0 : wr.cell? ⟨b',o' + q,none⟩=some (.int .i64 xq) := by have := hcq 0 _ rfl; simpa [i64K] using this
          have y1 : wr.cell? ⟨w.heap.size + 1,0,none⟩=some (.slice aE es.length cE) := (HI.o.2.2.2.sep.blk 10 rfl).cell 0;have j0 : (0 : Int)<=(q : Int) := by omega
          have j1' : (q : Int) < (kn.exprs.length : Int) := by omega
          have j2 : (q : Int) < 3 := by omega
          have hel : es.length<=60 := HP.o.1;clear hcq;go_wp2_with fail;refine wp_region_till (S := fun W => W.cell? ⟨xb,2,none⟩=some (.slice (some ⟨b',o',none⟩) kn.exprs.length kc)/\W.cell? ⟨b',o' + q,none⟩=some (.int .i64 xq)/\W.cell? ⟨w.heap.size + 1,0,none⟩=some (.slice aE es.length cE)) 9 (by kernel_rfl) ?_;refine tk 0 ⟨x2,y0,y1⟩ ?_;refine tk 1 ⟨x2,y0,y1⟩ ?_;refine tk 2 ⟨x2,y0,y1⟩ ?_;refine tk 3 ⟨x2,y0,y1⟩ ?_;refine tk 4 ⟨x2,y0,y1⟩ ?_;refine tk 5 ⟨x2,y0,y1⟩ ?_;refine tk 6 ⟨x2,y0,y1⟩ ?_;refine tk 7 ⟨x2,y0,y1⟩ ?_;refine t19 8 (fun K' hK=>?_);go_simp;go_at_call 24;(with_reducible refine (earlier_any _ _ _ (by omega) (by omega)).mono ?_);rintro e w' ⟨rfl,rfl⟩;refine hK _ _ ⟨x2,y0,y1⟩ ?_;clear hK K';have HI2 := LH9 (HI.o.2.2.2.up (Below.refl wr.heap.size wr).drew);have HP2 : Hid (Cnt xs.length (Te.nds xs []) (Te.rks xs []) N D/\xs.length<=q/\(∀ e ∈ xs,e.rk<=60)) := ⟨HI.o.1,HI.o.2.1,HI.o.2.2.1⟩;clear HI x2 y0 y1;generalize wr.drew=wd at *
          try simp only [Act.put,zp1,zp2,zp3,zp4,zp5,zp6]
          refine tl9 (fun K' hK=>?_);go_simp;refine hK _ _ ?_;clear hK K';refine wd9 ?_;rcases Nat.eq_zero_or_pos es.length with hk0 | hk0
          . have hj : earl xq (es.length : Int)=-1 := by rw [hk0]; rfl
            rw [hj];clear hk0 hj;go_wp2_with fail;go_roundw
            case rel => exact ⟨q + 1,xs,vX,N,D,rfl,rfl,by go_num,by omega,by omega,HP2.o.1,by have := HP2.o.2.1; omega,HP2.o.2.2,HI2.o⟩
            case measure => simp [intOf]; omega
          . obtain ⟨j,hj,hje⟩ : ∃ j : Nat,earl xq (es.length : Int)=(j : Int)/\j < es.length := by
             rcases earl_bd xq (es.length : Int) (by omega) with h | h
             . have hne : earl xq (es.length : Int) ≠ -1 := by
                unfold earl; rw [if_neg (by omega)];have := Int.emod_lt_of_pos (IntKind.u64.wrap xq) (show (0 : Int) < (es.length : Int) by omega);omega
               exact ⟨(earl xq es.length).toNat,by omega,by omega⟩
             . omega
            rw [hj];have HJ := LH9 hj;clear hj hk0;have hS := HI2.o.sep;obtain ⟨g,capE,xe,csE,hvE,hcapE,hxe,hRe,-,hce⟩ := hS.elt 4 rfl j hje;obtain ⟨oe,ne,sme,arge,ae,le,ce,rfl,rfl,-,-,-,-⟩ := RepE.inv hRe;have ee := hS.blk 2 rfl;have et := hS.blk 10 rfl;have s0 : wd.cell? ⟨xb + 1,2,none⟩=some vX := ee.cell 2;have s1 : wd.cell? ⟨w.heap.size + 1,0,none⟩=some (.slice aE es.length cE) := et.cell 0;rw [hvE] at s1;have s2 : wd.cell? ⟨g,j * 4,none⟩=some (.int .i64 oe) := hce 0 _ (by decide) rfl;have s3 : wd.cell? ⟨g,j * 4 + 1,none⟩=some (.int .i64 ne) := hce 1 _ (by decide) rfl;have s4 : wd.cell? ⟨g,j * 4 + 2,none⟩=some (.string sme) := hce 2 _ (by decide) rfl;have s5 : wd.cell? ⟨g,j * 4 + 3,none⟩=some (.slice ae le ce) := hce 3 _ (by decide) rfl;have l0 : (0 : Int)<=(j : Int) := by omega
            have l1 : (j : Int) < (es.length : Int) := by omega
            have HVE := LH9 hvE;clear ee et hce hvE;go_wp2_with fail;refine wp_region_till (S := fun W => W.cell? ⟨xb + 1,2,none⟩=some vX/\W.cell? ⟨w.heap.size + 1,0,none⟩=some (.slice (some ⟨g,0,none⟩) es.length capE)/\W.cell? ⟨g,j * 4,none⟩=some (.int .i64 oe)/\W.cell? ⟨g,j * 4 + 1,none⟩=some (.int .i64 ne)/\W.cell? ⟨g,j * 4 + 2,none⟩=some (.string sme)/\W.cell? ⟨g,j * 4 + 3,none⟩=some (.slice ae le ce)) 8 (by kernel_rfl) ?_;refine tk 0 ⟨s0,s1,s2,s3,s4,s5⟩ ?_;refine tk 1 ⟨s0,s1,s2,s3,s4,s5⟩ ?_;refine tk 2 ⟨s0,s1,s2,s3,s4,s5⟩ ?_;refine tk 3 ⟨s0,s1,s2,s3,s4,s5⟩ ?_;refine tk 4 ⟨s0,s1,s2,s3,s4,s5⟩ ?_;refine tk 5 ⟨s0,s1,s2,s3,s4,s5⟩ ?_;refine tk 6 ⟨s0,s1,s2,s3,s4,s5⟩ ?_;refine t19 7 (fun K' hK=>?_);go_simp;have hbn := below_new wd (.cells #[.int .i64 oe,.int .i64 ne,.string sme,.slice ae le ce] 74);have HB2 := LH9 (HI2.o.up hbn);have BZ := LH9 ((Mem.Blk.new wd 74 #[.int .i64 oe,.int .i64 ne,.string sme,.slice ae le ce]).drew);have HRe := LH9 (hRe.kept (Kept.of_below hbn _));refine hK _ _ ⟨cu9 s0 hbn,cu9 s1 hbn,cu9 s2 hbn,cu9 s3 hbn,cu9 s4 hbn,cu9 s5 hbn⟩ ?_;clear hK K' hbn s0 s1 s2 s3 s4 s5 hRe hS HI2;generalize (wd.alloc (.cells _ 74)).drew=v at *;generalize wd.heap.size=z at *
            try simp only [Act.put,zp1,zp2,zp3,zp4,zp5,zp6]
            refine tl9 (fun K' hK=>?_);obtain ⟨csl,hG⟩ := HB2.o.sep.at 0 rfl;refine step_ap infoE Tryz.underlying29 rfl (by decide) rfl (.tmp 155) (.tmp 161) rfl rfl hG.own hG.room ⟨z,0,none⟩ 1 1 [.int .i64 oe,.int .i64 ne,.string sme,.slice ae le ce] rfl rfl (fun m u hm => by rw [Mem.add0,BZ.o.cell]; simpa using hm) (by simp [Value.oneCell']) (by have := HP2.o.2.1; unfold maxLen; omega) (by have := HP2.o.2.1; omega) ?_;intro v' w2 o' g' hv';obtain ⟨g2,cap2,rfl,-,-,-,-⟩ := own_form o' (by omega);refine hK _ _ ?_;clear hK K';obtain ⟨⟨m4,m5⟩,HB3⟩ := HB2.o.pushX hG HRe.o o' g' hv' hxb;have HB3' := LH9 HB3;clear HB2 HRe hG o' g' hv' BZ HB3;have HB3 := HB3';clear HB3'
            try simp only [Act.put,zp1,zp2,zp3,zp4,zp5,zp6]
            refine ak 9 ?_;refine any_one (i := 10) (by kernel_rfl) rfl (fun K' hK => ?_);go_simp;refine hK _ _ ?_;clear hK K' m4 m5;refine wd9 ?_;generalize w2.setCell ⟨xb + 1,2,none⟩ (.slice (some ⟨g2,0,none⟩) (xs.length + 1) cap2)=w3 at *;have hS := HB3.o.sep;have hjn : j < (nds es).length := by unfold nds; rw [List.length_map]; exact hje
            have hjd : j < (rks es).length := by unfold rks; rw [List.length_map]; exact hje
            obtain ⟨gN,capN,xN,csN,hvN,hcapN,hxN,⟨rfl,-⟩,-,hcN⟩ := hS.elt 5 rfl j hjn;obtain ⟨gD,capD,xD,csD,hvD,hcapD,hxD,⟨rfl,-⟩,-,hcD⟩ := hS.elt 6 rfl j hjd;have et := hS.blk 10 rfl;have s1 : w3.cell? ⟨w.heap.size + 1,1,none⟩=some vN := et.cell 1;have s2 : w3.cell? ⟨w.heap.size + 1,2,none⟩=some vD := et.cell 2;rw [hvN] at s1;rw [hvD] at s2;have s3 : w3.cell? ⟨gN,j,none⟩=some (.int .i64 xN) := by have := hcN 0 _ (by decide) rfl; simpa [i64K] using this
            have s4 : w3.cell? ⟨gD,j,none⟩=some (.int .i64 xD) := by have := hcD 0 _ (by decide) rfl; simpa [i64K] using this
            obtain rfl : xN=ndI (Ex.mk oe ne sme arge).nd := by
             unfold nds at hxN;rw [List.getElem?_map,hxe] at hxN;injection hxN with h; exact h.symm
            obtain rfl : xD=rkI (Ex.mk oe ne sme arge).nd (Ex.mk oe ne sme arge).rk := by
             unfold rks at hxD;rw [List.getElem?_map,hxe] at hxD;injection hxD with h; exact h.symm
            have hrk : (Ex.mk oe ne sme arge).rk<=60 := HP.o.2 _ (List.mem_of_getElem? hxe);have HC := LH9 (HP2.o.1.pushX (show (Ex.mk oe ne sme arge).rk < 1000 by omega));have n1 := HP2.o.1.n1;have n2 := HP2.o.1.n2;have n3 := HP2.o.1.d1;have n4 := HP2.o.1.d2;have n5 := HP2.o.2.1;have n6 := ndI_bd (Ex.mk oe ne sme arge).nd;have n7 := rkI_bd (Ex.mk oe ne sme arge).nd (Ex.mk oe ne sme arge).rk (by omega);have k1 : (j : Int) < ((nds es).length : Int) := by omega
            have k2 : (j : Int) < ((rks es).length : Int) := by omega
            have HRK := LH9 hrk;clear hS hvN hvD hcN hcD et hxN hxD hxe hrk hjn hjd HVE;generalize ndI (Ex.mk oe ne sme arge).nd=nj at *;generalize rkI (Ex.mk oe ne sme arge).nd (Ex.mk oe ne sme arge).rk=dj at *;go_wp2_with fail;refine ⟨⟨q + 1,xs ++ [Ex.mk oe ne sme arge],_,_,_,rfl,rfl,by go_num,by omega,by omega,by rw [List.length_append]; exact HC.o,by rw [List.length_append]; simp; omega,fun e he => ?_,HB3.o⟩,by simp [intOf]; omega⟩;exact Z7_114
        . have HFIN := HI;clear HQX HQY HI;by_cases hq3 : q < kn.exprs.length
          . have hq4 : ¬ q < 3 := fun h => hq ⟨hq3,h⟩
            exact Z7_144
          . exact Z7_144
      case rest =>
       obtain ⟨xs,vX,N,D,kx,rfl,rfl,HI⟩ := hcut;obtain ⟨W2,rfl⟩ : ∃ W : World,W=wc := ⟨_,rfl⟩;clear HE HQX;have j1' := LH9 j1;go_upto_block 8 with (fail)
       go_cut [16,17] (fun n d wc => ∃ (ys : List Te) (vY : Value) (N D : Int),n=.int .i64 N/\d=.int .i64 D/\Hid (Cnt (kx + ys.length) (Te.nds xs ys) (Te.rks xs ys) N D/\ys.length<=4/\(∀ t ∈ ys,t.rk<=61 + k)/\B3 w wc xb kn ka kb kc kd xs vX ys vY es ts (nds es) (rks es) (ndsT ts) (rksT ts) (.slice aE es.length cE) vN vD vT vM vP))
       case first =>
        go_wp2_with fail
        go_loopw [16,17,20] (fun n d q w2 => ∃ (q' : Nat) (ys : List Te) (vY : Value) (N D : Int),n=.int .i64 N/\d=.int .i64 D/\q=.int .i64 (q' : Nat)/\q'<=kn.terms.length/\q'<=4 /\
         Hid (Cnt (kx + ys.length) (Te.nds xs ys) (Te.rks xs ys) N D/\ys.length<=q'/\(∀ t ∈ ys,t.rk<=61 + k)/\B3 w w2 xb kn ka kb kc kd xs vX ys vY es ts (nds es) (rks es) (ndsT ts) (rksT ts) (.slice aE es.length cE) vN vD vT vM vP)) (fun _ _ q _ => 4 - (intOf q).toNat)
        case atStart => exact ⟨0,[],_,N,D,rfl,rfl,rfl,Nat.zero_le _,by omega,HI.o.1,Nat.le_refl _,fun e h => absurd h List.not_mem_nil,HI.o.2.2.2.2⟩
        case round =>
         have HX : Hid (kx<=3) := HI.o.2.1;clear HI;obtain ⟨q,ys,vY,N',D',rfl,rfl,rfl,hq1,hq2,HI⟩ := hrel;have x3 : wr.cell? ⟨xb,3,none⟩=some (.slice kb kn.terms.length kd) := (HI.o.2.2.2.sep.blk 3 rfl).cell 3;by_cases hq : q < kn.terms.length/\q < 4
         . obtain ⟨hq3,hq4⟩ := hq;obtain ⟨b',o',xq,cq,rfl,-,-,-,⟨rfl,hxi⟩,-,hcq⟩ := (HQY.o wr HI.o.2.2.2.below).at q hq3;have y0 : wr.cell? ⟨b',o' + q,none⟩=some (.int .i64 xq) := by have := hcq 0 _ rfl; simpa [i64K] using this
           have j0 : (0 : Int)<=(q : Int) := by omega
           have j2' : (q : Int) < (kn.terms.length : Int) := by omega
           have j3' : (q : Int) < 4 := by omega
           clear hcq;go_wp2_with fail;go_at_call 24;(with_reducible refine (earlier_any _ _ _ (by omega) (by omega)).mono ?_);rintro e w' ⟨rfl,rfl⟩;rcases Nat.eq_zero_or_pos k with hk0 | hk0
           . have hj : earl xq (k : Int)=-1 := by subst hk0; rfl
             have hk0' := LH9 hk0;rw [hj];clear hk0 hj;go_wp2_with fail;go_roundw
             case rel => exact ⟨q + 1,ys,vY,N',D',rfl,rfl,by go_num,by omega,by omega,HI.o.1,by have := HI.o.2.1; omega,HI.o.2.2.1,HI.o.2.2.2⟩
             case measure => simp [intOf]; omega
           . obtain ⟨j,hj,hjk⟩ : ∃ j : Nat,earl xq (k : Int)=(j : Int)/\j < k := by
              exact Z7_113
             rw [hj];have HJ := LH9 hj;clear hj hk0 x3 y0;have hje : j < ts.length := by rw [HPT.o.1]; exact hjk
             have hS := HI.o.2.2.2.sep;obtain ⟨g,capT,xe,csT,rfl,hcapT,hxe,hRt,-,hce⟩ := hS.elt 7 rfl j hje;obtain ⟨ot,smt,xst,yst,ax,lx,cx,ay,ly,cy,rfl,rfl,-,-,-,-⟩ := RepT.inv hRt;have ee := hS.blk 2 rfl;have et := hS.blk 10 rfl;have s0 : wr.cell? ⟨xb + 1,3,none⟩=some vY := ee.cell 3;have s1 : wr.cell? ⟨w.heap.size + 1,3,none⟩=some (.slice (some ⟨g,0,none⟩) ts.length capT) := et.cell 3;have s2 : wr.cell? ⟨g,j * 4,none⟩=some (.int .i64 ot) := hce 0 _ (by decide) rfl;have s3 : wr.cell? ⟨g,j * 4 + 1,none⟩=some (.string smt) := hce 1 _ (by decide) rfl;have s4 : wr.cell? ⟨g,j * 4 + 2,none⟩=some (.slice ax lx cx) := hce 2 _ (by decide) rfl;have s5 : wr.cell? ⟨g,j * 4 + 3,none⟩=some (.slice ay ly cy) := hce 3 _ (by decide) rfl;have l0 : (0 : Int)<=(j : Int) := by omega
             have l1 : (j : Int) < (ts.length : Int) := by omega
             clear ee et hce;go_wp2_with fail;refine wp_region_till (S := fun W => W.cell? ⟨xb + 1,3,none⟩=some vY/\W.cell? ⟨w.heap.size + 1,3,none⟩=some (.slice (some ⟨g,0,none⟩) ts.length capT)/\W.cell? ⟨g,j * 4,none⟩=some (.int .i64 ot)/\W.cell? ⟨g,j * 4 + 1,none⟩=some (.string smt)/\W.cell? ⟨g,j * 4 + 2,none⟩=some (.slice ax lx cx)/\W.cell? ⟨g,j * 4 + 3,none⟩=some (.slice ay ly cy)) 8 (by kernel_rfl) ?_;refine tk 0 ⟨s0,s1,s2,s3,s4,s5⟩ ?_;refine tk 1 ⟨s0,s1,s2,s3,s4,s5⟩ ?_;refine tk 2 ⟨s0,s1,s2,s3,s4,s5⟩ ?_;refine tk 3 ⟨s0,s1,s2,s3,s4,s5⟩ ?_;refine tk 4 ⟨s0,s1,s2,s3,s4,s5⟩ ?_;refine tk 5 ⟨s0,s1,s2,s3,s4,s5⟩ ?_;refine tk 6 ⟨s0,s1,s2,s3,s4,s5⟩ ?_;refine t19 7 (fun K' hK=>?_);go_simp;have hbn := below_new wr (.cells #[.int .i64 ot,.string smt,.slice ax lx cx,.slice ay ly cy] 41);have HB2 := LH9 (HI.o.2.2.2.up hbn);have BZ := LH9 ((Mem.Blk.new wr 41 #[.int .i64 ot,.string smt,.slice ax lx cx,.slice ay ly cy]).drew);have HRt := LH9 (RepT.kept hRt (Kept.of_below hbn _));refine hK _ _ ⟨cu9 s0 hbn,cu9 s1 hbn,cu9 s2 hbn,cu9 s3 hbn,cu9 s4 hbn,cu9 s5 hbn⟩ ?_;clear hK K' hbn s0 s1 s2 s3 s4 s5 hRt hS;have HP2 : Hid (Cnt (kx + ys.length) (Te.nds xs ys) (Te.rks xs ys) N' D'/\ys.length<=q/\(∀ t ∈ ys,t.rk<=61 + k)) := ⟨HI.o.1,HI.o.2.1,HI.o.2.2.1⟩;clear HI;generalize (wr.alloc (.cells _ 41)).drew=v at *;generalize wr.heap.size=z at *
             try simp only [Act.put,zp1,zp2,zp3,zp4,zp5,zp6]
             refine tl9 (fun K' hK=>?_);obtain ⟨csl,hG⟩ := HB2.o.sep.at 1 rfl;refine step_ap infoT Tryz.underlying31 rfl (by decide) rfl (.tmp 200) (.tmp 206) rfl rfl hG.own hG.room ⟨z,0,none⟩ 1 1 [.int .i64 ot,.string smt,.slice ax lx cx,.slice ay ly cy] rfl rfl (fun m u hm => by rw [Mem.add0,BZ.o.cell]; simpa using hm) (by simp [Value.oneCell']) (by have := HP2.o.2.1; unfold maxLen; omega) (by have := HP2.o.2.1; omega) ?_;intro v' w2 o' g' hv';obtain ⟨g2,cap2,rfl,-,-,-,-⟩ := own_form o' (by omega);refine hK _ _ ?_;clear hK K';obtain ⟨⟨m4,m5⟩,HB3⟩ := HB2.o.pushY hG HRt.o o' g' hv' hxb;have HB3' := LH9 HB3;clear HB2 HRt hG o' g' hv' BZ HB3;have HB3 := HB3';clear HB3'
             try simp only [Act.put,zp1,zp2,zp3,zp4,zp5,zp6]
             refine ak 9 ?_;refine any_one (i := 10) (by kernel_rfl) rfl (fun K' hK => ?_);go_simp;refine hK _ _ ?_;clear hK K' m4 m5;refine wd9 ?_;generalize w2.setCell ⟨xb + 1,3,none⟩ (.slice (some ⟨g2,0,none⟩) (ys.length + 1) cap2)=w3 at *;have hS := HB3.o.sep;have hjn : j < (ndsT ts).length := by unfold ndsT; rw [List.length_map]; exact hje
             have hjd : j < (rksT ts).length := by unfold rksT; rw [List.length_map]; exact hje
             obtain ⟨gN,capN,xN,csN,hvN,hcapN,hxN,⟨rfl,-⟩,-,hcN⟩ := hS.elt 8 rfl j hjn;obtain ⟨gD,capD,xD,csD,hvD,hcapD,hxD,⟨rfl,-⟩,-,hcD⟩ := hS.elt 9 rfl j hjd;have et := hS.blk 10 rfl;have s1 : w3.cell? ⟨w.heap.size + 1,4,none⟩=some vM := et.cell 4;have s2 : w3.cell? ⟨w.heap.size + 1,5,none⟩=some vP := et.cell 5;rw [hvN] at s1;rw [hvD] at s2;have s3 : w3.cell? ⟨gN,j,none⟩=some (.int .i64 xN) := by have := hcN 0 _ (by decide) rfl; simpa [i64K] using this
             have s4 : w3.cell? ⟨gD,j,none⟩=some (.int .i64 xD) := by have := hcD 0 _ (by decide) rfl; simpa [i64K] using this
             obtain rfl : xN=ndI (Te.mk ot smt xst yst).nd := by
              unfold ndsT at hxN;rw [List.getElem?_map,hxe] at hxN;injection hxN with h; exact h.symm
             obtain rfl : xD=rkI (Te.mk ot smt xst yst).nd (Te.mk ot smt xst yst).rk := by
              unfold rksT at hxD;rw [List.getElem?_map,hxe] at hxD;injection hxD with h; exact h.symm
             have hrk : (Te.mk ot smt xst yst).rk<=61 + k := HPT.o.2 _ (List.mem_of_getElem? hxe);have HC := LH9 (HP2.o.1.pushT (show (Te.mk ot smt xst yst).rk < 1000 by omega));have n0 := HX.o;have n1 := HP2.o.1.n1;have n2 := HP2.o.1.n2;have n3 := HP2.o.1.d1;have n4 := HP2.o.1.d2;have n5 := HP2.o.2.1;have n6 := ndI_bd (Te.mk ot smt xst yst).nd;have n7 := rkI_bd (Te.mk ot smt xst yst).nd (Te.mk ot smt xst yst).rk (by omega);have k1 : (j : Int) < ((ndsT ts).length : Int) := by omega
             have k2 : (j : Int) < ((rksT ts).length : Int) := by omega
             have HRK := LH9 hrk;clear hS hvN hvD hcN hcD et hxN hxD hxe hrk hjn hjd;generalize ndI (Te.mk ot smt xst yst).nd=nj at *;generalize rkI (Te.mk ot smt xst yst).nd (Te.mk ot smt xst yst).rk=dj at *;go_wp2_with fail;refine ⟨⟨q + 1,ys ++ [Te.mk ot smt xst yst],_,_,_,rfl,rfl,by go_num,by omega,by omega,by rw [List.length_append]; exact HC.o,by rw [List.length_append]; simp; omega,fun e he => ?_,HB3.o⟩,by simp [intOf]; omega⟩;exact Z7_114
         . have HFIN := HI;clear HQY HI;by_cases hq3 : q < kn.terms.length
           . have hq4 : ¬ q < 4 := fun h => hq ⟨hq3,h⟩
             exact Z7_151
           . exact Z7_151
       case rest =>
        have HX : Hid (kx<=3/\∀ e ∈ xs,e.rk<=60) := ⟨HI.o.2.1,HI.o.2.2.2.1⟩;clear HI HQY;obtain ⟨ys,vY,N',D',rfl,rfl,HI⟩ := hcut;obtain ⟨W3,rfl⟩ : ∃ W : World,W=wc := ⟨_,rfl⟩;have hRKS : Te.rks xs ys<=61 + (k + 1) := by have h1 := Ex.rk_go_le HX.o.2; have h2 := Te.rk_go_le HI.o.2.2.1; unfold Te.rks; omega
        have hM : Te.rks xs ys < 1000 := by omega
        go_wp2_with fail;go_at_call 25;(with_reducible refine (told_cnt HI.o.1 hM _).mono ?_);rintro e w' ⟨rfl,rfl⟩;obtain ⟨aA,cA,aB,cB,rfl,rfl,hrep⟩ := HI.o.2.2.2.box j1 j3;have HX2 := LH9 hrep;have HRK := LH9 hRKS;have hS := HI.o.2.2.2.sep;have ee := hS.blk 2 rfl;have s0 : W3.cell? ⟨xb + 1,0,none⟩=some (.int .i64 kn.op) := ee.cell 0;have s1 : W3.cell? ⟨xb + 1,1,none⟩=some (.string kn.nm) := ee.cell 1;have s2 : W3.cell? ⟨xb + 1,2,none⟩=some (.slice aA xs.length cA) := ee.cell 2;have s3 : W3.cell? ⟨xb + 1,3,none⟩=some (.slice aB ys.length cB) := ee.cell 3;have s4 : W3.cell? ⟨w.heap.size + 1,3,none⟩=some vT := (hS.blk 10 rfl).cell 3;have hbn := (Below.refl W3.heap.size W3).alloc (Nat.le_refl _) (.cells #[.int .i64 kn.op,.string kn.nm,.slice aA xs.length cA,.slice aB ys.length cB] 41);have HB2 := LH9 (HI.o.2.2.2.leave.up hbn);have HX3 := LH9 (RepT.kept HX2.o (Kept.of_below hbn _));clear hbn hS ee hrep HI HX2 hRKS hM;obtain ⟨csl,hG⟩ := HB2.o.sep.at 3 rfl;have HG := LH9 hG;clear hG;go_upto_region 44 with (at_builtin; refine ap_row infoT Tryz.underlying31 rfl (by decide) rfl (.tmp 231) (.tmp 233) rfl rfl HG.o.own HG.o.room ⟨W3.heap.size,0,none⟩ 1 1 [.int .i64 kn.op,.string kn.nm,.slice aA xs.length cA,.slice aB ys.length cB] rfl rfl (lit_cells_at W3 #[.int .i64 kn.op,.string kn.nm,.slice aA xs.length cA,.slice aB ys.length cB] 41 _ rfl) (by simp [Value.oneCell']) (by have := HPT.o.1; unfold maxLen; omega) (by have := HPT.o.1; omega) ?_; intro v1 wA o1 g1 hv1; obtain ⟨g2,cap2,rfl,-,-,-,-⟩ := own_form o1 (by omega); obtain ⟨⟨m4,m5⟩,HB3⟩ := HB2.o.pushT HG.o HX3.o o1 g1 hv1; have HB3' := LH9 HB3; clear HB3 o1 g1 hv1);have HB3 := HB3';clear HB3' HB2 HG HX3 m4 m5 s0 s1 s2 s3 s4;generalize wA.setCell ⟨w.heap.size + 1,3,none⟩ (.slice (some ⟨g2,0,none⟩) (ts.length + 1) cap2)=w2 at *;have s1 : w2.cell? ⟨w.heap.size + 1,4,none⟩=some vM := (HB3.o.sep.blk 6 rfl).cell 4;have HB4 := LH9 (HB3.o.up ((Below.refl w2.heap.size w2).alloc (Nat.le_refl _) (.cells #[.int .i64 (ndI (Te.nds xs ys))] 3)));obtain ⟨csl2,hG2⟩ := HB4.o.sep.at 4 rfl;have HG2 := LH9 hG2;have hlN : Hid ((ndsT ts).length=k) := by show _=_; unfold ndsT; rw [List.length_map]; exact HPT.o.1
        clear hG2 HB3;go_upto_region 45 with (at_builtin; refine ap_row infoI Tryz.underlying30 rfl (by decide) rfl (.tmp 237) (.tmp 239) rfl rfl HG2.o.own HG2.o.room ⟨w2.heap.size,0,none⟩ 1 1 [.int .i64 (ndI (Te.nds xs ys))] rfl rfl (lit_cells_at w2 #[.int .i64 (ndI (Te.nds xs ys))] 3 _ rfl) (by simp [Value.oneCell']) (by have := hlN.o; unfold maxLen; omega) (by have := hlN.o; omega) ?_; intro v3 wB o1 g1 hv1; obtain ⟨g3,cap3,rfl,-,-,-,-⟩ := own_form o1 (by omega); obtain ⟨⟨m4,m5⟩,HB5⟩ := HB4.o.pushM HG2.o ⟨rfl,by have := ndI_bd (Te.nds xs ys); unfold I64; omega⟩ o1 g1 hv1; have HB5' := LH9 HB5; clear HB5 o1 g1 hv1);have HB5 := HB5';clear HB5' HB4 HG2 m4 m5 s1;generalize wB.setCell ⟨w.heap.size + 1,4,none⟩ (.slice (some ⟨g3,0,none⟩) ((ndsT ts).length + 1) cap3)=w4 at *;have s1 : w4.cell? ⟨w.heap.size + 1,5,none⟩=some vP := (HB5.o.sep.blk 6 rfl).cell 5;have HB6 := LH9 (HB5.o.up ((Below.refl w4.heap.size w4).alloc (Nat.le_refl _) (.cells #[.int .i64 (rkI (Te.nds xs ys) (Te.rks xs ys))] 3)));obtain ⟨csl3,hG3⟩ := HB6.o.sep.at 5 rfl;have HG3 := LH9 hG3;have hlD : Hid ((rksT ts).length=k) := by show _=_; unfold rksT; rw [List.length_map]; exact HPT.o.1
        clear hG3 HB5;go_upto_region 22 with (at_builtin; refine ap_row infoI Tryz.underlying30 rfl (by decide) rfl (.tmp 243) (.tmp 245) rfl rfl HG3.o.own HG3.o.room ⟨w4.heap.size,0,none⟩ 1 1 [.int .i64 (rkI (Te.nds xs ys) (Te.rks xs ys))] rfl rfl (lit_cells_at w4 #[.int .i64 (rkI (Te.nds xs ys) (Te.rks xs ys))] 3 _ rfl) (by simp [Value.oneCell']) (by have := hlD.o; unfold maxLen; omega) (by have := hlD.o; omega) ?_; intro v5 wC o1 g1 hv1; obtain ⟨g4,cap4,rfl,-,-,-,-⟩ := own_form o1 (by omega); obtain ⟨⟨m4,m5⟩,HB7⟩ := HB6.o.pushP HG3.o ⟨rfl,by have := rkI_bd (Te.nds xs ys) (Te.rks xs ys) (by have := HRK.o; omega); unfold I64; omega⟩ o1 g1 hv1; have HB7' := LH9 HB7; clear HB7 o1 g1 hv1);have HB7 := HB7';clear HB7' HB6 HG3 m4 m5 s1;generalize wC.setCell ⟨w.heap.size + 1,5,none⟩ (.slice (some ⟨g4,0,none⟩) ((rksT ts).length + 1) cap4)=w6 at *;have HFIN : Hid ((ts ++ [Te.mk kn.op kn.nm xs ys]).length=k + 1/\(∀ t ∈ ts ++ [Te.mk kn.op kn.nm xs ys],t.rk<=61 + (k + 1))/\B1 w w6 es (ts ++ [Te.mk kn.op kn.nm xs ys]) (nds es) (rks es) (ndsT (ts ++ [Te.mk kn.op kn.nm xs ys])) (rksT (ts ++ [Te.mk kn.op kn.nm xs ys])) (.slice aE es.length cE) vN vD (.slice (some ⟨g2,0,none⟩) (ts.length + 1) cap2) (.slice (some ⟨g3,0,none⟩) ((ndsT ts).length + 1) cap3) (.slice (some ⟨g4,0,none⟩) ((rksT ts).length + 1) cap4)) := by
         refine ⟨by rw [List.length_append,HPT.o.1]; rfl,fun e he => ?_,?_⟩
         . rcases List.mem_append.1 he with he | he
           . have := HPT.o.2 e he; omega
           . rw [List.mem_singleton] at he; subst he; have := HRK.o; unfold Te.rks at this; simp only [Te.rk]; exact this
         . have e1 : ndsT (ts ++ [Te.mk kn.op kn.nm xs ys])=ndsT ts ++ [ndI (Te.nds xs ys)] := by simp [ndsT,Te.nd,Te.nds]
           have e2 : rksT (ts ++ [Te.mk kn.op kn.nm xs ys])=rksT ts ++ [rkI (Te.nds xs ys) (Te.rks xs ys)] := by simp [rksT,Te.nd,Te.rk,Te.nds,Te.rks]
           rw [e1,e2];exact HB7.o
        clear HB7 HRK HPT hlN hlD HX;go_wp2_with fail;exact ⟨⟨k + 1,_,_,_,_,by go_num,by omega,by omega,HFIN.o⟩,by simp [intOf]; omega⟩
    . have HFIN : Hid (ts.length<=60/\(∀ t ∈ ts,t.rk<=121)/\B1 w wr es ts (nds es) (rks es) (ndsT ts) (rksT ts) (.slice aE es.length cE) vN vD vT vM vP) := ⟨by rw [HR.o.1]; exact hk2,fun e he => by have := HR.o.2.1 e he; omega,HR.o.2.2⟩;clear HR HK;have i0 : (0 : Int)<=(k : Int) := by omega
      by_cases h3 : k < len'
      . have h4 : ¬ k < 60 := fun h => hlt ⟨h3,h⟩
        clear hlt;go_wp2_with fail;go_meet
        case rel => exact ⟨ts,vT,vM,vP,HFIN.o⟩
      . clear hlt;go_wp2_with fail;go_meet
        case rel => exact ⟨ts,vT,vM,vP,HFIN.o⟩
  case rest =>
   obtain ⟨ts,vT,vM,vP,HR2⟩ := hcut;obtain ⟨W1,rfl⟩ : ∃ W : World,W=wc := ⟨_,rfl⟩;clear HR HK;have hS := HR2.o.2.2.sep;obtain ⟨aN,cN,rfl⟩ := hS.form 1 rfl;obtain ⟨aD,cD,rfl⟩ := hS.form 2 rfl;obtain ⟨aT,cT,rfl⟩ := hS.form 3 rfl;obtain ⟨aM,cM,rfl⟩ := hS.form 4 rfl;obtain ⟨aP,cP,rfl⟩ := hS.form 5 rfl;have et := hS.blk 6 rfl;have er := hS.blk 7 rfl;have t0 : W1.cell? ⟨w.heap.size + 1,0,none⟩=_ := et.cell 0;have t1 : W1.cell? ⟨w.heap.size + 1,1,none⟩=_ := et.cell 1;have t2 : W1.cell? ⟨w.heap.size + 1,2,none⟩=_ := et.cell 2;have t3 : W1.cell? ⟨w.heap.size + 1,3,none⟩=_ := et.cell 3;have t4 : W1.cell? ⟨w.heap.size + 1,4,none⟩=_ := et.cell 4;have t5 : W1.cell? ⟨w.heap.size + 1,5,none⟩=_ := et.cell 5;have z0 : W1.cell? ⟨w.heap.size,0,none⟩=_ := er.cell 0;have z1 : W1.cell? ⟨w.heap.size,1,none⟩=_ := er.cell 1;have z2 : W1.cell? ⟨w.heap.size,2,none⟩=_ := er.cell 2;have z3 : W1.cell? ⟨w.heap.size,3,none⟩=_ := er.cell 3;have z4 : W1.cell? ⟨w.heap.size,4,none⟩=_ := er.cell 4;have z5 : W1.cell? ⟨w.heap.size,5,none⟩=_ := er.cell 5;have y0 : W1.frozen? ⟨w.heap.size,0,none⟩=false := er.frozen 0;have y1 : W1.frozen? ⟨w.heap.size,1,none⟩=false := er.frozen 1;have y2 : W1.frozen? ⟨w.heap.size,2,none⟩=false := er.frozen 2;have y3 : W1.frozen? ⟨w.heap.size,3,none⟩=false := er.frozen 3;have y4 : W1.frozen? ⟨w.heap.size,4,none⟩=false := er.frozen 4;have y5 : W1.frozen? ⟨w.heap.size,5,none⟩=false := er.frozen 5;have HT := LH9 (HR2.o.2.2.tree.fin HR2.o.2.2.below);have HN : Hid (ts.length<=60/\∀ t ∈ ts,t.rk<=121) := ⟨HR2.o.1,HR2.o.2.1⟩;clear hS et er HR2;simp only [List.getElem?_toArray,List.getElem?_cons_zero,List.getElem?_cons_succ] at t0 t1 t2 t3 t4 t5 z0 z1 z2 z3 z4 z5;go_wp2_with fail;obtain ⟨m1,m2⟩ := HT.o;exact bodyPost_ret (by simp [results,Tryz.results8,go_sem,z0,z1,z2,z3,z4,z5]) rfl ⟨⟨es,ts,_,rfl,m1.less',HP.o.1,HN.o.1,HP.o.2,HN.o.2⟩,m2⟩
end
end Go.Proofs.YtmiinmndbkdjbaaGreat
