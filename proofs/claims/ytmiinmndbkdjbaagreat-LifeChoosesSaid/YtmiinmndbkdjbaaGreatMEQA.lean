/- A part of the proof: Rknd, Rfit, ChD, one behind another. -/
import Derived.Test.YtmiinmndbkdjbaaGreatMEA
import Derived.Test.YtmiinmndbkdjbaaGreatMEF
import Derived.Test.YtmiinmndbkdjbaaGreatMEK
import Derived.Test.YtmiinmndbkdjbaaGreatMEL
import Derived.Test.YtmiinmndbkdjbaaGreatMER
import Derived.Test.YtmiinmndbkdjbaaGreatMEZ
import Derived.Lib.Hide
import Derived.WalkKit
set_option maxRecDepth 100000
set_option maxHeartbeats 16000000
set_option linter.unusedVariables false
set_option linter.unusedSimpArgs false
namespace Go.Proofs.YtmiinmndbkdjbaaGreat
open Go.RowKit
section
theorem ar_le3 (op : Int) : ar op<=3 := by
 unfold ar
 repeat' split
 all_goals omega
theorem take_snoc {α : Type} {l : List α} {k : Nat} {x : α} (h : l[k]?=some x) : l.take (k + 1)=l.take k ++ [x] := by
 rw [List.take_add_one,h]; rfl
theorem rkOf_small {op : Int} {l : List Int} (h : op<=4) : rkOf op l=1 := by unfold rkOf; rw [if_pos h]
theorem rkOf_one {op : Int} {l : List Int} (h : ¬ op<=4) (h2 : op<=10\/op=20) : rkOf op l=if l.all (fun k => decide (k=1)) then 1 else 0 := by
 unfold rkOf;rw [if_neg h]
 cases hb : l.all (fun k => decide (k=1)) with
 | true => simp [h2]
 | false =>
   have h3 : ¬ (17<=op/\op<=19) := by omega
   have h4 : ¬ op=21 := by omega
   simp;rw [if_neg (by omega),if_neg (by omega)]
theorem rkOf_cmp {op : Int} {l : List Int} (h1 : 11<=op) (h2 : op<=16) : rkOf op l=if l.all (fun k => decide (k=1)) then 2 else 0 := by
 unfold rkOf;rw [if_neg (by omega),if_neg (by omega)]
 cases hb : l.all (fun k => decide (k=1)) with
 | true => simp [h1,h2]
 | false =>
   simp;rw [if_neg (by omega),if_neg (by omega)]
theorem rkOf_log {op : Int} {l : List Int} (h1 : 17<=op) (h2 : op<=19) : rkOf op l=if l.all (fun k => decide (k=2)) then 2 else 0 := by
 unfold rkOf;rw [if_neg (by omega),if_neg (by omega),if_neg (by omega)]
 cases hb : l.all (fun k => decide (k=2)) with
 | true => simp [h1,h2]
 | false =>
   simp;intro h; omega
theorem rkOf_if {l : List Int} : rkOf 21 l=if l.getD 0 0=2/\l.getD 1 0=l.getD 2 0 then l.getD 1 0 else 0 := by
 unfold rkOf;rw [if_neg (by omega),if_neg (by omega),if_neg (by omega),if_neg (by omega)];simp
theorem rkind_any : ∀ (r : Nat) (e : Ex),e.rk<=r->bE e=true->∀ (cs : List Value) (w : World),RepE w [] e cs ->
 Calls Tryz.prog 30 #[.agg cs.toArray] w fun x w' => x=.returned (.int .i64 (kE e))/\Below w.heap.size w w' := by
 intro r
 induction r with
 | zero => intro e h; have := e.rk_pos; omega
 | succ r ih =>
   intro e hr hb cs w hR;obtain ⟨op,no,nm,args,a,len,cap,rfl,rfl,i1,i2,i3,hS⟩ := hR.inv;obtain ⟨g1,-,g3⟩ := bE_inv hb;obtain ⟨f1,f2,f3⟩ := hS.facts;obtain ⟨o1,o2⟩ := ar_op (by omega : 0<=ar op);have HI : Hid (∀ (k : Nat) e1,args[k]?=some e1->∀ cs1 W,RepE W [] e1 cs1->Calls Tryz.prog 30 #[.agg cs1.toArray] W fun x w' => x=.returned (.int .i64 (kE e1))/\Below W.heap.size W w') := by
    exact Z7_149
   have hle : len<=3 := by have := ar_le3 op; omega
   have HBD : Hid (∀ x,I64 (kE x)) := fun x => by have := kE_bd x.rk x (Nat.le_refl _); unfold I64; omega
   have HKM : Hid (kE (.mk op no nm args)=rkOf op (args.map kE)) := by show _=_; rw [kE_mk,rkOf_eq (by rw [List.length_map]; exact g1)]
   have HL3 : Hid (op=21->len=3) := fun h => by subst h; rw [show ar 21=3 by decide] at g1; omega
   have HB0 := LH9 ((Below.refl w.heap.size w).alloc (Nat.le_refl _) (.cells #[.int .i64 op,.int .i64 no,.string nm,.slice a len cap] 74));have BX := LH9 (Mem.Blk.new w 74 #[.int .i64 op,.int .i64 no,.string nm,.slice a len cap]);have HSS := LH9 (hS.kept (Kept.of_below HB0.o []));have HL := LH9 f1;rw [HKM.o];clear ih hr hR hS i1 i2 i3 f1 g1 g3 hb HKM;generalize hRR : rkOf op (args.map kE)=R;have HR := LH9 hRR;clear hRR
   go_enter Tryz.func30,Tryz.ntmps30
   go_upto_region 1 with (fail);generalize w.alloc (.cells _ 74)=v at *;obtain ⟨c0,c1,c2,c3,-,-,-,-⟩ := blk4 BX.o;go_wp2_with fail
   go_loopw [3,4] (fun s i wr => ∃ (k : Nat) (csl : List (List Value)),i=.int .i64 (k : Nat)/\k<=len/\Hid (Below v.heap.size v wr)/\Hid (Gro i64K 3 v.heap.size wr [] ((args.take k).map kE) s csl)) (fun _ i _ => len - (intOf i).toNat)
   case atStart => exact ⟨0,[],rfl,Nat.zero_le _,Below.refl _ _,Gro.start _ _ (Nat.le_refl _) (fun b h => by cases h)⟩
   case round =>
    obtain ⟨k,csl,rfl,hk,HB,HG⟩ := hrel;have c0' := cu9 c0 HB.o;have c3' := cu9 c3 HB.o;have HSw := LH9 (HSS.o.kept (Kept.of_below HB.o []));clear c0 c1 c2 c3 HSS;by_cases hlt : k < len
    . obtain ⟨b,o,cop,cn,cnm,cargs,ca,clen,ccap,rfl,-,-,hxe,j1,j2,j3,hSc,v0,v1,v2,v3⟩ := HSw.o.at k hlt;have j1' : (k : Int) < (len : Int) := by omega
      have j0' : (0 : Int)<=(k : Int) := by omega
      have HXE := LH9 hxe;have HSC := LH9 (RepE.mk' j1 j2 j3 hSc);have HC := LH9 (HI.o k _ HXE.o _ _ HSC.o);have HTK := LH9 (show (args.take (k + 1)).map kE=(args.take k).map kE ++ [kE (Ex.mk cop cn cnm cargs)] by rw [take_snoc HXE.o,List.map_append]; rfl);have HLT := LH9 (show ((args.take k).map kE).length=k by rw [List.length_map,List.length_take,HL.o]; omega);have HXB := LH9 (HBD.o (Ex.mk cop cn cnm cargs));clear hxe j1 j2 j3 hSc HSC HXE HI;generalize kE (Ex.mk cop cn cnm cargs)=kc at *;generalize (args.take k).map kE=L at *;go_wp2_with fail;go_at_call 30;(with_reducible refine HC.o.mono ?_);rintro y w2 ⟨rfl,bb⟩;have HB2 := bt9 HB bb;have HG2 := LH9 ((HG.o.below bb).alloc (.cells #[.int .i64 kc] 3));have HBA := LH9 (HB2.o.alloc HB2.o.size (.cells #[.int .i64 kc] 3));clear bb HC HG v0 v1 v2 v3 c0' c3' HB;go_wp2_with (at_builtin; refine ap_row infoI Tryz.underlying30 rfl (by decide) rfl (.tmp 12) (.tmp 19) rfl rfl HG2.o.own HG2.o.room ⟨w2.heap.size,0,none⟩ 1 1 [.int .i64 kc] rfl rfl (lit_cells_at w2 #[.int .i64 kc] 3 _ rfl) (by simp [Value.oneCell']) (by have := HLT.o; unfold maxLen; omega) (by have := HLT.o; omega) ?_; intro v' w' o' g' h'; have HG3 := LH9 (HG2.o.push (cs := [.int .i64 kc]) ⟨rfl,HXB.o⟩ o' g' h'); have HB3 := LH9 (HBA.o.grown g' HBA.o.size (fun b hb => (own_lt HG2.o.own hb).1)); clear o' g' h');go_roundw
      case rel => exact ⟨k + 1,_,by go_num,by omega,HB3.o,by rw [HTK.o]; exact HG3.o⟩
      case measure => simp [intOf]; omega
    . have hk' : ¬ (k : Int) < (len : Int) := by omega
      obtain rfl : k=len := by omega
      obtain ⟨aL,cL,rfl,hSL⟩ := HG.o.slR;have hTK : (args.take k).map kE=args.map kE := by rw [List.take_of_length_le (by have := HL.o; omega)]
      rw [hTK] at hSL;have hln : (args.map kE).length=k := by rw [List.length_map,HL.o]
      rw [hTK];rw [hln] at hSL ⊢;have HSL := LH9 hSL;have HA := LH9 (fun q => all_any (args.map kE) aL k cL q wr HSL.o);have HF := bu9 HB0 HB;clear hTK HG hSL HSw HI HBD HL HB HB0;generalize args.map kE=L at *;by_cases h4 : op<=4
      . rw [rkOf_small h4] at HR;obtain rfl := HR.o;clear HR;go_wp2_with fail;go_ret;exact ⟨rfl,HF.o⟩
      . by_cases h10 : op<=10
        . rw [rkOf_one h4 (.inl h10)] at HR;have HA := LH9 (HA.o 1);generalize L.all (fun k => decide (k=1))=B at *;have h11 : ¬ 11<=op := by omega
          have h17 : ¬ 17<=op := by omega
          have h21 : (op == 21)=false := beq_eq_false_iff_ne.2 (by omega)
          cases B
          . exact Z7_70
          . exact Z7_73
        . by_cases h20 : op=20
          . subst h20;rw [rkOf_one h4 (.inr rfl)] at HR;have HA := LH9 (HA.o 1);generalize L.all (fun k => decide (k=1))=B at *
            cases B
            . exact Z7_70
            . exact Z7_73
          . have h20' : (op == 20)=false := beq_eq_false_iff_ne.2 h20;by_cases h16 : op<=16
            . have h11 : 11<=op := by omega
              rw [rkOf_cmp h11 h16] at HR;have HA := LH9 (HA.o 1);generalize L.all (fun k => decide (k=1))=B at *;have h17 : ¬ 17<=op := by omega
              have h21 : (op == 21)=false := beq_eq_false_iff_ne.2 (by omega)
              cases B
              . exact Z7_70
              . exact Z7_73
            . have h11 : 11<=op := by omega
              by_cases h21 : op=21
              . subst h21;obtain rfl := HL3.o rfl;rw [rkOf_if] at HR;obtain ⟨b,o,x0,cs0,rfl,-,-,hx0,⟨rfl,-⟩,-,hc0⟩ := HSL.o.at 0 (by omega);obtain ⟨b',o',x1,cs1,e1,-,-,hx1,⟨rfl,-⟩,-,hc1⟩ := HSL.o.at 1 (by omega);injection e1 with e1; injection e1 with e1 e2; subst e1; subst e2;obtain ⟨b',o',x2,cs2,e1,-,-,hx2,⟨rfl,-⟩,-,hc2⟩ := HSL.o.at 2 (by omega);injection e1 with e1; injection e1 with e1 e2; subst e1; subst e2;have u0 : wr.cell? ⟨b,o,none⟩=some (.int .i64 x0) := by have := hc0 0 _ rfl; simpa [i64K] using this
                have u1 : wr.cell? ⟨b,o + 1,none⟩=some (.int .i64 x1) := by have := hc1 0 _ rfl; simpa [i64K] using this
                have u2 : wr.cell? ⟨b,o + 2,none⟩=some (.int .i64 x2) := by have := hc2 0 _ rfl; simpa [i64K] using this
                have e0 : L.getD 0 0=x0 := by rw [List.getD_eq_getElem?_getD,hx0]; rfl
                have e1 : L.getD 1 0=x1 := by rw [List.getD_eq_getElem?_getD,hx1]; rfl
                have e2 : L.getD 2 0=x2 := by rw [List.getD_eq_getElem?_getD,hx2]; rfl
                rw [e0,e1,e2] at HR;clear hc0 hc1 hc2 e0 e1 e2 hx0 hx1 hx2 HSL HA h4 h10 h16 h11 h20;by_cases hk0 : x0=2
                . subst hk0;by_cases hk1 : x1=x2
                  . subst hk1;rw [if_pos ⟨rfl,rfl⟩] at HR;exact Z7_119
                  . have hk1' : (x1 == x2)=false := beq_eq_false_iff_ne.2 hk1;rw [if_neg (fun h => hk1 h.2)] at HR;exact Z7_119
                . have hk0' : (x0 == 2)=false := beq_eq_false_iff_ne.2 hk0;rw [if_neg (fun h => hk0 h.1)] at HR;exact Z7_119
              . have h19 : op<=19 := by omega
                have h17 : 17<=op := by omega
                have h21 : (op == 21)=false := beq_eq_false_iff_ne.2 h21;rw [rkOf_log h17 h19] at HR;have HA := LH9 (HA.o 2);generalize L.all (fun k => decide (k=2))=B at *
                cases B
                . exact Z7_70
                . exact Z7_73
end
section
theorem arX_le1 (op : Int) : arX op<=1 := by
 unfold arX
 repeat' split
 all_goals omega
theorem rfits_any : ∀ (r : Nat) (e : Te),e.rk<=r->bT e=true->∀ (cs : List Value) (w : World),RepT w [] e cs ->
 Calls Tryz.prog 12 #[.agg cs.toArray] w fun x w' => x=.returned (.bool (fitT e))/\Below w.heap.size w w' := by
 intro r
 induction r with
 | zero => intro e h; have := e.rk_pos; omega
 | succ r ih =>
   intro e hr hb cs w hR;obtain ⟨op,nm,exprs,terms,a,len,cap,a2,len2,cap2,rfl,rfl,i1,i3,hS,hS2⟩ := hR.inv;obtain ⟨g1,-,-,g4,g5⟩ := bT_inv hb;obtain ⟨f1,f2,f3⟩ := hS.facts;obtain ⟨f4,f5,f6⟩ := hS2.facts;have hlen1 : len<=1 := by have := arX_le1 op; omega
   have HI : Hid (∀ (k : Nat) e1,terms[k]?=some e1->∀ cs1 W,RepT W [] e1 cs1->Calls Tryz.prog 12 #[.agg cs1.toArray] W fun x w' => x=.returned (.bool (fitT e1))/\Below W.heap.size W w') := by
    exact Z7_147
   have HK : Hid (∀ (k : Nat) e1,exprs[k]?=some e1->∀ cs1 W,RepE W [] e1 cs1->Calls Tryz.prog 30 #[.agg cs1.toArray] W fun x w' => x=.returned (.int .i64 (kE e1))/\Below W.heap.size W w') := by
    intro k e1 hk cs1 W hR1;exact rkind_any e1.rk e1 (Nat.le_refl _) (g4 e1 (List.mem_of_getElem? hk)) cs1 W hR1
   have HNX := LH9 (fun (j : Nat) c (h : exprs[j]?=some c) (hne : kE c ≠ needT op) => fitT_noX (nm := nm) (l := terms) h hne);have HNT := LH9 (fun (j : Nat) c (h : terms[j]?=some c) (hne : fitT c=false) => fitT_noT (op := op) (nm := nm) (x := exprs) h hne);have HY := LH9 (fun (h1 : ∀ (j : Nat) c,exprs[j]?=some c->kE c=needT op) (h2 : ∀ (j : Nat) c,terms[j]?=some c->fitT c=true) => fitT_yes (nm := nm) h1 h2);have HND : Hid (needT op=if op=6 then 1 else 2) := rfl;have HB0 := LH9 ((Below.refl w.heap.size w).alloc (Nat.le_refl _) (.cells #[.int .i64 op,.string nm,.slice a len cap,.slice a2 len2 cap2] 41));have BX := LH9 (Mem.Blk.new w 41 #[.int .i64 op,.string nm,.slice a len cap,.slice a2 len2 cap2]);have HSS := LH9 (hS.kept (Kept.of_below HB0.o []));have HST := LH9 (hS2.kept (Kept.of_below HB0.o []));have HL := LH9 f1;have HL2 := LH9 f4;clear ih hr hR hS hS2 i1 i3 f1 f4 g1 g4 g5 hb;generalize fitT (.mk op nm exprs terms)=R at *;generalize needT op=nd at *
   go_enter Tryz.func12,Tryz.ntmps12
   go_upto_region 1 with (fail);generalize w.alloc (.cells _ 41)=v at *;obtain ⟨c0,c1,c2,c3,-,-,-,-⟩ := blk4 BX.o;by_cases hl : len=1
   . have hl' : ((len : Int) == 1)=true := by rw [hl]; rfl
     obtain ⟨b,o,cop,cn,cnm,cargs,ca,clen,ccap,rfl,-,-,hxe,j1,j2,j3,hSc,v0,v1,v2,v3⟩ := HSS.o.at 0 (by omega);rw [Nat.zero_mul,Nat.add_zero] at v0 v1 v2 v3;have HC := LH9 (HK.o 0 _ hxe _ v (RepE.mk' j1 j2 j3 hSc));have HX3 := LH9 (fun h => HNX.o 0 _ hxe h);have HX2 : Hid (kE (Ex.mk cop cn cnm cargs)=nd->∀ (j : Nat) c,exprs[j]?=some c->kE c=nd) := fun h j c hc => by
      have hj : j=0 := by have := (List.getElem?_eq_some_iff.1 hc).1; have := HL.o; omega
      subst hj;rw [hxe] at hc;injection hc with hc;rw [<- hc]; exact h
     have j0 : (0 : Int) < (len : Int) := by omega
     have HLE := LH9 hl;clear hxe j1 j2 j3 hSc HK HNX hl;generalize kE (Ex.mk cop cn cnm cargs)=kc at *;go_wp2_with fail;go_at_call 30;(with_reducible refine HC.o.mono ?_);rintro y w1 ⟨rfl,b1⟩;have HW1 := LH9 b1;clear b1 HC c0 c1 c2 c3 v0 v1 v2 v3;obtain ⟨c0,c1,c2,c3,-,-,-,-⟩ := blk4 (BX.o.below HW1.o);by_cases hkn : kc=nd
     . have HX := LH9 (HX2.o hkn);by_cases h6 : op=6
       . have hk1 : kc=1 := by rw [hkn,HND.o,if_pos h6]
         have h6' : (op == 6)=true := by rw [h6]; rfl
         have hk' : (kc == 1)=true := by rw [hk1]; rfl
         have hk'' : (kc != 1)=false := by rw [hk1]; rfl
         have h6'' : (op != 6)=false := by rw [h6]; rfl
         clear hkn hk1 h6 HX2 HX3 HND;exact Z7_22
       . have hk1 : kc=2 := by rw [hkn,HND.o,if_neg h6]
         have h6' : (op == 6)=false := beq_eq_false_iff_ne.2 h6;have h6'' : (op != 6)=true := by simp [bne,h6']
         have hk' : (kc == 2)=true := by rw [hk1]; rfl
         have hk'' : (kc != 2)=false := by rw [hk1]; rfl
         clear hkn hk1 h6 HX2 HX3 HND;exact Z7_22
     . have hR : R=false := HX3.o hkn;by_cases h6 : op=6
       . have hk1 : kc ≠ 1 := fun h => hkn (by rw [h,HND.o,if_pos h6])
         have h6' : (op == 6)=true := by rw [h6]; rfl
         have hk' : (kc == 1)=false := beq_eq_false_iff_ne.2 hk1;have hk'' : (kc != 1)=true := by simp [bne,hk']
         exact Z7_161
       . have hk1 : kc ≠ 2 := fun h => hkn (by rw [h,HND.o,if_neg h6])
         have h6' : (op == 6)=false := beq_eq_false_iff_ne.2 h6;have h6'' : (op != 6)=true := by simp [bne,h6']
         have hk' : (kc == 2)=false := beq_eq_false_iff_ne.2 hk1;have hk'' : (kc != 2)=true := by simp [bne,hk']
         exact Z7_161
   . have hl' : ((len : Int) == 1)=false := beq_eq_false_iff_ne.2 (by omega);have HX : Hid (∀ (j : Nat) c,exprs[j]?=some c->kE c=nd) := fun j c hc => by
      have := (List.getElem?_eq_some_iff.1 hc).1; have := HL.o; omega
     have HW1 : Hid (Below v.heap.size v v) := Below.refl _ _;clear HK HNX hl HND;exact Z7_22
end
section
def PrtB (p : Prt) : Prop := rT p.term=true/\∀ e ∈ p.til,rE e=true
theorem ndL_bd {l : List Prt} (h : ∀ p ∈ l,PrtB p) : ndL l<=200 * l.length := by
 induction l with
 | nil => simp [ndL]
 | cons p t ih =>
   have h1 := (rT_get (h p (List.mem_cons_self ..)).1).1;have h2 := ih (fun q hq => h q (List.mem_cons_of_mem _ hq));rw [ndL,List.length_cons]; omega
theorem rE_get {e : Ex} (h : rE e=true) : e.nd<=200/\e.rk<=16/\bE e=true := by
 have e2 : rE e=(decide (e.nd<=200/\e.rk<=16) && bE e) := rfl;rw [e2,Bool.and_eq_true,decide_eq_true_eq] at h;exact ⟨h.1.1,h.1.2,h.2⟩
theorem part_of {p : Prt} (h : PrtB p) (hl : lastB p.term.op=true) (hf : fitT p.term=true) (h16 : p.til.length<=16) (hk : ∀ e ∈ p.til,kE e=2) : partB p=true := by
 unfold partB;have h1 : fitC p.term=0 := by unfold fitC; rw [h.1,hf]; rfl
 have h2 : (p.til.any fun e => kI e != 2)=false := by
  rw [List.any_eq_false]; intro e he;have : kI e=kE e := by unfold kI; rw [if_pos (h.2 e he)]
  rw [this,hk e he]; decide
 rw [hl,decide_eq_true h1,decide_eq_true h16,h2]; rfl
theorem part_noL {p : Prt} (hl : lastB p.term.op=false) : partB p=false := by unfold partB; rw [hl]; rfl
theorem part_noF {p : Prt} (h : PrtB p) (hf : fitT p.term=false) : partB p=false := by
 unfold partB;have h1 : fitC p.term=12 := by unfold fitC; rw [h.1,hf]; rfl
 rw [h1]; simp
theorem part_no16 {p : Prt} (h : 16 < p.til.length) : partB p=false := by unfold partB; rw [decide_eq_false (Nat.not_le.2 h)]; simp
theorem part_noK {p : Prt} (h : PrtB p) {e : Ex} (he : e ∈ p.til) (hk : kE e ≠ 2) : partB p=false := by
 unfold partB;have h2 : (p.til.any fun e => kI e != 2)=true := by
  rw [List.any_eq_true];refine ⟨e,he,?_⟩;have : kI e=kE e := by unfold kI; rw [if_pos (h.2 e he)]
  rw [this]; simpa using hk
 rw [h2]; simp
theorem rright_any (l : List Prt) (a : Option Addr) (len cap : Nat) (w : World) (hS : SlR ptK w [] l a len cap) (hk : ∀ p ∈ l,PrtB p) (hlen : len<=1000) :
 Calls Tryz.prog 19 #[.slice a len cap] w fun x w' => x=.returned (.bool (rightP l))/\Below w.heap.size w w' := by
 have HS := LH9 hS;have HL := LH9 hS.facts.1;have HK := LH9 hk;have HLN := LH9 hlen;obtain ⟨RP,hRP⟩ : ∃ R,R=rightP l := ⟨_,rfl⟩;rw [<- hRP];have HRP := LH9 hRP;clear hS hk hlen hRP
 go_enter Tryz.func19,Tryz.ntmps19
 go_wp2_with fail
 go_loopw [3,4] (fun v i wr => ∃ (k : Nat),v=.int .i64 ((ndL (l.take k) : Nat) : Int)/\i=.int .i64 (k : Nat)/\k<=len/\Hid (Below w.heap.size w wr)/\Hid ((l.take k).all partB=true)) (fun _ i _ => len - (intOf i).toNat)
 case atStart => exact ⟨0,rfl,rfl,Nat.zero_le _,Below.refl _ _,rfl⟩
 case round =>
  rename World => w3
  obtain ⟨k,rfl,rfl,hk,HB,HI⟩ := hrel;by_cases hlt : k < len
  . have hlt' : (k : Int) < (len : Int) := by omega
    have k0 : (0 : Int)<=(k : Int) := by omega
    have k1 : (k : Int)<=1000 := by have := HLN.o; omega
    obtain ⟨b,o,p,ua,uc,op,nm,xa,xl,xc,ta,tl,tc,rfl,-,-,hp,hop,hf,hU,hT,g0,g1,g2,g3,g4,g5,g6⟩ := pt_at (HS.o.kept (Kept.of_below HB.o [])) k hlt;have hpb := HK.o p (List.mem_of_getElem? hp);have HPB := LH9 hpb;have HTK := LH9 (ndL_take hp);have HNO := LH9 (fun h => HRP.o.trans (rightP_no hp h));have hop9 := (te_kids (rT_get hpb.1).2.2).2.2.2;have HOP := LH9 hop;have HOK : Hid (1<=op/\op<=9) := by show _/\_; rw [hop]; exact hop9
    have hbd : ndL (l.take k)<=200000 := by
     have h1 := ndL_bd (l := l.take k) (fun q hq => HK.o q (List.mem_of_mem_take hq));rw [List.length_take] at h1;have := HLN.o;omega
    have HFT := LH9 (fun W (hW : Below w3.heap.size w3 W) => rfits_any p.term.rk p.term (Nat.le_refl _) (rT_get hpb.1).2.2 _ W (hT.kept (Kept.of_below hW [])));have HSZ := LH9 (fun W (hW : Below w3.heap.size w3 W) => rsizeT_any p.term.rk p.term (Nat.le_refl _) (by have := (rT_get hpb.1).1; omega) _ W (hT.kept (Kept.of_below hW [])));have HND : Hid (p.term.nd<=200/\p.term.rk<=16) := ⟨(rT_get hpb.1).1,(rT_get hpb.1).2.1⟩;have HLT := LH9 hlt;have HU := LH9 hU;have HTK2 : Hid (ndL (l.take (k + 1))=ndL (l.take k) + p.term.nd) := HTK.o.2;have HAL : Hid (partB p=true->(l.take (k + 1)).all partB=true) := fun h => by
     rw [HTK.o.1,List.all_append,HI.o];simp [h]
    have hul : p.til.length<=9223372036854775807 := by have := hU.facts; omega
    generalize p.factor=pf at *;generalize p.turned=pt at *;generalize p.term.nd=ND at *;generalize p.term.rk=RK at *;generalize ndL (l.take k)=A at *;have s0 : (0 : Int)<=(A : Int) + (ND : Int) := by omega
    have s1 : (A : Int) + (ND : Int)<=1000000 := by have := HND.o; omega
    have HC := LH9 (And.intro g0 (And.intro g1 (And.intro g2 (And.intro g3 (And.intro g4 (And.intro g5 g6))))));clear hpb hp hop hf hU hT hop9 hbd hlt HTK
    cases hlb : lastB op with
    | false =>
      have HF := LH9 (HNO.o (part_noL (by rw [<- HOP.o]; exact hlb)));have h9 : op < 5\/op=8 := by
       unfold lastB at hlb;rw [decide_eq_false_iff_not] at hlb;have := HOK.o;omega
      clear hlb;rcases h9 with h | h
      . go_wp2_with fail;go_ret;exact ⟨by rw [HF.o]; rfl,HB.o⟩
      . subst h;go_wp2_with fail;go_ret;exact ⟨by rw [HF.o]; rfl,HB.o⟩
    | true =>
      have h9 : ¬ op < 5/\op ≠ 8/\¬ 9 < op := by
       unfold lastB at hlb;rw [decide_eq_true_eq] at hlb;omega
      obtain ⟨o5,o8,o9⟩ := h9;have o8' : (op == 8)=false := beq_eq_false_iff_ne.2 o8;have HLB : Hid (lastB p.term.op=true) := by show _=_; rw [<- HOP.o]; exact hlb
      clear o8 hlb;go_upto_region 6 with (fail);go_wp2_with fail;go_at_call 12;(with_reducible refine (HFT.o _ (Below.refl _ _)).mono ?_);rintro y w4 ⟨rfl,b4⟩;have HB4 := bt9 HB b4;replace g0 := cu9 g0 b4;replace g1 := cu9 g1 b4;replace g2 := cu9 g2 b4;replace g3 := cu9 g3 b4;replace g4 := cu9 g4 b4;replace g5 := cu9 g5 b4;replace g6 := cu9 g6 b4;have HW4 := LH9 b4;clear b4 HFT
      cases hft : fitT p.term with
      | false =>
        have HF := LH9 (HNO.o (part_noF HPB.o hft));clear hft;go_wp2_with fail;go_ret;exact ⟨by rw [HF.o]; rfl,HB4.o⟩
      | true =>
        have HFI := LH9 hft;clear hft;by_cases h16 : p.til.length<=16
        . have hu : ¬ (16 : Int) < (p.til.length : Int) := by omega
          have H16 := LH9 h16;clear h16;go_wp2_with fail;clear hu
          go_loopw [6] (fun j wq => ∃ (q : Nat),j=.int .i64 (q : Nat)/\q<=p.til.length/\Hid (Below w3.heap.size w3 wq)/\Hid (∀ e ∈ p.til.take q,kE e=2)) (fun j _ => p.til.length - (intOf j).toNat)
          case atStart => exact ⟨0,rfl,Nat.zero_le _,HW4.o,fun e he => by simp at he⟩
          case round =>
           clear g0 g1 g2 g3 g4 g5 g6 HW4 HB4;rename World => w5
           obtain ⟨q,rfl,hq,HW5,HJ⟩ := hrel;have HB5 := bu9 HB HW5;obtain ⟨g0,g1,g2,g3,g4,g5,g6⟩ := HC.o;replace g0 := cu9 g0 HW5.o;replace g1 := cu9 g1 HW5.o;replace g2 := cu9 g2 HW5.o;replace g3 := cu9 g3 HW5.o;replace g4 := cu9 g4 HW5.o;replace g5 := cu9 g5 HW5.o;replace g6 := cu9 g6 HW5.o;by_cases hqt : q < p.til.length
           . have hqt' : (q : Int) < (p.til.length : Int) := by omega
             have q0 : (0 : Int)<=(q : Int) := by omega
             have q1 : (q : Int)<=1000 := by have := H16.o; omega
             obtain ⟨xb,xo_,e9,xo,xn,xs,aa,al,ac,rfl,hx,hRX,x0,x1,x2,x3⟩ := ex_at9 (HU.o.kept (Kept.of_below HW5.o [])) q hqt;have hre := HPB.o.2 e9 (List.mem_of_getElem? hx);have HKC := LH9 (rkind_any e9.rk e9 (Nat.le_refl _) (rE_get hre).2.2 _ w5 hRX);have HNK := LH9 (fun h => HNO.o (part_noK HPB.o (List.mem_of_getElem? hx) h));have hmm : ∀ e ∈ p.til.take (q + 1),e ∈ p.til.take q\/e=e9 := fun e he => by
              obtain ⟨hh,hee⟩ := List.getElem?_eq_some_iff.1 hx;rw [<- List.take_append_getElem hh,hee] at he
              simpa using he
             have HMM := LH9 hmm;have HQT := LH9 hqt;generalize hk9 : kE e9=K9 at *;have HK9 := LH9 hk9;clear hx hRX hre hmm hqt hk9;go_wp2_with fail;go_at_call 30;(with_reducible refine HKC.o.mono ?_);rintro y w6 ⟨rfl,b6⟩;have HB6 := bt9 HB5 b6;have HW6 := bt9 HW5 b6;clear b6 HKC g0 g1 g2 g3 g4 g5 g6 x0 x1 x2 x3;by_cases h2 : K9=2
             . have h2' : (K9 != 2)=false := by rw [h2]; rfl
               have HJ2 : Hid (∀ e ∈ p.til.take (q + 1),kE e=2) := fun e he => by
                rcases HMM.o e he with h | rfl
                . exact HJ.o e h
                . rw [HK9.o,h2]
               clear h2;go_wp2_with fail;go_roundw
               case rel => exact ⟨q + 1,by go_num,by have := HQT.o; omega,HW6.o,HJ2.o⟩
               case measure => simp [intOf]; have := HQT.o; omega
             . have h2' : (K9 != 2)=true := bne_iff_ne.2 h2;have HF := LH9 (HNK.o h2);clear h2;go_wp2_with fail;go_ret;exact ⟨by rw [HF.o]; rfl,HB6.o⟩
           . have hqt' : ¬ (q : Int) < (p.til.length : Int) := by omega
             obtain rfl : q=p.til.length := by omega
             have HPT := LH9 (HAL.o (part_of HPB.o HLB.o HFI.o H16.o (fun e he => HJ.o e (by rw [List.take_length]; exact he))));clear hqt;go_wp2_with fail;go_at_call 40;(with_reducible refine (HSZ.o _ HW5.o).mono ?_);rintro y w6 ⟨rfl,b6⟩;have HB6 := bt9 HB5 b6;clear b6 HSZ g0 g1 g2 g3 g4 g5 g6;unfold SzR;go_wp2_with fail;go_roundw
             case rel => exact ⟨k + 1,by rw [HTK2.o]; go_num,by go_num,by have := HLT.o; omega,HB6.o,HPT.o⟩
             case measure => simp [intOf]; have := HLT.o; omega
        . have hu : (16 : Int) < (p.til.length : Int) := by omega
          have HF := LH9 (HNO.o (part_no16 (by omega)));clear h16;go_wp2_with fail;go_ret;exact ⟨by rw [HF.o]; rfl,HB4.o⟩
  . have hlt' : ¬ (k : Int) < (len : Int) := by omega
    obtain rfl : k=len := by omega
    have e : l.take k=l := List.take_of_length_le (by rw [HL.o]; omega);rw [e] at HI ⊢;have hrp := HRP.o;unfold rightP at hrp;rw [HI.o,Bool.true_and] at hrp;by_cases h2 : ndL l<=200
    . have h3 : (ndL l : Int)<=200 := by omega
      rw [decide_eq_true h2] at hrp;exact Z7_160
    . have h3 : ¬ (ndL l : Int)<=200 := by omega
      rw [decide_eq_false h2] at hrp;exact Z7_160
end
end Go.Proofs.YtmiinmndbkdjbaaGreat
