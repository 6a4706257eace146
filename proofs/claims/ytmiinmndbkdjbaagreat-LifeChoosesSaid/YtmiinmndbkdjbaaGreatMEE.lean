/- A part of the proof: Kind, Erl, BuildA, RefB, one behind another. -/
import Derived.Test.YtmiinmndbkdjbaaGreatMEA
import Derived.Test.YtmiinmndbkdjbaaGreatMEB
import Derived.Test.YtmiinmndbkdjbaaGreatMEC
import Derived.Test.YtmiinmndbkdjbaaGreatMED
import Derived.Deep.DeepCutAuto
import Derived.Deep.CutBlock
import Derived.Lib.Hide
import Derived.WalkKit
set_option maxRecDepth 100000
set_option maxHeartbeats 16000000
set_option linter.unusedVariables false
set_option linter.unusedSimpArgs false
namespace Go.Proofs.YtmiinmndbkdjbaaGreat
open Go.RowKit
section
theorem operands_any (op : Int) (w : World) : Calls Tryz.prog 107 #[.int .i64 op] w fun e w' => e=.returned (.tuple #[.int .i64 (needK op),.int .i64 (isK op)])/\w=w' := by
 have HF : Hid (∀ x y,needK op=x->isK op=y->Ending.returned (.tuple #[.int .i64 x,.int .i64 y])=.returned (.tuple #[.int .i64 (needK op),.int .i64 (isK op)])) := fun x y h h' => by rw [h,h']
 have HN := LH9 (show needK op=if (5<=op/\op<=10)\/op=20 then 1 else if 11<=op/\op<=16 then 1 else if op=17\/op=18\/op=19 then 2 else 0 from rfl);have HI := LH9 (show isK op=if (5<=op/\op<=10)\/op=20 then 1 else if 11<=op/\op<=16 then 2 else if op=17\/op=18\/op=19 then 2 else 1 from rfl);by_cases h1 : 5<=op
 . by_cases h2 : op<=10
   . have e1 : needK op=1 := by rw [HN.o,if_pos (.inl ⟨h1,h2⟩)]
     have e2 : isK op=1 := by rw [HI.o,if_pos (.inl ⟨h1,h2⟩)]
     exact Z7_67
   . by_cases h20 : op=20
     . subst h20;have e1 : needK 20=1 := rfl;have e2 : isK 20=1 := rfl;exact Z7_67
     . have h20' : (op == 20)=false := beq_eq_false_iff_ne.2 h20;have n1 : ¬ ((5<=op/\op<=10)\/op=20) := by omega
       by_cases h16 : op<=16
       . have h11 : 11<=op := by omega
         have e1 : needK op=1 := by rw [HN.o,if_neg n1,if_pos ⟨h11,h16⟩]
         have e2 : isK op=2 := by rw [HI.o,if_neg n1,if_pos ⟨h11,h16⟩]
         clear n1;exact Z7_67
       . have n2 : ¬ (11<=op/\op<=16) := by omega
         have h11 : 11<=op := by omega
         by_cases h17 : op=17
         . subst h17;have e1 : needK 17=2 := rfl;have e2 : isK 17=2 := rfl;clear n1 n2;exact Z7_67
         . by_cases h18 : op=18
           . subst h18;have e1 : needK 18=2 := rfl;have e2 : isK 18=2 := rfl;clear n1 n2;exact Z7_67
           . by_cases h19 : op=19
             . subst h19;have e1 : needK 19=2 := rfl;have e2 : isK 19=2 := rfl;clear n1 n2;exact Z7_67
             . have n3 : ¬ (op=17\/op=18\/op=19) := by omega
               have e1 : needK op=0 := by rw [HN.o,if_neg n1,if_neg n2,if_neg n3]
               have e2 : isK op=1 := by rw [HI.o,if_neg n1,if_neg n2,if_neg n3]
               have h17' : (op == 17)=false := beq_eq_false_iff_ne.2 h17;have h18' : (op == 18)=false := beq_eq_false_iff_ne.2 h18;have h19' : (op == 19)=false := beq_eq_false_iff_ne.2 h19;clear n1 n2 n3;exact Z7_67
 . have h20 : ¬ op=20 := by omega
   have h20' : (op == 20)=false := beq_eq_false_iff_ne.2 h20;have h11 : ¬ 11<=op := by omega
   have h17 : ¬ op=17 := by omega
   have h18 : ¬ op=18 := by omega
   have h19 : ¬ op=19 := by omega
   have e1 : needK op=0 := by rw [HN.o,if_neg (by omega),if_neg (by omega),if_neg (by omega)]
   have e2 : isK op=1 := by rw [HI.o,if_neg (by omega),if_neg (by omega),if_neg (by omega)]
   have h17' : (op == 17)=false := beq_eq_false_iff_ne.2 h17;have h18' : (op == 18)=false := beq_eq_false_iff_ne.2 h18;have h19' : (op == 19)=false := beq_eq_false_iff_ne.2 h19;exact Z7_67
theorem kOf_no {op : Int} {l : List Int} {j : Nat} {x : Int} (h21 : op ≠ 21) (hx : l[j]?=some x) (hne : x ≠ needK op) : kOf op l=0 := by
 unfold kOf;rw [if_neg h21,if_neg];intro h;have := List.all_eq_true.1 h x (List.mem_of_getElem? hx);exact hne (by simpa using this)
theorem kOf_yes {op : Int} {l : List Int} (h21 : op ≠ 21) (h : ∀ (j : Nat) x,l[j]?=some x->x=needK op) : kOf op l=isK op := by
 unfold kOf;rw [if_neg h21,if_pos];rw [List.all_eq_true];intro x hx;obtain ⟨j,hj⟩ := List.getElem?_of_mem hx
 simpa using h j x hj
theorem kind_any : ∀ (r : Nat) (e : Ex),e.rk<=r->bE e=true->∀ (cs : List Value) (w : World),RepE w [] e cs ->
 Calls Tryz.prog 83 #[.agg cs.toArray] w fun x w' => x=.returned (.int .i64 (kE e))/\Below w.heap.size w w' := by
 intro r
 induction r with
 | zero => intro e h; have := e.rk_pos; omega
 | succ r ih =>
   intro e hr hb cs w hR;obtain ⟨op,no,nm,args,a,len,cap,rfl,rfl,i1,i2,i3,hS⟩ := hR.inv;obtain ⟨g1,-,g3⟩ := bE_inv hb;obtain ⟨f1,f2,f3⟩ := hS.facts;have HI : Hid (∀ (k : Nat) e1,args[k]?=some e1->∀ cs1 W,RepE W [] e1 cs1->Calls Tryz.prog 83 #[.agg cs1.toArray] W fun x w' => x=.returned (.int .i64 (kE e1))/\Below W.heap.size W w') := by
    exact Z7_149
   have HKM := LH9 (kE_mk op no nm args);have HB0 := LH9 ((Below.refl w.heap.size w).alloc (Nat.le_refl _) (.cells #[.int .i64 op,.int .i64 no,.string nm,.slice a len cap] 74));have BX := LH9 (Mem.Blk.new w 74 #[.int .i64 op,.int .i64 no,.string nm,.slice a len cap]);have HSS := LH9 hS;have HL := LH9 f1;have HG := LH9 g1;rw [HKM.o];clear ih hr hR hS i1 i2 i3 f1 g1 g3 hb;by_cases h21 : op=21
   . subst h21;have hl3 : args.length=3 := by have h := HG.o; rw [show ar 21=3 by decide] at h; omega
     obtain ⟨x0,x1,x2,rfl⟩ : ∃ x0 x1 x2,args=[x0,x1,x2] := by
      match args,hl3 with
      | [x0,x1,x2],_ => exact ⟨x0,x1,x2,rfl⟩
     obtain rfl : len=3 := by have h := HL.o; simp at h; omega
     have HKO : Hid (kOf 21 ([x0,x1,x2].map kE)=if kE x0=2/\kE x1=kE x2 then kE x1 else 0) := by show _=_; unfold kOf; rw [if_pos rfl]; rfl
     generalize kOf 21 ([x0,x1,x2].map kE)=R at HKO ⊢
     go_enter Tryz.func83,Tryz.ntmps83
     go_upto_region 1 with (fail);generalize w.alloc (.cells _ 74)=v at *;obtain ⟨c0,c1,c2,c3,-,-,-,-⟩ := blk4 BX.o;have hSv := HSS.o.kept (Kept.of_below HB0.o []);obtain ⟨b,o,o0,n0,m0,ar0,a0,l0,p0,rfl,-,-,hx0,k1,k2,k3,hS0,u0,u1,u2,u3⟩ := hSv.at 0 (by omega);obtain ⟨b',o',o1,n1,m1,ar1,a1,l1,p1,e1,-,-,hx1,k4,k5,k6,hS1,t0,t1,t2,t3⟩ := hSv.at 1 (by omega);injection e1 with e1; injection e1 with e1 e2; subst e1; subst e2;obtain ⟨b',o',o2,n2,m2,ar2,a2,l2,p2,e1,-,-,hx2,k7,k8,k9,hS2,q0,q1,q2,q3⟩ := hSv.at 2 (by omega);injection e1 with e1; injection e1 with e1 e2; subst e1; subst e2;simp at hx0 hx1 hx2;subst hx0; subst hx1; subst hx2;have HR0 := LH9 (RepE.mk' k1 k2 k3 hS0);have HR1 := LH9 (RepE.mk' k4 k5 k6 hS1);have HR2 := LH9 (RepE.mk' k7 k8 k9 hS2);rw [Nat.zero_mul,Nat.add_zero] at u0 u1 u2 u3;rw [Nat.one_mul] at t0 t1 t2 t3;rw [show 2 * 4=8 from rfl] at q0 q1 q2 q3;clear k1 k2 k3 k4 k5 k6 k7 k8 k9 hS0 hS1 hS2 hSv;have HC0 := LH9 (fun W (hW : Below v.heap.size v W) => HI.o 0 _ rfl _ W (HR0.o.kept (Kept.of_below hW [])));have HC1 := LH9 (fun W (hW : Below v.heap.size v W) => HI.o 1 _ rfl _ W (HR1.o.kept (Kept.of_below hW [])));have HC2 := LH9 (fun W (hW : Below v.heap.size v W) => HI.o 2 _ rfl _ W (HR2.o.kept (Kept.of_below hW [])));clear HI HR0 HR1 HR2 HKM HSS HL HG hl3;generalize kE (Ex.mk o0 n0 m0 ar0)=K0 at *;generalize kE (Ex.mk o1 n1 m1 ar1)=K1 at *;generalize kE (Ex.mk o2 n2 m2 ar2)=K2 at *;go_wp2_with fail;refine wp_region_till (S := fun W => W.cell? ⟨w.heap.size,3,none⟩=some (.slice (some ⟨b,o,none⟩) 3 cap)/\(W.cell? ⟨b,o,none⟩=some (.int .i64 o0)/\W.cell? ⟨b,o + 1,none⟩=some (.int .i64 n0)/\W.cell? ⟨b,o + 2,none⟩=some (.string m0)/\W.cell? ⟨b,o + 3,none⟩=some (.slice a0 l0 p0)) /\
      (W.cell? ⟨b,o + 4,none⟩=some (.int .i64 o1)/\W.cell? ⟨b,o + 4 + 1,none⟩=some (.int .i64 n1)/\W.cell? ⟨b,o + 4 + 2,none⟩=some (.string m1)/\W.cell? ⟨b,o + 4 + 3,none⟩=some (.slice a1 l1 p1)) /\
      W.cell? ⟨b,o + 8,none⟩=some (.int .i64 o2)/\W.cell? ⟨b,o + 8 + 1,none⟩=some (.int .i64 n2)/\W.cell? ⟨b,o + 8 + 2,none⟩=some (.string m2)/\W.cell? ⟨b,o + 8 + 3,none⟩=some (.slice a2 l2 p2)) 17 (by kernel_rfl) ?_
     refine tk 0 ⟨c3,⟨u0,u1,u2,u3⟩,⟨t0,t1,t2,t3⟩,q0,q1,q2,q3⟩ ?_;refine tk 1 ⟨c3,⟨u0,u1,u2,u3⟩,⟨t0,t1,t2,t3⟩,q0,q1,q2,q3⟩ ?_;refine tk 2 ⟨c3,⟨u0,u1,u2,u3⟩,⟨t0,t1,t2,t3⟩,q0,q1,q2,q3⟩ ?_;refine tk 3 ⟨c3,⟨u0,u1,u2,u3⟩,⟨t0,t1,t2,t3⟩,q0,q1,q2,q3⟩ ?_;refine tk 5 ⟨c3,⟨u0,u1,u2,u3⟩,⟨t0,t1,t2,t3⟩,q0,q1,q2,q3⟩ ?_;refine tk 6 ⟨c3,⟨u0,u1,u2,u3⟩,⟨t0,t1,t2,t3⟩,q0,q1,q2,q3⟩ ?_;refine tk 7 ⟨c3,⟨u0,u1,u2,u3⟩,⟨t0,t1,t2,t3⟩,q0,q1,q2,q3⟩ ?_;refine tk 8 ⟨c3,⟨u0,u1,u2,u3⟩,⟨t0,t1,t2,t3⟩,q0,q1,q2,q3⟩ ?_;refine tk 10 ⟨c3,⟨u0,u1,u2,u3⟩,⟨t0,t1,t2,t3⟩,q0,q1,q2,q3⟩ ?_;refine tk 11 ⟨c3,⟨u0,u1,u2,u3⟩,⟨t0,t1,t2,t3⟩,q0,q1,q2,q3⟩ ?_;refine tk 12 ⟨c3,⟨u0,u1,u2,u3⟩,⟨t0,t1,t2,t3⟩,q0,q1,q2,q3⟩ ?_;refine tk 13 ⟨c3,⟨u0,u1,u2,u3⟩,⟨t0,t1,t2,t3⟩,q0,q1,q2,q3⟩ ?_;refine t19 4 (fun K' hK=>?_);go_simp;go_at_call 83;(with_reducible refine (HC0.o _ (Below.refl v.heap.size v).drew).mono ?_);rintro y w1 ⟨rfl,bb⟩;have HB1 := LH9 (((Below.refl v.heap.size v).drew).trans (bb.mono ((Below.refl v.heap.size v).drew).size));have c3' := cu9 (w := v.drew) c3 bb;have u0' := cu9 (w := v.drew) u0 bb;have u1' := cu9 (w := v.drew) u1 bb;have u2' := cu9 (w := v.drew) u2 bb;have u3' := cu9 (w := v.drew) u3 bb;have t0' := cu9 (w := v.drew) t0 bb;have t1' := cu9 (w := v.drew) t1 bb;have t2' := cu9 (w := v.drew) t2 bb;have t3' := cu9 (w := v.drew) t3 bb;have q0' := cu9 (w := v.drew) q0 bb;have q1' := cu9 (w := v.drew) q1 bb;have q2' := cu9 (w := v.drew) q2 bb;have q3' := cu9 (w := v.drew) q3 bb;refine hK _ _ ⟨c3',⟨u0',u1',u2',u3'⟩,⟨t0',t1',t2',t3'⟩,q0',q1',q2',q3'⟩ ?_;clear hK K' bb c3 u0 u1 u2 u3 t0 t1 t2 t3 q0 q1 q2 q3;have c3 := c3';have u0 := u0';have u1 := u1';have u2 := u2';have u3 := u3';have t0 := t0';have t1 := t1';have t2 := t2';have t3 := t3';have q0 := q0';have q1 := q1';have q2 := q2';have q3 := q3';clear c3' u0' u1' u2' u3' t0' t1' t2' t3' q0' q1' q2' q3'
     try simp only [Act.put,zp1,zp2,zp3,zp4,zp5,zp6]
     refine t19 9 (fun K' hK=>?_);go_simp;go_at_call 83;(with_reducible refine (HC1.o _ HB1.o).mono ?_);rintro y w2 ⟨rfl,bb⟩;have HB2 := bt9 HB1 bb;have c3' := cu9 (w := w1) c3 bb;have u0' := cu9 (w := w1) u0 bb;have u1' := cu9 (w := w1) u1 bb;have u2' := cu9 (w := w1) u2 bb;have u3' := cu9 (w := w1) u3 bb;have t0' := cu9 (w := w1) t0 bb;have t1' := cu9 (w := w1) t1 bb;have t2' := cu9 (w := w1) t2 bb;have t3' := cu9 (w := w1) t3 bb;have q0' := cu9 (w := w1) q0 bb;have q1' := cu9 (w := w1) q1 bb;have q2' := cu9 (w := w1) q2 bb;have q3' := cu9 (w := w1) q3 bb;refine hK _ _ ⟨c3',⟨u0',u1',u2',u3'⟩,⟨t0',t1',t2',t3'⟩,q0',q1',q2',q3'⟩ ?_;clear hK K' bb c3 u0 u1 u2 u3 t0 t1 t2 t3 q0 q1 q2 q3;have c3 := c3';have u0 := u0';have u1 := u1';have u2 := u2';have u3 := u3';have t0 := t0';have t1 := t1';have t2 := t2';have t3 := t3';have q0 := q0';have q1 := q1';have q2 := q2';have q3 := q3';clear c3' u0' u1' u2' u3' t0' t1' t2' t3' q0' q1' q2' q3'
     try simp only [Act.put,zp1,zp2,zp3,zp4,zp5,zp6]
     refine t19 14 (fun K' hK=>?_);go_simp;go_at_call 83;(with_reducible refine (HC2.o _ HB2.o).mono ?_);rintro y w3 ⟨rfl,bb⟩;have HB3 := bt9 HB2 bb;have c3' := cu9 (w := w2) c3 bb;have u0' := cu9 (w := w2) u0 bb;have u1' := cu9 (w := w2) u1 bb;have u2' := cu9 (w := w2) u2 bb;have u3' := cu9 (w := w2) u3 bb;have t0' := cu9 (w := w2) t0 bb;have t1' := cu9 (w := w2) t1 bb;have t2' := cu9 (w := w2) t2 bb;have t3' := cu9 (w := w2) t3 bb;have q0' := cu9 (w := w2) q0 bb;have q1' := cu9 (w := w2) q1 bb;have q2' := cu9 (w := w2) q2 bb;have q3' := cu9 (w := w2) q3 bb;refine hK _ _ ⟨c3',⟨u0',u1',u2',u3'⟩,⟨t0',t1',t2',t3'⟩,q0',q1',q2',q3'⟩ ?_;clear hK K' bb c3 u0 u1 u2 u3 t0 t1 t2 t3 q0 q1 q2 q3;have c3 := c3';have u0 := u0';have u1 := u1';have u2 := u2';have u3 := u3';have t0 := t0';have t1 := t1';have t2 := t2';have t3 := t3';have q0 := q0';have q1 := q1';have q2 := q2';have q3 := q3';clear c3' u0' u1' u2' u3' t0' t1' t2' t3' q0' q1' q2' q3'
     try simp only [Act.put,zp1,zp2,zp3,zp4,zp5,zp6]
     refine tk 15 ⟨c3,⟨u0,u1,u2,u3⟩,⟨t0,t1,t2,t3⟩,q0,q1,q2,q3⟩ ?_;refine tk 16 ⟨c3,⟨u0,u1,u2,u3⟩,⟨t0,t1,t2,t3⟩,q0,q1,q2,q3⟩ ?_;refine tl9 (fun K' hK=>?_);go_simp;refine hK _ _ ?_;clear hK K';refine wd9 ?_;have HBF := bu9 HB0 HB3;clear HB1 HB2 HB3 HC0 HC1 HC2 c3 u0 u1 u2 u3 t0 t1 t2 t3 q0 q1 q2 q3;by_cases hk0 : K0=2
     . subst hk0;by_cases hk1 : K1=K2
       . subst hk1;obtain rfl : R=K1 := by rw [HKO.o,if_pos ⟨rfl,rfl⟩]
         clear HKO;go_wp2_with fail;go_ret;exact ⟨rfl,HBF.o⟩
       . have hk1' : (K1 == K2)=false := beq_eq_false_iff_ne.2 hk1;obtain rfl : R=0 := by rw [HKO.o,if_neg (fun h => hk1 h.2)]
         clear HKO;go_wp2_with fail;go_ret;exact ⟨rfl,HBF.o⟩
     . have hk0' : (K0 == 2)=false := beq_eq_false_iff_ne.2 hk0;obtain rfl : R=0 := by rw [HKO.o,if_neg (fun h => hk0 h.1)]
       clear HKO;go_wp2_with fail;go_ret;exact ⟨rfl,HBF.o⟩
   . have h21' : (op == 21)=false := beq_eq_false_iff_ne.2 h21;have HNO := LH9 (fun (j : Nat) x (hx : args[j]?=some x) (hne : kE x ≠ needK op) => kOf_no (l := args.map kE) h21 (by rw [List.getElem?_map,hx]; rfl) hne);have HYES : Hid ((∀ (j : Nat) x,args[j]?=some x->kE x=needK op)->kOf op (args.map kE)=isK op) := fun h => kOf_yes h21 (fun j x hx => by
      rw [List.getElem?_map] at hx
      cases hc : args[j]? with
      | none => rw [hc] at hx; cases hx
      | some c => rw [hc] at hx; injection hx with hx; subst hx; exact h j c hc)
     clear h21;generalize kOf op (args.map kE)=R at *
     go_enter Tryz.func83,Tryz.ntmps83
     go_upto_region 1 with (fail);generalize w.alloc (.cells _ 74)=v at *;obtain ⟨c0,c1,c2,c3,-,-,-,-⟩ := blk4 BX.o;go_wp2_with fail;go_at_call 107;(with_reducible refine (operands_any _ _).mono ?_);rintro y w' ⟨rfl,rfl⟩;generalize needK op=nd at *;generalize isK op=is at *;go_wp2_with fail;clear c0 c1 c2 c3
     go_loopw [45] (fun i wr => ∃ k : Nat,i=.int .i64 (k : Nat)/\k<=len/\Hid (Below w.heap.size w wr/\∀ (j : Nat) x,j < k->args[j]?=some x->kE x=nd)) (fun i _ => len - (intOf i).toNat)
     case atStart => exact ⟨0,rfl,Nat.zero_le _,HB0.o,fun j x h => by omega⟩
     case round =>
      clear HB0 BX;obtain ⟨k,rfl,hk,HR⟩ := hrel;by_cases hlt : k < len
      . obtain ⟨b,o,cop,cn,cnm,cargs,ca,clen,ccap,rfl,-,-,hxe,j1,j2,j3,hSc,v0,v1,v2,v3⟩ := (HSS.o.kept (Kept.of_below HR.o.1 [])).at k hlt;have j1' : (k : Int) < (len : Int) := by omega
        have j0' : (0 : Int)<=(k : Int) := by omega
        have HXE := LH9 hxe;have HSC := LH9 (RepE.mk' j1 j2 j3 hSc);clear hxe j1 j2 j3 hSc;go_upto_region 10 with (fail);have hfa := (Below.refl wr.heap.size wr).alloc (Nat.le_refl _) (.cells #[.int .i64 cop,.int .i64 cn,.string cnm,.slice ca clen ccap] 74);have BV := LH9 (Mem.Blk.new wr 74 #[.int .i64 cop,.int .i64 cn,.string cnm,.slice ca clen ccap]);have HV := LH9 (HR.o.1.trans (hfa.mono HR.o.1.size));have HC := LH9 (HI.o k _ HXE.o _ _ (HSC.o.kept (Kept.of_below hfa [])));have HP := LH9 HR.o.2;clear hfa HR HSC v0 v1 v2 v3;generalize wr.alloc (.cells _ 74)=v at *;generalize wr.heap.size=z at *;obtain ⟨u0,u1,u2,u3,-,-,-,-⟩ := blk4 BV.o;have HX2 : Hid (∀ x,args[k]?=some x->kE x=kE (Ex.mk cop cn cnm cargs)) := fun x hx => by rw [HXE.o] at hx; injection hx with hx; rw [hx]
        have HX3 : Hid (kE (Ex.mk cop cn cnm cargs) ≠ nd->R=0) := fun h => HNO.o k _ HXE.o h
        generalize kE (Ex.mk cop cn cnm cargs)=kc at *;by_cases hkc : kc=nd
        . subst hkc;go_wp2_with fail;go_at_call 83;(with_reducible refine HC.o.mono ?_);rintro y w2 ⟨rfl,bb⟩;have FIN : Hid (Below w.heap.size w w2/\∀ (j : Nat) x,j < k + 1->args[j]?=some x->kE x=kc) := ⟨HV.o.trans (bb.mono HV.o.size),fun j x hj hx => by
           rcases Nat.eq_or_lt_of_le (Nat.le_of_lt_succ hj) with rfl | h
           . exact HX2.o x hx
           . exact HP.o j x h hx⟩
          clear bb HC HV HP BV u0 u1 u2 u3 HX2 HX3 HNO HYES;go_wp2_with fail;go_roundw
          case rel => exact ⟨k + 1,by go_num,by omega,FIN.o⟩
          case measure => simp [intOf]; omega
        . have hR := HX3.o hkc;have hkc' : (kc == nd)=false := beq_eq_false_iff_ne.2 hkc;clear HX2 HX3 HNO HYES HP;subst hR;go_wp2_with fail;go_at_call 83;(with_reducible refine HC.o.mono ?_);rintro y w2 ⟨rfl,bb⟩;have HF := bt9 HV bb;clear bb HC HV BV u0 u1 u2 u3;go_wp2_with fail;go_ret;exact ⟨rfl,HF.o⟩
      . have hk' : ¬ (k : Int) < (len : Int) := by omega
        have hR : R=is := HYES.o (fun j x hx => HR.o.2 j x (by have h1 := (List.getElem?_eq_some_iff.1 hx).1; have h2 := HL.o; omega) hx);have HF := LH9 HR.o.1;clear HR HNO HYES;subst hR;go_wp2_with fail;go_ret;exact ⟨rfl,HF.o⟩
end
section
def earl (k n : Int) : Int := if n=0 then -1 else n - 1 - (IntKind.u64.wrap k) % n
theorem earl_bd (k n : Int) (h : 0<=n) : -1<=earl k n/\earl k n < n\/n=0/\earl k n=-1 := by
 unfold earl;by_cases h0 : n=0
 . rw [if_pos h0]; exact .inr ⟨h0,rfl⟩
 . rw [if_neg h0];have h1 := Int.emod_nonneg (IntKind.u64.wrap k) h0;have h2 := Int.emod_lt_of_pos (IntKind.u64.wrap k) (show 0 < n by omega);generalize IntKind.u64.wrap k % n=r at *
   left; omega
theorem u64_nonneg (k : Int) : 0<=IntKind.u64.wrap k := by
 simp [IntKind.wrap,IntKind.signed,IntKind.bits];omega
theorem ret_earl (k n : Int) (h0 : 0<=n) (h1 : n<=1000) (hz : ¬n=0) : Ending.returned (.int .i64 (wrap64 (n - 1 - wrap64 ((IntKind.u64.wrap k).tmod n))))=.returned (.int .i64 (earl k n)) := by
 unfold earl;rw [if_neg hz,Int.tmod_eq_emod_of_nonneg (u64_nonneg k)];have a1 := Int.emod_nonneg (IntKind.u64.wrap k) hz;have a2 := Int.emod_lt_of_pos (IntKind.u64.wrap k) (show 0 < n by omega);generalize IntKind.u64.wrap k % n=r at *;rw [IntWalk.wrap64_in r ⟨by omega,by omega⟩,IntWalk.wrap64_in (n - 1 - r) ⟨by omega,by omega⟩]
theorem earlier_any (k n : Int) (w : World) (h0 : 0<=n) (h1 : n<=1000) : Calls Tryz.prog 24 #[.int .i64 k,.int .i64 n] w fun e w' => e=.returned (.int .i64 (earl k n))/\w=w' := by
 by_cases hz : n=0
 . subst hz
   go_enter Tryz.func24,Tryz.ntmps24
   go_wp2
   go_ret;exact ⟨rfl,rfl⟩
 . have t1 : (n == 0)=false := beq_eq_false_iff_ne.2 hz
   go_enter Tryz.func24,Tryz.ntmps24
   go_wp2
   go_ret;exact ⟨ret_earl _ _ h0 h1 hz,rfl⟩
theorem told_great (a b : Int) (w : World) (h : 1000<=a\/1000<=b) : Calls Tryz.prog 25 #[.int .i64 a,.int .i64 b] w fun e w' => e=.returned (.tuple #[.int .i64 1000,.int .i64 1000])/\w=w' := by
 by_cases ha : 1000<=a
 . go_enter Tryz.func25,Tryz.ntmps25
   go_wp2
   go_ret2;exact ⟨rfl,rfl⟩
 . have hb : 1000<=b := by omega
   go_enter Tryz.func25,Tryz.ntmps25
   go_wp2
   go_ret2;exact ⟨rfl,rfl⟩
theorem told_small (a b : Int) (w : World) (ha : a < 1000) (hb : b < 1000) : Calls Tryz.prog 25 #[.int .i64 a,.int .i64 b] w fun e w' => e=.returned (.tuple #[.int .i64 a,.int .i64 b])/\w=w' := by
 have ha' : ¬ 1000<=a := by omega
 have hb' : ¬ 1000<=b := by omega
 go_enter Tryz.func25,Tryz.ntmps25
 go_wp2
 go_ret2;exact ⟨rfl,rfl⟩
theorem told_cnt {k S M : Nat} {N D : Int} (h : Cnt k S M N D) (hM : M < 1000) (w : World) : Calls Tryz.prog 25 #[.int .i64 N,.int .i64 D] w fun e w' => e=.returned (.tuple #[.int .i64 (ndI S),.int .i64 (rkI S M)])/\w=w' := by
 by_cases hg : 1000<=N\/1000<=D
 . obtain ⟨e1,e2⟩ := h.great hM hg;rw [e1,e2];exact told_great N D w hg
 . obtain ⟨e1,e2⟩ := h.small (by omega) (by omega);rw [e1,e2];exact told_small N D w (by omega) (by omega)
end
section
def nil1 : Value := .slice none 0 0
def famB (h : Nat) (es : List Ex) (ts : List Te) (ns ds ms ps : List Int) (vE vN vD vT vM vP : Value) : List Ob :=
 [gr exK 74 h es vE,gr i64K 3 h ns vN,gr i64K 3 h ds vD,gr teK 41 h ts vT,gr i64K 3 h ms vM,gr i64K 3 h ps vP,
  bx (h + 1) 33 #[vE,vN,vD,vT,vM,vP],bx h 33 #[.slice none 0 0,.slice none 0 0,.slice none 0 0,.slice none 0 0,.slice none 0 0,.slice none 0 0]]
structure B1 (w wr : World) (es : List Ex) (ts : List Te) (ns ds ms ps : List Int) (vE vN vD vT vM vP : Value) : Prop where
 below : Below w.heap.size w wr
 sep : Sep wr (famB w.heap.size es ts ns ds ms ps vE vN vD vT vM vP)
structure B2 (w wr : World) (xb : Nat) (lf : Lf) (ka : Option Addr) (kc : Nat) (args : List Ex) (vA : Value) (es : List Ex) (ts : List Te) (ns ds ms ps : List Int) (vE vN vD vT vM vP : Value) : Prop where
 below : Below w.heap.size w wr
 sep : Sep wr (gr exK 74 w.heap.size args vA :: bx (xb + 1) 74 #[.int .i64 lf.op,.int .i64 lf.n,.string lf.nm,vA] :: bx xb 77 #[.int .i64 lf.op,.int .i64 lf.n,.string lf.nm,.slice ka lf.kids.length kc] :: famB w.heap.size es ts ns ds ms ps vE vN vD vT vM vP)
def famK (h xb : Nat) (kn : Kn) (ka kb : Option Addr) (kc kd : Nat) (xs : List Ex) (vX : Value) (ys : List Te) (vY : Value) (es : List Ex) (ts : List Te) (ns ds ms ps : List Int) (vE vN vD vT vM vP : Value) : List Ob :=
 gr exK 74 h xs vX :: gr teK 41 h ys vY :: bx (xb + 1) 41 #[.int .i64 kn.op,.string kn.nm,vX,vY] :: bx xb 82 #[.int .i64 kn.op,.string kn.nm,.slice ka kn.exprs.length kc,.slice kb kn.terms.length kd] :: famB h es ts ns ds ms ps vE vN vD vT vM vP
structure B3 (w wr : World) (xb : Nat) (kn : Kn) (ka kb : Option Addr) (kc kd : Nat) (xs : List Ex) (vX : Value) (ys : List Te) (vY : Value) (es : List Ex) (ts : List Te) (ns ds ms ps : List Int) (vE vN vD vT vM vP : Value) : Prop where
 below : Below w.heap.size w wr
 sep : Sep wr (famK w.heap.size xb kn ka kb kc kd xs vX ys vY es ts ns ds ms ps vE vN vD vT vM vP)
section
variable {w wr wr' : World} {es : List Ex} {ts : List Te} {ns ds ms ps : List Int} {vE vN vD vT vM vP : Value} {xb : Nat} {lf : Lf} {ka : Option Addr} {kc : Nat} {args : List Ex} {vA : Value}
theorem infoI : (Tryz.prog.info? 3).map (fun i => (i.zero,i.size,i.bytes))=some (some (.int .i64 0),1,8) := by kernel_rfl
theorem Sep.addGr {α : Type} {fam : List Ob} (h : Sep wr fam) (K : Elt α) (e : TypeId) {base : Nat} (hb : base<=wr.heap.size) : Sep wr (gr K e base [] (.slice none 0 0) :: fam) :=
 h.cons (o := gr K e base [] (.slice none 0 0)) (Kept.refl wr []) (fun b hb' => by cases hb') ⟨[],Grow.start K e hb h.lt⟩
theorem B1.start (h : Sep wr [bx (w.heap.size + 1) 33 #[.slice none 0 0,.slice none 0 0,.slice none 0 0,.slice none 0 0,.slice none 0 0,.slice none 0 0],bx w.heap.size 33 #[.slice none 0 0,.slice none 0 0,.slice none 0 0,.slice none 0 0,.slice none 0 0,.slice none 0 0]])
 (hb : Below w.heap.size w wr) : B1 w wr [] [] [] [] [] [] (.slice none 0 0) (.slice none 0 0) (.slice none 0 0) (.slice none 0 0) (.slice none 0 0) (.slice none 0 0) := by
 have hs := hb.size;exact ⟨hb,(((((h.addGr i64K 3 hs).addGr i64K 3 hs).addGr teK 41 hs).addGr i64K 3 hs).addGr i64K 3 hs).addGr exK 74 hs⟩
theorem B1.enter (h : B1 w wr es ts ns ds ms ps vE vN vD vT vM vP) (lf : Lf) (ka : Option Addr) (kc : Nat) :
 B2 w ((wr.alloc (.cells #[.int .i64 lf.op,.int .i64 lf.n,.string lf.nm,.slice ka lf.kids.length kc] 77)).alloc (.cells #[.int .i64 lf.op,.int .i64 lf.n,.string lf.nm,.slice none 0 0] 74)) wr.heap.size lf ka kc [] (.slice none 0 0) es ts ns ds ms ps vE vN vD vT vM vP := by
 have hs := h.below.size;have h1 := (h.sep.new 77 #[.int .i64 lf.op,.int .i64 lf.n,.string lf.nm,.slice ka lf.kids.length kc]).new 74 #[.int .i64 lf.op,.int .i64 lf.n,.string lf.nm,.slice none 0 0];rw [show (wr.alloc (.cells #[.int .i64 lf.op,.int .i64 lf.n,.string lf.nm,.slice ka lf.kids.length kc] 77)).heap.size=wr.heap.size + 1 by simp] at h1;exact ⟨(h.below.alloc hs _).alloc (by simp; omega) _,h1.addGr exK 74 (by simp; omega)⟩
theorem B2.push {w1 : World} {csl : List (List Value)} {v' : Value} {x : Ex} {c : List Value} (h : B2 w wr xb lf ka kc args vA es ts ns ds ms ps vE vN vD vT vM vP)
 (hG : Grow exK 74 w.heap.size wr (others (gr exK 74 w.heap.size args vA :: bx (xb + 1) 74 #[.int .i64 lf.op,.int .i64 lf.n,.string lf.nm,vA] :: bx xb 77 #[.int .i64 lf.op,.int .i64 lf.n,.string lf.nm,.slice ka lf.kids.length kc] :: famB w.heap.size es ts ns ds ms ps vE vN vD vT vM vP) 0) args vA csl)
 (hR : RepE wr (owns (gr exK 74 w.heap.size args vA :: bx (xb + 1) 74 #[.int .i64 lf.op,.int .i64 lf.n,.string lf.nm,vA] :: bx xb 77 #[.int .i64 lf.op,.int .i64 lf.n,.string lf.nm,.slice ka lf.kids.length kc] :: famB w.heap.size es ts ns ds ms ps vE vN vD vT vM vP)) x c)
 (ho : w1.ownsRow w.heap.size 74 4 v' (args.length + 1) (csl.flatten ++ c)) (hg : wr.grownBy w1 vA.ownBlock) (hv : v'.ownBlock=vA.ownBlock\/v'.ownBlock=some wr.heap.size) (hx : w.heap.size<=xb) :
 B2 w (w1.setCell ⟨xb + 1,3,none⟩ v') xb lf ka kc (args ++ [x]) v' es ts ns ds ms ps vE vN vD vT vM vP := by
 have h1 := h.sep.push 0 rfl hG (x := x) (c := c) hR ho hg hv;have h2 := h1.store 1 rfl 3 v';refine ⟨(h.below.grown hg h.below.size (fun b hb => (hG.blt hb).1)).setCell (by show w.heap.size<=xb + 1; omega) _,h2⟩
theorem B2.box (h : B2 w wr xb lf ka kc args vA es ts ns ds ms ps vE vN vD vT vM vP) (j1 : I64 lf.op) (j2 : I64 lf.n) (j3 : lf.nm.size<=9223372036854775807) : ∃ aA cA,vA=.slice aA args.length cA/\RepE wr (owns (famB w.heap.size es ts ns ds ms ps vE vN vD vT vM vP)) (.mk lf.op lf.n lf.nm args) [.int .i64 lf.op,.int .i64 lf.n,.string lf.nm,.slice aA args.length cA] := by
 obtain ⟨aA,cA,hv,hS⟩ := h.sep.still 0 rfl;refine ⟨aA,cA,hv,RepE.mk' j1 j2 j3 (hS.less (fun b hb hm => ?_))⟩;obtain ⟨m,o,ho,hb'⟩ := mem_owns.1 hm;exact mem_others.2 ⟨m + 3,o,by omega,by simpa using ho,hb'⟩
theorem B1.pushE {w1 : World} {csl : List (List Value)} {v' : Value} {x : Ex} {c : List Value} (h : B1 w wr es ts ns ds ms ps vE vN vD vT vM vP)
 (hG : Grow exK 74 w.heap.size wr (others (famB w.heap.size es ts ns ds ms ps vE vN vD vT vM vP) 0) es vE csl)
 (hR : RepE wr (owns (famB w.heap.size es ts ns ds ms ps vE vN vD vT vM vP)) x c)
 (ho : w1.ownsRow w.heap.size 74 4 v' (es.length + 1) (csl.flatten ++ c)) (hg : wr.grownBy w1 vE.ownBlock) (hv : v'.ownBlock=vE.ownBlock\/v'.ownBlock=some wr.heap.size) :
 (w1.cell? ⟨w.heap.size + 1,0,none⟩=some vE/\w1.frozen? ⟨w.heap.size + 1,0,none⟩=false)/\B1 w (w1.setCell ⟨w.heap.size + 1,0,none⟩ v') (es ++ [x]) ts ns ds ms ps v' vN vD vT vM vP := by
 have h1 := h.sep.push 0 rfl hG (x := x) (c := c) hR ho hg hv;have h2 := h1.store 6 rfl 0 v';exact ⟨⟨(h1.blk 6 rfl).cell 0,(h1.blk 6 rfl).frozen 0⟩,(h.below.grown hg h.below.size (fun b hb => (hG.blt hb).1)).setCell (by show w.heap.size<=w.heap.size + 1; omega) _,h2⟩
theorem B1.pushN {w1 : World} {csl : List (List Value)} {v' : Value} {x : Int} {c : List Value} (h : B1 w wr es ts ns ds ms ps vE vN vD vT vM vP)
 (hG : Grow i64K 3 w.heap.size wr (others (famB w.heap.size es ts ns ds ms ps vE vN vD vT vM vP) 1) ns vN csl)
 (hR : i64K.R wr (owns (famB w.heap.size es ts ns ds ms ps vE vN vD vT vM vP)) x c)
 (ho : w1.ownsRow w.heap.size 3 1 v' (ns.length + 1) (csl.flatten ++ c)) (hg : wr.grownBy w1 vN.ownBlock) (hv : v'.ownBlock=vN.ownBlock\/v'.ownBlock=some wr.heap.size) :
 (w1.cell? ⟨w.heap.size + 1,1,none⟩=some vN/\w1.frozen? ⟨w.heap.size + 1,1,none⟩=false)/\B1 w (w1.setCell ⟨w.heap.size + 1,1,none⟩ v') es ts (ns ++ [x]) ds ms ps vE v' vD vT vM vP := by
 have h1 := h.sep.push 1 rfl hG (x := x) (c := c) hR ho hg hv;have h2 := h1.store 6 rfl 1 v';exact ⟨⟨(h1.blk 6 rfl).cell 1,(h1.blk 6 rfl).frozen 1⟩,(h.below.grown hg h.below.size (fun b hb => (hG.blt hb).1)).setCell (by show w.heap.size<=w.heap.size + 1; omega) _,h2⟩
theorem B1.pushD {w1 : World} {csl : List (List Value)} {v' : Value} {x : Int} {c : List Value} (h : B1 w wr es ts ns ds ms ps vE vN vD vT vM vP)
 (hG : Grow i64K 3 w.heap.size wr (others (famB w.heap.size es ts ns ds ms ps vE vN vD vT vM vP) 2) ds vD csl)
 (hR : i64K.R wr (owns (famB w.heap.size es ts ns ds ms ps vE vN vD vT vM vP)) x c)
 (ho : w1.ownsRow w.heap.size 3 1 v' (ds.length + 1) (csl.flatten ++ c)) (hg : wr.grownBy w1 vD.ownBlock) (hv : v'.ownBlock=vD.ownBlock\/v'.ownBlock=some wr.heap.size) :
 (w1.cell? ⟨w.heap.size + 1,2,none⟩=some vD/\w1.frozen? ⟨w.heap.size + 1,2,none⟩=false)/\B1 w (w1.setCell ⟨w.heap.size + 1,2,none⟩ v') es ts ns (ds ++ [x]) ms ps vE vN v' vT vM vP := by
 have h1 := h.sep.push 2 rfl hG (x := x) (c := c) hR ho hg hv;have h2 := h1.store 6 rfl 2 v';exact ⟨⟨(h1.blk 6 rfl).cell 2,(h1.blk 6 rfl).frozen 2⟩,(h.below.grown hg h.below.size (fun b hb => (hG.blt hb).1)).setCell (by show w.heap.size<=w.heap.size + 1; omega) _,h2⟩
theorem B1.pushT {w1 : World} {csl : List (List Value)} {v' : Value} {x : Te} {c : List Value} (h : B1 w wr es ts ns ds ms ps vE vN vD vT vM vP)
 (hG : Grow teK 41 w.heap.size wr (others (famB w.heap.size es ts ns ds ms ps vE vN vD vT vM vP) 3) ts vT csl)
 (hR : teK.R wr (owns (famB w.heap.size es ts ns ds ms ps vE vN vD vT vM vP)) x c)
 (ho : w1.ownsRow w.heap.size 41 4 v' (ts.length + 1) (csl.flatten ++ c)) (hg : wr.grownBy w1 vT.ownBlock) (hv : v'.ownBlock=vT.ownBlock\/v'.ownBlock=some wr.heap.size) :
 (w1.cell? ⟨w.heap.size + 1,3,none⟩=some vT/\w1.frozen? ⟨w.heap.size + 1,3,none⟩=false)/\B1 w (w1.setCell ⟨w.heap.size + 1,3,none⟩ v') es (ts ++ [x]) ns ds ms ps vE vN vD v' vM vP := by
 have h1 := h.sep.push 3 rfl hG (x := x) (c := c) hR ho hg hv;have h2 := h1.store 6 rfl 3 v';exact ⟨⟨(h1.blk 6 rfl).cell 3,(h1.blk 6 rfl).frozen 3⟩,(h.below.grown hg h.below.size (fun b hb => (hG.blt hb).1)).setCell (by show w.heap.size<=w.heap.size + 1; omega) _,h2⟩
theorem B1.pushM {w1 : World} {csl : List (List Value)} {v' : Value} {x : Int} {c : List Value} (h : B1 w wr es ts ns ds ms ps vE vN vD vT vM vP)
 (hG : Grow i64K 3 w.heap.size wr (others (famB w.heap.size es ts ns ds ms ps vE vN vD vT vM vP) 4) ms vM csl)
 (hR : i64K.R wr (owns (famB w.heap.size es ts ns ds ms ps vE vN vD vT vM vP)) x c)
 (ho : w1.ownsRow w.heap.size 3 1 v' (ms.length + 1) (csl.flatten ++ c)) (hg : wr.grownBy w1 vM.ownBlock) (hv : v'.ownBlock=vM.ownBlock\/v'.ownBlock=some wr.heap.size) :
 (w1.cell? ⟨w.heap.size + 1,4,none⟩=some vM/\w1.frozen? ⟨w.heap.size + 1,4,none⟩=false)/\B1 w (w1.setCell ⟨w.heap.size + 1,4,none⟩ v') es ts ns ds (ms ++ [x]) ps vE vN vD vT v' vP := by
 have h1 := h.sep.push 4 rfl hG (x := x) (c := c) hR ho hg hv;have h2 := h1.store 6 rfl 4 v';exact ⟨⟨(h1.blk 6 rfl).cell 4,(h1.blk 6 rfl).frozen 4⟩,(h.below.grown hg h.below.size (fun b hb => (hG.blt hb).1)).setCell (by show w.heap.size<=w.heap.size + 1; omega) _,h2⟩
theorem B1.pushP {w1 : World} {csl : List (List Value)} {v' : Value} {x : Int} {c : List Value} (h : B1 w wr es ts ns ds ms ps vE vN vD vT vM vP)
 (hG : Grow i64K 3 w.heap.size wr (others (famB w.heap.size es ts ns ds ms ps vE vN vD vT vM vP) 5) ps vP csl)
 (hR : i64K.R wr (owns (famB w.heap.size es ts ns ds ms ps vE vN vD vT vM vP)) x c)
 (ho : w1.ownsRow w.heap.size 3 1 v' (ps.length + 1) (csl.flatten ++ c)) (hg : wr.grownBy w1 vP.ownBlock) (hv : v'.ownBlock=vP.ownBlock\/v'.ownBlock=some wr.heap.size) :
 (w1.cell? ⟨w.heap.size + 1,5,none⟩=some vP/\w1.frozen? ⟨w.heap.size + 1,5,none⟩=false)/\B1 w (w1.setCell ⟨w.heap.size + 1,5,none⟩ v') es ts ns ds ms (ps ++ [x]) vE vN vD vT vM v' := by
 have h1 := h.sep.push 5 rfl hG (x := x) (c := c) hR ho hg hv;have h2 := h1.store 6 rfl 5 v';exact ⟨⟨(h1.blk 6 rfl).cell 5,(h1.blk 6 rfl).frozen 5⟩,(h.below.grown hg h.below.size (fun b hb => (hG.blt hb).1)).setCell (by show w.heap.size<=w.heap.size + 1; omega) _,h2⟩
theorem B2.up (h : B2 w wr xb lf ka kc args vA es ts ns ds ms ps vE vN vD vT vM vP) (hb : Below wr.heap.size wr wr') : B2 w wr' xb lf ka kc args vA es ts ns ds ms ps vE vN vD vT vM vP :=
 ⟨h.below.trans (hb.mono h.below.size),h.sep.below hb⟩
theorem B1.up (h : B1 w wr es ts ns ds ms ps vE vN vD vT vM vP) (hb : Below wr.heap.size wr wr') : B1 w wr' es ts ns ds ms ps vE vN vD vT vM vP :=
 ⟨h.below.trans (hb.mono h.below.size),h.sep.below hb⟩
theorem B2.leave (h : B2 w wr xb lf ka kc args vA es ts ns ds ms ps vE vN vD vT vM vP) : B1 w wr es ts ns ds ms ps vE vN vD vT vM vP := ⟨h.below,((h.sep.drop 0).drop 0).drop 0⟩
end
section
variable {w wr wr' : World} {es : List Ex} {ts : List Te} {ns ds ms ps : List Int} {vE vN vD vT vM vP : Value} {xb : Nat} {kn : Kn} {ka kb : Option Addr} {kc kd : Nat} {xs : List Ex} {ys : List Te} {vX vY : Value}
theorem B1.enterK (h : B1 w wr es ts ns ds ms ps vE vN vD vT vM vP) (kn : Kn) (ka kb : Option Addr) (kc kd : Nat) :
 B3 w ((wr.alloc (.cells #[.int .i64 kn.op,.string kn.nm,.slice ka kn.exprs.length kc,.slice kb kn.terms.length kd] 82)).alloc (.cells #[.int .i64 kn.op,.string kn.nm,.slice none 0 0,.slice none 0 0] 41)) wr.heap.size kn ka kb kc kd [] (.slice none 0 0) [] (.slice none 0 0) es ts ns ds ms ps vE vN vD vT vM vP := by
 have hs := h.below.size;have h1 := (h.sep.new 82 #[.int .i64 kn.op,.string kn.nm,.slice ka kn.exprs.length kc,.slice kb kn.terms.length kd]).new 41 #[.int .i64 kn.op,.string kn.nm,.slice none 0 0,.slice none 0 0];rw [show (wr.alloc (.cells #[.int .i64 kn.op,.string kn.nm,.slice ka kn.exprs.length kc,.slice kb kn.terms.length kd] 82)).heap.size=wr.heap.size + 1 by simp] at h1;exact ⟨(h.below.alloc hs _).alloc (by simp; omega) _,(h1.addGr teK 41 (by simp; omega)).addGr exK 74 (by simp; omega)⟩
theorem B3.pushX {w1 : World} {csl : List (List Value)} {v' : Value} {x : Ex} {c : List Value} (h : B3 w wr xb kn ka kb kc kd xs vX ys vY es ts ns ds ms ps vE vN vD vT vM vP)
 (hG : Grow exK 74 w.heap.size wr (others (famK w.heap.size xb kn ka kb kc kd xs vX ys vY es ts ns ds ms ps vE vN vD vT vM vP) 0) xs vX csl)
 (hR : RepE wr (owns (famK w.heap.size xb kn ka kb kc kd xs vX ys vY es ts ns ds ms ps vE vN vD vT vM vP)) x c)
 (ho : w1.ownsRow w.heap.size 74 4 v' (xs.length + 1) (csl.flatten ++ c)) (hg : wr.grownBy w1 vX.ownBlock) (hv : v'.ownBlock=vX.ownBlock\/v'.ownBlock=some wr.heap.size) (hx : w.heap.size<=xb) :
 (w1.cell? ⟨xb + 1,2,none⟩=some vX/\w1.frozen? ⟨xb + 1,2,none⟩=false)/\B3 w (w1.setCell ⟨xb + 1,2,none⟩ v') xb kn ka kb kc kd (xs ++ [x]) v' ys vY es ts ns ds ms ps vE vN vD vT vM vP := by
 have h1 := h.sep.push 0 rfl hG (x := x) (c := c) hR ho hg hv;have h2 := h1.store 2 rfl 2 v';exact ⟨⟨(h1.blk 2 rfl).cell 2,(h1.blk 2 rfl).frozen 2⟩,(h.below.grown hg h.below.size (fun b hb => (hG.blt hb).1)).setCell (by show w.heap.size<=xb + 1; omega) _,h2⟩
theorem B3.pushY {w1 : World} {csl : List (List Value)} {v' : Value} {x : Te} {c : List Value} (h : B3 w wr xb kn ka kb kc kd xs vX ys vY es ts ns ds ms ps vE vN vD vT vM vP)
 (hG : Grow teK 41 w.heap.size wr (others (famK w.heap.size xb kn ka kb kc kd xs vX ys vY es ts ns ds ms ps vE vN vD vT vM vP) 1) ys vY csl)
 (hR : RepT wr (owns (famK w.heap.size xb kn ka kb kc kd xs vX ys vY es ts ns ds ms ps vE vN vD vT vM vP)) x c)
 (ho : w1.ownsRow w.heap.size 41 4 v' (ys.length + 1) (csl.flatten ++ c)) (hg : wr.grownBy w1 vY.ownBlock) (hv : v'.ownBlock=vY.ownBlock\/v'.ownBlock=some wr.heap.size) (hx : w.heap.size<=xb) :
 (w1.cell? ⟨xb + 1,3,none⟩=some vY/\w1.frozen? ⟨xb + 1,3,none⟩=false)/\B3 w (w1.setCell ⟨xb + 1,3,none⟩ v') xb kn ka kb kc kd xs vX (ys ++ [x]) v' es ts ns ds ms ps vE vN vD vT vM vP := by
 have h1 := h.sep.push 1 rfl hG (x := x) (c := c) hR ho hg hv;have h2 := h1.store 2 rfl 3 v';exact ⟨⟨(h1.blk 2 rfl).cell 3,(h1.blk 2 rfl).frozen 3⟩,(h.below.grown hg h.below.size (fun b hb => (hG.blt hb).1)).setCell (by show w.heap.size<=xb + 1; omega) _,h2⟩
theorem B3.up (h : B3 w wr xb kn ka kb kc kd xs vX ys vY es ts ns ds ms ps vE vN vD vT vM vP) (hb : Below wr.heap.size wr wr') : B3 w wr' xb kn ka kb kc kd xs vX ys vY es ts ns ds ms ps vE vN vD vT vM vP :=
 ⟨h.below.trans (hb.mono h.below.size),h.sep.below hb⟩
theorem B3.leave (h : B3 w wr xb kn ka kb kc kd xs vX ys vY es ts ns ds ms ps vE vN vD vT vM vP) : B1 w wr es ts ns ds ms ps vE vN vD vT vM vP := ⟨h.below,(((h.sep.drop 0).drop 0).drop 0).drop 0⟩
theorem B3.box (h : B3 w wr xb kn ka kb kc kd xs vX ys vY es ts ns ds ms ps vE vN vD vT vM vP) (j1 : I64 kn.op) (j3 : kn.nm.size<=9223372036854775807) : ∃ aA cA aB cB,vX=.slice aA xs.length cA/\vY=.slice aB ys.length cB/\RepT wr (owns (famB w.heap.size es ts ns ds ms ps vE vN vD vT vM vP)) (.mk kn.op kn.nm xs ys) [.int .i64 kn.op,.string kn.nm,.slice aA xs.length cA,.slice aB ys.length cB] := by
 obtain ⟨aA,cA,hv,hS⟩ := h.sep.still 0 rfl;obtain ⟨aB,cB,hv2,hS2⟩ := h.sep.still 1 rfl;have key : ∀ b,b ∈ owns (famB w.heap.size es ts ns ds ms ps vE vN vD vT vM vP)->∀ i,i < 2->b ∈ others (famK w.heap.size xb kn ka kb kc kd xs vX ys vY es ts ns ds ms ps vE vN vD vT vM vP) i := by
  intro b hm i hi;obtain ⟨m,o,ho,hb'⟩ := mem_owns.1 hm;exact mem_others.2 ⟨m + 4,o,by omega,by simpa [famK] using ho,hb'⟩
 exact ⟨aA,cA,aB,cB,hv,hv2,RepT.mk' j1 j3 (hS.less (fun b _ hm => key b hm 0 (by omega))).slE (hS2.less (fun b _ hm => key b hm 1 (by omega))).slT⟩
end
def TreeIs (w : World) (X : List Nat) (es : List Ex) (ts : List Te) (cs : List Value) : Prop :=
 ∃ aE cE aN cN aD cD aT cT aM cM aP cP,cs=[.slice aE es.length cE,.slice aN (nds es).length cN,.slice aD (rks es).length cD,.slice aT ts.length cT,.slice aM (ndsT ts).length cM,.slice aP (rksT ts).length cP] /\
   SlR exK w X es aE es.length cE/\SlR i64K w X (nds es) aN (nds es).length cN/\SlR i64K w X (rks es) aD (rks es).length cD/\SlR teK w X ts aT ts.length cT/\SlR i64K w X (ndsT ts) aM (ndsT ts).length cM/\SlR i64K w X (rksT ts) aP (rksT ts).length cP
theorem TreeIs.kept {w w' : World} {X : List Nat} {es : List Ex} {ts : List Te} {cs : List Value} (h : TreeIs w X es ts cs) (k : Kept X w w') : TreeIs w' X es ts cs := by
 obtain ⟨aE,cE,aN,cN,aD,cD,aT,cT,aM,cM,aP,cP,e,h1,h2,h3,h4,h5,h6⟩ := h;exact ⟨aE,cE,aN,cN,aD,cD,aT,cT,aM,cM,aP,cP,e,h1.kept k,h2.kept k,h3.kept k,h4.kept k,h5.kept k,h6.kept k⟩
theorem TreeIs.less' {w : World} {X : List Nat} {es : List Ex} {ts : List Te} {cs : List Value} (h : TreeIs w X es ts cs) : TreeIs w [] es ts cs := by
 obtain ⟨aE,cE,aN,cN,aD,cD,aT,cT,aM,cM,aP,cP,e,h1,h2,h3,h4,h5,h6⟩ := h;have k : ∀ b,b < w.heap.size->b ∈ ([] : List Nat)->b ∈ X := fun b _ hb => absurd hb List.not_mem_nil
 exact ⟨aE,cE,aN,cN,aD,cD,aT,cT,aM,cM,aP,cP,e,h1.less k,h2.less k,h3.less k,h4.less k,h5.less k,h6.less k⟩
theorem B1.tree {w wr : World} {es : List Ex} {ts : List Te} {vE vN vD vT vM vP : Value} (h : B1 w wr es ts (nds es) (rks es) (ndsT ts) (rksT ts) vE vN vD vT vM vP) : TreeIs wr [w.heap.size] es ts [vE,vN,vD,vT,vM,vP] := by
 have key : ∀ i,i < 6->w.heap.size ∈ others (famB w.heap.size es ts (nds es) (rks es) (ndsT ts) (rksT ts) vE vN vD vT vM vP) i := fun i hi => mem_others.2 ⟨7,_,by omega,rfl,by simp [bx]⟩
 have sub : ∀ i,i < 6->∀ b,b ∈ [w.heap.size]->b ∈ others (famB w.heap.size es ts (nds es) (rks es) (ndsT ts) (rksT ts) vE vN vD vT vM vP) i := fun i hi b hb => by rw [List.mem_singleton] at hb; subst hb; exact key i hi
 obtain ⟨aE,cE,rfl,hE⟩ := h.sep.still 0 rfl;obtain ⟨aN,cN,rfl,hN⟩ := h.sep.still 1 rfl;obtain ⟨aD,cD,rfl,hD⟩ := h.sep.still 2 rfl;obtain ⟨aT,cT,rfl,hT⟩ := h.sep.still 3 rfl;obtain ⟨aM,cM,rfl,hM⟩ := h.sep.still 4 rfl;obtain ⟨aP,cP,rfl,hQ⟩ := h.sep.still 5 rfl;exact ⟨aE,cE,aN,cN,aD,cD,aT,cT,aM,cM,aP,cP,rfl,hE.less (fun b _ hm => sub 0 (by omega) b hm),hN.less (fun b _ hm => sub 1 (by omega) b hm),hD.less (fun b _ hm => sub 2 (by omega) b hm),hT.less (fun b _ hm => sub 3 (by omega) b hm),hM.less (fun b _ hm => sub 4 (by omega) b hm),hQ.less (fun b _ hm => sub 5 (by omega) b hm)⟩
theorem TreeIs.fin {w wr : World} {es : List Ex} {ts : List Te} {c0 c1 c2 c3 c4 c5 : Value} (h : TreeIs wr [w.heap.size] es ts [c0,c1,c2,c3,c4,c5]) (hb : Below w.heap.size w wr) :
 TreeIs ((((((wr.setCell ⟨w.heap.size,0,none⟩ c0).setCell ⟨w.heap.size,1,none⟩ c1).setCell ⟨w.heap.size,2,none⟩ c2).setCell ⟨w.heap.size,3,none⟩ c3).setCell ⟨w.heap.size,4,none⟩ c4).setCell ⟨w.heap.size,5,none⟩ c5) [w.heap.size] es ts [c0,c1,c2,c3,c4,c5] /\
 Below w.heap.size w ((((((wr.setCell ⟨w.heap.size,0,none⟩ c0).setCell ⟨w.heap.size,1,none⟩ c1).setCell ⟨w.heap.size,2,none⟩ c2).setCell ⟨w.heap.size,3,none⟩ c3).setCell ⟨w.heap.size,4,none⟩ c4).setCell ⟨w.heap.size,5,none⟩ c5) := by
 refine ⟨h.kept ((((((Kept.setCell wr (by simp) _).trans (Kept.setCell _ (by simp) _)).trans (Kept.setCell _ (by simp) _)).trans (Kept.setCell _ (by simp) _)).trans (Kept.setCell _ (by simp) _)).trans (Kept.setCell _ (by simp) _)),?_⟩;exact (((((hb.setCell (Nat.le_refl _) _).setCell (Nat.le_refl _) _).setCell (Nat.le_refl _) _).setCell (Nat.le_refl _) _).setCell (Nat.le_refl _) _).setCell (Nat.le_refl _) _
end
section
theorem kids_any (op : Int) (w : World) : Calls Tryz.prog 87 #[.int .i64 op] w fun e w' => e=.returned (.int .i64 (ar op))/\w=w' := by
 by_cases h5 : op=19
 . subst h5; rw [show ar 19=1 by decide]; go_enter Tryz.func87,Tryz.ntmps87; go_wp2; go_ret; exact ⟨rfl,rfl⟩
 by_cases h6 : op=20
 . subst h6; rw [show ar 20=1 by decide]; go_enter Tryz.func87,Tryz.ntmps87; go_wp2; go_ret; exact ⟨rfl,rfl⟩
 by_cases h7 : op=21
 . subst h7; rw [show ar 21=3 by decide]; go_enter Tryz.func87,Tryz.ntmps87; go_wp2; go_ret; exact ⟨rfl,rfl⟩
 have g5 : (op == 19)=false := by simp [h5]
 have g6 : (op == 20)=false := by simp [h6]
 have g7 : (op == 21)=false := by simp [h7]
 have HF : Hid (∀ x,ar op=x->Ending.returned (.int .i64 x)=.returned (.int .i64 (ar op))) := fun x h => by rw [h]
 have HD := LH9 (show ar op=if 1<=op/\op<=4 then 0 else if 5<=op/\op<=18 then 2 else if op=19\/op=20 then 1 else if op=21 then 3 else -1 from rfl);by_cases h1 : 1<=op <;> by_cases h2 : op<=4 <;> by_cases h3 : 5<=op <;> by_cases h4 : op<=18
 all_goals
  first
  | (exfalso; omega)
  | (go_enter Tryz.func87,Tryz.ntmps87
     go_wp2
     all_goals
      go_ret;exact ⟨HF.o _ (by rw [HD.o]; repeat' split <;> omega),rfl⟩)
theorem bE_all (l : List Ex) (h : ∀ (j : Nat) y,l[j]?=some y->bE y=true) : bE.go l=true := by
 rw [bE_go];have : (l.any fun e => !bE e)=false := by
  exact Z7_156
 rw [this]; rfl
theorem bE_not (l : List Ex) (k : Nat) (y : Ex) (h : l[k]?=some y) (hy : bE y=false) : bE.go l=false := by
 rw [bE_go];have : (l.any fun e => !bE e)=true := by
  rw [List.any_eq_true]; exact ⟨y,List.mem_of_getElem? h,by rw [hy]; rfl⟩
 rw [this]; rfl
theorem rbuiltExpr_any : ∀ (r : Nat) (e : Ex),e.rk<=r->∀ (cs : List Value) (w : World),RepE w [] e cs ->
 Calls Tryz.prog 56 #[.agg cs.toArray] w fun x w' => x=.returned (.bool (bE e))/\Below w.heap.size w w' := by
 intro r
 induction r with
 | zero => intro e h; have : 1<=e.rk := by cases e; simp only [Ex.rk]; omega
           omega
 | succ r ih =>
   intro e hr cs w hR;obtain ⟨op,n,nm,args,a,len,cap,rfl,rfl,i1,i2,i3,hS⟩ := hR.inv;obtain ⟨f1,f2,f3⟩ := hS.facts;have HS := LH9 hS;have HW0 := LH9 ((Below.refl w.heap.size w).alloc (Nat.le_refl _) (.cells #[.int .i64 op,.int .i64 n,.string nm,.slice a len cap] 74));have BX := LH9 (Mem.Blk.new w 74 #[.int .i64 op,.int .i64 n,.string nm,.slice a len cap]);have HI : Hid (∀ (k : Nat) e' cs' W,args[k]?=some e'->RepE W [] e' cs'->Calls Tryz.prog 56 #[.agg cs'.toArray] W fun x w' => x=.returned (.bool (bE e'))/\Below W.heap.size W w') := by
    intro k e' cs' W hk hR';exact ih e' (by have := Ex.rk_lt (op := op) (n := n) (nm := nm) hk; omega) cs' W hR'
   have HAR := LH9 (fun W => kids_any op W);have HFR := LH9 (fun W => rfree_any nm W i3);have HL := LH9 f1;have HB := LH9 (show bE (.mk op n nm args)=((ar op == (len : Nat)) && okE op n nm && bE.go args) by rw [<- f1]; rfl);have HO := LH9 (show okE op n nm=((n == 0 || op == 1 || op == 2) && (nm.toList.isEmpty || op == 3) && decide (0<=n) && !(op == 2 && decide (2932896 < n)) && !(op == 3 && !fre nm)) from rfl);have HT := LH9 (bE_all args);have HN := LH9 (bE_not args);have HF : Hid (∀ x,bE (.mk op n nm args)=x->Ending.returned (.bool x)=.returned (.bool (bE (.mk op n nm args)))) := fun x h => by rw [h]
   generalize bE (.mk op n nm args)=R at *;generalize bE.go args=C at *;generalize ar op=A at *;generalize fre nm=FR at *;generalize okE op n nm=OK at *;clear ih hr hR hS f1 i1 i2;by_cases hA : A=(len : Int)
   case neg =>
    have F := LH9 (HF.o false (by rw [HB.o]; simp [hA]));have t1 : ((len : Int) != A)=true := by simp; exact fun h => hA h.symm
    clear hA
    exact Z7_51
   subst hA;have HB2 := LH9 (show R=(((n == 0 || op == 1 || op == 2) && (nm.toList.isEmpty || op == 3) && decide (0<=n) && !(op == 2 && decide (2932896 < n)) && !(op == 3 && !FR)) && C) by rw [HB.o,HO.o]; simp);clear HB HO;by_cases o1 : op=1
   . subst o1;by_cases hneg : n < 0
     . have F := LH9 (HF.o false (by rw [HB2.o]; simp; omega))
       exact Z7_51
     cases he : nm.toList with
     | cons c0 ct =>
       have he2 : nm.toList.isEmpty=false := by rw [he]; rfl
       have he3 : (!nm.toList.isEmpty)=true := by rw [he2]; rfl
       have F := LH9 (HF.o false (by rw [HB2.o,he2]; simp));clear he
       exact Z7_51
     | nil =>
       have he2 : nm.toList.isEmpty=true := by rw [he]; rfl
       have F := LH9 (HF.o C (by rw [HB2.o,he2,decide_eq_true (show 0<=n by omega)]; simp))
       go_enter Tryz.func56,Tryz.ntmps56
       go_wp2_with fail;go_quiet ((go_at_call 87; exact quiet_left (HAR.o _)));go_wp2_with fail;have W1 := LH9 (below_drewN HW0.o nq);obtain ⟨B1,hB1⟩ : ∃ W,W=(w.alloc (.cells #[.int .i64 1,.int .i64 n,.string nm,.slice a len cap] 74)).drewN nq := ⟨_,rfl⟩;have BX1 : Hid (Mem.Blk B1 w.heap.size 74 #[.int .i64 1,.int .i64 n,.string nm,.slice a len cap]) := by rw [hB1]; exact BX.o
       rw [<- hB1] at W1 ⊢;clear hB1
       go_loopw [3] (fun i wr => ∃ k : Nat,i=.int .i64 (k : Nat)/\k<=len/\Hid (Below w.heap.size w wr)/\Hid (Mem.Blk wr w.heap.size 74 #[.int .i64 1,.int .i64 n,.string nm,.slice a len cap])/\Hid (∀ (j : Nat) y,j < k->args[j]?=some y->bE y=true)) (fun i _ => len - (intOf i).toNat)
       case atStart => exact ⟨0,rfl,Nat.zero_le _,W1.o,BX1.o,fun j y hj => absurd hj (Nat.not_lt_zero _)⟩
       case round =>
        obtain ⟨k,rfl,hk,HW,HX,HP⟩ := hrel;have c3 := HX.o.cell 3;rw [show (#[.int .i64 1,.int .i64 n,.string nm,.slice a len cap] : Array Value)[3]?=some (.slice a len cap) from rfl] at c3;exact Z7_20
   by_cases o2 : op=2
   . subst o2;by_cases hneg : n < 0
     . have F := LH9 (HF.o false (by rw [HB2.o]; simp; omega))
       exact Z7_51
     by_cases hbig : 2932896 < n
     . have F := LH9 (HF.o false (by rw [HB2.o]; simp [hbig]))
       exact Z7_51
     cases he : nm.toList with
     | cons c0 ct =>
       have he2 : nm.toList.isEmpty=false := by rw [he]; rfl
       have he3 : (!nm.toList.isEmpty)=true := by rw [he2]; rfl
       have F := LH9 (HF.o false (by rw [HB2.o,he2]; simp));clear he
       exact Z7_51
     | nil =>
       have he2 : nm.toList.isEmpty=true := by rw [he]; rfl
       have F := LH9 (HF.o C (by rw [HB2.o,he2,decide_eq_true (show 0<=n by omega),decide_eq_false hbig]; simp))
       go_enter Tryz.func56,Tryz.ntmps56
       go_wp2_with fail;go_quiet ((go_at_call 87; exact quiet_left (HAR.o _)));go_wp2_with fail;have W1 := LH9 (below_drewN HW0.o nq);obtain ⟨B1,hB1⟩ : ∃ W,W=(w.alloc (.cells #[.int .i64 2,.int .i64 n,.string nm,.slice a len cap] 74)).drewN nq := ⟨_,rfl⟩;have BX1 : Hid (Mem.Blk B1 w.heap.size 74 #[.int .i64 2,.int .i64 n,.string nm,.slice a len cap]) := by rw [hB1]; exact BX.o
       rw [<- hB1] at W1 ⊢;clear hB1
       go_loopw [3] (fun i wr => ∃ k : Nat,i=.int .i64 (k : Nat)/\k<=len/\Hid (Below w.heap.size w wr)/\Hid (Mem.Blk wr w.heap.size 74 #[.int .i64 2,.int .i64 n,.string nm,.slice a len cap])/\Hid (∀ (j : Nat) y,j < k->args[j]?=some y->bE y=true)) (fun i _ => len - (intOf i).toNat)
       case atStart => exact ⟨0,rfl,Nat.zero_le _,W1.o,BX1.o,fun j y hj => absurd hj (Nat.not_lt_zero _)⟩
       case round =>
        obtain ⟨k,rfl,hk,HW,HX,HP⟩ := hrel;have c3 := HX.o.cell 3;rw [show (#[.int .i64 2,.int .i64 n,.string nm,.slice a len cap] : Array Value)[3]?=some (.slice a len cap) from rfl] at c3;exact Z7_20
   by_cases o3 : op=3
   . subst o3;by_cases hn : n=0
     case neg =>
      have F := LH9 (HF.o false (by rw [HB2.o]; simp [hn]));have tn : (n != 0)=true := by simp [hn]
      clear hn
      exact Z7_51
     subst hn
     cases FR
     . have F := LH9 (HF.o false (by rw [HB2.o]; simp))
       go_enter Tryz.func56,Tryz.ntmps56
       go_wp2_with fail;go_quiet ((go_at_call 87; exact quiet_left (HAR.o _)));go_wp2_with fail;refine (HFR.o _).mono ?_; rintro x w1 ⟨rfl,b1⟩
       go_wp2
       go_ret;exact ⟨F.o,(below_drewN HW0.o _).trans (b1.mono (below_drewN HW0.o _).size)⟩
     . have F := LH9 (HF.o C (by rw [HB2.o]; simp))
       go_enter Tryz.func56,Tryz.ntmps56
       go_wp2_with fail;go_quiet ((go_at_call 87; exact quiet_left (HAR.o _)));go_wp2_with fail;refine (HFR.o _).mono ?_; rintro x B1 ⟨rfl,b1⟩;have W1 := LH9 ((below_drewN HW0.o _).trans (b1.mono (below_drewN HW0.o _).size));have BX1 := LH9 ((show Mem.Blk ((w.alloc (.cells #[.int .i64 3,.int .i64 0,.string nm,.slice a len cap] 74)).drewN nq) w.heap.size 74 #[.int .i64 3,.int .i64 0,.string nm,.slice a len cap] from BX.o).below b1);clear b1;go_wp2_with fail
       go_loopw [3] (fun i wr => ∃ k : Nat,i=.int .i64 (k : Nat)/\k<=len/\Hid (Below w.heap.size w wr)/\Hid (Mem.Blk wr w.heap.size 74 #[.int .i64 3,.int .i64 0,.string nm,.slice a len cap])/\Hid (∀ (j : Nat) y,j < k->args[j]?=some y->bE y=true)) (fun i _ => len - (intOf i).toNat)
       case atStart => exact ⟨0,rfl,Nat.zero_le _,W1.o,BX1.o,fun j y hj => absurd hj (Nat.not_lt_zero _)⟩
       case round =>
        obtain ⟨k,rfl,hk,HW,HX,HP⟩ := hrel;have c3 := HX.o.cell 3;rw [show (#[.int .i64 3,.int .i64 0,.string nm,.slice a len cap] : Array Value)[3]?=some (.slice a len cap) from rfl] at c3;exact Z7_20
   have g1 : (op == 1)=false := by simp [o1]
   have g2 : (op == 2)=false := by simp [o2]
   have g3 : (op == 3)=false := by simp [o3]
   by_cases hn : n=0
   case neg =>
    have F := LH9 (HF.o false (by rw [HB2.o]; simp [hn,o1,o2]));have tn : (n != 0)=true := by simp [hn]
    clear hn o1 o2 o3
    exact Z7_51
   subst hn
   cases he : nm.toList with
   | cons c0 ct =>
     have he2 : nm.toList.isEmpty=false := by rw [he]; rfl
     have he3 : (!nm.toList.isEmpty)=true := by rw [he2]; rfl
     have F := LH9 (HF.o false (by rw [HB2.o,he2]; simp [o3]));clear he o1 o2 o3
     exact Z7_51
   | nil =>
     have he2 : nm.toList.isEmpty=true := by rw [he]; rfl
     have F := LH9 (HF.o C (by rw [HB2.o,he2]; simp [o2,o3]));clear o1 o2 o3
     go_enter Tryz.func56,Tryz.ntmps56
     go_wp2_with fail;go_quiet ((go_at_call 87; exact quiet_left (HAR.o _)));go_wp2_with fail;have W1 := LH9 (below_drewN HW0.o nq);obtain ⟨B1,hB1⟩ : ∃ W,W=(w.alloc (.cells #[.int .i64 op,.int .i64 0,.string nm,.slice a len cap] 74)).drewN nq := ⟨_,rfl⟩;have BX1 : Hid (Mem.Blk B1 w.heap.size 74 #[.int .i64 op,.int .i64 0,.string nm,.slice a len cap]) := by rw [hB1]; exact BX.o
     rw [<- hB1] at W1 ⊢;clear hB1
     go_loopw [3] (fun i wr => ∃ k : Nat,i=.int .i64 (k : Nat)/\k<=len/\Hid (Below w.heap.size w wr)/\Hid (Mem.Blk wr w.heap.size 74 #[.int .i64 op,.int .i64 0,.string nm,.slice a len cap])/\Hid (∀ (j : Nat) y,j < k->args[j]?=some y->bE y=true)) (fun i _ => len - (intOf i).toNat)
     case atStart => exact ⟨0,rfl,Nat.zero_le _,W1.o,BX1.o,fun j y hj => absurd hj (Nat.not_lt_zero _)⟩
     case round =>
      obtain ⟨k,rfl,hk,HW,HX,HP⟩ := hrel;have c3 := HX.o.cell 3;rw [show (#[.int .i64 op,.int .i64 0,.string nm,.slice a len cap] : Array Value)[3]?=some (.slice a len cap) from rfl] at c3;exact Z7_20
end
end Go.Proofs.YtmiinmndbkdjbaaGreat
