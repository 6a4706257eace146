/- A part of the proof: Evb, Rb, EvX, FoldD, Lit, Flw, LiP, Fr, LiM, one behind another. -/
import Derived.Test.YtmiinmndbkdjbaaGreatMEA
import Derived.Test.YtmiinmndbkdjbaaGreatMEC
import Derived.Test.YtmiinmndbkdjbaaGreatMED
import Derived.Test.YtmiinmndbkdjbaaGreatMEE
import Derived.Test.YtmiinmndbkdjbaaGreatMEF
import Derived.Test.YtmiinmndbkdjbaaGreatMEI
import Derived.Maps.OwnSet
import Derived.Lib.Hide
import Derived.WalkKit
set_option maxRecDepth 100000
set_option maxHeartbeats 16000000
set_option linter.unusedVariables false
set_option linter.unusedSimpArgs false
namespace Go.Proofs.YtmiinmndbkdjbaaGreat
open Go.RowKit
section
theorem ev_two (w : World) (day : Int) (a : Option Addr) (len cap : Nat) (op n : Int) (nm : ByteArray) (b o cap' : Nat) (o0 n0 o1 n1 : Int) (m0 m1 : ByteArray) (a0 a1 : Option Addr) (l0 p0 l1 p1 : Nat) (A B : Vl) (hop : 5<=op/\op<=16) (hA : Ty 1 A) (hB : Ty 1 B) (iA : I64 A.N) (iB : I64 B.N)
 (h0 : Four w b o (.int .i64 o0) (.int .i64 n0) (.string m0) (.slice a0 l0 p0)) (h1 : Four w b (o + 4) (.int .i64 o1) (.int .i64 n1) (.string m1) (.slice a1 l1 p1))
 (HA : EvC w day a len cap (.int .i64 o0) (.int .i64 n0) (.string m0) (.slice a0 l0 p0) A) (HB : EvC w day a len cap (.int .i64 o1) (.int .i64 n1) (.string m1) (.slice a1 l1 p1) B) :
 Calls Tryz.prog 96 #[.agg #[.int .i64 day,.slice a len cap],.agg #[.int .i64 op,.int .i64 n,.string nm,.slice (some ⟨b,o,none⟩) 2 cap']] w fun x w' => RetV (opV op [A,B]) x/\Below w.heap.size w w' := by
 have H0 := LH9 h0;have H1 := LH9 h1;have HCA := LH9 HA;have HCB := LH9 HB;have HTA := LH9 hA.of1;have HTB := LH9 hB.of1;have HIA := LH9 iA;have HIB := LH9 iB;have HOP := LH9 hop;have ST := LH9 (EvSt.start w day a len cap op n nm (some ⟨b,o,none⟩) 2 cap');obtain ⟨R,hR⟩ : ∃ R,R=opV op [A,B] := ⟨_,rfl⟩;rw [<- hR];have HR : Hid (R=if A=.brk\/B=.brk then .brk else if A=.unk\/B=.unk then .unk else twoV op A.N B.N) := by rw [hR,opV_two (by omega)]; congr
 have z1 : (op == 1)=false := beq_eq_false_iff_ne.2 (by omega);have z2 : (op == 2)=false := beq_eq_false_iff_ne.2 (by omega);have z3 : (op == 3)=false := beq_eq_false_iff_ne.2 (by omega);have z4 : (op == 4)=false := beq_eq_false_iff_ne.2 (by omega);have z5 : (op == 17)=false := beq_eq_false_iff_ne.2 (by omega);have z6 : (op == 18)=false := beq_eq_false_iff_ne.2 (by omega);have z7 : (op == 19)=false := beq_eq_false_iff_ne.2 (by omega);have z8 : (op == 20)=false := beq_eq_false_iff_ne.2 (by omega);have z9 : (op == 21)=false := beq_eq_false_iff_ne.2 (by omega);clear hR h0 h1 HA HB hA hB iA iB hop
 go_enter Tryz.func96,Tryz.ntmps96
 go_upto_region 1 with (fail);generalize ((w.alloc (.cells #[.int .i64 day,.slice a len cap] 44)).alloc (.cells #[.int .i64 op,.int .i64 n,.string nm,.slice (some ⟨b,o,none⟩) 2 cap'] 74)).alloc (.cells #[.int .i64 0,.int .i64 0,.bool false] 150)=v at *;obtain ⟨e0,e1,-,-⟩ := ST.o.env.two;obtain ⟨x0,x1,x2,x3,-,-,-,-⟩ := blk4 ST.o.ex;go_upto_region 15 with (fail);clear e0 e1 x0 x1 x2 x3
 go_cut [7] (fun p W0 => ∃ g,p=.pointer (some ⟨g,0,none⟩)/\Hid (EvSt w W0 day a len cap op n nm (some ⟨b,o,none⟩) 2 cap')/\Hid (EvV w W0 g A))
 case first =>
  obtain ⟨e0,e1,-,-⟩ := ST.o.env.two;have x3 : v.cell? ⟨w.heap.size + 1,3,none⟩=_ := ST.o.ex.cell 3;simp only [List.getElem?_toArray,List.getElem?_cons_zero,List.getElem?_cons_succ] at x3;obtain ⟨u0,u1,u2,u3⟩ := H0.o;replace u0 := cu9 u0 ST.o.below;replace u1 := cu9 u1 ST.o.below;replace u2 := cu9 u2 ST.o.below;replace u3 := cu9 u3 ST.o.below;refine wp_region_till (S := fun W => (W.cell? ⟨w.heap.size,0,none⟩=some (.int .i64 day)/\W.cell? ⟨w.heap.size,1,none⟩=some (.slice a len cap))/\W.cell? ⟨w.heap.size + 1,3,none⟩=some (.slice (some ⟨b,o,none⟩) 2 cap')/\W.cell? ⟨b,o,none⟩=some (.int .i64 o0)/\W.cell? ⟨b,o + 1,none⟩=some (.int .i64 n0)/\W.cell? ⟨b,o + 2,none⟩=some (.string m0)/\W.cell? ⟨b,o + 3,none⟩=some (.slice a0 l0 p0)) 7 (by kernel_rfl) ?_;exact Z7_0
 obtain ⟨g,rfl,ST0,VA⟩ := hcut;obtain ⟨W0,rfl⟩ : ∃ W : World,W=wc := ⟨_,rfl⟩;clear ST;rcases HTA.o with rfl | rfl | ⟨x,rfl⟩
 . have HR1 : Hid (R=if B=.brk then .brk else .unk) := by rw [HR.o]; simp [Hid]
   clear HR;have t0 : W0.cell? ⟨g,0,none⟩=some (.int .i64 0) := VA.o.blk.cell 0;have t1 : W0.cell? ⟨g,1,none⟩=some (.int .i64 0) := VA.o.blk.cell 1;have t2 : W0.cell? ⟨g,2,none⟩=some (.bool false) := VA.o.blk.cell 2;obtain ⟨e0,e1,-,-⟩ := ST0.o.env.two;obtain ⟨x0,x1,x2,x3,-,-,-,-⟩ := blk4 ST0.o.ex;go_upto_region 30 with (fail);clear e0 e1 x0 x1 x2 x3 t0 t1 t2
   go_cut [9] (fun p W1 => ∃ g1,p=.pointer (some ⟨g1,0,none⟩)/\Hid (EvSt w W1 day a len cap op n nm (some ⟨b,o,none⟩) 2 cap')/\Hid (EvV w W1 g1 B)/\Hid (EvV w W1 g .unk))
   case first =>
    exact Z7_2
   obtain ⟨g1,rfl,ST1,VB,VA1⟩ := hcut;obtain ⟨W1,rfl⟩ : ∃ W : World,W=wc := ⟨_,rfl⟩;clear ST0 VA HCB HCA;rcases HTB.o with rfl | rfl | ⟨y,rfl⟩
   . obtain rfl : R=.unk := by rw [HR1.o]; simp
     have t0 : W1.cell? ⟨g,0,none⟩=some (.int .i64 0) := VA1.o.blk.cell 0;have t1 : W1.cell? ⟨g,1,none⟩=some (.int .i64 0) := VA1.o.blk.cell 1;have t2 : W1.cell? ⟨g,2,none⟩=some (.bool false) := VA1.o.blk.cell 2;have xt0 : W1.cell? ⟨g1,0,none⟩=some (.int .i64 0) := VB.o.blk.cell 0;have xt1 : W1.cell? ⟨g1,1,none⟩=some (.int .i64 0) := VB.o.blk.cell 1;exact Z7_49
   . obtain rfl : R=.brk := by rw [HR1.o]; simp
     have t0 : W1.cell? ⟨g,0,none⟩=some (.int .i64 0) := VA1.o.blk.cell 0;have t1 : W1.cell? ⟨g,1,none⟩=some (.int .i64 0) := VA1.o.blk.cell 1;exact Z7_61
   . obtain rfl : R=.unk := by rw [HR1.o]; simp
     have t0 : W1.cell? ⟨g,0,none⟩=some (.int .i64 0) := VA1.o.blk.cell 0;have t1 : W1.cell? ⟨g,1,none⟩=some (.int .i64 0) := VA1.o.blk.cell 1;have t2 : W1.cell? ⟨g,2,none⟩=some (.bool false) := VA1.o.blk.cell 2;have xt0 : W1.cell? ⟨g1,0,none⟩=some (.int .i64 1) := VB.o.blk.cell 0;have xt1 : W1.cell? ⟨g1,1,none⟩=some (.int .i64 y) := VB.o.blk.cell 1;exact Z7_49
 . obtain rfl : R=.brk := by rw [HR.o]; simp
   exact Z7_33
 . have HR1 : Hid (R=if B=.brk then .brk else if B=.unk then .unk else twoV op x B.N) := by rw [HR.o]; simp [Hid,Vl.N]
   have HX : Hid (I64 x) := HIA.o;clear HR HIA;have t0 : W0.cell? ⟨g,0,none⟩=some (.int .i64 1) := VA.o.blk.cell 0;have t1 : W0.cell? ⟨g,1,none⟩=some (.int .i64 x) := VA.o.blk.cell 1;have t2 : W0.cell? ⟨g,2,none⟩=some (.bool false) := VA.o.blk.cell 2;obtain ⟨e0,e1,-,-⟩ := ST0.o.env.two;obtain ⟨x0,x1,x2,x3,-,-,-,-⟩ := blk4 ST0.o.ex;go_upto_region 30 with (fail);clear e0 e1 x0 x1 x2 x3 t0 t1 t2
   go_cut [9] (fun p W1 => ∃ g1,p=.pointer (some ⟨g1,0,none⟩)/\Hid (EvSt w W1 day a len cap op n nm (some ⟨b,o,none⟩) 2 cap')/\Hid (EvV w W1 g1 B)/\Hid (EvV w W1 g (.num x)))
   case first =>
    exact Z7_2
   obtain ⟨g1,rfl,ST1,VB,VA1⟩ := hcut;obtain ⟨W1,rfl⟩ : ∃ W : World,W=wc := ⟨_,rfl⟩;clear ST0 VA HCB HCA;rcases HTB.o with rfl | rfl | ⟨y,rfl⟩
   . obtain rfl : R=.unk := by rw [HR1.o]; simp
     have t0 : W1.cell? ⟨g,0,none⟩=some (.int .i64 1) := VA1.o.blk.cell 0;have t1 : W1.cell? ⟨g,1,none⟩=some (.int .i64 x) := VA1.o.blk.cell 1;have t2 : W1.cell? ⟨g,2,none⟩=some (.bool false) := VA1.o.blk.cell 2;have xt0 : W1.cell? ⟨g1,0,none⟩=some (.int .i64 0) := VB.o.blk.cell 0;have xt1 : W1.cell? ⟨g1,1,none⟩=some (.int .i64 0) := VB.o.blk.cell 1;exact Z7_49
   . obtain rfl : R=.brk := by rw [HR1.o]; simp
     have t0 : W1.cell? ⟨g,0,none⟩=some (.int .i64 1) := VA1.o.blk.cell 0;have t1 : W1.cell? ⟨g,1,none⟩=some (.int .i64 x) := VA1.o.blk.cell 1;exact Z7_61
   . have HR2 : Hid (twoV op x y=R) := by rw [HR1.o]; simp [Hid,Vl.N]
     have HY : Hid (I64 y) := HIB.o;clear HR1 HIB;have t0 : W1.cell? ⟨g,0,none⟩=some (.int .i64 1) := VA1.o.blk.cell 0;have t1 : W1.cell? ⟨g,1,none⟩=some (.int .i64 x) := VA1.o.blk.cell 1;have t2 : W1.cell? ⟨g,2,none⟩=some (.bool false) := VA1.o.blk.cell 2;have xt0 : W1.cell? ⟨g1,0,none⟩=some (.int .i64 1) := VB.o.blk.cell 0;have xt1 : W1.cell? ⟨g1,1,none⟩=some (.int .i64 y) := VB.o.blk.cell 1;have xt2 : W1.cell? ⟨g1,2,none⟩=some (.bool false) := VB.o.blk.cell 2;obtain ⟨e0,e1,-,-⟩ := ST1.o.env.two;obtain ⟨x0,x1,x2,x3,-,-,-,-⟩ := blk4 ST1.o.ex;go_wp2_with fail;go_at_call 126;(with_reducible refine (two_any op x y _ HOP.o HX.o HY.o).mono ?_);rintro y' w2 ⟨hy,b2⟩;rw [HR2.o] at hy;clear HR2 t0 t1 t2 xt0 xt1 xt2;unfold RetV at hy;subst hy;have HP : Hid (RetV R (.returned (.agg #[.int .i64 R.K,.int .i64 R.N,.bool R.B]))) := rfl;have ST2 := LH9 (ST1.o.up b2);exact Z7_30
theorem eval_any (day : Int) (fx : List Fx) (a : Option Addr) (len cap : Nat) (hd : I64 day) : ∀ (r : Nat) (e : Ex),e.rk<=r->bE e=true->kE e ≠ 0->∀ (cs : List Value) (w : World),RepE w [] e cs->SlR fxK w [] fx a len cap ->
 Calls Tryz.prog 96 #[.agg #[.int .i64 day,.slice a len cap],.agg cs.toArray] w fun x w' => RetV (evalE day fx e) x/\Below w.heap.size w w' := by
 intro r
 induction r with
 | zero => intro e h; have := e.rk_pos; omega
 | succ r ih =>
   intro e hr hb hk cs w hR hS;have hnum := RepE.nums _ e (Nat.le_refl _) cs hR;have hfx := fxs_i64 hS;obtain ⟨op,n,nm,args,a',len',cap',rfl,rfl,i1,i2,i3,hSA⟩ := hR.inv;obtain ⟨g1,-,g3⟩ := bE_inv hb;have hkids := kid_kinds hb hk;have hop := ar_op (by omega : 0<=ar op);have hlen := hSA.facts.1;have hsh := fun h4 => eval_shape day fx hb hk (op := op) h4
   obtain ⟨-,hnk⟩ := hnum;rw [evalE_mk]
   -- the contracts of what lies within
   have hC : ∀ (k : Nat) (x : Ex) (c0 c1 : Int) (c2 : ByteArray) (s0 : Option Addr) (s1 s2 : Nat),args[k]?=some x->RepE w [] x [.int .i64 c0,.int .i64 c1,.string c2,.slice s0 s1 s2]->EvC w day a len cap (.int .i64 c0) (.int .i64 c1) (.string c2) (.slice s0 s1 s2) (evalE day fx x) := by
    exact Z7_115
   have hI : ∀ (k : Nat) (x : Ex),args[k]?=some x->I64 (evalE day fx x).N := fun k x hx => eval_i64 hd hfx x.rk x (Nat.le_refl _) (nums_go.1 hnk x (List.mem_of_getElem? hx))
   by_cases h4 : op<=4
   . have hl : args=[] := List.length_eq_zero_iff.1 (by rw [ar_nil hop.1 h4] at g1; omega);subst hl;exact evLeaf_any day fx a len cap op n nm a' len' cap' w hS ⟨hop.1,h4⟩
   . have hs := hsh (by omega);have hev : evO day fx op n nm (args.map (evalE day fx))=opV op (args.map (evalE day fx)) := by unfold evO; rw [if_neg (by omega),if_neg (by omega),if_neg (by omega)]
     rw [hev];have hcount : args.length=1\/args.length=2\/args.length=3 := by
      unfold ar at g1
      repeat' split at g1
      all_goals omega
     rcases hcount with hc | hc | hc
     . obtain ⟨x,rfl⟩ := one_of hc;obtain rfl : len'=1 := by omega
       obtain ⟨b,o,x',c0,c1,c2,s0,s1,s2,rfl,-,hx,hrep,hF⟩ := arg_at hSA 0 (by omega);obtain rfl : x=x' := by simpa using hx
       rw [Nat.zero_mul,Nat.add_zero] at hF;have h0 := hC 0 x _ _ _ _ _ _ rfl hrep;have h0i := hI 0 x rfl;simp only [List.map_cons,List.map_nil] at hs ⊢;generalize evalE day fx x=A at *;generalize kE x=kx at *;generalize kE (Ex.mk op n nm [x])=kk at *
       cases hs with
       | not ha => exact ev_not w day a len cap n nm b o cap' c0 c1 c2 s0 s1 s2 A ha hF h0
       | neg ha => exact ev_neg w day a len cap n nm b o cap' c0 c1 c2 s0 s1 s2 A ha h0i hF h0
     . obtain ⟨x,y,rfl⟩ := two_of hc;obtain rfl : len'=2 := by omega
       obtain ⟨b,o,x',c0,c1,c2,s0,s1,s2,rfl,-,hx,hrep,hF⟩ := arg_at hSA 0 (by omega);obtain rfl : x=x' := by simpa using hx
       obtain ⟨b',o',y',d0,d1,d2,t0,t1,t2,e,-,hy,hrep',hF'⟩ := arg_at hSA 1 (by omega);obtain rfl : y=y' := by simpa using hy
       injection e with e; injection e with e1 e2; subst e1; subst e2;rw [Nat.zero_mul,Nat.add_zero] at hF;rw [Nat.one_mul] at hF';have h0 := hC 0 x _ _ _ _ _ _ rfl hrep;have h1 := hC 1 y _ _ _ _ _ _ rfl hrep';have h0i := hI 0 x rfl;have h1i := hI 1 y rfl;simp only [List.map_cons,List.map_nil] at hs ⊢;generalize evalE day fx x=A at *;generalize evalE day fx y=B at *;generalize kE x=kx at *;generalize kE y=ky at *;generalize kE (Ex.mk op n nm [x,y])=kk at *
       cases hs with
       | two1 h ha hb' => exact ev_two w day a len cap op n nm b o cap' c0 c1 d0 d1 c2 d2 s0 t0 s1 s2 t1 t2 A B (by omega) ha hb' h0i h1i hF hF' h0 h1
       | cmp h ha hb' => exact ev_two w day a len cap op n nm b o cap' c0 c1 d0 d1 c2 d2 s0 t0 s1 s2 t1 t2 A B (by omega) ha hb' h0i h1i hF hF' h0 h1
       | both h ha hb' =>
         rw [opV_both h];exact ev_and w day a len cap op n nm b o cap' c0 c1 d0 d1 c2 d2 s0 t0 s1 s2 t1 t2 A B h hF hF' h0 h1
     . obtain ⟨x,y,z,rfl⟩ := three_of hc;obtain rfl : len'=3 := by omega
       obtain ⟨b,o,x',c0,c1,c2,s0,s1,s2,rfl,-,hx,hrep,hF⟩ := arg_at hSA 0 (by omega);obtain rfl : x=x' := by simpa using hx
       obtain ⟨b',o',y',d0,d1,d2,t0,t1,t2,e,-,hy,hrep',hF'⟩ := arg_at hSA 1 (by omega);obtain rfl : y=y' := by simpa using hy
       injection e with e; injection e with e1 e2; subst e1; subst e2;obtain ⟨b',o',z',f0,f1,f2,u0,u1,u2,e,-,hz,hrep2,hF2⟩ := arg_at hSA 2 (by omega);obtain rfl : z=z' := by simpa using hz
       injection e with e; injection e with e1 e2; subst e1; subst e2;rw [Nat.zero_mul,Nat.add_zero] at hF;rw [Nat.one_mul] at hF';have h0 := hC 0 x _ _ _ _ _ _ rfl hrep;have h1 := hC 1 y _ _ _ _ _ _ rfl hrep';have h2 := hC 2 z _ _ _ _ _ _ rfl hrep2;simp only [List.map_cons,List.map_nil] at hs ⊢;generalize evalE day fx x=A at *;generalize evalE day fx y=B at *;generalize evalE day fx z=C at *;generalize kE x=kx at *;generalize kE y=ky at *;generalize kE z=kz at *;generalize kE (Ex.mk op n nm [x,y,z])=kk at *
       cases hs with
       | cond ha hb' hc' => exact ev_if w day a len cap n nm b o cap' c0 c1 d0 d1 f0 f1 c2 d2 f2 s0 t0 u0 s1 s2 t1 t2 u1 u2 A B C ha hF hF' hF2 h0 h1 h2
end
section
theorem rE_blt {e : Ex} (h : rE e=true) : bE e=true := by unfold rE at h; rw [Bool.and_eq_true] at h; exact h.2
end
section
noncomputable def evalX (day : Int) (fx : List Fx) (e : Ex) : Vl := if kI e=0 then .brk else evalE day fx e
theorem obsEval_any (day : Int) (fx : List Fx) (a : Option Addr) (len cap : Nat) (e : Ex) (cs : List Value) (w : World) (hd : I64 day) (hR : RepE w [] e cs) (hk : e.rk<=1000) (hS : SlR fxK w [] fx a len cap) :
 Calls Tryz.prog 78 #[.agg cs.toArray,.agg #[.int .i64 day,.slice a len cap]] w fun x w' => RetV (evalX day fx e) x/\Below w.heap.size w w' := by
 have HQ := LH9 (fun W (hW : Below w.heap.size w W) => kindX_any e cs W (hR.kept (Kept.of_below hW [])) hk);have HE : Hid (∀ W,Below w.heap.size w W->kI e ≠ 0->Calls Tryz.prog 96 #[.agg #[.int .i64 day,.slice a len cap],.agg cs.toArray] W fun x W' => RetV (evalE day fx e) x/\Below W.heap.size W W') := by
  intro W hW h0;unfold kI at h0;by_cases hr : rE e=true
  . rw [if_pos hr] at h0;exact eval_any day fx a len cap hd e.rk e (Nat.le_refl _) (rE_blt hr) h0 cs W (hR.kept (Kept.of_below hW [])) (hS.kept (Kept.of_below hW []))
  . rw [if_neg hr] at h0; exact absurd rfl h0
 obtain ⟨R,hRR⟩ : ∃ R,R=evalX day fx e := ⟨_,rfl⟩;rw [<- hRR];have HR : Hid (R=if kI e=0 then .brk else evalE day fx e) := hRR;clear hRR;obtain ⟨op,n,nm,args,a',len',cap',-,rfl,i1,i2,i3,-⟩ := hR.inv;have B0 := Mem.Blk.new w 74 #[.int .i64 op,.int .i64 n,.string nm,.slice a' len' cap'];have B1 := Mem.Blk.new (w.alloc (.cells #[.int .i64 op,.int .i64 n,.string nm,.slice a' len' cap'] 74)) 44 #[.int .i64 day,.slice a len cap];have B2 := Mem.Blk.new ((w.alloc (.cells #[.int .i64 op,.int .i64 n,.string nm,.slice a' len' cap'] 74)).alloc (.cells #[.int .i64 day,.slice a len cap] 44)) 150 #[.int .i64 0,.int .i64 0,.bool false];have e1 : (w.alloc (.cells #[.int .i64 op,.int .i64 n,.string nm,.slice a' len' cap'] 74)).heap.size=w.heap.size + 1 := by simp
 have e2 : ((w.alloc (.cells #[.int .i64 op,.int .i64 n,.string nm,.slice a' len' cap'] 74)).alloc (.cells #[.int .i64 day,.slice a len cap] 44)).heap.size=w.heap.size + 1 + 1 := by simp
 have HB := LH9 ((((Below.refl w.heap.size w).alloc (Nat.le_refl _) (.cells #[.int .i64 op,.int .i64 n,.string nm,.slice a' len' cap'] 74)).alloc (by rw [e1]; omega) (.cells #[.int .i64 day,.slice a len cap] 44)).alloc (by rw [e2]; omega) (.cells #[.int .i64 0,.int .i64 0,.bool false] 150));rw [e1] at B1;rw [e2] at B2;have BX := LH9 ((B0.alloc (.cells #[.int .i64 day,.slice a len cap] 44)).alloc (.cells #[.int .i64 0,.int .i64 0,.bool false] 150));have BE := LH9 (B1.alloc (.cells #[.int .i64 0,.int .i64 0,.bool false] 150));have BR := LH9 B2;clear B0 B1 B2 e1 e2 hR hS i1 i2 i3 hk
 go_enter Tryz.func78,Tryz.ntmps78
 go_upto_region 1 with (fail);generalize ((w.alloc (.cells #[.int .i64 op,.int .i64 n,.string nm,.slice a' len' cap'] 74)).alloc (.cells #[.int .i64 day,.slice a len cap] 44)).alloc (.cells #[.int .i64 0,.int .i64 0,.bool false] 150)=v at *;obtain ⟨x0,x1,x2,x3,-,-,-,-⟩ := blk4 BX.o;go_wp2_with fail;go_at_call 63;(with_reducible refine (HQ.o _ HB.o).mono ?_);rintro y w1 ⟨rfl,b1⟩;have HB1 := bt9 HB b1;have BX1 := LH9 (BX.o.below b1);have BE1 := LH9 (BE.o.below b1);have BR1 := LH9 (BR.o.below b1);clear x0 x1 x2 x3 HB BX BE BR b1 HQ;by_cases h0 : kI e=0
 . obtain rfl : R=.brk := by rw [HR.o,if_pos h0]
   rw [h0];rw [show ((0 : Int) != 0)=false from rfl];clear HR HE h0;have HFN := LH9 (ret3 (.int .i64 3) (.int .i64 0) (.bool false) HB1.o (by omega : w.heap.size<=w.heap.size + 1 + 1) BR1.o);obtain ⟨q0,q1,q2,q3,q4,q5⟩ := blk3 BR1.o;have hm := BR1.o.lt;go_wp2_with fail;generalize ((w1.setCell ⟨w.heap.size + 1 + 1,0,none⟩ (.int .i64 3)).setCell ⟨w.heap.size + 1 + 1,1,none⟩ (.int .i64 0)).setCell ⟨w.heap.size + 1 + 1,2,none⟩ (.bool false)=W9 at *;obtain ⟨r0,r1,r2,-,-,-⟩ := blk3 HFN.o.2;refine bodyPost_ret (v := .agg #[.int .i64 3,.int .i64 0,.bool false]) (by simp [results,Tryz.results78,go_sem,r0,r1,r2]) rfl ⟨rfl,HFN.o.1⟩
 . have HR2 : R=evalE day fx e := by rw [HR.o,if_neg h0]
   have HE2 := LH9 (fun W hW => HE.o W hW h0);rw [<- HR2] at HE2;clear HR2;rw [show (kI e != 0)=true from bne_iff_ne.2 h0];clear HR HE h0;generalize kI e=kk at *;obtain ⟨x0,x1,x2,x3,-,-,-,-⟩ := blk4 BX1.o;obtain ⟨e0,e1,-,-⟩ := BE1.o.two;go_wp2_with fail;go_at_call 96;(with_reducible refine (HE2.o _ HB1.o).mono ?_);rintro y w2 ⟨hy,b2⟩;unfold RetV at hy;subst hy;have HP : Hid (RetV R (.returned (.agg #[.int .i64 R.K,.int .i64 R.N,.bool R.B]))) := rfl;have HB2 := bt9 HB1 b2;have BR2 := LH9 (BR1.o.below b2);clear x0 x1 x2 x3 e0 e1 b2 HB1 BR1 BX1 BE1 HE2;generalize R.K=rk at *;generalize R.N=rn at *;generalize R.B=rb at *;have HFN := LH9 (ret3 (.int .i64 rk) (.int .i64 rn) (.bool rb) HB2.o (by omega : w.heap.size<=w.heap.size + 1 + 1) BR2.o);obtain ⟨q0,q1,q2,q3,q4,q5⟩ := blk3 BR2.o;have hm := BR2.o.lt;go_wp2_with fail;generalize ((w2.setCell ⟨w.heap.size + 1 + 1,0,none⟩ (.int .i64 rk)).setCell ⟨w.heap.size + 1 + 1,1,none⟩ (.int .i64 rn)).setCell ⟨w.heap.size + 1 + 1,2,none⟩ (.bool rb)=W9 at *;obtain ⟨r0,r1,r2,-,-,-⟩ := blk3 HFN.o.2;refine bodyPost_ret (v := .agg #[.int .i64 rk,.int .i64 rn,.bool rb]) (by simp [results,Tryz.results78,go_sem,r0,r1,r2]) rfl ⟨HP.o,HFN.o.1⟩
end
section
def madeM (op a b : Int) : Option Int :=
 if op=5 then fitI (a + b) else if op=6 then fitI (a - b) else if op=7 then fitI (a * b) else if op=8 then (if b=0 then none else fitI (a.fdiv b))
 else if op=9\/op=10 then (if (decide (a < b))=(decide (op=9)) then some a else some b) else if op=20 then fitI (-a) else none
def valsD (l : List Ex) : List Int := l.map fun e => (knownE e).getD 0
def allK (l : List Ex) : Bool := decide (0 < l.length) && l.all fun e => (knownE e).isSome
def foldOD (op n : Int) (nm : ByteArray) (l : List Ex) : Ex :=
 if allK l=true then (match madeM op ((valsD l).getD 0 0) ((valsD l).getD 1 0) with | some v => if v=minI then .mk op n nm l else constE v | none => .mk op n nm l) else .mk op n nm l
def foldD : Ex->Ex
 | .mk op n nm l => foldOD op n nm (go l)
 where go : List Ex->List Ex
 | [] => []
 | e :: t => foldD e :: go t
def foldT : Te->Te
 | .mk op nm x l => .mk op nm (x.map foldE) (go l)
 where go : List Te->List Te
 | [] => []
 | e :: t => foldT e :: go t
end
section
theorem RepE.free {w : World} {X : List Nat} {e : Ex} {cs : List Value} (h : RepE w X e cs) : RepE w [] e cs := h.less (fun _ _ hm => absurd hm List.not_mem_nil)
theorem SlR.free {α : Type} {K : Elt α} {w : World} {X : List Nat} {l : List α} {a : Option Addr} {len cap : Nat} (h : SlR K w X l a len cap) : SlR K w [] l a len cap := h.less (fun _ _ hm => absurd hm List.not_mem_nil)
theorem SlR.lit {α : Type} {K : Elt α} {w : World} {X : List Nat} {g : Nat} {ty : TypeId} {cs : Array Value} {l : List α} (csl : List (List Value)) (hB : Mem.Blk w g ty cs) (hg : g ∉ X) (hf : cs.toList=csl.flatten) (hc : csl.length=l.length)
 (he : ∀ (i : Nat) x c,l[i]?=some x->csl[i]?=some c->K.R w X x c) (n : Nat) (hn : l.length=n) (hm : n<=9223372036854775807) : SlR K w X l (some ⟨g,0,none⟩) n n := by
 subst hn;have h4 : ∀ c ∈ csl,c.length=K.sz := by
  exact Z7_103
 refine ⟨csl,hc,he,hc,Nat.le_refl _,hm,fun _ => ⟨g,0,rfl,hB.lt,hg,fun i c hi => ?_⟩⟩;have hl := h4 c (List.mem_of_getElem? hi);refine ⟨hl,fun j u hj => ?_⟩;have hjs : j < K.sz := by rw [<- hl]; exact (List.getElem?_eq_some_iff.1 hj).1
 rw [Nat.zero_add,hB.cell,<- Array.getElem?_toList,hf,flat_get K.sz csl h4 i j c hi hjs];exact hj
theorem SlR.lit1 {α : Type} {K : Elt α} {w : World} {X : List Nat} {g : Nat} {ty : TypeId} {c : List Value} {x : α} (hB : Mem.Blk w g ty c.toArray) (hg : g ∉ X) (h : K.R w X x c) : SlR K w X [x] (some ⟨g,0,none⟩) 1 1 := by
 refine SlR.lit (l := [x]) [c] hB hg (by simp) rfl (fun i y d hy hd => ?_) 1 rfl (by decide)
 match i,hy,hd with
 | 0,hy,hd => simp at hy hd; subst hy; subst hd; exact h
 | k + 1,hy,_ => simp at hy
theorem SlR.lit2 {α : Type} {K : Elt α} {w : World} {X : List Nat} {g : Nat} {ty : TypeId} {c d : List Value} {x y : α} {cs : Array Value} (hB : Mem.Blk w g ty cs) (hcs : cs.toList=c ++ d) (hg : g ∉ X) (h : K.R w X x c) (h' : K.R w X y d) : SlR K w X [x,y] (some ⟨g,0,none⟩) 2 2 := by
 refine SlR.lit (l := [x,y]) [c,d] hB hg (by simpa using hcs) rfl (fun i z e hy hd => ?_) 2 rfl (by decide)
 match i,hy,hd with
 | 0,hy,hd => simp at hy hd; subst hy; subst hd; exact h
 | 1,hy,hd => simp at hy hd; subst hy; subst hd; exact h'
 | k + 2,hy,_ => simp at hy
end
section
structure Flw where
 coin : ByteArray
 amt : Int
def flC (f : Flw) : List Value := [.string f.coin,.int .i64 f.amt]
structure FlOk (f : Flw) : Prop where
 coin : f.coin.size<=maxLen
 amt : I64 f.amt
def flK : Elt Flw where
 sz := 2
 pos := by decide
 R := fun _ _ a cs => cs=flC a/\FlOk a
 kept := fun h _ => h
 less := fun h _ => h
 one := fun h => by obtain ⟨rfl,_⟩ := h; exact ⟨rfl,by simp [flC,Value.oneCell']⟩
theorem fl_at {w : World} {X : List Nat} {l : List Flw} {a : Option Addr} {len cap : Nat} (h : SlR flK w X l a len cap) (k : Nat) (hk : k < len) :
 ∃ b o x,a=some ⟨b,o,none⟩/\l[k]?=some x/\FlOk x/\w.cell? ⟨b,o + k * 2,none⟩=some (.string x.coin)/\w.cell? ⟨b,o + k * 2 + 1,none⟩=some (.int .i64 x.amt) := by
 obtain ⟨b,o,f,cs,ha,hb,hX,hf,⟨rfl,h1⟩,-,hc⟩ := h.at k hk;exact ⟨b,o,f,ha,hf,h1,hc 0 _ rfl,hc 1 _ rfl⟩
theorem infoLF : (Tryz.prog.info? 66).map (fun i => (i.zero,i.size,i.bytes))=some (some (.agg #[.string ⟨#[]⟩,.int .i64 0]),2,24) := by kernel_rfl
theorem below_nT (w : World) (o : Obj) : Below w.heap.size w (w.alloc o) := (Below.refl w.heap.size w).alloc (Nat.le_refl _) o
theorem cellT {w w' : World} {a : Addr} {v : Value} (h : w.cell? a=some v) (b : Below w.heap.size w w') : w'.cell? a=some v := by
 rw [World.cell?_of_block (w := w) (b.block a.block (World.block_lt_of_cell? w a h))]; exact h
end
section
structure Prt where
 factor : Int
 turned : Bool
 til : List Ex
 term : Te
structure RS where
 ps : List Prt
 fs : List Flw
 bad : Bool
def zE : Ex := .mk 0 0 ⟨#[]⟩ []
def zT : Te := .mk 0 ⟨#[]⟩ [] []
def t0 (t : Te) : Te := t.terms.getD 0 zT
def t1 (t : Te) : Te := t.terms.getD 1 zT
def x0 (t : Te) : Ex := t.exprs.getD 0 zE
def waitW (acq : Te->Int->Bool->List Ex->RS->RS) (v : Vl) (t : Te) (f : Int) (tn : Bool) (un : List Ex) (s : RS) : RS :=
 if v.K=3 then { s with bad := true }
 else if t.op=6/\v.K=1 then acq (t0 t) (fitN (fitI (f * v.N))) tn un { s with bad := !(fitB (fitI (f * v.N))) }
 else if t.op=7/\v.B=true then acq (t0 t) f tn un s
 else { s with ps := s.ps ++ [⟨f,tn,un,t⟩] }
noncomputable def acqB (day : Int) (fx : List Fx) (A : Te->Int->Bool->List Ex->RS->RS) (t : Te) (f : Int) (tn : Bool) (un : List Ex) (s : RS) : RS :=
 if s.bad=true then s
 else if t.op=2 then (if f=0 then s else { s with fs := s.fs ++ [⟨t.nm,f⟩] })
 else if t.op=3 then A (t0 t) (fitN (fitI (-f))) (!tn) un { s with bad := !(fitB (fitI (-f))) }
 else if t.op=4 then A (t1 t) f tn un (A (t0 t) f tn un s)
 else if t.op=8 then
  (if (evalX day fx (x0 t)).K=3 then { s with bad := true }
   else if (evalX day fx (x0 t)).B=true then s
   else A (t0 t) f tn (un ++ [x0 t]) s)
 else if t.op=6\/t.op=7 then waitW A (evalX day fx (x0 t)) t f tn un s
 else if t.op=5\/t.op=9 then { s with ps := s.ps ++ [⟨f,tn,un,t⟩] }
 else s
noncomputable def acqF (day : Int) (fx : List Fx) : Nat->Te->Int->Bool->List Ex->RS->RS
 | 0 => fun _ _ _ _ s => s
 | r + 1 => acqB day fx (acqF day fx r)
theorem acqF_bad (day : Int) (fx : List Fx) (r : Nat) (t : Te) (f : Int) (tn : Bool) (un : List Ex) (s : RS) (h : s.bad=true) : acqF day fx r t f tn un s=s := by
 cases r with
 | zero => rfl
 | succ r => show acqB day fx _ t f tn un s=s; unfold acqB; rw [if_pos h]
theorem te_kids {t : Te} (hb : bT t=true) : (t.op=3\/t.op=6\/t.op=7\/t.op=8\/t.op=9->t.terms=[t0 t])/\(t.op=4\/t.op=5->t.terms=[t0 t,t1 t])/\(t.op=6\/t.op=7\/t.op=8\/t.op=9->t.exprs=[x0 t])/\1<=t.op/\t.op<=9 := by
 obtain ⟨op,nm,x,l⟩ := t;obtain ⟨h1,h2,-⟩ := bT_inv hb;unfold arX at h1;unfold arT at h2;unfold t0 t1 x0;show (op=3\/op=6\/op=7\/op=8\/op=9->l=[l.getD 0 zT])/\(op=4\/op=5->l=[l.getD 0 zT,l.getD 1 zT])/\(op=6\/op=7\/op=8\/op=9->x=[x.getD 0 zE])/\1<=op/\op<=9;have one : ∀ {α : Type} (l : List α) (d : α),l.length=1->l=[l.getD 0 d] := by
  intro α l d h
  match l,h with
  | [a],_ => rfl
 have two : ∀ {α : Type} (l : List α) (d : α),l.length=2->l=[l.getD 0 d,l.getD 1 d] := by
  intro α l d h
  match l,h with
  | [a,b],_ => rfl
 refine ⟨fun h => one l zT ?_,fun h => two l zT ?_,fun h => one x zE ?_,?_,?_⟩
 . rw [if_neg (by omega)] at h2
   split at h2
   . omega
   . rw [if_neg (by omega),if_pos (by omega)] at h2; omega
 . rw [if_neg (by omega),if_neg (by omega),if_pos (by omega)] at h2; omega
 . rw [if_neg (by omega),if_pos (by omega)] at h1; omega
 . split at h1
   . omega
   . split at h1 <;> omega
 . split at h1
   . omega
   . split at h1 <;> omega
theorem rk_kid {t u : Te} (h : u ∈ t.terms) : u.rk < t.rk := by
 obtain ⟨op,nm,x,l⟩ := t;obtain ⟨k,hk⟩ := List.getElem?_of_mem h;exact Te.rk_lt hk
theorem rk_kidX {t : Te} {e : Ex} (h : e ∈ t.exprs) : e.rk < t.rk := by
 obtain ⟨op,nm,x,l⟩ := t;have h1 := Ex.rk_mem h;have h2 : (Te.mk op nm x l).rk=1 + max (Ex.rk.go x) (Te.rk.go l) := rfl;have h3 : Ex.rk.go (Te.mk op nm x l).exprs=Ex.rk.go x := rfl;omega
theorem bT_kid {t u : Te} (hb : bT t=true) (h : u ∈ t.terms) : bT u=true := by
 obtain ⟨op,nm,x,l⟩ := t;obtain ⟨-,-,-,-,h5⟩ := bT_inv hb;exact h5 u h
theorem waitW_ext {A B : Te->Int->Bool->List Ex->RS->RS} {v : Vl} {t : Te} (h : (t.op=6\/t.op=7)->A (t0 t)=B (t0 t)) : waitW A v t=waitW B v t := by
 funext f tn un s
 unfold waitW;by_cases h3 : v.K=3
 . rw [if_pos h3,if_pos h3]
 rw [if_neg h3,if_neg h3];by_cases h6 : t.op=6/\v.K=1
 . rw [if_pos h6,if_pos h6,h (.inl h6.1)]
 rw [if_neg h6,if_neg h6];by_cases h7 : t.op=7/\v.B=true
 . rw [if_pos h7,if_pos h7,h (.inr h7.1)]
 rw [if_neg h7,if_neg h7]
theorem acqB_ext {day : Int} {fx : List Fx} {A B : Te->Int->Bool->List Ex->RS->RS} {t : Te} (h0 : (t.op=3\/t.op=6\/t.op=7\/t.op=8\/t.op=9\/t.op=4\/t.op=5)->A (t0 t)=B (t0 t)) (h1 : t.op=4->A (t1 t)=B (t1 t)) : acqB day fx A t=acqB day fx B t := by
 funext f tn un s
 unfold acqB;by_cases hbad : s.bad=true
 . rw [if_pos hbad,if_pos hbad]
 rw [if_neg hbad,if_neg hbad];by_cases h2 : t.op=2
 . rw [if_pos h2,if_pos h2]
 rw [if_neg h2,if_neg h2];by_cases h3 : t.op=3
 . rw [if_pos h3,if_pos h3,h0 (by omega)]
 rw [if_neg h3,if_neg h3];by_cases h4 : t.op=4
 . rw [if_pos h4,if_pos h4,h0 (by omega),h1 h4]
 rw [if_neg h4,if_neg h4];by_cases h8 : t.op=8
 . rw [if_pos h8,if_pos h8,h0 (by omega)]
 rw [if_neg h8,if_neg h8];by_cases h6 : t.op=6\/t.op=7
 . rw [if_pos h6,if_pos h6,waitW_ext (A := A) (B := B) (fun _ => h0 (by omega))]
 rw [if_neg h6,if_neg h6]
theorem kids_ext {t : Te} (hb : bT t=true) {A B : Te->Int->Bool->List Ex->RS->RS} (h : ∀ u ∈ t.terms,A u=B u) : ((t.op=3\/t.op=6\/t.op=7\/t.op=8\/t.op=9\/t.op=4\/t.op=5)->A (t0 t)=B (t0 t))/\(t.op=4->A (t1 t)=B (t1 t)) := by
 obtain ⟨k1,k2,-⟩ := te_kids hb;refine ⟨fun h' => h _ ?_,fun h' => h _ ?_⟩
 . by_cases h4 : t.op=4\/t.op=5
   . rw [k2 h4]; exact List.mem_cons_self ..
   . rw [k1 (by omega)]; exact List.mem_cons_self ..
 . rw [k2 (.inl h')]; exact List.mem_cons_of_mem _ (List.mem_cons_self ..)
theorem acqF_up (day : Int) (fx : List Fx) : ∀ (r : Nat) (t : Te),bT t=true->t.rk<=r->acqF day fx (r + 1) t=acqF day fx r t := by
 intro r
 induction r with
 | zero =>
   intro t hb hr;exact Z7_100
 | succ r ih =>
   intro t hb hr;obtain ⟨i0,i1⟩ := kids_ext hb (A := acqF day fx (r + 1)) (B := acqF day fx r) (fun u hu => ih u (bT_kid hb hu) (by have := rk_kid hu; omega));exact acqB_ext i0 i1
theorem acqF_to (day : Int) (fx : List Fx) {t : Te} (hb : bT t=true) : ∀ {r q : Nat},t.rk<=r->r<=q->acqF day fx q t=acqF day fx r t := by
 intro r q h1 h2;obtain ⟨d,rfl⟩ := Nat.exists_eq_add_of_le h2;clear h2
 induction d with
 | zero => rfl
 | succ d ih => rw [<- Nat.add_assoc,acqF_up day fx (r + d) t hb (by omega),ih]
noncomputable def acq (day : Int) (fx : List Fx) (t : Te) : Int->Bool->List Ex->RS->RS := acqF day fx t.rk t
theorem acq_of (day : Int) (fx : List Fx) {t : Te} (hb : bT t=true) {r : Nat} (h : t.rk<=r) : acqF day fx r t=acq day fx t := acqF_to day fx hb (Nat.le_refl _) h
theorem acq_bad {day : Int} {fx : List Fx} {t : Te} {f : Int} {tn : Bool} {un : List Ex} {s : RS} (h : s.bad=true) : acq day fx t f tn un s=s := acqF_bad _ _ _ _ _ _ _ _ h
theorem acq_eq (day : Int) (fx : List Fx) {t : Te} (hb : bT t=true) (f : Int) (tn : Bool) (un : List Ex) (s : RS) : acq day fx t f tn un s=acqB day fx (acq day fx) t f tn un s := by
 obtain ⟨i0,i1⟩ := kids_ext hb (A := acqF day fx t.rk) (B := acq day fx) (fun u hu => acq_of day fx (bT_kid hb hu) (by have := rk_kid hu; omega));have e : acq day fx t=acqF day fx (t.rk + 1) t := (acq_of day fx hb (by omega)).symm;rw [e];exact congrFun (congrFun (congrFun (congrFun (acqB_ext i0 i1) f) tn) un) s
end
section
structure Fr (X : List Nat) (w w' : World) : Prop where
 os : w'.os=w.os
 tape : w'.tape=w.tape
 output : w'.output=w.output
 kept : Kept X w w'
section
variable {X X' : List Nat} {w w' w'' : World}
theorem Fr.refl (X : List Nat) (w : World) : Fr X w w := ⟨rfl,rfl,rfl,Kept.refl w X⟩
theorem Fr.trans (h : Fr X w w') (k : Fr X w' w'') : Fr X w w'' := ⟨k.os.trans h.os,k.tape.trans h.tape,k.output.trans h.output,h.kept.trans k.kept⟩
theorem Fr.of_below (h : Below w.heap.size w w') (X : List Nat) : Fr X w w' := ⟨h.os,h.tape,h.output,Kept.of_below h X⟩
theorem Fr.setCell (w : World) {p : Addr} (hp : p.block ∈ X) (v : Value) : Fr X w (w.setCell p v) :=
 have b : Below 0 w (w.setCell p v) := (Below.refl 0 w).setCell (Nat.zero_le _) v
 ⟨b.os,b.tape,b.output,Kept.setCell w hp v⟩
theorem Fr.size (h : Fr X w w') : w.heap.size<=w'.heap.size := h.kept.1
theorem Fr.below {B : Nat} (h : Fr X w w') (hB : B<=w.heap.size) (hX : ∀ b ∈ X,B<=b) : Below B w w' :=
 ⟨h.os,h.tape,h.output,h.kept.1,fun k hk => h.kept.2 k (by omega) (fun hm => by have := hX k hm; omega)⟩
theorem Fr.blk {g : Nat} {t : TypeId} {cs : Array Value} (h : Fr X w w') (hB : Mem.Blk w g t cs) (hg : g ∉ X) : Mem.Blk w' g t cs := (h.kept.2 g hB.lt hg).trans hB
theorem Fr.cell {p : Addr} {v : Value} (h : Fr X w w') (hc : w.cell? p=some v) (hg : p.block ∉ X) : w'.cell? p=some v := by
 have hlt : p.block < w.heap.size := by
  rcases Nat.lt_or_ge p.block w.heap.size with h1 | h1
  . exact h1
  . have : w.heap[p.block]?=none := Array.getElem?_eq_none h1;simp [World.cell?,this] at hc
 rw [World.cell?_of_block (w := w) (h.kept.2 p.block hlt hg)]; exact hc
end
end
section
def ptK : Elt Prt where
 sz := 7
 pos := by decide
 R := fun w X p cs => ∃ a cap ct,cs=.int .i64 p.factor :: .bool p.turned :: .slice a p.til.length cap :: ct/\I64 p.factor/\SlR exK w X p.til a p.til.length cap/\RepT w X p.term ct
 kept := fun h k => by obtain ⟨a,cap,ct,h1,h2,h3,h4⟩ := h; exact ⟨a,cap,ct,h1,h2,h3.kept k,h4.kept k⟩
 less := fun h k => by obtain ⟨a,cap,ct,h1,h2,h3,h4⟩ := h; exact ⟨a,cap,ct,h1,h2,h3.less k,h4.less k⟩
 one := fun h => by
  obtain ⟨a,cap,ct,rfl,h2,h3,h4⟩ := h;obtain ⟨l1,l2⟩ := h4.one;refine ⟨by simp [l1],fun u hu => ?_⟩;rcases List.mem_cons.1 hu with rfl | hu
  . rfl
  rcases List.mem_cons.1 hu with rfl | hu
  . rfl
  rcases List.mem_cons.1 hu with rfl | hu
  . rfl
  exact l2 u hu
def famR (base rb : Nat) (day : Int) (fx : List Fx) (fa : Option Addr) (fl fc : Nat) (s : RS) (vP vF : Value) : List Ob :=
 [gr ptK 88 base s.ps vP,gr flK 66 base s.fs vF,bx rb 86 #[.int .i64 day,.slice fa fl fc,vP,vF,.bool s.bad],sl fxK fx fa fl fc]
structure RunJ (base rb : Nat) (day : Int) (fx : List Fx) (fa : Option Addr) (fl fc : Nat) (w : World) (s : RS) (vP vF : Value) : Prop where
 sep : Sep w (famR base rb day fx fa fl fc s vP vF)
def X3 (rb : Nat) (vP vF : Value) : List Nat := vP.ownBlock.toList ++ (vF.ownBlock.toList ++ [rb])
section
variable {base rb : Nat} {day : Int} {fx : List Fx} {fa : Option Addr} {fl fc : Nat} {w w' : World} {s : RS} {vP vF vP' vF' : Value}
theorem owns_famR : owns (famR base rb day fx fa fl fc s vP vF)=X3 rb vP vF := by
 show vP.ownBlock.toList ++ (vF.ownBlock.toList ++ ([rb] ++ ([] ++ [])))=_
 rfl
structure RunTo (base rb : Nat) (day : Int) (fx : List Fx) (fa : Option Addr) (fl fc : Nat) (w w' : World) (vP vF : Value) (s : RS) (vP' vF' : Value) : Prop where
 run : RunJ base rb day fx fa fl fc w' s vP' vF'
 fr : Fr (X3 rb vP vF) w w'
 new : ∀ b ∈ X3 rb vP' vF',(b ∈ X3 rb vP vF\/w.heap.size<=b)/\b < w'.heap.size
theorem RunJ.lt (h : RunJ base rb day fx fa fl fc w s vP vF) : ∀ b ∈ X3 rb vP vF,b < w.heap.size := by rw [<- owns_famR (base := base) (day := day) (fx := fx) (fa := fa) (fl := fl) (fc := fc) (s := s)]; exact h.sep.lt
theorem RunJ.to (h : RunJ base rb day fx fa fl fc w s vP vF) : RunTo base rb day fx fa fl fc w w vP vF s vP vF := ⟨h,Fr.refl _ _,fun b hb => ⟨.inl hb,h.lt b hb⟩⟩
theorem RunTo.trans {w2 : World} {s2 : RS} {vP2 vF2 : Value} (h : RunTo base rb day fx fa fl fc w w' vP vF s vP' vF') (k : RunTo base rb day fx fa fl fc w' w2 vP' vF' s2 vP2 vF2) : RunTo base rb day fx fa fl fc w w2 vP vF s2 vP2 vF2 :=
 ⟨k.run,⟨k.fr.os.trans h.fr.os,k.fr.tape.trans h.fr.tape,k.fr.output.trans h.fr.output,Nat.le_trans h.fr.size k.fr.size,fun b hb hx => (k.fr.kept.2 b (Nat.lt_of_lt_of_le hb h.fr.size) (fun hm => by
  rcases (h.new b hm).1 with h1 | h1
  . exact hx h1
  . omega)).trans (h.fr.kept.2 b hb hx)⟩,fun b hb => ⟨by
  rcases (k.new b hb).1 with h1 | h1
  . exact (h.new b h1).1
  . exact .inr (Nat.le_trans h.fr.size h1),(k.new b hb).2⟩⟩
theorem RunTo.rep {α : Type} {K : Elt α} {x : α} {cs : List Value} (h : RunTo base rb day fx fa fl fc w w' vP vF s vP' vF') (hR : K.R w (X3 rb vP vF) x cs) : K.R w' (X3 rb vP' vF') x cs :=
 K.to hR h.fr.kept (fun b hb => hb) (fun b hb => (h.new b hb).1)
theorem RunTo.slr {α : Type} {K : Elt α} {l : List α} {a : Option Addr} {len cap : Nat} (h : RunTo base rb day fx fa fl fc w w' vP vF s vP' vF') (hR : SlR K w (X3 rb vP vF) l a len cap) : SlR K w' (X3 rb vP' vF') l a len cap :=
 hR.to h.fr.kept (fun b hb => hb) (fun b hb => (h.new b hb).1)
theorem RunJ.below (h : RunJ base rb day fx fa fl fc w s vP vF) (hb : Below w.heap.size w w') : RunTo base rb day fx fa fl fc w w' vP vF s vP vF :=
 ⟨⟨h.sep.below hb⟩,Fr.of_below hb _,fun b hm => ⟨.inl hm,Nat.lt_of_lt_of_le (h.lt b hm) hb.size⟩⟩
theorem RunJ.cells (h : RunJ base rb day fx fa fl fc w s vP vF) : Mem.Blk w rb 86 #[.int .i64 day,.slice fa fl fc,vP,vF,.bool s.bad] := h.sep.blk 2 rfl
theorem RunJ.seen (h : RunJ base rb day fx fa fl fc w s vP vF) : SlR fxK w [] fx fa fl fc := (h.sep.at 3 rfl : SlR fxK w _ fx fa fl fc).less (fun b _ hm => nomatch hm)
theorem RunJ.setBad (h : RunJ base rb day fx fa fl fc w s vP vF) (b : Bool) : RunTo base rb day fx fa fl fc w (w.setCell ⟨rb,4,none⟩ (.bool b)) vP vF { s with bad := b } vP vF :=
 ⟨⟨h.sep.store 2 rfl 4 (.bool b)⟩,Fr.setCell w (p := ⟨rb,4,none⟩) (by unfold X3; simp) _,fun q hm => ⟨.inl hm,by rw [World.size_setCell]; exact h.lt q hm⟩⟩
theorem RunJ.pushP {w1 : World} {csl : List (List Value)} {v' : Value} {x : Prt} {c : List Value} (h : RunJ base rb day fx fa fl fc w s vP vF)
 (hG : Grow ptK 88 base w (others (famR base rb day fx fa fl fc s vP vF) 0) s.ps vP csl)
 (hR : ptK.R w (X3 rb vP vF) x c)
 (ho : w1.ownsRow base 88 7 v' (s.ps.length + 1) (csl.flatten ++ c)) (hg : w.grownBy w1 vP.ownBlock) (hv : v'.ownBlock=vP.ownBlock\/v'.ownBlock=some w.heap.size) :
 RunTo base rb day fx fa fl fc w (w1.setCell ⟨rb,2,none⟩ v') vP vF { s with ps := s.ps ++ [x] } v' vF := by
 have h1 := h.sep.push 0 rfl hG (x := x) (c := c) (by rw [owns_famR]; exact hR) ho hg hv;have h2 := h1.store 2 rfl 2 v';have hj : RunJ base rb day fx fa fl fc (w1.setCell ⟨rb,2,none⟩ v') { s with ps := s.ps ++ [x] } v' vF := ⟨h2⟩;have hk := hG.row hg;have hs : (w1.setCell ⟨rb,2,none⟩ v').heap.size=w1.heap.size := World.size_setCell ..;exact Z7_88
theorem RunJ.pushF {w1 : World} {csl : List (List Value)} {v' : Value} {x : Flw} {c : List Value} (h : RunJ base rb day fx fa fl fc w s vP vF)
 (hG : Grow flK 66 base w (others (famR base rb day fx fa fl fc s vP vF) 1) s.fs vF csl)
 (hR : flK.R w (X3 rb vP vF) x c)
 (ho : w1.ownsRow base 66 2 v' (s.fs.length + 1) (csl.flatten ++ c)) (hg : w.grownBy w1 vF.ownBlock) (hv : v'.ownBlock=vF.ownBlock\/v'.ownBlock=some w.heap.size) :
 RunTo base rb day fx fa fl fc w (w1.setCell ⟨rb,3,none⟩ v') vP vF { s with fs := s.fs ++ [x] } vP v' := by
 have h1 := h.sep.push 1 rfl hG (x := x) (c := c) (by rw [owns_famR]; exact hR) ho hg hv;have h2 := h1.store 2 rfl 3 v';have hj : RunJ base rb day fx fa fl fc (w1.setCell ⟨rb,3,none⟩ v') { s with fs := s.fs ++ [x] } vP v' := ⟨h2⟩;have hk := hG.row hg;refine ⟨hj,⟨hg.os,hg.tape,hg.output,?_⟩,fun b hb => ⟨?_,hj.lt b hb⟩⟩
 . refine (Kept.trans (hk.more (X' := X3 rb vP vF) (fun b hb => by unfold X3; exact List.mem_append_right _ (List.mem_append_left _ hb))) (Kept.setCell w1 (p := ⟨rb,3,none⟩) (by unfold X3; simp) v'))
 . unfold X3 at hb ⊢;rcases List.mem_append.1 hb with hb | hb
   . exact .inl (List.mem_append_left _ hb)
   rcases List.mem_append.1 hb with hb | hb
   . exact or_map (own_next hv b hb) (fun h => List.mem_append_right _ (List.mem_append_left _ h)) id
   . exact .inl (List.mem_append_right _ (List.mem_append_right _ hb))
end
end
end Go.Proofs.YtmiinmndbkdjbaaGreat
