/- A part of the proof: Evm, one behind another. -/
import Derived.Test.YtmiinmndbkdjbaaGreatMTA
import Derived.Test.YtmiinmndbkdjbaaGreatMTI
import Derived.Lib.Hide
import Derived.WalkKit
set_option maxRecDepth 100000
set_option maxHeartbeats 16000000
set_option linter.unusedVariables false
set_option linter.unusedSimpArgs false
namespace Go.Proofs.YtmiinmndbkdjbaaGreat
open Go.RowKit
section
theorem ev_and (w : World) (day : Int) (a : Option Addr) (len cap : Nat) (op n : Int) (nm : ByteArray) (b o cap' : Nat) (o0 n0 o1 n1 : Int) (m0 m1 : ByteArray) (a0 a1 : Option Addr) (l0 p0 l1 p1 : Nat) (A B : Vl) (hop : op=17∨op=18)
 (h0 : Four w b o (.int .i64 o0) (.int .i64 n0) (.string m0) (.slice a0 l0 p0)) (h1 : Four w b (o + 4) (.int .i64 o1) (.int .i64 n1) (.string m1) (.slice a1 l1 p1))
 (HA : EvC w day a len cap (.int .i64 o0) (.int .i64 n0) (.string m0) (.slice a0 l0 p0) A) (HB : EvC w day a len cap (.int .i64 o1) (.int .i64 n1) (.string m1) (.slice a1 l1 p1) B) :
 Calls Tryz.prog 96 #[.agg #[.int .i64 day,.slice a len cap],.agg #[.int .i64 op,.int .i64 n,.string nm,.slice (some ⟨b,o,none⟩) 2 cap']] w fun x w' => RetV (bothV (decide (op=18)) A B) x∧Below w.heap.size w w' := by
 have ST := LH9 (EvSt.start w day a len cap op n nm (some ⟨b,o,none⟩) 2 cap');have h0' : ∀ W,Below w.heap.size w W→Four W b o (.int .i64 o0) (.int .i64 n0) (.string m0) (.slice a0 l0 p0) := fun W hW => ⟨cu9 h0.1 hW,cu9 h0.2.1 hW,cu9 h0.2.2.1 hW,cu9 h0.2.2.2 hW⟩
 have h1' : ∀ W,Below w.heap.size w W→Four W b (o + 4) (.int .i64 o1) (.int .i64 n1) (.string m1) (.slice a1 l1 p1) := fun W hW => ⟨cu9 h1.1 hW,cu9 h1.2.1 hW,cu9 h1.2.2.1 hW,cu9 h1.2.2.2 hW⟩
 have HBO := LH9 (fun (s : Bool) W (hW : Below w.heap.size w W) => both_any s day a len cap op n nm b o cap' o0 n0 o1 n1 m0 m1 a0 a1 l0 p0 l1 p1 A B W (h0' W hW) (h1' W hW) (fun V hV => HA V (hW.trans (hV.mono hW.size))) (fun V hV => HB V (hW.trans (hV.mono hW.size))));clear h0 h1 h0' h1' HA HB;rcases hop with rfl | rfl
 · have HR : Hid (bothV false A B=bothV (decide ((17 : Int)=18)) A B) := by rfl
   obtain ⟨R,hR⟩ : ∃ R,R=bothV (decide ((17 : Int)=18)) A B := ⟨_,rfl⟩;rw [← hR] at HR ⊢;clear hR
   go_enter Tryz.func96,Tryz.ntmps96
   go_upto_region 1 with (fail)
   generalize ((w.alloc (.cells #[.int .i64 day,.slice a len cap] 44)).alloc (.cells #[.int .i64 17,.int .i64 n,.string nm,.slice (some ⟨b,o,none⟩) 2 cap'] 74)).alloc (.cells #[.int .i64 0,.int .i64 0,.bool false] 150)=v at *;obtain ⟨e0,e1,-,-⟩ := ST.o.env.two;obtain ⟨x0,x1,x2,x3,-,-,-,-⟩ := blk4 ST.o.ex
   go_wp2_with fail
   go_at_call 124;(with_reducible refine (HBO.o false v ST.o.below).mono ?_);rintro y w2 ⟨hy,b2⟩;rw [HR.o] at hy;clear HR HBO;unfold RetV at hy;subst hy;have HP : Hid (RetV R (.returned (.agg #[.int .i64 R.K,.int .i64 R.N,.bool R.B]))) := rfl;have ST2 := LH9 (ST.o.up b2);clear b2;generalize R.K=rk at *;generalize R.N=rn at *;generalize R.B=rb at *
   try clear e0 e1 x0 x1 x2 x3
   have HFN := LH9 (ret3 (.int .i64 rk) (.int .i64 rn) (.bool rb) ST2.o.below (by omega : w.heap.size≤w.heap.size + 1 + 1) ST2.o.res);obtain ⟨q0,q1,q2,q3,q4,q5⟩ := blk3 ST2.o.res;have hm := ST2.o.lt
   go_wp2_with fail
   generalize ((w2.setCell ⟨w.heap.size + 1 + 1,0,none⟩ (.int .i64 rk)).setCell ⟨w.heap.size + 1 + 1,1,none⟩ (.int .i64 rn)).setCell ⟨w.heap.size + 1 + 1,2,none⟩ (.bool rb)=W9 at *;obtain ⟨r0,r1,r2,-,-,-⟩ := blk3 HFN.o.2;refine bodyPost_ret (v := .agg #[.int .i64 rk,.int .i64 rn,.bool rb]) (by simp [results,Tryz.results96,go_sem,r0,r1,r2]) rfl ⟨HP.o,HFN.o.1⟩
 · have HR : Hid (bothV true A B=bothV (decide ((18 : Int)=18)) A B) := by rfl
   obtain ⟨R,hR⟩ : ∃ R,R=bothV (decide ((18 : Int)=18)) A B := ⟨_,rfl⟩;rw [← hR] at HR ⊢;clear hR
   go_enter Tryz.func96,Tryz.ntmps96
   go_upto_region 1 with (fail)
   generalize ((w.alloc (.cells #[.int .i64 day,.slice a len cap] 44)).alloc (.cells #[.int .i64 18,.int .i64 n,.string nm,.slice (some ⟨b,o,none⟩) 2 cap'] 74)).alloc (.cells #[.int .i64 0,.int .i64 0,.bool false] 150)=v at *;obtain ⟨e0,e1,-,-⟩ := ST.o.env.two;obtain ⟨x0,x1,x2,x3,-,-,-,-⟩ := blk4 ST.o.ex
   go_wp2_with fail
   go_at_call 124;(with_reducible refine (HBO.o true v ST.o.below).mono ?_);rintro y w2 ⟨hy,b2⟩;rw [HR.o] at hy;clear HR HBO;unfold RetV at hy;subst hy;have HP : Hid (RetV R (.returned (.agg #[.int .i64 R.K,.int .i64 R.N,.bool R.B]))) := rfl;have ST2 := LH9 (ST.o.up b2);clear b2;generalize R.K=rk at *;generalize R.N=rn at *;generalize R.B=rb at *
   try clear e0 e1 x0 x1 x2 x3
   have HFN := LH9 (ret3 (.int .i64 rk) (.int .i64 rn) (.bool rb) ST2.o.below (by omega : w.heap.size≤w.heap.size + 1 + 1) ST2.o.res);obtain ⟨q0,q1,q2,q3,q4,q5⟩ := blk3 ST2.o.res;have hm := ST2.o.lt
   go_wp2_with fail
   generalize ((w2.setCell ⟨w.heap.size + 1 + 1,0,none⟩ (.int .i64 rk)).setCell ⟨w.heap.size + 1 + 1,1,none⟩ (.int .i64 rn)).setCell ⟨w.heap.size + 1 + 1,2,none⟩ (.bool rb)=W9 at *;obtain ⟨r0,r1,r2,-,-,-⟩ := blk3 HFN.o.2;refine bodyPost_ret (v := .agg #[.int .i64 rk,.int .i64 rn,.bool rb]) (by simp [results,Tryz.results96,go_sem,r0,r1,r2]) rfl ⟨HP.o,HFN.o.1⟩
theorem ev_not (w : World) (day : Int) (a : Option Addr) (len cap : Nat) (n : Int) (nm : ByteArray) (b o cap' : Nat) (o0 n0 : Int) (m0 : ByteArray) (a0 : Option Addr) (l0 p0 : Nat) (A : Vl) (hA : Ty 2 A)
 (h0 : Four w b o (.int .i64 o0) (.int .i64 n0) (.string m0) (.slice a0 l0 p0)) (HA : EvC w day a len cap (.int .i64 o0) (.int .i64 n0) (.string m0) (.slice a0 l0 p0) A) :
 Calls Tryz.prog 96 #[.agg #[.int .i64 day,.slice a len cap],.agg #[.int .i64 19,.int .i64 n,.string nm,.slice (some ⟨b,o,none⟩) 1 cap']] w fun x w' => RetV (opV 19 [A]) x∧Below w.heap.size w w' := by
 have H0 := LH9 h0;have HCA := LH9 HA;have HTA := LH9 hA.of2;have ST := LH9 (EvSt.start w day a len cap 19 n nm (some ⟨b,o,none⟩) 1 cap');have HR : Hid (opV 19 [A]=opV 19 [A]) := rfl;obtain ⟨R,hR⟩ : ∃ R,R=opV 19 [A] := ⟨_,rfl⟩;rw [← hR];replace HR := LH9 hR;clear hR h0 HA hA
 go_enter Tryz.func96,Tryz.ntmps96
 go_upto_region 1 with (fail)
 generalize ((w.alloc (.cells #[.int .i64 day,.slice a len cap] 44)).alloc (.cells #[.int .i64 19,.int .i64 n,.string nm,.slice (some ⟨b,o,none⟩) 1 cap'] 74)).alloc (.cells #[.int .i64 0,.int .i64 0,.bool false] 150)=v at *;obtain ⟨e0,e1,-,-⟩ := ST.o.env.two;obtain ⟨x0,x1,x2,x3,-,-,-,-⟩ := blk4 ST.o.ex
 go_upto_region 15 with (fail)
 clear e0 e1 x0 x1 x2 x3
 go_cut [7] (fun p W0 => ∃ g,p=.pointer (some ⟨g,0,none⟩)∧Hid (EvSt w W0 day a len cap 19 n nm (some ⟨b,o,none⟩) 1 cap')∧Hid (EvV w W0 g A))
 case first =>
  obtain ⟨e0,e1,-,-⟩ := ST.o.env.two;have x3 : v.cell? ⟨w.heap.size + 1,3,none⟩=_ := ST.o.ex.cell 3;simp only [List.getElem?_toArray,List.getElem?_cons_zero,List.getElem?_cons_succ] at x3;obtain ⟨u0,u1,u2,u3⟩ := H0.o;replace u0 := cu9 u0 ST.o.below;replace u1 := cu9 u1 ST.o.below;replace u2 := cu9 u2 ST.o.below;replace u3 := cu9 u3 ST.o.below;refine wp_region_till (S := fun W => (W.cell? ⟨w.heap.size,0,none⟩=some (.int .i64 day)∧W.cell? ⟨w.heap.size,1,none⟩=some (.slice a len cap))∧W.cell? ⟨w.heap.size + 1,3,none⟩=some (.slice (some ⟨b,o,none⟩) 1 cap')∧W.cell? ⟨b,o,none⟩=some (.int .i64 o0)∧W.cell? ⟨b,o + 1,none⟩=some (.int .i64 n0)∧W.cell? ⟨b,o + 2,none⟩=some (.string m0)∧W.cell? ⟨b,o + 3,none⟩=some (.slice a0 l0 p0)) 7 (by kernel_rfl) ?_;refine tk 0 ⟨⟨e0,e1⟩,x3,u0,u1,u2,u3⟩ ?_;refine tk 1 ⟨⟨e0,e1⟩,x3,u0,u1,u2,u3⟩ ?_;refine tk 2 ⟨⟨e0,e1⟩,x3,u0,u1,u2,u3⟩ ?_;refine tk 3 ⟨⟨e0,e1⟩,x3,u0,u1,u2,u3⟩ ?_;refine tk 4 ⟨⟨e0,e1⟩,x3,u0,u1,u2,u3⟩ ?_;refine till_two (i := 5) (j := 6) (by kernel_rfl) rfl rfl (fun K' hK => ?_) (fun K' hK => ?_)
  · go_simp;go_at_call 96;(with_reducible refine (EvC.run HCA.o _ ST.o.below.drew).mono ?_);rintro y w1 ⟨hy,b1⟩;unfold RetV at hy;subst hy;have hd := (Below.refl v.heap.size v).drew;have ST1 := LH9 ((ST.o.up hd).up b1);have bt := hd.trans (b1.mono hd.size);have GG := LH9 (True.intro);replace e0 := cu9 e0 bt;replace e1 := cu9 e1 bt;replace x3 := cu9 x3 bt;replace u0 := cu9 u0 bt;replace u1 := cu9 u1 bt;replace u2 := cu9 u2 bt;replace u3 := cu9 u3 bt;refine hK _ _ ⟨⟨e0,e1⟩,x3,u0,u1,u2,u3⟩ ?_;clear hK K' b1 hd bt
    try simp only [Act.put,zp1,zp2,zp3,zp4,zp5,zp6]
    refine till_one (i := 6) (by kernel_rfl) rfl (fun K' hK => ?_);go_simp;have bn := (Below.refl w1.heap.size w1).alloc (Nat.le_refl _) (.cells #[.int .i64 0,.int .i64 0,.bool false] 150);have ST2 := LH9 (ST1.o.up bn);have BZ := LH9 (Mem.Blk.new w1 150 #[.int .i64 0,.int .i64 0,.bool false]);have HZ := LH9 ST1.o.lt;have HP := LH9 (True.intro);refine hK _ _ ⟨⟨cu9 e0 bn,cu9 e1 bn⟩,cu9 x3 bn,cu9 u0 bn,cu9 u1 bn,cu9 u2 bn,cu9 u3 bn⟩ ?_;clear hK K' bn ST1 e0 e1 x3 u0 u1 u2 u3 GG;generalize w1.alloc (.cells #[.int .i64 0,.int .i64 0,.bool false] 150)=w2 at *;generalize w1.heap.size=z at *
    try simp only [Act.put,zp1,zp2,zp3,zp4,zp5,zp6]
    obtain ⟨t0,t1,t2,t3,t4,t5⟩ := blk3 BZ.o;have hm := BZ.o.lt;refine till_last (by kernel_rfl) rfl (by kernel_rfl) (fun K' hK => ?_);go_simp;have HS9 := LH9 (ST2.o.far3 HZ.o (.int .i64 A.K) (.int .i64 A.N) (.bool A.B));have HV9 := LH9 (EvV.mk (v := A) HZ.o (((BZ.o.set_ 0 (.int .i64 A.K)).set_ 1 (.int .i64 A.N)).set_ 2 (.bool A.B)));refine hK _ _ ?_;clear hK K'
    try simp only [Act.put,zp1,zp2,zp3,zp4,zp5,zp6]
    refine wpAny_done (by kernel_rfl) ?_ _
    go_wp2_with fail
    go_meet
    case rel => exact ⟨z,rfl,HS9.o,HV9.o⟩
  · go_simp;have bn := below_new v (.cells #[.int .i64 0,.int .i64 0,.bool false] 150);have ST1 := LH9 (ST.o.up bn);have BZ1 := LH9 (Mem.Blk.new v 150 #[.int .i64 0,.int .i64 0,.bool false]).drew;have HZ := LH9 ST.o.lt;have HQ := LH9 (True.intro);replace e0 := cu9 e0 bn;replace e1 := cu9 e1 bn;replace x3 := cu9 x3 bn;replace u0 := cu9 u0 bn;replace u1 := cu9 u1 bn;replace u2 := cu9 u2 bn;replace u3 := cu9 u3 bn;refine hK _ _ ⟨⟨e0,e1⟩,x3,u0,u1,u2,u3⟩ ?_;clear hK K' bn;generalize (v.alloc (.cells #[.int .i64 0,.int .i64 0,.bool false] 150)).drew=w1 at *;generalize v.heap.size=z at *
    try simp only [Act.put,zp1,zp2,zp3,zp4,zp5,zp6]
    refine till_one (i := 5) (by kernel_rfl) rfl (fun K' hK => ?_);go_simp;go_at_call 96;(with_reducible refine (EvC.run HCA.o _ ST1.o.below).mono ?_);rintro y w2 ⟨hy,b1⟩;unfold RetV at hy;subst hy;have ST2 := LH9 (ST1.o.up b1);have BZ := LH9 (BZ1.o.below b1);have HP := LH9 (True.intro);refine hK _ _ ⟨⟨cu9 e0 b1,cu9 e1 b1⟩,cu9 x3 b1,cu9 u0 b1,cu9 u1 b1,cu9 u2 b1,cu9 u3 b1⟩ ?_;clear hK K' b1 ST1 BZ1 e0 e1 x3 u0 u1 u2 u3 HQ
    try simp only [Act.put,zp1,zp2,zp3,zp4,zp5,zp6]
    obtain ⟨t0,t1,t2,t3,t4,t5⟩ := blk3 BZ.o;have hm := BZ.o.lt;refine till_last (by kernel_rfl) rfl (by kernel_rfl) (fun K' hK => ?_);go_simp;have HS9 := LH9 (ST2.o.far3 HZ.o (.int .i64 A.K) (.int .i64 A.N) (.bool A.B));have HV9 := LH9 (EvV.mk (v := A) HZ.o (((BZ.o.set_ 0 (.int .i64 A.K)).set_ 1 (.int .i64 A.N)).set_ 2 (.bool A.B)));refine hK _ _ ?_;clear hK K'
    try simp only [Act.put,zp1,zp2,zp3,zp4,zp5,zp6]
    refine wpAny_done (by kernel_rfl) ?_ _
    go_wp2_with fail
    go_meet
    case rel => exact ⟨z,rfl,HS9.o,HV9.o⟩
 obtain ⟨g,rfl,ST0,VA⟩ := hcut;obtain ⟨W0,rfl⟩ : ∃ W : World,W=wc := ⟨_,rfl⟩;clear ST;rcases HTA.o with rfl | rfl | ⟨t,rfl⟩
 · obtain rfl : R=.unk := HR.o;have t0 : W0.cell? ⟨g,0,none⟩=some (.int .i64 0) := VA.o.blk.cell 0;have t1 : W0.cell? ⟨g,1,none⟩=some (.int .i64 0) := VA.o.blk.cell 1;have t2 : W0.cell? ⟨g,2,none⟩=some (.bool false) := VA.o.blk.cell 2;obtain ⟨e0,e1,-,-⟩ := ST0.o.env.two;obtain ⟨x0,x1,x2,x3,-,-,-,-⟩ := blk4 ST0.o.ex;have HFN := LH9 (ret3 (.int .i64 0) (.int .i64 0) (.bool false) ST0.o.below (by omega : w.heap.size≤w.heap.size + 1 + 1) ST0.o.res);obtain ⟨q0,q1,q2,q3,q4,q5⟩ := blk3 ST0.o.res;have hm := ST0.o.lt
   go_wp2_with fail
   generalize ((W0.setCell ⟨w.heap.size + 1 + 1,0,none⟩ (.int .i64 0)).setCell ⟨w.heap.size + 1 + 1,1,none⟩ (.int .i64 0)).setCell ⟨w.heap.size + 1 + 1,2,none⟩ (.bool false)=W9 at *;obtain ⟨r0,r1,r2,-,-,-⟩ := blk3 HFN.o.2;refine bodyPost_ret (v := .agg #[.int .i64 0,.int .i64 0,.bool false]) (by simp [results,Tryz.results96,go_sem,r0,r1,r2]) rfl ⟨rfl,HFN.o.1⟩
 · obtain rfl : R=.brk := HR.o;have t0 : W0.cell? ⟨g,0,none⟩=some (.int .i64 3) := VA.o.blk.cell 0;have t1 : W0.cell? ⟨g,1,none⟩=some (.int .i64 0) := VA.o.blk.cell 1;have t2 : W0.cell? ⟨g,2,none⟩=some (.bool false) := VA.o.blk.cell 2;obtain ⟨e0,e1,-,-⟩ := ST0.o.env.two;obtain ⟨x0,x1,x2,x3,-,-,-,-⟩ := blk4 ST0.o.ex;have HFN := LH9 (ret3 (.int .i64 3) (.int .i64 0) (.bool false) ST0.o.below (by omega : w.heap.size≤w.heap.size + 1 + 1) ST0.o.res);obtain ⟨q0,q1,q2,q3,q4,q5⟩ := blk3 ST0.o.res;have hm := ST0.o.lt
   go_wp2_with fail
   generalize ((W0.setCell ⟨w.heap.size + 1 + 1,0,none⟩ (.int .i64 3)).setCell ⟨w.heap.size + 1 + 1,1,none⟩ (.int .i64 0)).setCell ⟨w.heap.size + 1 + 1,2,none⟩ (.bool false)=W9 at *;obtain ⟨r0,r1,r2,-,-,-⟩ := blk3 HFN.o.2;refine bodyPost_ret (v := .agg #[.int .i64 3,.int .i64 0,.bool false]) (by simp [results,Tryz.results96,go_sem,r0,r1,r2]) rfl ⟨rfl,HFN.o.1⟩
 · have HR2 : Hid (Vl.tru (!t)=R) := HR.o.symm;have t0 : W0.cell? ⟨g,0,none⟩=some (.int .i64 2) := VA.o.blk.cell 0;have t1 : W0.cell? ⟨g,1,none⟩=some (.int .i64 0) := VA.o.blk.cell 1;have t2 : W0.cell? ⟨g,2,none⟩=some (.bool t) := VA.o.blk.cell 2;obtain ⟨e0,e1,-,-⟩ := ST0.o.env.two;obtain ⟨x0,x1,x2,x3,-,-,-,-⟩ := blk4 ST0.o.ex;clear HR
   go_wp2_with fail
   clear t0 t1 t2;go_at_call 125;(with_reducible refine (truth_any _ _).mono ?_);rintro y w2 ⟨hy,b2⟩;rw [HR2.o] at hy;clear HR2;unfold RetV at hy;subst hy;have HP : Hid (RetV R (.returned (.agg #[.int .i64 R.K,.int .i64 R.N,.bool R.B]))) := rfl;have ST2 := LH9 (ST0.o.up b2);clear b2;generalize R.K=rk at *;generalize R.N=rn at *;generalize R.B=rb at *
   try clear e0 e1 x0 x1 x2 x3
   have HFN := LH9 (ret3 (.int .i64 rk) (.int .i64 rn) (.bool rb) ST2.o.below (by omega : w.heap.size≤w.heap.size + 1 + 1) ST2.o.res);obtain ⟨q0,q1,q2,q3,q4,q5⟩ := blk3 ST2.o.res;have hm := ST2.o.lt
   go_wp2_with fail
   generalize ((w2.setCell ⟨w.heap.size + 1 + 1,0,none⟩ (.int .i64 rk)).setCell ⟨w.heap.size + 1 + 1,1,none⟩ (.int .i64 rn)).setCell ⟨w.heap.size + 1 + 1,2,none⟩ (.bool rb)=W9 at *;obtain ⟨r0,r1,r2,-,-,-⟩ := blk3 HFN.o.2;refine bodyPost_ret (v := .agg #[.int .i64 rk,.int .i64 rn,.bool rb]) (by simp [results,Tryz.results96,go_sem,r0,r1,r2]) rfl ⟨HP.o,HFN.o.1⟩
theorem ev_neg (w : World) (day : Int) (a : Option Addr) (len cap : Nat) (n : Int) (nm : ByteArray) (b o cap' : Nat) (o0 n0 : Int) (m0 : ByteArray) (a0 : Option Addr) (l0 p0 : Nat) (A : Vl) (hA : Ty 1 A) (hI : I64 A.N)
 (h0 : Four w b o (.int .i64 o0) (.int .i64 n0) (.string m0) (.slice a0 l0 p0)) (HA : EvC w day a len cap (.int .i64 o0) (.int .i64 n0) (.string m0) (.slice a0 l0 p0) A) :
 Calls Tryz.prog 96 #[.agg #[.int .i64 day,.slice a len cap],.agg #[.int .i64 20,.int .i64 n,.string nm,.slice (some ⟨b,o,none⟩) 1 cap']] w fun x w' => RetV (opV 20 [A]) x∧Below w.heap.size w w' := by
 have H0 := LH9 h0;have HCA := LH9 HA;have HTA := LH9 hA.of1;have HIA := LH9 hI;have ST := LH9 (EvSt.start w day a len cap 20 n nm (some ⟨b,o,none⟩) 1 cap');have HR : Hid (opV 20 [A]=opV 20 [A]) := rfl;obtain ⟨R,hR⟩ : ∃ R,R=opV 20 [A] := ⟨_,rfl⟩;rw [← hR];replace HR := LH9 hR;clear hR h0 HA hA hI
 go_enter Tryz.func96,Tryz.ntmps96
 go_upto_region 1 with (fail)
 generalize ((w.alloc (.cells #[.int .i64 day,.slice a len cap] 44)).alloc (.cells #[.int .i64 20,.int .i64 n,.string nm,.slice (some ⟨b,o,none⟩) 1 cap'] 74)).alloc (.cells #[.int .i64 0,.int .i64 0,.bool false] 150)=v at *;obtain ⟨e0,e1,-,-⟩ := ST.o.env.two;obtain ⟨x0,x1,x2,x3,-,-,-,-⟩ := blk4 ST.o.ex
 go_upto_region 15 with (fail)
 clear e0 e1 x0 x1 x2 x3
 go_cut [7] (fun p W0 => ∃ g,p=.pointer (some ⟨g,0,none⟩)∧Hid (EvSt w W0 day a len cap 20 n nm (some ⟨b,o,none⟩) 1 cap')∧Hid (EvV w W0 g A))
 case first =>
  obtain ⟨e0,e1,-,-⟩ := ST.o.env.two;have x3 : v.cell? ⟨w.heap.size + 1,3,none⟩=_ := ST.o.ex.cell 3;simp only [List.getElem?_toArray,List.getElem?_cons_zero,List.getElem?_cons_succ] at x3;obtain ⟨u0,u1,u2,u3⟩ := H0.o;replace u0 := cu9 u0 ST.o.below;replace u1 := cu9 u1 ST.o.below;replace u2 := cu9 u2 ST.o.below;replace u3 := cu9 u3 ST.o.below;refine wp_region_till (S := fun W => (W.cell? ⟨w.heap.size,0,none⟩=some (.int .i64 day)∧W.cell? ⟨w.heap.size,1,none⟩=some (.slice a len cap))∧W.cell? ⟨w.heap.size + 1,3,none⟩=some (.slice (some ⟨b,o,none⟩) 1 cap')∧W.cell? ⟨b,o,none⟩=some (.int .i64 o0)∧W.cell? ⟨b,o + 1,none⟩=some (.int .i64 n0)∧W.cell? ⟨b,o + 2,none⟩=some (.string m0)∧W.cell? ⟨b,o + 3,none⟩=some (.slice a0 l0 p0)) 7 (by kernel_rfl) ?_;refine tk 0 ⟨⟨e0,e1⟩,x3,u0,u1,u2,u3⟩ ?_;refine tk 1 ⟨⟨e0,e1⟩,x3,u0,u1,u2,u3⟩ ?_;refine tk 2 ⟨⟨e0,e1⟩,x3,u0,u1,u2,u3⟩ ?_;refine tk 3 ⟨⟨e0,e1⟩,x3,u0,u1,u2,u3⟩ ?_;refine tk 4 ⟨⟨e0,e1⟩,x3,u0,u1,u2,u3⟩ ?_;refine till_two (i := 5) (j := 6) (by kernel_rfl) rfl rfl (fun K' hK => ?_) (fun K' hK => ?_)
  · go_simp;go_at_call 96;(with_reducible refine (EvC.run HCA.o _ ST.o.below.drew).mono ?_);rintro y w1 ⟨hy,b1⟩;unfold RetV at hy;subst hy;have hd := (Below.refl v.heap.size v).drew;have ST1 := LH9 ((ST.o.up hd).up b1);have bt := hd.trans (b1.mono hd.size);have GG := LH9 (True.intro);replace e0 := cu9 e0 bt;replace e1 := cu9 e1 bt;replace x3 := cu9 x3 bt;replace u0 := cu9 u0 bt;replace u1 := cu9 u1 bt;replace u2 := cu9 u2 bt;replace u3 := cu9 u3 bt;refine hK _ _ ⟨⟨e0,e1⟩,x3,u0,u1,u2,u3⟩ ?_;clear hK K' b1 hd bt
    try simp only [Act.put,zp1,zp2,zp3,zp4,zp5,zp6]
    refine till_one (i := 6) (by kernel_rfl) rfl (fun K' hK => ?_);go_simp;have bn := (Below.refl w1.heap.size w1).alloc (Nat.le_refl _) (.cells #[.int .i64 0,.int .i64 0,.bool false] 150);have ST2 := LH9 (ST1.o.up bn);have BZ := LH9 (Mem.Blk.new w1 150 #[.int .i64 0,.int .i64 0,.bool false]);have HZ := LH9 ST1.o.lt;have HP := LH9 (True.intro);refine hK _ _ ⟨⟨cu9 e0 bn,cu9 e1 bn⟩,cu9 x3 bn,cu9 u0 bn,cu9 u1 bn,cu9 u2 bn,cu9 u3 bn⟩ ?_;clear hK K' bn ST1 e0 e1 x3 u0 u1 u2 u3 GG;generalize w1.alloc (.cells #[.int .i64 0,.int .i64 0,.bool false] 150)=w2 at *;generalize w1.heap.size=z at *
    try simp only [Act.put,zp1,zp2,zp3,zp4,zp5,zp6]
    obtain ⟨t0,t1,t2,t3,t4,t5⟩ := blk3 BZ.o;have hm := BZ.o.lt;refine till_last (by kernel_rfl) rfl (by kernel_rfl) (fun K' hK => ?_);go_simp;have HS9 := LH9 (ST2.o.far3 HZ.o (.int .i64 A.K) (.int .i64 A.N) (.bool A.B));have HV9 := LH9 (EvV.mk (v := A) HZ.o (((BZ.o.set_ 0 (.int .i64 A.K)).set_ 1 (.int .i64 A.N)).set_ 2 (.bool A.B)));refine hK _ _ ?_;clear hK K'
    try simp only [Act.put,zp1,zp2,zp3,zp4,zp5,zp6]
    refine wpAny_done (by kernel_rfl) ?_ _
    go_wp2_with fail
    go_meet
    case rel => exact ⟨z,rfl,HS9.o,HV9.o⟩
  · go_simp;have bn := below_new v (.cells #[.int .i64 0,.int .i64 0,.bool false] 150);have ST1 := LH9 (ST.o.up bn);have BZ1 := LH9 (Mem.Blk.new v 150 #[.int .i64 0,.int .i64 0,.bool false]).drew;have HZ := LH9 ST.o.lt;have HQ := LH9 (True.intro);replace e0 := cu9 e0 bn;replace e1 := cu9 e1 bn;replace x3 := cu9 x3 bn;replace u0 := cu9 u0 bn;replace u1 := cu9 u1 bn;replace u2 := cu9 u2 bn;replace u3 := cu9 u3 bn;refine hK _ _ ⟨⟨e0,e1⟩,x3,u0,u1,u2,u3⟩ ?_;clear hK K' bn;generalize (v.alloc (.cells #[.int .i64 0,.int .i64 0,.bool false] 150)).drew=w1 at *;generalize v.heap.size=z at *
    try simp only [Act.put,zp1,zp2,zp3,zp4,zp5,zp6]
    refine till_one (i := 5) (by kernel_rfl) rfl (fun K' hK => ?_);go_simp;go_at_call 96;(with_reducible refine (EvC.run HCA.o _ ST1.o.below).mono ?_);rintro y w2 ⟨hy,b1⟩;unfold RetV at hy;subst hy;have ST2 := LH9 (ST1.o.up b1);have BZ := LH9 (BZ1.o.below b1);have HP := LH9 (True.intro);refine hK _ _ ⟨⟨cu9 e0 b1,cu9 e1 b1⟩,cu9 x3 b1,cu9 u0 b1,cu9 u1 b1,cu9 u2 b1,cu9 u3 b1⟩ ?_;clear hK K' b1 ST1 BZ1 e0 e1 x3 u0 u1 u2 u3 HQ
    try simp only [Act.put,zp1,zp2,zp3,zp4,zp5,zp6]
    obtain ⟨t0,t1,t2,t3,t4,t5⟩ := blk3 BZ.o;have hm := BZ.o.lt;refine till_last (by kernel_rfl) rfl (by kernel_rfl) (fun K' hK => ?_);go_simp;have HS9 := LH9 (ST2.o.far3 HZ.o (.int .i64 A.K) (.int .i64 A.N) (.bool A.B));have HV9 := LH9 (EvV.mk (v := A) HZ.o (((BZ.o.set_ 0 (.int .i64 A.K)).set_ 1 (.int .i64 A.N)).set_ 2 (.bool A.B)));refine hK _ _ ?_;clear hK K'
    try simp only [Act.put,zp1,zp2,zp3,zp4,zp5,zp6]
    refine wpAny_done (by kernel_rfl) ?_ _
    go_wp2_with fail
    go_meet
    case rel => exact ⟨z,rfl,HS9.o,HV9.o⟩
 obtain ⟨g,rfl,ST0,VA⟩ := hcut;obtain ⟨W0,rfl⟩ : ∃ W : World,W=wc := ⟨_,rfl⟩;clear ST;rcases HTA.o with rfl | rfl | ⟨t,rfl⟩
 · obtain rfl : R=.unk := HR.o;have t0 : W0.cell? ⟨g,0,none⟩=some (.int .i64 0) := VA.o.blk.cell 0;have t1 : W0.cell? ⟨g,1,none⟩=some (.int .i64 0) := VA.o.blk.cell 1;have t2 : W0.cell? ⟨g,2,none⟩=some (.bool false) := VA.o.blk.cell 2;obtain ⟨e0,e1,-,-⟩ := ST0.o.env.two;obtain ⟨x0,x1,x2,x3,-,-,-,-⟩ := blk4 ST0.o.ex;have HFN := LH9 (ret3 (.int .i64 0) (.int .i64 0) (.bool false) ST0.o.below (by omega : w.heap.size≤w.heap.size + 1 + 1) ST0.o.res);obtain ⟨q0,q1,q2,q3,q4,q5⟩ := blk3 ST0.o.res;have hm := ST0.o.lt
   go_wp2_with fail
   generalize ((W0.setCell ⟨w.heap.size + 1 + 1,0,none⟩ (.int .i64 0)).setCell ⟨w.heap.size + 1 + 1,1,none⟩ (.int .i64 0)).setCell ⟨w.heap.size + 1 + 1,2,none⟩ (.bool false)=W9 at *;obtain ⟨r0,r1,r2,-,-,-⟩ := blk3 HFN.o.2;refine bodyPost_ret (v := .agg #[.int .i64 0,.int .i64 0,.bool false]) (by simp [results,Tryz.results96,go_sem,r0,r1,r2]) rfl ⟨rfl,HFN.o.1⟩
 · obtain rfl : R=.brk := HR.o;have t0 : W0.cell? ⟨g,0,none⟩=some (.int .i64 3) := VA.o.blk.cell 0;have t1 : W0.cell? ⟨g,1,none⟩=some (.int .i64 0) := VA.o.blk.cell 1;have t2 : W0.cell? ⟨g,2,none⟩=some (.bool false) := VA.o.blk.cell 2;obtain ⟨e0,e1,-,-⟩ := ST0.o.env.two;obtain ⟨x0,x1,x2,x3,-,-,-,-⟩ := blk4 ST0.o.ex;have HFN := LH9 (ret3 (.int .i64 3) (.int .i64 0) (.bool false) ST0.o.below (by omega : w.heap.size≤w.heap.size + 1 + 1) ST0.o.res);obtain ⟨q0,q1,q2,q3,q4,q5⟩ := blk3 ST0.o.res;have hm := ST0.o.lt
   go_wp2_with fail
   generalize ((W0.setCell ⟨w.heap.size + 1 + 1,0,none⟩ (.int .i64 3)).setCell ⟨w.heap.size + 1 + 1,1,none⟩ (.int .i64 0)).setCell ⟨w.heap.size + 1 + 1,2,none⟩ (.bool false)=W9 at *;obtain ⟨r0,r1,r2,-,-,-⟩ := blk3 HFN.o.2;refine bodyPost_ret (v := .agg #[.int .i64 3,.int .i64 0,.bool false]) (by simp [results,Tryz.results96,go_sem,r0,r1,r2]) rfl ⟨rfl,HFN.o.1⟩
 · have HR2 : Hid (nmV (fitN (fitI (-t))) (fitB (fitI (-t)))=R) := by rw [HR.o,nmV_fit]; rfl
   have t0 : W0.cell? ⟨g,0,none⟩=some (.int .i64 1) := VA.o.blk.cell 0;have t1 : W0.cell? ⟨g,1,none⟩=some (.int .i64 t) := VA.o.blk.cell 1;have t2 : W0.cell? ⟨g,2,none⟩=some (.bool false) := VA.o.blk.cell 2;obtain ⟨e0,e1,-,-⟩ := ST0.o.env.two;obtain ⟨x0,x1,x2,x3,-,-,-,-⟩ := blk4 ST0.o.ex;have HT : Hid (I64 t) := HIA.o;clear HR HIA
   go_wp2_with fail
   go_at_call 52;(with_reducible refine (numNeg_any _ _ HT.o).mono ?_);rintro y w2 ⟨rfl,rfl⟩;clear t0 t1 t2 e0 e1 x0 x1 x2 x3;unfold fitR;generalize fitI (-t)=oo at *;generalize fitN oo=n9 at *;generalize fitB oo=b9 at *
   go_wp2_with fail
   go_at_call 122;(with_reducible refine (number_any _ _ _).mono ?_);rintro y w2 ⟨hy,b2⟩;rw [HR2.o] at hy;clear HR2;unfold RetV at hy;subst hy;have HP : Hid (RetV R (.returned (.agg #[.int .i64 R.K,.int .i64 R.N,.bool R.B]))) := rfl;have ST2 := LH9 (ST0.o.up b2);clear b2;generalize R.K=rk at *;generalize R.N=rn at *;generalize R.B=rb at *
   try clear e0 e1 x0 x1 x2 x3
   have HFN := LH9 (ret3 (.int .i64 rk) (.int .i64 rn) (.bool rb) ST2.o.below (by omega : w.heap.size≤w.heap.size + 1 + 1) ST2.o.res);obtain ⟨q0,q1,q2,q3,q4,q5⟩ := blk3 ST2.o.res;have hm := ST2.o.lt
   go_wp2_with fail
   generalize ((w2.setCell ⟨w.heap.size + 1 + 1,0,none⟩ (.int .i64 rk)).setCell ⟨w.heap.size + 1 + 1,1,none⟩ (.int .i64 rn)).setCell ⟨w.heap.size + 1 + 1,2,none⟩ (.bool rb)=W9 at *;obtain ⟨r0,r1,r2,-,-,-⟩ := blk3 HFN.o.2;refine bodyPost_ret (v := .agg #[.int .i64 rk,.int .i64 rn,.bool rb]) (by simp [results,Tryz.results96,go_sem,r0,r1,r2]) rfl ⟨HP.o,HFN.o.1⟩
theorem ev_if (w : World) (day : Int) (a : Option Addr) (len cap : Nat) (n : Int) (nm : ByteArray) (b o cap' : Nat) (o0 n0 o1 n1 o2 n2 : Int) (m0 m1 m2 : ByteArray) (a0 a1 a2 : Option Addr) (l0 p0 l1 p1 l2 p2 : Nat) (A B C : Vl) (hA : Ty 2 A)
 (h0 : Four w b o (.int .i64 o0) (.int .i64 n0) (.string m0) (.slice a0 l0 p0)) (h1 : Four w b (o + 4) (.int .i64 o1) (.int .i64 n1) (.string m1) (.slice a1 l1 p1)) (h2 : Four w b (o + 8) (.int .i64 o2) (.int .i64 n2) (.string m2) (.slice a2 l2 p2))
 (HA : EvC w day a len cap (.int .i64 o0) (.int .i64 n0) (.string m0) (.slice a0 l0 p0) A) (HB : EvC w day a len cap (.int .i64 o1) (.int .i64 n1) (.string m1) (.slice a1 l1 p1) B) (HC : EvC w day a len cap (.int .i64 o2) (.int .i64 n2) (.string m2) (.slice a2 l2 p2) C) :
 Calls Tryz.prog 96 #[.agg #[.int .i64 day,.slice a len cap],.agg #[.int .i64 21,.int .i64 n,.string nm,.slice (some ⟨b,o,none⟩) 3 cap']] w fun x w' => RetV (opV 21 [A,B,C]) x∧Below w.heap.size w w' := by
 have H0 := LH9 h0;have H1 := LH9 h1;have H2 := LH9 h2;have HCA := LH9 HA;have HCB := LH9 HB;have HCC := LH9 HC;have HTA := LH9 hA.of2;have ST := LH9 (EvSt.start w day a len cap 21 n nm (some ⟨b,o,none⟩) 3 cap');have HR : Hid (opV 21 [A,B,C]=opV 21 [A,B,C]) := rfl;obtain ⟨R,hR⟩ : ∃ R,R=opV 21 [A,B,C] := ⟨_,rfl⟩;rw [← hR];replace HR := LH9 hR;clear hR h0 h1 h2 HA HB HC hA
 go_enter Tryz.func96,Tryz.ntmps96
 go_upto_region 1 with (fail)
 generalize ((w.alloc (.cells #[.int .i64 day,.slice a len cap] 44)).alloc (.cells #[.int .i64 21,.int .i64 n,.string nm,.slice (some ⟨b,o,none⟩) 3 cap'] 74)).alloc (.cells #[.int .i64 0,.int .i64 0,.bool false] 150)=v at *;obtain ⟨e0,e1,-,-⟩ := ST.o.env.two;obtain ⟨x0,x1,x2,x3,-,-,-,-⟩ := blk4 ST.o.ex
 go_upto_region 15 with (fail)
 clear e0 e1 x0 x1 x2 x3
 go_cut [7] (fun p W0 => ∃ g,p=.pointer (some ⟨g,0,none⟩)∧Hid (EvSt w W0 day a len cap 21 n nm (some ⟨b,o,none⟩) 3 cap')∧Hid (EvV w W0 g A))
 case first =>
  obtain ⟨e0,e1,-,-⟩ := ST.o.env.two;have x3 : v.cell? ⟨w.heap.size + 1,3,none⟩=_ := ST.o.ex.cell 3;simp only [List.getElem?_toArray,List.getElem?_cons_zero,List.getElem?_cons_succ] at x3;obtain ⟨u0,u1,u2,u3⟩ := H0.o;replace u0 := cu9 u0 ST.o.below;replace u1 := cu9 u1 ST.o.below;replace u2 := cu9 u2 ST.o.below;replace u3 := cu9 u3 ST.o.below;refine wp_region_till (S := fun W => (W.cell? ⟨w.heap.size,0,none⟩=some (.int .i64 day)∧W.cell? ⟨w.heap.size,1,none⟩=some (.slice a len cap))∧W.cell? ⟨w.heap.size + 1,3,none⟩=some (.slice (some ⟨b,o,none⟩) 3 cap')∧W.cell? ⟨b,o,none⟩=some (.int .i64 o0)∧W.cell? ⟨b,o + 1,none⟩=some (.int .i64 n0)∧W.cell? ⟨b,o + 2,none⟩=some (.string m0)∧W.cell? ⟨b,o + 3,none⟩=some (.slice a0 l0 p0)) 7 (by kernel_rfl) ?_;refine tk 0 ⟨⟨e0,e1⟩,x3,u0,u1,u2,u3⟩ ?_;refine tk 1 ⟨⟨e0,e1⟩,x3,u0,u1,u2,u3⟩ ?_;refine tk 2 ⟨⟨e0,e1⟩,x3,u0,u1,u2,u3⟩ ?_;refine tk 3 ⟨⟨e0,e1⟩,x3,u0,u1,u2,u3⟩ ?_;refine tk 4 ⟨⟨e0,e1⟩,x3,u0,u1,u2,u3⟩ ?_;refine till_two (i := 5) (j := 6) (by kernel_rfl) rfl rfl (fun K' hK => ?_) (fun K' hK => ?_)
  · go_simp;go_at_call 96;(with_reducible refine (EvC.run HCA.o _ ST.o.below.drew).mono ?_);rintro y w1 ⟨hy,b1⟩;unfold RetV at hy;subst hy;have hd := (Below.refl v.heap.size v).drew;have ST1 := LH9 ((ST.o.up hd).up b1);have bt := hd.trans (b1.mono hd.size);have GG := LH9 (True.intro);replace e0 := cu9 e0 bt;replace e1 := cu9 e1 bt;replace x3 := cu9 x3 bt;replace u0 := cu9 u0 bt;replace u1 := cu9 u1 bt;replace u2 := cu9 u2 bt;replace u3 := cu9 u3 bt;refine hK _ _ ⟨⟨e0,e1⟩,x3,u0,u1,u2,u3⟩ ?_;clear hK K' b1 hd bt
    try simp only [Act.put,zp1,zp2,zp3,zp4,zp5,zp6]
    refine till_one (i := 6) (by kernel_rfl) rfl (fun K' hK => ?_);go_simp;have bn := (Below.refl w1.heap.size w1).alloc (Nat.le_refl _) (.cells #[.int .i64 0,.int .i64 0,.bool false] 150);have ST2 := LH9 (ST1.o.up bn);have BZ := LH9 (Mem.Blk.new w1 150 #[.int .i64 0,.int .i64 0,.bool false]);have HZ := LH9 ST1.o.lt;have HP := LH9 (True.intro);refine hK _ _ ⟨⟨cu9 e0 bn,cu9 e1 bn⟩,cu9 x3 bn,cu9 u0 bn,cu9 u1 bn,cu9 u2 bn,cu9 u3 bn⟩ ?_;clear hK K' bn ST1 e0 e1 x3 u0 u1 u2 u3 GG;generalize w1.alloc (.cells #[.int .i64 0,.int .i64 0,.bool false] 150)=w2 at *;generalize w1.heap.size=z at *
    try simp only [Act.put,zp1,zp2,zp3,zp4,zp5,zp6]
    obtain ⟨t0,t1,t2,t3,t4,t5⟩ := blk3 BZ.o;have hm := BZ.o.lt;refine till_last (by kernel_rfl) rfl (by kernel_rfl) (fun K' hK => ?_);go_simp;have HS9 := LH9 (ST2.o.far3 HZ.o (.int .i64 A.K) (.int .i64 A.N) (.bool A.B));have HV9 := LH9 (EvV.mk (v := A) HZ.o (((BZ.o.set_ 0 (.int .i64 A.K)).set_ 1 (.int .i64 A.N)).set_ 2 (.bool A.B)));refine hK _ _ ?_;clear hK K'
    try simp only [Act.put,zp1,zp2,zp3,zp4,zp5,zp6]
    refine wpAny_done (by kernel_rfl) ?_ _
    go_wp2_with fail
    go_meet
    case rel => exact ⟨z,rfl,HS9.o,HV9.o⟩
  · go_simp;have bn := below_new v (.cells #[.int .i64 0,.int .i64 0,.bool false] 150);have ST1 := LH9 (ST.o.up bn);have BZ1 := LH9 (Mem.Blk.new v 150 #[.int .i64 0,.int .i64 0,.bool false]).drew;have HZ := LH9 ST.o.lt;have HQ := LH9 (True.intro);replace e0 := cu9 e0 bn;replace e1 := cu9 e1 bn;replace x3 := cu9 x3 bn;replace u0 := cu9 u0 bn;replace u1 := cu9 u1 bn;replace u2 := cu9 u2 bn;replace u3 := cu9 u3 bn;refine hK _ _ ⟨⟨e0,e1⟩,x3,u0,u1,u2,u3⟩ ?_;clear hK K' bn;generalize (v.alloc (.cells #[.int .i64 0,.int .i64 0,.bool false] 150)).drew=w1 at *;generalize v.heap.size=z at *
    try simp only [Act.put,zp1,zp2,zp3,zp4,zp5,zp6]
    refine till_one (i := 5) (by kernel_rfl) rfl (fun K' hK => ?_);go_simp;go_at_call 96;(with_reducible refine (EvC.run HCA.o _ ST1.o.below).mono ?_);rintro y w2 ⟨hy,b1⟩;unfold RetV at hy;subst hy;have ST2 := LH9 (ST1.o.up b1);have BZ := LH9 (BZ1.o.below b1);have HP := LH9 (True.intro);refine hK _ _ ⟨⟨cu9 e0 b1,cu9 e1 b1⟩,cu9 x3 b1,cu9 u0 b1,cu9 u1 b1,cu9 u2 b1,cu9 u3 b1⟩ ?_;clear hK K' b1 ST1 BZ1 e0 e1 x3 u0 u1 u2 u3 HQ
    try simp only [Act.put,zp1,zp2,zp3,zp4,zp5,zp6]
    obtain ⟨t0,t1,t2,t3,t4,t5⟩ := blk3 BZ.o;have hm := BZ.o.lt;refine till_last (by kernel_rfl) rfl (by kernel_rfl) (fun K' hK => ?_);go_simp;have HS9 := LH9 (ST2.o.far3 HZ.o (.int .i64 A.K) (.int .i64 A.N) (.bool A.B));have HV9 := LH9 (EvV.mk (v := A) HZ.o (((BZ.o.set_ 0 (.int .i64 A.K)).set_ 1 (.int .i64 A.N)).set_ 2 (.bool A.B)));refine hK _ _ ?_;clear hK K'
    try simp only [Act.put,zp1,zp2,zp3,zp4,zp5,zp6]
    refine wpAny_done (by kernel_rfl) ?_ _
    go_wp2_with fail
    go_meet
    case rel => exact ⟨z,rfl,HS9.o,HV9.o⟩
 obtain ⟨g,rfl,ST0,VA⟩ := hcut;obtain ⟨W0,rfl⟩ : ∃ W : World,W=wc := ⟨_,rfl⟩;clear ST;rcases HTA.o with rfl | rfl | ⟨t,rfl⟩
 · obtain rfl : R=.unk := HR.o;have t0 : W0.cell? ⟨g,0,none⟩=some (.int .i64 0) := VA.o.blk.cell 0;have t1 : W0.cell? ⟨g,1,none⟩=some (.int .i64 0) := VA.o.blk.cell 1;have t2 : W0.cell? ⟨g,2,none⟩=some (.bool false) := VA.o.blk.cell 2;obtain ⟨e0,e1,-,-⟩ := ST0.o.env.two;obtain ⟨x0,x1,x2,x3,-,-,-,-⟩ := blk4 ST0.o.ex;have HFN := LH9 (ret3 (.int .i64 0) (.int .i64 0) (.bool false) ST0.o.below (by omega : w.heap.size≤w.heap.size + 1 + 1) ST0.o.res);obtain ⟨q0,q1,q2,q3,q4,q5⟩ := blk3 ST0.o.res;have hm := ST0.o.lt
   go_wp2_with fail
   generalize ((W0.setCell ⟨w.heap.size + 1 + 1,0,none⟩ (.int .i64 0)).setCell ⟨w.heap.size + 1 + 1,1,none⟩ (.int .i64 0)).setCell ⟨w.heap.size + 1 + 1,2,none⟩ (.bool false)=W9 at *;obtain ⟨r0,r1,r2,-,-,-⟩ := blk3 HFN.o.2;refine bodyPost_ret (v := .agg #[.int .i64 0,.int .i64 0,.bool false]) (by simp [results,Tryz.results96,go_sem,r0,r1,r2]) rfl ⟨rfl,HFN.o.1⟩
 · obtain rfl : R=.brk := HR.o;have t0 : W0.cell? ⟨g,0,none⟩=some (.int .i64 3) := VA.o.blk.cell 0;have t1 : W0.cell? ⟨g,1,none⟩=some (.int .i64 0) := VA.o.blk.cell 1;have t2 : W0.cell? ⟨g,2,none⟩=some (.bool false) := VA.o.blk.cell 2;obtain ⟨e0,e1,-,-⟩ := ST0.o.env.two;obtain ⟨x0,x1,x2,x3,-,-,-,-⟩ := blk4 ST0.o.ex;have HFN := LH9 (ret3 (.int .i64 3) (.int .i64 0) (.bool false) ST0.o.below (by omega : w.heap.size≤w.heap.size + 1 + 1) ST0.o.res);obtain ⟨q0,q1,q2,q3,q4,q5⟩ := blk3 ST0.o.res;have hm := ST0.o.lt
   go_wp2_with fail
   generalize ((W0.setCell ⟨w.heap.size + 1 + 1,0,none⟩ (.int .i64 3)).setCell ⟨w.heap.size + 1 + 1,1,none⟩ (.int .i64 0)).setCell ⟨w.heap.size + 1 + 1,2,none⟩ (.bool false)=W9 at *;obtain ⟨r0,r1,r2,-,-,-⟩ := blk3 HFN.o.2;refine bodyPost_ret (v := .agg #[.int .i64 3,.int .i64 0,.bool false]) (by simp [results,Tryz.results96,go_sem,r0,r1,r2]) rfl ⟨rfl,HFN.o.1⟩
 · cases t with
   | true =>
     obtain rfl : R=B := HR.o;have t0 : W0.cell? ⟨g,0,none⟩=some (.int .i64 2) := VA.o.blk.cell 0;have t1 : W0.cell? ⟨g,1,none⟩=some (.int .i64 0) := VA.o.blk.cell 1;have t2 : W0.cell? ⟨g,2,none⟩=some (.bool true) := VA.o.blk.cell 2;obtain ⟨e0,e1,-,-⟩ := ST0.o.env.two;obtain ⟨x0,x1,x2,x3,-,-,-,-⟩ := blk4 ST0.o.ex
     go_wp2_with fail
     clear e0 e1 x0 x1 x2 x3 t0 t1 t2;obtain ⟨e0,e1,-,-⟩ := ST0.o.env.two;have x3 : W0.cell? ⟨w.heap.size + 1,3,none⟩=_ := ST0.o.ex.cell 3;simp only [List.getElem?_toArray,List.getElem?_cons_zero,List.getElem?_cons_succ] at x3;obtain ⟨u0,u1,u2,u3⟩ := H1.o;replace u0 := cu9 u0 ST0.o.below;replace u1 := cu9 u1 ST0.o.below;replace u2 := cu9 u2 ST0.o.below;replace u3 := cu9 u3 ST0.o.below;refine wp_region_till (S := fun W => (W.cell? ⟨w.heap.size,0,none⟩=some (.int .i64 day)∧W.cell? ⟨w.heap.size,1,none⟩=some (.slice a len cap))∧W.cell? ⟨w.heap.size + 1,3,none⟩=some (.slice (some ⟨b,o,none⟩) 3 cap')∧W.cell? ⟨b,o + 4,none⟩=some (.int .i64 o1)∧W.cell? ⟨b,o + 4 + 1,none⟩=some (.int .i64 n1)∧W.cell? ⟨b,o + 4 + 2,none⟩=some (.string m1)∧W.cell? ⟨b,o + 4 + 3,none⟩=some (.slice a1 l1 p1)) 6 (by kernel_rfl) ?_;refine tk 0 ⟨⟨e0,e1⟩,x3,u0,u1,u2,u3⟩ ?_;refine tk 1 ⟨⟨e0,e1⟩,x3,u0,u1,u2,u3⟩ ?_;refine tk 2 ⟨⟨e0,e1⟩,x3,u0,u1,u2,u3⟩ ?_;refine tk 3 ⟨⟨e0,e1⟩,x3,u0,u1,u2,u3⟩ ?_;refine tk 4 ⟨⟨e0,e1⟩,x3,u0,u1,u2,u3⟩ ?_;refine till_one (i := 5) (by kernel_rfl) rfl (fun K' hK => ?_);go_simp;go_at_call 96;(with_reducible refine (EvC.run HCB.o _ ST0.o.below.drew).mono ?_);rintro y w2 ⟨hy,b1⟩;have hd := (Below.refl W0.heap.size W0).drew;have b2 := hd.trans (b1.mono hd.size);replace e0 := cu9 e0 b2;replace e1 := cu9 e1 b2;replace x3 := cu9 x3 b2;replace u0 := cu9 u0 b2;replace u1 := cu9 u1 b2;replace u2 := cu9 u2 b2;replace u3 := cu9 u3 b2;unfold RetV at hy;subst hy;have HP : Hid (RetV R (.returned (.agg #[.int .i64 R.K,.int .i64 R.N,.bool R.B]))) := rfl;have ST2 := LH9 (ST0.o.up b2);clear b1 b2 hd HCA HCB HCC HR;refine hK _ _ ⟨⟨e0,e1⟩,x3,u0,u1,u2,u3⟩ ?_;clear hK K' e0 e1 x3 u0 u1 u2 u3;generalize R.K=rk at *;generalize R.N=rn at *;generalize R.B=rb at *
     try simp only [Act.put,zp1,zp2,zp3,zp4,zp5,zp6]
     have HFN := LH9 (ret3 (.int .i64 rk) (.int .i64 rn) (.bool rb) ST2.o.below (by omega : w.heap.size≤w.heap.size + 1 + 1) ST2.o.res);obtain ⟨q0,q1,q2,q3,q4,q5⟩ := blk3 ST2.o.res;have hm := ST2.o.lt;refine till_last (by kernel_rfl) rfl (by kernel_rfl) (fun K' hK => ?_);go_simp;refine hK _ _ ?_;clear hK K'
     try simp only [Act.put,zp1,zp2,zp3,zp4,zp5,zp6]
     refine wpAny_done (by kernel_rfl) ?_ _
     go_wp2_with fail
     generalize ((w2.setCell ⟨w.heap.size + 1 + 1,0,none⟩ (.int .i64 rk)).setCell ⟨w.heap.size + 1 + 1,1,none⟩ (.int .i64 rn)).setCell ⟨w.heap.size + 1 + 1,2,none⟩ (.bool rb)=W9 at *;obtain ⟨r0,r1,r2,-,-,-⟩ := blk3 HFN.o.2;refine bodyPost_ret (v := .agg #[.int .i64 rk,.int .i64 rn,.bool rb]) (by simp [results,Tryz.results96,go_sem,r0,r1,r2]) rfl ⟨HP.o,HFN.o.1⟩
   | false =>
     obtain rfl : R=C := HR.o;have t0 : W0.cell? ⟨g,0,none⟩=some (.int .i64 2) := VA.o.blk.cell 0;have t1 : W0.cell? ⟨g,1,none⟩=some (.int .i64 0) := VA.o.blk.cell 1;have t2 : W0.cell? ⟨g,2,none⟩=some (.bool false) := VA.o.blk.cell 2;obtain ⟨e0,e1,-,-⟩ := ST0.o.env.two;obtain ⟨x0,x1,x2,x3,-,-,-,-⟩ := blk4 ST0.o.ex
     go_wp2_with fail
     clear e0 e1 x0 x1 x2 x3 t0 t1 t2;obtain ⟨e0,e1,-,-⟩ := ST0.o.env.two;have x3 : W0.cell? ⟨w.heap.size + 1,3,none⟩=_ := ST0.o.ex.cell 3;simp only [List.getElem?_toArray,List.getElem?_cons_zero,List.getElem?_cons_succ] at x3;obtain ⟨u0,u1,u2,u3⟩ := H2.o;replace u0 := cu9 u0 ST0.o.below;replace u1 := cu9 u1 ST0.o.below;replace u2 := cu9 u2 ST0.o.below;replace u3 := cu9 u3 ST0.o.below;refine wp_region_till (S := fun W => (W.cell? ⟨w.heap.size,0,none⟩=some (.int .i64 day)∧W.cell? ⟨w.heap.size,1,none⟩=some (.slice a len cap))∧W.cell? ⟨w.heap.size + 1,3,none⟩=some (.slice (some ⟨b,o,none⟩) 3 cap')∧W.cell? ⟨b,o + 8,none⟩=some (.int .i64 o2)∧W.cell? ⟨b,o + 8 + 1,none⟩=some (.int .i64 n2)∧W.cell? ⟨b,o + 8 + 2,none⟩=some (.string m2)∧W.cell? ⟨b,o + 8 + 3,none⟩=some (.slice a2 l2 p2)) 6 (by kernel_rfl) ?_;refine tk 0 ⟨⟨e0,e1⟩,x3,u0,u1,u2,u3⟩ ?_;refine tk 1 ⟨⟨e0,e1⟩,x3,u0,u1,u2,u3⟩ ?_;refine tk 2 ⟨⟨e0,e1⟩,x3,u0,u1,u2,u3⟩ ?_;refine tk 3 ⟨⟨e0,e1⟩,x3,u0,u1,u2,u3⟩ ?_;refine tk 4 ⟨⟨e0,e1⟩,x3,u0,u1,u2,u3⟩ ?_;refine till_one (i := 5) (by kernel_rfl) rfl (fun K' hK => ?_);go_simp;go_at_call 96;(with_reducible refine (EvC.run HCC.o _ ST0.o.below.drew).mono ?_);rintro y w2 ⟨hy,b1⟩;have hd := (Below.refl W0.heap.size W0).drew;have b2 := hd.trans (b1.mono hd.size);replace e0 := cu9 e0 b2;replace e1 := cu9 e1 b2;replace x3 := cu9 x3 b2;replace u0 := cu9 u0 b2;replace u1 := cu9 u1 b2;replace u2 := cu9 u2 b2;replace u3 := cu9 u3 b2;unfold RetV at hy;subst hy;have HP : Hid (RetV R (.returned (.agg #[.int .i64 R.K,.int .i64 R.N,.bool R.B]))) := rfl;have ST2 := LH9 (ST0.o.up b2);clear b1 b2 hd HCA HCB HCC HR;refine hK _ _ ⟨⟨e0,e1⟩,x3,u0,u1,u2,u3⟩ ?_;clear hK K' e0 e1 x3 u0 u1 u2 u3;generalize R.K=rk at *;generalize R.N=rn at *;generalize R.B=rb at *
     try simp only [Act.put,zp1,zp2,zp3,zp4,zp5,zp6]
     have HFN := LH9 (ret3 (.int .i64 rk) (.int .i64 rn) (.bool rb) ST2.o.below (by omega : w.heap.size≤w.heap.size + 1 + 1) ST2.o.res);obtain ⟨q0,q1,q2,q3,q4,q5⟩ := blk3 ST2.o.res;have hm := ST2.o.lt;refine till_last (by kernel_rfl) rfl (by kernel_rfl) (fun K' hK => ?_);go_simp;refine hK _ _ ?_;clear hK K'
     try simp only [Act.put,zp1,zp2,zp3,zp4,zp5,zp6]
     refine wpAny_done (by kernel_rfl) ?_ _
     go_wp2_with fail
     generalize ((w2.setCell ⟨w.heap.size + 1 + 1,0,none⟩ (.int .i64 rk)).setCell ⟨w.heap.size + 1 + 1,1,none⟩ (.int .i64 rn)).setCell ⟨w.heap.size + 1 + 1,2,none⟩ (.bool rb)=W9 at *;obtain ⟨r0,r1,r2,-,-,-⟩ := blk3 HFN.o.2;refine bodyPost_ret (v := .agg #[.int .i64 rk,.int .i64 rn,.bool rb]) (by simp [results,Tryz.results96,go_sem,r0,r1,r2]) rfl ⟨HP.o,HFN.o.1⟩
end
end Go.Proofs.YtmiinmndbkdjbaaGreat
