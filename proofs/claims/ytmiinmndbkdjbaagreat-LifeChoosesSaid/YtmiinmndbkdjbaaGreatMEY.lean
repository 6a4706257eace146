/- A part of the proof: RvL, one behind another. -/
import Derived.Test.YtmiinmndbkdjbaaGreatMEA
import Derived.Test.YtmiinmndbkdjbaaGreatMEH
import Derived.Test.YtmiinmndbkdjbaaGreatMEX
import Derived.Lib.Hide
import Derived.WalkKit
set_option maxRecDepth 100000
set_option maxHeartbeats 16000000
set_option linter.unusedVariables false
set_option linter.unusedSimpArgs false
namespace Go.Proofs.YtmiinmndbkdjbaaGreat
open Go.RowKit
section
inductive TailP (day : Int) (fx : List Fx) (op n : Int) (nm : ByteArray) : List Vl->Vl->Prop
 | lit (h : op=1\/op=2) : TailP day fx op n nm [] (.num n)
 | obs (r : Vl) (h : op=3) (hr : seenV day fx nm=r) : TailP day fx op n nm [] r
 | day (h : op=4) : TailP day fx op n nm [] (.num day)
 | not (t : Bool) (r : Vl) (h : op=19) (hr : Vl.tru (!t)=r) : TailP day fx op n nm [.tru t] r
 | neg (x : Int) (r : Vl) (h : op=20) (hx : I64 x) (hr : numV (fitI (-x))=r) : TailP day fx op n nm [.num x] r
 | ar (x y : Int) (r : Vl) (h : 5<=op/\op<=10) (hx : I64 x) (hy : I64 y) (hr : numV (valueM op [x,y])=r) : TailP day fx op n nm [.num x,.num y] r
 | cmp (x y : Int) (r : Vl) (h : 11<=op/\op<=16) (hr : Vl.tru (cmpV op x y)=r) : TailP day fx op n nm [.num x,.num y] r
theorem made_val {op x y : Int} (h : 5<=op/\op<=10) : madeM op x y=valueM op [x,y] := by
 have hop : op=5\/op=6\/op=7\/op=8\/op=9\/op=10 := by omega
 rcases hop with rfl | rfl | rfl | rfl | rfl | rfl
 . rfl
 . rfl
 . rfl
 . rfl
 . by_cases hxy : x < y
   . simp [madeM,valueM,hxy,show min x y=x by omega]
   . simp [madeM,valueM,hxy,show min x y=y by omega]
 . by_cases hxy : x < y
   . simp [madeM,valueM,hxy,show max x y=y by omega]
   . simp [madeM,valueM,hxy,show max x y=x by omega]
theorem nlt (x y : Int) : (!decide (y < x))=decide (x<=y) := by by_cases h : y < x <;> simp [h] <;> omega
theorem any_snoc (p : Vl->Bool) (l : List Vl) (x : Vl) : (l ++ [x]).any p=(l.any p || p x) := by simp
theorem rv_rest (w : World) (day : Int) (fx : List Fx) (a : Option Addr) (len cap : Nat) (op n : Int) (nm : ByteArray) (args : List Ex) (a' : Option Addr) (len' cap' : Nat) (V : Ex->Vl) (R : Vl)
 (hA : SlE w [] args a' len' cap') (hl3 : len'<=5)
 (hC : ∀ (k : Nat) (x : Ex) (c0 c1 : Int) (c2 : ByteArray) (s0 : Option Addr) (s1 s2 : Nat),args[k]?=some x->RepE w [] x [.int .i64 c0,.int .i64 c1,.string c2,.slice s0 s1 s2]->RvC w day a len cap (.int .i64 c0) (.int .i64 c1) (.string c2) (.slice s0 s1 s2) (V x))
 (h17 : op ≠ 17) (h18 : op ≠ 18) (h21 : op ≠ 21)
 (hb : (args.map V).any (fun v => decide (v=.brk))=true->R=.brk) (hu : (args.map V).any (fun v => decide (v=.brk))=false->(args.map V).any (fun v => decide (v=.unk))=true->R=.unk)
 (hf : SlR fxK w [] fx a len cap) (hT : (args.map V).any (fun v => decide (v=.brk))=false->(args.map V).any (fun v => decide (v=.unk))=false->TailP day fx op n nm (args.map V) R) :
 Calls Tryz.prog 32 #[.agg #[.int .i64 op,.int .i64 n,.string nm,.slice a' len' cap'],.agg #[.int .i64 day,.slice a len cap]] w fun x w' => RetW R x/\Below w.heap.size w w' := by
 obtain ⟨f1,f2,f3⟩ := hA.facts;have HL := LH9 f1;have HSA := LH9 hA;have HC := LH9 hC;have HBK := LH9 hb;have HU := LH9 hu;have HTT := LH9 hT;have HF := LH9 hf;have HR0 := LH9 (RvJ.start w day a len cap op n nm a' len' cap');have z17 : (op == 17)=false := beq_eq_false_iff_ne.2 h17;have z18 : (op == 18)=false := beq_eq_false_iff_ne.2 h18;have z21 : (op == 21)=false := beq_eq_false_iff_ne.2 h21;clear hA hC hb hu hT hf f1 h17 h18 h21
 go_enter Tryz.func32,Tryz.ntmps32
 go_upto_region 1 with (fail);generalize ((w.alloc (.cells #[.int .i64 op,.int .i64 n,.string nm,.slice a' len' cap'] 74)).alloc (.cells #[.int .i64 day,.slice a len cap] 26)).alloc (.cells #[.string ⟨#[]⟩,.int .i64 0] 97)=v at *;have e0 : v.cell? ⟨w.heap.size + 1,0,none⟩=some (.int .i64 day) := HR0.o.st.env.cell 0;have e1 : v.cell? ⟨w.heap.size + 1,1,none⟩=some (.slice a len cap) := HR0.o.st.env.cell 1;obtain ⟨x0,x1,x2,x3,-,-,-,-⟩ := blk4 HR0.o.st.ex;go_wp2_with fail;clear e0 e1 x0 x1 x2 x3
 go_loopw [9,10,11] (fun vl u i wr => ∃ (k : Nat) (uu : Bool),i=.int .i64 (k : Nat)/\u=.bool uu/\k<=len'/\Hid (uu=((args.map V).take k).any (fun v => decide (v=.unk)))/\Hid (((args.map V).take k).any (fun v => decide (v=.brk))=false)/\Hid (RvJ w wr day a len cap op n nm a' len' cap' ((args.map V).take k) vl)) (fun _ _ i _ => len' - (intOf i).toNat)
 case atStart => exact ⟨0,false,rfl,rfl,Nat.zero_le _,rfl,rfl,HR0.o⟩
 case round =>
  clear HR0;obtain ⟨k,uu,rfl,rfl,hk,HUU,HNB,HJ⟩ := hrel;obtain ⟨vl,hvl⟩ : ∃ x : Value,x=u9 := ⟨_,rfl⟩;subst hvl;have e0 : wr.cell? ⟨w.heap.size + 1,0,none⟩=some (.int .i64 day) := HJ.o.st.env.cell 0;have e1 : wr.cell? ⟨w.heap.size + 1,1,none⟩=some (.slice a len cap) := HJ.o.st.env.cell 1;obtain ⟨x0,x1,x2,x3,-,-,-,-⟩ := blk4 HJ.o.st.ex;by_cases hlt : k < len'
  . have j1' : (k : Int) < (len' : Int) := by omega
    have j0' : (0 : Int)<=(k : Int) := by omega
    have hlk : ((args.map V).take k).length=k := by rw [List.length_take,List.length_map,HL.o]; omega
    have HLK := LH9 hlk;obtain ⟨b,o,x,o0,n0,m0,a0,l0,p0,rfl,hbl,hx,hrep,hF⟩ := arg_at HSA.o k hlt;have HCA := LH9 (HC.o k x o0 n0 m0 a0 l0 p0 hx hrep);have hvx : (args.map V)[k]?=some (V x) := by rw [List.getElem?_map,hx]; rfl
    have HTK : Hid ((args.map V).take (k + 1)=(args.map V).take k ++ [V x]) := by
     show (args.map V).take (k + 1)=_;obtain ⟨hk',he⟩ := List.getElem?_eq_some_iff.1 hvx;rw [<- he]; exact (List.take_append_getElem hk').symm
    have HVM := LH9 (List.mem_of_getElem? hvx);have H0 := LH9 hF;clear hx hrep hF hvx hlk;generalize (args.map V).take k=VS at *;generalize V x=A at *;go_upto_region 22 with (fail)
    go_cut [12] from 94 to 121 (fun p W0 => ∃ z,p=.pointer (some ⟨z,0,none⟩)/\Hid (RvK w W0 day a len cap op n nm (some ⟨b,o,none⟩) len' cap' VS vl z (.string (wd A)) (.int .i64 A.N)))
    case first =>
     clear x0 x1 x2;obtain ⟨u0,u1,u2,u3⟩ := H0.o;replace u0 := cu9 u0 HJ.o.below;replace u1 := cu9 u1 HJ.o.below;replace u2 := cu9 u2 HJ.o.below;replace u3 := cu9 u3 HJ.o.below;refine wp_region_till (S := fun W => (W.cell? ⟨w.heap.size + 1,0,none⟩=some (.int .i64 day)/\W.cell? ⟨w.heap.size + 1,1,none⟩=some (.slice a len cap))/\W.cell? ⟨w.heap.size,3,none⟩=some (.slice (some ⟨b,o,none⟩) len' cap')/\W.cell? ⟨b,o + k * 4,none⟩=some (.int .i64 o0)/\W.cell? ⟨b,o + k * 4 + 1,none⟩=some (.int .i64 n0)/\W.cell? ⟨b,o + k * 4 + 2,none⟩=some (.string m0)/\W.cell? ⟨b,o + k * 4 + 3,none⟩=some (.slice a0 l0 p0)) 8 (by kernel_rfl) ?_;refine tk 0 ⟨⟨e0,e1⟩,x3,u0,u1,u2,u3⟩ ?_;refine tk 1 ⟨⟨e0,e1⟩,x3,u0,u1,u2,u3⟩ ?_;refine tk 2 ⟨⟨e0,e1⟩,x3,u0,u1,u2,u3⟩ ?_;refine tk 3 ⟨⟨e0,e1⟩,x3,u0,u1,u2,u3⟩ ?_;refine tk 4 ⟨⟨e0,e1⟩,x3,u0,u1,u2,u3⟩ ?_;refine tk 5 ⟨⟨e0,e1⟩,x3,u0,u1,u2,u3⟩ ?_;refine till_two (i := 6) (j := 7) (by kernel_rfl) rfl rfl (fun K' hK => ?_) (fun K' hK => ?_)
     . go_simp;go_at_call 32;(with_reducible refine (RvC.run HCA.o _ HJ.o.below.drew).mono ?_);rintro y w1 ⟨hy,b1⟩;unfold RetW at hy;subst hy;have hd := (Below.refl wr.heap.size wr).drew;have bt := hd.trans (b1.mono hd.size);have HJ1 := LH9 (HJ.o.up bt);replace e0 := cu9 e0 bt;replace e1 := cu9 e1 bt;replace x3 := cu9 x3 bt;replace u0 := cu9 u0 bt;replace u1 := cu9 u1 bt;replace u2 := cu9 u2 bt;replace u3 := cu9 u3 bt;refine hK _ _ ⟨⟨e0,e1⟩,x3,u0,u1,u2,u3⟩ ?_;clear hK K' b1 hd bt
       try simp only [Act.put,zp1,zp2,zp3,zp4,zp5,zp6]
       refine t19 7 (fun K' hK=>?_);go_simp;have bn := (Below.refl w1.heap.size w1).alloc (Nat.le_refl _) (.cells #[.string ⟨#[]⟩,.int .i64 0] 97);have HK2 := LH9 (HJ1.o.new (.string ⟨#[]⟩) (.int .i64 0));refine hK _ _ ⟨⟨cu9 e0 bn,cu9 e1 bn⟩,cu9 x3 bn,cu9 u0 bn,cu9 u1 bn,cu9 u2 bn,cu9 u3 bn⟩ ?_;clear hK K' bn HJ1 e0 e1 x3 u0 u1 u2 u3;generalize w1.alloc (.cells _ 97)=w2 at *;generalize w1.heap.size=z at *
       exact Z7_91
     . go_simp;have bn := below_new wr (.cells #[.string ⟨#[]⟩,.int .i64 0] 97);have HK1 := LH9 ((HJ.o.new (.string ⟨#[]⟩) (.int .i64 0)).up (Below.refl _ _).drew);replace e0 := cu9 e0 bn;replace e1 := cu9 e1 bn;replace x3 := cu9 x3 bn;replace u0 := cu9 u0 bn;replace u1 := cu9 u1 bn;replace u2 := cu9 u2 bn;replace u3 := cu9 u3 bn;refine hK _ _ ⟨⟨e0,e1⟩,x3,u0,u1,u2,u3⟩ ?_;clear hK K' bn;generalize (wr.alloc (.cells _ 97)).drew=w1 at *;generalize wr.heap.size=z at *
       try simp only [Act.put,zp1,zp2,zp3,zp4,zp5,zp6]
       refine t19 6 (fun K' hK=>?_);go_simp;go_at_call 32;(with_reducible refine (RvC.run HCA.o _ HK1.o.below).mono ?_);rintro y w2 ⟨hy,b1⟩;unfold RetW at hy;subst hy;have HK2 := LH9 (HK1.o.up b1);refine hK _ _ ⟨⟨cu9 e0 b1,cu9 e1 b1⟩,cu9 x3 b1,cu9 u0 b1,cu9 u1 b1,cu9 u2 b1,cu9 u3 b1⟩ ?_;clear hK K' b1 HK1 e0 e1 x3 u0 u1 u2 u3
       exact Z7_91
    case rest =>
     obtain ⟨z,rfl,HK⟩ := hcut;obtain ⟨W0,rfl⟩ : ∃ W : World,W=wc := ⟨_,rfl⟩;clear HJ e0 e1 x0 x1 x2 x3 HCA H0
     cases A with
     | brk =>
       obtain rfl : R=.brk := HBK.o (List.any_eq_true.2 ⟨_,HVM.o,by simp⟩);have t0 : W0.cell? ⟨z,0,none⟩=some (.string ⟨#[33]⟩) := (HK.o.sep.blk 0 rfl).cell 0;have t1 : W0.cell? ⟨z,1,none⟩=some (.int .i64 0) := (HK.o.sep.blk 0 rfl).cell 1;obtain ⟨q0,q1,q2,q3⟩ := HK.o.st.res.two;have hm := HK.o.st.lt;have HFN : Hid (Below w.heap.size w ((W0.setCell ⟨w.heap.size + 1 + 1,0,none⟩ (.string ⟨#[33]⟩)).setCell ⟨w.heap.size + 1 + 1,1,none⟩ (.int .i64 0))/\Mem.Blk ((W0.setCell ⟨w.heap.size + 1 + 1,0,none⟩ (.string ⟨#[33]⟩)).setCell ⟨w.heap.size + 1 + 1,1,none⟩ (.int .i64 0)) (w.heap.size + 1 + 1) 97 #[.string ⟨#[33]⟩,.int .i64 0]) := ⟨(HK.o.st.below.setCell (by show w.heap.size<=w.heap.size + 1 + 1; omega) _).setCell (by show w.heap.size<=w.heap.size + 1 + 1; omega) _,(HK.o.st.res.set_ 0 _).set_ 1 _⟩;go_wp2_with fail;generalize (W0.setCell ⟨w.heap.size + 1 + 1,0,none⟩ (.string ⟨#[33]⟩)).setCell ⟨w.heap.size + 1 + 1,1,none⟩ (.int .i64 0)=W9 at *;exact Z7_53
     | unk =>
       cases uu
       . exact Z7_50
       . exact Z7_50
     | num m =>
       cases uu
       . have HU2 : Hid (false=(VS ++ [(Vl.num m)]).any (fun v => decide (v=.unk))) := by
          show false=_;rw [any_snoc,<- HUU.o]; rfl
         have HN2 : Hid ((VS ++ [(Vl.num m)]).any (fun v => decide (v=.brk))=false) := by
          show _=false;rw [any_snoc,HNB.o]; rfl
         have t0 : W0.cell? ⟨z,0,none⟩=some (.string ⟨#[110]⟩) := (HK.o.sep.blk 0 rfl).cell 0;have t1 : W0.cell? ⟨z,1,none⟩=some (.int .i64 m) := (HK.o.sep.blk 0 rfl).cell 1;have bn := (Below.refl W0.heap.size W0).alloc (Nat.le_refl _) (.cells #[.string ⟨#[110]⟩,.int .i64 m] 97);have HK2 := LH9 (HK.o.up bn);obtain ⟨csl,hGr⟩ := (HK.o.up bn).sep.at 1 rfl;have HG := LH9 hGr;clear hGr bn HK HUU HNB;go_upto_region 21 with (at_builtin; refine ap_row infoW Tryz.underlying133 rfl (by decide) rfl (.tmp 118) (.tmp 120) rfl rfl HG.o.own HG.o.room ⟨W0.heap.size,0,none⟩ 1 1 [.string ⟨#[110]⟩,.int .i64 m] rfl rfl (lit_cells_at W0 #[.string ⟨#[110]⟩,.int .i64 m] 97 _ rfl) (by simp [Value.oneCell']) (by have := HLK.o; unfold maxLen; omega) (by have := HLK.o; omega) ?_; intro v1 w1 o1 g1 hv1; have HJ3 := LH9 (HK2.o.push (x := (Vl.num m)) HG.o o1 g1 hv1); clear o1 g1 hv1 HK2 HG);exact Z7_94
       . have HU2 : Hid (true=(VS ++ [(Vl.num m)]).any (fun v => decide (v=.unk))) := by
          show true=_;rw [any_snoc,<- HUU.o]; rfl
         have HN2 : Hid ((VS ++ [(Vl.num m)]).any (fun v => decide (v=.brk))=false) := by
          show _=false;rw [any_snoc,HNB.o]; rfl
         have t0 : W0.cell? ⟨z,0,none⟩=some (.string ⟨#[110]⟩) := (HK.o.sep.blk 0 rfl).cell 0;have t1 : W0.cell? ⟨z,1,none⟩=some (.int .i64 m) := (HK.o.sep.blk 0 rfl).cell 1;have bn := (Below.refl W0.heap.size W0).alloc (Nat.le_refl _) (.cells #[.string ⟨#[110]⟩,.int .i64 m] 97);have HK2 := LH9 (HK.o.up bn);obtain ⟨csl,hGr⟩ := (HK.o.up bn).sep.at 1 rfl;have HG := LH9 hGr;clear hGr bn HK HUU HNB;go_upto_region 21 with (at_builtin; refine ap_row infoW Tryz.underlying133 rfl (by decide) rfl (.tmp 118) (.tmp 120) rfl rfl HG.o.own HG.o.room ⟨W0.heap.size,0,none⟩ 1 1 [.string ⟨#[110]⟩,.int .i64 m] rfl rfl (lit_cells_at W0 #[.string ⟨#[110]⟩,.int .i64 m] 97 _ rfl) (by simp [Value.oneCell']) (by have := HLK.o; unfold maxLen; omega) (by have := HLK.o; omega) ?_; intro v1 w1 o1 g1 hv1; have HJ3 := LH9 (HK2.o.push (x := (Vl.num m)) HG.o o1 g1 hv1); clear o1 g1 hv1 HK2 HG);exact Z7_68
     | tru t =>
       cases t
       . cases uu
         . have HU2 : Hid (false=(VS ++ [(Vl.tru false)]).any (fun v => decide (v=.unk))) := by
            show false=_;rw [any_snoc,<- HUU.o]; rfl
           have HN2 : Hid ((VS ++ [(Vl.tru false)]).any (fun v => decide (v=.brk))=false) := by
            show _=false;rw [any_snoc,HNB.o]; rfl
           have t0 : W0.cell? ⟨z,0,none⟩=some (.string ⟨#[102]⟩) := (HK.o.sep.blk 0 rfl).cell 0;have t1 : W0.cell? ⟨z,1,none⟩=some (.int .i64 0) := (HK.o.sep.blk 0 rfl).cell 1;have bn := (Below.refl W0.heap.size W0).alloc (Nat.le_refl _) (.cells #[.string ⟨#[102]⟩,.int .i64 0] 97);have HK2 := LH9 (HK.o.up bn);obtain ⟨csl,hGr⟩ := (HK.o.up bn).sep.at 1 rfl;have HG := LH9 hGr;clear hGr bn HK HUU HNB;go_upto_region 21 with (at_builtin; refine ap_row infoW Tryz.underlying133 rfl (by decide) rfl (.tmp 118) (.tmp 120) rfl rfl HG.o.own HG.o.room ⟨W0.heap.size,0,none⟩ 1 1 [.string ⟨#[102]⟩,.int .i64 0] rfl rfl (lit_cells_at W0 #[.string ⟨#[102]⟩,.int .i64 0] 97 _ rfl) (by simp [Value.oneCell']) (by have := HLK.o; unfold maxLen; omega) (by have := HLK.o; omega) ?_; intro v1 w1 o1 g1 hv1; have HJ3 := LH9 (HK2.o.push (x := (Vl.tru false)) HG.o o1 g1 hv1); clear o1 g1 hv1 HK2 HG);exact Z7_94
         . have HU2 : Hid (true=(VS ++ [(Vl.tru false)]).any (fun v => decide (v=.unk))) := by
            show true=_;rw [any_snoc,<- HUU.o]; rfl
           have HN2 : Hid ((VS ++ [(Vl.tru false)]).any (fun v => decide (v=.brk))=false) := by
            show _=false;rw [any_snoc,HNB.o]; rfl
           have t0 : W0.cell? ⟨z,0,none⟩=some (.string ⟨#[102]⟩) := (HK.o.sep.blk 0 rfl).cell 0;have t1 : W0.cell? ⟨z,1,none⟩=some (.int .i64 0) := (HK.o.sep.blk 0 rfl).cell 1;have bn := (Below.refl W0.heap.size W0).alloc (Nat.le_refl _) (.cells #[.string ⟨#[102]⟩,.int .i64 0] 97);have HK2 := LH9 (HK.o.up bn);obtain ⟨csl,hGr⟩ := (HK.o.up bn).sep.at 1 rfl;have HG := LH9 hGr;clear hGr bn HK HUU HNB;go_upto_region 21 with (at_builtin; refine ap_row infoW Tryz.underlying133 rfl (by decide) rfl (.tmp 118) (.tmp 120) rfl rfl HG.o.own HG.o.room ⟨W0.heap.size,0,none⟩ 1 1 [.string ⟨#[102]⟩,.int .i64 0] rfl rfl (lit_cells_at W0 #[.string ⟨#[102]⟩,.int .i64 0] 97 _ rfl) (by simp [Value.oneCell']) (by have := HLK.o; unfold maxLen; omega) (by have := HLK.o; omega) ?_; intro v1 w1 o1 g1 hv1; have HJ3 := LH9 (HK2.o.push (x := (Vl.tru false)) HG.o o1 g1 hv1); clear o1 g1 hv1 HK2 HG);exact Z7_68
       . cases uu
         . have HU2 : Hid (false=(VS ++ [(Vl.tru true)]).any (fun v => decide (v=.unk))) := by
            show false=_;rw [any_snoc,<- HUU.o]; rfl
           have HN2 : Hid ((VS ++ [(Vl.tru true)]).any (fun v => decide (v=.brk))=false) := by
            show _=false;rw [any_snoc,HNB.o]; rfl
           have t0 : W0.cell? ⟨z,0,none⟩=some (.string ⟨#[116]⟩) := (HK.o.sep.blk 0 rfl).cell 0;have t1 : W0.cell? ⟨z,1,none⟩=some (.int .i64 0) := (HK.o.sep.blk 0 rfl).cell 1;have bn := (Below.refl W0.heap.size W0).alloc (Nat.le_refl _) (.cells #[.string ⟨#[116]⟩,.int .i64 0] 97);have HK2 := LH9 (HK.o.up bn);obtain ⟨csl,hGr⟩ := (HK.o.up bn).sep.at 1 rfl;have HG := LH9 hGr;clear hGr bn HK HUU HNB;go_upto_region 21 with (at_builtin; refine ap_row infoW Tryz.underlying133 rfl (by decide) rfl (.tmp 118) (.tmp 120) rfl rfl HG.o.own HG.o.room ⟨W0.heap.size,0,none⟩ 1 1 [.string ⟨#[116]⟩,.int .i64 0] rfl rfl (lit_cells_at W0 #[.string ⟨#[116]⟩,.int .i64 0] 97 _ rfl) (by simp [Value.oneCell']) (by have := HLK.o; unfold maxLen; omega) (by have := HLK.o; omega) ?_; intro v1 w1 o1 g1 hv1; have HJ3 := LH9 (HK2.o.push (x := (Vl.tru true)) HG.o o1 g1 hv1); clear o1 g1 hv1 HK2 HG);exact Z7_94
         . have HU2 : Hid (true=(VS ++ [(Vl.tru true)]).any (fun v => decide (v=.unk))) := by
            show true=_;rw [any_snoc,<- HUU.o]; rfl
           have HN2 : Hid ((VS ++ [(Vl.tru true)]).any (fun v => decide (v=.brk))=false) := by
            show _=false;rw [any_snoc,HNB.o]; rfl
           have t0 : W0.cell? ⟨z,0,none⟩=some (.string ⟨#[116]⟩) := (HK.o.sep.blk 0 rfl).cell 0;have t1 : W0.cell? ⟨z,1,none⟩=some (.int .i64 0) := (HK.o.sep.blk 0 rfl).cell 1;have bn := (Below.refl W0.heap.size W0).alloc (Nat.le_refl _) (.cells #[.string ⟨#[116]⟩,.int .i64 0] 97);have HK2 := LH9 (HK.o.up bn);obtain ⟨csl,hGr⟩ := (HK.o.up bn).sep.at 1 rfl;have HG := LH9 hGr;clear hGr bn HK HUU HNB;go_upto_region 21 with (at_builtin; refine ap_row infoW Tryz.underlying133 rfl (by decide) rfl (.tmp 118) (.tmp 120) rfl rfl HG.o.own HG.o.room ⟨W0.heap.size,0,none⟩ 1 1 [.string ⟨#[116]⟩,.int .i64 0] rfl rfl (lit_cells_at W0 #[.string ⟨#[116]⟩,.int .i64 0] 97 _ rfl) (by simp [Value.oneCell']) (by have := HLK.o; unfold maxLen; omega) (by have := HLK.o; omega) ?_; intro v1 w1 o1 g1 hv1; have HJ3 := LH9 (HK2.o.push (x := (Vl.tru true)) HG.o o1 g1 hv1); clear o1 g1 hv1 HK2 HG);exact Z7_68
  . have hk' : ¬ (k : Int) < (len' : Int) := by omega
    obtain rfl : k=len' := by omega
    have hta : (args.map V).take k=args.map V := List.take_of_length_le (by rw [List.length_map,HL.o]; omega);rw [hta] at HUU HNB HJ;have HFS := LH9 (HF.o.kept (Kept.of_below HJ.o.below []))
    cases uu with
    | true =>
      obtain rfl : R=.unk := HU.o HNB.o HUU.o.symm;clear HUU HNB HBK HU HTT HC hta;obtain ⟨q0,q1,q2,q3⟩ := HJ.o.st.res.two;have hm := HJ.o.st.lt;have HFN : Hid (Below w.heap.size w ((wr.setCell ⟨w.heap.size + 1 + 1,0,none⟩ (.string ⟨#[63]⟩)).setCell ⟨w.heap.size + 1 + 1,1,none⟩ (.int .i64 0))/\Mem.Blk ((wr.setCell ⟨w.heap.size + 1 + 1,0,none⟩ (.string ⟨#[63]⟩)).setCell ⟨w.heap.size + 1 + 1,1,none⟩ (.int .i64 0)) (w.heap.size + 1 + 1) 97 #[.string ⟨#[63]⟩,.int .i64 0]) := ⟨(HJ.o.st.below.setCell (by show w.heap.size<=w.heap.size + 1 + 1; omega) _).setCell (by show w.heap.size<=w.heap.size + 1 + 1; omega) _,(HJ.o.st.res.set_ 0 _).set_ 1 _⟩;go_wp2_with fail;generalize (wr.setCell ⟨w.heap.size + 1 + 1,0,none⟩ (.string ⟨#[63]⟩)).setCell ⟨w.heap.size + 1 + 1,1,none⟩ (.int .i64 0)=W9 at *;exact Z7_59
    | false =>
      have hTP := HTT.o HNB.o HUU.o.symm;clear HUU HNB HBK HU HTT HC hta HF HSA;obtain ⟨VL,hVL⟩ : ∃ VL,VL=args.map V := ⟨_,rfl⟩;rw [<- hVL] at hTP HJ;have hl9 : VL.length=k := by rw [hVL,List.length_map]; exact HL.o
      clear hVL HL;obtain ⟨p,cL,rfl,hval⟩ := HJ.o.val;have HVV := LH9 hval;clear hval
      cases hTP with
      | lit h =>
        obtain rfl : k=0 := by simpa using hl9.symm
        rcases h with rfl | rfl
        . exact Z7_64
        . exact Z7_64
      | day h =>
        obtain rfl : k=0 := by simpa using hl9.symm
        subst h;obtain ⟨q0,q1,q2,q3⟩ := HJ.o.st.res.two;have hm := HJ.o.st.lt;have HFN : Hid (Below w.heap.size w ((wr.setCell ⟨w.heap.size + 1 + 1,0,none⟩ (.string ⟨#[110]⟩)).setCell ⟨w.heap.size + 1 + 1,1,none⟩ (.int .i64 day))/\Mem.Blk ((wr.setCell ⟨w.heap.size + 1 + 1,0,none⟩ (.string ⟨#[110]⟩)).setCell ⟨w.heap.size + 1 + 1,1,none⟩ (.int .i64 day)) (w.heap.size + 1 + 1) 97 #[.string ⟨#[110]⟩,.int .i64 day]) := ⟨(HJ.o.st.below.setCell (by show w.heap.size<=w.heap.size + 1 + 1; omega) _).setCell (by show w.heap.size<=w.heap.size + 1 + 1; omega) _,(HJ.o.st.res.set_ 0 _).set_ 1 _⟩;go_wp2_with fail;generalize (wr.setCell ⟨w.heap.size + 1 + 1,0,none⟩ (.string ⟨#[110]⟩)).setCell ⟨w.heap.size + 1 + 1,1,none⟩ (.int .i64 day)=W9 at *;obtain ⟨r0,r1,-,-⟩ := HFN.o.2.two;refine bodyPost_ret (v := .agg #[.string ⟨#[110]⟩,.int .i64 day]) (by simp [results,Tryz.results32,go_sem,r0,r1]) rfl ⟨rfl,HFN.o.1⟩
      | obs r h hr =>
        obtain rfl : k=0 := by simpa using hl9.symm
        subst h;have HSE := LH9 (rseen_any day fx nm a len cap wr HFS.o);have e0 : wr.cell? ⟨w.heap.size + 1,0,none⟩=some (.int .i64 day) := HJ.o.st.env.cell 0;have e1 : wr.cell? ⟨w.heap.size + 1,1,none⟩=some (.slice a len cap) := HJ.o.st.env.cell 1;obtain ⟨x0,x1,x2,x3,-,-,-,-⟩ := blk4 HJ.o.st.ex;go_wp2_with fail;go_at_call 60;(with_reducible refine HSE.o.mono ?_);rintro y w2 ⟨rfl,b2⟩;have HJ2 := LH9 (HJ.o.up b2);clear b2 HSE HJ HFS e0 e1 x0 x1 x2 x3;rcases seen_two day fx nm with h | ⟨m,h⟩
        . rw [h] at hr ⊢;subst hr;clear h;simp only [seenRt];obtain ⟨q0,q1,q2,q3⟩ := HJ2.o.st.res.two;have hm := HJ2.o.st.lt;have HFN : Hid (Below w.heap.size w ((w2.setCell ⟨w.heap.size + 1 + 1,0,none⟩ (.string ⟨#[63]⟩)).setCell ⟨w.heap.size + 1 + 1,1,none⟩ (.int .i64 0))/\Mem.Blk ((w2.setCell ⟨w.heap.size + 1 + 1,0,none⟩ (.string ⟨#[63]⟩)).setCell ⟨w.heap.size + 1 + 1,1,none⟩ (.int .i64 0)) (w.heap.size + 1 + 1) 97 #[.string ⟨#[63]⟩,.int .i64 0]) := ⟨(HJ2.o.st.below.setCell (by show w.heap.size<=w.heap.size + 1 + 1; omega) _).setCell (by show w.heap.size<=w.heap.size + 1 + 1; omega) _,(HJ2.o.st.res.set_ 0 _).set_ 1 _⟩;go_wp2_with fail;generalize (w2.setCell ⟨w.heap.size + 1 + 1,0,none⟩ (.string ⟨#[63]⟩)).setCell ⟨w.heap.size + 1 + 1,1,none⟩ (.int .i64 0)=W9 at *;exact Z7_59
        . rw [h] at hr ⊢;subst hr;clear h;simp only [seenRt];exact Z7_44
      | not t r h hr =>
        obtain rfl : k=1 := by simpa using hl9.symm
        subst h;obtain ⟨g,rfl,hv⟩ := HVV.o (by simp);have h0 := hv 0 (.tru t) rfl;clear hv HVV;have HRR := LH9 hr;clear hr
        cases t with
        | false =>
          have l0 : wr.cell? ⟨g,0,none⟩=some (.string ⟨#[102]⟩) := h0.1;clear h0;have e0 : wr.cell? ⟨w.heap.size + 1,0,none⟩=some (.int .i64 day) := HJ.o.st.env.cell 0;have e1 : wr.cell? ⟨w.heap.size + 1,1,none⟩=some (.slice a len cap) := HJ.o.st.env.cell 1;obtain ⟨x0,x1,x2,x3,-,-,-,-⟩ := blk4 HJ.o.st.ex;go_wp2_with fail;go_at_call 59;(with_reducible refine (rtruth_any _ _).mono ?_);rintro y w2 ⟨hy,b2⟩;have hy2 : RetW R y := HRR.o ▸ hy;have HJ2 := LH9 (HJ.o.up b2);clear b2 hy HJ e0 e1 x0 x1 x2 x3 l0 HRR;unfold RetW at hy2;subst hy2;have HP : Hid (RetW R (.returned (.agg #[.string (wd R),.int .i64 R.N]))) := rfl;generalize wd R=rk at *;generalize R.N=rn at *;obtain ⟨q0,q1,q2,q3⟩ := HJ2.o.st.res.two;have hm := HJ2.o.st.lt;have HFN : Hid (Below w.heap.size w ((w2.setCell ⟨w.heap.size + 1 + 1,0,none⟩ (.string rk)).setCell ⟨w.heap.size + 1 + 1,1,none⟩ (.int .i64 rn))/\Mem.Blk ((w2.setCell ⟨w.heap.size + 1 + 1,0,none⟩ (.string rk)).setCell ⟨w.heap.size + 1 + 1,1,none⟩ (.int .i64 rn)) (w.heap.size + 1 + 1) 97 #[.string rk,.int .i64 rn]) := ⟨(HJ2.o.st.below.setCell (by show w.heap.size<=w.heap.size + 1 + 1; omega) _).setCell (by show w.heap.size<=w.heap.size + 1 + 1; omega) _,(HJ2.o.st.res.set_ 0 _).set_ 1 _⟩;exact Z7_31
        | true =>
          have l0 : wr.cell? ⟨g,0,none⟩=some (.string ⟨#[116]⟩) := h0.1;clear h0;have e0 : wr.cell? ⟨w.heap.size + 1,0,none⟩=some (.int .i64 day) := HJ.o.st.env.cell 0;have e1 : wr.cell? ⟨w.heap.size + 1,1,none⟩=some (.slice a len cap) := HJ.o.st.env.cell 1;obtain ⟨x0,x1,x2,x3,-,-,-,-⟩ := blk4 HJ.o.st.ex;go_wp2_with fail;go_at_call 59;(with_reducible refine (rtruth_any _ _).mono ?_);rintro y w2 ⟨hy,b2⟩;have hy2 : RetW R y := HRR.o ▸ hy;have HJ2 := LH9 (HJ.o.up b2);clear b2 hy HJ e0 e1 x0 x1 x2 x3 l0 HRR;unfold RetW at hy2;subst hy2;have HP : Hid (RetW R (.returned (.agg #[.string (wd R),.int .i64 R.N]))) := rfl;generalize wd R=rk at *;generalize R.N=rn at *;obtain ⟨q0,q1,q2,q3⟩ := HJ2.o.st.res.two;have hm := HJ2.o.st.lt;have HFN : Hid (Below w.heap.size w ((w2.setCell ⟨w.heap.size + 1 + 1,0,none⟩ (.string rk)).setCell ⟨w.heap.size + 1 + 1,1,none⟩ (.int .i64 rn))/\Mem.Blk ((w2.setCell ⟨w.heap.size + 1 + 1,0,none⟩ (.string rk)).setCell ⟨w.heap.size + 1 + 1,1,none⟩ (.int .i64 rn)) (w.heap.size + 1 + 1) 97 #[.string rk,.int .i64 rn]) := ⟨(HJ2.o.st.below.setCell (by show w.heap.size<=w.heap.size + 1 + 1; omega) _).setCell (by show w.heap.size<=w.heap.size + 1 + 1; omega) _,(HJ2.o.st.res.set_ 0 _).set_ 1 _⟩;exact Z7_31
      | neg x r h hx hr =>
        obtain rfl : k=1 := by simpa using hl9.symm
        subst h;obtain ⟨g,rfl,hv⟩ := HVV.o (by simp);have l0 : wr.cell? ⟨g,1,none⟩=some (.int .i64 x) := (hv 0 _ rfl).2;clear hv HVV z17 z18 z21;have HRR := LH9 (show numV (madeM 20 x 0)=R from hr);have HMD := LH9 (fun W => made_any 20 x 0 W hx (by unfold I64; omega));clear hr hx;have e0 : wr.cell? ⟨w.heap.size + 1,0,none⟩=some (.int .i64 day) := HJ.o.st.env.cell 0;have e1 : wr.cell? ⟨w.heap.size + 1,1,none⟩=some (.slice a len cap) := HJ.o.st.env.cell 1;obtain ⟨x0,x1,x2,x3,-,-,-,-⟩ := blk4 HJ.o.st.ex;go_upto_region 57 with (fail);clear e0 e1 x1 x2 x3;refine wp_region_till (S := fun W => W.cell? ⟨w.heap.size,0,none⟩=some (.int .i64 20)/\W.cell? ⟨g,1,none⟩=some (.int .i64 x)) 7 (by kernel_rfl) ?_;refine tk 0 ⟨x0,l0⟩ ?_;refine tk 1 ⟨x0,l0⟩ ?_;refine tk 2 ⟨x0,l0⟩ ?_;refine tk 3 ⟨x0,l0⟩ ?_;refine tk 4 ⟨x0,l0⟩ ?_;refine tk 5 ⟨x0,l0⟩ ?_;refine tk 6 ⟨x0,l0⟩ ?_;refine tl9 (fun K' hK=>?_);go_simp;go_at_call 61;(with_reducible refine (HMD.o _).mono ?_);rintro y' w2 ⟨rfl,b1⟩;have hd := (Below.refl wr.heap.size wr).drew;have HJ2 := LH9 (HJ.o.up (hd.trans (b1.mono hd.size)));clear b1 hd HMD HJ x0 l0;unfold fitR fitN fitB;refine hK _ _ ?_;clear hK K'
        try simp only [Act.put,zp1,zp2,zp3,zp4,zp5,zp6]
        refine ak 8 ?_;refine ak 9 ?_;refine ak 10 ?_;refine ak 11 ?_;refine ak 12 ?_;refine wd9 ?_;generalize madeM 20 x 0=oo at *
        cases oo with
        | none =>
          obtain rfl : R=.brk := HRR.o.symm;clear HRR;simp only [Option.isSome,Option.getD];obtain ⟨q0,q1,q2,q3⟩ := HJ2.o.st.res.two;have hm := HJ2.o.st.lt;have HFN : Hid (Below w.heap.size w ((w2.setCell ⟨w.heap.size + 1 + 1,0,none⟩ (.string ⟨#[33]⟩)).setCell ⟨w.heap.size + 1 + 1,1,none⟩ (.int .i64 0))/\Mem.Blk ((w2.setCell ⟨w.heap.size + 1 + 1,0,none⟩ (.string ⟨#[33]⟩)).setCell ⟨w.heap.size + 1 + 1,1,none⟩ (.int .i64 0)) (w.heap.size + 1 + 1) 97 #[.string ⟨#[33]⟩,.int .i64 0]) := ⟨(HJ2.o.st.below.setCell (by show w.heap.size<=w.heap.size + 1 + 1; omega) _).setCell (by show w.heap.size<=w.heap.size + 1 + 1; omega) _,(HJ2.o.st.res.set_ 0 _).set_ 1 _⟩;go_wp2_with fail;generalize (w2.setCell ⟨w.heap.size + 1 + 1,0,none⟩ (.string ⟨#[33]⟩)).setCell ⟨w.heap.size + 1 + 1,1,none⟩ (.int .i64 0)=W9 at *;exact Z7_53
        | some m =>
          obtain rfl : R=.num m := HRR.o.symm;clear HRR;simp only [Option.isSome,Option.getD];exact Z7_44
      | ar x y r h hx hy hr =>
        obtain rfl : k=2 := by simpa using hl9.symm
        obtain ⟨g,rfl,hv⟩ := HVV.o (by simp);have l0 : wr.cell? ⟨g,1,none⟩=some (.int .i64 x) := (hv 0 _ rfl).2;have l1 : wr.cell? ⟨g,3,none⟩=some (.int .i64 y) := (hv 1 _ rfl).2;have HRR := LH9 (show numV (madeM op x y)=R by rw [made_val h]; exact hr);have HMD := LH9 (fun W => made_any op x y W hx hy);have y1 : (op == 1)=false := beq_eq_false_iff_ne.2 (by omega);have y2 : (op == 2)=false := beq_eq_false_iff_ne.2 (by omega);have y3 : (op == 3)=false := beq_eq_false_iff_ne.2 (by omega);have y4 : (op == 4)=false := beq_eq_false_iff_ne.2 (by omega);have y5 : (op == 19)=false := beq_eq_false_iff_ne.2 (by omega);have y6 : (op == 11)=false := beq_eq_false_iff_ne.2 (by omega);have y7 : (op == 12)=false := beq_eq_false_iff_ne.2 (by omega);have y8 : (op == 13)=false := beq_eq_false_iff_ne.2 (by omega);have y9 : (op == 14)=false := beq_eq_false_iff_ne.2 (by omega);have y10 : (op == 15)=false := beq_eq_false_iff_ne.2 (by omega);have y11 : (op == 16)=false := beq_eq_false_iff_ne.2 (by omega);clear hv HVV hr hx hy h;have e0 : wr.cell? ⟨w.heap.size + 1,0,none⟩=some (.int .i64 day) := HJ.o.st.env.cell 0;have e1 : wr.cell? ⟨w.heap.size + 1,1,none⟩=some (.slice a len cap) := HJ.o.st.env.cell 1;obtain ⟨x0,x1,x2,x3,-,-,-,-⟩ := blk4 HJ.o.st.ex;go_upto_region 57 with (fail);clear l1 y1 y2 y3 y4 y5 y6 y7 y8 y9 y10 y11 z17 z18 z21;clear e0 e1 x1 x2 x3;refine wp_region_till (S := fun W => W.cell? ⟨w.heap.size,0,none⟩=some (.int .i64 op)/\W.cell? ⟨g,1,none⟩=some (.int .i64 x)) 7 (by kernel_rfl) ?_;refine tk 0 ⟨x0,l0⟩ ?_;refine tk 1 ⟨x0,l0⟩ ?_;refine tk 2 ⟨x0,l0⟩ ?_;refine tk 3 ⟨x0,l0⟩ ?_;refine tk 4 ⟨x0,l0⟩ ?_;refine tk 5 ⟨x0,l0⟩ ?_;refine tk 6 ⟨x0,l0⟩ ?_;refine tl9 (fun K' hK=>?_);go_simp;go_at_call 61;(with_reducible refine (HMD.o _).mono ?_);rintro y' w2 ⟨rfl,b1⟩;have hd := (Below.refl wr.heap.size wr).drew;have HJ2 := LH9 (HJ.o.up (hd.trans (b1.mono hd.size)));clear b1 hd HMD HJ x0 l0;unfold fitR fitN fitB;refine hK _ _ ?_;clear hK K'
        try simp only [Act.put,zp1,zp2,zp3,zp4,zp5,zp6]
        refine ak 8 ?_;refine ak 9 ?_;refine ak 10 ?_;refine ak 11 ?_;refine ak 12 ?_;refine wd9 ?_;generalize madeM op x y=oo at *
        cases oo with
        | none =>
          obtain rfl : R=.brk := HRR.o.symm;clear HRR;simp only [Option.isSome,Option.getD];obtain ⟨q0,q1,q2,q3⟩ := HJ2.o.st.res.two;have hm := HJ2.o.st.lt;have HFN : Hid (Below w.heap.size w ((w2.setCell ⟨w.heap.size + 1 + 1,0,none⟩ (.string ⟨#[33]⟩)).setCell ⟨w.heap.size + 1 + 1,1,none⟩ (.int .i64 0))/\Mem.Blk ((w2.setCell ⟨w.heap.size + 1 + 1,0,none⟩ (.string ⟨#[33]⟩)).setCell ⟨w.heap.size + 1 + 1,1,none⟩ (.int .i64 0)) (w.heap.size + 1 + 1) 97 #[.string ⟨#[33]⟩,.int .i64 0]) := ⟨(HJ2.o.st.below.setCell (by show w.heap.size<=w.heap.size + 1 + 1; omega) _).setCell (by show w.heap.size<=w.heap.size + 1 + 1; omega) _,(HJ2.o.st.res.set_ 0 _).set_ 1 _⟩;go_wp2_with fail;generalize (w2.setCell ⟨w.heap.size + 1 + 1,0,none⟩ (.string ⟨#[33]⟩)).setCell ⟨w.heap.size + 1 + 1,1,none⟩ (.int .i64 0)=W9 at *;exact Z7_53
        | some m =>
          obtain rfl : R=.num m := HRR.o.symm;clear HRR;simp only [Option.isSome,Option.getD];exact Z7_44
      | cmp x y r h hr =>
        obtain rfl : k=2 := by simpa using hl9.symm
        obtain ⟨g,rfl,hv⟩ := HVV.o (by simp);have l0 : wr.cell? ⟨g,1,none⟩=some (.int .i64 x) := (hv 0 _ rfl).2;have l1 : wr.cell? ⟨g,3,none⟩=some (.int .i64 y) := (hv 1 _ rfl).2;clear hv HVV z17 z18 z21;have HRR := LH9 hr;clear hr;have hop : op=11\/op=12\/op=13\/op=14\/op=15\/op=16 := by omega
        clear h;rcases hop with rfl | rfl | rfl | rfl | rfl | rfl
        . have HB9 : Hid (Vl.tru (decide (x < y))=R) := by rw [<- HRR.o]; exact congrArg Vl.tru (show (decide (x < y))=cmpV _ x y from rfl)
          have e0 : wr.cell? ⟨w.heap.size + 1,0,none⟩=some (.int .i64 day) := HJ.o.st.env.cell 0;have e1 : wr.cell? ⟨w.heap.size + 1,1,none⟩=some (.slice a len cap) := HJ.o.st.env.cell 1;obtain ⟨x0,x1,x2,x3,-,-,-,-⟩ := blk4 HJ.o.st.ex;go_wp2_with fail;clear e0 e1 x0 x1 x2 x3;refine wp_region_till (S := fun W => W.cell? ⟨g,1,none⟩=some (.int .i64 x)/\W.cell? ⟨g,3,none⟩=some (.int .i64 y)) 10 (by kernel_rfl) ?_;refine tk 0 ⟨l0,l1⟩ ?_;refine tk 1 ⟨l0,l1⟩ ?_;refine tk 2 ⟨l0,l1⟩ ?_;refine tk 3 ⟨l0,l1⟩ ?_;refine tk 4 ⟨l0,l1⟩ ?_;refine tk 5 ⟨l0,l1⟩ ?_;refine tk 6 ⟨l0,l1⟩ ?_;refine tk 7 ⟨l0,l1⟩ ?_;refine tk 8 ⟨l0,l1⟩ ?_
          skip
          refine t19 9 (fun K' hK=>?_);go_simp;go_at_call 59;(with_reducible refine (rtruth_any (decide (x < y)) _).mono ?_);exact Z7_5
        . have HB9 : Hid (Vl.tru (!decide (y < x))=R) := by rw [<- HRR.o]; exact congrArg Vl.tru (show (!decide (y < x))=cmpV _ x y from nlt x y)
          have e0 : wr.cell? ⟨w.heap.size + 1,0,none⟩=some (.int .i64 day) := HJ.o.st.env.cell 0;have e1 : wr.cell? ⟨w.heap.size + 1,1,none⟩=some (.slice a len cap) := HJ.o.st.env.cell 1;obtain ⟨x0,x1,x2,x3,-,-,-,-⟩ := blk4 HJ.o.st.ex;go_wp2_with fail;clear e0 e1 x0 x1 x2 x3;refine wp_region_till (S := fun W => W.cell? ⟨g,1,none⟩=some (.int .i64 x)/\W.cell? ⟨g,3,none⟩=some (.int .i64 y)) 11 (by kernel_rfl) ?_;refine tk 0 ⟨l0,l1⟩ ?_;refine tk 1 ⟨l0,l1⟩ ?_;refine tk 2 ⟨l0,l1⟩ ?_;refine tk 3 ⟨l0,l1⟩ ?_;refine tk 4 ⟨l0,l1⟩ ?_;refine tk 5 ⟨l0,l1⟩ ?_;refine tk 6 ⟨l0,l1⟩ ?_;refine tk 7 ⟨l0,l1⟩ ?_;refine tk 8 ⟨l0,l1⟩ ?_;refine tk 9 ⟨l0,l1⟩ ?_;refine t19 10 (fun K' hK=>?_);go_simp;go_at_call 59;(with_reducible refine (rtruth_any (!decide (y < x)) _).mono ?_);exact Z7_5
        . have HB9 : Hid (Vl.tru (x == y)=R) := by rw [<- HRR.o]; exact congrArg Vl.tru (show (x == y)=cmpV _ x y from rfl)
          have e0 : wr.cell? ⟨w.heap.size + 1,0,none⟩=some (.int .i64 day) := HJ.o.st.env.cell 0;have e1 : wr.cell? ⟨w.heap.size + 1,1,none⟩=some (.slice a len cap) := HJ.o.st.env.cell 1;obtain ⟨x0,x1,x2,x3,-,-,-,-⟩ := blk4 HJ.o.st.ex;go_wp2_with fail;clear e0 e1 x0 x1 x2 x3;refine wp_region_till (S := fun W => W.cell? ⟨g,1,none⟩=some (.int .i64 x)/\W.cell? ⟨g,3,none⟩=some (.int .i64 y)) 10 (by kernel_rfl) ?_;refine tk 0 ⟨l0,l1⟩ ?_;refine tk 1 ⟨l0,l1⟩ ?_;refine tk 2 ⟨l0,l1⟩ ?_;refine tk 3 ⟨l0,l1⟩ ?_;refine tk 4 ⟨l0,l1⟩ ?_;refine tk 5 ⟨l0,l1⟩ ?_;refine tk 6 ⟨l0,l1⟩ ?_;refine tk 7 ⟨l0,l1⟩ ?_;refine tk 8 ⟨l0,l1⟩ ?_
          skip
          refine t19 9 (fun K' hK=>?_);go_simp;go_at_call 59;(with_reducible refine (rtruth_any (x == y) _).mono ?_);exact Z7_5
        . have HB9 : Hid (Vl.tru (!(x == y))=R) := by rw [<- HRR.o]; exact congrArg Vl.tru (show (!(x == y))=cmpV _ x y from by simp [cmpV]; rfl)
          have e0 : wr.cell? ⟨w.heap.size + 1,0,none⟩=some (.int .i64 day) := HJ.o.st.env.cell 0;have e1 : wr.cell? ⟨w.heap.size + 1,1,none⟩=some (.slice a len cap) := HJ.o.st.env.cell 1;obtain ⟨x0,x1,x2,x3,-,-,-,-⟩ := blk4 HJ.o.st.ex;go_wp2_with fail;clear e0 e1 x0 x1 x2 x3;refine wp_region_till (S := fun W => W.cell? ⟨g,1,none⟩=some (.int .i64 x)/\W.cell? ⟨g,3,none⟩=some (.int .i64 y)) 11 (by kernel_rfl) ?_;refine tk 0 ⟨l0,l1⟩ ?_;refine tk 1 ⟨l0,l1⟩ ?_;refine tk 2 ⟨l0,l1⟩ ?_;refine tk 3 ⟨l0,l1⟩ ?_;refine tk 4 ⟨l0,l1⟩ ?_;refine tk 5 ⟨l0,l1⟩ ?_;refine tk 6 ⟨l0,l1⟩ ?_;refine tk 7 ⟨l0,l1⟩ ?_;refine tk 8 ⟨l0,l1⟩ ?_;refine tk 9 ⟨l0,l1⟩ ?_;refine t19 10 (fun K' hK=>?_);go_simp;go_at_call 59;(with_reducible refine (rtruth_any (!(x == y)) _).mono ?_);exact Z7_5
        . have HB9 : Hid (Vl.tru (!decide (x < y))=R) := by rw [<- HRR.o]; exact congrArg Vl.tru (show (!decide (x < y))=cmpV _ x y from nlt y x)
          have e0 : wr.cell? ⟨w.heap.size + 1,0,none⟩=some (.int .i64 day) := HJ.o.st.env.cell 0;have e1 : wr.cell? ⟨w.heap.size + 1,1,none⟩=some (.slice a len cap) := HJ.o.st.env.cell 1;obtain ⟨x0,x1,x2,x3,-,-,-,-⟩ := blk4 HJ.o.st.ex;go_wp2_with fail;clear e0 e1 x0 x1 x2 x3;refine wp_region_till (S := fun W => W.cell? ⟨g,1,none⟩=some (.int .i64 x)/\W.cell? ⟨g,3,none⟩=some (.int .i64 y)) 11 (by kernel_rfl) ?_;refine tk 0 ⟨l0,l1⟩ ?_;refine tk 1 ⟨l0,l1⟩ ?_;refine tk 2 ⟨l0,l1⟩ ?_;refine tk 3 ⟨l0,l1⟩ ?_;refine tk 4 ⟨l0,l1⟩ ?_;refine tk 5 ⟨l0,l1⟩ ?_;refine tk 6 ⟨l0,l1⟩ ?_;refine tk 7 ⟨l0,l1⟩ ?_;refine tk 8 ⟨l0,l1⟩ ?_;refine tk 9 ⟨l0,l1⟩ ?_;refine t19 10 (fun K' hK=>?_);go_simp;go_at_call 59;(with_reducible refine (rtruth_any (!decide (x < y)) _).mono ?_);exact Z7_5
        . have HB9 : Hid (Vl.tru (decide (y < x))=R) := by rw [<- HRR.o]; exact congrArg Vl.tru (show (decide (y < x))=cmpV _ x y from rfl)
          have e0 : wr.cell? ⟨w.heap.size + 1,0,none⟩=some (.int .i64 day) := HJ.o.st.env.cell 0;have e1 : wr.cell? ⟨w.heap.size + 1,1,none⟩=some (.slice a len cap) := HJ.o.st.env.cell 1;obtain ⟨x0,x1,x2,x3,-,-,-,-⟩ := blk4 HJ.o.st.ex;go_wp2_with fail;clear e0 e1 x0 x1 x2 x3;refine wp_region_till (S := fun W => W.cell? ⟨g,1,none⟩=some (.int .i64 x)/\W.cell? ⟨g,3,none⟩=some (.int .i64 y)) 10 (by kernel_rfl) ?_;refine tk 0 ⟨l0,l1⟩ ?_;refine tk 1 ⟨l0,l1⟩ ?_;refine tk 2 ⟨l0,l1⟩ ?_;refine tk 3 ⟨l0,l1⟩ ?_;refine tk 4 ⟨l0,l1⟩ ?_;refine tk 5 ⟨l0,l1⟩ ?_;refine tk 6 ⟨l0,l1⟩ ?_;refine tk 7 ⟨l0,l1⟩ ?_;refine tk 8 ⟨l0,l1⟩ ?_
          skip
          refine t19 9 (fun K' hK=>?_);go_simp;go_at_call 59;(with_reducible refine (rtruth_any (decide (y < x)) _).mono ?_);exact Z7_5
end
end Go.Proofs.YtmiinmndbkdjbaaGreat
