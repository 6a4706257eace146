/- A part of the proof: Two, Seen, EvS, one behind another. -/
import Derived.Test.YtmiinmndbkdjbaaGreatMEA
import Derived.Test.YtmiinmndbkdjbaaGreatMED
import Derived.Test.YtmiinmndbkdjbaaGreatMEF
import Derived.Deep.QuietTactic
import Derived.BigQuiet
import Derived.Lib.Hide
import Derived.WalkKit
set_option maxRecDepth 100000
set_option maxHeartbeats 16000000
set_option linter.unusedVariables false
set_option linter.unusedSimpArgs false
namespace Go.Proofs.YtmiinmndbkdjbaaGreat
open Go.RowKit
section
def Vl.K : Vl->Int | .unk => 0 | .num _ => 1 | .tru _ => 2 | .brk => 3
def RetV (v : Vl) (x : Ending) : Prop := x=.returned (.agg #[.int .i64 v.K,.int .i64 v.N,.bool v.B])
def nmV (n : Int) (b : Bool) : Vl := if b then .num n else .brk
theorem nmV_fit (o : Option Int) : nmV (fitN o) (fitB o)=numV o := by cases o <;> rfl
theorem blk3 {w : World} {g : Nat} {t : TypeId} {a b c : Value} (h : Mem.Blk w g t #[a,b,c]) : w.cell? ⟨g,0,none⟩=some a/\w.cell? ⟨g,1,none⟩=some b/\w.cell? ⟨g,2,none⟩=some c /\
 w.frozen? ⟨g,0,none⟩=false/\w.frozen? ⟨g,1,none⟩=false/\w.frozen? ⟨g,2,none⟩=false := ⟨h.cell 0,h.cell 1,h.cell 2,h.frozen 0,h.frozen 1,h.frozen 2⟩
theorem ret3 {w w1 : World} {g : Nat} {ty : TypeId} {b0 b1 b2 : Value} (c0 c1 c2 : Value) (hb : Below w.heap.size w w1) (hg : w.heap.size<=g) (hB : Mem.Blk w1 g ty #[b0,b1,b2]) :
 Below w.heap.size w (((w1.setCell ⟨g,0,none⟩ c0).setCell ⟨g,1,none⟩ c1).setCell ⟨g,2,none⟩ c2)/\Mem.Blk (((w1.setCell ⟨g,0,none⟩ c0).setCell ⟨g,1,none⟩ c1).setCell ⟨g,2,none⟩ c2) g ty #[c0,c1,c2] :=
 ⟨((hb.setCell hg _).setCell hg _).setCell hg _,((hB.set_ 0 _).set_ 1 _).set_ 2 _⟩
theorem below_two (w : World) (a : Obj) : Below w.heap.size w (w.alloc a) := (Below.refl _ _).alloc (Nat.le_refl _) a
theorem number_any (n : Int) (b : Bool) (w : World) : Calls Tryz.prog 122 #[.int .i64 n,.bool b] w fun x w' => RetV (nmV n b) x/\Below w.heap.size w w' := by
 have BX := LH9 (Mem.Blk.new w 150 #[.int .i64 0,.int .i64 0,.bool false]);have HB := LH9 (below_two w (.cells #[.int .i64 0,.int .i64 0,.bool false] 150))
 go_enter Tryz.func122,Tryz.ntmps122
 go_upto_region 1 with (fail);generalize w.alloc (.cells _ 150)=v at *;obtain ⟨t0,t1,t2,t3,t4,t5⟩ := blk3 BX.o;have hm := BX.o.lt
 cases b with
 | false =>
   have HFN := LH9 (ret3 (.int .i64 3) (.int .i64 0) (.bool false) HB.o (Nat.le_refl _) BX.o);go_wp2_with fail;generalize ((v.setCell ⟨w.heap.size,0,none⟩ (.int .i64 3)).setCell ⟨w.heap.size,1,none⟩ (.int .i64 0)).setCell ⟨w.heap.size,2,none⟩ (.bool false)=W9 at *;obtain ⟨r0,r1,r2,-,-,-⟩ := blk3 HFN.o.2;refine bodyPost_ret (v := .agg #[.int .i64 3,.int .i64 0,.bool false]) (by simp [results,Tryz.results122,go_sem,r0,r1,r2]) rfl ⟨rfl,HFN.o.1⟩
 | true =>
   have HFN := LH9 (ret3 (.int .i64 1) (.int .i64 n) (.bool false) HB.o (Nat.le_refl _) BX.o);go_wp2_with fail;generalize ((v.setCell ⟨w.heap.size,0,none⟩ (.int .i64 1)).setCell ⟨w.heap.size,1,none⟩ (.int .i64 n)).setCell ⟨w.heap.size,2,none⟩ (.bool false)=W9 at *;obtain ⟨r0,r1,r2,-,-,-⟩ := blk3 HFN.o.2;refine bodyPost_ret (v := .agg #[.int .i64 1,.int .i64 n,.bool false]) (by simp [results,Tryz.results122,go_sem,r0,r1,r2]) rfl ⟨rfl,HFN.o.1⟩
theorem truth_any (b : Bool) (w : World) : Calls Tryz.prog 125 #[.bool b] w fun x w' => RetV (.tru b) x/\Below w.heap.size w w' := by
 have BX := LH9 (Mem.Blk.new w 150 #[.int .i64 0,.int .i64 0,.bool false]);have HB := LH9 (below_two w (.cells #[.int .i64 0,.int .i64 0,.bool false] 150))
 go_enter Tryz.func125,Tryz.ntmps125
 go_upto_region 1 with (fail);generalize w.alloc (.cells _ 150)=v at *;obtain ⟨t0,t1,t2,t3,t4,t5⟩ := blk3 BX.o;have hm := BX.o.lt;have HFN := LH9 (ret3 (.int .i64 2) (.int .i64 0) (.bool b) HB.o (Nat.le_refl _) BX.o);go_wp2_with fail;generalize ((v.setCell ⟨w.heap.size,0,none⟩ (.int .i64 2)).setCell ⟨w.heap.size,1,none⟩ (.int .i64 0)).setCell ⟨w.heap.size,2,none⟩ (.bool b)=W9 at *;obtain ⟨r0,r1,r2,-,-,-⟩ := blk3 HFN.o.2;refine bodyPost_ret (v := .agg #[.int .i64 2,.int .i64 0,.bool b]) (by simp [results,Tryz.results125,go_sem,r0,r1,r2]) rfl ⟨rfl,HFN.o.1⟩
theorem two_any (op a b : Int) (w : World) (h : 5<=op/\op<=16) (ha : I64 a) (hb : I64 b) : Calls Tryz.prog 126 #[.int .i64 op,.int .i64 a,.int .i64 b] w fun x w' => RetV (twoV op a b) x/\Below w.heap.size w w' := by
 have BX := LH9 (Mem.Blk.new w 150 #[.int .i64 0,.int .i64 0,.bool false]);have HB := LH9 (below_two w (.cells #[.int .i64 0,.int .i64 0,.bool false] 150));have HA := LH9 ha;have HBB := LH9 hb;have HV := LH9 (show valueM op [a,b]=if op=5 then fitI (a + b) else if op=6 then fitI (a - b) else if op=7 then fitI (a * b) else if op=8 then (if b=0 then none else fitI (a.fdiv b)) else if op=9 then some (min a b) else if op=10 then some (max a b) else if op=20 then fitI (-a) else none from rfl);have HT : Hid (twoV op a b=if 5<=op/\op<=10 then numV (valueM op [a,b]) else .tru (cmpV op a b)) := rfl;obtain ⟨R,hR⟩ : ∃ R,R=twoV op a b := ⟨_,rfl⟩;rw [<- hR] at HT ⊢;rw [HV.o] at HT;unfold I64 at ha hb;obtain ⟨a1,a2⟩ := ha;obtain ⟨b1,b2⟩ := hb;clear hR HV;have hop : op=5\/op=6\/op=7\/op=8\/op=9\/op=10\/op=11\/op=12\/op=13\/op=14\/op=15\/op=16 := by omega
 rcases hop with rfl | rfl | rfl | rfl | rfl | rfl | rfl | rfl | rfl | rfl | rfl | rfl
 . have HR : Hid (nmV (fitN (fitI (a + b))) (fitB (fitI (a + b)))=R) := by rw [HT.o,nmV_fit]; rfl
   clear HT h
   go_enter Tryz.func126,Tryz.ntmps126
   go_upto_region 1 with (fail);generalize w.alloc (.cells _ 150)=v at *;obtain ⟨t0,t1,t2,t3,t4,t5⟩ := blk3 BX.o;have hm := BX.o.lt;go_wp2_with fail;go_at_call 141;(with_reducible refine (numAdd_any _ _ _ HA.o HBB.o).mono ?_);rintro x w1 ⟨rfl,rfl⟩;clear t0 t1 t2 t3 t4 t5 hm;have HB1 := LH9 (HB.o);have BX1 := LH9 (BX.o);unfold fitR;generalize (fitI (a + b))=oo at *;generalize fitN oo=n9 at *;generalize fitB oo=b9 at *;go_wp2_with fail;go_at_call 122;(with_reducible refine (number_any _ _ _).mono ?_);exact Z7_3
 . have HR : Hid (nmV (fitN (fitI (a - b))) (fitB (fitI (a - b)))=R) := by rw [HT.o,nmV_fit]; rfl
   clear HT h
   go_enter Tryz.func126,Tryz.ntmps126
   go_upto_region 1 with (fail);generalize w.alloc (.cells _ 150)=v at *;obtain ⟨t0,t1,t2,t3,t4,t5⟩ := blk3 BX.o;have hm := BX.o.lt;go_wp2_with fail;go_at_call 142;(with_reducible refine (numSub_any _ _ _ HA.o HBB.o).mono ?_);rintro x w1 ⟨rfl,rfl⟩;clear t0 t1 t2 t3 t4 t5 hm;have HB1 := LH9 (HB.o);have BX1 := LH9 (BX.o);unfold fitR;generalize (fitI (a - b))=oo at *;generalize fitN oo=n9 at *;generalize fitB oo=b9 at *;go_wp2_with fail;go_at_call 122;(with_reducible refine (number_any _ _ _).mono ?_);exact Z7_3
 . have HR : Hid (nmV (fitN (fitI (a * b))) (fitB (fitI (a * b)))=R) := by rw [HT.o,nmV_fit]; rfl
   clear HT h
   go_enter Tryz.func126,Tryz.ntmps126
   go_upto_region 1 with (fail);generalize w.alloc (.cells _ 150)=v at *;obtain ⟨t0,t1,t2,t3,t4,t5⟩ := blk3 BX.o;have hm := BX.o.lt;go_wp2_with fail;go_at_call 79;(with_reducible refine (numMul_any _ _ _ HA.o HBB.o).mono ?_);rintro x w1 ⟨rfl,e1⟩;clear t0 t1 t2 t3 t4 t5 hm;have HB1 := bt9 HB e1;have BX1 := LH9 (BX.o.below e1);unfold fitR;generalize (fitI (a * b))=oo at *;generalize fitN oo=n9 at *;generalize fitB oo=b9 at *;go_wp2_with fail;go_at_call 122;(with_reducible refine (number_any _ _ _).mono ?_);exact Z7_3
 . have HR : Hid (nmV (fitN (if b=0 then none else fitI (a.fdiv b))) (fitB (if b=0 then none else fitI (a.fdiv b)))=R) := by rw [HT.o,nmV_fit]; rfl
   clear HT h
   go_enter Tryz.func126,Tryz.ntmps126
   go_upto_region 1 with (fail);generalize w.alloc (.cells _ 150)=v at *;obtain ⟨t0,t1,t2,t3,t4,t5⟩ := blk3 BX.o;have hm := BX.o.lt;go_wp2_with fail;go_at_call 143;(with_reducible refine (numMulDiv_any _ _ _ HA.o HBB.o).mono ?_);rintro x w1 ⟨rfl,e1⟩;clear t0 t1 t2 t3 t4 t5 hm;have HB1 := bt9 HB e1;have BX1 := LH9 (BX.o.below e1);unfold fitR;generalize (if b=0 then none else fitI (a.fdiv b))=oo at *;generalize fitN oo=n9 at *;generalize fitB oo=b9 at *;go_wp2_with fail;go_at_call 122;(with_reducible refine (number_any _ _ _).mono ?_);exact Z7_3
 . by_cases hxy : b < a
   . have HR : Hid (nmV b true=R) := by rw [HT.o]; simp only [show min a b=b by omega]; rfl
     clear HT h
     go_enter Tryz.func126,Tryz.ntmps126
     go_upto_region 1 with (fail);generalize w.alloc (.cells _ 150)=v at *;obtain ⟨t0,t1,t2,t3,t4,t5⟩ := blk3 BX.o;have hm := BX.o.lt;go_wp2_with fail;have HB1 := LH9 HB.o;have BX1 := LH9 BX.o;clear t0 t1 t2 t3 t4 t5 hm;go_at_call 122;(with_reducible refine (number_any _ _ _).mono ?_);exact Z7_3
   . have HR : Hid (nmV a true=R) := by rw [HT.o]; simp only [show min a b=a by omega]; rfl
     clear HT h
     go_enter Tryz.func126,Tryz.ntmps126
     go_upto_region 1 with (fail);generalize w.alloc (.cells _ 150)=v at *;obtain ⟨t0,t1,t2,t3,t4,t5⟩ := blk3 BX.o;have hm := BX.o.lt;go_wp2_with fail;have HB1 := LH9 HB.o;have BX1 := LH9 BX.o;clear t0 t1 t2 t3 t4 t5 hm;go_at_call 122;(with_reducible refine (number_any _ _ _).mono ?_);exact Z7_3
 . by_cases hxy : a < b
   . have HR : Hid (nmV b true=R) := by rw [HT.o]; simp only [show max a b=b by omega]; rfl
     clear HT h
     go_enter Tryz.func126,Tryz.ntmps126
     go_upto_region 1 with (fail);generalize w.alloc (.cells _ 150)=v at *;obtain ⟨t0,t1,t2,t3,t4,t5⟩ := blk3 BX.o;have hm := BX.o.lt;go_wp2_with fail;have HB1 := LH9 HB.o;have BX1 := LH9 BX.o;clear t0 t1 t2 t3 t4 t5 hm;go_at_call 122;(with_reducible refine (number_any _ _ _).mono ?_);exact Z7_3
   . have HR : Hid (nmV a true=R) := by rw [HT.o]; simp only [show max a b=a by omega]; rfl
     clear HT h
     go_enter Tryz.func126,Tryz.ntmps126
     go_upto_region 1 with (fail);generalize w.alloc (.cells _ 150)=v at *;obtain ⟨t0,t1,t2,t3,t4,t5⟩ := blk3 BX.o;have hm := BX.o.lt;go_wp2_with fail;have HB1 := LH9 HB.o;have BX1 := LH9 BX.o;clear t0 t1 t2 t3 t4 t5 hm;go_at_call 122;(with_reducible refine (number_any _ _ _).mono ?_);exact Z7_3
 . have HR : Hid (Vl.tru (decide (a < b))=R) := by rw [HT.o]; rfl
   clear HT h
   go_enter Tryz.func126,Tryz.ntmps126
   go_upto_region 1 with (fail);generalize w.alloc (.cells _ 150)=v at *;obtain ⟨t0,t1,t2,t3,t4,t5⟩ := blk3 BX.o;have hm := BX.o.lt;go_wp2_with fail;have HB1 := LH9 HB.o;have BX1 := LH9 BX.o;clear t0 t1 t2 t3 t4 t5 hm;go_at_call 125;(with_reducible refine (truth_any _ _).mono ?_);exact Z7_3
 . have HR : Hid (Vl.tru (decide (a<=b))=R) := by rw [HT.o]; rfl
   clear HT h
   go_enter Tryz.func126,Tryz.ntmps126
   go_upto_region 1 with (fail);generalize w.alloc (.cells _ 150)=v at *;obtain ⟨t0,t1,t2,t3,t4,t5⟩ := blk3 BX.o;have hm := BX.o.lt;go_wp2_with fail;have HB1 := LH9 HB.o;have BX1 := LH9 BX.o;clear t0 t1 t2 t3 t4 t5 hm;go_at_call 125;(with_reducible refine (truth_any _ _).mono ?_);exact Z7_3
 . have HR : Hid (Vl.tru (a == b)=R) := by rw [HT.o]; simp only [if_neg (show ¬ ((5 : Int)<=13/\(13 : Int)<=10) by decide)]; congr 1
   clear HT h
   go_enter Tryz.func126,Tryz.ntmps126
   go_upto_region 1 with (fail);generalize w.alloc (.cells _ 150)=v at *;obtain ⟨t0,t1,t2,t3,t4,t5⟩ := blk3 BX.o;have hm := BX.o.lt;go_wp2_with fail;have HB1 := LH9 HB.o;have BX1 := LH9 BX.o;clear t0 t1 t2 t3 t4 t5 hm;go_at_call 125;(with_reducible refine (truth_any _ _).mono ?_);exact Z7_3
 . have HR : Hid (Vl.tru (a != b)=R) := by rw [HT.o]; simp only [if_neg (show ¬ ((5 : Int)<=14/\(14 : Int)<=10) by decide)]; congr 1; simp [cmpV,bne]; rfl
   clear HT h
   go_enter Tryz.func126,Tryz.ntmps126
   go_upto_region 1 with (fail);generalize w.alloc (.cells _ 150)=v at *;obtain ⟨t0,t1,t2,t3,t4,t5⟩ := blk3 BX.o;have hm := BX.o.lt;go_wp2_with fail;have HB1 := LH9 HB.o;have BX1 := LH9 BX.o;clear t0 t1 t2 t3 t4 t5 hm;go_at_call 125;(with_reducible refine (truth_any _ _).mono ?_);exact Z7_3
 . have HR : Hid (Vl.tru (decide (b<=a))=R) := by rw [HT.o]; rfl
   clear HT h
   go_enter Tryz.func126,Tryz.ntmps126
   go_upto_region 1 with (fail);generalize w.alloc (.cells _ 150)=v at *;obtain ⟨t0,t1,t2,t3,t4,t5⟩ := blk3 BX.o;have hm := BX.o.lt;go_wp2_with fail;have HB1 := LH9 HB.o;have BX1 := LH9 BX.o;clear t0 t1 t2 t3 t4 t5 hm;go_at_call 125;(with_reducible refine (truth_any _ _).mono ?_);exact Z7_3
 . have HR : Hid (Vl.tru (decide (b < a))=R) := by rw [HT.o]; rfl
   clear HT h
   go_enter Tryz.func126,Tryz.ntmps126
   go_upto_region 1 with (fail);generalize w.alloc (.cells _ 150)=v at *;obtain ⟨t0,t1,t2,t3,t4,t5⟩ := blk3 BX.o;have hm := BX.o.lt;go_wp2_with fail;have HB1 := LH9 HB.o;have BX1 := LH9 BX.o;clear t0 t1 t2 t3 t4 t5 hm;go_at_call 125;(with_reducible refine (truth_any _ _).mono ?_);exact Z7_3
end
section
theorem seen_any (day : Int) (fx : List Fx) (nm : ByteArray) (a : Option Addr) (len cap : Nat) (w : World) (hS : SlR fxK w [] fx a len cap) :
 Calls Tryz.prog 123 #[.agg #[.int .i64 day,.slice a len cap],.string nm] w fun x w' => x=seenRt (seenV day fx nm)/\Below w.heap.size w w' := by
 obtain ⟨f1,f2,f3⟩ := hS.facts;have HL := LH9 f1;have hal := (Below.refl w.heap.size w).alloc (Nat.le_refl _) (.cells #[.int .i64 day,.slice a len cap] 44);have HS := LH9 (hS.kept (Kept.of_below hal []));have HB0 := LH9 hal;have BX := LH9 (Mem.Blk.new w 44 #[.int .i64 day,.slice a len cap]);obtain ⟨R,hR⟩ : ∃ R,R=seenRt (seenV day fx nm) := ⟨_,rfl⟩;rw [<- hR];have HR := LH9 hR;clear hR hS hal f1
 go_enter Tryz.func123,Tryz.ntmps123
 go_upto_region 1 with (fail);generalize w.alloc (.cells _ 44)=v at *;obtain ⟨c0,c1,-,-⟩ := BX.o.two;go_wp2_with fail;clear c0 c1
 go_loopw [6,12] (fun b i wr => ∃ (k : Nat) (s : Int),i=.int .i64 (k : Nat)/\b=.int .i64 s/\k<=len/\Hid (Best day nm fx k s)/\Hid (Below v.heap.size v wr)) (fun _ i _ => len - (intOf i).toNat)
 case atStart => exact ⟨0,-1,rfl,rfl,Nat.zero_le _,Best.start _ _ _,Below.refl _ _⟩
 case round =>
  obtain ⟨k,s,rfl,rfl,hk,HN,HB⟩ := hrel;have hlo := HN.o.lo;have hhi := HN.o.hi;have BW := LH9 (BX.o.below HB.o);obtain ⟨c0,c1,-,-⟩ := BW.o.two;have HSW := LH9 (HS.o.kept (Kept.of_below HB.o []));by_cases hlt : k < len
  . have hk' : (k : Int) < (len : Int) := by omega
    obtain ⟨b,o,f,rfl,hbl,-,hf,-,k1,k2,u0,u1,u2⟩ := fx_at HSW.o k hlt;have HF := LH9 hf;have hal := (Below.refl wr.heap.size wr).alloc (Nat.le_refl _) (.cells #[.string f.name,.int .i64 f.day,.int .i64 f.val] 91);have HB2 := bt9 HB hal;have BF := LH9 (Mem.Blk.new wr 91 #[.string f.name,.int .i64 f.day,.int .i64 f.val]);have HS2 := LH9 (HSW.o.kept (Kept.of_below hal []));have BW2 := LH9 (BW.o.below hal);clear hf hal HSW HB HS BX BW;go_upto_region 5 with (fail);generalize wr.alloc (.cells _ 91)=v2 at *;generalize wr.heap.size=h2 at *;clear c0 c1 u0 u1 u2;obtain ⟨c0,c1,-,-⟩ := BW2.o.two;have d0 : v2.cell? ⟨h2,0,none⟩=_ := BF.o.cell 0;have d1 : v2.cell? ⟨h2,1,none⟩=_ := BF.o.cell 1;simp only [List.getElem?_toArray,List.getElem?_cons_zero,List.getElem?_cons_succ] at d0 d1;by_cases hn : f.name=nm
    case neg =>
     have t1 : (f.name.toList == nm.toList)=false := tl_ne hn;have HX := LH9 (HN.o.skip HF.o (fun hh => hn hh.1));clear hn HN;exact Z7_143
    case pos =>
     by_cases hd : f.day<=day
     case neg =>
      have hdd : decide (f.day<=day)=false := decide_eq_false hd;have HX := LH9 (HN.o.skip HF.o (fun hh => hd hh.2.1));clear HN;subst hn;exact Z7_143
     case pos =>
      have hdd : decide (f.day<=day)=true := decide_eq_true hd;by_cases hs : s < 0
      case pos =>
       have hss : decide (s < 0)=true := decide_eq_true hs;have HX := LH9 (HN.o.take HF.o ⟨hn,hd,stF_neg hs f⟩);exact Z7_135
      case neg =>
       obtain ⟨j,rfl⟩ : ∃ j : Nat,s=(j : Nat) := ⟨s.toNat,by omega⟩;have hss : decide ((j : Int) < 0)=false := decide_eq_false hs;obtain ⟨b',o',g,e,hb',-,hg,-,g1,g2,w0,w1,w2⟩ := fx_at HS2.o j (by omega);injection e with e;injection e with e1 e2;subst e1; subst e2;clear w0 w2;have HG := LH9 (stF_nat hg);clear hg;by_cases hgd : g.day < f.day
       case pos =>
        have hgg : decide (g.day < f.day)=true := decide_eq_true hgd;have HX := LH9 (HN.o.take HF.o ⟨hn,hd,fun p hp => by rw [HG.o] at hp; injection hp with hp; subst hp; exact hgd⟩);exact Z7_135
       case neg =>
        have hgg : decide (g.day < f.day)=false := decide_eq_false hgd;have HX := LH9 (HN.o.skip HF.o (fun hh => hgd (hh.2.2 _ HG.o)));clear HN;subst hn;go_quiet (fail);go_wp2_with fail;go_roundw
        case rel => exact ⟨k + 1,(j : Nat),by go_num,rfl,by omega,HX.o,below_drewN HB2.o _⟩
        case measure => simp [intOf]; omega
  . have hk' : ¬ (k : Int) < (len : Int) := by omega
    obtain rfl : k=fx.length := by have := HL.o; omega
    have HB2 := bu9 HB0 HB;by_cases hs : s < 0
    . obtain rfl : R=.returned (.tuple #[.int .i64 0,.bool false]) := by rw [HR.o,HN.o.none hs]; rfl
      clear HR HN;go_wp2_with fail;go_ret2;exact ⟨rfl,HB2.o⟩
    . obtain ⟨j,rfl⟩ : ∃ j : Nat,s=(j : Nat) := ⟨s.toNat,by omega⟩;obtain ⟨b',o',g,rfl,hb',-,hg,-,g1,g2,w0,w1,w2⟩ := fx_at HSW.o j (by have := HL.o; omega);obtain rfl : R=.returned (.tuple #[.int .i64 g.val,.bool true]) := by rw [HR.o,HN.o.some hg]; rfl
      clear HR HN hg w0 w1;go_wp2_with fail;go_ret2;exact ⟨rfl,HB2.o⟩
end
section
structure EvSt (w W : World) (day : Int) (a : Option Addr) (len cap : Nat) (op n : Int) (nm : ByteArray) (a' : Option Addr) (len' cap' : Nat) : Prop where
 below : Below w.heap.size w W
 env : Mem.Blk W w.heap.size 44 #[.int .i64 day,.slice a len cap]
 ex : Mem.Blk W (w.heap.size + 1) 74 #[.int .i64 op,.int .i64 n,.string nm,.slice a' len' cap']
 res : Mem.Blk W (w.heap.size + 1 + 1) 150 #[.int .i64 0,.int .i64 0,.bool false]
section
variable {w W W' : World} {day : Int} {a : Option Addr} {len cap : Nat} {op n : Int} {nm : ByteArray} {a' : Option Addr} {len' cap' : Nat}
theorem EvSt.up (h : EvSt w W day a len cap op n nm a' len' cap') (hb : Below W.heap.size W W') : EvSt w W' day a len cap op n nm a' len' cap' :=
 ⟨h.below.trans (hb.mono h.below.size),h.env.below hb,h.ex.below hb,h.res.below hb⟩
theorem EvSt.lt (h : EvSt w W day a len cap op n nm a' len' cap') : w.heap.size + 1 + 1 < W.heap.size := h.res.lt
theorem EvSt.far3 (h : EvSt w W day a len cap op n nm a' len' cap') {g : Nat} (hg : w.heap.size + 1 + 1 < g) (c0 c1 c2 : Value) : EvSt w (((W.setCell ⟨g,0,none⟩ c0).setCell ⟨g,1,none⟩ c1).setCell ⟨g,2,none⟩ c2) day a len cap op n nm a' len' cap' :=
 have h0 : w.heap.size ≠ g := by omega
 have h1 : w.heap.size + 1 ≠ g := by omega
 have h2 : w.heap.size + 1 + 1 ≠ g := by omega
 have hb : w.heap.size<=g := by omega
 ⟨((h.below.setCell hb _).setCell hb _).setCell hb _,((h.env.far h0 _).far h0 _).far h0 _,((h.ex.far h1 _).far h1 _).far h1 _,((h.res.far h2 _).far h2 _).far h2 _⟩
end
theorem EvSt.start (w : World) (day : Int) (a : Option Addr) (len cap : Nat) (op n : Int) (nm : ByteArray) (a' : Option Addr) (len' cap' : Nat) :
 EvSt w (((w.alloc (.cells #[.int .i64 day,.slice a len cap] 44)).alloc (.cells #[.int .i64 op,.int .i64 n,.string nm,.slice a' len' cap'] 74)).alloc (.cells #[.int .i64 0,.int .i64 0,.bool false] 150)) day a len cap op n nm a' len' cap' := by
 have h1 := Mem.Blk.new w 44 #[.int .i64 day,.slice a len cap];have h2 := Mem.Blk.new (w.alloc (.cells #[.int .i64 day,.slice a len cap] 44)) 74 #[.int .i64 op,.int .i64 n,.string nm,.slice a' len' cap'];have h3 := Mem.Blk.new ((w.alloc (.cells #[.int .i64 day,.slice a len cap] 44)).alloc (.cells #[.int .i64 op,.int .i64 n,.string nm,.slice a' len' cap'] 74)) 150 #[.int .i64 0,.int .i64 0,.bool false];have e1 : (w.alloc (.cells #[.int .i64 day,.slice a len cap] 44)).heap.size=w.heap.size + 1 := by simp
 have e2 : ((w.alloc (.cells #[.int .i64 day,.slice a len cap] 44)).alloc (.cells #[.int .i64 op,.int .i64 n,.string nm,.slice a' len' cap'] 74)).heap.size=w.heap.size + 1 + 1 := by simp
 exact Z7_137
structure EvV (w W : World) (g : Nat) (v : Vl) : Prop where
 hi : w.heap.size + 1 + 1 < g
 blk : Mem.Blk W g 150 #[.int .i64 v.K,.int .i64 v.N,.bool v.B]
theorem EvV.up {w W W' : World} {g : Nat} {v : Vl} (h : EvV w W g v) (hb : Below W.heap.size W W') : EvV w W' g v := ⟨h.hi,h.blk.below hb⟩
theorem EvV.far3 {w W : World} {g g' : Nat} {v : Vl} (h : EvV w W g v) (hg : g ≠ g') (c0 c1 c2 : Value) : EvV w (((W.setCell ⟨g',0,none⟩ c0).setCell ⟨g',1,none⟩ c1).setCell ⟨g',2,none⟩ c2) g v := ⟨h.hi,((h.blk.far hg _).far hg _).far hg _⟩
def EvC (w : World) (day : Int) (a : Option Addr) (len cap : Nat) (c0 c1 c2 c3 : Value) (v : Vl) : Prop :=
 ∀ W,Below w.heap.size w W->Calls Tryz.prog 96 #[.agg #[.int .i64 day,.slice a len cap],.agg #[c0,c1,c2,c3]] W fun x W' => RetV v x/\Below W.heap.size W W'
theorem EvC.run {w : World} {day : Int} {a : Option Addr} {len cap : Nat} {c0 c1 c2 c3 : Value} {v : Vl} (h : EvC w day a len cap c0 c1 c2 c3 v) (W : World) (hW : Below w.heap.size w W) :
 Calls Tryz.prog 96 #[.agg #[.int .i64 day,.slice a len cap],.agg #[c0,c1,c2,c3]] W fun x W' => RetV v x/\Below W.heap.size W W' := h W hW
end
end Go.Proofs.YtmiinmndbkdjbaaGreat
