/- A part of the proof: RvB, one behind another. -/
import Derived.Test.YtmiinmndbkdjbaaGreatMEA
import Derived.Test.YtmiinmndbkdjbaaGreatMEU
import Derived.Lib.Hide
import Derived.WalkKit
set_option maxRecDepth 100000
set_option maxHeartbeats 16000000
set_option linter.unusedVariables false
set_option linter.unusedSimpArgs false
namespace Go.Proofs.YtmiinmndbkdjbaaGreat
open Go.RowKit
section
theorem rv_and18 (w : World) (day : Int) (a : Option Addr) (len cap : Nat) (n : Int) (nm : ByteArray) (b o cap' : Nat) (o0 n0 o1 n1 : Int) (m0 m1 : ByteArray) (a0 a1 : Option Addr) (l0 p0 l1 p1 : Nat) (A B : Vl) (hA : Ty 2 A) (hB : Ty 2 B)
 (h0 : Four w b o (.int .i64 o0) (.int .i64 n0) (.string m0) (.slice a0 l0 p0)) (h1 : Four w b (o + 4) (.int .i64 o1) (.int .i64 n1) (.string m1) (.slice a1 l1 p1))
 (HA : RvC w day a len cap (.int .i64 o0) (.int .i64 n0) (.string m0) (.slice a0 l0 p0) A) (HB : RvC w day a len cap (.int .i64 o1) (.int .i64 n1) (.string m1) (.slice a1 l1 p1) B) :
 Calls Tryz.prog 32 #[.agg #[.int .i64 18,.int .i64 n,.string nm,.slice (some ⟨b,o,none⟩) 2 cap'],.agg #[.int .i64 day,.slice a len cap]] w fun x w' => RetW (bothV (decide ((18 : Int)=18)) A B) x/\Below w.heap.size w w' := by
 have H0 := LH9 h0;have H1 := LH9 h1;have HCA := LH9 HA;have HCB := LH9 HB;have HTA := LH9 hA.of2;have HTB := LH9 hB.of2;have ST := LH9 (RvSt.start w day a len cap 18 n nm (some ⟨b,o,none⟩) 2 cap');clear h0 h1 HA HB hA hB;obtain ⟨R,hR⟩ : ∃ R,R=bothV (decide ((18 : Int)=18)) A B := ⟨_,rfl⟩;rw [<- hR];have HR : Hid (R=if A=.brk\/A=.tru true then A else if (∃ t,A=.tru t)\/B=.brk\/B=.tru true then B else .unk) := by
  show R=_;rw [hR,show decide ((18 : Int)=18)=true from rfl]; unfold bothV; congr
 clear hR
 go_enter Tryz.func32,Tryz.ntmps32
 go_upto_region 1 with (fail);generalize ((w.alloc (.cells #[.int .i64 18,.int .i64 n,.string nm,.slice (some ⟨b,o,none⟩) 2 cap'] 74)).alloc (.cells #[.int .i64 day,.slice a len cap] 26)).alloc (.cells #[.string ⟨#[]⟩,.int .i64 0] 97)=v at *;have e0 : v.cell? ⟨w.heap.size + 1,0,none⟩=some (.int .i64 day) := ST.o.env.cell 0;have e1 : v.cell? ⟨w.heap.size + 1,1,none⟩=some (.slice a len cap) := ST.o.env.cell 1;obtain ⟨x0,x1,x2,x3,-,-,-,-⟩ := blk4 ST.o.ex;go_wp2_with fail;go_at_call 59;(with_reducible refine (rtruth_any true v).mono ?_);rintro y w1 ⟨hy,b1⟩;have hy' : y=.returned (.agg #[.string ⟨#[116]⟩,.int .i64 0]) := hy;subst hy';have ST1 := LH9 (ST.o.up b1);have bn := (Below.refl w1.heap.size w1).alloc (Nat.le_refl _) (.cells #[.string ⟨#[116]⟩,.int .i64 0] 97);have VS := LH9 (RvV.mk (v := .tru true) ST1.o.lt (Mem.Blk.new w1 97 #[.string ⟨#[116]⟩,.int .i64 0]));have ST2 := LH9 (ST1.o.up bn);clear hy b1 bn ST1 ST e0 e1 x0 x1 x2 x3;go_upto_region 3 with (fail);generalize w1.alloc (.cells _ 97)=v1 at *;generalize w1.heap.size=gs at *
 go_cut [6] (fun p W0 => ∃ g,p=.pointer (some ⟨g,0,none⟩)/\Hid (RvSt w W0 day a len cap 18 n nm (some ⟨b,o,none⟩) 2 cap')/\Hid (RvV w W0 g A)/\Hid (RvV w W0 gs (.tru true)))
 case first =>
  exact Z7_19
 obtain ⟨g,rfl,ST0,VA,VS0⟩ := hcut;obtain ⟨W0,rfl⟩ : ∃ W : World,W=wc := ⟨_,rfl⟩;clear ST2 VS;have st0 : W0.cell? ⟨gs,0,none⟩=some (.string ⟨#[116]⟩) := VS0.o.blk.cell 0;have st1 : W0.cell? ⟨gs,1,none⟩=some (.int .i64 0) := VS0.o.blk.cell 1;rcases HTA.o with rfl | rfl | ⟨t,rfl⟩
 . have HR1 : Hid (R=if B=.brk\/B=.tru true then B else .unk) := by rw [HR.o]; simp [Hid]
   clear HR;have t0 : W0.cell? ⟨g,0,none⟩=some (.string ⟨#[63]⟩) := VA.o.blk.cell 0;have t1 : W0.cell? ⟨g,1,none⟩=some (.int .i64 0) := VA.o.blk.cell 1;go_wp2_with fail;clear t0 t1 st0 st1
   go_cut [7] (fun p W1 => ∃ g1,p=.pointer (some ⟨g1,0,none⟩)/\Hid (RvSt w W1 day a len cap 18 n nm (some ⟨b,o,none⟩) 2 cap')/\Hid (RvV w W1 g1 B)/\Hid (RvV w W1 gs (.tru true))/\Hid (RvV w W1 g .unk))
   case first =>
    exact Z7_16
   obtain ⟨g1,rfl,ST3,VB,VS1,VA1⟩ := hcut;obtain ⟨W1,rfl⟩ : ∃ W : World,W=wc := ⟨_,rfl⟩;clear ST0 VA VS0 HCA HCB;have st0 : W1.cell? ⟨gs,0,none⟩=some (.string ⟨#[116]⟩) := VS1.o.blk.cell 0;have st1 : W1.cell? ⟨gs,1,none⟩=some (.int .i64 0) := VS1.o.blk.cell 1;have t0 : W1.cell? ⟨g,0,none⟩=some (.string ⟨#[63]⟩) := VA1.o.blk.cell 0;have t1 : W1.cell? ⟨g,1,none⟩=some (.int .i64 0) := VA1.o.blk.cell 1;rcases HTB.o with rfl | rfl | ⟨t',rfl⟩
   . obtain rfl : R=.unk := by rw [HR1.o]; simp
     have xt0 : W1.cell? ⟨g1,0,none⟩=some (.string ⟨#[63]⟩) := VB.o.blk.cell 0;exact Z7_29
   . obtain rfl : R=.brk := by rw [HR1.o]; simp
     have xt0 : W1.cell? ⟨g1,0,none⟩=some (.string ⟨#[33]⟩) := VB.o.blk.cell 0;have xt1 : W1.cell? ⟨g1,1,none⟩=some (.int .i64 0) := VB.o.blk.cell 1;obtain ⟨q0,q1,q2,q3⟩ := ST3.o.res.two;have hm := ST3.o.lt;have HFN : Hid (Below w.heap.size w ((W1.setCell ⟨w.heap.size + 1 + 1,0,none⟩ (.string ⟨#[33]⟩)).setCell ⟨w.heap.size + 1 + 1,1,none⟩ (.int .i64 0))/\Mem.Blk ((W1.setCell ⟨w.heap.size + 1 + 1,0,none⟩ (.string ⟨#[33]⟩)).setCell ⟨w.heap.size + 1 + 1,1,none⟩ (.int .i64 0)) (w.heap.size + 1 + 1) 97 #[.string ⟨#[33]⟩,.int .i64 0]) := ⟨(ST3.o.below.setCell (by show w.heap.size<=w.heap.size + 1 + 1; omega) _).setCell (by show w.heap.size<=w.heap.size + 1 + 1; omega) _,(ST3.o.res.set_ 0 _).set_ 1 _⟩;go_wp2_with fail;generalize (W1.setCell ⟨w.heap.size + 1 + 1,0,none⟩ (.string ⟨#[33]⟩)).setCell ⟨w.heap.size + 1 + 1,1,none⟩ (.int .i64 0)=W9 at *;exact Z7_53
   . by_cases ht : t'=true
     . subst ht;obtain rfl : R=.tru true := by rw [HR1.o]; simp
       have xt0 : W1.cell? ⟨g1,0,none⟩=some (.string ⟨#[116]⟩) := VB.o.blk.cell 0;have xt1 : W1.cell? ⟨g1,1,none⟩=some (.int .i64 0) := VB.o.blk.cell 1;obtain ⟨q0,q1,q2,q3⟩ := ST3.o.res.two;have hm := ST3.o.lt;have HFN : Hid (Below w.heap.size w ((W1.setCell ⟨w.heap.size + 1 + 1,0,none⟩ (.string ⟨#[116]⟩)).setCell ⟨w.heap.size + 1 + 1,1,none⟩ (.int .i64 0))/\Mem.Blk ((W1.setCell ⟨w.heap.size + 1 + 1,0,none⟩ (.string ⟨#[116]⟩)).setCell ⟨w.heap.size + 1 + 1,1,none⟩ (.int .i64 0)) (w.heap.size + 1 + 1) 97 #[.string ⟨#[116]⟩,.int .i64 0]) := ⟨(ST3.o.below.setCell (by show w.heap.size<=w.heap.size + 1 + 1; omega) _).setCell (by show w.heap.size<=w.heap.size + 1 + 1; omega) _,(ST3.o.res.set_ 0 _).set_ 1 _⟩;go_wp2_with fail;generalize (W1.setCell ⟨w.heap.size + 1 + 1,0,none⟩ (.string ⟨#[116]⟩)).setCell ⟨w.heap.size + 1 + 1,1,none⟩ (.int .i64 0)=W9 at *;exact Z7_141
     . obtain rfl : t'=false := by cases t' <;> simp_all
       obtain rfl : R=.unk := by rw [HR1.o]; simp
       have xt0 : W1.cell? ⟨g1,0,none⟩=some (.string ⟨#[102]⟩) := VB.o.blk.cell 0;exact Z7_29
 . obtain rfl : R=.brk := by rw [HR.o]; simp
   have t0 : W0.cell? ⟨g,0,none⟩=some (.string ⟨#[33]⟩) := VA.o.blk.cell 0;have t1 : W0.cell? ⟨g,1,none⟩=some (.int .i64 0) := VA.o.blk.cell 1;exact Z7_46
 . by_cases ht : t=true
   . subst ht;obtain rfl : R=.tru true := by rw [HR.o]; simp
     have t0 : W0.cell? ⟨g,0,none⟩=some (.string ⟨#[116]⟩) := VA.o.blk.cell 0;have t1 : W0.cell? ⟨g,1,none⟩=some (.int .i64 0) := VA.o.blk.cell 1;obtain ⟨q0,q1,q2,q3⟩ := ST0.o.res.two;have hm := ST0.o.lt;have HFN : Hid (Below w.heap.size w ((W0.setCell ⟨w.heap.size + 1 + 1,0,none⟩ (.string ⟨#[116]⟩)).setCell ⟨w.heap.size + 1 + 1,1,none⟩ (.int .i64 0))/\Mem.Blk ((W0.setCell ⟨w.heap.size + 1 + 1,0,none⟩ (.string ⟨#[116]⟩)).setCell ⟨w.heap.size + 1 + 1,1,none⟩ (.int .i64 0)) (w.heap.size + 1 + 1) 97 #[.string ⟨#[116]⟩,.int .i64 0]) := ⟨(ST0.o.below.setCell (by show w.heap.size<=w.heap.size + 1 + 1; omega) _).setCell (by show w.heap.size<=w.heap.size + 1 + 1; omega) _,(ST0.o.res.set_ 0 _).set_ 1 _⟩;go_wp2_with fail;generalize (W0.setCell ⟨w.heap.size + 1 + 1,0,none⟩ (.string ⟨#[116]⟩)).setCell ⟨w.heap.size + 1 + 1,1,none⟩ (.int .i64 0)=W9 at *;exact Z7_141
   . obtain rfl : t=false := by cases t <;> simp_all
     obtain rfl : R=B := by rw [HR.o]; simp
     clear HR;have t0 : W0.cell? ⟨g,0,none⟩=some (.string ⟨#[102]⟩) := VA.o.blk.cell 0;have t1 : W0.cell? ⟨g,1,none⟩=some (.int .i64 0) := VA.o.blk.cell 1;go_wp2_with fail;clear t0 t1 st0 st1
     go_cut [7] (fun p W1 => ∃ g1,p=.pointer (some ⟨g1,0,none⟩)/\Hid (RvSt w W1 day a len cap 18 n nm (some ⟨b,o,none⟩) 2 cap')/\Hid (RvV w W1 g1 R)/\Hid (RvV w W1 gs (.tru true))/\Hid (RvV w W1 g (.tru false)))
     case first =>
      exact Z7_17
     obtain ⟨g1,rfl,ST3,VB,VS1,VA1⟩ := hcut;obtain ⟨W1,rfl⟩ : ∃ W : World,W=wc := ⟨_,rfl⟩;clear ST0 VA VS0 HCA HCB;have st0 : W1.cell? ⟨gs,0,none⟩=some (.string ⟨#[116]⟩) := VS1.o.blk.cell 0;have st1 : W1.cell? ⟨gs,1,none⟩=some (.int .i64 0) := VS1.o.blk.cell 1;have t0 : W1.cell? ⟨g,0,none⟩=some (.string ⟨#[102]⟩) := VA1.o.blk.cell 0;have t1 : W1.cell? ⟨g,1,none⟩=some (.int .i64 0) := VA1.o.blk.cell 1;have HP : Hid (RetW R (.returned (.agg #[.string (wd R),.int .i64 R.N]))) := rfl;have xt0 : W1.cell? ⟨g1,0,none⟩=some (.string (wd R)) := VB.o.blk.cell 0;have xt1 : W1.cell? ⟨g1,1,none⟩=some (.int .i64 R.N) := VB.o.blk.cell 1;clear HTB HTA;generalize wd R=rk at *;generalize R.N=rn at *;obtain ⟨q0,q1,q2,q3⟩ := ST3.o.res.two;have hm := ST3.o.lt;have HFN : Hid (Below w.heap.size w ((W1.setCell ⟨w.heap.size + 1 + 1,0,none⟩ (.string rk)).setCell ⟨w.heap.size + 1 + 1,1,none⟩ (.int .i64 rn))/\Mem.Blk ((W1.setCell ⟨w.heap.size + 1 + 1,0,none⟩ (.string rk)).setCell ⟨w.heap.size + 1 + 1,1,none⟩ (.int .i64 rn)) (w.heap.size + 1 + 1) 97 #[.string rk,.int .i64 rn]) := ⟨(ST3.o.below.setCell (by show w.heap.size<=w.heap.size + 1 + 1; omega) _).setCell (by show w.heap.size<=w.heap.size + 1 + 1; omega) _,(ST3.o.res.set_ 0 _).set_ 1 _⟩;go_wp2_with fail;generalize (W1.setCell ⟨w.heap.size + 1 + 1,0,none⟩ (.string rk)).setCell ⟨w.heap.size + 1 + 1,1,none⟩ (.int .i64 rn)=W9 at *;exact Z7_43
end
end Go.Proofs.YtmiinmndbkdjbaaGreat
