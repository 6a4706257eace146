/- A part of the proof: RvS, RvI, RvA, one behind another. -/
import Derived.Test.YtmiinmndbkdjbaaGreatMTA
import Derived.Test.YtmiinmndbkdjbaaGreatMTH
import Derived.Test.YtmiinmndbkdjbaaGreatMTU
import Derived.Lib.Hide
import Derived.WalkKit
set_option maxRecDepth 100000
set_option maxHeartbeats 16000000
set_option linter.unusedVariables false
set_option linter.unusedSimpArgs false
namespace Go.Proofs.YtmiinmndbkdjbaaGreat
open Go.RowKit
section
structure RvSt (w W : World) (day : Int) (a : Option Addr) (len cap : Nat) (op n : Int) (nm : ByteArray) (a' : Option Addr) (len' cap' : Nat) : Prop where
 below : Below w.heap.size w W
 ex : Mem.Blk W w.heap.size 74 #[.int .i64 op,.int .i64 n,.string nm,.slice a' len' cap']
 env : Mem.Blk W (w.heap.size + 1) 26 #[.int .i64 day,.slice a len cap]
 res : Mem.Blk W (w.heap.size + 1 + 1) 97 #[.string ⟨#[]⟩,.int .i64 0]
section
variable {w W W' : World} {day : Int} {a : Option Addr} {len cap : Nat} {op n : Int} {nm : ByteArray} {a' : Option Addr} {len' cap' : Nat}
theorem RvSt.up (h : RvSt w W day a len cap op n nm a' len' cap') (hb : Below W.heap.size W W') : RvSt w W' day a len cap op n nm a' len' cap' :=
 ⟨h.below.trans (hb.mono h.below.size),h.ex.below hb,h.env.below hb,h.res.below hb⟩
theorem RvSt.lt (h : RvSt w W day a len cap op n nm a' len' cap') : w.heap.size + 1 + 1 < W.heap.size := h.res.lt
theorem RvSt.far2 (h : RvSt w W day a len cap op n nm a' len' cap') {g : Nat} (hg : w.heap.size + 1 + 1 < g) (c0 c1 : Value) : RvSt w ((W.setCell ⟨g,0,none⟩ c0).setCell ⟨g,1,none⟩ c1) day a len cap op n nm a' len' cap' :=
 have h0 : w.heap.size ≠ g := by omega
 have h1 : w.heap.size + 1 ≠ g := by omega
 have h2 : w.heap.size + 1 + 1 ≠ g := by omega
 have hb : w.heap.size≤g := by omega
 ⟨(h.below.setCell hb _).setCell hb _,(h.ex.far h0 _).far h0 _,(h.env.far h1 _).far h1 _,(h.res.far h2 _).far h2 _⟩
end
theorem RvSt.start (w : World) (day : Int) (a : Option Addr) (len cap : Nat) (op n : Int) (nm : ByteArray) (a' : Option Addr) (len' cap' : Nat) :
 RvSt w (((w.alloc (.cells #[.int .i64 op,.int .i64 n,.string nm,.slice a' len' cap'] 74)).alloc (.cells #[.int .i64 day,.slice a len cap] 26)).alloc (.cells #[.string ⟨#[]⟩,.int .i64 0] 97)) day a len cap op n nm a' len' cap' := by
 have h1 := Mem.Blk.new w 74 #[.int .i64 op,.int .i64 n,.string nm,.slice a' len' cap'];have h2 := Mem.Blk.new (w.alloc (.cells #[.int .i64 op,.int .i64 n,.string nm,.slice a' len' cap'] 74)) 26 #[.int .i64 day,.slice a len cap];have h3 := Mem.Blk.new ((w.alloc (.cells #[.int .i64 op,.int .i64 n,.string nm,.slice a' len' cap'] 74)).alloc (.cells #[.int .i64 day,.slice a len cap] 26)) 97 #[.string ⟨#[]⟩,.int .i64 0];have e1 : (w.alloc (.cells #[.int .i64 op,.int .i64 n,.string nm,.slice a' len' cap'] 74)).heap.size=w.heap.size + 1 := by simp
 have e2 : ((w.alloc (.cells #[.int .i64 op,.int .i64 n,.string nm,.slice a' len' cap'] 74)).alloc (.cells #[.int .i64 day,.slice a len cap] 26)).heap.size=w.heap.size + 1 + 1 := by simp
 rw [e1] at h2;rw [e2] at h3;exact ⟨(((Below.refl _ _).alloc (Nat.le_refl _) _).alloc (by rw [e1]; omega) _).alloc (by rw [e2]; omega) _,(h1.alloc _).alloc _,h2.alloc _,h3⟩
structure RvV (w W : World) (g : Nat) (v : Vl) : Prop where
 hi : w.heap.size + 1 + 1 < g
 blk : Mem.Blk W g 97 #[.string (wd v),.int .i64 v.N]
theorem RvV.up {w W W' : World} {g : Nat} {v : Vl} (h : RvV w W g v) (hb : Below W.heap.size W W') : RvV w W' g v := ⟨h.hi,h.blk.below hb⟩
theorem RvV.far2 {w W : World} {g g' : Nat} {v : Vl} (h : RvV w W g v) (hg : g ≠ g') (c0 c1 : Value) : RvV w ((W.setCell ⟨g',0,none⟩ c0).setCell ⟨g',1,none⟩ c1) g v := ⟨h.hi,(h.blk.far hg _).far hg _⟩
def RvC (w : World) (day : Int) (a : Option Addr) (len cap : Nat) (c0 c1 c2 c3 : Value) (v : Vl) : Prop :=
 ∀ W,Below w.heap.size w W→Calls Tryz.prog 32 #[.agg #[c0,c1,c2,c3],.agg #[.int .i64 day,.slice a len cap]] W fun x W' => RetW v x∧Below W.heap.size W W'
theorem RvC.run {w : World} {day : Int} {a : Option Addr} {len cap : Nat} {c0 c1 c2 c3 : Value} {v : Vl} (h : RvC w day a len cap c0 c1 c2 c3 v) (W : World) (hW : Below w.heap.size w W) :
 Calls Tryz.prog 32 #[.agg #[c0,c1,c2,c3],.agg #[.int .i64 day,.slice a len cap]] W fun x W' => RetW v x∧Below W.heap.size W W' := h W hW
end
section
theorem rv_if (w : World) (day : Int) (a : Option Addr) (len cap : Nat) (n : Int) (nm : ByteArray) (b o cap' : Nat) (o0 n0 o1 n1 o2 n2 : Int) (m0 m1 m2 : ByteArray) (a0 a1 a2 : Option Addr) (l0 p0 l1 p1 l2 p2 : Nat) (A B C : Vl) (hA : Ty 2 A)
 (h0 : Four w b o (.int .i64 o0) (.int .i64 n0) (.string m0) (.slice a0 l0 p0)) (h1 : Four w b (o + 4) (.int .i64 o1) (.int .i64 n1) (.string m1) (.slice a1 l1 p1)) (h2 : Four w b (o + 8) (.int .i64 o2) (.int .i64 n2) (.string m2) (.slice a2 l2 p2))
 (HA : RvC w day a len cap (.int .i64 o0) (.int .i64 n0) (.string m0) (.slice a0 l0 p0) A) (HB : RvC w day a len cap (.int .i64 o1) (.int .i64 n1) (.string m1) (.slice a1 l1 p1) B) (HC : RvC w day a len cap (.int .i64 o2) (.int .i64 n2) (.string m2) (.slice a2 l2 p2) C) :
 Calls Tryz.prog 32 #[.agg #[.int .i64 21,.int .i64 n,.string nm,.slice (some ⟨b,o,none⟩) 3 cap'],.agg #[.int .i64 day,.slice a len cap]] w fun x w' => RetW (opV 21 [A,B,C]) x∧Below w.heap.size w w' := by
 have H0 := LH9 h0;have H1 := LH9 h1;have H2 := LH9 h2;have HCA := LH9 HA;have HCB := LH9 HB;have HCC := LH9 HC;have HTA := LH9 hA.of2;have ST := LH9 (RvSt.start w day a len cap 21 n nm (some ⟨b,o,none⟩) 3 cap');obtain ⟨R,hR⟩ : ∃ R,R=opV 21 [A,B,C] := ⟨_,rfl⟩;rw [← hR];have HR := LH9 hR;clear hR h0 h1 h2 HA HB HC hA
 go_enter Tryz.func32,Tryz.ntmps32
 go_upto_region 1 with (fail)
 generalize ((w.alloc (.cells #[.int .i64 21,.int .i64 n,.string nm,.slice (some ⟨b,o,none⟩) 3 cap'] 74)).alloc (.cells #[.int .i64 day,.slice a len cap] 26)).alloc (.cells #[.string ⟨#[]⟩,.int .i64 0] 97)=v at *;have e0 : v.cell? ⟨w.heap.size + 1,0,none⟩=some (.int .i64 day) := ST.o.env.cell 0;have e1 : v.cell? ⟨w.heap.size + 1,1,none⟩=some (.slice a len cap) := ST.o.env.cell 1;obtain ⟨x0,x1,x2,x3,-,-,-,-⟩ := blk4 ST.o.ex
 go_upto_region 11 with (fail)
 clear e0 e1 x0 x1 x2 x3
 go_cut [8] (fun p W0 => ∃ g,p=.pointer (some ⟨g,0,none⟩)∧Hid (RvSt w W0 day a len cap 21 n nm (some ⟨b,o,none⟩) 3 cap')∧Hid (RvV w W0 g A))
 case first =>
  have e0 : v.cell? ⟨w.heap.size + 1,0,none⟩=some (.int .i64 day) := ST.o.env.cell 0;have e1 : v.cell? ⟨w.heap.size + 1,1,none⟩=some (.slice a len cap) := ST.o.env.cell 1;have x3 : v.cell? ⟨w.heap.size,3,none⟩=some (.slice (some ⟨b,o,none⟩) 3 cap') := ST.o.ex.cell 3;obtain ⟨u0,u1,u2,u3⟩ := H0.o;replace u0 := cu9 u0 ST.o.below;replace u1 := cu9 u1 ST.o.below;replace u2 := cu9 u2 ST.o.below;replace u3 := cu9 u3 ST.o.below;refine wp_region_till (S := fun W => (W.cell? ⟨w.heap.size + 1,0,none⟩=some (.int .i64 day)∧W.cell? ⟨w.heap.size + 1,1,none⟩=some (.slice a len cap))∧W.cell? ⟨w.heap.size,3,none⟩=some (.slice (some ⟨b,o,none⟩) 3 cap')∧W.cell? ⟨b,o,none⟩=some (.int .i64 o0)∧W.cell? ⟨b,o + 1,none⟩=some (.int .i64 n0)∧W.cell? ⟨b,o + 2,none⟩=some (.string m0)∧W.cell? ⟨b,o + 3,none⟩=some (.slice a0 l0 p0)) 7 (by kernel_rfl) ?_;refine tk 0 ⟨⟨e0,e1⟩,x3,u0,u1,u2,u3⟩ ?_;refine tk 1 ⟨⟨e0,e1⟩,x3,u0,u1,u2,u3⟩ ?_;refine tk 2 ⟨⟨e0,e1⟩,x3,u0,u1,u2,u3⟩ ?_;refine tk 3 ⟨⟨e0,e1⟩,x3,u0,u1,u2,u3⟩ ?_;refine tk 4 ⟨⟨e0,e1⟩,x3,u0,u1,u2,u3⟩ ?_;refine till_two (i := 5) (j := 6) (by kernel_rfl) rfl rfl (fun K' hK => ?_) (fun K' hK => ?_)
  · go_simp;go_at_call 32;(with_reducible refine (RvC.run HCA.o _ ST.o.below.drew).mono ?_);rintro y w1 ⟨hy,b1⟩;unfold RetW at hy;subst hy;have hd := (Below.refl v.heap.size v).drew;have ST1 := LH9 ((ST.o.up hd).up b1);have bt := hd.trans (b1.mono hd.size);have GG := LH9 (True.intro);replace e0 := cu9 e0 bt;replace e1 := cu9 e1 bt;replace x3 := cu9 x3 bt;replace u0 := cu9 u0 bt;replace u1 := cu9 u1 bt;replace u2 := cu9 u2 bt;replace u3 := cu9 u3 bt;refine hK _ _ ⟨⟨e0,e1⟩,x3,u0,u1,u2,u3⟩ ?_;clear hK K' b1 hd bt
    try simp only [Act.put,zp1,zp2,zp3,zp4,zp5,zp6]
    refine till_one (i := 6) (by kernel_rfl) rfl (fun K' hK => ?_);go_simp;have bn := (Below.refl w1.heap.size w1).alloc (Nat.le_refl _) (.cells #[.string ⟨#[]⟩,.int .i64 0] 97);have ST2 := LH9 (ST1.o.up bn);have BZ := LH9 (Mem.Blk.new w1 97 #[.string ⟨#[]⟩,.int .i64 0]);have HZ := LH9 ST1.o.lt;have HP := LH9 (True.intro);refine hK _ _ ⟨⟨cu9 e0 bn,cu9 e1 bn⟩,cu9 x3 bn,cu9 u0 bn,cu9 u1 bn,cu9 u2 bn,cu9 u3 bn⟩ ?_;clear hK K' bn ST1 e0 e1 x3 u0 u1 u2 u3 GG;generalize w1.alloc (.cells #[.string ⟨#[]⟩,.int .i64 0] 97)=w2 at *;generalize w1.heap.size=z at *
    try simp only [Act.put,zp1,zp2,zp3,zp4,zp5,zp6]
    obtain ⟨t0,t1,t2,t3⟩ := BZ.o.two;have hm := BZ.o.lt;refine till_last (by kernel_rfl) rfl (by kernel_rfl) (fun K' hK => ?_);go_simp;have HS9 := LH9 (ST2.o.far2 HZ.o (.string (wd A)) (.int .i64 A.N));have HV9 := LH9 (RvV.mk (v := A) HZ.o ((BZ.o.set_ 0 (.string (wd A))).set_ 1 (.int .i64 A.N)));refine hK _ _ ?_;clear hK K'
    try simp only [Act.put,zp1,zp2,zp3,zp4,zp5,zp6]
    refine wpAny_done (by kernel_rfl) ?_ _
    go_wp2_with fail
    go_meet
    case rel => exact ⟨z,rfl,HS9.o,HV9.o⟩
  · go_simp;have bn := below_new v (.cells #[.string ⟨#[]⟩,.int .i64 0] 97);have ST1 := LH9 (ST.o.up bn);have BZ1 := LH9 (Mem.Blk.new v 97 #[.string ⟨#[]⟩,.int .i64 0]).drew;have HZ := LH9 ST.o.lt;have HQ := LH9 (True.intro);replace e0 := cu9 e0 bn;replace e1 := cu9 e1 bn;replace x3 := cu9 x3 bn;replace u0 := cu9 u0 bn;replace u1 := cu9 u1 bn;replace u2 := cu9 u2 bn;replace u3 := cu9 u3 bn;refine hK _ _ ⟨⟨e0,e1⟩,x3,u0,u1,u2,u3⟩ ?_;clear hK K' bn;generalize (v.alloc (.cells #[.string ⟨#[]⟩,.int .i64 0] 97)).drew=w1 at *;generalize v.heap.size=z at *
    try simp only [Act.put,zp1,zp2,zp3,zp4,zp5,zp6]
    refine till_one (i := 5) (by kernel_rfl) rfl (fun K' hK => ?_);go_simp;go_at_call 32;(with_reducible refine (RvC.run HCA.o _ ST1.o.below).mono ?_);rintro y w2 ⟨hy,b1⟩;unfold RetW at hy;subst hy;have ST2 := LH9 (ST1.o.up b1);have BZ := LH9 (BZ1.o.below b1);have HP := LH9 (True.intro);refine hK _ _ ⟨⟨cu9 e0 b1,cu9 e1 b1⟩,cu9 x3 b1,cu9 u0 b1,cu9 u1 b1,cu9 u2 b1,cu9 u3 b1⟩ ?_;clear hK K' b1 ST1 BZ1 e0 e1 x3 u0 u1 u2 u3 HQ
    try simp only [Act.put,zp1,zp2,zp3,zp4,zp5,zp6]
    obtain ⟨t0,t1,t2,t3⟩ := BZ.o.two;have hm := BZ.o.lt;refine till_last (by kernel_rfl) rfl (by kernel_rfl) (fun K' hK => ?_);go_simp;have HS9 := LH9 (ST2.o.far2 HZ.o (.string (wd A)) (.int .i64 A.N));have HV9 := LH9 (RvV.mk (v := A) HZ.o ((BZ.o.set_ 0 (.string (wd A))).set_ 1 (.int .i64 A.N)));refine hK _ _ ?_;clear hK K'
    try simp only [Act.put,zp1,zp2,zp3,zp4,zp5,zp6]
    refine wpAny_done (by kernel_rfl) ?_ _
    go_wp2_with fail
    go_meet
    case rel => exact ⟨z,rfl,HS9.o,HV9.o⟩
 obtain ⟨g,rfl,ST0,VA⟩ := hcut;obtain ⟨W0,rfl⟩ : ∃ W : World,W=wc := ⟨_,rfl⟩;clear ST;rcases HTA.o with rfl | rfl | ⟨t,rfl⟩
 · obtain rfl : R=.unk := HR.o;have t0 : W0.cell? ⟨g,0,none⟩=some (.string ⟨#[63]⟩) := VA.o.blk.cell 0;have t1 : W0.cell? ⟨g,1,none⟩=some (.int .i64 0) := VA.o.blk.cell 1;have e0 : W0.cell? ⟨w.heap.size + 1,0,none⟩=some (.int .i64 day) := ST0.o.env.cell 0;have e1 : W0.cell? ⟨w.heap.size + 1,1,none⟩=some (.slice a len cap) := ST0.o.env.cell 1;obtain ⟨x0,x1,x2,x3,-,-,-,-⟩ := blk4 ST0.o.ex;obtain ⟨q0,q1,q2,q3⟩ := ST0.o.res.two;have hm := ST0.o.lt;have HFN : Hid (Below w.heap.size w ((W0.setCell ⟨w.heap.size + 1 + 1,0,none⟩ (.string ⟨#[63]⟩)).setCell ⟨w.heap.size + 1 + 1,1,none⟩ (.int .i64 0))∧Mem.Blk ((W0.setCell ⟨w.heap.size + 1 + 1,0,none⟩ (.string ⟨#[63]⟩)).setCell ⟨w.heap.size + 1 + 1,1,none⟩ (.int .i64 0)) (w.heap.size + 1 + 1) 97 #[.string ⟨#[63]⟩,.int .i64 0]) := ⟨(ST0.o.below.setCell (by show w.heap.size≤w.heap.size + 1 + 1; omega) _).setCell (by show w.heap.size≤w.heap.size + 1 + 1; omega) _,(ST0.o.res.set_ 0 _).set_ 1 _⟩
   go_wp2_with fail
   generalize (W0.setCell ⟨w.heap.size + 1 + 1,0,none⟩ (.string ⟨#[63]⟩)).setCell ⟨w.heap.size + 1 + 1,1,none⟩ (.int .i64 0)=W9 at *;obtain ⟨r0,r1,-,-⟩ := HFN.o.2.two;refine bodyPost_ret (v := .agg #[.string ⟨#[63]⟩,.int .i64 0]) (by simp [results,Tryz.results32,go_sem,r0,r1]) rfl ⟨rfl,HFN.o.1⟩
 · obtain rfl : R=.brk := HR.o;have t0 : W0.cell? ⟨g,0,none⟩=some (.string ⟨#[33]⟩) := VA.o.blk.cell 0;have t1 : W0.cell? ⟨g,1,none⟩=some (.int .i64 0) := VA.o.blk.cell 1;have e0 : W0.cell? ⟨w.heap.size + 1,0,none⟩=some (.int .i64 day) := ST0.o.env.cell 0;have e1 : W0.cell? ⟨w.heap.size + 1,1,none⟩=some (.slice a len cap) := ST0.o.env.cell 1;obtain ⟨x0,x1,x2,x3,-,-,-,-⟩ := blk4 ST0.o.ex;obtain ⟨q0,q1,q2,q3⟩ := ST0.o.res.two;have hm := ST0.o.lt;have HFN : Hid (Below w.heap.size w ((W0.setCell ⟨w.heap.size + 1 + 1,0,none⟩ (.string ⟨#[33]⟩)).setCell ⟨w.heap.size + 1 + 1,1,none⟩ (.int .i64 0))∧Mem.Blk ((W0.setCell ⟨w.heap.size + 1 + 1,0,none⟩ (.string ⟨#[33]⟩)).setCell ⟨w.heap.size + 1 + 1,1,none⟩ (.int .i64 0)) (w.heap.size + 1 + 1) 97 #[.string ⟨#[33]⟩,.int .i64 0]) := ⟨(ST0.o.below.setCell (by show w.heap.size≤w.heap.size + 1 + 1; omega) _).setCell (by show w.heap.size≤w.heap.size + 1 + 1; omega) _,(ST0.o.res.set_ 0 _).set_ 1 _⟩
   go_wp2_with fail
   generalize (W0.setCell ⟨w.heap.size + 1 + 1,0,none⟩ (.string ⟨#[33]⟩)).setCell ⟨w.heap.size + 1 + 1,1,none⟩ (.int .i64 0)=W9 at *;obtain ⟨r0,r1,-,-⟩ := HFN.o.2.two;refine bodyPost_ret (v := .agg #[.string ⟨#[33]⟩,.int .i64 0]) (by simp [results,Tryz.results32,go_sem,r0,r1]) rfl ⟨rfl,HFN.o.1⟩
 · cases t with
   | true =>
     obtain rfl : R=B := HR.o;have t0 : W0.cell? ⟨g,0,none⟩=some (.string ⟨#[116]⟩) := VA.o.blk.cell 0;have t1 : W0.cell? ⟨g,1,none⟩=some (.int .i64 0) := VA.o.blk.cell 1;have e0 : W0.cell? ⟨w.heap.size + 1,0,none⟩=some (.int .i64 day) := ST0.o.env.cell 0;have e1 : W0.cell? ⟨w.heap.size + 1,1,none⟩=some (.slice a len cap) := ST0.o.env.cell 1;obtain ⟨x0,x1,x2,x3,-,-,-,-⟩ := blk4 ST0.o.ex
     go_wp2_with fail
     clear e0 e1 x0 x1 x2 x3 t0 t1;have e0 : W0.cell? ⟨w.heap.size + 1,0,none⟩=some (.int .i64 day) := ST0.o.env.cell 0;have e1 : W0.cell? ⟨w.heap.size + 1,1,none⟩=some (.slice a len cap) := ST0.o.env.cell 1;have x3 : W0.cell? ⟨w.heap.size,3,none⟩=some (.slice (some ⟨b,o,none⟩) 3 cap') := ST0.o.ex.cell 3;obtain ⟨u0,u1,u2,u3⟩ := H1.o;replace u0 := cu9 u0 ST0.o.below;replace u1 := cu9 u1 ST0.o.below;replace u2 := cu9 u2 ST0.o.below;replace u3 := cu9 u3 ST0.o.below;refine wp_region_till (S := fun W => (W.cell? ⟨w.heap.size + 1,0,none⟩=some (.int .i64 day)∧W.cell? ⟨w.heap.size + 1,1,none⟩=some (.slice a len cap))∧W.cell? ⟨w.heap.size,3,none⟩=some (.slice (some ⟨b,o,none⟩) 3 cap')∧W.cell? ⟨b,o + 4,none⟩=some (.int .i64 o1)∧W.cell? ⟨b,o + 4 + 1,none⟩=some (.int .i64 n1)∧W.cell? ⟨b,o + 4 + 2,none⟩=some (.string m1)∧W.cell? ⟨b,o + 4 + 3,none⟩=some (.slice a1 l1 p1)) 6 (by kernel_rfl) ?_;refine tk 0 ⟨⟨e0,e1⟩,x3,u0,u1,u2,u3⟩ ?_;refine tk 1 ⟨⟨e0,e1⟩,x3,u0,u1,u2,u3⟩ ?_;refine tk 2 ⟨⟨e0,e1⟩,x3,u0,u1,u2,u3⟩ ?_;refine tk 3 ⟨⟨e0,e1⟩,x3,u0,u1,u2,u3⟩ ?_;refine tk 4 ⟨⟨e0,e1⟩,x3,u0,u1,u2,u3⟩ ?_;refine till_one (i := 5) (by kernel_rfl) rfl (fun K' hK => ?_);go_simp;go_at_call 32;(with_reducible refine (RvC.run HCB.o _ ST0.o.below.drew).mono ?_);rintro y w2 ⟨hy,b1⟩;have hd := (Below.refl W0.heap.size W0).drew;have b2 := hd.trans (b1.mono hd.size);replace e0 := cu9 e0 b2;replace e1 := cu9 e1 b2;replace x3 := cu9 x3 b2;replace u0 := cu9 u0 b2;replace u1 := cu9 u1 b2;replace u2 := cu9 u2 b2;replace u3 := cu9 u3 b2;unfold RetW at hy;subst hy;have HP : Hid (RetW R (.returned (.agg #[.string (wd R),.int .i64 R.N]))) := rfl;have ST2 := LH9 (ST0.o.up b2);clear b1 b2 hd HCA HCB HCC HR;refine hK _ _ ⟨⟨e0,e1⟩,x3,u0,u1,u2,u3⟩ ?_;clear hK K' e0 e1 x3 u0 u1 u2 u3;generalize wd R=rk at *;generalize R.N=rn at *
     try simp only [Act.put,zp1,zp2,zp3,zp4,zp5,zp6]
     have HFN : Hid (Below w.heap.size w ((w2.setCell ⟨w.heap.size + 1 + 1,0,none⟩ (.string rk)).setCell ⟨w.heap.size + 1 + 1,1,none⟩ (.int .i64 rn))∧Mem.Blk ((w2.setCell ⟨w.heap.size + 1 + 1,0,none⟩ (.string rk)).setCell ⟨w.heap.size + 1 + 1,1,none⟩ (.int .i64 rn)) (w.heap.size + 1 + 1) 97 #[.string rk,.int .i64 rn]) := ⟨(ST2.o.below.setCell (by show w.heap.size≤w.heap.size + 1 + 1; omega) _).setCell (by show w.heap.size≤w.heap.size + 1 + 1; omega) _,(ST2.o.res.set_ 0 _).set_ 1 _⟩;obtain ⟨q0,q1,q2,q3⟩ := ST2.o.res.two;have hm := ST2.o.lt;refine till_last (by kernel_rfl) rfl (by kernel_rfl) (fun K' hK => ?_);go_simp;refine hK _ _ ?_;clear hK K'
     try simp only [Act.put,zp1,zp2,zp3,zp4,zp5,zp6]
     refine wpAny_done (by kernel_rfl) ?_ _
     go_wp2_with fail
     generalize (w2.setCell ⟨w.heap.size + 1 + 1,0,none⟩ (.string rk)).setCell ⟨w.heap.size + 1 + 1,1,none⟩ (.int .i64 rn)=W9 at *;obtain ⟨r0,r1,-,-⟩ := HFN.o.2.two;refine bodyPost_ret (v := .agg #[.string rk,.int .i64 rn]) (by simp [results,Tryz.results32,go_sem,r0,r1]) rfl ⟨HP.o,HFN.o.1⟩
   | false =>
     obtain rfl : R=C := HR.o;have t0 : W0.cell? ⟨g,0,none⟩=some (.string ⟨#[102]⟩) := VA.o.blk.cell 0;have t1 : W0.cell? ⟨g,1,none⟩=some (.int .i64 0) := VA.o.blk.cell 1;have e0 : W0.cell? ⟨w.heap.size + 1,0,none⟩=some (.int .i64 day) := ST0.o.env.cell 0;have e1 : W0.cell? ⟨w.heap.size + 1,1,none⟩=some (.slice a len cap) := ST0.o.env.cell 1;obtain ⟨x0,x1,x2,x3,-,-,-,-⟩ := blk4 ST0.o.ex
     go_wp2_with fail
     clear e0 e1 x0 x1 x2 x3 t0 t1;have e0 : W0.cell? ⟨w.heap.size + 1,0,none⟩=some (.int .i64 day) := ST0.o.env.cell 0;have e1 : W0.cell? ⟨w.heap.size + 1,1,none⟩=some (.slice a len cap) := ST0.o.env.cell 1;have x3 : W0.cell? ⟨w.heap.size,3,none⟩=some (.slice (some ⟨b,o,none⟩) 3 cap') := ST0.o.ex.cell 3;obtain ⟨u0,u1,u2,u3⟩ := H2.o;replace u0 := cu9 u0 ST0.o.below;replace u1 := cu9 u1 ST0.o.below;replace u2 := cu9 u2 ST0.o.below;replace u3 := cu9 u3 ST0.o.below;refine wp_region_till (S := fun W => (W.cell? ⟨w.heap.size + 1,0,none⟩=some (.int .i64 day)∧W.cell? ⟨w.heap.size + 1,1,none⟩=some (.slice a len cap))∧W.cell? ⟨w.heap.size,3,none⟩=some (.slice (some ⟨b,o,none⟩) 3 cap')∧W.cell? ⟨b,o + 8,none⟩=some (.int .i64 o2)∧W.cell? ⟨b,o + 8 + 1,none⟩=some (.int .i64 n2)∧W.cell? ⟨b,o + 8 + 2,none⟩=some (.string m2)∧W.cell? ⟨b,o + 8 + 3,none⟩=some (.slice a2 l2 p2)) 6 (by kernel_rfl) ?_;refine tk 0 ⟨⟨e0,e1⟩,x3,u0,u1,u2,u3⟩ ?_;refine tk 1 ⟨⟨e0,e1⟩,x3,u0,u1,u2,u3⟩ ?_;refine tk 2 ⟨⟨e0,e1⟩,x3,u0,u1,u2,u3⟩ ?_;refine tk 3 ⟨⟨e0,e1⟩,x3,u0,u1,u2,u3⟩ ?_;refine tk 4 ⟨⟨e0,e1⟩,x3,u0,u1,u2,u3⟩ ?_;refine till_one (i := 5) (by kernel_rfl) rfl (fun K' hK => ?_);go_simp;go_at_call 32;(with_reducible refine (RvC.run HCC.o _ ST0.o.below.drew).mono ?_);rintro y w2 ⟨hy,b1⟩;have hd := (Below.refl W0.heap.size W0).drew;have b2 := hd.trans (b1.mono hd.size);replace e0 := cu9 e0 b2;replace e1 := cu9 e1 b2;replace x3 := cu9 x3 b2;replace u0 := cu9 u0 b2;replace u1 := cu9 u1 b2;replace u2 := cu9 u2 b2;replace u3 := cu9 u3 b2;unfold RetW at hy;subst hy;have HP : Hid (RetW R (.returned (.agg #[.string (wd R),.int .i64 R.N]))) := rfl;have ST2 := LH9 (ST0.o.up b2);clear b1 b2 hd HCA HCB HCC HR;refine hK _ _ ⟨⟨e0,e1⟩,x3,u0,u1,u2,u3⟩ ?_;clear hK K' e0 e1 x3 u0 u1 u2 u3;generalize wd R=rk at *;generalize R.N=rn at *
     try simp only [Act.put,zp1,zp2,zp3,zp4,zp5,zp6]
     have HFN : Hid (Below w.heap.size w ((w2.setCell ⟨w.heap.size + 1 + 1,0,none⟩ (.string rk)).setCell ⟨w.heap.size + 1 + 1,1,none⟩ (.int .i64 rn))∧Mem.Blk ((w2.setCell ⟨w.heap.size + 1 + 1,0,none⟩ (.string rk)).setCell ⟨w.heap.size + 1 + 1,1,none⟩ (.int .i64 rn)) (w.heap.size + 1 + 1) 97 #[.string rk,.int .i64 rn]) := ⟨(ST2.o.below.setCell (by show w.heap.size≤w.heap.size + 1 + 1; omega) _).setCell (by show w.heap.size≤w.heap.size + 1 + 1; omega) _,(ST2.o.res.set_ 0 _).set_ 1 _⟩;obtain ⟨q0,q1,q2,q3⟩ := ST2.o.res.two;have hm := ST2.o.lt;refine till_last (by kernel_rfl) rfl (by kernel_rfl) (fun K' hK => ?_);go_simp;refine hK _ _ ?_;clear hK K'
     try simp only [Act.put,zp1,zp2,zp3,zp4,zp5,zp6]
     refine wpAny_done (by kernel_rfl) ?_ _
     go_wp2_with fail
     generalize (w2.setCell ⟨w.heap.size + 1 + 1,0,none⟩ (.string rk)).setCell ⟨w.heap.size + 1 + 1,1,none⟩ (.int .i64 rn)=W9 at *;obtain ⟨r0,r1,-,-⟩ := HFN.o.2.two;refine bodyPost_ret (v := .agg #[.string rk,.int .i64 rn]) (by simp [results,Tryz.results32,go_sem,r0,r1]) rfl ⟨HP.o,HFN.o.1⟩
end
section
theorem rv_and17 (w : World) (day : Int) (a : Option Addr) (len cap : Nat) (n : Int) (nm : ByteArray) (b o cap' : Nat) (o0 n0 o1 n1 : Int) (m0 m1 : ByteArray) (a0 a1 : Option Addr) (l0 p0 l1 p1 : Nat) (A B : Vl) (hA : Ty 2 A) (hB : Ty 2 B)
 (h0 : Four w b o (.int .i64 o0) (.int .i64 n0) (.string m0) (.slice a0 l0 p0)) (h1 : Four w b (o + 4) (.int .i64 o1) (.int .i64 n1) (.string m1) (.slice a1 l1 p1))
 (HA : RvC w day a len cap (.int .i64 o0) (.int .i64 n0) (.string m0) (.slice a0 l0 p0) A) (HB : RvC w day a len cap (.int .i64 o1) (.int .i64 n1) (.string m1) (.slice a1 l1 p1) B) :
 Calls Tryz.prog 32 #[.agg #[.int .i64 17,.int .i64 n,.string nm,.slice (some ⟨b,o,none⟩) 2 cap'],.agg #[.int .i64 day,.slice a len cap]] w fun x w' => RetW (bothV (decide ((17 : Int)=18)) A B) x∧Below w.heap.size w w' := by
 have H0 := LH9 h0;have H1 := LH9 h1;have HCA := LH9 HA;have HCB := LH9 HB;have HTA := LH9 hA.of2;have HTB := LH9 hB.of2;have ST := LH9 (RvSt.start w day a len cap 17 n nm (some ⟨b,o,none⟩) 2 cap');clear h0 h1 HA HB hA hB;obtain ⟨R,hR⟩ : ∃ R,R=bothV (decide ((17 : Int)=18)) A B := ⟨_,rfl⟩;rw [← hR];have HR : Hid (R=if A=.brk∨A=.tru false then A else if (∃ t,A=.tru t)∨B=.brk∨B=.tru false then B else .unk) := by
  show R=_;rw [hR,show decide ((17 : Int)=18)=false from rfl]; unfold bothV; congr
 clear hR
 go_enter Tryz.func32,Tryz.ntmps32
 go_upto_region 1 with (fail)
 generalize ((w.alloc (.cells #[.int .i64 17,.int .i64 n,.string nm,.slice (some ⟨b,o,none⟩) 2 cap'] 74)).alloc (.cells #[.int .i64 day,.slice a len cap] 26)).alloc (.cells #[.string ⟨#[]⟩,.int .i64 0] 97)=v at *;have e0 : v.cell? ⟨w.heap.size + 1,0,none⟩=some (.int .i64 day) := ST.o.env.cell 0;have e1 : v.cell? ⟨w.heap.size + 1,1,none⟩=some (.slice a len cap) := ST.o.env.cell 1;obtain ⟨x0,x1,x2,x3,-,-,-,-⟩ := blk4 ST.o.ex
 go_wp2_with fail
 go_at_call 59;(with_reducible refine (rtruth_any false v).mono ?_);rintro y w1 ⟨hy,b1⟩;have hy' : y=.returned (.agg #[.string ⟨#[102]⟩,.int .i64 0]) := hy;subst hy';have ST1 := LH9 (ST.o.up b1);have bn := (Below.refl w1.heap.size w1).alloc (Nat.le_refl _) (.cells #[.string ⟨#[102]⟩,.int .i64 0] 97);have VS := LH9 (RvV.mk (v := .tru false) ST1.o.lt (Mem.Blk.new w1 97 #[.string ⟨#[102]⟩,.int .i64 0]));have ST2 := LH9 (ST1.o.up bn);clear hy b1 bn ST1 ST e0 e1 x0 x1 x2 x3
 go_upto_region 3 with (fail)
 generalize w1.alloc (.cells #[.string ⟨#[102]⟩,.int .i64 0] 97)=v1 at *;generalize w1.heap.size=gs at *
 go_cut [6] (fun p W0 => ∃ g,p=.pointer (some ⟨g,0,none⟩)∧Hid (RvSt w W0 day a len cap 17 n nm (some ⟨b,o,none⟩) 2 cap')∧Hid (RvV w W0 g A)∧Hid (RvV w W0 gs (.tru false)))
 case first =>
  have e0 : v1.cell? ⟨w.heap.size + 1,0,none⟩=some (.int .i64 day) := ST2.o.env.cell 0;have e1 : v1.cell? ⟨w.heap.size + 1,1,none⟩=some (.slice a len cap) := ST2.o.env.cell 1;have x3 : v1.cell? ⟨w.heap.size,3,none⟩=some (.slice (some ⟨b,o,none⟩) 2 cap') := ST2.o.ex.cell 3;obtain ⟨u0,u1,u2,u3⟩ := H0.o;replace u0 := cu9 u0 ST2.o.below;replace u1 := cu9 u1 ST2.o.below;replace u2 := cu9 u2 ST2.o.below;replace u3 := cu9 u3 ST2.o.below;refine wp_region_till (S := fun W => (W.cell? ⟨w.heap.size + 1,0,none⟩=some (.int .i64 day)∧W.cell? ⟨w.heap.size + 1,1,none⟩=some (.slice a len cap))∧W.cell? ⟨w.heap.size,3,none⟩=some (.slice (some ⟨b,o,none⟩) 2 cap')∧W.cell? ⟨b,o,none⟩=some (.int .i64 o0)∧W.cell? ⟨b,o + 1,none⟩=some (.int .i64 n0)∧W.cell? ⟨b,o + 2,none⟩=some (.string m0)∧W.cell? ⟨b,o + 3,none⟩=some (.slice a0 l0 p0)) 7 (by kernel_rfl) ?_;refine tk 0 ⟨⟨e0,e1⟩,x3,u0,u1,u2,u3⟩ ?_;refine tk 1 ⟨⟨e0,e1⟩,x3,u0,u1,u2,u3⟩ ?_;refine tk 2 ⟨⟨e0,e1⟩,x3,u0,u1,u2,u3⟩ ?_;refine tk 3 ⟨⟨e0,e1⟩,x3,u0,u1,u2,u3⟩ ?_;refine tk 4 ⟨⟨e0,e1⟩,x3,u0,u1,u2,u3⟩ ?_;refine till_two (i := 5) (j := 6) (by kernel_rfl) rfl rfl (fun K' hK => ?_) (fun K' hK => ?_)
  · go_simp;go_at_call 32;(with_reducible refine (RvC.run HCA.o _ ST2.o.below.drew).mono ?_);rintro y w1 ⟨hy,b1⟩;unfold RetW at hy;subst hy;have hd := (Below.refl v1.heap.size v1).drew;have ST1 := LH9 ((ST2.o.up hd).up b1);have bt := hd.trans (b1.mono hd.size);have GG := LH9 ((VS.o.up hd).up b1);replace e0 := cu9 e0 bt;replace e1 := cu9 e1 bt;replace x3 := cu9 x3 bt;replace u0 := cu9 u0 bt;replace u1 := cu9 u1 bt;replace u2 := cu9 u2 bt;replace u3 := cu9 u3 bt;refine hK _ _ ⟨⟨e0,e1⟩,x3,u0,u1,u2,u3⟩ ?_;clear hK K' b1 hd bt
    try simp only [Act.put,zp1,zp2,zp3,zp4,zp5,zp6]
    refine till_one (i := 6) (by kernel_rfl) rfl (fun K' hK => ?_);go_simp;have bn := (Below.refl w1.heap.size w1).alloc (Nat.le_refl _) (.cells #[.string ⟨#[]⟩,.int .i64 0] 97);have ST2 := LH9 (ST1.o.up bn);have BZ := LH9 (Mem.Blk.new w1 97 #[.string ⟨#[]⟩,.int .i64 0]);have HZ := LH9 ST1.o.lt;have HP := LH9 (And.intro (GG.o.up bn) (Nat.ne_of_lt GG.o.blk.lt));refine hK _ _ ⟨⟨cu9 e0 bn,cu9 e1 bn⟩,cu9 x3 bn,cu9 u0 bn,cu9 u1 bn,cu9 u2 bn,cu9 u3 bn⟩ ?_;clear hK K' bn ST1 e0 e1 x3 u0 u1 u2 u3 GG;generalize w1.alloc (.cells #[.string ⟨#[]⟩,.int .i64 0] 97)=w2 at *;generalize w1.heap.size=z at *
    try simp only [Act.put,zp1,zp2,zp3,zp4,zp5,zp6]
    obtain ⟨t0,t1,t2,t3⟩ := BZ.o.two;have hm := BZ.o.lt;refine till_last (by kernel_rfl) rfl (by kernel_rfl) (fun K' hK => ?_);go_simp;have HS9 := LH9 (ST2.o.far2 HZ.o (.string (wd A)) (.int .i64 A.N));have HV9 := LH9 (RvV.mk (v := A) HZ.o ((BZ.o.set_ 0 (.string (wd A))).set_ 1 (.int .i64 A.N)));refine hK _ _ ?_;clear hK K'
    try simp only [Act.put,zp1,zp2,zp3,zp4,zp5,zp6]
    refine wpAny_done (by kernel_rfl) ?_ _
    go_wp2_with fail
    go_meet
    case rel => exact ⟨z,rfl,HS9.o,HV9.o,HP.o.1.far2 HP.o.2 _ _⟩
  · go_simp;have bn := below_new v1 (.cells #[.string ⟨#[]⟩,.int .i64 0] 97);have ST1 := LH9 (ST2.o.up bn);have BZ1 := LH9 (Mem.Blk.new v1 97 #[.string ⟨#[]⟩,.int .i64 0]).drew;have HZ := LH9 ST2.o.lt;have HQ := LH9 (And.intro (VS.o.up bn) (Nat.ne_of_lt VS.o.blk.lt));replace e0 := cu9 e0 bn;replace e1 := cu9 e1 bn;replace x3 := cu9 x3 bn;replace u0 := cu9 u0 bn;replace u1 := cu9 u1 bn;replace u2 := cu9 u2 bn;replace u3 := cu9 u3 bn;refine hK _ _ ⟨⟨e0,e1⟩,x3,u0,u1,u2,u3⟩ ?_;clear hK K' bn;generalize (v1.alloc (.cells #[.string ⟨#[]⟩,.int .i64 0] 97)).drew=w1 at *;generalize v1.heap.size=z at *
    try simp only [Act.put,zp1,zp2,zp3,zp4,zp5,zp6]
    refine till_one (i := 5) (by kernel_rfl) rfl (fun K' hK => ?_);go_simp;go_at_call 32;(with_reducible refine (RvC.run HCA.o _ ST1.o.below).mono ?_);rintro y w2 ⟨hy,b1⟩;unfold RetW at hy;subst hy;have ST2 := LH9 (ST1.o.up b1);have BZ := LH9 (BZ1.o.below b1);have HP := LH9 (And.intro (HQ.o.1.up b1) HQ.o.2);refine hK _ _ ⟨⟨cu9 e0 b1,cu9 e1 b1⟩,cu9 x3 b1,cu9 u0 b1,cu9 u1 b1,cu9 u2 b1,cu9 u3 b1⟩ ?_;clear hK K' b1 ST1 BZ1 e0 e1 x3 u0 u1 u2 u3 HQ
    try simp only [Act.put,zp1,zp2,zp3,zp4,zp5,zp6]
    obtain ⟨t0,t1,t2,t3⟩ := BZ.o.two;have hm := BZ.o.lt;refine till_last (by kernel_rfl) rfl (by kernel_rfl) (fun K' hK => ?_);go_simp;have HS9 := LH9 (ST2.o.far2 HZ.o (.string (wd A)) (.int .i64 A.N));have HV9 := LH9 (RvV.mk (v := A) HZ.o ((BZ.o.set_ 0 (.string (wd A))).set_ 1 (.int .i64 A.N)));refine hK _ _ ?_;clear hK K'
    try simp only [Act.put,zp1,zp2,zp3,zp4,zp5,zp6]
    refine wpAny_done (by kernel_rfl) ?_ _
    go_wp2_with fail
    go_meet
    case rel => exact ⟨z,rfl,HS9.o,HV9.o,HP.o.1.far2 HP.o.2 _ _⟩
 obtain ⟨g,rfl,ST0,VA,VS0⟩ := hcut;obtain ⟨W0,rfl⟩ : ∃ W : World,W=wc := ⟨_,rfl⟩;clear ST2 VS;have st0 : W0.cell? ⟨gs,0,none⟩=some (.string ⟨#[102]⟩) := VS0.o.blk.cell 0;have st1 : W0.cell? ⟨gs,1,none⟩=some (.int .i64 0) := VS0.o.blk.cell 1;rcases HTA.o with rfl | rfl | ⟨t,rfl⟩
 · have HR1 : Hid (R=if B=.brk∨B=.tru false then B else .unk) := by rw [HR.o]; simp [Hid]
   clear HR;have t0 : W0.cell? ⟨g,0,none⟩=some (.string ⟨#[63]⟩) := VA.o.blk.cell 0;have t1 : W0.cell? ⟨g,1,none⟩=some (.int .i64 0) := VA.o.blk.cell 1
   go_wp2_with fail
   clear t0 t1 st0 st1
   go_cut [7] (fun p W1 => ∃ g1,p=.pointer (some ⟨g1,0,none⟩)∧Hid (RvSt w W1 day a len cap 17 n nm (some ⟨b,o,none⟩) 2 cap')∧Hid (RvV w W1 g1 B)∧Hid (RvV w W1 gs (.tru false))∧Hid (RvV w W1 g .unk))
   case first =>
    have e0 : W0.cell? ⟨w.heap.size + 1,0,none⟩=some (.int .i64 day) := ST0.o.env.cell 0;have e1 : W0.cell? ⟨w.heap.size + 1,1,none⟩=some (.slice a len cap) := ST0.o.env.cell 1;have x3 : W0.cell? ⟨w.heap.size,3,none⟩=some (.slice (some ⟨b,o,none⟩) 2 cap') := ST0.o.ex.cell 3;obtain ⟨u0,u1,u2,u3⟩ := H1.o;replace u0 := cu9 u0 ST0.o.below;replace u1 := cu9 u1 ST0.o.below;replace u2 := cu9 u2 ST0.o.below;replace u3 := cu9 u3 ST0.o.below;refine wp_region_till (S := fun W => (W.cell? ⟨w.heap.size + 1,0,none⟩=some (.int .i64 day)∧W.cell? ⟨w.heap.size + 1,1,none⟩=some (.slice a len cap))∧W.cell? ⟨w.heap.size,3,none⟩=some (.slice (some ⟨b,o,none⟩) 2 cap')∧W.cell? ⟨b,o + 4,none⟩=some (.int .i64 o1)∧W.cell? ⟨b,o + 4 + 1,none⟩=some (.int .i64 n1)∧W.cell? ⟨b,o + 4 + 2,none⟩=some (.string m1)∧W.cell? ⟨b,o + 4 + 3,none⟩=some (.slice a1 l1 p1)) 7 (by kernel_rfl) ?_;refine tk 0 ⟨⟨e0,e1⟩,x3,u0,u1,u2,u3⟩ ?_;refine tk 1 ⟨⟨e0,e1⟩,x3,u0,u1,u2,u3⟩ ?_;refine tk 2 ⟨⟨e0,e1⟩,x3,u0,u1,u2,u3⟩ ?_;refine tk 3 ⟨⟨e0,e1⟩,x3,u0,u1,u2,u3⟩ ?_;refine tk 4 ⟨⟨e0,e1⟩,x3,u0,u1,u2,u3⟩ ?_;refine till_two (i := 5) (j := 6) (by kernel_rfl) rfl rfl (fun K' hK => ?_) (fun K' hK => ?_)
    · go_simp;go_at_call 32;(with_reducible refine (RvC.run HCB.o _ ST0.o.below.drew).mono ?_);rintro y w1 ⟨hy,b1⟩;unfold RetW at hy;subst hy;have hd := (Below.refl W0.heap.size W0).drew;have ST1 := LH9 ((ST0.o.up hd).up b1);have bt := hd.trans (b1.mono hd.size);have GG := LH9 (And.intro ((VS0.o.up hd).up b1) ((VA.o.up hd).up b1));replace e0 := cu9 e0 bt;replace e1 := cu9 e1 bt;replace x3 := cu9 x3 bt;replace u0 := cu9 u0 bt;replace u1 := cu9 u1 bt;replace u2 := cu9 u2 bt;replace u3 := cu9 u3 bt;refine hK _ _ ⟨⟨e0,e1⟩,x3,u0,u1,u2,u3⟩ ?_;clear hK K' b1 hd bt
      try simp only [Act.put,zp1,zp2,zp3,zp4,zp5,zp6]
      refine till_one (i := 6) (by kernel_rfl) rfl (fun K' hK => ?_);go_simp;have bn := (Below.refl w1.heap.size w1).alloc (Nat.le_refl _) (.cells #[.string ⟨#[]⟩,.int .i64 0] 97);have ST2 := LH9 (ST1.o.up bn);have BZ := LH9 (Mem.Blk.new w1 97 #[.string ⟨#[]⟩,.int .i64 0]);have HZ := LH9 ST1.o.lt;have HP := LH9 (And.intro (And.intro (GG.o.1.up bn) (Nat.ne_of_lt GG.o.1.blk.lt)) (And.intro (GG.o.2.up bn) (Nat.ne_of_lt GG.o.2.blk.lt)));refine hK _ _ ⟨⟨cu9 e0 bn,cu9 e1 bn⟩,cu9 x3 bn,cu9 u0 bn,cu9 u1 bn,cu9 u2 bn,cu9 u3 bn⟩ ?_;clear hK K' bn ST1 e0 e1 x3 u0 u1 u2 u3 GG;generalize w1.alloc (.cells #[.string ⟨#[]⟩,.int .i64 0] 97)=w2 at *;generalize w1.heap.size=z at *
      try simp only [Act.put,zp1,zp2,zp3,zp4,zp5,zp6]
      obtain ⟨t0,t1,t2,t3⟩ := BZ.o.two;have hm := BZ.o.lt;refine till_last (by kernel_rfl) rfl (by kernel_rfl) (fun K' hK => ?_);go_simp;have HS9 := LH9 (ST2.o.far2 HZ.o (.string (wd B)) (.int .i64 B.N));have HV9 := LH9 (RvV.mk (v := B) HZ.o ((BZ.o.set_ 0 (.string (wd B))).set_ 1 (.int .i64 B.N)));refine hK _ _ ?_;clear hK K'
      try simp only [Act.put,zp1,zp2,zp3,zp4,zp5,zp6]
      refine wpAny_done (by kernel_rfl) ?_ _
      go_wp2_with fail
      go_meet
      case rel => exact ⟨z,rfl,HS9.o,HV9.o,HP.o.1.1.far2 HP.o.1.2 _ _,HP.o.2.1.far2 HP.o.2.2 _ _⟩
    · go_simp;have bn := below_new W0 (.cells #[.string ⟨#[]⟩,.int .i64 0] 97);have ST1 := LH9 (ST0.o.up bn);have BZ1 := LH9 (Mem.Blk.new W0 97 #[.string ⟨#[]⟩,.int .i64 0]).drew;have HZ := LH9 ST0.o.lt;have HQ := LH9 (And.intro (And.intro (VS0.o.up bn) (Nat.ne_of_lt VS0.o.blk.lt)) (And.intro (VA.o.up bn) (Nat.ne_of_lt VA.o.blk.lt)));replace e0 := cu9 e0 bn;replace e1 := cu9 e1 bn;replace x3 := cu9 x3 bn;replace u0 := cu9 u0 bn;replace u1 := cu9 u1 bn;replace u2 := cu9 u2 bn;replace u3 := cu9 u3 bn;refine hK _ _ ⟨⟨e0,e1⟩,x3,u0,u1,u2,u3⟩ ?_;clear hK K' bn;generalize (W0.alloc (.cells #[.string ⟨#[]⟩,.int .i64 0] 97)).drew=w1 at *;generalize W0.heap.size=z at *
      try simp only [Act.put,zp1,zp2,zp3,zp4,zp5,zp6]
      refine till_one (i := 5) (by kernel_rfl) rfl (fun K' hK => ?_);go_simp;go_at_call 32;(with_reducible refine (RvC.run HCB.o _ ST1.o.below).mono ?_);rintro y w2 ⟨hy,b1⟩;unfold RetW at hy;subst hy;have ST2 := LH9 (ST1.o.up b1);have BZ := LH9 (BZ1.o.below b1);have HP := LH9 (And.intro (And.intro (HQ.o.1.1.up b1) HQ.o.1.2) (And.intro (HQ.o.2.1.up b1) HQ.o.2.2));refine hK _ _ ⟨⟨cu9 e0 b1,cu9 e1 b1⟩,cu9 x3 b1,cu9 u0 b1,cu9 u1 b1,cu9 u2 b1,cu9 u3 b1⟩ ?_;clear hK K' b1 ST1 BZ1 e0 e1 x3 u0 u1 u2 u3 HQ
      try simp only [Act.put,zp1,zp2,zp3,zp4,zp5,zp6]
      obtain ⟨t0,t1,t2,t3⟩ := BZ.o.two;have hm := BZ.o.lt;refine till_last (by kernel_rfl) rfl (by kernel_rfl) (fun K' hK => ?_);go_simp;have HS9 := LH9 (ST2.o.far2 HZ.o (.string (wd B)) (.int .i64 B.N));have HV9 := LH9 (RvV.mk (v := B) HZ.o ((BZ.o.set_ 0 (.string (wd B))).set_ 1 (.int .i64 B.N)));refine hK _ _ ?_;clear hK K'
      try simp only [Act.put,zp1,zp2,zp3,zp4,zp5,zp6]
      refine wpAny_done (by kernel_rfl) ?_ _
      go_wp2_with fail
      go_meet
      case rel => exact ⟨z,rfl,HS9.o,HV9.o,HP.o.1.1.far2 HP.o.1.2 _ _,HP.o.2.1.far2 HP.o.2.2 _ _⟩
   obtain ⟨g1,rfl,ST3,VB,VS1,VA1⟩ := hcut;obtain ⟨W1,rfl⟩ : ∃ W : World,W=wc := ⟨_,rfl⟩;clear ST0 VA VS0 HCA HCB;have st0 : W1.cell? ⟨gs,0,none⟩=some (.string ⟨#[102]⟩) := VS1.o.blk.cell 0;have st1 : W1.cell? ⟨gs,1,none⟩=some (.int .i64 0) := VS1.o.blk.cell 1;have t0 : W1.cell? ⟨g,0,none⟩=some (.string ⟨#[63]⟩) := VA1.o.blk.cell 0;have t1 : W1.cell? ⟨g,1,none⟩=some (.int .i64 0) := VA1.o.blk.cell 1;rcases HTB.o with rfl | rfl | ⟨t',rfl⟩
   · obtain rfl : R=.unk := by rw [HR1.o]; simp
     have xt0 : W1.cell? ⟨g1,0,none⟩=some (.string ⟨#[63]⟩) := VB.o.blk.cell 0;have xt1 : W1.cell? ⟨g1,1,none⟩=some (.int .i64 0) := VB.o.blk.cell 1;obtain ⟨q0,q1,q2,q3⟩ := ST3.o.res.two;have hm := ST3.o.lt;have HFN : Hid (Below w.heap.size w ((W1.setCell ⟨w.heap.size + 1 + 1,0,none⟩ (.string ⟨#[63]⟩)).setCell ⟨w.heap.size + 1 + 1,1,none⟩ (.int .i64 0))∧Mem.Blk ((W1.setCell ⟨w.heap.size + 1 + 1,0,none⟩ (.string ⟨#[63]⟩)).setCell ⟨w.heap.size + 1 + 1,1,none⟩ (.int .i64 0)) (w.heap.size + 1 + 1) 97 #[.string ⟨#[63]⟩,.int .i64 0]) := ⟨(ST3.o.below.setCell (by show w.heap.size≤w.heap.size + 1 + 1; omega) _).setCell (by show w.heap.size≤w.heap.size + 1 + 1; omega) _,(ST3.o.res.set_ 0 _).set_ 1 _⟩
     go_wp2_with fail
     generalize (W1.setCell ⟨w.heap.size + 1 + 1,0,none⟩ (.string ⟨#[63]⟩)).setCell ⟨w.heap.size + 1 + 1,1,none⟩ (.int .i64 0)=W9 at *;obtain ⟨r0,r1,-,-⟩ := HFN.o.2.two;refine bodyPost_ret (v := .agg #[.string ⟨#[63]⟩,.int .i64 0]) (by simp [results,Tryz.results32,go_sem,r0,r1]) rfl ⟨rfl,HFN.o.1⟩
   · obtain rfl : R=.brk := by rw [HR1.o]; simp
     have xt0 : W1.cell? ⟨g1,0,none⟩=some (.string ⟨#[33]⟩) := VB.o.blk.cell 0;have xt1 : W1.cell? ⟨g1,1,none⟩=some (.int .i64 0) := VB.o.blk.cell 1;obtain ⟨q0,q1,q2,q3⟩ := ST3.o.res.two;have hm := ST3.o.lt;have HFN : Hid (Below w.heap.size w ((W1.setCell ⟨w.heap.size + 1 + 1,0,none⟩ (.string ⟨#[33]⟩)).setCell ⟨w.heap.size + 1 + 1,1,none⟩ (.int .i64 0))∧Mem.Blk ((W1.setCell ⟨w.heap.size + 1 + 1,0,none⟩ (.string ⟨#[33]⟩)).setCell ⟨w.heap.size + 1 + 1,1,none⟩ (.int .i64 0)) (w.heap.size + 1 + 1) 97 #[.string ⟨#[33]⟩,.int .i64 0]) := ⟨(ST3.o.below.setCell (by show w.heap.size≤w.heap.size + 1 + 1; omega) _).setCell (by show w.heap.size≤w.heap.size + 1 + 1; omega) _,(ST3.o.res.set_ 0 _).set_ 1 _⟩
     go_wp2_with fail
     generalize (W1.setCell ⟨w.heap.size + 1 + 1,0,none⟩ (.string ⟨#[33]⟩)).setCell ⟨w.heap.size + 1 + 1,1,none⟩ (.int .i64 0)=W9 at *;obtain ⟨r0,r1,-,-⟩ := HFN.o.2.two;refine bodyPost_ret (v := .agg #[.string ⟨#[33]⟩,.int .i64 0]) (by simp [results,Tryz.results32,go_sem,r0,r1]) rfl ⟨rfl,HFN.o.1⟩
   · by_cases ht : t'=false
     · subst ht;obtain rfl : R=.tru false := by rw [HR1.o]; simp
       have xt0 : W1.cell? ⟨g1,0,none⟩=some (.string ⟨#[102]⟩) := VB.o.blk.cell 0;have xt1 : W1.cell? ⟨g1,1,none⟩=some (.int .i64 0) := VB.o.blk.cell 1;obtain ⟨q0,q1,q2,q3⟩ := ST3.o.res.two;have hm := ST3.o.lt;have HFN : Hid (Below w.heap.size w ((W1.setCell ⟨w.heap.size + 1 + 1,0,none⟩ (.string ⟨#[102]⟩)).setCell ⟨w.heap.size + 1 + 1,1,none⟩ (.int .i64 0))∧Mem.Blk ((W1.setCell ⟨w.heap.size + 1 + 1,0,none⟩ (.string ⟨#[102]⟩)).setCell ⟨w.heap.size + 1 + 1,1,none⟩ (.int .i64 0)) (w.heap.size + 1 + 1) 97 #[.string ⟨#[102]⟩,.int .i64 0]) := ⟨(ST3.o.below.setCell (by show w.heap.size≤w.heap.size + 1 + 1; omega) _).setCell (by show w.heap.size≤w.heap.size + 1 + 1; omega) _,(ST3.o.res.set_ 0 _).set_ 1 _⟩
       go_wp2_with fail
       generalize (W1.setCell ⟨w.heap.size + 1 + 1,0,none⟩ (.string ⟨#[102]⟩)).setCell ⟨w.heap.size + 1 + 1,1,none⟩ (.int .i64 0)=W9 at *;obtain ⟨r0,r1,-,-⟩ := HFN.o.2.two;refine bodyPost_ret (v := .agg #[.string ⟨#[102]⟩,.int .i64 0]) (by simp [results,Tryz.results32,go_sem,r0,r1]) rfl ⟨rfl,HFN.o.1⟩
     · obtain rfl : t'=true := by cases t' <;> simp_all
       obtain rfl : R=.unk := by rw [HR1.o]; simp
       have xt0 : W1.cell? ⟨g1,0,none⟩=some (.string ⟨#[116]⟩) := VB.o.blk.cell 0;have xt1 : W1.cell? ⟨g1,1,none⟩=some (.int .i64 0) := VB.o.blk.cell 1;obtain ⟨q0,q1,q2,q3⟩ := ST3.o.res.two;have hm := ST3.o.lt;have HFN : Hid (Below w.heap.size w ((W1.setCell ⟨w.heap.size + 1 + 1,0,none⟩ (.string ⟨#[63]⟩)).setCell ⟨w.heap.size + 1 + 1,1,none⟩ (.int .i64 0))∧Mem.Blk ((W1.setCell ⟨w.heap.size + 1 + 1,0,none⟩ (.string ⟨#[63]⟩)).setCell ⟨w.heap.size + 1 + 1,1,none⟩ (.int .i64 0)) (w.heap.size + 1 + 1) 97 #[.string ⟨#[63]⟩,.int .i64 0]) := ⟨(ST3.o.below.setCell (by show w.heap.size≤w.heap.size + 1 + 1; omega) _).setCell (by show w.heap.size≤w.heap.size + 1 + 1; omega) _,(ST3.o.res.set_ 0 _).set_ 1 _⟩
       go_wp2_with fail
       generalize (W1.setCell ⟨w.heap.size + 1 + 1,0,none⟩ (.string ⟨#[63]⟩)).setCell ⟨w.heap.size + 1 + 1,1,none⟩ (.int .i64 0)=W9 at *;obtain ⟨r0,r1,-,-⟩ := HFN.o.2.two;refine bodyPost_ret (v := .agg #[.string ⟨#[63]⟩,.int .i64 0]) (by simp [results,Tryz.results32,go_sem,r0,r1]) rfl ⟨rfl,HFN.o.1⟩
 · obtain rfl : R=.brk := by rw [HR.o]; simp
   have t0 : W0.cell? ⟨g,0,none⟩=some (.string ⟨#[33]⟩) := VA.o.blk.cell 0;have t1 : W0.cell? ⟨g,1,none⟩=some (.int .i64 0) := VA.o.blk.cell 1;obtain ⟨q0,q1,q2,q3⟩ := ST0.o.res.two;have hm := ST0.o.lt;have HFN : Hid (Below w.heap.size w ((W0.setCell ⟨w.heap.size + 1 + 1,0,none⟩ (.string ⟨#[33]⟩)).setCell ⟨w.heap.size + 1 + 1,1,none⟩ (.int .i64 0))∧Mem.Blk ((W0.setCell ⟨w.heap.size + 1 + 1,0,none⟩ (.string ⟨#[33]⟩)).setCell ⟨w.heap.size + 1 + 1,1,none⟩ (.int .i64 0)) (w.heap.size + 1 + 1) 97 #[.string ⟨#[33]⟩,.int .i64 0]) := ⟨(ST0.o.below.setCell (by show w.heap.size≤w.heap.size + 1 + 1; omega) _).setCell (by show w.heap.size≤w.heap.size + 1 + 1; omega) _,(ST0.o.res.set_ 0 _).set_ 1 _⟩
   go_wp2_with fail
   generalize (W0.setCell ⟨w.heap.size + 1 + 1,0,none⟩ (.string ⟨#[33]⟩)).setCell ⟨w.heap.size + 1 + 1,1,none⟩ (.int .i64 0)=W9 at *;obtain ⟨r0,r1,-,-⟩ := HFN.o.2.two;refine bodyPost_ret (v := .agg #[.string ⟨#[33]⟩,.int .i64 0]) (by simp [results,Tryz.results32,go_sem,r0,r1]) rfl ⟨rfl,HFN.o.1⟩
 · by_cases ht : t=false
   · subst ht;obtain rfl : R=.tru false := by rw [HR.o]; simp
     have t0 : W0.cell? ⟨g,0,none⟩=some (.string ⟨#[102]⟩) := VA.o.blk.cell 0;have t1 : W0.cell? ⟨g,1,none⟩=some (.int .i64 0) := VA.o.blk.cell 1;obtain ⟨q0,q1,q2,q3⟩ := ST0.o.res.two;have hm := ST0.o.lt;have HFN : Hid (Below w.heap.size w ((W0.setCell ⟨w.heap.size + 1 + 1,0,none⟩ (.string ⟨#[102]⟩)).setCell ⟨w.heap.size + 1 + 1,1,none⟩ (.int .i64 0))∧Mem.Blk ((W0.setCell ⟨w.heap.size + 1 + 1,0,none⟩ (.string ⟨#[102]⟩)).setCell ⟨w.heap.size + 1 + 1,1,none⟩ (.int .i64 0)) (w.heap.size + 1 + 1) 97 #[.string ⟨#[102]⟩,.int .i64 0]) := ⟨(ST0.o.below.setCell (by show w.heap.size≤w.heap.size + 1 + 1; omega) _).setCell (by show w.heap.size≤w.heap.size + 1 + 1; omega) _,(ST0.o.res.set_ 0 _).set_ 1 _⟩
     go_wp2_with fail
     generalize (W0.setCell ⟨w.heap.size + 1 + 1,0,none⟩ (.string ⟨#[102]⟩)).setCell ⟨w.heap.size + 1 + 1,1,none⟩ (.int .i64 0)=W9 at *;obtain ⟨r0,r1,-,-⟩ := HFN.o.2.two;refine bodyPost_ret (v := .agg #[.string ⟨#[102]⟩,.int .i64 0]) (by simp [results,Tryz.results32,go_sem,r0,r1]) rfl ⟨rfl,HFN.o.1⟩
   · obtain rfl : t=true := by cases t <;> simp_all
     obtain rfl : R=B := by rw [HR.o]; simp
     clear HR;have t0 : W0.cell? ⟨g,0,none⟩=some (.string ⟨#[116]⟩) := VA.o.blk.cell 0;have t1 : W0.cell? ⟨g,1,none⟩=some (.int .i64 0) := VA.o.blk.cell 1
     go_wp2_with fail
     clear t0 t1 st0 st1
     go_cut [7] (fun p W1 => ∃ g1,p=.pointer (some ⟨g1,0,none⟩)∧Hid (RvSt w W1 day a len cap 17 n nm (some ⟨b,o,none⟩) 2 cap')∧Hid (RvV w W1 g1 R)∧Hid (RvV w W1 gs (.tru false))∧Hid (RvV w W1 g (.tru true)))
     case first =>
      have e0 : W0.cell? ⟨w.heap.size + 1,0,none⟩=some (.int .i64 day) := ST0.o.env.cell 0;have e1 : W0.cell? ⟨w.heap.size + 1,1,none⟩=some (.slice a len cap) := ST0.o.env.cell 1;have x3 : W0.cell? ⟨w.heap.size,3,none⟩=some (.slice (some ⟨b,o,none⟩) 2 cap') := ST0.o.ex.cell 3;obtain ⟨u0,u1,u2,u3⟩ := H1.o;replace u0 := cu9 u0 ST0.o.below;replace u1 := cu9 u1 ST0.o.below;replace u2 := cu9 u2 ST0.o.below;replace u3 := cu9 u3 ST0.o.below;refine wp_region_till (S := fun W => (W.cell? ⟨w.heap.size + 1,0,none⟩=some (.int .i64 day)∧W.cell? ⟨w.heap.size + 1,1,none⟩=some (.slice a len cap))∧W.cell? ⟨w.heap.size,3,none⟩=some (.slice (some ⟨b,o,none⟩) 2 cap')∧W.cell? ⟨b,o + 4,none⟩=some (.int .i64 o1)∧W.cell? ⟨b,o + 4 + 1,none⟩=some (.int .i64 n1)∧W.cell? ⟨b,o + 4 + 2,none⟩=some (.string m1)∧W.cell? ⟨b,o + 4 + 3,none⟩=some (.slice a1 l1 p1)) 7 (by kernel_rfl) ?_;refine tk 0 ⟨⟨e0,e1⟩,x3,u0,u1,u2,u3⟩ ?_;refine tk 1 ⟨⟨e0,e1⟩,x3,u0,u1,u2,u3⟩ ?_;refine tk 2 ⟨⟨e0,e1⟩,x3,u0,u1,u2,u3⟩ ?_;refine tk 3 ⟨⟨e0,e1⟩,x3,u0,u1,u2,u3⟩ ?_;refine tk 4 ⟨⟨e0,e1⟩,x3,u0,u1,u2,u3⟩ ?_;refine till_two (i := 5) (j := 6) (by kernel_rfl) rfl rfl (fun K' hK => ?_) (fun K' hK => ?_)
      · go_simp;go_at_call 32;(with_reducible refine (RvC.run HCB.o _ ST0.o.below.drew).mono ?_);rintro y w1 ⟨hy,b1⟩;unfold RetW at hy;subst hy;have hd := (Below.refl W0.heap.size W0).drew;have ST1 := LH9 ((ST0.o.up hd).up b1);have bt := hd.trans (b1.mono hd.size);have GG := LH9 (And.intro ((VS0.o.up hd).up b1) ((VA.o.up hd).up b1));replace e0 := cu9 e0 bt;replace e1 := cu9 e1 bt;replace x3 := cu9 x3 bt;replace u0 := cu9 u0 bt;replace u1 := cu9 u1 bt;replace u2 := cu9 u2 bt;replace u3 := cu9 u3 bt;refine hK _ _ ⟨⟨e0,e1⟩,x3,u0,u1,u2,u3⟩ ?_;clear hK K' b1 hd bt
        try simp only [Act.put,zp1,zp2,zp3,zp4,zp5,zp6]
        refine till_one (i := 6) (by kernel_rfl) rfl (fun K' hK => ?_);go_simp;have bn := (Below.refl w1.heap.size w1).alloc (Nat.le_refl _) (.cells #[.string ⟨#[]⟩,.int .i64 0] 97);have ST2 := LH9 (ST1.o.up bn);have BZ := LH9 (Mem.Blk.new w1 97 #[.string ⟨#[]⟩,.int .i64 0]);have HZ := LH9 ST1.o.lt;have HP := LH9 (And.intro (And.intro (GG.o.1.up bn) (Nat.ne_of_lt GG.o.1.blk.lt)) (And.intro (GG.o.2.up bn) (Nat.ne_of_lt GG.o.2.blk.lt)));refine hK _ _ ⟨⟨cu9 e0 bn,cu9 e1 bn⟩,cu9 x3 bn,cu9 u0 bn,cu9 u1 bn,cu9 u2 bn,cu9 u3 bn⟩ ?_;clear hK K' bn ST1 e0 e1 x3 u0 u1 u2 u3 GG;generalize w1.alloc (.cells #[.string ⟨#[]⟩,.int .i64 0] 97)=w2 at *;generalize w1.heap.size=z at *
        try simp only [Act.put,zp1,zp2,zp3,zp4,zp5,zp6]
        obtain ⟨t0,t1,t2,t3⟩ := BZ.o.two;have hm := BZ.o.lt;refine till_last (by kernel_rfl) rfl (by kernel_rfl) (fun K' hK => ?_);go_simp;have HS9 := LH9 (ST2.o.far2 HZ.o (.string (wd R)) (.int .i64 R.N));have HV9 := LH9 (RvV.mk (v := R) HZ.o ((BZ.o.set_ 0 (.string (wd R))).set_ 1 (.int .i64 R.N)));refine hK _ _ ?_;clear hK K'
        try simp only [Act.put,zp1,zp2,zp3,zp4,zp5,zp6]
        refine wpAny_done (by kernel_rfl) ?_ _
        go_wp2_with fail
        go_meet
        case rel => exact ⟨z,rfl,HS9.o,HV9.o,HP.o.1.1.far2 HP.o.1.2 _ _,HP.o.2.1.far2 HP.o.2.2 _ _⟩
      · go_simp;have bn := below_new W0 (.cells #[.string ⟨#[]⟩,.int .i64 0] 97);have ST1 := LH9 (ST0.o.up bn);have BZ1 := LH9 (Mem.Blk.new W0 97 #[.string ⟨#[]⟩,.int .i64 0]).drew;have HZ := LH9 ST0.o.lt;have HQ := LH9 (And.intro (And.intro (VS0.o.up bn) (Nat.ne_of_lt VS0.o.blk.lt)) (And.intro (VA.o.up bn) (Nat.ne_of_lt VA.o.blk.lt)));replace e0 := cu9 e0 bn;replace e1 := cu9 e1 bn;replace x3 := cu9 x3 bn;replace u0 := cu9 u0 bn;replace u1 := cu9 u1 bn;replace u2 := cu9 u2 bn;replace u3 := cu9 u3 bn;refine hK _ _ ⟨⟨e0,e1⟩,x3,u0,u1,u2,u3⟩ ?_;clear hK K' bn;generalize (W0.alloc (.cells #[.string ⟨#[]⟩,.int .i64 0] 97)).drew=w1 at *;generalize W0.heap.size=z at *
        try simp only [Act.put,zp1,zp2,zp3,zp4,zp5,zp6]
        refine till_one (i := 5) (by kernel_rfl) rfl (fun K' hK => ?_);go_simp;go_at_call 32;(with_reducible refine (RvC.run HCB.o _ ST1.o.below).mono ?_);rintro y w2 ⟨hy,b1⟩;unfold RetW at hy;subst hy;have ST2 := LH9 (ST1.o.up b1);have BZ := LH9 (BZ1.o.below b1);have HP := LH9 (And.intro (And.intro (HQ.o.1.1.up b1) HQ.o.1.2) (And.intro (HQ.o.2.1.up b1) HQ.o.2.2));refine hK _ _ ⟨⟨cu9 e0 b1,cu9 e1 b1⟩,cu9 x3 b1,cu9 u0 b1,cu9 u1 b1,cu9 u2 b1,cu9 u3 b1⟩ ?_;clear hK K' b1 ST1 BZ1 e0 e1 x3 u0 u1 u2 u3 HQ
        try simp only [Act.put,zp1,zp2,zp3,zp4,zp5,zp6]
        obtain ⟨t0,t1,t2,t3⟩ := BZ.o.two;have hm := BZ.o.lt;refine till_last (by kernel_rfl) rfl (by kernel_rfl) (fun K' hK => ?_);go_simp;have HS9 := LH9 (ST2.o.far2 HZ.o (.string (wd R)) (.int .i64 R.N));have HV9 := LH9 (RvV.mk (v := R) HZ.o ((BZ.o.set_ 0 (.string (wd R))).set_ 1 (.int .i64 R.N)));refine hK _ _ ?_;clear hK K'
        try simp only [Act.put,zp1,zp2,zp3,zp4,zp5,zp6]
        refine wpAny_done (by kernel_rfl) ?_ _
        go_wp2_with fail
        go_meet
        case rel => exact ⟨z,rfl,HS9.o,HV9.o,HP.o.1.1.far2 HP.o.1.2 _ _,HP.o.2.1.far2 HP.o.2.2 _ _⟩
     obtain ⟨g1,rfl,ST3,VB,VS1,VA1⟩ := hcut;obtain ⟨W1,rfl⟩ : ∃ W : World,W=wc := ⟨_,rfl⟩;clear ST0 VA VS0 HCA HCB;have st0 : W1.cell? ⟨gs,0,none⟩=some (.string ⟨#[102]⟩) := VS1.o.blk.cell 0;have st1 : W1.cell? ⟨gs,1,none⟩=some (.int .i64 0) := VS1.o.blk.cell 1;have t0 : W1.cell? ⟨g,0,none⟩=some (.string ⟨#[116]⟩) := VA1.o.blk.cell 0;have t1 : W1.cell? ⟨g,1,none⟩=some (.int .i64 0) := VA1.o.blk.cell 1;have HP : Hid (RetW R (.returned (.agg #[.string (wd R),.int .i64 R.N]))) := rfl;have xt0 : W1.cell? ⟨g1,0,none⟩=some (.string (wd R)) := VB.o.blk.cell 0;have xt1 : W1.cell? ⟨g1,1,none⟩=some (.int .i64 R.N) := VB.o.blk.cell 1;clear HTB HTA;generalize wd R=rk at *;generalize R.N=rn at *;obtain ⟨q0,q1,q2,q3⟩ := ST3.o.res.two;have hm := ST3.o.lt;have HFN : Hid (Below w.heap.size w ((W1.setCell ⟨w.heap.size + 1 + 1,0,none⟩ (.string rk)).setCell ⟨w.heap.size + 1 + 1,1,none⟩ (.int .i64 rn))∧Mem.Blk ((W1.setCell ⟨w.heap.size + 1 + 1,0,none⟩ (.string rk)).setCell ⟨w.heap.size + 1 + 1,1,none⟩ (.int .i64 rn)) (w.heap.size + 1 + 1) 97 #[.string rk,.int .i64 rn]) := ⟨(ST3.o.below.setCell (by show w.heap.size≤w.heap.size + 1 + 1; omega) _).setCell (by show w.heap.size≤w.heap.size + 1 + 1; omega) _,(ST3.o.res.set_ 0 _).set_ 1 _⟩
     go_wp2_with fail
     generalize (W1.setCell ⟨w.heap.size + 1 + 1,0,none⟩ (.string rk)).setCell ⟨w.heap.size + 1 + 1,1,none⟩ (.int .i64 rn)=W9 at *;obtain ⟨r0,r1,-,-⟩ := HFN.o.2.two;refine bodyPost_ret (v := .agg #[.string rk,.int .i64 rn]) (by simp [results,Tryz.results32,go_sem,r0,r1]) rfl ⟨HP.o,HFN.o.1⟩
end
end Go.Proofs.YtmiinmndbkdjbaaGreat
