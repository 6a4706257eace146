/- A part of the proof: RvB, RvJ, one behind another. -/
import Derived.Test.YtmiinmndbkdjbaaGreatMTA
import Derived.Test.YtmiinmndbkdjbaaGreatMTB
import Derived.Test.YtmiinmndbkdjbaaGreatMTE
import Derived.Test.YtmiinmndbkdjbaaGreatMTK
import Derived.Test.YtmiinmndbkdjbaaGreatMTU
import Derived.Test.YtmiinmndbkdjbaaGreatMTV
import Derived.Lib.Hide
import Derived.WalkKit
set_option maxRecDepth 100000
set_option maxHeartbeats 16000000
set_option linter.unusedVariables false
set_option linter.unusedSimpArgs false
namespace Go.Proofs.YtmiinmndbkdjbaaGreat
open Go.RowKit
section
theorem rv_and18 (w : World) (day : Int) (a : Option Addr) (len cap : Nat) (n : Int) (nm : ByteArray) (b o cap' : Nat) (o0 n0 o1 n1 : Int) (m0 m1 : ByteArray) (a0 a1 : Option Addr) (l0 p0 l1 p1 : Nat) (A B : Vl) (hA : Ty 2 A) (hB : Ty 2 B)
 (h0 : Four w b o (.int .i64 o0) (.int .i64 n0) (.string m0) (.slice a0 l0 p0)) (h1 : Four w b (o + 4) (.int .i64 o1) (.int .i64 n1) (.string m1) (.slice a1 l1 p1))
 (HA : RvC w day a len cap (.int .i64 o0) (.int .i64 n0) (.string m0) (.slice a0 l0 p0) A) (HB : RvC w day a len cap (.int .i64 o1) (.int .i64 n1) (.string m1) (.slice a1 l1 p1) B) :
 Calls Tryz.prog 32 #[.agg #[.int .i64 18,.int .i64 n,.string nm,.slice (some ⟨b,o,none⟩) 2 cap'],.agg #[.int .i64 day,.slice a len cap]] w fun x w' => RetW (bothV (decide ((18 : Int)=18)) A B) x∧Below w.heap.size w w' := by
 have H0 := LH9 h0;have H1 := LH9 h1;have HCA := LH9 HA;have HCB := LH9 HB;have HTA := LH9 hA.of2;have HTB := LH9 hB.of2;have ST := LH9 (RvSt.start w day a len cap 18 n nm (some ⟨b,o,none⟩) 2 cap');clear h0 h1 HA HB hA hB;obtain ⟨R,hR⟩ : ∃ R,R=bothV (decide ((18 : Int)=18)) A B := ⟨_,rfl⟩;rw [← hR];have HR : Hid (R=if A=.brk∨A=.tru true then A else if (∃ t,A=.tru t)∨B=.brk∨B=.tru true then B else .unk) := by
  show R=_;rw [hR,show decide ((18 : Int)=18)=true from rfl]; unfold bothV; congr
 clear hR
 go_enter Tryz.func32,Tryz.ntmps32
 go_upto_region 1 with (fail)
 generalize ((w.alloc (.cells #[.int .i64 18,.int .i64 n,.string nm,.slice (some ⟨b,o,none⟩) 2 cap'] 74)).alloc (.cells #[.int .i64 day,.slice a len cap] 26)).alloc (.cells #[.string ⟨#[]⟩,.int .i64 0] 97)=v at *;have e0 : v.cell? ⟨w.heap.size + 1,0,none⟩=some (.int .i64 day) := ST.o.env.cell 0;have e1 : v.cell? ⟨w.heap.size + 1,1,none⟩=some (.slice a len cap) := ST.o.env.cell 1;obtain ⟨x0,x1,x2,x3,-,-,-,-⟩ := blk4 ST.o.ex
 go_wp2_with fail
 go_at_call 59;(with_reducible refine (rtruth_any true v).mono ?_);rintro y w1 ⟨hy,b1⟩;have hy' : y=.returned (.agg #[.string ⟨#[116]⟩,.int .i64 0]) := hy;subst hy';have ST1 := LH9 (ST.o.up b1);have bn := (Below.refl w1.heap.size w1).alloc (Nat.le_refl _) (.cells #[.string ⟨#[116]⟩,.int .i64 0] 97);have VS := LH9 (RvV.mk (v := .tru true) ST1.o.lt (Mem.Blk.new w1 97 #[.string ⟨#[116]⟩,.int .i64 0]));have ST2 := LH9 (ST1.o.up bn);clear hy b1 bn ST1 ST e0 e1 x0 x1 x2 x3
 go_upto_region 3 with (fail)
 generalize w1.alloc (.cells #[.string ⟨#[116]⟩,.int .i64 0] 97)=v1 at *;generalize w1.heap.size=gs at *
 go_cut [6] (fun p W0 => ∃ g,p=.pointer (some ⟨g,0,none⟩)∧Hid (RvSt w W0 day a len cap 18 n nm (some ⟨b,o,none⟩) 2 cap')∧Hid (RvV w W0 g A)∧Hid (RvV w W0 gs (.tru true)))
 case first =>
  have e0 : v1.cell? ⟨w.heap.size + 1,0,none⟩=some (.int .i64 day) := ST2.o.env.cell 0;have e1 : v1.cell? ⟨w.heap.size + 1,1,none⟩=some (.slice a len cap) := ST2.o.env.cell 1;have x3 : v1.cell? ⟨w.heap.size,3,none⟩=some (.slice (some ⟨b,o,none⟩) 2 cap') := ST2.o.ex.cell 3;obtain ⟨u0,u1,u2,u3⟩ := H0.o;replace u0 := cu9 u0 ST2.o.below;replace u1 := cu9 u1 ST2.o.below;replace u2 := cu9 u2 ST2.o.below;replace u3 := cu9 u3 ST2.o.below;refine wp_region_till (S := fun W => (W.cell? ⟨w.heap.size + 1,0,none⟩=some (.int .i64 day)∧W.cell? ⟨w.heap.size + 1,1,none⟩=some (.slice a len cap))∧W.cell? ⟨w.heap.size,3,none⟩=some (.slice (some ⟨b,o,none⟩) 2 cap')∧W.cell? ⟨b,o,none⟩=some (.int .i64 o0)∧W.cell? ⟨b,o + 1,none⟩=some (.int .i64 n0)∧W.cell? ⟨b,o + 2,none⟩=some (.string m0)∧W.cell? ⟨b,o + 3,none⟩=some (.slice a0 l0 p0)) 7 (by kernel_rfl) ?_;refine tk 0 ⟨⟨e0,e1⟩,x3,u0,u1,u2,u3⟩ ?_;refine tk 1 ⟨⟨e0,e1⟩,x3,u0,u1,u2,u3⟩ ?_;refine tk 2 ⟨⟨e0,e1⟩,x3,u0,u1,u2,u3⟩ ?_;refine tk 3 ⟨⟨e0,e1⟩,x3,u0,u1,u2,u3⟩ ?_;refine tk 4 ⟨⟨e0,e1⟩,x3,u0,u1,u2,u3⟩ ?_;refine till_two (i := 5) (j := 6) (by kernel_rfl) rfl rfl (fun K' hK => ?_) (fun K' hK => ?_)
  · go_simp;go_at_call 32;(with_reducible refine (RvC.run HCA.o _ ST2.o.below.drew).mono ?_);rintro y w1 ⟨hy,b1⟩;unfold RetW at hy;subst hy;have hd := (Below.refl v1.heap.size v1).drew;have ST1 := LH9 ((ST2.o.up hd).up b1);have bt := hd.trans (b1.mono hd.size);have GG := LH9 ((VS.o.up hd).up b1);replace e0 := cu9 e0 bt;replace e1 := cu9 e1 bt;replace x3 := cu9 x3 bt;replace u0 := cu9 u0 bt;replace u1 := cu9 u1 bt;replace u2 := cu9 u2 bt;replace u3 := cu9 u3 bt;refine hK _ _ ⟨⟨e0,e1⟩,x3,u0,u1,u2,u3⟩ ?_;clear hK K' b1 hd bt
    try simp only [Act.put,zp1,zp2,zp3,zp4,zp5,zp6]
    refine till_one (i := 6) (by kernel_rfl) rfl (fun K' hK => ?_);go_simp;have bn := (Below.refl w1.heap.size w1).alloc (Nat.le_refl _) (.cells #[.string ⟨#[]⟩,.int .i64 0] 97);have ST2 := LH9 (ST1.o.up bn);have BZ := LH9 (Mem.Blk.new w1 97 #[.string ⟨#[]⟩,.int .i64 0]);have HZ := LH9 ST1.o.lt;have HP := LH9 (And.intro (GG.o.up bn) (Nat.ne_of_lt GG.o.blk.lt));refine hK _ _ ⟨⟨cu9 e0 bn,cu9 e1 bn⟩,cu9 x3 bn,cu9 u0 bn,cu9 u1 bn,cu9 u2 bn,cu9 u3 bn⟩ ?_;clear hK K' bn ST1 e0 e1 x3 u0 u1 u2 u3 GG;generalize w1.alloc (.cells #[.string ⟨#[]⟩,.int .i64 0] 97)=w2 at *;generalize w1.heap.size=z at *
    try simp only [Act.put,zp1,zp2,zp3,zp4,zp5,zp6]
    obtain ⟨t0,t1,t2,t3⟩ := BZ.o.two;have hm := BZ.o.lt;refine till_last (by kernel_rfl) rfl (by kernel_rfl) (fun K' hK => ?_);go_simp;have HS9 := LH9 (ST2.o.far2 HZ.o (.string (wd A)) (.int .i64 A.N));have HV9 := LH9 (RvV.mk (v := A) HZ.o ((BZ.o.set_ 0 (.string (wd A))).set_ 1 (.int .i64 A.N)));refine hK _ _ ?_;clear hK K'
    try simp only [Act.put,zp1,zp2,zp3,zp4,zp5,zp6]
    refine wpAny_done (by kernel_rfl) ?_ _
    go_wp2_with fail
    go_meet
    case rel => exact ⟨z,rfl,HS9.o,HV9.o,HP.o.1.far2 HP.o.2 _ _⟩
  · go_simp;have bn := below_new v1 (.cells #[.string ⟨#[]⟩,.int .i64 0] 97);have ST1 := LH9 (ST2.o.up bn);have BZ1 := LH9 (Mem.Blk.new v1 97 #[.string ⟨#[]⟩,.int .i64 0]).drew;have HZ := LH9 ST2.o.lt;have HQ := LH9 (And.intro (VS.o.up bn) (Nat.ne_of_lt VS.o.blk.lt));replace e0 := cu9 e0 bn;replace e1 := cu9 e1 bn;replace x3 := cu9 x3 bn;replace u0 := cu9 u0 bn;replace u1 := cu9 u1 bn;replace u2 := cu9 u2 bn;replace u3 := cu9 u3 bn;refine hK _ _ ⟨⟨e0,e1⟩,x3,u0,u1,u2,u3⟩ ?_;clear hK K' bn;generalize (v1.alloc (.cells #[.string ⟨#[]⟩,.int .i64 0] 97)).drew=w1 at *;generalize v1.heap.size=z at *
    try simp only [Act.put,zp1,zp2,zp3,zp4,zp5,zp6]
    refine till_one (i := 5) (by kernel_rfl) rfl (fun K' hK => ?_);go_simp;go_at_call 32;(with_reducible refine (RvC.run HCA.o _ ST1.o.below).mono ?_);rintro y w2 ⟨hy,b1⟩;unfold RetW at hy;subst hy;have ST2 := LH9 (ST1.o.up b1);have BZ := LH9 (BZ1.o.below b1);have HP := LH9 (And.intro (HQ.o.1.up b1) HQ.o.2);refine hK _ _ ⟨⟨cu9 e0 b1,cu9 e1 b1⟩,cu9 x3 b1,cu9 u0 b1,cu9 u1 b1,cu9 u2 b1,cu9 u3 b1⟩ ?_;clear hK K' b1 ST1 BZ1 e0 e1 x3 u0 u1 u2 u3 HQ
    try simp only [Act.put,zp1,zp2,zp3,zp4,zp5,zp6]
    obtain ⟨t0,t1,t2,t3⟩ := BZ.o.two;have hm := BZ.o.lt;refine till_last (by kernel_rfl) rfl (by kernel_rfl) (fun K' hK => ?_);go_simp;have HS9 := LH9 (ST2.o.far2 HZ.o (.string (wd A)) (.int .i64 A.N));have HV9 := LH9 (RvV.mk (v := A) HZ.o ((BZ.o.set_ 0 (.string (wd A))).set_ 1 (.int .i64 A.N)));refine hK _ _ ?_;clear hK K'
    try simp only [Act.put,zp1,zp2,zp3,zp4,zp5,zp6]
    refine wpAny_done (by kernel_rfl) ?_ _
    go_wp2_with fail
    go_meet
    case rel => exact ⟨z,rfl,HS9.o,HV9.o,HP.o.1.far2 HP.o.2 _ _⟩
 obtain ⟨g,rfl,ST0,VA,VS0⟩ := hcut;obtain ⟨W0,rfl⟩ : ∃ W : World,W=wc := ⟨_,rfl⟩;clear ST2 VS;have st0 : W0.cell? ⟨gs,0,none⟩=some (.string ⟨#[116]⟩) := VS0.o.blk.cell 0;have st1 : W0.cell? ⟨gs,1,none⟩=some (.int .i64 0) := VS0.o.blk.cell 1;rcases HTA.o with rfl | rfl | ⟨t,rfl⟩
 · have HR1 : Hid (R=if B=.brk∨B=.tru true then B else .unk) := by rw [HR.o]; simp [Hid]
   clear HR;have t0 : W0.cell? ⟨g,0,none⟩=some (.string ⟨#[63]⟩) := VA.o.blk.cell 0;have t1 : W0.cell? ⟨g,1,none⟩=some (.int .i64 0) := VA.o.blk.cell 1
   go_wp2_with fail
   clear t0 t1 st0 st1
   go_cut [7] (fun p W1 => ∃ g1,p=.pointer (some ⟨g1,0,none⟩)∧Hid (RvSt w W1 day a len cap 18 n nm (some ⟨b,o,none⟩) 2 cap')∧Hid (RvV w W1 g1 B)∧Hid (RvV w W1 gs (.tru true))∧Hid (RvV w W1 g .unk))
   case first =>
    have e0 : W0.cell? ⟨w.heap.size + 1,0,none⟩=some (.int .i64 day) := ST0.o.env.cell 0;have e1 : W0.cell? ⟨w.heap.size + 1,1,none⟩=some (.slice a len cap) := ST0.o.env.cell 1;have x3 : W0.cell? ⟨w.heap.size,3,none⟩=some (.slice (some ⟨b,o,none⟩) 2 cap') := ST0.o.ex.cell 3;obtain ⟨u0,u1,u2,u3⟩ := H1.o;replace u0 := cu9 u0 ST0.o.below;replace u1 := cu9 u1 ST0.o.below;replace u2 := cu9 u2 ST0.o.below;replace u3 := cu9 u3 ST0.o.below;refine wp_region_till (S := fun W => (W.cell? ⟨w.heap.size + 1,0,none⟩=some (.int .i64 day)∧W.cell? ⟨w.heap.size + 1,1,none⟩=some (.slice a len cap))∧W.cell? ⟨w.heap.size,3,none⟩=some (.slice (some ⟨b,o,none⟩) 2 cap')∧W.cell? ⟨b,o + 4,none⟩=some (.int .i64 o1)∧W.cell? ⟨b,o + 4 + 1,none⟩=some (.int .i64 n1)∧W.cell? ⟨b,o + 4 + 2,none⟩=some (.string m1)∧W.cell? ⟨b,o + 4 + 3,none⟩=some (.slice a1 l1 p1)) 7 (by kernel_rfl) ?_;refine tk 0 ⟨⟨e0,e1⟩,x3,u0,u1,u2,u3⟩ ?_;refine tk 1 ⟨⟨e0,e1⟩,x3,u0,u1,u2,u3⟩ ?_;refine tk 2 ⟨⟨e0,e1⟩,x3,u0,u1,u2,u3⟩ ?_;refine tk 3 ⟨⟨e0,e1⟩,x3,u0,u1,u2,u3⟩ ?_;refine tk 4 ⟨⟨e0,e1⟩,x3,u0,u1,u2,u3⟩ ?_;refine till_two (i := 5) (j := 6) (by kernel_rfl) rfl rfl (fun K' hK => ?_) (fun K' hK => ?_)
    · go_simp;go_at_call 32;(with_reducible refine (RvC.run HCB.o _ ST0.o.below.drew).mono ?_);rintro y w1 ⟨hy,b1⟩;unfold RetW at hy;subst hy;have hd := (Below.refl W0.heap.size W0).drew;have ST1 := LH9 ((ST0.o.up hd).up b1);have bt := hd.trans (b1.mono hd.size);have GG := LH9 (And.intro ((VS0.o.up hd).up b1) ((VA.o.up hd).up b1));replace e0 := cu9 e0 bt;replace e1 := cu9 e1 bt;replace x3 := cu9 x3 bt;replace u0 := cu9 u0 bt;replace u1 := cu9 u1 bt;replace u2 := cu9 u2 bt;replace u3 := cu9 u3 bt;refine hK _ _ ⟨⟨e0,e1⟩,x3,u0,u1,u2,u3⟩ ?_;clear hK K' b1 hd bt
      try simp only [Act.put,zp1,zp2,zp3,zp4,zp5,zp6]
      refine till_one (i := 6) (by kernel_rfl) rfl (fun K' hK => ?_);go_simp;have bn := (Below.refl w1.heap.size w1).alloc (Nat.le_refl _) (.cells #[.string ⟨#[]⟩,.int .i64 0] 97);have ST2 := LH9 (ST1.o.up bn);have BZ := LH9 (Mem.Blk.new w1 97 #[.string ⟨#[]⟩,.int .i64 0]);have HZ := LH9 ST1.o.lt;have HP := LH9 (And.intro (And.intro (GG.o.1.up bn) (Nat.ne_of_lt GG.o.1.blk.lt)) (And.intro (GG.o.2.up bn) (Nat.ne_of_lt GG.o.2.blk.lt)));refine hK _ _ ⟨⟨cu9 e0 bn,cu9 e1 bn⟩,cu9 x3 bn,cu9 u0 bn,cu9 u1 bn,cu9 u2 bn,cu9 u3 bn⟩ ?_;clear hK K' bn ST1 e0 e1 x3 u0 u1 u2 u3 GG;generalize w1.alloc (.cells #[.string ⟨#[]⟩,.int .i64 0] 97)=w2 at *;generalize w1.heap.size=z at *
      try simp only [Act.put,zp1,zp2,zp3,zp4,zp5,zp6]
      obtain ⟨t0,t1,t2,t3⟩ := BZ.o.two;have hm := BZ.o.lt;refine till_last (by kernel_rfl) rfl (by kernel_rfl) (fun K' hK => ?_);go_simp;have HS9 := LH9 (ST2.o.far2 HZ.o (.string (wd B)) (.int .i64 B.N));have HV9 := LH9 (RvV.mk (v := B) HZ.o ((BZ.o.set_ 0 (.string (wd B))).set_ 1 (.int .i64 B.N)));refine hK _ _ ?_;clear hK K'
      try simp only [Act.put,zp1,zp2,zp3,zp4,zp5,zp6]
      refine wpAny_done (by kernel_rfl) ?_ _
      go_wp2_with fail
      go_meet
      case rel => exact ⟨z,rfl,HS9.o,HV9.o,HP.o.1.1.far2 HP.o.1.2 _ _,HP.o.2.1.far2 HP.o.2.2 _ _⟩
    · go_simp;have bn := below_new W0 (.cells #[.string ⟨#[]⟩,.int .i64 0] 97);have ST1 := LH9 (ST0.o.up bn);have BZ1 := LH9 (Mem.Blk.new W0 97 #[.string ⟨#[]⟩,.int .i64 0]).drew;have HZ := LH9 ST0.o.lt;have HQ := LH9 (And.intro (And.intro (VS0.o.up bn) (Nat.ne_of_lt VS0.o.blk.lt)) (And.intro (VA.o.up bn) (Nat.ne_of_lt VA.o.blk.lt)));replace e0 := cu9 e0 bn;replace e1 := cu9 e1 bn;replace x3 := cu9 x3 bn;replace u0 := cu9 u0 bn;replace u1 := cu9 u1 bn;replace u2 := cu9 u2 bn;replace u3 := cu9 u3 bn;refine hK _ _ ⟨⟨e0,e1⟩,x3,u0,u1,u2,u3⟩ ?_;clear hK K' bn;generalize (W0.alloc (.cells #[.string ⟨#[]⟩,.int .i64 0] 97)).drew=w1 at *;generalize W0.heap.size=z at *
      try simp only [Act.put,zp1,zp2,zp3,zp4,zp5,zp6]
      refine till_one (i := 5) (by kernel_rfl) rfl (fun K' hK => ?_);go_simp;go_at_call 32;(with_reducible refine (RvC.run HCB.o _ ST1.o.below).mono ?_);rintro y w2 ⟨hy,b1⟩;unfold RetW at hy;subst hy;have ST2 := LH9 (ST1.o.up b1);have BZ := LH9 (BZ1.o.below b1);have HP := LH9 (And.intro (And.intro (HQ.o.1.1.up b1) HQ.o.1.2) (And.intro (HQ.o.2.1.up b1) HQ.o.2.2));refine hK _ _ ⟨⟨cu9 e0 b1,cu9 e1 b1⟩,cu9 x3 b1,cu9 u0 b1,cu9 u1 b1,cu9 u2 b1,cu9 u3 b1⟩ ?_;clear hK K' b1 ST1 BZ1 e0 e1 x3 u0 u1 u2 u3 HQ
      try simp only [Act.put,zp1,zp2,zp3,zp4,zp5,zp6]
      obtain ⟨t0,t1,t2,t3⟩ := BZ.o.two;have hm := BZ.o.lt;refine till_last (by kernel_rfl) rfl (by kernel_rfl) (fun K' hK => ?_);go_simp;have HS9 := LH9 (ST2.o.far2 HZ.o (.string (wd B)) (.int .i64 B.N));have HV9 := LH9 (RvV.mk (v := B) HZ.o ((BZ.o.set_ 0 (.string (wd B))).set_ 1 (.int .i64 B.N)));refine hK _ _ ?_;clear hK K'
      try simp only [Act.put,zp1,zp2,zp3,zp4,zp5,zp6]
      refine wpAny_done (by kernel_rfl) ?_ _
      go_wp2_with fail
      go_meet
      case rel => exact ⟨z,rfl,HS9.o,HV9.o,HP.o.1.1.far2 HP.o.1.2 _ _,HP.o.2.1.far2 HP.o.2.2 _ _⟩
   obtain ⟨g1,rfl,ST3,VB,VS1,VA1⟩ := hcut;obtain ⟨W1,rfl⟩ : ∃ W : World,W=wc := ⟨_,rfl⟩;clear ST0 VA VS0 HCA HCB;have st0 : W1.cell? ⟨gs,0,none⟩=some (.string ⟨#[116]⟩) := VS1.o.blk.cell 0;have st1 : W1.cell? ⟨gs,1,none⟩=some (.int .i64 0) := VS1.o.blk.cell 1;have t0 : W1.cell? ⟨g,0,none⟩=some (.string ⟨#[63]⟩) := VA1.o.blk.cell 0;have t1 : W1.cell? ⟨g,1,none⟩=some (.int .i64 0) := VA1.o.blk.cell 1;rcases HTB.o with rfl | rfl | ⟨t',rfl⟩
   · obtain rfl : R=.unk := by rw [HR1.o]; simp
     have xt0 : W1.cell? ⟨g1,0,none⟩=some (.string ⟨#[63]⟩) := VB.o.blk.cell 0;have xt1 : W1.cell? ⟨g1,1,none⟩=some (.int .i64 0) := VB.o.blk.cell 1;obtain ⟨q0,q1,q2,q3⟩ := ST3.o.res.two;have hm := ST3.o.lt;have HFN : Hid (Below w.heap.size w ((W1.setCell ⟨w.heap.size + 1 + 1,0,none⟩ (.string ⟨#[63]⟩)).setCell ⟨w.heap.size + 1 + 1,1,none⟩ (.int .i64 0))∧Mem.Blk ((W1.setCell ⟨w.heap.size + 1 + 1,0,none⟩ (.string ⟨#[63]⟩)).setCell ⟨w.heap.size + 1 + 1,1,none⟩ (.int .i64 0)) (w.heap.size + 1 + 1) 97 #[.string ⟨#[63]⟩,.int .i64 0]) := ⟨(ST3.o.below.setCell (by show w.heap.size≤w.heap.size + 1 + 1; omega) _).setCell (by show w.heap.size≤w.heap.size + 1 + 1; omega) _,(ST3.o.res.set_ 0 _).set_ 1 _⟩
     go_wp2_with fail
     generalize (W1.setCell ⟨w.heap.size + 1 + 1,0,none⟩ (.string ⟨#[63]⟩)).setCell ⟨w.heap.size + 1 + 1,1,none⟩ (.int .i64 0)=W9 at *;obtain ⟨r0,r1,-,-⟩ := HFN.o.2.two;refine bodyPost_ret (v := .agg #[.string ⟨#[63]⟩,.int .i64 0]) (by simp [results,Tryz.results32,go_sem,r0,r1]) rfl ⟨rfl,HFN.o.1⟩
   · obtain rfl : R=.brk := by rw [HR1.o]; simp
     have xt0 : W1.cell? ⟨g1,0,none⟩=some (.string ⟨#[33]⟩) := VB.o.blk.cell 0;have xt1 : W1.cell? ⟨g1,1,none⟩=some (.int .i64 0) := VB.o.blk.cell 1;obtain ⟨q0,q1,q2,q3⟩ := ST3.o.res.two;have hm := ST3.o.lt;have HFN : Hid (Below w.heap.size w ((W1.setCell ⟨w.heap.size + 1 + 1,0,none⟩ (.string ⟨#[33]⟩)).setCell ⟨w.heap.size + 1 + 1,1,none⟩ (.int .i64 0))∧Mem.Blk ((W1.setCell ⟨w.heap.size + 1 + 1,0,none⟩ (.string ⟨#[33]⟩)).setCell ⟨w.heap.size + 1 + 1,1,none⟩ (.int .i64 0)) (w.heap.size + 1 + 1) 97 #[.string ⟨#[33]⟩,.int .i64 0]) := ⟨(ST3.o.below.setCell (by show w.heap.size≤w.heap.size + 1 + 1; omega) _).setCell (by show w.heap.size≤w.heap.size + 1 + 1; omega) _,(ST3.o.res.set_ 0 _).set_ 1 _⟩
     go_wp2_with fail
     generalize (W1.setCell ⟨w.heap.size + 1 + 1,0,none⟩ (.string ⟨#[33]⟩)).setCell ⟨w.heap.size + 1 + 1,1,none⟩ (.int .i64 0)=W9 at *;obtain ⟨r0,r1,-,-⟩ := HFN.o.2.two;refine bodyPost_ret (v := .agg #[.string ⟨#[33]⟩,.int .i64 0]) (by simp [results,Tryz.results32,go_sem,r0,r1]) rfl ⟨rfl,HFN.o.1⟩
   · by_cases ht : t'=true
     · subst ht;obtain rfl : R=.tru true := by rw [HR1.o]; simp
       have xt0 : W1.cell? ⟨g1,0,none⟩=some (.string ⟨#[116]⟩) := VB.o.blk.cell 0;have xt1 : W1.cell? ⟨g1,1,none⟩=some (.int .i64 0) := VB.o.blk.cell 1;obtain ⟨q0,q1,q2,q3⟩ := ST3.o.res.two;have hm := ST3.o.lt;have HFN : Hid (Below w.heap.size w ((W1.setCell ⟨w.heap.size + 1 + 1,0,none⟩ (.string ⟨#[116]⟩)).setCell ⟨w.heap.size + 1 + 1,1,none⟩ (.int .i64 0))∧Mem.Blk ((W1.setCell ⟨w.heap.size + 1 + 1,0,none⟩ (.string ⟨#[116]⟩)).setCell ⟨w.heap.size + 1 + 1,1,none⟩ (.int .i64 0)) (w.heap.size + 1 + 1) 97 #[.string ⟨#[116]⟩,.int .i64 0]) := ⟨(ST3.o.below.setCell (by show w.heap.size≤w.heap.size + 1 + 1; omega) _).setCell (by show w.heap.size≤w.heap.size + 1 + 1; omega) _,(ST3.o.res.set_ 0 _).set_ 1 _⟩
       go_wp2_with fail
       generalize (W1.setCell ⟨w.heap.size + 1 + 1,0,none⟩ (.string ⟨#[116]⟩)).setCell ⟨w.heap.size + 1 + 1,1,none⟩ (.int .i64 0)=W9 at *;obtain ⟨r0,r1,-,-⟩ := HFN.o.2.two;refine bodyPost_ret (v := .agg #[.string ⟨#[116]⟩,.int .i64 0]) (by simp [results,Tryz.results32,go_sem,r0,r1]) rfl ⟨rfl,HFN.o.1⟩
     · obtain rfl : t'=false := by cases t' <;> simp_all
       obtain rfl : R=.unk := by rw [HR1.o]; simp
       have xt0 : W1.cell? ⟨g1,0,none⟩=some (.string ⟨#[102]⟩) := VB.o.blk.cell 0;have xt1 : W1.cell? ⟨g1,1,none⟩=some (.int .i64 0) := VB.o.blk.cell 1;obtain ⟨q0,q1,q2,q3⟩ := ST3.o.res.two;have hm := ST3.o.lt;have HFN : Hid (Below w.heap.size w ((W1.setCell ⟨w.heap.size + 1 + 1,0,none⟩ (.string ⟨#[63]⟩)).setCell ⟨w.heap.size + 1 + 1,1,none⟩ (.int .i64 0))∧Mem.Blk ((W1.setCell ⟨w.heap.size + 1 + 1,0,none⟩ (.string ⟨#[63]⟩)).setCell ⟨w.heap.size + 1 + 1,1,none⟩ (.int .i64 0)) (w.heap.size + 1 + 1) 97 #[.string ⟨#[63]⟩,.int .i64 0]) := ⟨(ST3.o.below.setCell (by show w.heap.size≤w.heap.size + 1 + 1; omega) _).setCell (by show w.heap.size≤w.heap.size + 1 + 1; omega) _,(ST3.o.res.set_ 0 _).set_ 1 _⟩
       go_wp2_with fail
       generalize (W1.setCell ⟨w.heap.size + 1 + 1,0,none⟩ (.string ⟨#[63]⟩)).setCell ⟨w.heap.size + 1 + 1,1,none⟩ (.int .i64 0)=W9 at *;obtain ⟨r0,r1,-,-⟩ := HFN.o.2.two;refine bodyPost_ret (v := .agg #[.string ⟨#[63]⟩,.int .i64 0]) (by simp [results,Tryz.results32,go_sem,r0,r1]) rfl ⟨rfl,HFN.o.1⟩
 · obtain rfl : R=.brk := by rw [HR.o]; simp
   have t0 : W0.cell? ⟨g,0,none⟩=some (.string ⟨#[33]⟩) := VA.o.blk.cell 0;have t1 : W0.cell? ⟨g,1,none⟩=some (.int .i64 0) := VA.o.blk.cell 1;obtain ⟨q0,q1,q2,q3⟩ := ST0.o.res.two;have hm := ST0.o.lt;have HFN : Hid (Below w.heap.size w ((W0.setCell ⟨w.heap.size + 1 + 1,0,none⟩ (.string ⟨#[33]⟩)).setCell ⟨w.heap.size + 1 + 1,1,none⟩ (.int .i64 0))∧Mem.Blk ((W0.setCell ⟨w.heap.size + 1 + 1,0,none⟩ (.string ⟨#[33]⟩)).setCell ⟨w.heap.size + 1 + 1,1,none⟩ (.int .i64 0)) (w.heap.size + 1 + 1) 97 #[.string ⟨#[33]⟩,.int .i64 0]) := ⟨(ST0.o.below.setCell (by show w.heap.size≤w.heap.size + 1 + 1; omega) _).setCell (by show w.heap.size≤w.heap.size + 1 + 1; omega) _,(ST0.o.res.set_ 0 _).set_ 1 _⟩
   go_wp2_with fail
   generalize (W0.setCell ⟨w.heap.size + 1 + 1,0,none⟩ (.string ⟨#[33]⟩)).setCell ⟨w.heap.size + 1 + 1,1,none⟩ (.int .i64 0)=W9 at *;obtain ⟨r0,r1,-,-⟩ := HFN.o.2.two;refine bodyPost_ret (v := .agg #[.string ⟨#[33]⟩,.int .i64 0]) (by simp [results,Tryz.results32,go_sem,r0,r1]) rfl ⟨rfl,HFN.o.1⟩
 · by_cases ht : t=true
   · subst ht;obtain rfl : R=.tru true := by rw [HR.o]; simp
     have t0 : W0.cell? ⟨g,0,none⟩=some (.string ⟨#[116]⟩) := VA.o.blk.cell 0;have t1 : W0.cell? ⟨g,1,none⟩=some (.int .i64 0) := VA.o.blk.cell 1;obtain ⟨q0,q1,q2,q3⟩ := ST0.o.res.two;have hm := ST0.o.lt;have HFN : Hid (Below w.heap.size w ((W0.setCell ⟨w.heap.size + 1 + 1,0,none⟩ (.string ⟨#[116]⟩)).setCell ⟨w.heap.size + 1 + 1,1,none⟩ (.int .i64 0))∧Mem.Blk ((W0.setCell ⟨w.heap.size + 1 + 1,0,none⟩ (.string ⟨#[116]⟩)).setCell ⟨w.heap.size + 1 + 1,1,none⟩ (.int .i64 0)) (w.heap.size + 1 + 1) 97 #[.string ⟨#[116]⟩,.int .i64 0]) := ⟨(ST0.o.below.setCell (by show w.heap.size≤w.heap.size + 1 + 1; omega) _).setCell (by show w.heap.size≤w.heap.size + 1 + 1; omega) _,(ST0.o.res.set_ 0 _).set_ 1 _⟩
     go_wp2_with fail
     generalize (W0.setCell ⟨w.heap.size + 1 + 1,0,none⟩ (.string ⟨#[116]⟩)).setCell ⟨w.heap.size + 1 + 1,1,none⟩ (.int .i64 0)=W9 at *;obtain ⟨r0,r1,-,-⟩ := HFN.o.2.two;refine bodyPost_ret (v := .agg #[.string ⟨#[116]⟩,.int .i64 0]) (by simp [results,Tryz.results32,go_sem,r0,r1]) rfl ⟨rfl,HFN.o.1⟩
   · obtain rfl : t=false := by cases t <;> simp_all
     obtain rfl : R=B := by rw [HR.o]; simp
     clear HR;have t0 : W0.cell? ⟨g,0,none⟩=some (.string ⟨#[102]⟩) := VA.o.blk.cell 0;have t1 : W0.cell? ⟨g,1,none⟩=some (.int .i64 0) := VA.o.blk.cell 1
     go_wp2_with fail
     clear t0 t1 st0 st1
     go_cut [7] (fun p W1 => ∃ g1,p=.pointer (some ⟨g1,0,none⟩)∧Hid (RvSt w W1 day a len cap 18 n nm (some ⟨b,o,none⟩) 2 cap')∧Hid (RvV w W1 g1 R)∧Hid (RvV w W1 gs (.tru true))∧Hid (RvV w W1 g (.tru false)))
     case first =>
      have e0 : W0.cell? ⟨w.heap.size + 1,0,none⟩=some (.int .i64 day) := ST0.o.env.cell 0;have e1 : W0.cell? ⟨w.heap.size + 1,1,none⟩=some (.slice a len cap) := ST0.o.env.cell 1;have x3 : W0.cell? ⟨w.heap.size,3,none⟩=some (.slice (some ⟨b,o,none⟩) 2 cap') := ST0.o.ex.cell 3;obtain ⟨u0,u1,u2,u3⟩ := H1.o;replace u0 := cu9 u0 ST0.o.below;replace u1 := cu9 u1 ST0.o.below;replace u2 := cu9 u2 ST0.o.below;replace u3 := cu9 u3 ST0.o.below;refine wp_region_till (S := fun W => (W.cell? ⟨w.heap.size + 1,0,none⟩=some (.int .i64 day)∧W.cell? ⟨w.heap.size + 1,1,none⟩=some (.slice a len cap))∧W.cell? ⟨w.heap.size,3,none⟩=some (.slice (some ⟨b,o,none⟩) 2 cap')∧W.cell? ⟨b,o + 4,none⟩=some (.int .i64 o1)∧W.cell? ⟨b,o + 4 + 1,none⟩=some (.int .i64 n1)∧W.cell? ⟨b,o + 4 + 2,none⟩=some (.string m1)∧W.cell? ⟨b,o + 4 + 3,none⟩=some (.slice a1 l1 p1)) 7 (by kernel_rfl) ?_;refine tk 0 ⟨⟨e0,e1⟩,x3,u0,u1,u2,u3⟩ ?_;refine tk 1 ⟨⟨e0,e1⟩,x3,u0,u1,u2,u3⟩ ?_;refine tk 2 ⟨⟨e0,e1⟩,x3,u0,u1,u2,u3⟩ ?_;refine tk 3 ⟨⟨e0,e1⟩,x3,u0,u1,u2,u3⟩ ?_;refine tk 4 ⟨⟨e0,e1⟩,x3,u0,u1,u2,u3⟩ ?_;refine till_two (i := 5) (j := 6) (by kernel_rfl) rfl rfl (fun K' hK => ?_) (fun K' hK => ?_)
      · go_simp;go_at_call 32;(with_reducible refine (RvC.run HCB.o _ ST0.o.below.drew).mono ?_);rintro y w1 ⟨hy,b1⟩;unfold RetW at hy;subst hy;have hd := (Below.refl W0.heap.size W0).drew;have ST1 := LH9 ((ST0.o.up hd).up b1);have bt := hd.trans (b1.mono hd.size);have GG := LH9 (And.intro ((VS0.o.up hd).up b1) ((VA.o.up hd).up b1));replace e0 := cu9 e0 bt;replace e1 := cu9 e1 bt;replace x3 := cu9 x3 bt;replace u0 := cu9 u0 bt;replace u1 := cu9 u1 bt;replace u2 := cu9 u2 bt;replace u3 := cu9 u3 bt;refine hK _ _ ⟨⟨e0,e1⟩,x3,u0,u1,u2,u3⟩ ?_;clear hK K' b1 hd bt
        try simp only [Act.put,zp1,zp2,zp3,zp4,zp5,zp6]
        refine till_one (i := 6) (by kernel_rfl) rfl (fun K' hK => ?_);go_simp;have bn := (Below.refl w1.heap.size w1).alloc (Nat.le_refl _) (.cells #[.string ⟨#[]⟩,.int .i64 0] 97);have ST2 := LH9 (ST1.o.up bn);have BZ := LH9 (Mem.Blk.new w1 97 #[.string ⟨#[]⟩,.int .i64 0]);have HZ := LH9 ST1.o.lt;have HP := LH9 (And.intro (And.intro (GG.o.1.up bn) (Nat.ne_of_lt GG.o.1.blk.lt)) (And.intro (GG.o.2.up bn) (Nat.ne_of_lt GG.o.2.blk.lt)));refine hK _ _ ⟨⟨cu9 e0 bn,cu9 e1 bn⟩,cu9 x3 bn,cu9 u0 bn,cu9 u1 bn,cu9 u2 bn,cu9 u3 bn⟩ ?_;clear hK K' bn ST1 e0 e1 x3 u0 u1 u2 u3 GG;generalize w1.alloc (.cells #[.string ⟨#[]⟩,.int .i64 0] 97)=w2 at *;generalize w1.heap.size=z at *
        try simp only [Act.put,zp1,zp2,zp3,zp4,zp5,zp6]
        obtain ⟨t0,t1,t2,t3⟩ := BZ.o.two;have hm := BZ.o.lt;refine till_last (by kernel_rfl) rfl (by kernel_rfl) (fun K' hK => ?_);go_simp;have HS9 := LH9 (ST2.o.far2 HZ.o (.string (wd R)) (.int .i64 R.N));have HV9 := LH9 (RvV.mk (v := R) HZ.o ((BZ.o.set_ 0 (.string (wd R))).set_ 1 (.int .i64 R.N)));refine hK _ _ ?_;clear hK K'
        try simp only [Act.put,zp1,zp2,zp3,zp4,zp5,zp6]
        refine wpAny_done (by kernel_rfl) ?_ _
        go_wp2_with fail
        go_meet
        case rel => exact ⟨z,rfl,HS9.o,HV9.o,HP.o.1.1.far2 HP.o.1.2 _ _,HP.o.2.1.far2 HP.o.2.2 _ _⟩
      · go_simp;have bn := below_new W0 (.cells #[.string ⟨#[]⟩,.int .i64 0] 97);have ST1 := LH9 (ST0.o.up bn);have BZ1 := LH9 (Mem.Blk.new W0 97 #[.string ⟨#[]⟩,.int .i64 0]).drew;have HZ := LH9 ST0.o.lt;have HQ := LH9 (And.intro (And.intro (VS0.o.up bn) (Nat.ne_of_lt VS0.o.blk.lt)) (And.intro (VA.o.up bn) (Nat.ne_of_lt VA.o.blk.lt)));replace e0 := cu9 e0 bn;replace e1 := cu9 e1 bn;replace x3 := cu9 x3 bn;replace u0 := cu9 u0 bn;replace u1 := cu9 u1 bn;replace u2 := cu9 u2 bn;replace u3 := cu9 u3 bn;refine hK _ _ ⟨⟨e0,e1⟩,x3,u0,u1,u2,u3⟩ ?_;clear hK K' bn;generalize (W0.alloc (.cells #[.string ⟨#[]⟩,.int .i64 0] 97)).drew=w1 at *;generalize W0.heap.size=z at *
        try simp only [Act.put,zp1,zp2,zp3,zp4,zp5,zp6]
        refine till_one (i := 5) (by kernel_rfl) rfl (fun K' hK => ?_);go_simp;go_at_call 32;(with_reducible refine (RvC.run HCB.o _ ST1.o.below).mono ?_);rintro y w2 ⟨hy,b1⟩;unfold RetW at hy;subst hy;have ST2 := LH9 (ST1.o.up b1);have BZ := LH9 (BZ1.o.below b1);have HP := LH9 (And.intro (And.intro (HQ.o.1.1.up b1) HQ.o.1.2) (And.intro (HQ.o.2.1.up b1) HQ.o.2.2));refine hK _ _ ⟨⟨cu9 e0 b1,cu9 e1 b1⟩,cu9 x3 b1,cu9 u0 b1,cu9 u1 b1,cu9 u2 b1,cu9 u3 b1⟩ ?_;clear hK K' b1 ST1 BZ1 e0 e1 x3 u0 u1 u2 u3 HQ
        try simp only [Act.put,zp1,zp2,zp3,zp4,zp5,zp6]
        obtain ⟨t0,t1,t2,t3⟩ := BZ.o.two;have hm := BZ.o.lt;refine till_last (by kernel_rfl) rfl (by kernel_rfl) (fun K' hK => ?_);go_simp;have HS9 := LH9 (ST2.o.far2 HZ.o (.string (wd R)) (.int .i64 R.N));have HV9 := LH9 (RvV.mk (v := R) HZ.o ((BZ.o.set_ 0 (.string (wd R))).set_ 1 (.int .i64 R.N)));refine hK _ _ ?_;clear hK K'
        try simp only [Act.put,zp1,zp2,zp3,zp4,zp5,zp6]
        refine wpAny_done (by kernel_rfl) ?_ _
        go_wp2_with fail
        go_meet
        case rel => exact ⟨z,rfl,HS9.o,HV9.o,HP.o.1.1.far2 HP.o.1.2 _ _,HP.o.2.1.far2 HP.o.2.2 _ _⟩
     obtain ⟨g1,rfl,ST3,VB,VS1,VA1⟩ := hcut;obtain ⟨W1,rfl⟩ : ∃ W : World,W=wc := ⟨_,rfl⟩;clear ST0 VA VS0 HCA HCB;have st0 : W1.cell? ⟨gs,0,none⟩=some (.string ⟨#[116]⟩) := VS1.o.blk.cell 0;have st1 : W1.cell? ⟨gs,1,none⟩=some (.int .i64 0) := VS1.o.blk.cell 1;have t0 : W1.cell? ⟨g,0,none⟩=some (.string ⟨#[102]⟩) := VA1.o.blk.cell 0;have t1 : W1.cell? ⟨g,1,none⟩=some (.int .i64 0) := VA1.o.blk.cell 1;have HP : Hid (RetW R (.returned (.agg #[.string (wd R),.int .i64 R.N]))) := rfl;have xt0 : W1.cell? ⟨g1,0,none⟩=some (.string (wd R)) := VB.o.blk.cell 0;have xt1 : W1.cell? ⟨g1,1,none⟩=some (.int .i64 R.N) := VB.o.blk.cell 1;clear HTB HTA;generalize wd R=rk at *;generalize R.N=rn at *;obtain ⟨q0,q1,q2,q3⟩ := ST3.o.res.two;have hm := ST3.o.lt;have HFN : Hid (Below w.heap.size w ((W1.setCell ⟨w.heap.size + 1 + 1,0,none⟩ (.string rk)).setCell ⟨w.heap.size + 1 + 1,1,none⟩ (.int .i64 rn))∧Mem.Blk ((W1.setCell ⟨w.heap.size + 1 + 1,0,none⟩ (.string rk)).setCell ⟨w.heap.size + 1 + 1,1,none⟩ (.int .i64 rn)) (w.heap.size + 1 + 1) 97 #[.string rk,.int .i64 rn]) := ⟨(ST3.o.below.setCell (by show w.heap.size≤w.heap.size + 1 + 1; omega) _).setCell (by show w.heap.size≤w.heap.size + 1 + 1; omega) _,(ST3.o.res.set_ 0 _).set_ 1 _⟩
     go_wp2_with fail
     generalize (W1.setCell ⟨w.heap.size + 1 + 1,0,none⟩ (.string rk)).setCell ⟨w.heap.size + 1 + 1,1,none⟩ (.int .i64 rn)=W9 at *;obtain ⟨r0,r1,-,-⟩ := HFN.o.2.two;refine bodyPost_ret (v := .agg #[.string rk,.int .i64 rn]) (by simp [results,Tryz.results32,go_sem,r0,r1]) rfl ⟨HP.o,HFN.o.1⟩
end
section
theorem infoW : (Tryz.prog.info? 97).map (fun i => (i.zero,i.size,i.bytes))=some (some (.agg #[.string ⟨#[]⟩,.int .i64 0]),2,24) := by kernel_rfl
def vlK : Elt Vl where
 sz := 2
 pos := by decide
 R := fun _ _ v cs => cs=[.string (wd v),.int .i64 v.N]
 kept := fun h _ => h
 less := fun h _ => h
 one := fun h => by subst h; exact ⟨rfl,by simp [Value.oneCell']⟩
def famRv (h : Nat) (day : Int) (a : Option Addr) (len cap : Nat) (op n : Int) (nm : ByteArray) (a' : Option Addr) (len' cap' : Nat) (vs : List Vl) (vL : Value) : List Ob :=
 [gr vlK 97 h vs vL,bx (h + 1 + 1) 97 #[.string ⟨#[]⟩,.int .i64 0],bx (h + 1) 26 #[.int .i64 day,.slice a len cap],bx h 74 #[.int .i64 op,.int .i64 n,.string nm,.slice a' len' cap']]
structure RvJ (w W : World) (day : Int) (a : Option Addr) (len cap : Nat) (op n : Int) (nm : ByteArray) (a' : Option Addr) (len' cap' : Nat) (vs : List Vl) (vL : Value) : Prop where
 below : Below w.heap.size w W
 sep : Sep W (famRv w.heap.size day a len cap op n nm a' len' cap' vs vL)
structure RvK (w W : World) (day : Int) (a : Option Addr) (len cap : Nat) (op n : Int) (nm : ByteArray) (a' : Option Addr) (len' cap' : Nat) (vs : List Vl) (vL : Value) (z : Nat) (c0 c1 : Value) : Prop where
 below : Below w.heap.size w W
 hi : w.heap.size≤z
 sep : Sep W (bx z 97 #[c0,c1] :: famRv w.heap.size day a len cap op n nm a' len' cap' vs vL)
section
variable {w W W' : World} {day : Int} {a : Option Addr} {len cap : Nat} {op n : Int} {nm : ByteArray} {a' : Option Addr} {len' cap' : Nat} {vs : List Vl} {vL : Value} {z : Nat} {c0 c1 : Value}
theorem RvJ.st (h : RvJ w W day a len cap op n nm a' len' cap' vs vL) : RvSt w W day a len cap op n nm a' len' cap' := ⟨h.below,h.sep.blk 3 rfl,h.sep.blk 2 rfl,h.sep.blk 1 rfl⟩
theorem RvK.st (h : RvK w W day a len cap op n nm a' len' cap' vs vL z c0 c1) : RvSt w W day a len cap op n nm a' len' cap' := ⟨h.below,h.sep.blk 4 rfl,h.sep.blk 3 rfl,h.sep.blk 2 rfl⟩
theorem RvJ.up (h : RvJ w W day a len cap op n nm a' len' cap' vs vL) (hb : Below W.heap.size W W') : RvJ w W' day a len cap op n nm a' len' cap' vs vL := ⟨h.below.trans (hb.mono h.below.size),h.sep.below hb⟩
theorem RvK.up (h : RvK w W day a len cap op n nm a' len' cap' vs vL z c0 c1) (hb : Below W.heap.size W W') : RvK w W' day a len cap op n nm a' len' cap' vs vL z c0 c1 := ⟨h.below.trans (hb.mono h.below.size),h.hi,h.sep.below hb⟩
theorem RvJ.new (h : RvJ w W day a len cap op n nm a' len' cap' vs vL) (c0 c1 : Value) : RvK w (W.alloc (.cells #[c0,c1] 97)) day a len cap op n nm a' len' cap' vs vL W.heap.size c0 c1 :=
 ⟨h.below.alloc h.below.size _,h.below.size,h.sep.new 97 #[c0,c1]⟩
theorem RvK.set2 (h : RvK w W day a len cap op n nm a' len' cap' vs vL z c0 c1) (d0 d1 : Value) : RvK w ((W.setCell ⟨z,0,none⟩ d0).setCell ⟨z,1,none⟩ d1) day a len cap op n nm a' len' cap' vs vL z d0 d1 :=
 ⟨(h.below.setCell h.hi _).setCell h.hi _,h.hi,(h.sep.store 0 rfl 0 d0).store 0 rfl 1 d1⟩
theorem RvK.push {W1 : World} {csl : List (List Value)} {v' : Value} {x : Vl} (h : RvK w W day a len cap op n nm a' len' cap' vs vL z c0 c1)
 (hG : Grow vlK 97 w.heap.size W (others (bx z 97 #[c0,c1] :: famRv w.heap.size day a len cap op n nm a' len' cap' vs vL) 1) vs vL csl)
 (ho : W1.ownsRow w.heap.size 97 2 v' (vs.length + 1) (csl.flatten ++ [.string (wd x),.int .i64 x.N])) (hg : W.grownBy W1 vL.ownBlock) (hv : v'.ownBlock=vL.ownBlock∨v'.ownBlock=some W.heap.size) :
 RvJ w W1 day a len cap op n nm a' len' cap' (vs ++ [x]) v' := by
 have h1 := h.sep.push 1 rfl hG (x := x) (c := [.string (wd x),.int .i64 x.N]) rfl ho hg hv;exact ⟨h.below.grown hg h.below.size (fun b hb => (hG.blt hb).1),h1.drop 0⟩
end
theorem RvJ.start (w : World) (day : Int) (a : Option Addr) (len cap : Nat) (op n : Int) (nm : ByteArray) (a' : Option Addr) (len' cap' : Nat) :
 RvJ w (((w.alloc (.cells #[.int .i64 op,.int .i64 n,.string nm,.slice a' len' cap'] 74)).alloc (.cells #[.int .i64 day,.slice a len cap] 26)).alloc (.cells #[.string ⟨#[]⟩,.int .i64 0] 97)) day a len cap op n nm a' len' cap' [] (.slice none 0 0) := by
 have h1 := (((Sep.nil w).new 74 #[.int .i64 op,.int .i64 n,.string nm,.slice a' len' cap']).new 26 #[.int .i64 day,.slice a len cap]).new 97 #[.string ⟨#[]⟩,.int .i64 0];have e1 : (w.alloc (.cells #[.int .i64 op,.int .i64 n,.string nm,.slice a' len' cap'] 74)).heap.size=w.heap.size + 1 := by simp
 have e2 : ((w.alloc (.cells #[.int .i64 op,.int .i64 n,.string nm,.slice a' len' cap'] 74)).alloc (.cells #[.int .i64 day,.slice a len cap] 26)).heap.size=w.heap.size + 1 + 1 := by simp
 rw [e1,e2] at h1;exact ⟨(((Below.refl _ w).alloc (Nat.le_refl _) _).alloc (by simp) _).alloc (by simp; omega) _,h1.addGr vlK 97 (by simp; omega)⟩
theorem RvJ.val {w W : World} {day : Int} {a : Option Addr} {len cap : Nat} {op n : Int} {nm : ByteArray} {a' : Option Addr} {len' cap' : Nat} {vs : List Vl} {vL : Value} (h : RvJ w W day a len cap op n nm a' len' cap' vs vL) :
 ∃ p cL,vL=.slice p vs.length cL∧(0 < vs.length→∃ g,p=some ⟨g,0,none⟩∧∀ k x,vs[k]?=some x→W.cell? ⟨g,k * 2,none⟩=some (.string (wd x))∧W.cell? ⟨g,k * 2 + 1,none⟩=some (.int .i64 x.N)) := by
 obtain ⟨p,cL,hv⟩ := h.sep.form 0 rfl;refine ⟨p,cL,hv,fun hp => ?_⟩;obtain ⟨g,cL',-,-,hv',-⟩ := h.sep.elt 0 rfl 0 hp;rw [hv] at hv';injection hv' with e1 e2 e3;subst e1;refine ⟨g,rfl,fun k x hx => ?_⟩;obtain ⟨g2,c2,x2,cs2,hv2,-,hx2,hR,-,hc⟩ := h.sep.elt 0 rfl k (List.getElem?_eq_some_iff.1 hx).1;rw [hv] at hv2;injection hv2 with e1 _ _;injection e1 with e1;injection e1 with e1;subst e1;rw [hx] at hx2;injection hx2 with hx2;subst hx2;have hR' : cs2=[.string (wd x),.int .i64 x.N] := hR;subst hR';exact ⟨hc 0 _ (by decide) rfl,hc 1 _ (by decide) rfl⟩
end
end Go.Proofs.YtmiinmndbkdjbaaGreat
