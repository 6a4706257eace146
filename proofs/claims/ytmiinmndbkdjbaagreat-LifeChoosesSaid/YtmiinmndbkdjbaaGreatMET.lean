/- A part of the proof: BgG, BgM, BgS, BgU, BgV, Made, AqA, one behind another. -/
import Derived.Test.YtmiinmndbkdjbaaGreatMEA
import Derived.Test.YtmiinmndbkdjbaaGreatMEC
import Derived.Test.YtmiinmndbkdjbaaGreatMED
import Derived.Test.YtmiinmndbkdjbaaGreatMEJ
import Derived.Test.YtmiinmndbkdjbaaGreatMER
import Derived.Test.YtmiinmndbkdjbaaGreatMES
import Derived.OpenShut
import Derived.IntWalk
import Derived.Deep.DeepCutAuto
import Derived.Deep.CutBlock
import Derived.Lib.Hide
import Derived.WalkKit
set_option maxRecDepth 100000
set_option maxHeartbeats 16000000
set_option linter.unusedVariables false
set_option linter.unusedSimpArgs false
namespace Go.Proofs.YtmiinmndbkdjbaaGreat
open Go.RowKit
section
theorem lit4 (w : World) (g : Nat) (z1 z2 z3 z4 : Int) (n1 n2 n3 n4 : Nat) (hg : g=w.heap.size) (h1 : z1=n1) (h2 : z2=n2) (h3 : z3=n3) (h4 : z4=n4) :
 Nums (w.alloc (.cells #[.int .u64 z1,.int .u64 z2,.int .u64 z3,.int .u64 z4] 141)) (some ⟨g,0,none⟩) 4 4 [n1,n2,n3,n4] := by
 subst hg h1 h2 h3 h4;refine ⟨rfl,Nat.le_refl _,by decide,fun _ => ⟨w.heap.size,0,rfl,by simp,fun i x hx => ?_⟩⟩;have := (Mem.Blk.new w 141 #[.int .u64 (n1 : Int),.int .u64 (n2 : Int),.int .u64 (n3 : Int),.int .u64 (n4 : Int)]).cell (0 + i);rw [this,Nat.zero_add]
 match i,hx with
 | 0,hx => simp at hx; subst hx; rfl
 | 1,hx => simp at hx; subst hx; rfl
 | 2,hx => simp at hx; subst hx; rfl
 | 3,hx => simp at hx; subst hx; rfl
 | k + 4,hx => simp at hx
def ofD (n : Nat) : List Nat := [n % 65536,n / 65536 % 65536,n / 4294967296 % 65536,n / 281474976710656]
theorem ofD_dig (n : Nat) (h : n<=9223372036854775808) : Big.Dig (ofD n) := by
 intro d hd; unfold ofD at hd; simp at hd;rcases hd with rfl | rfl | rfl | rfl <;> omega
theorem ofD_val (n : Nat) : Big.val (ofD n)=n := by
 unfold ofD; simp [Big.val]; omega
theorem wrap_neg2 (n : Nat) (h : n<=9223372036854775808) : IntKind.u64.wrap (-IntKind.u64.wrap (-(n : Int)))=n := by
 simp only [IntKind.wrap_u64]; omega
theorem bigof_any (a : Int) (w : World) (h0 : -9223372036854775808<=a) (h1 : a<=9223372036854775807) :
 Calls Tryz.prog 46 #[.int .i64 a] w fun e w' => (∃ r,e=.returned r/\BigR w' r a)/\Below w.heap.size w w' := by
 have HD := LH9 (ofD_dig a.natAbs (by omega));have HV := LH9 (ofD_val a.natAbs);have BW := LH9 (fun o o2 : Obj => (((Below.refl _ w).alloc (Nat.le_refl _) o).alloc (by simp) o2 : Below w.heap.size w _));by_cases hz : a < 0
 . obtain ⟨n,hn,rfl⟩ : ∃ n : Nat,1<=n/\a=-(n : Int) := ⟨a.natAbs,by omega,by omega⟩;have e : Hid ((-(n : Int)).natAbs=n) := by show _=_; omega
   have hwr := wrap_neg2 n (by omega);rw [e.o] at HD HV
   go_enter Tryz.func46,Tryz.ntmps46
   go_wp2_with fail;refine (trim_any _ _ _ (ofD n) _ (lit4 _ _ _ _ _ _ _ _ _ _ (by simp) (by omega) (by omega) (by omega) (by omega))).mono ?_;rintro e' w' ⟨rfl,rfl⟩;have N1 := fun o : Obj => lit4 (w.alloc o) (w.heap.size + 1) ((n : Int) % 65536) ((n : Int) / 65536 % 65536) ((n : Int) / 4294967296 % 65536) ((n : Int) / 281474976710656) (n % 65536) (n / 65536 % 65536) (n / 4294967296 % 65536) (n / 281474976710656) (by simp) (by omega) (by omega) (by omega) (by omega)
   have hb : ∀ o : Obj,BigR ((w.alloc o).alloc (.cells #[.int .u64 ((n : Int) % 65536),.int .u64 ((n : Int) / 65536 % 65536),.int .u64 ((n : Int) / 4294967296 % 65536),.int .u64 ((n : Int) / 281474976710656)] 141)) (.agg #[.bool true,.slice (some ⟨w.heap.size + 1,0,none⟩) (Big.trim (ofD n)).length 4]) (-(n : Int)) := by
    exact Z7_93
   have HB := LH9 hb;clear N1 hb;generalize (Big.trim (ofD n)).length=k at *
   go_wp2
   refine bodyPost_ret (v := .agg #[.bool true,.slice (some ⟨w.heap.size + 1,0,none⟩) k 4]) (by simp [results,Tryz.results46,go_sem]) rfl ⟨⟨_,rfl,HB.o _⟩,?_⟩;exact BW.o _ _
 . obtain ⟨n,rfl⟩ : ∃ n : Nat,a=(n : Int) := ⟨a.toNat,by omega⟩;have e : Hid ((n : Int).natAbs=n) := by show _=_; omega
   rw [e.o] at HD HV
   go_enter Tryz.func46,Tryz.ntmps46
   go_wp2_with fail;refine (trim_any _ _ _ (ofD n) _ (lit4 _ _ _ _ _ _ _ _ _ _ (by simp) (by omega) (by omega) (by omega) (by omega))).mono ?_;rintro e' w' ⟨rfl,rfl⟩;have N1 := fun o : Obj => lit4 (w.alloc o) (w.heap.size + 1) ((n : Int) % 65536) ((n : Int) / 65536 % 65536) ((n : Int) / 4294967296 % 65536) ((n : Int) / 281474976710656) (n % 65536) (n / 65536 % 65536) (n / 4294967296 % 65536) (n / 281474976710656) (by simp) (by omega) (by omega) (by omega) (by omega)
   have hb : ∀ o : Obj,BigR ((w.alloc o).alloc (.cells #[.int .u64 ((n : Int) % 65536),.int .u64 ((n : Int) / 65536 % 65536),.int .u64 ((n : Int) / 4294967296 % 65536),.int .u64 ((n : Int) / 281474976710656)] 141)) (.agg #[.bool false,.slice (some ⟨w.heap.size + 1,0,none⟩) (Big.trim (ofD n)).length 4]) ((n : Int)) := by
    exact Z7_93
   have HB := LH9 hb;clear N1 hb;generalize (Big.trim (ofD n)).length=k at *
   go_wp2
   refine bodyPost_ret (v := .agg #[.bool false,.slice (some ⟨w.heap.size + 1,0,none⟩) k 4]) (by simp [results,Tryz.results46,go_sem]) rfl ⟨⟨_,rfl,HB.o _⟩,?_⟩;exact BW.o _ _
end
section
def smB (z : Int) : Bool := decide (-9223372036854775808<=z/\z<=9223372036854775807)
def smN (z : Int) : Int := if smB z then z else 0
theorem sm_no (z : Int) (h : ¬(-9223372036854775808<=z/\z<=9223372036854775807)) : Ending.returned (.tuple #[.int .i64 0,.bool false])=.returned (.tuple #[.int .i64 (smN z),.bool (smB z)]) := by
 have e : smB z=false := by unfold smB; simpa using h
 unfold smN; rw [e]; rfl
theorem sm_yes (z : Int) (h : -9223372036854775808<=z/\z<=9223372036854775807) (x : Int) (hx : x=z) : Ending.returned (.tuple #[.int .i64 x,.bool true])=.returned (.tuple #[.int .i64 (smN z),.bool (smB z)]) := by
 have e : smB z=true := by unfold smB; simpa using h
 unfold smN; rw [e,hx]; rfl
theorem cmpZ_gt (z y : Int) (h : y < z) : cmpZ z y=1 := by unfold cmpZ; rw [if_neg (by omega),if_neg (by omega)]
theorem cmpZ_lt (z y : Int) (h : z < y) : cmpZ z y=-1 := by unfold cmpZ; rw [if_pos h]
theorem cmpZ_le (z y : Int) (h : z<=y) : cmpZ z y<=0 := by unfold cmpZ; split <;> (try split) <;> omega
theorem cmpZ_ge (z y : Int) (h : y<=z) : 0<=cmpZ z y := by unfold cmpZ; split <;> (try split) <;> omega
theorem Sm.int (n : Nat) (h : n<=9223372036854775808) : Sm n := by
 refine Sm.of (Nat.lt_of_lt_of_le ?_ (Big.pw_mono (show 5<=1000000 by decide)));show n < 65536 ^ 5;omega
theorem Nums.drop_step (l : List Nat) (k : Nat) (h : k < l.length) : Big.val (l.drop k)=l.getD k 0 + 65536 * Big.val (l.drop (k + 1)) := by
 rw [List.drop_eq_getElem_cons h,List.getD_eq_getElem?_getD,List.getElem?_eq_getElem h]; rfl
theorem val_drop_le (l : List Nat) : ∀ k,Big.val (l.drop k)<=Big.val l := by
 induction l with
 | nil => intro k; simp
 | cons d t ih =>
   intro k
   cases k with
   | zero => simp
   | succ j => have := ih j; simp only [List.drop_succ_cons]; show _<=d + 65536 * Big.val t; omega
theorem one_cells64 {w w' : World} {x1 y1 : Value} (hb : Below (w.heap.size + 1) (w.alloc (.cells #[x1,y1] 122)) w') :
 w'.cell? ⟨w.heap.size,0,none⟩=some x1/\w'.cell? ⟨w.heap.size,1,none⟩=some y1 := by
 have B1 : Mem.Blk w' w.heap.size 122 #[x1,y1] := ((Mem.Blk.new w 122 #[x1,y1])).call hb (by omega);exact ⟨B1.two.1,B1.two.2.1⟩
theorem c_le (c : Int) (h : c<=0) : decide (0 < c)=false := by simp; omega
theorem c_ge (c : Int) (h : 0<=c) : decide (c < 0)=false := by simp; omega
theorem small_le (v : Value) (z : Int) (w : World) (hv : BigR w v z) (hz : Sm z.natAbs) (hle : z<=9223372036854775807) :
 Calls Tryz.prog 47 #[v] w fun e w' => e=.returned (.tuple #[.int .i64 (smN z),.bool (smB z)])/\Below w.heap.size w w' := by
 have HV := LH9 hv;have HZ := LH9 hz;have HM := LH9 (Sm.int (-9223372036854775807 : Int).natAbs (by decide));have HM2 := LH9 (Sm.int (-(-9223372036854775808) : Int).natAbs (by decide));have HLE := LH9 hle;obtain ⟨c,hc,hc0⟩ : ∃ c,cmpZ z 9223372036854775807=c/\decide (0 < c)=false := ⟨_,rfl,c_le _ (cmpZ_le _ _ hle)⟩;have HC := LH9 hc;obtain ⟨m,rfl,a,len,cap,l,rfl,h1,h2,h3⟩ := hv;have HN := LH9 h1;have HO := LH9 h2;have HL := LH9 h3;have hl2 := h1.2.1;have hl3 := h1.2.2.1;clear h1 h2 h3 hz hle hc;have HS := LH9 (rfl : decide (z < 0)=decide (z < 0));generalize hs : decide (z < 0)=s at *;have HS := LH9 hs;clear hs;have T := LH9 (((Below.refl _ w).alloc (Nat.le_refl _) (.cells #[.bool s,.slice a len cap] 122)) : Below w.heap.size w _);have TC := LH9 (fun w' hb => one_cells64 (w := w) (w' := w') (x1 := .bool s) (y1 := .slice a len cap) hb);have TS := LH9 (show (w.alloc (.cells #[.bool s,.slice a len cap] 122)).heap.size=w.heap.size + 1 by simp);by_cases hlt : z < -9223372036854775808
 . have FIN := LH9 (sm_no z (by omega));have HD := LH9 (cmpZ_lt z (-9223372036854775808) hlt);clear hlt
   go_enter Tryz.func47,Tryz.ntmps47
   go_wp2_with fail;obtain ⟨p1,p2⟩ := TC.o _ (Below.refl _ _);generalize (w.alloc (.cells _ 122))=v at *
   first
   | go_region_held3 (fun w' => w'.cell? ⟨w.heap.size,0,none⟩=some (.bool s)/\w'.cell? ⟨w.heap.size,1,none⟩=some (.slice a len cap)) (first | exact ⟨j1,j2⟩ | exact ⟨i1,i2⟩ | exact ⟨g1,g2⟩ | exact ⟨d1,d2⟩ | go_keep)
     (first
      | (go_at_call 46
         (with_reducible refine (bigof_any 9223372036854775807 _ (by decide) (by decide)).mono ?_);rintro e w1 ⟨⟨r,rfl,hr⟩,b1⟩;have k1 : Below (w.heap.size + 1) v w1 := ((Below.refl _ v).drew).trans (b1.mono (Nat.le_of_eq TS.o.symm));have k0 : Below w.heap.size w w1 := T.o.trans (k1.mono (by omega));obtain ⟨d1,d2⟩ := TC.o w1 k1)
      | (go_at_call 77
         (with_reducible refine (bigcmp_any _ _ z 9223372036854775807 _ (HV.o.below k0) hr HZ.o HM.o).mono ?_);rintro e w2 ⟨rfl,b2⟩;have k2 : Below (w.heap.size + 1) v w2 := k1.trans (b2.mono (Nat.le_trans (Nat.le_of_eq TS.o.symm) k1.size));obtain ⟨g1,g2⟩ := TC.o w2 k2;rw [HC.o])
      | (go_at_call 46
         (with_reducible refine (bigof_any (-9223372036854775808) _ (by decide) (by decide)).mono ?_);rintro e w3 ⟨⟨r3,rfl,hr3⟩,b3⟩;have k3 : Below (w.heap.size + 1) v w3 := k2.trans (b3.mono (Nat.le_trans (Nat.le_of_eq TS.o.symm) k2.size));have k30 : Below w.heap.size w w3 := T.o.trans (k3.mono (by omega));obtain ⟨i1,i2⟩ := TC.o w3 k3)
      | (go_at_call 77
         (with_reducible refine (bigcmp_any _ _ z (-9223372036854775808) _ (HV.o.below k30) hr3 HZ.o HM2.o).mono ?_);rintro e w4 ⟨rfl,b4⟩;have k4 : Below (w.heap.size + 1) v w4 := k3.trans (b4.mono (Nat.le_trans (Nat.le_of_eq TS.o.symm) k3.size));obtain ⟨j1,j2⟩ := TC.o w4 k4;rw [HD.o]))
   | fail "region"
   all_goals
    have K := LH9 (T.o.trans (k4.mono (by omega)));clear TC HV hr k0 k1 k2 k3 k4 b1 b2 b3 b4 d1 d2 g1 g2 i1 i2 j1 j2 p1 p2 k30
    go_wp2
    go_ret2;exact ⟨FIN.o,K.o⟩
 . have hle := HLE.o;have FIN := LH9 (sm_yes z (by omega));have hlen : len<=4 := MagR.small HN.o HO.o (by rw [HL.o]; show _ < 65536 ^ 4; omega);have HV4 := LH9 (show Big.val l<=9223372036854775808 by rw [HL.o]; omega);obtain ⟨c',hc',hc0'⟩ : ∃ c',cmpZ z (-9223372036854775808)=c'/\decide (c' < 0)=false := ⟨_,rfl,c_ge _ (cmpZ_ge _ _ (by omega))⟩;have HD := LH9 hc';have HLT := LH9 hlt;clear hlt hc' hle
   go_enter Tryz.func47,Tryz.ntmps47
   go_wp2_with fail;obtain ⟨p1,p2⟩ := TC.o _ (Below.refl _ _);generalize (w.alloc (.cells _ 122))=v at *
   first
   | go_region_held3 (fun w' => w'.cell? ⟨w.heap.size,0,none⟩=some (.bool s)/\w'.cell? ⟨w.heap.size,1,none⟩=some (.slice a len cap)) (first | exact ⟨j1,j2⟩ | exact ⟨i1,i2⟩ | exact ⟨g1,g2⟩ | exact ⟨d1,d2⟩ | go_keep)
     (first
      | (go_at_call 46
         (with_reducible refine (bigof_any 9223372036854775807 _ (by decide) (by decide)).mono ?_);rintro e w1 ⟨⟨r,rfl,hr⟩,b1⟩;have k1 : Below (w.heap.size + 1) v w1 := ((Below.refl _ v).drew).trans (b1.mono (Nat.le_of_eq TS.o.symm));have k0 : Below w.heap.size w w1 := T.o.trans (k1.mono (by omega));obtain ⟨d1,d2⟩ := TC.o w1 k1)
      | (go_at_call 77
         (with_reducible refine (bigcmp_any _ _ z 9223372036854775807 _ (HV.o.below k0) hr HZ.o HM.o).mono ?_);rintro e w2 ⟨rfl,b2⟩;have k2 : Below (w.heap.size + 1) v w2 := k1.trans (b2.mono (Nat.le_trans (Nat.le_of_eq TS.o.symm) k1.size));obtain ⟨g1,g2⟩ := TC.o w2 k2;rw [HC.o])
      | (go_at_call 46
         (with_reducible refine (bigof_any (-9223372036854775808) _ (by decide) (by decide)).mono ?_);rintro e w3 ⟨⟨r3,rfl,hr3⟩,b3⟩;have k3 : Below (w.heap.size + 1) v w3 := k2.trans (b3.mono (Nat.le_trans (Nat.le_of_eq TS.o.symm) k2.size));have k30 : Below w.heap.size w w3 := T.o.trans (k3.mono (by omega));obtain ⟨i1,i2⟩ := TC.o w3 k3)
      | (go_at_call 77
         (with_reducible refine (bigcmp_any _ _ z (-9223372036854775808) _ (HV.o.below k30) hr3 HZ.o HM2.o).mono ?_);rintro e w4 ⟨rfl,b4⟩;have k4 : Below (w.heap.size + 1) v w4 := k3.trans (b4.mono (Nat.le_trans (Nat.le_of_eq TS.o.symm) k3.size));obtain ⟨j1,j2⟩ := TC.o w4 k4;rw [HD.o]))
   | fail "region"
   all_goals
    have K4 := LH9 k4;have K := LH9 (T.o.trans (k4.mono (by omega)));clear HV hr k0 k1 k2 k3 k4 b1 b2 b3 b4 d1 d2 g1 g2 i1 i2 j1 j2 p1 p2 k30;have T4 : Below w.heap.size w w4 := K.o;have J1 := (TC.o w4 K4.o).1;have J2 := (TC.o w4 K4.o).2;go_wp2_with fail
    go_loop [4,5] (fun u i => ∃ k : Nat,i=.int .i64 ((k : Int) - 1)/\k<=len/\u=.int .u64 (Big.val (l.drop k) : Nat)) (fun _ i => (intOf i + 1).toNat)
    case atStart => exact ⟨len,by go_num,Nat.le_refl _,by rw [List.drop_of_length_le (by rw [HN.o.1]; exact Nat.le_refl _)]; rfl⟩
    case round =>
     obtain ⟨k,rfl,hk,rfl⟩ := hrel;have hle1 := Nat.le_trans (val_drop_le l k) HV4.o
     cases k with
     | zero =>
       cases s with
       | false =>
         have FIN2 := LH9 (FIN.o (wrap64 (Big.val (l.drop 0) : Nat)) (by have h1 := HS.o; have h2 := HL.o; have h3 := HLE.o; simp at h1; simp only [List.drop_zero,wrap64]; omega));generalize Big.val (l.drop 0)=x at *
         go_wp2
         go_ret2;exact ⟨FIN2.o,K.o⟩
       | true =>
         have FIN2 := LH9 (FIN.o (wrap64 (IntKind.u64.wrap (-(Big.val (l.drop 0) : Nat)))) (by have h1 := HS.o; have h2 := HL.o; have h3 := HLT.o; simp at h1; simp only [List.drop_zero,wrap64,IntKind.wrap_u64]; omega));generalize Big.val (l.drop 0)=x at *
         go_wp2
         go_ret2;exact ⟨FIN2.o,K.o⟩
     | succ j =>
       obtain ⟨b,o,rfl,hb,hc⟩ := (HN.o.below T4).at j (by omega);have hst := Nums.drop_step l j (by rw [HN.o.1]; exact hk);have hle2 := Nat.le_trans (val_drop_le l j) HV4.o;have REL := LH9 hst;generalize l.getD j 0=x at *;generalize Big.val (l.drop (j + 1))=y at *;generalize hvv : Big.val (l.drop j)=vv at *;have HVV := LH9 hvv;clear hvv
       go_wp2
       go_round
       case rel => exact ⟨j,by go_num,by omega,by rw [HVV.o,REL.o]; go_num⟩
       case measure => simp [intOf]
end
section
theorem small_gt (v : Value) (z : Int) (w : World) (hv : BigR w v z) (hz : Sm z.natAbs) (hgt : 9223372036854775807 < z) :
 Calls Tryz.prog 47 #[v] w fun e w' => e=.returned (.tuple #[.int .i64 (smN z),.bool (smB z)])/\Below w.heap.size w w' := by
 have FIN := LH9 (sm_no z (by omega));have HC := LH9 (cmpZ_gt z 9223372036854775807 hgt);have HV := LH9 hv;have HZ := LH9 hz;have HM := LH9 (Sm.int (-9223372036854775807 : Int).natAbs (by decide));obtain ⟨m,rfl,a,len,cap,l,rfl,h1,h2,h3⟩ := hv;clear h1 h2 h3 hz hgt;generalize decide (z < 0)=s at *;have T := LH9 (((Below.refl _ w).alloc (Nat.le_refl _) (.cells #[.bool s,.slice a len cap] 122)) : Below w.heap.size w _);have BX := LH9 (Mem.Blk.new w 122 #[.bool s,.slice a len cap])
 go_enter Tryz.func47,Tryz.ntmps47
 go_wp2_with fail;generalize (w.alloc (.cells _ 122))=v at *;obtain ⟨c0,c1,-,-⟩ := BX.o.two;refine wp_region_till (S := fun W => W.cell? ⟨w.heap.size,0,none⟩=some (.bool s)/\W.cell? ⟨w.heap.size,1,none⟩=some (.slice a len cap)) 9 (by kernel_rfl) ?_;refine tk 0 ⟨c0,c1⟩ ?_;refine t19 1 (fun K' hK=>?_);go_simp;go_at_call 46;(with_reducible refine (bigof_any 9223372036854775807 _ (by decide) (by decide)).mono ?_);rintro e w1 ⟨⟨r,rfl,hr⟩,b1⟩;have K1 : Hid (Below v.heap.size v w1) := ((Below.refl _ v).drew).trans b1;have HR1 := LH9 hr;clear b1 hr c0 c1;obtain ⟨c0,c1,-,-⟩ := (BX.o.below K1.o).two;refine hK _ _ ⟨c0,c1⟩ ?_;clear hK K'
 try simp only [Act.put,zp1,zp2,zp3,zp4,zp5,zp6]
 refine t19 2 (fun K' hK=>?_);go_simp;go_at_call 77;(with_reducible refine (bigcmp_any _ _ z 9223372036854775807 _ (HV.o.below (T.o.trans (K1.o.mono T.o.size))) HR1.o HZ.o HM.o).mono ?_);rintro e w2 ⟨rfl,b2⟩;rw [HC.o];have K2 := bt9 K1 b2;clear b2 c0 c1 K1 HR1;obtain ⟨c0,c1,-,-⟩ := (BX.o.below K2.o).two;refine hK _ _ ⟨c0,c1⟩ ?_;clear hK K'
 try simp only [Act.put,zp1,zp2,zp3,zp4,zp5,zp6]
 refine tk 3 ⟨c0,c1⟩ ?_;refine tk 4 ⟨c0,c1⟩ ?_;refine till_take (i := 5) (v := undef) rfl (by kernel_rfl) (fun _ _ _ h => h) (Or.inr ⟨by rfl,rfl⟩) ⟨c0,c1⟩ ?_
 try simp only [Act.put,zp1,zp2,zp3,zp4,zp5,zp6]
 refine t19 6 (fun K' hK=>?_);go_simp;refine hK _ _ ⟨c0,c1⟩ ?_;clear hK K'
 try simp only [Act.put,zp1,zp2,zp3,zp4,zp5,zp6]
 refine t19 7 (fun K' hK=>?_);go_simp;refine hK _ _ ⟨c0,c1⟩ ?_;clear hK K'
 try simp only [Act.put,zp1,zp2,zp3,zp4,zp5,zp6]
 refine till_take (i := 8) (v := undef) rfl (by kernel_rfl) (fun _ _ _ h => h) (Or.inr ⟨by rfl,rfl⟩) ⟨c0,c1⟩ ?_
 try simp only [Act.put,zp1,zp2,zp3,zp4,zp5,zp6]
 refine tl9 (fun K' hK=>?_);go_simp;refine hK _ _ ?_;clear hK K'
 try simp only [Act.put,zp1,zp2,zp3,zp4,zp5,zp6]
 refine wd9 ?_;have K := bu9 T K2;clear c0 c1 K2 BX T;go_wp2_with fail;go_ret2;exact ⟨FIN.o,K.o⟩
theorem small_any (v : Value) (z : Int) (w : World) (hv : BigR w v z) (hz : Sm z.natAbs) :
 Calls Tryz.prog 47 #[v] w fun e w' => e=.returned (.tuple #[.int .i64 (smN z),.bool (smB z)])/\Below w.heap.size w w' := by
 by_cases h : 9223372036854775807 < z
 . exact small_gt v z w hv hz h
 . exact small_le v z w hv hz (by omega)
end
section
theorem sg_mul (z z' : Int) : sg (decide (z < 0) != decide (z' < 0)) (z.natAbs * z'.natAbs)=z * z' := by
 have h1 := Int.natAbs_mul z z';rw [<- h1];unfold sg;by_cases a : z < 0 <;> by_cases b : z' < 0
 . have := Int.mul_pos_of_neg_of_neg a b;simp [a,b]; omega
 . have : z * z'<=0 := Int.mul_nonpos_of_nonpos_of_nonneg (by omega) (by omega);simp [a,b]; omega
 . have : z * z'<=0 := Int.mul_nonpos_of_nonneg_of_nonpos (by omega) (by omega);simp [a,b]; omega
 . have := Int.mul_nonneg (show 0<=z by omega) (show 0<=z' by omega);simp [a,b]; omega
theorem dv_get (q : List Nat) (j : Nat) (h : j < q.length) : (dv q).toArray[j]?=some (.int .u64 ((q.getD j 0 : Nat) : Int)) := by
 simp [dv,List.getD_eq_getElem?_getD,List.getElem?_eq_getElem h]
theorem times_any (u v : Value) (z z' : Int) (w : World) (hu : BigR w u z) (hv : BigR w v z') (bn : Md z.natAbs) (bn' : Md z'.natAbs) :
 Calls Tryz.prog 58 #[u,v] w fun e w' => (∃ r,e=.returned r/\BigR w' r (z * z'))/\Below w.heap.size w w' := by
 obtain ⟨m,rfl,a,len,cap,l,rfl,h1,h2,h3⟩ := hu;obtain ⟨m',rfl,a',len',cap',l',rfl,h1',h2',h3'⟩ := hv;have hl : len<=900 := MagR.small h1 h2 (by rw [h3]; exact bn.lt);have hl' : len'<=900 := MagR.small h1' h2' (by rw [h3']; exact bn'.lt);have HL := LH9 h1;have HN := LH9 h2;have HX := LH9 h3;have HL' := LH9 h1';have HN' := LH9 h2';have HX' := LH9 h3';have hc := h1.2.1;have hc' := h1'.2.1;have HSG := LH9 (sg_mul z z');rw [<- h3,<- h3'] at HSG;clear h1 h2 h3 h1' h2' h3' bn bn' HX HX';generalize z * z'=ZZ at *;generalize decide (z < 0)=s at *;generalize decide (z' < 0)=s' at *;have hmk : ∀ w,(Instr.makeSlice 120 (.int .i64 ((len : Int) + (len' : Int) + 1)) (.int .i64 ((len : Int) + (len' : Int) + 1))).run Tryz.prog w=.ok (.slice (some ⟨w.heap.size,0,none⟩) (len + len' + 1) (len + len' + 1)) (w.alloc (.cells (dv (List.replicate (len + len' + 1) 0)).toArray 141)) := by
  intro w;have e : (len : Int) + (len' : Int) + 1=((len + len' + 1 : Nat) : Int) := by omega
  rw [<- mk_eq,e]; exact run_make_row' 120 141 (.int .u64 0) 8 Tryz.underlying120 infoU64 rfl _ _ (len + len' + 1) (by omega) (by omega) w
 have HS := LH9 ((((Sep.nil w).new 122 #[.bool s,.slice a len cap]).new 122 #[.bool s',.slice a' len' cap']).new 122 #[.bool false,.slice none 0 0]);have e1 : (w.alloc (.cells #[.bool s,.slice a len cap] 122)).heap.size=w.heap.size + 1 := by simp
 have e2 : ((w.alloc (.cells #[.bool s,.slice a len cap] 122)).alloc (.cells #[.bool s',.slice a' len' cap'] 122)).heap.size=w.heap.size + 1 + 1 := by simp
 rw [e1,e2] at HS;have T := LH9 ((((Below.refl _ w).alloc (Nat.le_refl _) (.cells #[.bool s,.slice a len cap] 122)).alloc (by simp) (.cells #[.bool s',.slice a' len' cap'] 122)).alloc (by simp; omega) (.cells #[.bool false,.slice none 0 0] 122));clear e1 e2
 go_enter Tryz.func58,Tryz.ntmps58
 go_upto_region 1 with (fail);generalize ((w.alloc (.cells #[.bool s,.slice a len cap] 122)).alloc (.cells #[.bool s',.slice a' len' cap'] 122)).alloc (.cells #[.bool false,.slice none 0 0] 122)=v at *;obtain ⟨a0,a1,-,-⟩ := (HS.o.blk 2 rfl).two;obtain ⟨b0,b1,-,-⟩ := (HS.o.blk 1 rfl).two;go_wp2_with fail;clear a0 a1 b0 b1 hmk;have HBU := LH9 (Mem.Blk.new v 141 (dv (List.replicate (len + len' + 1) 0)).toArray);have HV0 : Hid (Below v.heap.size v (v.alloc (.cells (dv (List.replicate (len + len' + 1) 0)).toArray 141))) := (Below.refl _ _).alloc (Nat.le_refl _) _;have hzero := Big.MulOut.zero l l';rw [HL.o.1,HL'.o.1] at hzero;have HZ := LH9 hzero;clear hzero;generalize v.alloc (.cells (dv (List.replicate (len + len' + 1) 0)).toArray 141)=v1 at *
 go_loopw [6] (fun i wr => ∃ (k : Nat) (q : List Nat),i=.int .i64 (k : Nat)/\k<=len/\Hid (Big.MulOut l l' q k)/\Hid (Mem.Blk wr v.heap.size 141 (dv q).toArray)/\Hid (Below v.heap.size v wr)) (fun i _ => len - (intOf i).toNat)
 case atStart => exact ⟨0,_,rfl,Nat.zero_le _,HZ.o,HBU.o,HV0.o⟩
 case round =>
  clear HZ HBU HV0;obtain ⟨i,q,rfl,hi,HM,HQ,HB⟩ := hrel;obtain ⟨a0,a1,-,-⟩ := ((HS.o.blk 2 rfl).below HB.o).two;obtain ⟨b0,b1,-,-⟩ := ((HS.o.blk 1 rfl).below HB.o).two;by_cases hlt : i < len
  . have i0 : (0 : Int)<=(i : Int) := by omega
    have i1 : (i : Int) < (len : Int) := by omega
    have HM0 := LH9 HM.o.start;clear HM;obtain ⟨wo,rfl⟩ : ∃ wo : World,wo=wr := ⟨_,rfl⟩;go_wp2_with fail;clear a0 a1 b0 b1
    go_loopw [7,8] (fun c kk wr => ∃ (j cN : Nat) (q : List Nat),c=.int .u64 (cN : Nat)/\kk=.int .i64 (j : Nat)/\j<=len'/\Hid (Big.MulIn l l' q i j cN)/\Hid (Mem.Blk wr v.heap.size 141 (dv q).toArray)/\Hid (Below v.heap.size v wr)) (fun _ kk _ => len' - (intOf kk).toNat)
    case atStart => exact ⟨0,0,q,rfl,rfl,Nat.zero_le _,HM0.o,HQ.o,HB.o⟩
    case round =>
     clear HM0 HQ HB;obtain ⟨j,cN,q,rfl,rfl,hj,HM,HQ,HB⟩ := hrel;obtain ⟨a0,a1,-,-⟩ := ((HS.o.blk 2 rfl).below HB.o).two;obtain ⟨b0,b1,-,-⟩ := ((HS.o.blk 1 rfl).below HB.o).two;have j0 : (0 : Int)<=(j : Int) := by omega
     have hcar := HM.o.car;have hql : q.length=len + len' + 1 := by rw [HM.o.len,HL.o.1,HL'.o.1]
     have hij0 : (0 : Int)<=(i : Int) + (j : Int) := by omega
     have hij1 : (i : Int) + (j : Int) < ((len + len' + 1 : Nat) : Int) := by omega
     have hijn : ((i : Int) + (j : Int)).toNat=i + j := by omega
     have hqs := HQ.o.lt;by_cases hjl : j < len'
     . have j1 : (j : Int) < (len' : Int) := by omega
       have hz9 : wr.cell? ⟨v.heap.size,i + j,none⟩=some (.int .u64 ((q.getD (i + j) 0 : Nat) : Int)) := (HQ.o.cell (i + j)).trans (dv_get q (i + j) (by omega));obtain ⟨b,o,rfl,-,hx9⟩ := (HL.o.below (T.o.trans (HB.o.mono T.o.size))).at i hlt;obtain ⟨b',o',rfl,-,hy9⟩ := (HL'.o.below (T.o.trans (HB.o.mono T.o.size))).at j hjl;have hbd := Big.mul_bd (HN.o.1.getD i) (HN'.o.1.getD j) (HM.o.dig.getD (i + j)) hcar;have hst := HM.o.step HN.o.1 HN'.o.1 (by rw [HL.o.1]; exact hlt) (by rw [HL'.o.1]; exact hjl);have HST := LH9 hst;clear hst HM;generalize l.getD i 0=x at *;generalize l'.getD j 0=y at *;generalize q.getD (i + j) 0=z9 at *;have hq1 : IntKind.i64.wrap ((i : Int) + (j : Int))=(i : Int) + (j : Int) := IntWalk.i64_in _ (by omega);have hxy : (x : Int) * (y : Int)=((x * y : Nat) : Int) := by simp
       have hm1 : IntKind.u64.wrap ((x : Int) * (y : Int))=(x : Int) * (y : Int) := IntWalk.u64_in _ (by rw [hxy]; omega);have hm2 : IntKind.u64.wrap ((z9 : Int) + (x : Int) * (y : Int))=(z9 : Int) + (x : Int) * (y : Int) := IntWalk.u64_in _ (by rw [hxy]; omega);have hm3 : IntKind.u64.wrap ((z9 : Int) + (x : Int) * (y : Int) + (cN : Int))=(z9 : Int) + (x : Int) * (y : Int) + (cN : Int) := IntWalk.u64_in _ (by rw [hxy]; omega);have HXY := LH9 hxy;have HBD := LH9 hbd;clear hxy hbd;go_wp2_with fail;go_quiet (fail);have hV : (z9 : Int) + (x : Int) * (y : Int) + (cN : Int)=((z9 + x * y + cN : Nat) : Int) := by rw [HXY.o]; omega
       rw [hV];have hVb : z9 + x * y + cN < 4294967296 := HBD.o.2;clear hm1 hm2 hm3 hV HXY HBD hq1;generalize z9 + x * y + cN=V at *;have hV0 : (0 : Int)<=(V : Int) := by omega
       have hV1 : (V : Int) < 4294967296 := by omega
       have hQd : Mem.Blk (wr.drewN nq) v.heap.size 141 (dv q).toArray := (below_drewN (Below.refl wr.heap.size wr) nq).block v.heap.size hqs |>.trans HQ.o;have HQd := LH9 hQd;have HBd := LH9 (below_drewN HB.o nq);have hqs' : v.heap.size < (wr.drewN nq).heap.size := hQd.lt;have hfz : (wr.drewN nq).frozen? ⟨v.heap.size,i + j,none⟩=false := hQd.frozen (i + j);have hcl : (wr.drewN nq).cell? ⟨v.heap.size,i + j,none⟩=some (.int .u64 (z9 : Int)) := (hQd.cell (i + j)).trans ((HQ.o.cell (i + j)).symm.trans hz9);clear a0 a1 b0 b1 hQd HB HQ hz9 hx9 hy9;generalize wr.drewN nq=wd at *;have HQ2 := LH9 (HQd.o.set_ (i + j) (.int .u64 ((V : Int) % 65536)));rw [dv_set q (i + j) (V % 65536) _ (by omega)] at HQ2;have HB2 : Hid (Below v.heap.size v (wd.setCell ⟨v.heap.size,i + j,none⟩ (.int .u64 ((V : Int) % 65536)))) := HBd.o.setCell (Nat.le_refl _) _;go_wp2_with fail;go_roundw
       case rel => exact ⟨j + 1,V / 65536,_,by go_num,by go_num,by omega,HST.o,HQ2.o,HB2.o⟩
       case measure => simp [intOf]; omega
     . have j1 : ¬ (j : Int) < (len' : Int) := by omega
       obtain rfl : j=len' := by omega
       have hM2 : Big.MulIn l l' q i l'.length cN := by rw [HL'.o.1]; exact HM.o
       obtain ⟨hq0,hdone⟩ := hM2.done (by rw [HL.o.1]; exact hlt);rw [HL'.o.1] at hq0 hdone;have HDN := LH9 hdone;have HQ0 := LH9 hq0;clear hM2 hq0 hdone HM hjl;have hc1 : wr.cell? ⟨v.heap.size,i + j,none⟩=some (.int .u64 ((q.getD (i + j) 0 : Nat) : Int)) := (HQ.o.cell (i + j)).trans (dv_get q (i + j) (by omega));have hfz : wr.frozen? ⟨v.heap.size,i + j,none⟩=false := HQ.o.frozen (i + j);rw [HQ0.o] at hc1 HDN;have hq1 : IntKind.i64.wrap ((i : Int) + (j : Int))=(i : Int) + (j : Int) := IntWalk.i64_in _ (by omega);go_wp2_with fail;have hij2 : (i : Int) + (j : Int) < (len : Int) + (j : Int) + 1 := by omega
       clear a0 a1 b0;refine wp_region_till (S := fun W => W.cell? ⟨w.heap.size + 1,1,none⟩=some (.slice a' j cap')/\W.cell? ⟨v.heap.size,i + j,none⟩=some (.int .u64 ((0 : Nat) : Int))/\W.frozen? ⟨v.heap.size,i + j,none⟩=false) 17 (by kernel_rfl) ?_;refine tk 0 ⟨b1,hc1,hfz⟩ ?_;refine tk 1 ⟨b1,hc1,hfz⟩ ?_;refine tk 2 ⟨b1,hc1,hfz⟩ ?_;refine tk 3 ⟨b1,hc1,hfz⟩ ?_;refine tk 4 ⟨b1,hc1,hfz⟩ ?_;refine tk 5 ⟨b1,hc1,hfz⟩ ?_;refine tk 6 ⟨b1,hc1,hfz⟩ ?_;refine tk 7 ⟨b1,hc1,hfz⟩ ?_;refine tk 8 ⟨b1,hc1,hfz⟩ ?_;refine tk 9 ⟨b1,hc1,hfz⟩ ?_;refine tk 10 ⟨b1,hc1,hfz⟩ ?_;refine tk 11 ⟨b1,hc1,hfz⟩ ?_;refine tk 12 ⟨b1,hc1,hfz⟩ ?_;refine tk 13 ⟨b1,hc1,hfz⟩ ?_;refine tk 14 ⟨b1,hc1,hfz⟩ ?_;refine tk 15 ⟨b1,hc1,hfz⟩ ?_;refine tk 16 ⟨b1,hc1,hfz⟩ ?_;refine tl9 (fun K' hK=>?_);go_simp;have HQ3 := LH9 (HQ.o.set_ (i + j) (.int .u64 (cN : Int)));rw [dv_set q (i + j) (0 + cN) _ (by omega)] at HQ3;have HB3 : Hid (Below v.heap.size v (wr.setCell ⟨v.heap.size,i + j,none⟩ (.int .u64 (cN : Int)))) := HB.o.setCell (Nat.le_refl _) _;refine hK _ _ ?_;clear hK K' b1 hc1 hfz;refine wd9 ?_;go_wp2_with fail;go_roundw
       case rel => exact ⟨i + 1,_,by go_num,by omega,HDN.o,HQ3.o.drew,HB3.o.drew⟩
       case measure => simp [intOf]; omega
  . have i1 : ¬ (i : Int) < (len : Int) := by omega
    obtain rfl : i=len := by omega
    have hM2 : Big.MulOut l l' q l.length := by rw [HL.o.1]; exact HM.o
    have hall := hM2.all;have hql : q.length=i + len' + 1 := by rw [HM.o.len,HL.o.1,HL'.o.1]
    have hqn : Nums wr (some ⟨v.heap.size,0,none⟩) (i + len' + 1) (i + len' + 1) q := by
     refine ⟨hql,Nat.le_refl _,by omega,fun hp => ⟨v.heap.size,0,rfl,HQ.o.lt,fun k x hx => ?_⟩⟩;rw [HQ.o.cell,Nat.zero_add]; simp [dv,hx]
    have hmt := hqn.take (Big.trim q).length (by rw [<- hql]; exact trim_le q);rw [<- trim_len] at hmt;have FQ := LH9 (MagR.trim hmt HM.o.dig);rw [hall] at FQ;have HQN := LH9 hqn;clear hM2 hall hqn hmt HM hlt;go_wp2_with fail;clear a1 b1;refine wp_region_till (S := fun W => W.cell? ⟨w.heap.size,0,none⟩=some (.bool s)/\W.cell? ⟨w.heap.size + 1,0,none⟩=some (.bool s')) 8 (by kernel_rfl) ?_;refine tk 0 ⟨a0,b0⟩ ?_;refine tk 1 ⟨a0,b0⟩ ?_;refine tk 2 ⟨a0,b0⟩ ?_;refine tk 3 ⟨a0,b0⟩ ?_;refine tk 4 ⟨a0,b0⟩ ?_;refine tk 5 ⟨a0,b0⟩ ?_;refine t19 6 (fun K' hK=>?_);go_simp;go_at_call 76;(with_reducible refine (trim_any _ _ _ q _ (HQN.o.below (Below.refl _ _).drew)).mono ?_);rintro e w' ⟨rfl,rfl⟩;refine hK _ _ ⟨a0,b0⟩ ?_;clear hK K'
    try simp only [Act.put,zp1,zp2,zp3,zp4,zp5,zp6]
    refine t19 7 (fun K' hK=>?_);go_simp;go_at_call 72;(with_reducible refine (sign_any _ _ _ _ (FQ.o.below (Below.refl _ _).drew)).mono ?_);rintro e w2 ⟨⟨r2,rfl,hr2⟩,b2⟩;rw [show sg (!s == s') (Big.val l * Big.val l')=ZZ from HSG.o] at hr2;have HB2 := LH9 (HB.o.drew.trans (b2.mono HB.o.drew.size));have HS2 := LH9 (HS.o.below HB2.o);have HR2 := LH9 hr2;obtain ⟨m2,rfl,a2,len2,cap2,l2,rfl,-,-,-⟩ := hr2;clear b2 a0 b0 HB HS HQN FQ HQ;obtain ⟨a0,-,-,-⟩ := (HS2.o.blk 2 rfl).two;obtain ⟨b0,-,-,-⟩ := (HS2.o.blk 1 rfl).two;refine hK _ _ ⟨a0,b0⟩ ?_;clear hK K'
    try simp only [Act.put,zp1,zp2,zp3,zp4,zp5,zp6]
    refine tl9 (fun K' hK=>?_);have hB0 := HS2.o.blk 0 rfl;obtain ⟨r0,r1,r3,r4⟩ := hB0.two;have hrl := hB0.lt;have HRP := LH9 (HR2.o.put2 (x := .bool (decide (ZZ < 0))) (y := .slice a2 len2 cap2) (HS2.o.blk 0 rfl));have hBN := (hB0.set_ 0 (.bool (decide (ZZ < 0)))).set_ 1 (.slice a2 len2 cap2);have HBN := LH9 hBN;have hbw := T.o.trans (HB2.o.mono T.o.size);have HBW := LH9 ((hbw.setCell (p := ⟨w.heap.size + 1 + 1,0,none⟩) (by show w.heap.size<=w.heap.size + 1 + 1; omega) (.bool (decide (ZZ < 0)))).setCell (p := ⟨w.heap.size + 1 + 1,1,none⟩) (by show w.heap.size<=w.heap.size + 1 + 1; omega) (.slice a2 len2 cap2));clear hbw;clear hB0 hBN a0 b0;go_simp;refine hK _ _ ?_;clear hK K';refine wd9 ?_;go_wp2_with fail;generalize (w2.setCell ⟨w.heap.size + 1 + 1,0,none⟩ (.bool (decide (ZZ < 0)))).setCell ⟨w.heap.size + 1 + 1,1,none⟩ (.slice a2 len2 cap2)=W9 at *;obtain ⟨g5,g6,-,-⟩ := (show Mem.Blk W9 (w.heap.size + 1 + 1) 122 #[.bool (decide (ZZ < 0)),.slice a2 len2 cap2] from HBN.o).two;exact bodyPost_ret (v := .agg #[.bool (decide (ZZ < 0)),.slice a2 len2 cap2]) (by simp [results,Tryz.results58,go_sem,g5,g6]) rfl ⟨⟨_,rfl,HRP.o⟩,HBW.o⟩
end
section
theorem sg_over (z z' : Int) (h : z' ≠ 0) : sg (decide (z < 0) != decide (z' < 0)) (if (decide (z < 0) != decide (z' < 0))=true/\0 < z.natAbs % z'.natAbs then z.natAbs / z'.natAbs + 1 else z.natAbs / z'.natAbs)=z.fdiv z' := by
 rw [fdiv_abs z z' h];unfold sg;by_cases a : decide (z < 0)=decide (z' < 0)
 . have : (decide (z < 0) != decide (z' < 0))=false := by rw [a]; simp
   rw [this,if_pos a]; simp
 . have : (decide (z < 0) != decide (z' < 0))=true := by simpa [bne] using a
   rw [this,if_neg a];by_cases b : 0 < z.natAbs % z'.natAbs
   . rw [if_pos rfl,if_pos ⟨rfl,b⟩,if_pos b]; omega
   . rw [if_pos rfl,if_neg (fun h => b h.2),if_neg b]
theorem one_mag (w : World) : MagR (w.alloc (.cells #[.int .u64 1] 141)) (.slice (some ⟨w.heap.size,0,none⟩) 1 1) 1 := by
 refine ⟨_,_,_,[1],rfl,⟨rfl,Nat.le_refl _,by decide,fun _ => ⟨w.heap.size,0,rfl,by simp,fun j y hy => ?_⟩⟩,⟨by intro d hd; simp at hd; omega,by intro d hd; simp at hd; omega⟩,rfl⟩;have := (Mem.Blk.new w 141 #[.int .u64 1]).cell (0 + j);rw [this,Nat.zero_add]
 match j,hy with
 | 0,hy => simp at hy; subst hy; rfl
 | k + 1,hy => simp at hy
theorem over1_any (u v : Value) (z z' : Int) (w : World) (hu : BigR w u z) (hv : BigR w v z') (h0 : z' ≠ 0) (bn : Md z.natAbs) (bn' : Md z'.natAbs) :
 Calls Tryz.prog 110 #[u,v,.int .i64 1] w fun e w' => (∃ r,e=.returned r/\BigR w' r (z.fdiv z'))/\Below w.heap.size w w' := by
 obtain ⟨m,rfl,hm⟩ := hu;obtain ⟨m',rfl,hm'⟩ := hv;have HU := LH9 hm;have HV := LH9 hm';obtain ⟨a,len,cap,l,rfl,-,-,-⟩ := hm;obtain ⟨a',len',cap',l',rfl,-,-,-⟩ := hm';have HSG := LH9 (sg_over z z' h0);have HPOS : Hid (0 < z'.natAbs) := by show _ < _; omega
 have HM := LH9 bn;have HM' := LH9 bn';clear h0 bn bn';generalize z.fdiv z'=ZZ at *;generalize decide (z < 0)=s at *;generalize decide (z' < 0)=s' at *;generalize z.natAbs=A at *;generalize z'.natAbs=B at *;have HS := LH9 ((((Sep.nil w).new 122 #[.bool s,.slice a len cap]).new 122 #[.bool s',.slice a' len' cap']).new 122 #[.bool false,.slice none 0 0]);have e1 : (w.alloc (.cells #[.bool s,.slice a len cap] 122)).heap.size=w.heap.size + 1 := by simp
 have e2 : ((w.alloc (.cells #[.bool s,.slice a len cap] 122)).alloc (.cells #[.bool s',.slice a' len' cap'] 122)).heap.size=w.heap.size + 1 + 1 := by simp
 rw [e1,e2] at HS;have T := LH9 ((((Below.refl _ w).alloc (Nat.le_refl _) (.cells #[.bool s,.slice a len cap] 122)).alloc (by simp) (.cells #[.bool s',.slice a' len' cap'] 122)).alloc (by simp; omega) (.cells #[.bool false,.slice none 0 0] 122));clear e1 e2
 go_enter Tryz.func110,Tryz.ntmps110
 go_upto_region 1 with (fail);generalize ((w.alloc (.cells #[.bool s,.slice a len cap] 122)).alloc (.cells #[.bool s',.slice a' len' cap'] 122)).alloc (.cells #[.bool false,.slice none 0 0] 122)=v at *;obtain ⟨a0,a1,-,-⟩ := (HS.o.blk 2 rfl).two;obtain ⟨b0,b1,-,-⟩ := (HS.o.blk 1 rfl).two;go_wp2_with fail;go_at_call 134;(with_reducible refine (div_any _ _ A B _ (HU.o.below T.o) (HV.o.below T.o) HPOS.o HM.o HM'.o).mono ?_);rintro e w1 ⟨⟨q,r,rfl,hq,hr⟩,b1'⟩;have HW1 := LH9 b1';have HQ := LH9 hq;have HR := LH9 hr;obtain ⟨ar,lr,cr,dr,rfl,n1,n2,n3⟩ := hr;have hz := MagR.zero n1 n2 n3;clear n1 n2 n3 hq a0 a1 b0 b1 b1';obtain ⟨a0,a1,-,-⟩ := ((HS.o.blk 2 rfl).below HW1.o).two;obtain ⟨b0,b1,-,-⟩ := ((HS.o.blk 1 rfl).below HW1.o).two;have HRS : Hid (Sm (A % B)) := (Sm.of (Nat.lt_of_lt_of_le (Nat.lt_trans (Nat.mod_lt _ HPOS.o) HM'.o.lt) (Big.pw_mono (by omega))));have HQS : Hid (Sm (A / B)) := (Sm.of (Nat.lt_of_lt_of_le (Nat.lt_of_le_of_lt (Nat.div_le_self _ _) HM.o.lt) (Big.pw_mono (by omega))));have HS1 : Hid (Sm 1) := Sm.of (Nat.lt_of_lt_of_le (show 1 < Big.pw 1 by decide) (Big.pw_mono (by decide)));generalize A / B=qq at *;generalize A % B=rr at *;go_wp2_with fail;clear a0 a1 b0;refine wp_region_till (S := fun W => W.cell? ⟨w.heap.size + 1,1,none⟩=some (.slice a' len' cap')) 5 (by kernel_rfl) ?_;refine tk 0 b1 ?_;refine tk 1 b1 ?_;refine tk 3 b1 ?_;refine tk 4 b1 ?_;refine t19 2 (fun K' hK=>?_);go_simp;go_at_call 73;(with_reducible refine (add_any _ _ rr rr _ (HR.o.below (Below.refl _ _).drew) (HR.o.below (Below.refl _ _).drew) HRS.o.lt HRS.o.lt).mono ?_);rintro e w2 ⟨⟨r2,rfl,hr2⟩,b2⟩;have HW2 := LH9 (HW1.o.drew.trans (b2.mono HW1.o.drew.size));have HR2 := LH9 hr2;have HQ2 := LH9 (HQ.o.below ((Below.refl _ _).drew.trans b2));clear b1 b2 hr2 HR HQ HW1;obtain ⟨b0,b1,-,-⟩ := ((HS.o.blk 1 rfl).below HW2.o).two;refine hK _ _ b1 ?_;clear hK K'
 try simp only [Act.put,zp1,zp2,zp3,zp4,zp5,zp6]
 refine tl9 (fun K' hK=>?_);go_simp;go_at_call 74;(with_reducible refine (cmpm_any _ _ (rr + rr) B _ HR2.o (HV.o.below (T.o.trans (HW2.o.mono T.o.size)))).mono ?_);rintro e w3 ⟨rfl,b3⟩;have HW3 := bt9 HW2 b3;have HQ3 := LH9 (HQ2.o.below b3);clear b3 b0 b1 HR2 HQ2 HW2;generalize cmpN (rr + rr) B=tw at *;refine hK _ _ ?_;clear hK K'
 try simp only [Act.put,zp1,zp2,zp3,zp4,zp5,zp6]
 refine ak 6 ?_;refine wd9 ?_;obtain ⟨aq,lq,cq,dq,rfl,-,-,-⟩ := id HQ3.o;generalize hne : (s != s')=ne at *
 cases ne with
 | false =>
   have hne' : (!s == s')=false := hne;rw [if_neg (fun h => absurd h.1 (by decide))] at HSG;have HNE := LH9 hne;clear hne;go_wp2_with fail;go_at_call 72;(with_reducible refine (sign_any _ _ _ _ HQ3.o).mono ?_);rintro e w7 ⟨⟨r7,rfl,hr7⟩,b7⟩;rw [HSG.o] at hr7;have HB7 := bt9 HW3 b7;have HS7 := LH9 (HS.o.below HB7.o);have HR7 := LH9 hr7;obtain ⟨m2,rfl,a2,len2,cap2,l2,rfl,-,-,-⟩ := hr7;clear b7 HW3 HS HQ3;exact Z7_39
 | true =>
   have hne' : (!s == s')=true := hne;have HNE := LH9 hne;clear hne;by_cases hlr : lr=0
   . have hrr := hz.1 hlr;subst hrr;subst hlr;rw [if_neg (fun h => absurd h.2 (by decide))] at HSG;go_wp2_with fail;go_at_call 72;(with_reducible refine (sign_any _ _ _ _ HQ3.o).mono ?_);rintro e w7 ⟨⟨r7,rfl,hr7⟩,b7⟩;rw [HSG.o] at hr7;have HB7 := bt9 HW3 b7;have HS7 := LH9 (HS.o.below HB7.o);have HR7 := LH9 hr7;obtain ⟨m2,rfl,a2,len2,cap2,l2,rfl,-,-,-⟩ := hr7;clear b7 HW3 HS HQ3;exact Z7_39
   . have hrr : 0 < rr := Nat.pos_of_ne_zero (fun h => hlr (hz.2 h));have hlr0 : (0 : Int) < (lr : Int) := by omega
     rw [if_pos ⟨rfl,hrr⟩] at HSG;clear hz hlr hrr;have hal := (Below.refl w3.heap.size w3).alloc (Nat.le_refl _) (.cells #[.int .u64 1] 141);have HQ4 := LH9 (HQ3.o.below hal);have HO4 := LH9 (one_mag w3);have HW4 := bt9 HW3 hal;clear hal HQ3 HW3;go_wp2_with fail;go_at_call 73;(with_reducible refine (add_any _ _ qq 1 _ HQ4.o HO4.o HQS.o.lt HS1.o.lt).mono ?_);rintro e w5 ⟨⟨r5,rfl,hr5⟩,b5⟩;have HW5 := bt9 HW4 b5;have HQ5 := LH9 hr5;clear b5 hr5 HQ4 HO4 HW4;obtain ⟨aq5,lq5,cq5,dq5,rfl,-,-,-⟩ := id HQ5.o;go_wp2_with fail;go_at_call 72;(with_reducible refine (sign_any _ _ _ _ HQ5.o).mono ?_);rintro e w7 ⟨⟨r7,rfl,hr7⟩,b7⟩;rw [HSG.o] at hr7;have HB7 := bt9 HW5 b7;have HS7 := LH9 (HS.o.below HB7.o);have HR7 := LH9 hr7;obtain ⟨m2,rfl,a2,len2,cap2,l2,rfl,-,-,-⟩ := hr7;clear b7 HW5 HS HQ5;exact Z7_39
end
section
theorem Md.i64 {z : Int} (h : I64 z) : Md z.natAbs := by
 unfold I64 at h;refine Md.of (Nat.lt_of_lt_of_le ?_ (Big.pw_mono (show 5<=900 by decide)));show z.natAbs < 65536 ^ 5;omega
theorem Sm.big {n : Nat} (h : n<=340282366920938463463374607431768211456) : Sm n := by
 refine Sm.of (Nat.lt_of_lt_of_le ?_ (Big.pw_mono (show 9<=1000000 by decide)));show n < 65536 ^ 9;omega
theorem sm_fit (z : Int) : Ending.returned (.tuple #[.int .i64 (smN z),.bool (smB z)])=fitR (fitI z) := by
 unfold fitR fitN fitB fitI smN smB;by_cases h : -9223372036854775808<=z/\z<=9223372036854775807
 . rw [if_pos h]; simp [h]
 . rw [if_neg h]; simp [h]
theorem fdiv_bd {a c : Int} (h : I64 a) (hc : c ≠ 0) : (a.fdiv c).natAbs<=9223372036854775809 := by
 rw [fdiv_abs a c hc];have h1 : a.natAbs / c.natAbs<=a.natAbs := Nat.div_le_self _ _;unfold I64 at h;generalize a.natAbs / c.natAbs=q at *;generalize a.natAbs % c.natAbs=r at *;have h2 : a.natAbs<=9223372036854775808 := by omega
 repeat' split
 all_goals omega
theorem rmuldiv_any (a c : Int) (w : World) (ha : I64 a) (hI : I64 c) : Calls Tryz.prog 89 #[.int .i64 a,.int .i64 1,.int .i64 c,.int .i64 1] w fun e w' => e=fitR (if c=0 then none else fitI (a.fdiv c))/\Below w.heap.size w w' := by
 by_cases hc : c=0
 . subst hc;rw [if_pos rfl];have e : fitR none=.returned (.tuple #[.int .i64 0,.bool false]) := rfl;rw [e];clear e ha hI
   go_enter Tryz.func89,Tryz.ntmps89
   go_wp2_with fail;go_ret2;exact ⟨rfl,Below.refl _ _⟩
 . rw [if_neg hc];have HF := LH9 (sm_fit (a.fdiv c));have HZ := LH9 (Sm.big (n := (a.fdiv c).natAbs) (by have := fdiv_bd ha hc; omega));have HA := LH9 ha;have HI := LH9 hI;have HC := LH9 hc;have h1 : (c == 0)=false := beq_eq_false_iff_ne.2 hc;have HAM : Hid (Md (a * 1).natAbs) := by show Md _; rw [Int.mul_one]; exact Md.i64 ha
   have HA1 : Hid ((a * 1).fdiv c=a.fdiv c) := by show _=_; rw [Int.mul_one]
   unfold I64 at ha hI;clear hc;obtain ⟨ha1,ha2⟩ := ha;obtain ⟨hI1,hI2⟩ := hI;generalize a.fdiv c=ZZ at *
   go_enter Tryz.func89,Tryz.ntmps89
   go_wp2_with fail;go_at_call 46;(with_reducible refine (bigof_any a _ ha1 ha2).mono ?_);rintro e w1 ⟨⟨r1,rfl,hr1⟩,b1⟩;have HW1 := LH9 b1;have HR1 := LH9 hr1;clear b1 hr1;go_wp2_with fail;go_at_call 46;(with_reducible refine (bigof_any 1 _ (by decide) (by decide)).mono ?_);rintro e w2 ⟨⟨r2,rfl,hr2⟩,b2⟩;have HW2 := bt9 HW1 b2;have HR2 := LH9 hr2;have HR1' := LH9 (HR1.o.below b2);clear b2 hr2 HR1 HW1;go_wp2_with fail;go_at_call 58;(with_reducible refine (times_any _ _ a 1 _ HR1'.o HR2.o (Md.i64 HA.o) (Md.i64 (by unfold I64; omega))).mono ?_);rintro e w3 ⟨⟨r3,rfl,hr3⟩,b3⟩;have HW3 := bt9 HW2 b3;have HR3 := LH9 hr3;clear b3 hr3 HR1' HR2 HW2;go_wp2_with fail;go_at_call 46;(with_reducible refine (bigof_any c _ hI1 hI2).mono ?_);rintro e w4 ⟨⟨r4,rfl,hr4⟩,b4⟩;have HW4 := bt9 HW3 b4;have HR4 := LH9 hr4;have HR3' := LH9 (HR3.o.below b4);clear b4 hr4 HR3 HW3;go_wp2_with fail;go_at_call 110;(with_reducible refine (over1_any _ _ (a * 1) c _ HR3'.o HR4.o HC.o HAM.o (Md.i64 HI.o)).mono ?_);rintro e w5 ⟨⟨r5,rfl,hr5⟩,b5⟩;rw [HA1.o] at hr5;have HW5 := bt9 HW4 b5;have HR5 := LH9 hr5;clear b5 hr5 HR3' HR4 HW4;go_wp2_with fail;go_at_call 47;(with_reducible refine (small_any _ ZZ _ HR5.o HZ.o).mono ?_);rintro e w6 ⟨rfl,b6⟩;have HW6 := bt9 HW5 b6;clear b6 HR5 HW5;generalize smN ZZ=sn at *;generalize smB ZZ=sb at *;go_wp2_with fail;go_ret2;exact ⟨HF.o,HW6.o⟩
theorem big_form {w : World} {r : Value} {z : Int} (h : BigR w r z) : ∃ n a len cap,r=.agg #[.bool n,.slice a len cap] := by
 obtain ⟨m,rfl,a,len,cap,l,rfl,-,-,-⟩ := h;exact ⟨_,a,len,cap,rfl⟩
theorem made_any (op a b : Int) (w : World) (ha : I64 a) (hb : I64 b) : Calls Tryz.prog 61 #[.int .i64 op,.int .i64 a,.int .i64 b] w fun e w' => e=fitR (madeM op a b)/\Below w.heap.size w w' := by
 have HA := LH9 ha;have HB := LH9 hb;have HMD := LH9 (show madeM op a b=if op=5 then fitI (a + b) else if op=6 then fitI (a - b) else if op=7 then fitI (a * b) else if op=8 then (if b=0 then none else fitI (a.fdiv b)) else if op=9\/op=10 then (if (decide (a < b))=(decide (op=9)) then some a else some b) else if op=20 then fitI (-a) else none from rfl);have HS5 : Hid (Sm (a + b).natAbs) := Sm.big (by unfold I64 at ha hb; omega);have HS6 : Hid (Sm (a + -b).natAbs) := Sm.big (by unfold I64 at ha hb; omega);have HS7 : Hid (Sm (a * b).natAbs) := Sm.big (by
  rw [Int.natAbs_mul];have h1 : a.natAbs<=9223372036854775808 := by unfold I64 at ha; omega
  have h2 : b.natAbs<=9223372036854775808 := by unfold I64 at hb; omega
  exact Nat.le_trans (Nat.mul_le_mul h1 h2) (by decide))
 have HS20 : Hid (Sm (-a).natAbs) := Sm.big (by unfold I64 at ha; omega);have HSA : Hid (Sm a.natAbs) := Sm.big (by unfold I64 at ha; omega);have HSB : Hid (Sm b.natAbs) := Sm.big (by unfold I64 at hb; omega);have HSB' : Hid (Sm (-b).natAbs) := Sm.big (by unfold I64 at hb; omega);unfold I64 at ha hb;obtain ⟨ha1,ha2⟩ := ha;obtain ⟨hb1,hb2⟩ := hb;generalize madeM op a b=R at *
 go_enter Tryz.func61,Tryz.ntmps61
 go_wp2_with fail;go_at_call 46;(with_reducible refine (bigof_any a _ ha1 ha2).mono ?_);rintro e w1 ⟨⟨r1,rfl,hr1⟩,b1⟩;obtain ⟨n1,p1,l1,c1,rfl⟩ := big_form hr1;have HW1 := LH9 b1;have HR1 := LH9 hr1;clear b1 hr1;go_wp2_with fail;go_at_call 46;(with_reducible refine (bigof_any b _ hb1 hb2).mono ?_);rintro e w2 ⟨⟨r2,rfl,hr2⟩,b2⟩;obtain ⟨n2,p2,l2,c2,rfl⟩ := big_form hr2;have hal := ((Below.refl w2.heap.size w2).alloc (Nat.le_refl _) (.cells #[.bool n1,.slice p1 l1 c1] 122)).alloc (by simp) (.cells #[.bool n2,.slice p2 l2 c2] 122);have HV := LH9 (HW1.o.trans ((b2.trans (hal.mono b2.size)).mono HW1.o.size));have HRA := LH9 ((HR1.o.below b2).below hal);have HRB := LH9 (hr2.below hal);have HS := LH9 (((Sep.nil w2).new 122 #[.bool n1,.slice p1 l1 c1]).new 122 #[.bool n2,.slice p2 l2 c2]);rw [show (w2.alloc (.cells #[.bool n1,.slice p1 l1 c1] 122)).heap.size=w2.heap.size + 1 by simp] at HS;clear hal b2 hr2 HR1 HW1;go_upto_region 2 with (fail);generalize (w2.alloc (.cells #[.bool n1,.slice p1 l1 c1] 122)).alloc (.cells #[.bool n2,.slice p2 l2 c2] 122)=v at *;generalize w2.heap.size=h at *;obtain ⟨a0,a1,-,-⟩ := (HS.o.blk 1 rfl).two;obtain ⟨b0,b1,-,-⟩ := (HS.o.blk 0 rfl).two;by_cases h5 : op=5
 . obtain rfl : R=fitI (a + b) := by rw [HMD.o,if_pos h5]
   subst h5;have HFT := LH9 (sm_fit (a + b));clear HMD;go_wp2_with fail;go_at_call 45;(with_reducible refine (plus_any _ _ a b _ HRA.o HRB.o HSA.o HSB.o).mono ?_);rintro e w3 ⟨⟨r3,rfl,hr3⟩,b3⟩;have HW3 := bt9 HV b3;have HR3 := LH9 hr3;clear b3 hr3 HRA HRB HV HS a0 a1 b0 b1;go_wp2_with fail;go_at_call 47;(with_reducible refine (small_any _ (a + b) _ HR3.o HS5.o).mono ?_);rintro e w4 ⟨rfl,b4⟩;have HW4 := bt9 HW3 b4;clear b4 HR3 HW3;generalize smN (a + b)=sn at *;generalize smB (a + b)=sb at *;go_wp2_with fail;go_ret2;exact ⟨HFT.o,HW4.o⟩
 have n5 : (op == 5)=false := beq_eq_false_iff_ne.2 h5;rw [if_neg h5] at HMD;clear h5;by_cases h6 : op=6
 . obtain rfl : R=fitI (a + -b) := by rw [HMD.o,if_pos h6]; rfl
   subst h6;have HFT := LH9 (sm_fit (a + -b));clear HMD n5;go_wp2_with fail;refine wp_region_till (S := fun W => (W.cell? ⟨h,0,none⟩=some (.bool n1)/\W.cell? ⟨h,1,none⟩=some (.slice p1 l1 c1))/\W.cell? ⟨h + 1,0,none⟩=some (.bool n2)/\W.cell? ⟨h + 1,1,none⟩=some (.slice p2 l2 c2)) 3 (by kernel_rfl) ?_;refine tk 0 ⟨⟨a0,a1⟩,b0,b1⟩ ?_;refine tk 1 ⟨⟨a0,a1⟩,b0,b1⟩ ?_;refine t19 2 (fun K' hK=>?_);go_simp;go_at_call 88;(with_reducible refine (minus_any _ b _ (HRB.o.below (Below.refl _ _).drew)).mono ?_);rintro e w3 ⟨⟨r3,rfl,hr3⟩,b3⟩;have HU3 : Hid (Below v.heap.size v w3) := (Below.refl _ _).drew.trans b3;have HR3 := LH9 hr3;clear b3 hr3 a0 a1 b0 b1;obtain ⟨a0,a1,-,-⟩ := ((HS.o.blk 1 rfl).below HU3.o).two;obtain ⟨b0,b1,-,-⟩ := ((HS.o.blk 0 rfl).below HU3.o).two;refine hK _ _ ⟨⟨a0,a1⟩,b0,b1⟩ ?_;clear hK K'
   try simp only [Act.put,zp1,zp2,zp3,zp4,zp5,zp6]
   refine tl9 (fun K' hK=>?_);go_simp;go_at_call 45;(with_reducible refine (plus_any _ _ a (-b) _ (HRA.o.below HU3.o) HR3.o HSA.o HSB'.o).mono ?_);rintro e w4 ⟨⟨r4,rfl,hr4⟩,b4⟩;have HW4 := LH9 (HV.o.trans ((HU3.o.trans (b4.mono HU3.o.size)).mono HV.o.size));have HR4 := LH9 hr4;clear b4 hr4 HRA HRB HV HS HR3 HU3 a0 a1 b0 b1;refine hK _ _ ?_;clear hK K'
   try simp only [Act.put,zp1,zp2,zp3,zp4,zp5,zp6]
   refine any_one (i := 4) (by kernel_rfl) rfl (fun K' hK => ?_);go_simp;go_at_call 47;(with_reducible refine (small_any _ (a + -b) _ HR4.o HS6.o).mono ?_);rintro e w5 ⟨rfl,b5⟩;have HW5 := bt9 HW4 b5;clear b5 HR4 HW4;generalize smN (a + -b)=sn at *;generalize smB (a + -b)=sb at *;refine hK _ _ ?_;clear hK K'
   try simp only [Act.put,zp1,zp2,zp3,zp4,zp5,zp6]
   refine ak 5 ?_;refine ak 6 ?_;refine ak 7 ?_;refine ak 8 ?_;refine wd9 ?_;go_wp2_with fail;go_ret2;exact ⟨HFT.o,HW5.o⟩
 have n6 : (op == 6)=false := beq_eq_false_iff_ne.2 h6;rw [if_neg h6] at HMD;clear h6;by_cases h7 : op=7
 . obtain rfl : R=fitI (a * b) := by rw [HMD.o,if_pos h7]
   subst h7;have HFT := LH9 (sm_fit (a * b));clear HMD n5 n6;go_wp2_with fail;go_at_call 58;(with_reducible refine (times_any _ _ a b _ HRA.o HRB.o (Md.i64 HA.o) (Md.i64 HB.o)).mono ?_);rintro e w3 ⟨⟨r3,rfl,hr3⟩,b3⟩;have HW3 := bt9 HV b3;have HR3 := LH9 hr3;clear b3 hr3 HRA HRB HV HS a0 a1 b0 b1;go_wp2_with fail;go_at_call 47;(with_reducible refine (small_any _ (a * b) _ HR3.o HS7.o).mono ?_);rintro e w4 ⟨rfl,b4⟩;have HW4 := bt9 HW3 b4;clear b4 HR3 HW3;generalize smN (a * b)=sn at *;generalize smB (a * b)=sb at *;go_wp2_with fail;go_ret2;exact ⟨HFT.o,HW4.o⟩
 have n7 : (op == 7)=false := beq_eq_false_iff_ne.2 h7;rw [if_neg h7] at HMD;clear h7;by_cases h8 : op=8
 . have hR : R=(if b=0 then none else fitI (a.fdiv b)) := by rw [HMD.o,if_pos h8]
   subst h8;have hC := rmuldiv_any a b v HA.o HB.o;rw [<- hR] at hC;have HC := LH9 hC;clear HMD n5 n6 n7 a0 a1 b0 b1 hR hC;go_wp2_with fail;go_at_call 89;(with_reducible refine HC.o.mono ?_);rintro e w3 ⟨rfl,b3⟩;have HW3 := bt9 HV b3;clear b3 HC HRA HRB HS HV;unfold fitR;go_wp2_with fail;go_ret2;exact ⟨rfl,HW3.o⟩
 have n8 : (op == 8)=false := beq_eq_false_iff_ne.2 h8;rw [if_neg h8] at HMD;clear h8;by_cases h9 : op=9
 . subst h9;by_cases hab : a < b
   . obtain rfl : R=some a := by rw [HMD.o]; simp [hab]
     clear HMD n5 n6 n7 n8 a0 a1 b0 b1;go_wp2_with fail;go_ret2;exact ⟨rfl,HV.o⟩
   . obtain rfl : R=some b := by rw [HMD.o]; simp [hab]
     clear HMD n5 n6 n7 n8 a0 a1 b0 b1;go_wp2_with fail;go_ret2;exact ⟨rfl,HV.o⟩
 have n9 : (op == 9)=false := beq_eq_false_iff_ne.2 h9;by_cases h10 : op=10
 . subst h10;by_cases hab : a < b
   . obtain rfl : R=some b := by rw [HMD.o]; simp [hab]
     clear HMD n5 n6 n7 n8 n9 a0 a1 b0 b1;go_wp2_with fail;go_ret2;exact ⟨rfl,HV.o⟩
   . obtain rfl : R=some a := by rw [HMD.o]; simp [hab]
     clear HMD n5 n6 n7 n8 n9 a0 a1 b0 b1;go_wp2_with fail;go_ret2;exact ⟨rfl,HV.o⟩
 have n10 : (op == 10)=false := beq_eq_false_iff_ne.2 h10;rw [if_neg (by omega)] at HMD;clear h9 h10;by_cases h20 : op=20
 . obtain rfl : R=fitI (-a) := by rw [HMD.o,if_pos h20]
   subst h20;have HFT := LH9 (sm_fit (-a));clear HMD n5 n6 n7 n8 n9 n10;go_wp2_with fail;go_at_call 88;(with_reducible refine (minus_any _ a _ HRA.o).mono ?_);rintro e w3 ⟨⟨r3,rfl,hr3⟩,b3⟩;have HW3 := bt9 HV b3;have HR3 := LH9 hr3;clear b3 hr3 HRA HRB HV HS a0 a1 b0 b1;go_wp2_with fail;go_at_call 47;(with_reducible refine (small_any _ (-a) _ HR3.o HS20.o).mono ?_);rintro e w4 ⟨rfl,b4⟩;have HW4 := bt9 HW3 b4;clear b4 HR3 HW3;generalize smN (-a)=sn at *;generalize smB (-a)=sb at *;go_wp2_with fail;go_ret2;exact ⟨HFT.o,HW4.o⟩
 have n20 : (op == 20)=false := beq_eq_false_iff_ne.2 h20;obtain rfl : R=none := by rw [HMD.o,if_neg h20]
 clear HMD h20 a0 a1 b0 b1;go_wp2_with fail;go_ret2;exact ⟨rfl,HV.o⟩
end
section
theorem mul_big {a b : Int} (ha : I64 a) (hb : I64 b) : Sm (a * b).natAbs := by
 refine Sm.big ?_;rw [Int.natAbs_mul];unfold I64 at ha hb;have h1 : a.natAbs<=9223372036854775808 := by omega
 have h2 : b.natAbs<=9223372036854775808 := by omega
 exact Nat.le_trans (Nat.mul_le_mul h1 h2) (by decide)
theorem rfactor_any (a b : Int) (w : World) (ha : I64 a) (hb : I64 b) : Calls Tryz.prog 31 #[.int .i64 a,.int .i64 b] w fun e w' => e=fitR (fitI (a * b))/\Below w.heap.size w w' := by
 rw [<- sm_fit];have HA := LH9 ha;have HB := LH9 hb;have HSM := LH9 (mul_big ha hb);obtain ⟨z,hz⟩ : ∃ z,z=a * b := ⟨_,rfl⟩;rw [<- hz] at HSM ⊢;have HZ := LH9 hz;clear ha hb hz
 go_enter Tryz.func31,Tryz.ntmps31
 go_wp2_with fail;go_at_call 46;(with_reducible refine (bigof_any a w (by have := HA.o; unfold I64 at this; omega) (by have := HA.o; unfold I64 at this; omega)).mono ?_);rintro y w1 ⟨⟨r,rfl,hr⟩,b1⟩;have HR := LH9 hr;have HB1 := LH9 b1;clear hr b1;go_wp2_with fail;go_at_call 46;(with_reducible refine (bigof_any b w1 (by have := HB.o; unfold I64 at this; omega) (by have := HB.o; unfold I64 at this; omega)).mono ?_);rintro y w2 ⟨⟨r',rfl,hr'⟩,b2⟩;have HR' := LH9 hr';have HR2 := LH9 (HR.o.below b2);have HB2 := bt9 HB1 b2;clear hr' b2 HR HB1;go_wp2_with fail;go_at_call 58;(with_reducible refine (times_any _ _ a b w2 HR2.o HR'.o (Md.i64 HA.o) (Md.i64 HB.o)).mono ?_);rintro y w3 ⟨⟨t,rfl,ht⟩,b3⟩;rw [<- HZ.o] at ht;have HT := LH9 ht;have HB3 := bt9 HB2 b3;clear ht b3 HR2 HR' HB2;go_wp2_with fail;go_at_call 47;(with_reducible refine (small_any t z w3 HT.o HSM.o).mono ?_);rintro y w4 ⟨rfl,b4⟩;have HB4 := bt9 HB3 b4;clear b4 HT HB3;go_wp2_with fail;go_ret2;exact ⟨rfl,HB4.o⟩
end
end Go.Proofs.YtmiinmndbkdjbaaGreat
