/- A part of the proof: BgS, BgU, BgV, Made, AqA, LiQ, Drop, Told, Rsee, one behind another. -/
import Derived.Test.YtmiinmndbkdjbaaGreatMTA
import Derived.Test.YtmiinmndbkdjbaaGreatMTC
import Derived.Test.YtmiinmndbkdjbaaGreatMTD
import Derived.Test.YtmiinmndbkdjbaaGreatMTG
import Derived.Test.YtmiinmndbkdjbaaGreatMTH
import Derived.Test.YtmiinmndbkdjbaaGreatMTK
import Derived.Test.YtmiinmndbkdjbaaGreatMTS
import Derived.Test.YtmiinmndbkdjbaaGreatMTT
import Derived.IntWalk
import Derived.Deep.DeepCutAuto
import Derived.Deep.CutBlock
import Derived.Lib.Hide
import Derived.WalkKit
set_option maxRecDepth 100000
set_option maxHeartbeats 16000000
set_option linter.unusedVariables false
set_option linter.unusedSimpArgs false
namespace Go.Proofs.YtmiinmndbkdjbaaGreat
open Go.RowKit
section
theorem small_gt (v : Value) (z : Int) (w : World) (hv : BigR w v z) (hz : Sm z.natAbs) (hgt : 9223372036854775807 < z) :
 Calls Tryz.prog 47 #[v] w fun e w' => e=.returned (.tuple #[.int .i64 (smN z),.bool (smB z)])∧Below w.heap.size w w' := by
 have FIN := LH9 (sm_no z (by omega));have HC := LH9 (cmpZ_gt z 9223372036854775807 hgt);have HV := LH9 hv;have HZ := LH9 hz;have HM := LH9 (Sm.int (-9223372036854775807 : Int).natAbs (by decide));obtain ⟨m,rfl,a,len,cap,l,rfl,h1,h2,h3⟩ := hv;clear h1 h2 h3 hz hgt;generalize decide (z < 0)=s at *;have T := LH9 (((Below.refl _ w).alloc (Nat.le_refl _) (.cells #[.bool s,.slice a len cap] 122)) : Below w.heap.size w _);have BX := LH9 (Mem.Blk.new w 122 #[.bool s,.slice a len cap])
 go_enter Tryz.func47,Tryz.ntmps47
 go_wp2_with fail
 generalize (w.alloc (.cells #[.bool s,.slice a len cap] 122))=v at *;obtain ⟨c0,c1,-,-⟩ := BX.o.two;refine wp_region_till (S := fun W => W.cell? ⟨w.heap.size,0,none⟩=some (.bool s)∧W.cell? ⟨w.heap.size,1,none⟩=some (.slice a len cap)) 9 (by kernel_rfl) ?_;refine tk 0 ⟨c0,c1⟩ ?_;refine till_one (i := 1) (by kernel_rfl) rfl (fun K' hK => ?_);go_simp;go_at_call 46;(with_reducible refine (bigof_any 9223372036854775807 _ (by decide) (by decide)).mono ?_);rintro e w1 ⟨⟨r,rfl,hr⟩,b1⟩;have K1 : Hid (Below v.heap.size v w1) := ((Below.refl _ v).drew).trans b1;have HR1 := LH9 hr;clear b1 hr c0 c1;obtain ⟨c0,c1,-,-⟩ := (BX.o.below K1.o).two;refine hK _ _ ⟨c0,c1⟩ ?_;clear hK K'
 try simp only [Act.put,zp1,zp2,zp3,zp4,zp5,zp6]
 refine till_one (i := 2) (by kernel_rfl) rfl (fun K' hK => ?_);go_simp;go_at_call 77;(with_reducible refine (bigcmp_any _ _ z 9223372036854775807 _ (HV.o.below (T.o.trans (K1.o.mono T.o.size))) HR1.o HZ.o HM.o).mono ?_);rintro e w2 ⟨rfl,b2⟩;rw [HC.o];have K2 := LH9 (K1.o.trans (b2.mono K1.o.size));clear b2 c0 c1 K1 HR1;obtain ⟨c0,c1,-,-⟩ := (BX.o.below K2.o).two;refine hK _ _ ⟨c0,c1⟩ ?_;clear hK K'
 try simp only [Act.put,zp1,zp2,zp3,zp4,zp5,zp6]
 refine tk 3 ⟨c0,c1⟩ ?_;refine tk 4 ⟨c0,c1⟩ ?_;refine till_take (i := 5) (v := undef) rfl (by kernel_rfl) (fun _ _ _ h => h) (Or.inr ⟨by rfl,rfl⟩) ⟨c0,c1⟩ ?_
 try simp only [Act.put,zp1,zp2,zp3,zp4,zp5,zp6]
 refine till_one (i := 6) (by kernel_rfl) rfl (fun K' hK => ?_);go_simp;refine hK _ _ ⟨c0,c1⟩ ?_;clear hK K'
 try simp only [Act.put,zp1,zp2,zp3,zp4,zp5,zp6]
 refine till_one (i := 7) (by kernel_rfl) rfl (fun K' hK => ?_);go_simp;refine hK _ _ ⟨c0,c1⟩ ?_;clear hK K'
 try simp only [Act.put,zp1,zp2,zp3,zp4,zp5,zp6]
 refine till_take (i := 8) (v := undef) rfl (by kernel_rfl) (fun _ _ _ h => h) (Or.inr ⟨by rfl,rfl⟩) ⟨c0,c1⟩ ?_
 try simp only [Act.put,zp1,zp2,zp3,zp4,zp5,zp6]
 refine till_last (by kernel_rfl) rfl (by kernel_rfl) (fun K' hK => ?_);go_simp;refine hK _ _ ?_;clear hK K'
 try simp only [Act.put,zp1,zp2,zp3,zp4,zp5,zp6]
 refine wpAny_done (by kernel_rfl) ?_ _;have K := LH9 (T.o.trans (K2.o.mono T.o.size));clear c0 c1 K2 BX T
 go_wp2_with fail
 go_ret2;exact ⟨FIN.o,K.o⟩
theorem small_any (v : Value) (z : Int) (w : World) (hv : BigR w v z) (hz : Sm z.natAbs) :
 Calls Tryz.prog 47 #[v] w fun e w' => e=.returned (.tuple #[.int .i64 (smN z),.bool (smB z)])∧Below w.heap.size w w' := by
 by_cases h : 9223372036854775807 < z
 · exact small_gt v z w hv hz h
 · exact small_le v z w hv hz (by omega)
end
section
theorem sg_mul (z z' : Int) : sg (decide (z < 0) != decide (z' < 0)) (z.natAbs * z'.natAbs)=z * z' := by
 have h1 := Int.natAbs_mul z z';rw [← h1];unfold sg;by_cases a : z < 0 <;> by_cases b : z' < 0
 · have := Int.mul_pos_of_neg_of_neg a b;simp [a,b]; omega
 · have : z * z'≤0 := Int.mul_nonpos_of_nonpos_of_nonneg (by omega) (by omega);simp [a,b]; omega
 · have : z * z'≤0 := Int.mul_nonpos_of_nonneg_of_nonpos (by omega) (by omega);simp [a,b]; omega
 · have := Int.mul_nonneg (show 0≤z by omega) (show 0≤z' by omega);simp [a,b]; omega
theorem dv_get (q : List Nat) (j : Nat) (h : j < q.length) : (dv q).toArray[j]?=some (.int .u64 ((q.getD j 0 : Nat) : Int)) := by
 simp [dv,List.getD_eq_getElem?_getD,List.getElem?_eq_getElem h]
theorem times_any (u v : Value) (z z' : Int) (w : World) (hu : BigR w u z) (hv : BigR w v z') (bn : Md z.natAbs) (bn' : Md z'.natAbs) :
 Calls Tryz.prog 58 #[u,v] w fun e w' => (∃ r,e=.returned r∧BigR w' r (z * z'))∧Below w.heap.size w w' := by
 obtain ⟨m,rfl,a,len,cap,l,rfl,h1,h2,h3⟩ := hu;obtain ⟨m',rfl,a',len',cap',l',rfl,h1',h2',h3'⟩ := hv;have hl : len≤900 := MagR.small h1 h2 (by rw [h3]; exact bn.lt);have hl' : len'≤900 := MagR.small h1' h2' (by rw [h3']; exact bn'.lt);have HL := LH9 h1;have HN := LH9 h2;have HX := LH9 h3;have HL' := LH9 h1';have HN' := LH9 h2';have HX' := LH9 h3';have hc := h1.2.1;have hc' := h1'.2.1;have HSG := LH9 (sg_mul z z');rw [← h3,← h3'] at HSG;clear h1 h2 h3 h1' h2' h3' bn bn' HX HX';generalize z * z'=ZZ at *;generalize decide (z < 0)=s at *;generalize decide (z' < 0)=s' at *;have hmk : ∀ w,(Instr.makeSlice 120 (.int .i64 ((len : Int) + (len' : Int) + 1)) (.int .i64 ((len : Int) + (len' : Int) + 1))).run Tryz.prog w=.ok (.slice (some ⟨w.heap.size,0,none⟩) (len + len' + 1) (len + len' + 1)) (w.alloc (.cells (dv (List.replicate (len + len' + 1) 0)).toArray 141)) := by
  intro w;have e : (len : Int) + (len' : Int) + 1=((len + len' + 1 : Nat) : Int) := by omega
  rw [← mk_eq,e]; exact run_make_row' 120 141 (.int .u64 0) 8 Tryz.underlying120 infoU64 rfl _ _ (len + len' + 1) (by omega) (by omega) w
 have HS := LH9 ((((Sep.nil w).new 122 #[.bool s,.slice a len cap]).new 122 #[.bool s',.slice a' len' cap']).new 122 #[.bool false,.slice none 0 0]);have e1 : (w.alloc (.cells #[.bool s,.slice a len cap] 122)).heap.size=w.heap.size + 1 := by simp
 have e2 : ((w.alloc (.cells #[.bool s,.slice a len cap] 122)).alloc (.cells #[.bool s',.slice a' len' cap'] 122)).heap.size=w.heap.size + 1 + 1 := by simp
 rw [e1,e2] at HS;have T := LH9 ((((Below.refl _ w).alloc (Nat.le_refl _) (.cells #[.bool s,.slice a len cap] 122)).alloc (by simp) (.cells #[.bool s',.slice a' len' cap'] 122)).alloc (by simp; omega) (.cells #[.bool false,.slice none 0 0] 122));clear e1 e2
 go_enter Tryz.func58,Tryz.ntmps58
 go_upto_region 1 with (fail)
 generalize ((w.alloc (.cells #[.bool s,.slice a len cap] 122)).alloc (.cells #[.bool s',.slice a' len' cap'] 122)).alloc (.cells #[.bool false,.slice none 0 0] 122)=v at *;obtain ⟨a0,a1,-,-⟩ := (HS.o.blk 2 rfl).two;obtain ⟨b0,b1,-,-⟩ := (HS.o.blk 1 rfl).two
 go_wp2_with fail
 clear a0 a1 b0 b1 hmk;have HBU := LH9 (Mem.Blk.new v 141 (dv (List.replicate (len + len' + 1) 0)).toArray);have HV0 : Hid (Below v.heap.size v (v.alloc (.cells (dv (List.replicate (len + len' + 1) 0)).toArray 141))) := (Below.refl _ _).alloc (Nat.le_refl _) _;have hzero := Big.MulOut.zero l l';rw [HL.o.1,HL'.o.1] at hzero;have HZ := LH9 hzero;clear hzero;generalize v.alloc (.cells (dv (List.replicate (len + len' + 1) 0)).toArray 141)=v1 at *
 go_loopw [6] (fun i wr => ∃ (k : Nat) (q : List Nat),i=.int .i64 (k : Nat)∧k≤len∧Hid (Big.MulOut l l' q k)∧Hid (Mem.Blk wr v.heap.size 141 (dv q).toArray)∧Hid (Below v.heap.size v wr)) (fun i _ => len - (intOf i).toNat)
 case atStart => exact ⟨0,_,rfl,Nat.zero_le _,HZ.o,HBU.o,HV0.o⟩
 case round =>
  clear HZ HBU HV0;obtain ⟨i,q,rfl,hi,HM,HQ,HB⟩ := hrel;obtain ⟨a0,a1,-,-⟩ := ((HS.o.blk 2 rfl).below HB.o).two;obtain ⟨b0,b1,-,-⟩ := ((HS.o.blk 1 rfl).below HB.o).two;by_cases hlt : i < len
  · have i0 : (0 : Int)≤(i : Int) := by omega
    have i1 : (i : Int) < (len : Int) := by omega
    have HM0 := LH9 HM.o.start;clear HM;obtain ⟨wo,rfl⟩ : ∃ wo : World,wo=wr := ⟨_,rfl⟩
    go_wp2_with fail
    clear a0 a1 b0 b1
    go_loopw [7,8] (fun c kk wr => ∃ (j cN : Nat) (q : List Nat),c=.int .u64 (cN : Nat)∧kk=.int .i64 (j : Nat)∧j≤len'∧Hid (Big.MulIn l l' q i j cN)∧Hid (Mem.Blk wr v.heap.size 141 (dv q).toArray)∧Hid (Below v.heap.size v wr)) (fun _ kk _ => len' - (intOf kk).toNat)
    case atStart => exact ⟨0,0,q,rfl,rfl,Nat.zero_le _,HM0.o,HQ.o,HB.o⟩
    case round =>
     clear HM0 HQ HB;obtain ⟨j,cN,q,rfl,rfl,hj,HM,HQ,HB⟩ := hrel;obtain ⟨a0,a1,-,-⟩ := ((HS.o.blk 2 rfl).below HB.o).two;obtain ⟨b0,b1,-,-⟩ := ((HS.o.blk 1 rfl).below HB.o).two;have j0 : (0 : Int)≤(j : Int) := by omega
     have hcar := HM.o.car;have hql : q.length=len + len' + 1 := by rw [HM.o.len,HL.o.1,HL'.o.1]
     have hij0 : (0 : Int)≤(i : Int) + (j : Int) := by omega
     have hij1 : (i : Int) + (j : Int) < ((len + len' + 1 : Nat) : Int) := by omega
     have hijn : ((i : Int) + (j : Int)).toNat=i + j := by omega
     have hqs := HQ.o.lt;by_cases hjl : j < len'
     · have j1 : (j : Int) < (len' : Int) := by omega
       have hz9 : wr.cell? ⟨v.heap.size,i + j,none⟩=some (.int .u64 ((q.getD (i + j) 0 : Nat) : Int)) := (HQ.o.cell (i + j)).trans (dv_get q (i + j) (by omega));obtain ⟨b,o,rfl,-,hx9⟩ := (HL.o.below (T.o.trans (HB.o.mono T.o.size))).at i hlt;obtain ⟨b',o',rfl,-,hy9⟩ := (HL'.o.below (T.o.trans (HB.o.mono T.o.size))).at j hjl;have hbd := Big.mul_bd (HN.o.1.getD i) (HN'.o.1.getD j) (HM.o.dig.getD (i + j)) hcar;have hst := HM.o.step HN.o.1 HN'.o.1 (by rw [HL.o.1]; exact hlt) (by rw [HL'.o.1]; exact hjl);have HST := LH9 hst;clear hst HM;generalize l.getD i 0=x at *;generalize l'.getD j 0=y at *;generalize q.getD (i + j) 0=z9 at *;have hq1 : IntKind.i64.wrap ((i : Int) + (j : Int))=(i : Int) + (j : Int) := IntWalk.i64_in _ (by omega);have hxy : (x : Int) * (y : Int)=((x * y : Nat) : Int) := by simp
       have hm1 : IntKind.u64.wrap ((x : Int) * (y : Int))=(x : Int) * (y : Int) := IntWalk.u64_in _ (by rw [hxy]; omega);have hm2 : IntKind.u64.wrap ((z9 : Int) + (x : Int) * (y : Int))=(z9 : Int) + (x : Int) * (y : Int) := IntWalk.u64_in _ (by rw [hxy]; omega);have hm3 : IntKind.u64.wrap ((z9 : Int) + (x : Int) * (y : Int) + (cN : Int))=(z9 : Int) + (x : Int) * (y : Int) + (cN : Int) := IntWalk.u64_in _ (by rw [hxy]; omega);have HXY := LH9 hxy;have HBD := LH9 hbd;clear hxy hbd
       go_wp2_with fail
       go_quiet (fail)
       have hV : (z9 : Int) + (x : Int) * (y : Int) + (cN : Int)=((z9 + x * y + cN : Nat) : Int) := by rw [HXY.o]; omega
       rw [hV];have hVb : z9 + x * y + cN < 4294967296 := HBD.o.2;clear hm1 hm2 hm3 hV HXY HBD hq1;generalize z9 + x * y + cN=V at *;have hV0 : (0 : Int)≤(V : Int) := by omega
       have hV1 : (V : Int) < 4294967296 := by omega
       have hQd : Mem.Blk (wr.drewN nq) v.heap.size 141 (dv q).toArray := (below_drewN (Below.refl wr.heap.size wr) nq).block v.heap.size hqs |>.trans HQ.o;have HQd := LH9 hQd;have HBd := LH9 (below_drewN HB.o nq);have hqs' : v.heap.size < (wr.drewN nq).heap.size := hQd.lt;have hfz : (wr.drewN nq).frozen? ⟨v.heap.size,i + j,none⟩=false := hQd.frozen (i + j);have hcl : (wr.drewN nq).cell? ⟨v.heap.size,i + j,none⟩=some (.int .u64 (z9 : Int)) := (hQd.cell (i + j)).trans ((HQ.o.cell (i + j)).symm.trans hz9);clear a0 a1 b0 b1 hQd HB HQ hz9 hx9 hy9;generalize wr.drewN nq=wd at *;have HQ2 := LH9 (HQd.o.set_ (i + j) (.int .u64 ((V : Int) % 65536)));rw [dv_set q (i + j) (V % 65536) _ (by omega)] at HQ2;have HB2 : Hid (Below v.heap.size v (wd.setCell ⟨v.heap.size,i + j,none⟩ (.int .u64 ((V : Int) % 65536)))) := HBd.o.setCell (Nat.le_refl _) _
       go_wp2_with fail
       go_roundw
       case rel => exact ⟨j + 1,V / 65536,_,by go_num,by go_num,by omega,HST.o,HQ2.o,HB2.o⟩
       case measure => simp [intOf]; omega
     · have j1 : ¬ (j : Int) < (len' : Int) := by omega
       obtain rfl : j=len' := by omega
       have hM2 : Big.MulIn l l' q i l'.length cN := by rw [HL'.o.1]; exact HM.o
       obtain ⟨hq0,hdone⟩ := hM2.done (by rw [HL.o.1]; exact hlt);rw [HL'.o.1] at hq0 hdone;have HDN := LH9 hdone;have HQ0 := LH9 hq0;clear hM2 hq0 hdone HM hjl;have hc1 : wr.cell? ⟨v.heap.size,i + j,none⟩=some (.int .u64 ((q.getD (i + j) 0 : Nat) : Int)) := (HQ.o.cell (i + j)).trans (dv_get q (i + j) (by omega));have hfz : wr.frozen? ⟨v.heap.size,i + j,none⟩=false := HQ.o.frozen (i + j);rw [HQ0.o] at hc1 HDN;have hq1 : IntKind.i64.wrap ((i : Int) + (j : Int))=(i : Int) + (j : Int) := IntWalk.i64_in _ (by omega)
       go_wp2_with fail
       have hij2 : (i : Int) + (j : Int) < (len : Int) + (j : Int) + 1 := by omega
       clear a0 a1 b0;refine wp_region_till (S := fun W => W.cell? ⟨w.heap.size + 1,1,none⟩=some (.slice a' j cap')∧W.cell? ⟨v.heap.size,i + j,none⟩=some (.int .u64 ((0 : Nat) : Int))∧W.frozen? ⟨v.heap.size,i + j,none⟩=false) 17 (by kernel_rfl) ?_;refine tk 0 ⟨b1,hc1,hfz⟩ ?_;refine tk 1 ⟨b1,hc1,hfz⟩ ?_;refine tk 2 ⟨b1,hc1,hfz⟩ ?_;refine tk 3 ⟨b1,hc1,hfz⟩ ?_;refine tk 4 ⟨b1,hc1,hfz⟩ ?_;refine tk 5 ⟨b1,hc1,hfz⟩ ?_;refine tk 6 ⟨b1,hc1,hfz⟩ ?_;refine tk 7 ⟨b1,hc1,hfz⟩ ?_;refine tk 8 ⟨b1,hc1,hfz⟩ ?_;refine tk 9 ⟨b1,hc1,hfz⟩ ?_;refine tk 10 ⟨b1,hc1,hfz⟩ ?_;refine tk 11 ⟨b1,hc1,hfz⟩ ?_;refine tk 12 ⟨b1,hc1,hfz⟩ ?_;refine tk 13 ⟨b1,hc1,hfz⟩ ?_;refine tk 14 ⟨b1,hc1,hfz⟩ ?_;refine tk 15 ⟨b1,hc1,hfz⟩ ?_;refine tk 16 ⟨b1,hc1,hfz⟩ ?_;refine till_last (by kernel_rfl) rfl (by kernel_rfl) (fun K' hK => ?_);go_simp;have HQ3 := LH9 (HQ.o.set_ (i + j) (.int .u64 (cN : Int)));rw [dv_set q (i + j) (0 + cN) _ (by omega)] at HQ3;have HB3 : Hid (Below v.heap.size v (wr.setCell ⟨v.heap.size,i + j,none⟩ (.int .u64 (cN : Int)))) := HB.o.setCell (Nat.le_refl _) _;refine hK _ _ ?_;clear hK K' b1 hc1 hfz;refine wpAny_done (by kernel_rfl) ?_ _
       go_wp2_with fail
       go_roundw
       case rel => exact ⟨i + 1,_,by go_num,by omega,HDN.o,HQ3.o.drew,HB3.o.drew⟩
       case measure => simp [intOf]; omega
  · have i1 : ¬ (i : Int) < (len : Int) := by omega
    obtain rfl : i=len := by omega
    have hM2 : Big.MulOut l l' q l.length := by rw [HL.o.1]; exact HM.o
    have hall := hM2.all;have hql : q.length=i + len' + 1 := by rw [HM.o.len,HL.o.1,HL'.o.1]
    have hqn : Nums wr (some ⟨v.heap.size,0,none⟩) (i + len' + 1) (i + len' + 1) q := by
     refine ⟨hql,Nat.le_refl _,by omega,fun hp => ⟨v.heap.size,0,rfl,HQ.o.lt,fun k x hx => ?_⟩⟩;rw [HQ.o.cell,Nat.zero_add]; simp [dv,hx]
    have hmt := hqn.take (Big.trim q).length (by rw [← hql]; exact trim_le q);rw [← trim_len] at hmt;have FQ := LH9 (MagR.trim hmt HM.o.dig);rw [hall] at FQ;have HQN := LH9 hqn;clear hM2 hall hqn hmt HM hlt
    go_wp2_with fail
    clear a1 b1;refine wp_region_till (S := fun W => W.cell? ⟨w.heap.size,0,none⟩=some (.bool s)∧W.cell? ⟨w.heap.size + 1,0,none⟩=some (.bool s')) 8 (by kernel_rfl) ?_;refine tk 0 ⟨a0,b0⟩ ?_;refine tk 1 ⟨a0,b0⟩ ?_;refine tk 2 ⟨a0,b0⟩ ?_;refine tk 3 ⟨a0,b0⟩ ?_;refine tk 4 ⟨a0,b0⟩ ?_;refine tk 5 ⟨a0,b0⟩ ?_;refine till_one (i := 6) (by kernel_rfl) rfl (fun K' hK => ?_);go_simp;go_at_call 76;(with_reducible refine (trim_any _ _ _ q _ (HQN.o.below (Below.refl _ _).drew)).mono ?_);rintro e w' ⟨rfl,rfl⟩;refine hK _ _ ⟨a0,b0⟩ ?_;clear hK K'
    try simp only [Act.put,zp1,zp2,zp3,zp4,zp5,zp6]
    refine till_one (i := 7) (by kernel_rfl) rfl (fun K' hK => ?_);go_simp;go_at_call 72;(with_reducible refine (sign_any _ _ _ _ (FQ.o.below (Below.refl _ _).drew)).mono ?_);rintro e w2 ⟨⟨r2,rfl,hr2⟩,b2⟩;rw [show sg (!s == s') (Big.val l * Big.val l')=ZZ from HSG.o] at hr2;have HB2 := LH9 (HB.o.drew.trans (b2.mono HB.o.drew.size));have HS2 := LH9 (HS.o.below HB2.o);have HR2 := LH9 hr2;obtain ⟨m2,rfl,a2,len2,cap2,l2,rfl,-,-,-⟩ := hr2;clear b2 a0 b0 HB HS HQN FQ HQ;obtain ⟨a0,-,-,-⟩ := (HS2.o.blk 2 rfl).two;obtain ⟨b0,-,-,-⟩ := (HS2.o.blk 1 rfl).two;refine hK _ _ ⟨a0,b0⟩ ?_;clear hK K'
    try simp only [Act.put,zp1,zp2,zp3,zp4,zp5,zp6]
    refine till_last (by kernel_rfl) rfl (by kernel_rfl) (fun K' hK => ?_);have hB0 := HS2.o.blk 0 rfl;obtain ⟨r0,r1,r3,r4⟩ := hB0.two;have hrl := hB0.lt;have HRP := LH9 (HR2.o.put2 (x := .bool (decide (ZZ < 0))) (y := .slice a2 len2 cap2) (HS2.o.blk 0 rfl));have hBN := (hB0.set_ 0 (.bool (decide (ZZ < 0)))).set_ 1 (.slice a2 len2 cap2);have HBN := LH9 hBN;have hbw := T.o.trans (HB2.o.mono T.o.size);have HBW := LH9 ((hbw.setCell (p := ⟨w.heap.size + 1 + 1,0,none⟩) (by show w.heap.size≤w.heap.size + 1 + 1; omega) (.bool (decide (ZZ < 0)))).setCell (p := ⟨w.heap.size + 1 + 1,1,none⟩) (by show w.heap.size≤w.heap.size + 1 + 1; omega) (.slice a2 len2 cap2));clear hbw;clear hB0 hBN a0 b0;go_simp;refine hK _ _ ?_;clear hK K';refine wpAny_done (by kernel_rfl) ?_ _
    go_wp2_with fail
    generalize (w2.setCell ⟨w.heap.size + 1 + 1,0,none⟩ (.bool (decide (ZZ < 0)))).setCell ⟨w.heap.size + 1 + 1,1,none⟩ (.slice a2 len2 cap2)=W9 at *;obtain ⟨g5,g6,-,-⟩ := (show Mem.Blk W9 (w.heap.size + 1 + 1) 122 #[.bool (decide (ZZ < 0)),.slice a2 len2 cap2] from HBN.o).two;exact bodyPost_ret (v := .agg #[.bool (decide (ZZ < 0)),.slice a2 len2 cap2]) (by simp [results,Tryz.results58,go_sem,g5,g6]) rfl ⟨⟨_,rfl,HRP.o⟩,HBW.o⟩
end
section
theorem sg_over (z z' : Int) (h : z' ≠ 0) : sg (decide (z < 0) != decide (z' < 0)) (if (decide (z < 0) != decide (z' < 0))=true∧0 < z.natAbs % z'.natAbs then z.natAbs / z'.natAbs + 1 else z.natAbs / z'.natAbs)=z.fdiv z' := by
 rw [fdiv_abs z z' h];unfold sg;by_cases a : decide (z < 0)=decide (z' < 0)
 · have : (decide (z < 0) != decide (z' < 0))=false := by rw [a]; simp
   rw [this,if_pos a]; simp
 · have : (decide (z < 0) != decide (z' < 0))=true := by simpa [bne] using a
   rw [this,if_neg a];by_cases b : 0 < z.natAbs % z'.natAbs
   · rw [if_pos rfl,if_pos ⟨rfl,b⟩,if_pos b]; omega
   · rw [if_pos rfl,if_neg (fun h => b h.2),if_neg b]
theorem one_mag (w : World) : MagR (w.alloc (.cells #[.int .u64 1] 141)) (.slice (some ⟨w.heap.size,0,none⟩) 1 1) 1 := by
 refine ⟨_,_,_,[1],rfl,⟨rfl,Nat.le_refl _,by decide,fun _ => ⟨w.heap.size,0,rfl,by simp,fun j y hy => ?_⟩⟩,⟨by intro d hd; simp at hd; omega,by intro d hd; simp at hd; omega⟩,rfl⟩;have := (Mem.Blk.new w 141 #[.int .u64 1]).cell (0 + j);rw [this,Nat.zero_add]
 match j,hy with
 | 0,hy => simp at hy; subst hy; rfl
 | k + 1,hy => simp at hy
theorem over1_any (u v : Value) (z z' : Int) (w : World) (hu : BigR w u z) (hv : BigR w v z') (h0 : z' ≠ 0) (bn : Md z.natAbs) (bn' : Md z'.natAbs) :
 Calls Tryz.prog 110 #[u,v,.int .i64 1] w fun e w' => (∃ r,e=.returned r∧BigR w' r (z.fdiv z'))∧Below w.heap.size w w' := by
 obtain ⟨m,rfl,hm⟩ := hu;obtain ⟨m',rfl,hm'⟩ := hv;have HU := LH9 hm;have HV := LH9 hm';obtain ⟨a,len,cap,l,rfl,-,-,-⟩ := hm;obtain ⟨a',len',cap',l',rfl,-,-,-⟩ := hm';have HSG := LH9 (sg_over z z' h0);have HPOS : Hid (0 < z'.natAbs) := by show _ < _; omega
 have HM := LH9 bn;have HM' := LH9 bn';clear h0 bn bn';generalize z.fdiv z'=ZZ at *;generalize decide (z < 0)=s at *;generalize decide (z' < 0)=s' at *;generalize z.natAbs=A at *;generalize z'.natAbs=B at *;have HS := LH9 ((((Sep.nil w).new 122 #[.bool s,.slice a len cap]).new 122 #[.bool s',.slice a' len' cap']).new 122 #[.bool false,.slice none 0 0]);have e1 : (w.alloc (.cells #[.bool s,.slice a len cap] 122)).heap.size=w.heap.size + 1 := by simp
 have e2 : ((w.alloc (.cells #[.bool s,.slice a len cap] 122)).alloc (.cells #[.bool s',.slice a' len' cap'] 122)).heap.size=w.heap.size + 1 + 1 := by simp
 rw [e1,e2] at HS;have T := LH9 ((((Below.refl _ w).alloc (Nat.le_refl _) (.cells #[.bool s,.slice a len cap] 122)).alloc (by simp) (.cells #[.bool s',.slice a' len' cap'] 122)).alloc (by simp; omega) (.cells #[.bool false,.slice none 0 0] 122));clear e1 e2
 go_enter Tryz.func110,Tryz.ntmps110
 go_upto_region 1 with (fail)
 generalize ((w.alloc (.cells #[.bool s,.slice a len cap] 122)).alloc (.cells #[.bool s',.slice a' len' cap'] 122)).alloc (.cells #[.bool false,.slice none 0 0] 122)=v at *;obtain ⟨a0,a1,-,-⟩ := (HS.o.blk 2 rfl).two;obtain ⟨b0,b1,-,-⟩ := (HS.o.blk 1 rfl).two
 go_wp2_with fail
 go_at_call 134;(with_reducible refine (div_any _ _ A B _ (HU.o.below T.o) (HV.o.below T.o) HPOS.o HM.o HM'.o).mono ?_);rintro e w1 ⟨⟨q,r,rfl,hq,hr⟩,b1'⟩;have HW1 := LH9 b1';have HQ := LH9 hq;have HR := LH9 hr;obtain ⟨ar,lr,cr,dr,rfl,n1,n2,n3⟩ := hr;have hz := MagR.zero n1 n2 n3;clear n1 n2 n3 hq a0 a1 b0 b1 b1';obtain ⟨a0,a1,-,-⟩ := ((HS.o.blk 2 rfl).below HW1.o).two;obtain ⟨b0,b1,-,-⟩ := ((HS.o.blk 1 rfl).below HW1.o).two;have HRS : Hid (Sm (A % B)) := (Sm.of (Nat.lt_of_lt_of_le (Nat.lt_trans (Nat.mod_lt _ HPOS.o) HM'.o.lt) (Big.pw_mono (by omega))));have HQS : Hid (Sm (A / B)) := (Sm.of (Nat.lt_of_lt_of_le (Nat.lt_of_le_of_lt (Nat.div_le_self _ _) HM.o.lt) (Big.pw_mono (by omega))));have HS1 : Hid (Sm 1) := Sm.of (Nat.lt_of_lt_of_le (show 1 < Big.pw 1 by decide) (Big.pw_mono (by decide)));generalize A / B=qq at *;generalize A % B=rr at *
 go_wp2_with fail
 clear a0 a1 b0;refine wp_region_till (S := fun W => W.cell? ⟨w.heap.size + 1,1,none⟩=some (.slice a' len' cap')) 5 (by kernel_rfl) ?_;refine tk 0 b1 ?_;refine tk 1 b1 ?_;refine tk 3 b1 ?_;refine tk 4 b1 ?_;refine till_one (i := 2) (by kernel_rfl) rfl (fun K' hK => ?_);go_simp;go_at_call 73;(with_reducible refine (add_any _ _ rr rr _ (HR.o.below (Below.refl _ _).drew) (HR.o.below (Below.refl _ _).drew) HRS.o.lt HRS.o.lt).mono ?_);rintro e w2 ⟨⟨r2,rfl,hr2⟩,b2⟩;have HW2 := LH9 (HW1.o.drew.trans (b2.mono HW1.o.drew.size));have HR2 := LH9 hr2;have HQ2 := LH9 (HQ.o.below ((Below.refl _ _).drew.trans b2));clear b1 b2 hr2 HR HQ HW1;obtain ⟨b0,b1,-,-⟩ := ((HS.o.blk 1 rfl).below HW2.o).two;refine hK _ _ b1 ?_;clear hK K'
 try simp only [Act.put,zp1,zp2,zp3,zp4,zp5,zp6]
 refine till_last (by kernel_rfl) rfl (by kernel_rfl) (fun K' hK => ?_);go_simp;go_at_call 74;(with_reducible refine (cmpm_any _ _ (rr + rr) B _ HR2.o (HV.o.below (T.o.trans (HW2.o.mono T.o.size)))).mono ?_);rintro e w3 ⟨rfl,b3⟩;have HW3 := LH9 (HW2.o.trans (b3.mono HW2.o.size));have HQ3 := LH9 (HQ2.o.below b3);clear b3 b0 b1 HR2 HQ2 HW2;generalize cmpN (rr + rr) B=tw at *;refine hK _ _ ?_;clear hK K'
 try simp only [Act.put,zp1,zp2,zp3,zp4,zp5,zp6]
 refine ak 6 ?_;refine wpAny_done (by kernel_rfl) ?_ _;obtain ⟨aq,lq,cq,dq,rfl,-,-,-⟩ := id HQ3.o;generalize hne : (s != s')=ne at *
 cases ne with
 | false =>
   have hne' : (!s == s')=false := hne;rw [if_neg (fun h => absurd h.1 (by decide))] at HSG;have HNE := LH9 hne;clear hne
   go_wp2_with fail
   go_at_call 72;(with_reducible refine (sign_any _ _ _ _ HQ3.o).mono ?_);rintro e w7 ⟨⟨r7,rfl,hr7⟩,b7⟩;rw [HSG.o] at hr7;have HB7 := LH9 (HW3.o.trans (b7.mono HW3.o.size));have HS7 := LH9 (HS.o.below HB7.o);have HR7 := LH9 hr7;obtain ⟨m2,rfl,a2,len2,cap2,l2,rfl,-,-,-⟩ := hr7;clear b7 HW3 HS HQ3;have hB0 := HS7.o.blk 0 rfl;obtain ⟨r0,r1,r3,r4⟩ := hB0.two;have hrl := hB0.lt;have HRP := LH9 (HR7.o.put2 (x := .bool (decide (ZZ < 0))) (y := .slice a2 len2 cap2) (HS7.o.blk 0 rfl));have HBN := LH9 ((hB0.set_ 0 (.bool (decide (ZZ < 0)))).set_ 1 (.slice a2 len2 cap2));have hbw := T.o.trans (HB7.o.mono T.o.size);have HBW := LH9 ((hbw.setCell (p := ⟨w.heap.size + 1 + 1,0,none⟩) (by show w.heap.size≤w.heap.size + 1 + 1; omega) (.bool (decide (ZZ < 0)))).setCell (p := ⟨w.heap.size + 1 + 1,1,none⟩) (by show w.heap.size≤w.heap.size + 1 + 1; omega) (.slice a2 len2 cap2));clear hB0 hbw
   go_wp2_with fail
   generalize (w7.setCell ⟨w.heap.size + 1 + 1,0,none⟩ (.bool (decide (ZZ < 0)))).setCell ⟨w.heap.size + 1 + 1,1,none⟩ (.slice a2 len2 cap2)=W9 at *;obtain ⟨g5,g6,-,-⟩ := (show Mem.Blk W9 (w.heap.size + 1 + 1) 122 #[.bool (decide (ZZ < 0)),.slice a2 len2 cap2] from HBN.o).two;exact bodyPost_ret (v := .agg #[.bool (decide (ZZ < 0)),.slice a2 len2 cap2]) (by simp [results,Tryz.results110,go_sem,g5,g6]) rfl ⟨⟨_,rfl,HRP.o⟩,HBW.o⟩
 | true =>
   have hne' : (!s == s')=true := hne;have HNE := LH9 hne;clear hne;by_cases hlr : lr=0
   · have hrr := hz.1 hlr;subst hrr;subst hlr;rw [if_neg (fun h => absurd h.2 (by decide))] at HSG
     go_wp2_with fail
     go_at_call 72;(with_reducible refine (sign_any _ _ _ _ HQ3.o).mono ?_);rintro e w7 ⟨⟨r7,rfl,hr7⟩,b7⟩;rw [HSG.o] at hr7;have HB7 := LH9 (HW3.o.trans (b7.mono HW3.o.size));have HS7 := LH9 (HS.o.below HB7.o);have HR7 := LH9 hr7;obtain ⟨m2,rfl,a2,len2,cap2,l2,rfl,-,-,-⟩ := hr7;clear b7 HW3 HS HQ3;have hB0 := HS7.o.blk 0 rfl;obtain ⟨r0,r1,r3,r4⟩ := hB0.two;have hrl := hB0.lt;have HRP := LH9 (HR7.o.put2 (x := .bool (decide (ZZ < 0))) (y := .slice a2 len2 cap2) (HS7.o.blk 0 rfl));have HBN := LH9 ((hB0.set_ 0 (.bool (decide (ZZ < 0)))).set_ 1 (.slice a2 len2 cap2));have hbw := T.o.trans (HB7.o.mono T.o.size);have HBW := LH9 ((hbw.setCell (p := ⟨w.heap.size + 1 + 1,0,none⟩) (by show w.heap.size≤w.heap.size + 1 + 1; omega) (.bool (decide (ZZ < 0)))).setCell (p := ⟨w.heap.size + 1 + 1,1,none⟩) (by show w.heap.size≤w.heap.size + 1 + 1; omega) (.slice a2 len2 cap2));clear hB0 hbw
     go_wp2_with fail
     generalize (w7.setCell ⟨w.heap.size + 1 + 1,0,none⟩ (.bool (decide (ZZ < 0)))).setCell ⟨w.heap.size + 1 + 1,1,none⟩ (.slice a2 len2 cap2)=W9 at *;obtain ⟨g5,g6,-,-⟩ := (show Mem.Blk W9 (w.heap.size + 1 + 1) 122 #[.bool (decide (ZZ < 0)),.slice a2 len2 cap2] from HBN.o).two;exact bodyPost_ret (v := .agg #[.bool (decide (ZZ < 0)),.slice a2 len2 cap2]) (by simp [results,Tryz.results110,go_sem,g5,g6]) rfl ⟨⟨_,rfl,HRP.o⟩,HBW.o⟩
   · have hrr : 0 < rr := Nat.pos_of_ne_zero (fun h => hlr (hz.2 h));have hlr0 : (0 : Int) < (lr : Int) := by omega
     rw [if_pos ⟨rfl,hrr⟩] at HSG;clear hz hlr hrr;have hal := (Below.refl w3.heap.size w3).alloc (Nat.le_refl _) (.cells #[.int .u64 1] 141);have HQ4 := LH9 (HQ3.o.below hal);have HO4 := LH9 (one_mag w3);have HW4 := LH9 (HW3.o.trans (hal.mono HW3.o.size));clear hal HQ3 HW3
     go_wp2_with fail
     go_at_call 73;(with_reducible refine (add_any _ _ qq 1 _ HQ4.o HO4.o HQS.o.lt HS1.o.lt).mono ?_);rintro e w5 ⟨⟨r5,rfl,hr5⟩,b5⟩;have HW5 := LH9 (HW4.o.trans (b5.mono HW4.o.size));have HQ5 := LH9 hr5;clear b5 hr5 HQ4 HO4 HW4;obtain ⟨aq5,lq5,cq5,dq5,rfl,-,-,-⟩ := id HQ5.o
     go_wp2_with fail
     go_at_call 72;(with_reducible refine (sign_any _ _ _ _ HQ5.o).mono ?_);rintro e w7 ⟨⟨r7,rfl,hr7⟩,b7⟩;rw [HSG.o] at hr7;have HB7 := LH9 (HW5.o.trans (b7.mono HW5.o.size));have HS7 := LH9 (HS.o.below HB7.o);have HR7 := LH9 hr7;obtain ⟨m2,rfl,a2,len2,cap2,l2,rfl,-,-,-⟩ := hr7;clear b7 HW5 HS HQ5;have hB0 := HS7.o.blk 0 rfl;obtain ⟨r0,r1,r3,r4⟩ := hB0.two;have hrl := hB0.lt;have HRP := LH9 (HR7.o.put2 (x := .bool (decide (ZZ < 0))) (y := .slice a2 len2 cap2) (HS7.o.blk 0 rfl));have HBN := LH9 ((hB0.set_ 0 (.bool (decide (ZZ < 0)))).set_ 1 (.slice a2 len2 cap2));have hbw := T.o.trans (HB7.o.mono T.o.size);have HBW := LH9 ((hbw.setCell (p := ⟨w.heap.size + 1 + 1,0,none⟩) (by show w.heap.size≤w.heap.size + 1 + 1; omega) (.bool (decide (ZZ < 0)))).setCell (p := ⟨w.heap.size + 1 + 1,1,none⟩) (by show w.heap.size≤w.heap.size + 1 + 1; omega) (.slice a2 len2 cap2));clear hB0 hbw
     go_wp2_with fail
     generalize (w7.setCell ⟨w.heap.size + 1 + 1,0,none⟩ (.bool (decide (ZZ < 0)))).setCell ⟨w.heap.size + 1 + 1,1,none⟩ (.slice a2 len2 cap2)=W9 at *;obtain ⟨g5,g6,-,-⟩ := (show Mem.Blk W9 (w.heap.size + 1 + 1) 122 #[.bool (decide (ZZ < 0)),.slice a2 len2 cap2] from HBN.o).two;exact bodyPost_ret (v := .agg #[.bool (decide (ZZ < 0)),.slice a2 len2 cap2]) (by simp [results,Tryz.results110,go_sem,g5,g6]) rfl ⟨⟨_,rfl,HRP.o⟩,HBW.o⟩
end
section
theorem Md.i64 {z : Int} (h : I64 z) : Md z.natAbs := by
 unfold I64 at h;refine Md.of (Nat.lt_of_lt_of_le ?_ (Big.pw_mono (show 5≤900 by decide)));show z.natAbs < 65536 ^ 5;omega
theorem Sm.big {n : Nat} (h : n≤340282366920938463463374607431768211456) : Sm n := by
 refine Sm.of (Nat.lt_of_lt_of_le ?_ (Big.pw_mono (show 9≤1000000 by decide)));show n < 65536 ^ 9;omega
theorem sm_fit (z : Int) : Ending.returned (.tuple #[.int .i64 (smN z),.bool (smB z)])=fitR (fitI z) := by
 unfold fitR fitN fitB fitI smN smB;by_cases h : -9223372036854775808≤z∧z≤9223372036854775807
 · rw [if_pos h]; simp [h]
 · rw [if_neg h]; simp [h]
theorem fdiv_bd {a c : Int} (h : I64 a) (hc : c ≠ 0) : (a.fdiv c).natAbs≤9223372036854775809 := by
 rw [fdiv_abs a c hc];have h1 : a.natAbs / c.natAbs≤a.natAbs := Nat.div_le_self _ _;unfold I64 at h;generalize a.natAbs / c.natAbs=q at *;generalize a.natAbs % c.natAbs=r at *;have h2 : a.natAbs≤9223372036854775808 := by omega
 repeat' split
 all_goals omega
theorem rmuldiv_any (a c : Int) (w : World) (ha : I64 a) (hI : I64 c) : Calls Tryz.prog 89 #[.int .i64 a,.int .i64 1,.int .i64 c,.int .i64 1] w fun e w' => e=fitR (if c=0 then none else fitI (a.fdiv c))∧Below w.heap.size w w' := by
 by_cases hc : c=0
 · subst hc;rw [if_pos rfl];have e : fitR none=.returned (.tuple #[.int .i64 0,.bool false]) := rfl;rw [e];clear e ha hI
   go_enter Tryz.func89,Tryz.ntmps89
   go_wp2_with fail
   go_ret2;exact ⟨rfl,Below.refl _ _⟩
 · rw [if_neg hc];have HF := LH9 (sm_fit (a.fdiv c));have HZ := LH9 (Sm.big (n := (a.fdiv c).natAbs) (by have := fdiv_bd ha hc; omega));have HA := LH9 ha;have HI := LH9 hI;have HC := LH9 hc;have h1 : (c == 0)=false := beq_eq_false_iff_ne.2 hc;have HAM : Hid (Md (a * 1).natAbs) := by show Md _; rw [Int.mul_one]; exact Md.i64 ha
   have HA1 : Hid ((a * 1).fdiv c=a.fdiv c) := by show _=_; rw [Int.mul_one]
   unfold I64 at ha hI;clear hc;obtain ⟨ha1,ha2⟩ := ha;obtain ⟨hI1,hI2⟩ := hI;generalize a.fdiv c=ZZ at *
   go_enter Tryz.func89,Tryz.ntmps89
   go_wp2_with fail
   go_at_call 46;(with_reducible refine (bigof_any a _ ha1 ha2).mono ?_);rintro e w1 ⟨⟨r1,rfl,hr1⟩,b1⟩;have HW1 := LH9 b1;have HR1 := LH9 hr1;clear b1 hr1
   go_wp2_with fail
   go_at_call 46;(with_reducible refine (bigof_any 1 _ (by decide) (by decide)).mono ?_);rintro e w2 ⟨⟨r2,rfl,hr2⟩,b2⟩;have HW2 := LH9 (HW1.o.trans (b2.mono HW1.o.size));have HR2 := LH9 hr2;have HR1' := LH9 (HR1.o.below b2);clear b2 hr2 HR1 HW1
   go_wp2_with fail
   go_at_call 58;(with_reducible refine (times_any _ _ a 1 _ HR1'.o HR2.o (Md.i64 HA.o) (Md.i64 (by unfold I64; omega))).mono ?_);rintro e w3 ⟨⟨r3,rfl,hr3⟩,b3⟩;have HW3 := LH9 (HW2.o.trans (b3.mono HW2.o.size));have HR3 := LH9 hr3;clear b3 hr3 HR1' HR2 HW2
   go_wp2_with fail
   go_at_call 46;(with_reducible refine (bigof_any c _ hI1 hI2).mono ?_);rintro e w4 ⟨⟨r4,rfl,hr4⟩,b4⟩;have HW4 := LH9 (HW3.o.trans (b4.mono HW3.o.size));have HR4 := LH9 hr4;have HR3' := LH9 (HR3.o.below b4);clear b4 hr4 HR3 HW3
   go_wp2_with fail
   go_at_call 110;(with_reducible refine (over1_any _ _ (a * 1) c _ HR3'.o HR4.o HC.o HAM.o (Md.i64 HI.o)).mono ?_);rintro e w5 ⟨⟨r5,rfl,hr5⟩,b5⟩;rw [HA1.o] at hr5;have HW5 := LH9 (HW4.o.trans (b5.mono HW4.o.size));have HR5 := LH9 hr5;clear b5 hr5 HR3' HR4 HW4
   go_wp2_with fail
   go_at_call 47;(with_reducible refine (small_any _ ZZ _ HR5.o HZ.o).mono ?_);rintro e w6 ⟨rfl,b6⟩;have HW6 := LH9 (HW5.o.trans (b6.mono HW5.o.size));clear b6 HR5 HW5;generalize smN ZZ=sn at *;generalize smB ZZ=sb at *
   go_wp2_with fail
   go_ret2;exact ⟨HF.o,HW6.o⟩
theorem big_form {w : World} {r : Value} {z : Int} (h : BigR w r z) : ∃ n a len cap,r=.agg #[.bool n,.slice a len cap] := by
 obtain ⟨m,rfl,a,len,cap,l,rfl,-,-,-⟩ := h;exact ⟨_,a,len,cap,rfl⟩
theorem made_any (op a b : Int) (w : World) (ha : I64 a) (hb : I64 b) : Calls Tryz.prog 61 #[.int .i64 op,.int .i64 a,.int .i64 b] w fun e w' => e=fitR (madeM op a b)∧Below w.heap.size w w' := by
 have HA := LH9 ha;have HB := LH9 hb;have HMD := LH9 (show madeM op a b=if op=5 then fitI (a + b) else if op=6 then fitI (a - b) else if op=7 then fitI (a * b) else if op=8 then (if b=0 then none else fitI (a.fdiv b)) else if op=9∨op=10 then (if (decide (a < b))=(decide (op=9)) then some a else some b) else if op=20 then fitI (-a) else none from rfl);have HS5 : Hid (Sm (a + b).natAbs) := Sm.big (by unfold I64 at ha hb; omega);have HS6 : Hid (Sm (a + -b).natAbs) := Sm.big (by unfold I64 at ha hb; omega);have HS7 : Hid (Sm (a * b).natAbs) := Sm.big (by
  rw [Int.natAbs_mul];have h1 : a.natAbs≤9223372036854775808 := by unfold I64 at ha; omega
  have h2 : b.natAbs≤9223372036854775808 := by unfold I64 at hb; omega
  exact Nat.le_trans (Nat.mul_le_mul h1 h2) (by decide))
 have HS20 : Hid (Sm (-a).natAbs) := Sm.big (by unfold I64 at ha; omega);have HSA : Hid (Sm a.natAbs) := Sm.big (by unfold I64 at ha; omega);have HSB : Hid (Sm b.natAbs) := Sm.big (by unfold I64 at hb; omega);have HSB' : Hid (Sm (-b).natAbs) := Sm.big (by unfold I64 at hb; omega);unfold I64 at ha hb;obtain ⟨ha1,ha2⟩ := ha;obtain ⟨hb1,hb2⟩ := hb;generalize madeM op a b=R at *
 go_enter Tryz.func61,Tryz.ntmps61
 go_wp2_with fail
 go_at_call 46;(with_reducible refine (bigof_any a _ ha1 ha2).mono ?_);rintro e w1 ⟨⟨r1,rfl,hr1⟩,b1⟩;obtain ⟨n1,p1,l1,c1,rfl⟩ := big_form hr1;have HW1 := LH9 b1;have HR1 := LH9 hr1;clear b1 hr1
 go_wp2_with fail
 go_at_call 46;(with_reducible refine (bigof_any b _ hb1 hb2).mono ?_);rintro e w2 ⟨⟨r2,rfl,hr2⟩,b2⟩;obtain ⟨n2,p2,l2,c2,rfl⟩ := big_form hr2;have hal := ((Below.refl w2.heap.size w2).alloc (Nat.le_refl _) (.cells #[.bool n1,.slice p1 l1 c1] 122)).alloc (by simp) (.cells #[.bool n2,.slice p2 l2 c2] 122);have HV := LH9 (HW1.o.trans ((b2.trans (hal.mono b2.size)).mono HW1.o.size));have HRA := LH9 ((HR1.o.below b2).below hal);have HRB := LH9 (hr2.below hal);have HS := LH9 (((Sep.nil w2).new 122 #[.bool n1,.slice p1 l1 c1]).new 122 #[.bool n2,.slice p2 l2 c2]);rw [show (w2.alloc (.cells #[.bool n1,.slice p1 l1 c1] 122)).heap.size=w2.heap.size + 1 by simp] at HS;clear hal b2 hr2 HR1 HW1
 go_upto_region 2 with (fail)
 generalize (w2.alloc (.cells #[.bool n1,.slice p1 l1 c1] 122)).alloc (.cells #[.bool n2,.slice p2 l2 c2] 122)=v at *;generalize w2.heap.size=h at *;obtain ⟨a0,a1,-,-⟩ := (HS.o.blk 1 rfl).two;obtain ⟨b0,b1,-,-⟩ := (HS.o.blk 0 rfl).two;by_cases h5 : op=5
 · obtain rfl : R=fitI (a + b) := by rw [HMD.o,if_pos h5]
   subst h5;have HFT := LH9 (sm_fit (a + b));clear HMD
   go_wp2_with fail
   go_at_call 45;(with_reducible refine (plus_any _ _ a b _ HRA.o HRB.o HSA.o HSB.o).mono ?_);rintro e w3 ⟨⟨r3,rfl,hr3⟩,b3⟩;have HW3 := LH9 (HV.o.trans (b3.mono HV.o.size));have HR3 := LH9 hr3;clear b3 hr3 HRA HRB HV HS a0 a1 b0 b1
   go_wp2_with fail
   go_at_call 47;(with_reducible refine (small_any _ (a + b) _ HR3.o HS5.o).mono ?_);rintro e w4 ⟨rfl,b4⟩;have HW4 := LH9 (HW3.o.trans (b4.mono HW3.o.size));clear b4 HR3 HW3;generalize smN (a + b)=sn at *;generalize smB (a + b)=sb at *
   go_wp2_with fail
   go_ret2;exact ⟨HFT.o,HW4.o⟩
 have n5 : (op == 5)=false := beq_eq_false_iff_ne.2 h5;rw [if_neg h5] at HMD;clear h5;by_cases h6 : op=6
 · obtain rfl : R=fitI (a + -b) := by rw [HMD.o,if_pos h6]; rfl
   subst h6;have HFT := LH9 (sm_fit (a + -b));clear HMD n5
   go_wp2_with fail
   refine wp_region_till (S := fun W => (W.cell? ⟨h,0,none⟩=some (.bool n1)∧W.cell? ⟨h,1,none⟩=some (.slice p1 l1 c1))∧W.cell? ⟨h + 1,0,none⟩=some (.bool n2)∧W.cell? ⟨h + 1,1,none⟩=some (.slice p2 l2 c2)) 3 (by kernel_rfl) ?_;refine tk 0 ⟨⟨a0,a1⟩,b0,b1⟩ ?_;refine tk 1 ⟨⟨a0,a1⟩,b0,b1⟩ ?_;refine till_one (i := 2) (by kernel_rfl) rfl (fun K' hK => ?_);go_simp;go_at_call 88;(with_reducible refine (minus_any _ b _ (HRB.o.below (Below.refl _ _).drew)).mono ?_);rintro e w3 ⟨⟨r3,rfl,hr3⟩,b3⟩;have HU3 : Hid (Below v.heap.size v w3) := (Below.refl _ _).drew.trans b3;have HR3 := LH9 hr3;clear b3 hr3 a0 a1 b0 b1;obtain ⟨a0,a1,-,-⟩ := ((HS.o.blk 1 rfl).below HU3.o).two;obtain ⟨b0,b1,-,-⟩ := ((HS.o.blk 0 rfl).below HU3.o).two;refine hK _ _ ⟨⟨a0,a1⟩,b0,b1⟩ ?_;clear hK K'
   try simp only [Act.put,zp1,zp2,zp3,zp4,zp5,zp6]
   refine till_last (by kernel_rfl) rfl (by kernel_rfl) (fun K' hK => ?_);go_simp;go_at_call 45;(with_reducible refine (plus_any _ _ a (-b) _ (HRA.o.below HU3.o) HR3.o HSA.o HSB'.o).mono ?_);rintro e w4 ⟨⟨r4,rfl,hr4⟩,b4⟩;have HW4 := LH9 (HV.o.trans ((HU3.o.trans (b4.mono HU3.o.size)).mono HV.o.size));have HR4 := LH9 hr4;clear b4 hr4 HRA HRB HV HS HR3 HU3 a0 a1 b0 b1;refine hK _ _ ?_;clear hK K'
   try simp only [Act.put,zp1,zp2,zp3,zp4,zp5,zp6]
   refine any_one (i := 4) (by kernel_rfl) rfl (fun K' hK => ?_);go_simp;go_at_call 47;(with_reducible refine (small_any _ (a + -b) _ HR4.o HS6.o).mono ?_);rintro e w5 ⟨rfl,b5⟩;have HW5 := LH9 (HW4.o.trans (b5.mono HW4.o.size));clear b5 HR4 HW4;generalize smN (a + -b)=sn at *;generalize smB (a + -b)=sb at *;refine hK _ _ ?_;clear hK K'
   try simp only [Act.put,zp1,zp2,zp3,zp4,zp5,zp6]
   refine ak 5 ?_;refine ak 6 ?_;refine ak 7 ?_;refine ak 8 ?_;refine wpAny_done (by kernel_rfl) ?_ _
   go_wp2_with fail
   go_ret2;exact ⟨HFT.o,HW5.o⟩
 have n6 : (op == 6)=false := beq_eq_false_iff_ne.2 h6;rw [if_neg h6] at HMD;clear h6;by_cases h7 : op=7
 · obtain rfl : R=fitI (a * b) := by rw [HMD.o,if_pos h7]
   subst h7;have HFT := LH9 (sm_fit (a * b));clear HMD n5 n6
   go_wp2_with fail
   go_at_call 58;(with_reducible refine (times_any _ _ a b _ HRA.o HRB.o (Md.i64 HA.o) (Md.i64 HB.o)).mono ?_);rintro e w3 ⟨⟨r3,rfl,hr3⟩,b3⟩;have HW3 := LH9 (HV.o.trans (b3.mono HV.o.size));have HR3 := LH9 hr3;clear b3 hr3 HRA HRB HV HS a0 a1 b0 b1
   go_wp2_with fail
   go_at_call 47;(with_reducible refine (small_any _ (a * b) _ HR3.o HS7.o).mono ?_);rintro e w4 ⟨rfl,b4⟩;have HW4 := LH9 (HW3.o.trans (b4.mono HW3.o.size));clear b4 HR3 HW3;generalize smN (a * b)=sn at *;generalize smB (a * b)=sb at *
   go_wp2_with fail
   go_ret2;exact ⟨HFT.o,HW4.o⟩
 have n7 : (op == 7)=false := beq_eq_false_iff_ne.2 h7;rw [if_neg h7] at HMD;clear h7;by_cases h8 : op=8
 · have hR : R=(if b=0 then none else fitI (a.fdiv b)) := by rw [HMD.o,if_pos h8]
   subst h8;have hC := rmuldiv_any a b v HA.o HB.o;rw [← hR] at hC;have HC := LH9 hC;clear HMD n5 n6 n7 a0 a1 b0 b1 hR hC
   go_wp2_with fail
   go_at_call 89;(with_reducible refine HC.o.mono ?_);rintro e w3 ⟨rfl,b3⟩;have HW3 := LH9 (HV.o.trans (b3.mono HV.o.size));clear b3 HC HRA HRB HS HV;unfold fitR
   go_wp2_with fail
   go_ret2;exact ⟨rfl,HW3.o⟩
 have n8 : (op == 8)=false := beq_eq_false_iff_ne.2 h8;rw [if_neg h8] at HMD;clear h8;by_cases h9 : op=9
 · subst h9;by_cases hab : a < b
   · obtain rfl : R=some a := by rw [HMD.o]; simp [hab]
     clear HMD n5 n6 n7 n8 a0 a1 b0 b1
     go_wp2_with fail
     go_ret2;exact ⟨rfl,HV.o⟩
   · obtain rfl : R=some b := by rw [HMD.o]; simp [hab]
     clear HMD n5 n6 n7 n8 a0 a1 b0 b1
     go_wp2_with fail
     go_ret2;exact ⟨rfl,HV.o⟩
 have n9 : (op == 9)=false := beq_eq_false_iff_ne.2 h9;by_cases h10 : op=10
 · subst h10;by_cases hab : a < b
   · obtain rfl : R=some b := by rw [HMD.o]; simp [hab]
     clear HMD n5 n6 n7 n8 n9 a0 a1 b0 b1
     go_wp2_with fail
     go_ret2;exact ⟨rfl,HV.o⟩
   · obtain rfl : R=some a := by rw [HMD.o]; simp [hab]
     clear HMD n5 n6 n7 n8 n9 a0 a1 b0 b1
     go_wp2_with fail
     go_ret2;exact ⟨rfl,HV.o⟩
 have n10 : (op == 10)=false := beq_eq_false_iff_ne.2 h10;rw [if_neg (by omega)] at HMD;clear h9 h10;by_cases h20 : op=20
 · obtain rfl : R=fitI (-a) := by rw [HMD.o,if_pos h20]
   subst h20;have HFT := LH9 (sm_fit (-a));clear HMD n5 n6 n7 n8 n9 n10
   go_wp2_with fail
   go_at_call 88;(with_reducible refine (minus_any _ a _ HRA.o).mono ?_);rintro e w3 ⟨⟨r3,rfl,hr3⟩,b3⟩;have HW3 := LH9 (HV.o.trans (b3.mono HV.o.size));have HR3 := LH9 hr3;clear b3 hr3 HRA HRB HV HS a0 a1 b0 b1
   go_wp2_with fail
   go_at_call 47;(with_reducible refine (small_any _ (-a) _ HR3.o HS20.o).mono ?_);rintro e w4 ⟨rfl,b4⟩;have HW4 := LH9 (HW3.o.trans (b4.mono HW3.o.size));clear b4 HR3 HW3;generalize smN (-a)=sn at *;generalize smB (-a)=sb at *
   go_wp2_with fail
   go_ret2;exact ⟨HFT.o,HW4.o⟩
 have n20 : (op == 20)=false := beq_eq_false_iff_ne.2 h20;obtain rfl : R=none := by rw [HMD.o,if_neg h20]
 clear HMD h20 a0 a1 b0 b1
 go_wp2_with fail
 go_ret2;exact ⟨rfl,HV.o⟩
end
section
theorem mul_big {a b : Int} (ha : I64 a) (hb : I64 b) : Sm (a * b).natAbs := by
 refine Sm.big ?_;rw [Int.natAbs_mul];unfold I64 at ha hb;have h1 : a.natAbs≤9223372036854775808 := by omega
 have h2 : b.natAbs≤9223372036854775808 := by omega
 exact Nat.le_trans (Nat.mul_le_mul h1 h2) (by decide)
theorem rfactor_any (a b : Int) (w : World) (ha : I64 a) (hb : I64 b) : Calls Tryz.prog 31 #[.int .i64 a,.int .i64 b] w fun e w' => e=fitR (fitI (a * b))∧Below w.heap.size w w' := by
 rw [← sm_fit];have HA := LH9 ha;have HB := LH9 hb;have HSM := LH9 (mul_big ha hb);obtain ⟨z,hz⟩ : ∃ z,z=a * b := ⟨_,rfl⟩;rw [← hz] at HSM ⊢;have HZ := LH9 hz;clear ha hb hz
 go_enter Tryz.func31,Tryz.ntmps31
 go_wp2_with fail
 go_at_call 46;(with_reducible refine (bigof_any a w (by have := HA.o; unfold I64 at this; omega) (by have := HA.o; unfold I64 at this; omega)).mono ?_);rintro y w1 ⟨⟨r,rfl,hr⟩,b1⟩;have HR := LH9 hr;have HB1 := LH9 b1;clear hr b1
 go_wp2_with fail
 go_at_call 46;(with_reducible refine (bigof_any b w1 (by have := HB.o; unfold I64 at this; omega) (by have := HB.o; unfold I64 at this; omega)).mono ?_);rintro y w2 ⟨⟨r',rfl,hr'⟩,b2⟩;have HR' := LH9 hr';have HR2 := LH9 (HR.o.below b2);have HB2 := LH9 (HB1.o.trans (b2.mono HB1.o.size));clear hr' b2 HR HB1
 go_wp2_with fail
 go_at_call 58;(with_reducible refine (times_any _ _ a b w2 HR2.o HR'.o (Md.i64 HA.o) (Md.i64 HB.o)).mono ?_);rintro y w3 ⟨⟨t,rfl,ht⟩,b3⟩;rw [← HZ.o] at ht;have HT := LH9 ht;have HB3 := LH9 (HB2.o.trans (b3.mono HB2.o.size));clear ht b3 HR2 HR' HB2
 go_wp2_with fail
 go_at_call 47;(with_reducible refine (small_any t z w3 HT.o HSM.o).mono ?_);rintro y w4 ⟨rfl,b4⟩;have HB4 := LH9 (HB3.o.trans (b4.mono HB3.o.size));clear b4 HT HB3
 go_wp2_with fail
 go_ret2;exact ⟨rfl,HB4.o⟩
end
section
noncomputable def accL (day : Int) (fx : List Fx) (l : List Prt) (s : RS) : RS := l.foldl (fun s p => acq day fx p.term p.factor p.turned p.til s) s
section
variable {day : Int} {fx : List Fx} {p : Prt} {l rest : List Prt} {s : RS}
theorem accL_cons : accL day fx (p :: l) s=accL day fx l (acq day fx p.term p.factor p.turned p.til s) := rfl
theorem accL_bad (h : s.bad=true) : accL day fx l s=s := by
 induction l with
 | nil => rfl
 | cons p l ih => rw [accL_cons,acq_bad h,ih]
theorem RS.good {s : RS} (h : s.bad=false) : { s with bad := false }=s := by rw [← h]
theorem acc_none (hb : bT p.term=true) (h : p.term.op=1∨(p.term.op=2∧p.factor=0)) : accL day fx (p :: rest) s=accL day fx rest s := by
 rw [accL_cons,acq_eq day fx hb,acqB];by_cases hs : s.bad=true
 · rw [if_pos hs]
 rw [if_neg hs];rcases h with h | ⟨h,hf⟩
 · rw [if_neg (by omega),if_neg (by omega),if_neg (by omega),if_neg (by omega),if_neg (by omega),if_neg (by omega)]
 · rw [if_pos h,if_pos hf]
theorem acc_one (hb : bT p.term=true) (hs : s.bad=false) (h : p.term.op=2) (hf : p.factor ≠ 0) : accL day fx (p :: rest) s=accL day fx rest { s with fs := s.fs ++ [⟨p.term.nm,p.factor⟩] } := by
 rw [accL_cons,acq_eq day fx hb,acqB,hs,if_neg (by simp),if_pos h,if_neg hf]
theorem acc_give (hb : bT p.term=true) (hs : s.bad=false) (h : p.term.op=3) (hf : fitB (fitI (-p.factor))=true) : accL day fx (p :: rest) s=accL day fx (⟨fitN (fitI (-p.factor)),!p.turned,p.til,t0 p.term⟩ :: rest) s := by
 rw [accL_cons,acq_eq day fx hb,acqB,hs,if_neg (by simp),if_neg (by omega),if_pos h,hf];show accL day fx rest (acq day fx _ _ _ _ { s with bad := false })=_;rw [RS.good hs]; rfl
theorem acc_giveBad (hb : bT p.term=true) (hs : s.bad=false) (h : p.term.op=3) (hf : fitB (fitI (-p.factor))=false) : (accL day fx (p :: rest) s).bad=true := by
 rw [accL_cons,acq_eq day fx hb,acqB,hs,if_neg (by simp),if_neg (by omega),if_pos h,hf,acq_bad rfl,accL_bad rfl]; rfl
theorem acc_and (hb : bT p.term=true) (hs : s.bad=false) (h : p.term.op=4) : accL day fx (p :: rest) s=accL day fx (⟨p.factor,p.turned,p.til,t0 p.term⟩ :: ⟨p.factor,p.turned,p.til,t1 p.term⟩ :: rest) s := by
 rw [accL_cons,acq_eq day fx hb,acqB,hs,if_neg (by simp),if_neg (by omega),if_neg (by omega),if_pos h]; rfl
theorem acc_part (hb : bT p.term=true) (hs : s.bad=false) (h : p.term.op=5∨p.term.op=9) : accL day fx (p :: rest) s=accL day fx rest { s with ps := s.ps ++ [p] } := by
 rw [accL_cons,acq_eq day fx hb,acqB,hs,if_neg (by simp),if_neg (by omega),if_neg (by omega),if_neg (by omega),if_neg (by omega),if_neg (by omega),if_pos h]
theorem acc_brk (hb : bT p.term=true) (hs : s.bad=false) (h : p.term.op=6∨p.term.op=7∨p.term.op=8) (hv : (evalX day fx (x0 p.term)).K=3) : (accL day fx (p :: rest) s).bad=true := by
 rw [accL_cons,acq_eq day fx hb,acqB,hs,if_neg (by simp),if_neg (by omega),if_neg (by omega),if_neg (by omega)];by_cases h8 : p.term.op=8
 · rw [if_pos h8,if_pos hv,accL_bad rfl]
 · rw [if_neg h8,if_pos (by omega)];unfold waitW;rw [if_pos hv,accL_bad rfl]
theorem acc_til (hb : bT p.term=true) (hs : s.bad=false) (h : p.term.op=8) (hv : (evalX day fx (x0 p.term)).K ≠ 3) (hB : (evalX day fx (x0 p.term)).B=false) : accL day fx (p :: rest) s=accL day fx (⟨p.factor,p.turned,p.til ++ [x0 p.term],t0 p.term⟩ :: rest) s := by
 rw [accL_cons,acq_eq day fx hb,acqB,hs,if_neg (by simp),if_neg (by omega),if_neg (by omega),if_neg (by omega),if_pos h,if_neg hv,hB,if_neg (by simp)]; rfl
theorem acc_ends (hb : bT p.term=true) (hs : s.bad=false) (h : p.term.op=8) (hv : (evalX day fx (x0 p.term)).K ≠ 3) (hB : (evalX day fx (x0 p.term)).B=true) : accL day fx (p :: rest) s=accL day fx rest s := by
 rw [accL_cons,acq_eq day fx hb,acqB,hs,if_neg (by simp),if_neg (by omega),if_neg (by omega),if_neg (by omega),if_pos h,if_neg hv,hB,if_pos rfl]
theorem acc_scale (hb : bT p.term=true) (hs : s.bad=false) (h : p.term.op=6) (hv : (evalX day fx (x0 p.term)).K=1) (hf : fitB (fitI (p.factor * (evalX day fx (x0 p.term)).N))=true) :
 accL day fx (p :: rest) s=accL day fx (⟨fitN (fitI (p.factor * (evalX day fx (x0 p.term)).N)),p.turned,p.til,t0 p.term⟩ :: rest) s := by
 rw [accL_cons,acq_eq day fx hb,acqB,hs,if_neg (by simp),if_neg (by omega),if_neg (by omega),if_neg (by omega),if_neg (by omega),if_pos (.inl h)];unfold waitW;rw [if_neg (by omega),if_pos ⟨h,hv⟩,hf];show accL day fx rest (acq day fx _ _ _ _ { s with bad := false })=_;rw [RS.good hs]; rfl
theorem acc_scaleBad (hb : bT p.term=true) (hs : s.bad=false) (h : p.term.op=6) (hv : (evalX day fx (x0 p.term)).K=1) (hf : fitB (fitI (p.factor * (evalX day fx (x0 p.term)).N))=false) : (accL day fx (p :: rest) s).bad=true := by
 rw [accL_cons,acq_eq day fx hb,acqB,hs,if_neg (by simp),if_neg (by omega),if_neg (by omega),if_neg (by omega),if_neg (by omega),if_pos (.inl h)];unfold waitW;rw [if_neg (by omega),if_pos ⟨h,hv⟩,hf,acq_bad rfl,accL_bad rfl]; rfl
theorem acc_when (hb : bT p.term=true) (hs : s.bad=false) (h : p.term.op=7) (hv : (evalX day fx (x0 p.term)).K ≠ 3) (hB : (evalX day fx (x0 p.term)).B=true) : accL day fx (p :: rest) s=accL day fx (⟨p.factor,p.turned,p.til,t0 p.term⟩ :: rest) s := by
 rw [accL_cons,acq_eq day fx hb,acqB,hs,if_neg (by simp),if_neg (by omega),if_neg (by omega),if_neg (by omega),if_neg (by omega),if_pos (.inr h)];unfold waitW;rw [if_neg hv,if_neg (by omega),if_pos ⟨h,hB⟩]; rfl
theorem acc_wait (hb : bT p.term=true) (hs : s.bad=false) (h : (p.term.op=6∧(evalX day fx (x0 p.term)).K ≠ 1)∨(p.term.op=7∧(evalX day fx (x0 p.term)).B=false)) (hv : (evalX day fx (x0 p.term)).K ≠ 3) : accL day fx (p :: rest) s=accL day fx rest { s with ps := s.ps ++ [p] } := by
 have h' : p.term.op=6∨p.term.op=7 := by rcases h with h | h <;> omega
 rw [accL_cons,acq_eq day fx hb,acqB,hs,if_neg (by simp),if_neg (by omega),if_neg (by omega),if_neg (by omega),if_neg (by omega),if_pos h'];unfold waitW;have n1 : ¬ (p.term.op=6∧(evalX day fx (x0 p.term)).K=1) := by rcases h with h | h <;> omega
 have n2 : ¬ (p.term.op=7∧(evalX day fx (x0 p.term)).B=true) := by
  rintro ⟨h1,h2⟩;rcases h with h | h
  · omega
  · rw [h.2] at h2; cases h2
 rw [if_neg hv,if_neg n1,if_neg n2,hs]
end
end
section
theorem Sl.drop {w : World} {X : List Nat} {sz len cap : Nat} {b o : Nat} {vs : List (List Value)} (h : Sl w X sz (some ⟨b,o,none⟩) len cap vs) (k : Nat) (hk : k≤len) : Sl w X sz (some ⟨b,o + k * sz,none⟩) (len - k) (cap - k) (vs.drop k) := by
 obtain ⟨h1,h2,h3,h4⟩ := h;refine ⟨by simp; omega,by omega,by omega,fun hp => ?_⟩;obtain ⟨b',o',ha,hb,hx,hc⟩ := h4 (by omega);injection ha with ha;injection ha with e1 e2;subst e1; subst e2;refine ⟨b,o + k * sz,rfl,hb,hx,fun i cs hi => ?_⟩;rw [List.getElem?_drop] at hi;have := hc (k + i) cs hi;refine ⟨this.1,fun j c hj => ?_⟩;rw [← this.2 j c hj,show o + (k + i) * sz + j=o + k * sz + i * sz + j by rw [Nat.add_mul]; omega]
theorem SlR.dropAt {α : Type} {K : Elt α} {w : World} {X : List Nat} {l : List α} {len cap b o : Nat} (h : SlR K w X l (some ⟨b,o,none⟩) len cap) (k : Nat) (hk : k≤len) : SlR K w X (l.drop k) (some ⟨b,o + k * K.sz,none⟩) (len - k) (cap - k) := by
 obtain ⟨vs,h1,h2,h3⟩ := h;refine ⟨vs.drop k,by simp [h1],fun i x cs hi hc => h2 (k + i) x cs ?_ ?_,Sl.drop h3 k hk⟩
 · rw [List.getElem?_drop] at hi; exact hi
 · rw [List.getElem?_drop] at hc; exact hc
theorem SlR.empty {α : Type} {K : Elt α} {w w' : World} {X X' : List Nat} {l : List α} {a a' : Option Addr} {cap cap' : Nat} (h : SlR K w X l a 0 cap) (hc : cap'≤9223372036854775807) : SlR K w' X' [] a' 0 cap' :=
 ⟨[],rfl,fun i x cs hx => by simp at hx,rfl,Nat.zero_le _,hc,fun hp => absurd hp (Nat.lt_irrefl _)⟩
theorem SlR.from {α : Type} {K : Elt α} {w : World} {X : List Nat} {l : List α} {a : Option Addr} {len cap : Nat} (h : SlR K w X l a len cap) (k : Nat) (hk : k≤len) : SlR K w X (l.drop k) (if cap=k then a else a.map (fun p => p.add (k * K.sz))) (len - k) (cap - k) := by
 have hf := h.facts;by_cases hl : k=len
 · have hd : l.drop k=[] := List.drop_eq_nil_of_le (by omega);rw [hd,hl,Nat.sub_self];have h0 := h.take 0 (Nat.zero_le _);exact SlR.empty h0 (by omega)
 · rw [if_neg (by omega)];obtain ⟨b,o,x,cs,rfl,-⟩ := h.at k (by omega);have := SlR.dropAt h k hk;have e : (⟨b,o,none⟩ : Addr).add (k * K.sz)=⟨b,o + k * K.sz,none⟩ := by
    unfold Addr.add;by_cases h0 : k * K.sz=0
    · simp [h0]
    · simp [h0]
   show SlR K w X (l.drop k) (some ((⟨b,o,none⟩ : Addr).add (k * K.sz))) (len - k) (cap - k);rw [e]; exact this
end
section
def wd : Vl→ByteArray | .unk => ⟨#[63]⟩ | .brk => ⟨#[33]⟩ | .num _ => ⟨#[110]⟩ | .tru true => ⟨#[116]⟩ | .tru false => ⟨#[102]⟩
def RetW (v : Vl) (x : Ending) : Prop := x=.returned (.agg #[.string (wd v),.int .i64 v.N])
theorem rtruth_any (b : Bool) (w : World) : Calls Tryz.prog 59 #[.bool b] w fun x w' => RetW (.tru b) x∧Below w.heap.size w w' := by
 have BX := LH9 (Mem.Blk.new w 97 #[.string ⟨#[]⟩,.int .i64 0]);have HB := LH9 (below_two w (.cells #[.string ⟨#[]⟩,.int .i64 0] 97))
 go_enter Tryz.func59,Tryz.ntmps59
 go_upto_region 1 with (fail)
 generalize w.alloc (.cells #[.string ⟨#[]⟩,.int .i64 0] 97)=v at *;obtain ⟨t0,t1,t2,t3⟩ := BX.o.two;have hm := BX.o.lt
 cases b with
 | false =>
   go_wp2_with fail
   have HFN : Hid (Below w.heap.size w ((v.setCell ⟨w.heap.size,0,none⟩ (.string ⟨#[102]⟩)).setCell ⟨w.heap.size,1,none⟩ (.int .i64 0))∧Mem.Blk ((v.setCell ⟨w.heap.size,0,none⟩ (.string ⟨#[102]⟩)).setCell ⟨w.heap.size,1,none⟩ (.int .i64 0)) (w.heap.size) 97 #[.string ⟨#[102]⟩,.int .i64 0]) := ⟨((HB.o).setCell (by show w.heap.size≤w.heap.size; omega) _).setCell (by show w.heap.size≤w.heap.size; omega) _,((BX.o).set_ 0 _).set_ 1 _⟩;generalize (v.setCell ⟨w.heap.size,0,none⟩ (.string ⟨#[102]⟩)).setCell ⟨w.heap.size,1,none⟩ (.int .i64 0)=W9 at *;obtain ⟨r0,r1,-,-⟩ := HFN.o.2.two;refine bodyPost_ret (v := .agg #[.string ⟨#[102]⟩,.int .i64 0]) (by simp [results,Tryz.results59,go_sem,r0,r1]) rfl ⟨rfl,HFN.o.1⟩
 | true =>
   go_wp2_with fail
   have HFN : Hid (Below w.heap.size w ((v.setCell ⟨w.heap.size,0,none⟩ (.string ⟨#[116]⟩)).setCell ⟨w.heap.size,1,none⟩ (.int .i64 0))∧Mem.Blk ((v.setCell ⟨w.heap.size,0,none⟩ (.string ⟨#[116]⟩)).setCell ⟨w.heap.size,1,none⟩ (.int .i64 0)) (w.heap.size) 97 #[.string ⟨#[116]⟩,.int .i64 0]) := ⟨((HB.o).setCell (by show w.heap.size≤w.heap.size; omega) _).setCell (by show w.heap.size≤w.heap.size; omega) _,((BX.o).set_ 0 _).set_ 1 _⟩;generalize (v.setCell ⟨w.heap.size,0,none⟩ (.string ⟨#[116]⟩)).setCell ⟨w.heap.size,1,none⟩ (.int .i64 0)=W9 at *;obtain ⟨r0,r1,-,-⟩ := HFN.o.2.two;refine bodyPost_ret (v := .agg #[.string ⟨#[116]⟩,.int .i64 0]) (by simp [results,Tryz.results59,go_sem,r0,r1]) rfl ⟨rfl,HFN.o.1⟩
end
section
theorem rseen_any (day : Int) (fx : List Fx) (nm : ByteArray) (a : Option Addr) (len cap : Nat) (w : World) (hS : SlR fxK w [] fx a len cap) :
 Calls Tryz.prog 60 #[.agg #[.int .i64 day,.slice a len cap],.string nm] w fun x w' => x=seenRt (seenV day fx nm)∧Below w.heap.size w w' := by
 obtain ⟨f1,f2,f3⟩ := hS.facts;have HL := LH9 f1;have hal := (Below.refl w.heap.size w).alloc (Nat.le_refl _) (.cells #[.int .i64 day,.slice a len cap] 26);have HS := LH9 (hS.kept (Kept.of_below hal []));have HB0 := LH9 hal;have BX := LH9 (Mem.Blk.new w 26 #[.int .i64 day,.slice a len cap]);obtain ⟨R,hR⟩ : ∃ R,R=seenRt (seenV day fx nm) := ⟨_,rfl⟩;rw [← hR];have HR := LH9 hR;clear hR hS hal f1
 go_enter Tryz.func60,Tryz.ntmps60
 go_upto_region 1 with (fail)
 generalize w.alloc (.cells #[.int .i64 day,.slice a len cap] 26)=v at *
 go_wp2_with fail
 go_loopw [6,7,8,9] (fun u y z i wr => ∃ (k : Nat) (b : Bool) (d n : Int),i=.int .i64 (k : Nat)∧u=.bool b∧y=.int .i64 d∧z=.int .i64 n∧k≤len∧Hid (BestR day nm fx k b d n)∧Hid (Below v.heap.size v wr)) (fun _ _ _ i _ => len - (intOf i).toNat)
 case atStart => exact ⟨0,false,0,0,rfl,rfl,rfl,rfl,Nat.zero_le _,BestR.start _ _ _,Below.refl _ _⟩
 case round =>
  obtain ⟨k,b,d,n,rfl,rfl,rfl,rfl,hk,HN,HB⟩ := hrel;have BW := LH9 (BX.o.below HB.o);obtain ⟨c0,c1,-,-⟩ := BW.o.two;have HSW := LH9 (HS.o.kept (Kept.of_below HB.o []));by_cases hlt : k < len
  · have hk' : (k : Int) < (len : Int) := by omega
    obtain ⟨q,o,f,rfl,hbl,-,hf,-,k1,k2,u0,u1,u2⟩ := fx_at HSW.o k hlt;have HF := LH9 hf;have hal := (Below.refl wr.heap.size wr).alloc (Nat.le_refl _) (.cells #[.string f.name,.int .i64 f.day,.int .i64 f.val] 92);have HB2 := LH9 (HB.o.trans (hal.mono HB.o.size));have BF := LH9 (Mem.Blk.new wr 92 #[.string f.name,.int .i64 f.day,.int .i64 f.val]);have BW2 := LH9 (BW.o.below hal);clear hf hal HSW HB HS BX BW
    go_upto_region 8 with (fail)
    generalize wr.alloc (.cells #[.string f.name,.int .i64 f.day,.int .i64 f.val] 92)=v2 at *;generalize wr.heap.size=h2 at *;clear c0 c1 u0 u1 u2;obtain ⟨c0,c1,-,-⟩ := BW2.o.two;have d0 : v2.cell? ⟨h2,0,none⟩=_ := BF.o.cell 0;have d1 : v2.cell? ⟨h2,1,none⟩=_ := BF.o.cell 1;have d2 : v2.cell? ⟨h2,2,none⟩=_ := BF.o.cell 2;simp only [List.getElem?_toArray,List.getElem?_cons_zero,List.getElem?_cons_succ] at d0 d1 d2;by_cases hn : f.name=nm
    case neg =>
     have t1 : (f.name.toList == nm.toList)=false := tl_ne hn;have HX := LH9 (HN.o.skip HF.o (fun hh => hn hh.1));clear hn HN
     go_wp2_with fail
     go_roundw
     case rel => exact ⟨k + 1,b,_,_,by go_num,rfl,rfl,rfl,by omega,HX.o,HB2.o⟩
     case measure => simp [intOf]; omega
    case pos =>
     by_cases hd : f.day≤day
     case neg =>
      have hdd : decide (f.day≤day)=false := decide_eq_false hd;have HX := LH9 (HN.o.skip HF.o (fun hh => hd hh.2.1));clear HN;subst hn
      go_wp2_with fail
      go_roundw
      case rel => exact ⟨k + 1,b,_,_,by go_num,rfl,rfl,rfl,by omega,HX.o,HB2.o⟩
      case measure => simp [intOf]; omega
     case pos =>
      have hdd : decide (f.day≤day)=true := decide_eq_true hd
      cases b with
      | false =>
        have HX := LH9 (HN.o.take HF.o ⟨hn,hd,fun h => by cases h⟩);clear HN;subst hn
        go_wp2_with fail
        go_roundw
        case rel => exact ⟨k + 1,true,_,_,by go_num,rfl,rfl,rfl,by omega,HX.o,HB2.o⟩
        case measure => simp [intOf]; omega
      | true =>
        by_cases hgd : d < f.day
        case pos =>
         have hgg : decide (d < f.day)=true := decide_eq_true hgd;have HX := LH9 (HN.o.take HF.o ⟨hn,hd,fun _ => hgd⟩);clear HN;subst hn
         go_wp2_with fail
         go_roundw
         case rel => exact ⟨k + 1,true,_,_,by go_num,rfl,rfl,rfl,by omega,HX.o,HB2.o⟩
         case measure => simp [intOf]; omega
        case neg =>
         have hgg : decide (d < f.day)=false := decide_eq_false hgd;have HX := LH9 (HN.o.skip HF.o (fun hh => hgd (hh.2.2 rfl)));clear HN;subst hn
         go_wp2_with fail
         go_roundw
         case rel => exact ⟨k + 1,true,_,_,by go_num,rfl,rfl,rfl,by omega,HX.o,HB2.o⟩
         case measure => simp [intOf]; omega
  · have hk' : ¬ (k : Int) < (len : Int) := by omega
    obtain rfl : k=fx.length := by have := HL.o; omega
    have HB2 := LH9 (HB0.o.trans (HB.o.mono HB0.o.size));obtain rfl : R=.returned (.tuple #[.int .i64 n,.bool b]) := by rw [HR.o,HN.o.done]
    clear HR HN
    go_wp2_with fail
    go_ret2;exact ⟨rfl,HB2.o⟩
end
end Go.Proofs.YtmiinmndbkdjbaaGreat
