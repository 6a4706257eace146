/- A part of the proof: LvS, one behind another. -/
import Derived.Test.YtmiinmndbkdjbaaGreatMEA
import Derived.Test.YtmiinmndbkdjbaaGreatMEO
import Derived.Lib.Hide
import Derived.WalkKit
set_option maxRecDepth 100000
set_option maxHeartbeats 16000000
set_option linter.unusedVariables false
set_option linter.unusedSimpArgs false
namespace Go.Proofs.YtmiinmndbkdjbaaGreat
open Go.RowKit
section
theorem ex_at9 {w : World} {X : List Nat} {l : List Ex} {a : Option Addr} {len cap : Nat} (h : SlR exK w X l a len cap) (k : Nat) (hk : k < len) : ∃ b o e op n nm aa al ac,a=some ⟨b,o,none⟩/\l[k]?=some e/\RepE w X e [.int .i64 op,.int .i64 n,.string nm,.slice aa al ac] /\
 w.cell? ⟨b,o + k * 4,none⟩=some (.int .i64 op)/\w.cell? ⟨b,o + k * 4 + 1,none⟩=some (.int .i64 n)/\w.cell? ⟨b,o + k * 4 + 2,none⟩=some (.string nm)/\w.cell? ⟨b,o + k * 4 + 3,none⟩=some (.slice aa al ac) := by
 obtain ⟨b,o,x,cs,ha,-,-,hx,hRx,-,hc⟩ := h.at k hk;have hR : RepE w X x cs := hRx;obtain ⟨op,no,nm,args,aa,al,ac,-,e2,-,-,-,-⟩ := hR.inv;subst e2;exact ⟨b,o,x,op,no,nm,aa,al,ac,ha,hx,hR,hc 0 _ rfl,hc 1 _ rfl,hc 2 _ rfl,hc 3 _ rfl⟩
theorem same23_any (P : List Prt) (F : List Flw) (pa fa qa ga : Option Addr) (n pc m fc qc gc : Nat) (w : World) (h1 : SlR ptK w [] P pa n pc) (h2 : SlR flK w [] F fa m fc) (h3 : SlR ptK w [] P qa n qc) (h4 : SlR flK w [] F ga m gc) :
 Calls Tryz.prog 14 #[.slice pa n pc,.slice fa m fc,.slice qa n qc,.slice ga m gc] w fun x w' => x=.returned (.bool true)/\Below w.heap.size w w' := by
 have HP := LH9 h1;have HF := LH9 h2;have HQ := LH9 h3;have HG := LH9 h4;have HM := LH9 (And.intro h1.facts.2 h2.facts.2);clear h1 h2 h3 h4
 go_enter Tryz.func14,Tryz.ntmps14
 go_wp2_with fail
 go_loopw [9] (fun i wr => ∃ (k : Nat),i=.int .i64 (k : Nat)/\k<=m/\Hid (Below w.heap.size w wr)) (fun i _ => m - (intOf i).toNat)
 case atStart => exact ⟨0,rfl,Nat.zero_le _,Below.refl _ _⟩
 case round =>
  rename World => w3
  obtain ⟨k,rfl,hk,HB⟩ := hrel;by_cases hlt : k < m
  . as_aux_lemma =>
     have hlt' : (k : Int) < (m : Int) := by omega
     have k0 : (0 : Int)<=(k : Int) := by omega
     have k1 : (k : Int)<=9223372036854775806 := by have := HM.o; omega
     obtain ⟨b,o,x,rfl,hx,hxo,u0,u1⟩ := fl_at (HF.o.kept (Kept.of_below HB.o [])) k hlt;obtain ⟨b',o',y,rfl,hy,-,v0,v1⟩ := fl_at (HG.o.kept (Kept.of_below HB.o [])) k hlt;rw [hx] at hy;injection hy with hy;subst hy;generalize x.amt=xa at *;generalize x.coin=xc at *;have HLT := LH9 hlt;clear hx hxo hlt;go_upto_region 6 with (fail);go_quiet (fail);have bq : Below w3.heap.size w3 (w3.drewN nq) := below_drewN (Below.refl w3.heap.size w3) nq;have HB4 := bt9 HB bq;clear bq u0 u1 v0 v1;generalize w3.drewN nq=w4 at *;go_wp2_with fail;go_roundw
     case rel => exact ⟨k + 1,by go_num,by have := HLT.o; omega,HB4.o⟩
     case measure => simp [intOf]; have := HLT.o; omega
  . have hlt' : ¬ (k : Int) < (m : Int) := by omega
    obtain rfl : k=m := by omega
    clear hlt;go_wp2_with fail
    go_loopw [10] (fun i wr => ∃ (k : Nat),i=.int .i64 (k : Nat)/\k<=n/\Hid (Below w.heap.size w wr)) (fun i _ => n - (intOf i).toNat)
    case atStart => exact ⟨0,rfl,Nat.zero_le _,HB.o⟩
    case round =>
     clear HB hlt';rename World => w3
     obtain ⟨j,rfl,hj,HB⟩ := hrel;by_cases hlt : j < n
     . have hlt' : (j : Int) < (n : Int) := by omega
       have k0 : (0 : Int)<=(j : Int) := by omega
       have k1 : (j : Int)<=9223372036854775806 := by have := HM.o; omega
       obtain ⟨b,o,p,ua,uc,op,nm,xa,xl,xc,ta,tl,tc,rfl,-,-,hp,hop,hf,hU,hT,u0,u1,u2,u3,u4,u5,u6⟩ := pt_at (HP.o.kept (Kept.of_below HB.o [])) j hlt;obtain ⟨b',o',q,ua',uc',op',nm',xa',xl',xc',ta',tl',tc',rfl,-,-,hq,hop',hf',hU',hT',v0,v1,v2,v3,v4,v5,v6⟩ := pt_at (HQ.o.kept (Kept.of_below HB.o [])) j hlt;rw [hp] at hq;injection hq with hq;subst hq;have HSM := LH9 (rsame_any p.term.rk p.term (Nat.le_refl _) p.term _ _ w3.drew (hT.kept (Kept.of_below (Below.refl w3.heap.size w3).drew [])) (hT'.kept (Kept.of_below (Below.refl w3.heap.size w3).drew [])));rw [eqv_yes (rfl : p.term=p.term)] at HSM;generalize p.factor=pf at *;generalize p.turned=pt at *;have HU := LH9 hU;have HU' := LH9 hU';generalize p.til=U at *;generalize hul : U.length=un at *;have HUL := LH9 hul;have HLT := LH9 hlt;have HUM := LH9 HU.o.facts.2;clear hul hp hop hf hU hT hop' hf' hU' hT' hlt;go_upto_region 11 with (fail)
       go_cut [112] from 54 to 140 (fun v W4 => v=.bool false/\Hid (Below w3.heap.size w3 W4))
       case first =>
        as_aux_lemma =>
         refine wp_region_tillL (S := fun W => (W.cell? ⟨b,o + j * 7,none⟩=some (.int .i64 pf)/\W.cell? ⟨b,o + j * 7 + 1,none⟩=some (.bool pt)/\W.cell? ⟨b,o + j * 7 + 2,none⟩=some (.slice ua un uc)/\W.cell? ⟨b,o + j * 7 + 3,none⟩=some (.int .i64 op)/\W.cell? ⟨b,o + j * 7 + 4,none⟩=some (.string nm)/\W.cell? ⟨b,o + j * 7 + 5,none⟩=some (.slice xa xl xc)/\W.cell? ⟨b,o + j * 7 + 6,none⟩=some (.slice ta tl tc)) /\
          (W.cell? ⟨b',o' + j * 7,none⟩=some (.int .i64 pf)/\W.cell? ⟨b',o' + j * 7 + 1,none⟩=some (.bool pt)/\W.cell? ⟨b',o' + j * 7 + 2,none⟩=some (.slice ua' un uc')/\W.cell? ⟨b',o' + j * 7 + 3,none⟩=some (.int .i64 op')/\W.cell? ⟨b',o' + j * 7 + 4,none⟩=some (.string nm')/\W.cell? ⟨b',o' + j * 7 + 5,none⟩=some (.slice xa' xl' xc')/\W.cell? ⟨b',o' + j * 7 + 6,none⟩=some (.slice ta' tl' tc'))) 50 (by kernel_rfl) (fun _ _ _ _ _ h => h) (fun Q9 HQP HQ9 => ?_)
         refine tk2 0 ⟨⟨u0,u1,u2,u3,u4,u5,u6⟩,v0,v1,v2,v3,v4,v5,v6⟩ ?_ (hQ := hq2 HQP);refine tk2 1 ⟨⟨u0,u1,u2,u3,u4,u5,u6⟩,v0,v1,v2,v3,v4,v5,v6⟩ ?_ (hQ := hq2 HQP);refine tk2 2 ⟨⟨u0,u1,u2,u3,u4,u5,u6⟩,v0,v1,v2,v3,v4,v5,v6⟩ ?_ (hQ := hq2 HQP);refine tk2 3 ⟨⟨u0,u1,u2,u3,u4,u5,u6⟩,v0,v1,v2,v3,v4,v5,v6⟩ ?_ (hQ := hq2 HQP);refine tk2 4 ⟨⟨u0,u1,u2,u3,u4,u5,u6⟩,v0,v1,v2,v3,v4,v5,v6⟩ ?_ (hQ := hq2 HQP);refine tk2 5 ⟨⟨u0,u1,u2,u3,u4,u5,u6⟩,v0,v1,v2,v3,v4,v5,v6⟩ ?_ (hQ := hq2 HQP);refine tk2 6 ⟨⟨u0,u1,u2,u3,u4,u5,u6⟩,v0,v1,v2,v3,v4,v5,v6⟩ ?_ (hQ := hq2 HQP);refine tk2 7 ⟨⟨u0,u1,u2,u3,u4,u5,u6⟩,v0,v1,v2,v3,v4,v5,v6⟩ ?_ (hQ := hq2 HQP);refine tk2 8 ⟨⟨u0,u1,u2,u3,u4,u5,u6⟩,v0,v1,v2,v3,v4,v5,v6⟩ ?_ (hQ := hq2 HQP);refine tk2 9 ⟨⟨u0,u1,u2,u3,u4,u5,u6⟩,v0,v1,v2,v3,v4,v5,v6⟩ ?_ (hQ := hq2 HQP);refine tk2 10 ⟨⟨u0,u1,u2,u3,u4,u5,u6⟩,v0,v1,v2,v3,v4,v5,v6⟩ ?_ (hQ := hq2 HQP);refine tk2 11 ⟨⟨u0,u1,u2,u3,u4,u5,u6⟩,v0,v1,v2,v3,v4,v5,v6⟩ ?_ (hQ := hq2 HQP);refine tk2 12 ⟨⟨u0,u1,u2,u3,u4,u5,u6⟩,v0,v1,v2,v3,v4,v5,v6⟩ ?_ (hQ := hq2 HQP);refine tk2 13 ⟨⟨u0,u1,u2,u3,u4,u5,u6⟩,v0,v1,v2,v3,v4,v5,v6⟩ ?_ (hQ := hq2 HQP);refine tk2 14 ⟨⟨u0,u1,u2,u3,u4,u5,u6⟩,v0,v1,v2,v3,v4,v5,v6⟩ ?_ (hQ := hq2 HQP);refine tk2 15 ⟨⟨u0,u1,u2,u3,u4,u5,u6⟩,v0,v1,v2,v3,v4,v5,v6⟩ ?_ (hQ := hq2 HQP)
         as_aux_lemma =>
          refine tk2 16 ⟨⟨u0,u1,u2,u3,u4,u5,u6⟩,v0,v1,v2,v3,v4,v5,v6⟩ ?_ (hQ := hq2 HQP);refine tk2 17 ⟨⟨u0,u1,u2,u3,u4,u5,u6⟩,v0,v1,v2,v3,v4,v5,v6⟩ ?_ (hQ := hq2 HQP);refine tk2 18 ⟨⟨u0,u1,u2,u3,u4,u5,u6⟩,v0,v1,v2,v3,v4,v5,v6⟩ ?_ (hQ := hq2 HQP);refine tk2 19 ⟨⟨u0,u1,u2,u3,u4,u5,u6⟩,v0,v1,v2,v3,v4,v5,v6⟩ ?_ (hQ := hq2 HQP);refine tk2 20 ⟨⟨u0,u1,u2,u3,u4,u5,u6⟩,v0,v1,v2,v3,v4,v5,v6⟩ ?_ (hQ := hq2 HQP);refine tk2 21 ⟨⟨u0,u1,u2,u3,u4,u5,u6⟩,v0,v1,v2,v3,v4,v5,v6⟩ ?_ (hQ := hq2 HQP);refine tk2 22 ⟨⟨u0,u1,u2,u3,u4,u5,u6⟩,v0,v1,v2,v3,v4,v5,v6⟩ ?_ (hQ := hq2 HQP);refine tk2 23 ⟨⟨u0,u1,u2,u3,u4,u5,u6⟩,v0,v1,v2,v3,v4,v5,v6⟩ ?_ (hQ := hq2 HQP);refine tk2 24 ⟨⟨u0,u1,u2,u3,u4,u5,u6⟩,v0,v1,v2,v3,v4,v5,v6⟩ ?_ (hQ := hq2 HQP);refine tk2 25 ⟨⟨u0,u1,u2,u3,u4,u5,u6⟩,v0,v1,v2,v3,v4,v5,v6⟩ ?_ (hQ := hq2 HQP);refine tk2 26 ⟨⟨u0,u1,u2,u3,u4,u5,u6⟩,v0,v1,v2,v3,v4,v5,v6⟩ ?_ (hQ := hq2 HQP);refine tk2 27 ⟨⟨u0,u1,u2,u3,u4,u5,u6⟩,v0,v1,v2,v3,v4,v5,v6⟩ ?_ (hQ := hq2 HQP);refine tk2 28 ⟨⟨u0,u1,u2,u3,u4,u5,u6⟩,v0,v1,v2,v3,v4,v5,v6⟩ ?_ (hQ := hq2 HQP);refine tk2 29 ⟨⟨u0,u1,u2,u3,u4,u5,u6⟩,v0,v1,v2,v3,v4,v5,v6⟩ ?_ (hQ := hq2 HQP)
          as_aux_lemma =>
           refine tk2 30 ⟨⟨u0,u1,u2,u3,u4,u5,u6⟩,v0,v1,v2,v3,v4,v5,v6⟩ ?_ (hQ := hq2 HQP);refine tk2 31 ⟨⟨u0,u1,u2,u3,u4,u5,u6⟩,v0,v1,v2,v3,v4,v5,v6⟩ ?_ (hQ := hq2 HQP);refine tk2 32 ⟨⟨u0,u1,u2,u3,u4,u5,u6⟩,v0,v1,v2,v3,v4,v5,v6⟩ ?_ (hQ := hq2 HQP);refine tk2 33 ⟨⟨u0,u1,u2,u3,u4,u5,u6⟩,v0,v1,v2,v3,v4,v5,v6⟩ ?_ (hQ := hq2 HQP);refine tk2 34 ⟨⟨u0,u1,u2,u3,u4,u5,u6⟩,v0,v1,v2,v3,v4,v5,v6⟩ ?_ (hQ := hq2 HQP);refine tk2 35 ⟨⟨u0,u1,u2,u3,u4,u5,u6⟩,v0,v1,v2,v3,v4,v5,v6⟩ ?_ (hQ := hq2 HQP);refine tk2 36 ⟨⟨u0,u1,u2,u3,u4,u5,u6⟩,v0,v1,v2,v3,v4,v5,v6⟩ ?_ (hQ := hq2 HQP);refine tk2 37 ⟨⟨u0,u1,u2,u3,u4,u5,u6⟩,v0,v1,v2,v3,v4,v5,v6⟩ ?_ (hQ := hq2 HQP);refine tk2 38 ⟨⟨u0,u1,u2,u3,u4,u5,u6⟩,v0,v1,v2,v3,v4,v5,v6⟩ ?_ (hQ := hq2 HQP);refine tk2 39 ⟨⟨u0,u1,u2,u3,u4,u5,u6⟩,v0,v1,v2,v3,v4,v5,v6⟩ ?_ (hQ := hq2 HQP);refine tk2 40 ⟨⟨u0,u1,u2,u3,u4,u5,u6⟩,v0,v1,v2,v3,v4,v5,v6⟩ ?_ (hQ := hq2 HQP);refine tk2 41 ⟨⟨u0,u1,u2,u3,u4,u5,u6⟩,v0,v1,v2,v3,v4,v5,v6⟩ ?_ (hQ := hq2 HQP);refine tk2 42 ⟨⟨u0,u1,u2,u3,u4,u5,u6⟩,v0,v1,v2,v3,v4,v5,v6⟩ ?_ (hQ := hq2 HQP);refine tk2 43 ⟨⟨u0,u1,u2,u3,u4,u5,u6⟩,v0,v1,v2,v3,v4,v5,v6⟩ ?_ (hQ := hq2 HQP)
           as_aux_lemma =>
            refine tk2 44 ⟨⟨u0,u1,u2,u3,u4,u5,u6⟩,v0,v1,v2,v3,v4,v5,v6⟩ ?_ (hQ := hq2 HQP);refine tk2 45 ⟨⟨u0,u1,u2,u3,u4,u5,u6⟩,v0,v1,v2,v3,v4,v5,v6⟩ ?_ (hQ := hq2 HQP);refine tk2 46 ⟨⟨u0,u1,u2,u3,u4,u5,u6⟩,v0,v1,v2,v3,v4,v5,v6⟩ ?_ (hQ := hq2 HQP);refine tk2 47 ⟨⟨u0,u1,u2,u3,u4,u5,u6⟩,v0,v1,v2,v3,v4,v5,v6⟩ ?_ (hQ := hq2 HQP);refine tk2 48 ⟨⟨u0,u1,u2,u3,u4,u5,u6⟩,v0,v1,v2,v3,v4,v5,v6⟩ ?_ (hQ := hq2 HQP);refine tk2 49 ⟨⟨u0,u1,u2,u3,u4,u5,u6⟩,v0,v1,v2,v3,v4,v5,v6⟩ ?_ (hQ := hq2 HQP);refine tl9 (fun K' hK=>?_);go_simp;(with_reducible refine HSM.o.mono ?_);rintro y w4 ⟨rfl,b4⟩;have bq : Below w3.heap.size w3 w4 := (Below.refl w3.heap.size w3).drew.trans b4;have HBQ := LH9 bq;refine hK _ _ ?_;clear hK K' b4 bq u0 u1 u2 u3 u4 u5 u6 v0 v1 v2 v3 v4 v5 v6 HSM
            try simp only [Act.put,zp1,zp2,zp3,zp4,zp5,zp6]
            refine ak2 51 ?_ (hQ := hq2 HQP);refine ak2 52 ?_ (hQ := hq2 HQP);refine wd9 ?_;rw [HQ9.o];clear HQ9 HQP;go_wp2_with fail;go_meet
            case rel => exact ⟨rfl,HBQ.o⟩
       obtain ⟨rfl,HBQ⟩ := hcut;obtain ⟨w4,rfl⟩ : ∃ W4 : World,W4=wc := ⟨_,rfl⟩;have bq := HBQ.o;have HB4 := bt9 HB bq;have HV := LH9 (HU.o.kept (Kept.of_below bq []));have HV' := LH9 (HU'.o.kept (Kept.of_below bq []));have HC : Hid (w4.cell? ⟨b,o + j * 7 + 2,none⟩=some (.slice ua un uc)/\w4.cell? ⟨b',o' + j * 7 + 2,none⟩=some (.slice ua' un uc')) := ⟨cu9 u2 bq,cu9 v2 bq⟩;clear bq u0 u1 u2 u3 u4 u5 u6 v0 v1 v2 v3 v4 v5 v6 HSM HU HU' HB;go_wp2_with fail
       go_loopw [11] (fun i wr => ∃ (k : Nat),i=.int .i64 (k : Nat)/\k<=un/\Hid (Below w4.heap.size w4 wr)) (fun i _ => un - (intOf i).toNat)
       case atStart => exact ⟨0,rfl,Nat.zero_le _,Below.refl _ _⟩
       case round =>
        rename World => w5
        obtain ⟨q,rfl,hq,HB5⟩ := hrel;have c0 := cu9 HC.o.1 HB5.o;by_cases hqt : q < un
        . as_aux_lemma =>
           have hqt' : (q : Int) < (un : Int) := by omega
           have q0 : (0 : Int)<=(q : Int) := by omega
           have q1 : (q : Int)<=9223372036854775806 := by have := HUM.o; omega
           obtain ⟨e,oe,x,xo,xn,xs,aa,al,ac,rfl,hx,hX,x0,x1,x2,x3⟩ := ex_at9 (HV.o.kept (Kept.of_below HB5.o [])) q hqt;obtain ⟨e',oe',x',xo',xn',xs',aa',al',ac',rfl,hx',hX',y0,y1,y2,y3⟩ := ex_at9 (HV'.o.kept (Kept.of_below HB5.o [])) q hqt;rw [hx] at hx';injection hx' with hx';subst hx';have HSE := LH9 (rsameExpr_any x.rk x (Nat.le_refl _) x _ _ w5.drew (hX.kept (Kept.of_below (Below.refl w5.heap.size w5).drew [])) (hX'.kept (Kept.of_below (Below.refl w5.heap.size w5).drew [])));rw [eqv_yes (rfl : x=x)] at HSE;have c1 := cu9 HC.o.2 HB5.o;have HQT := LH9 hqt;clear hx hX hX' hqt;go_upto_region 16 with (fail);refine wp_region_till (S := fun W => (W.cell? ⟨b,o + j * 7 + 2,none⟩=some (.slice (some ⟨e,oe,none⟩) un uc)/\W.cell? ⟨b',o' + j * 7 + 2,none⟩=some (.slice (some ⟨e',oe',none⟩) un uc'))/\(W.cell? ⟨e,oe + q * 4,none⟩=some (.int .i64 xo)/\W.cell? ⟨e,oe + q * 4 + 1,none⟩=some (.int .i64 xn)/\W.cell? ⟨e,oe + q * 4 + 2,none⟩=some (.string xs)/\W.cell? ⟨e,oe + q * 4 + 3,none⟩=some (.slice aa al ac)) /\
            (W.cell? ⟨e',oe' + q * 4,none⟩=some (.int .i64 xo')/\W.cell? ⟨e',oe' + q * 4 + 1,none⟩=some (.int .i64 xn')/\W.cell? ⟨e',oe' + q * 4 + 2,none⟩=some (.string xs')/\W.cell? ⟨e',oe' + q * 4 + 3,none⟩=some (.slice aa' al' ac'))) 16 (by kernel_rfl) ?_
           refine tk2 0 ⟨⟨c0,c1⟩,⟨x0,x1,x2,x3⟩,y0,y1,y2,y3⟩ ?_;refine tk2 1 ⟨⟨c0,c1⟩,⟨x0,x1,x2,x3⟩,y0,y1,y2,y3⟩ ?_;refine tk2 2 ⟨⟨c0,c1⟩,⟨x0,x1,x2,x3⟩,y0,y1,y2,y3⟩ ?_;refine tk2 3 ⟨⟨c0,c1⟩,⟨x0,x1,x2,x3⟩,y0,y1,y2,y3⟩ ?_;refine tk2 4 ⟨⟨c0,c1⟩,⟨x0,x1,x2,x3⟩,y0,y1,y2,y3⟩ ?_;refine tk2 5 ⟨⟨c0,c1⟩,⟨x0,x1,x2,x3⟩,y0,y1,y2,y3⟩ ?_;refine tk2 6 ⟨⟨c0,c1⟩,⟨x0,x1,x2,x3⟩,y0,y1,y2,y3⟩ ?_;refine tk2 7 ⟨⟨c0,c1⟩,⟨x0,x1,x2,x3⟩,y0,y1,y2,y3⟩ ?_;refine tk2 8 ⟨⟨c0,c1⟩,⟨x0,x1,x2,x3⟩,y0,y1,y2,y3⟩ ?_;refine tk2 9 ⟨⟨c0,c1⟩,⟨x0,x1,x2,x3⟩,y0,y1,y2,y3⟩ ?_;refine tk2 10 ⟨⟨c0,c1⟩,⟨x0,x1,x2,x3⟩,y0,y1,y2,y3⟩ ?_;refine tk2 11 ⟨⟨c0,c1⟩,⟨x0,x1,x2,x3⟩,y0,y1,y2,y3⟩ ?_;refine tk2 12 ⟨⟨c0,c1⟩,⟨x0,x1,x2,x3⟩,y0,y1,y2,y3⟩ ?_;refine tk2 13 ⟨⟨c0,c1⟩,⟨x0,x1,x2,x3⟩,y0,y1,y2,y3⟩ ?_;refine tk2 14 ⟨⟨c0,c1⟩,⟨x0,x1,x2,x3⟩,y0,y1,y2,y3⟩ ?_;refine tk2 15 ⟨⟨c0,c1⟩,⟨x0,x1,x2,x3⟩,y0,y1,y2,y3⟩ ?_;refine tl9 (fun K' hK=>?_);go_simp;(with_reducible refine HSE.o.mono ?_);rintro y w6 ⟨rfl,b6⟩;have bq : Below w5.heap.size w5 w6 := (Below.refl w5.heap.size w5).drew.trans b6;have HB6 := bt9 HB5 bq;refine hK _ _ ?_;clear hK K' b6 bq x0 x1 x2 x3 y0 y1 y2 y3 HSE
           try simp only [Act.put,zp1,zp2,zp3,zp4,zp5,zp6]
           refine ak2 17 ?_;refine wd9 ?_;clear c0 c1;go_wp2_with fail;go_roundw
           case rel => exact ⟨q + 1,by go_num,by have := HQT.o; omega,HB6.o⟩
           case measure => simp [intOf]; have := HQT.o; omega
        . have hqt' : ¬ (q : Int) < (un : Int) := by omega
          obtain rfl : q=un := by omega
          have HB7 := bu9 HB4 HB5;clear hqt;go_wp2_with fail;go_roundw
          case rel => exact ⟨j + 1,by go_num,by have := HLT.o; omega,HB7.o⟩
          case measure => simp [intOf]; have := HLT.o; omega
     . have hlt' : ¬ (j : Int) < (n : Int) := by omega
       obtain rfl : j=n := by omega
       clear hlt;go_wp2_with fail;go_ret;exact ⟨rfl,HB.o⟩
end
end Go.Proofs.YtmiinmndbkdjbaaGreat
