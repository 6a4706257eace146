/- A part of the proof: LiR, LiA, LiB, one behind another. -/
import Derived.Test.YtmiinmndbkdjbaaGreatMEA
import Derived.Test.YtmiinmndbkdjbaaGreatMEJ
import Derived.Test.YtmiinmndbkdjbaaGreatMEK
import Derived.Lib.Hide
import Derived.WalkKit
set_option maxRecDepth 100000
set_option maxHeartbeats 16000000
set_option linter.unusedVariables false
set_option linter.unusedSimpArgs false
namespace Go.Proofs.YtmiinmndbkdjbaaGreat
open Go.RowKit
section
def lastB (op : Int) : Bool := decide (op=5\/op=6\/op=7\/op=9)
def partB (p : Prt) : Bool := lastB p.term.op && decide (fitC p.term=0) && decide (p.til.length<=16) && !(p.til.any fun e => kI e != 2)
def rightP (l : List Prt) : Bool := l.all partB && decide (ndL l<=200)
theorem pt_at {w : World} {X : List Nat} {l : List Prt} {a : Option Addr} {len cap : Nat} (h : SlR ptK w X l a len cap) (k : Nat) (hk : k < len) :
 ∃ b o p ua uc op nm xa xl xc ta tl tc,a=some ⟨b,o,none⟩/\b < w.heap.size/\b ∉ X/\l[k]?=some p/\op=p.term.op/\I64 p.factor/\SlR exK w X p.til ua p.til.length uc/\RepT w X p.term [.int .i64 op,.string nm,.slice xa xl xc,.slice ta tl tc] /\
   w.cell? ⟨b,o + k * 7,none⟩=some (.int .i64 p.factor)/\w.cell? ⟨b,o + k * 7 + 1,none⟩=some (.bool p.turned)/\w.cell? ⟨b,o + k * 7 + 2,none⟩=some (.slice ua p.til.length uc)/\w.cell? ⟨b,o + k * 7 + 3,none⟩=some (.int .i64 op)/\w.cell? ⟨b,o + k * 7 + 4,none⟩=some (.string nm)/\w.cell? ⟨b,o + k * 7 + 5,none⟩=some (.slice xa xl xc)/\w.cell? ⟨b,o + k * 7 + 6,none⟩=some (.slice ta tl tc) := by
 obtain ⟨b,o,p,cs,ha,hb,hX,hp,hR,-,hc⟩ := h.at k hk;have hR' : ∃ a cap ct,cs=.int .i64 p.factor :: .bool p.turned :: .slice a p.til.length cap :: ct/\I64 p.factor/\SlR exK w X p.til a p.til.length cap/\RepT w X p.term ct := hR;obtain ⟨ua,uc,ct,e,h1,h2,h3⟩ := hR';obtain ⟨op,nm,exprs,terms,xa,xl,xc,ta,tl,tc,e1,e2,-,-,-,-⟩ := h3.inv;subst e2;subst e;exact ⟨b,o,p,ua,uc,op,nm,xa,xl,xc,ta,tl,tc,ha,hb,hX,hp,by rw [e1]; rfl,h1,h2,h3,hc 0 _ rfl,hc 1 _ rfl,hc 2 _ rfl,hc 3 _ rfl,hc 4 _ rfl,hc 5 _ rfl,hc 6 _ rfl⟩
theorem lasting_any (op : Int) (nm : ByteArray) (xa ta : Option Addr) (xl xc tl tc : Nat) (w : World) :
 Calls Tryz.prog 64 #[.agg #[.int .i64 op,.string nm,.slice xa xl xc,.slice ta tl tc]] w fun x w' => x=.returned (.bool (lastB op))/\Below w.heap.size w w' := by
 have HB := LH9 (below_nT w (.cells #[.int .i64 op,.string nm,.slice xa xl xc,.slice ta tl tc] 41));have B1 := LH9 (Mem.Blk.new w 41 #[.int .i64 op,.string nm,.slice xa xl xc,.slice ta tl tc]);by_cases h6 : op=6
 . subst h6
   exact Z7_66
 by_cases h7 : op=7
 . subst h7
   exact Z7_66
 by_cases h5 : op=5
 . subst h5
   exact Z7_66
 by_cases h9 : op=9
 . subst h9
   exact Z7_66
 have hL : lastB op=false := by unfold lastB; rw [decide_eq_false_iff_not]; omega
 rw [hL];have b6 : (op == 6)=false := beq_eq_false_iff_ne.2 h6;have b7 : (op == 7)=false := beq_eq_false_iff_ne.2 h7;have b5 : (op == 5)=false := beq_eq_false_iff_ne.2 h5;have b9 : (op == 9)=false := beq_eq_false_iff_ne.2 h9;clear hL
 exact Z7_66
theorem odd_any (e : Ex) (cs : List Value) (w : World) (hR : RepE w [] e cs) (hk : e.rk<=1000) :
 Calls Tryz.prog 62 #[.agg cs.toArray] w fun x w' => x=.returned (.bool (kI e != 2))/\Below w.heap.size w w' := by
 have HQ := LH9 (fun W (hW : Below w.heap.size w W) => kindX_any e cs W (hR.kept (Kept.of_below hW [])) hk);obtain ⟨op,no,nm,args,a,len,cap,e1,rfl,-,-,-,-⟩ := hR.inv;have HB := LH9 (below_nT w (.cells #[.int .i64 op,.int .i64 no,.string nm,.slice a len cap] 74));have B1 := LH9 (Mem.Blk.new w 74 #[.int .i64 op,.int .i64 no,.string nm,.slice a len cap]);generalize kI e=K at *;clear e1 hR hk
 go_enter Tryz.func62,Tryz.ntmps62
 go_upto_region 1 with (fail);generalize w.alloc (.cells _ 74)=w1 at *;obtain ⟨c0,c1,c2,c3,-,-,-,-⟩ := blk4 B1.o;go_wp2_with fail;go_at_call 63;(with_reducible refine (HQ.o _ HB.o).mono ?_);rintro y w2 ⟨rfl,b2⟩;have HB2 := bt9 HB b2;clear b2 HB HQ;go_wp2_with fail;go_ret;exact ⟨rfl,HB2.o⟩
theorem ndL_take {l : List Prt} {k : Nat} {p : Prt} (h : l[k]?=some p) : l.take (k + 1)=l.take k ++ [p]/\ndL (l.take (k + 1))=ndL (l.take k) + p.term.nd := by
 obtain ⟨hk,e⟩ := List.getElem?_eq_some_iff.1 h;have e2 : l.take (k + 1)=l.take k ++ [p] := by rw [<- e]; exact (List.take_append_getElem hk).symm
 exact ⟨e2,by rw [e2,ndL_append]; simp [ndL]⟩
theorem ndL_le (l : List Prt) (k : Nat) : ndL (l.take k)<=ndL l := by
 conv => rhs; rw [<- List.take_append_drop k l]
 rw [ndL_append]; omega
theorem rightP_no {l : List Prt} {k : Nat} {p : Prt} (h : l[k]?=some p) (hp : partB p=false) : rightP l=false := by
 unfold rightP;have : l.all partB=false := by
  rw [Bool.eq_false_iff]; intro h1;rw [List.all_eq_true.1 h1 p (List.mem_of_getElem? h)] at hp; cases hp
 rw [this]; rfl
theorem rightP_big {l : List Prt} {k : Nat} (h : 200 < ndL (l.take k)) : rightP l=false := by
 unfold rightP;have := ndL_le l k;rw [decide_eq_false (by omega),Bool.and_false]
theorem rightL_any (l : List Prt) (a : Option Addr) (len cap : Nat) (w : World) (hS : SlR ptK w [] l a len cap) (hk : ∀ p ∈ l,p.term.rk < 1000/\p.til.length<=1000/\∀ e ∈ p.til,e.rk<=1000) (hlen : len<=1000) :
 Calls Tryz.prog 36 #[.slice a len cap] w fun x w' => x=.returned (.bool (rightP l))/\Below w.heap.size w w' := by
 have HS := LH9 hS;have HL := LH9 hS.facts.1;have HK := LH9 hk;have HLN := LH9 hlen;obtain ⟨RP,hRP⟩ : ∃ R,R=rightP l := ⟨_,rfl⟩;rw [<- hRP];have HRP := LH9 hRP;clear hS hk hlen hRP
 go_enter Tryz.func36,Tryz.ntmps36
 go_wp2_with fail
 go_loopw [4,11] (fun v i wr => ∃ (k : Nat),v=.int .i64 ((ndL (l.take k) : Nat) : Int)/\i=.int .i64 (k : Nat)/\k<=len/\Hid (Below w.heap.size w wr)/\Hid ((l.take k).all partB=true/\ndL (l.take k)<=200)) (fun _ i _ => len - (intOf i).toNat)
 case atStart => exact ⟨0,rfl,rfl,Nat.zero_le _,Below.refl _ _,rfl,by simp [ndL]⟩
 case round =>
  rename World => w3
  obtain ⟨k,rfl,rfl,hk,HB,HI⟩ := hrel;by_cases hlt : k < len
  . have hlt' : (k : Int) < (len : Int) := by omega
    have k0 : (0 : Int)<=(k : Int) := by omega
    have k1 : (k : Int)<=1000 := by have := HLN.o; omega
    obtain ⟨b,o,p,ua,uc,op,nm,xa,xl,xc,ta,tl,tc,ha,-,-,hp,hop,hf,hU,hT,u0,u1,u2,u3,u4,u5,u6⟩ := pt_at (HS.o.kept (Kept.of_below HB.o [])) k hlt;obtain ⟨hk1,hk2,hk3⟩ := HK.o p (List.mem_of_getElem? hp);have HTK := LH9 (ndL_take hp);have HP := LH9 hp;have HNO := LH9 (fun h => HRP.o.trans (rightP_no hp h));have HBIG := LH9 (fun h => HRP.o.trans (rightP_big (l := l) (k := k + 1) h));have HLT := LH9 hlt;generalize p.factor=pf at *;generalize p.turned=pt at *;have bn := below_nT w3 (.cells #[.int .i64 pf,.bool pt,.slice ua p.til.length uc,.int .i64 op,.string nm,.slice xa xl xc,.slice ta tl tc] 88);have BX := LH9 (Mem.Blk.new w3 88 #[.int .i64 pf,.bool pt,.slice ua p.til.length uc,.int .i64 op,.string nm,.slice xa xl xc,.slice ta tl tc]);have HB4 := bt9 HB bn;have hT4 := hT.kept (Kept.of_below bn []);have hU4 := hU.kept (Kept.of_below bn []);generalize hw4 : w3.alloc (.cells #[.int .i64 pf,.bool pt,.slice ua p.til.length uc,.int .i64 op,.string nm,.slice xa xl xc,.slice ta tl tc] 88)=w4 at *;have HLS := LH9 (fun W => lasting_any op nm xa ta xl xc tl tc W);have HFT := LH9 (fun W (hW : Below w4.heap.size w4 W) => fitsX_any p.term _ W (hT4.kept (Kept.of_below hW [])) hk1);have HCT := LH9 (fun W (hW : Below w4.heap.size w4 W) => containsE_any 62 (fun e => kI e != 2) p.til ua p.til.length uc W (enters_of Tryz.func62 (by kernel_rfl) rfl) (hU4.kept (Kept.of_below hW [])).slE (fun j e cs W' he hR => odd_any e cs W' hR (hk3 e (List.mem_of_getElem? he))));have HSZ := LH9 (fun W (hW : Below w4.heap.size w4 W) => size_any p.term _ W (hT4.kept (Kept.of_below hW [])) hk1);have hpb : partB p=(lastB op && decide (fitC p.term=0) && decide (p.til.length<=16) && !(p.til.any fun e => kI e != 2)) := by rw [hop]; rfl
    have HPB := LH9 hpb;have HFC : Hid (fitC p.term=0->p.term.nd<=200) := fun h => by
     unfold fitC at h
     split at h
     . rename_i hr; exact (rT_get hr).1
     . cases h
    have H2 := LH9 hk2;have HA := LH9 ha;generalize p.til.any (fun e => kI e != 2)=OD at *;generalize fitC p.term=FC at *;generalize lastB op=LB at *;generalize p.til.length=UL at *;generalize p.term.nd=ND at *;have HTK2 : Hid (ndL (l.take (k + 1))=ndL (l.take k) + ND) := HTK.o.2;have HAL : Hid (partB p=true->(l.take (k + 1)).all partB=true) := fun h => by
     rw [HTK.o.1,List.all_append,HI.o.1];simp [h]
    have HSUM := LH9 HI.o.2;clear HTK HI hT hU hT4 hU4 hf hp hpb hk1 hk2 hk3 hop bn hlt;generalize ndL (l.take k)=A at *;subst ha;go_upto_region 6 with (fail);clear hw4 u0 u1 u2 u3 u4 u5 u6;obtain ⟨c0,c1,c2,c3,c4,c5,c6⟩ := blk7 BX.o;go_wp2_with fail;(with_reducible refine (HLS.o _).mono ?_);rintro y w5 ⟨rfl,b5⟩;replace c0 := cu9 c0 b5;replace c1 := cu9 c1 b5;replace c2 := cu9 c2 b5;replace c3 := cu9 c3 b5;replace c4 := cu9 c4 b5;replace c5 := cu9 c5 b5;replace c6 := cu9 c6 b5;clear HLS
    cases LB with
    | false =>
      have HF := LH9 (HNO.o (by rw [HPB.o]; rfl));go_wp2_with fail;go_ret;exact ⟨by rw [HF.o]; rfl,HB4.o.trans (b5.mono HB4.o.size)⟩
    | true =>
      go_wp2_with fail;(with_reducible refine (HFT.o _ b5).mono ?_);rintro y w6 ⟨rfl,b6'⟩;have b6 := b5.trans (b6'.mono b5.size);replace c0 := cu9 c0 b6';replace c1 := cu9 c1 b6';replace c2 := cu9 c2 b6';replace c3 := cu9 c3 b6';replace c4 := cu9 c4 b6';replace c5 := cu9 c5 b6';replace c6 := cu9 c6 b6';clear b5 b6' HFT;by_cases hfc : FC=0
      . have HFC0 := LH9 hfc;have hn0 : (FC != 0)=false := by rw [hfc]; rfl
        clear hfc;by_cases h16 : UL<=16
        . have hu : ¬ (16 : Int) < (UL : Int) := by omega
          have H16 := LH9 h16;clear h16;go_wp2_with fail;(with_reducible refine (HCT.o _ b6).mono ?_);rintro y w7 ⟨rfl,b7'⟩;have b7 := b6.trans (b7'.mono b6.size);replace c0 := cu9 c0 b7';replace c1 := cu9 c1 b7';replace c2 := cu9 c2 b7';replace c3 := cu9 c3 b7';replace c4 := cu9 c4 b7';replace c5 := cu9 c5 b7';replace c6 := cu9 c6 b7';clear b6 b7' HCT
          cases OD with
          | true =>
            have HF := LH9 (HNO.o (by rw [HPB.o]; simp));go_wp2_with fail;go_ret;exact ⟨by rw [HF.o]; rfl,HB4.o.trans (b7.mono HB4.o.size)⟩
          | false =>
            have HPT := LH9 (HAL.o (by rw [HPB.o,HFC0.o,decide_eq_true H16.o]; rfl));have hnd := HFC.o HFC0.o;have hnt : ND < 1000 := by omega
            rw [if_pos hnt,if_pos hnt] at HSZ;clear hnt;have HND := LH9 hnd;clear hnd;go_wp2_with fail;(with_reducible refine (HSZ.o _ b7).mono ?_);rintro y w8 ⟨rfl,b8'⟩;have b8 := b7.trans (b8'.mono b7.size);clear b7 b8' HSZ;have s0 : (0 : Int)<=(A : Int) + (ND : Int) := by omega
            have s1 : (A : Int) + (ND : Int)<=1000 := by have := HND.o; have := HSUM.o; omega
            have HB9 := bt9 HB4 b8;clear b8;by_cases hbig : 200 < A + ND
            . have hb1 : (200 : Int) < (A : Int) + (ND : Int) := by omega
              have HF := LH9 (HBIG.o (by rw [HTK2.o]; exact hbig));clear hbig;go_wp2_with fail;go_ret;exact ⟨by rw [HF.o]; rfl,HB9.o⟩
            . have hb1 : ¬ (200 : Int) < (A : Int) + (ND : Int) := by omega
              have HS9 : Hid (A + ND<=200) := by show _<=_; omega
              clear hbig;go_wp2_with fail;go_roundw
              case rel => exact ⟨k + 1,by rw [HTK2.o]; go_num,by go_num,by have := HLT.o; omega,HB9.o,HPT.o,by rw [HTK2.o]; exact HS9.o⟩
              case measure => simp [intOf]; have := HLT.o; omega
        . have hu : (16 : Int) < (UL : Int) := by omega
          have HF := LH9 (HNO.o (by rw [HPB.o,decide_eq_false h16]; simp));clear h16;go_wp2_with fail;go_ret;exact ⟨by rw [HF.o]; rfl,HB4.o.trans (b6.mono HB4.o.size)⟩
      . have hn0 : (FC != 0)=true := bne_iff_ne.2 hfc;have HF := LH9 (HNO.o (by rw [HPB.o,decide_eq_false hfc]; simp));clear hfc;go_wp2_with fail;go_ret;exact ⟨by rw [HF.o]; rfl,HB4.o.trans (b6.mono HB4.o.size)⟩
  . have hlt' : ¬ (k : Int) < (len : Int) := by omega
    obtain rfl : k=len := by omega
    have e : l.take k=l := List.take_of_length_le (by rw [HL.o]; omega);rw [e] at HI ⊢;have HF : Hid (RP=true) := by
     have h := HRP.o;unfold rightP at h;rw [HI.o.1,decide_eq_true HI.o.2] at h;exact h
    clear hlt;go_wp2_with fail;go_ret;exact ⟨by rw [HF.o]; rfl,HB.o⟩
end
section
def AcqC (base rb : Nat) (day : Int) (fx : List Fx) (fa : Option Addr) (fl fc : Nat) (t : Te) : Prop :=
 ∀ (f : Int) (tn : Bool) (un : List Ex) (s : RS) (vP vF : Value) (ua : Option Addr) (uc : Nat) (cs : List Value) (w : World),I64 f->RunJ base rb day fx fa fl fc w s vP vF ->
   RepT w (X3 rb vP vF) t cs->SlR exK w (X3 rb vP vF) un ua un.length uc->un.length + t.rk<=1000->s.ps.length + t.nd<=100000->s.fs.length + t.nd<=100000 ->
   Calls Tryz.prog 27 #[.pointer (some ⟨rb,0,none⟩),.agg (.int .i64 f :: .bool tn :: .slice ua un.length uc :: cs).toArray] w fun x w' => x=.returned (.tuple #[])/\∃ vP' vF',RunTo base rb day fx fa fl fc w w' vP vF (acq day fx t f tn un s) vP' vF'
theorem ex_one {w : World} {X : List Nat} {l : List Ex} {e : Ex} {a : Option Addr} {len cap : Nat} (h : SlE w X l a len cap) (hl : l=[e]) : len=1/\∃ b o op no nm aa al ac,a=some ⟨b,o,none⟩/\b ∉ X/\RepE w X e [.int .i64 op,.int .i64 no,.string nm,.slice aa al ac]/\w.cell? ⟨b,o,none⟩=some (.int .i64 op)/\w.cell? ⟨b,o + 1,none⟩=some (.int .i64 no)/\w.cell? ⟨b,o + 2,none⟩=some (.string nm)/\w.cell? ⟨b,o + 3,none⟩=some (.slice aa al ac) := by
 have hlen : len=1 := by have := h.slR.facts.1; rw [hl] at this; exact this.symm
 obtain ⟨b,o,x,cs,ha,-,hbX,hx,hRx,-,hc⟩ := h.slR.at 0 (by omega);rw [hl] at hx;injection hx with hx;subst hx;have hR : RepE w X e cs := hRx;obtain ⟨op,no,nm,args,aa,al,ac,-,e2,-,-,-,-⟩ := hR.inv;subst e2;have k : ∀ j,o + 0 * exK.sz + j=o + j := fun j => by omega
 exact ⟨hlen,b,o,op,no,nm,aa,al,ac,ha,hbX,hR,by rw [<- Nat.add_zero o,<- k]; exact hc 0 _ rfl,by rw [<- k]; exact hc 1 _ rfl,by rw [<- k]; exact hc 2 _ rfl,by rw [<- k]; exact hc 3 _ rfl⟩
theorem te_one {w : World} {X : List Nat} {l : List Te} {e : Te} {k : Nat} {a : Option Addr} {len cap : Nat} (h : SlT w X l a len cap) (hl : l[k]?=some e) : k < len/\∃ b o op nm xa xl xc ta tl tc,a=some ⟨b,o,none⟩/\b ∉ X/\RepT w X e [.int .i64 op,.string nm,.slice xa xl xc,.slice ta tl tc]/\w.cell? ⟨b,o + k * 4,none⟩=some (.int .i64 op)/\w.cell? ⟨b,o + k * 4 + 1,none⟩=some (.string nm)/\w.cell? ⟨b,o + k * 4 + 2,none⟩=some (.slice xa xl xc)/\w.cell? ⟨b,o + k * 4 + 3,none⟩=some (.slice ta tl tc) := by
 have h' : SlR teK w X l a len cap := h;have hk : k < len := by have := h'.facts.1; have := (List.getElem?_eq_some_iff.1 hl).1; omega
 obtain ⟨b,o,x,cs,ha,-,hbX,hx,hRx,-,hc⟩ := h'.at k hk;rw [hl] at hx;injection hx with hx;subst hx;have hR : RepT w X e cs := hRx;obtain ⟨op,nm,exprs,terms,xa,xl,xc,ta,tl,tc,-,e2,-,-,-,-⟩ := hR.inv;subst e2;exact ⟨hk,b,o,op,nm,xa,xl,xc,ta,tl,tc,ha,hbX,hR,hc 0 _ rfl,hc 1 _ rfl,hc 2 _ rfl,hc 3 _ rfl⟩
theorem RunTo.of {base rb : Nat} {day : Int} {fx : List Fx} {fa : Option Addr} {fl fc : Nat} {w w' : World} {s s' : RS} {vP vF : Value} (hJ : RunJ base rb day fx fa fl fc w s vP vF) (h : Sep w' (famR base rb day fx fa fl fc s' vP vF)) (hf : Fr (X3 rb vP vF) w w') : RunTo base rb day fx fa fl fc w w' vP vF s' vP vF :=
 ⟨⟨h⟩,hf,fun b hb => ⟨.inl hb,Nat.lt_of_lt_of_le (hJ.lt b hb) hf.size⟩⟩
theorem Fr.setNew {X : List Nat} {w w' : World} (h : Fr X w w') {p : Addr} (hp : w.heap.size<=p.block) (v : Value) : Fr X w (w'.setCell p v) :=
 have b : Below w'.heap.size w' w' := Below.refl _ _;have k : Fr [p.block] w' (w'.setCell p v) := Fr.setCell w' (by simp) v
 ⟨k.os.trans h.os,k.tape.trans h.tape,k.output.trans h.output,h.kept.setNew hp v⟩
theorem evalX_i64 {day : Int} {fx : List Fx} (hd : I64 day) (hf : ∀ f ∈ fx,I64 f.val) {w : World} {X : List Nat} {e : Ex} {cs : List Value} (h : RepE w X e cs) : I64 (evalX day fx e).N := by
 unfold evalX
 split
 . exact i64_0
 . exact eval_i64 hd hf e.rk e (Nat.le_refl _) (RepE.nums e.rk e (Nat.le_refl _) cs h)
theorem fit_i64 (z : Int) : I64 (fitN (fitI z)) := by
 have := i64_fit z
 cases h : fitI z with
 | none => exact i64_0
 | some v => exact this v h
section
variable {A : Te->Int->Bool->List Ex->RS->RS} {t : Te} {f : Int} {tn : Bool} {un : List Ex} {s : RS} {V : Vl} {n : Int}
theorem waitW_brk : waitW A .brk t f tn un s={ s with bad := true } := by unfold waitW; exact if_pos rfl
theorem waitW_mul (h : t.op=6) : waitW A (.num n) t f tn un s=A (t0 t) (fitN (fitI (f * n))) tn un { s with bad := !(fitB (fitI (f * n))) } := by
 unfold waitW; rw [if_neg (by show ¬ ((1 : Int)=3); omega),if_pos ⟨h,rfl⟩]; rfl
theorem waitW_when (h : t.op=7) : waitW A (.tru true) t f tn un s=A (t0 t) f tn un s := by
 unfold waitW; rw [if_neg (by show ¬ ((2 : Int)=3); omega),if_neg (by rintro ⟨h1,-⟩; omega),if_pos ⟨h,rfl⟩]
theorem waitW_part (h1 : V.K ≠ 3) (h2 : t.op=6->V.K ≠ 1) (h3 : t.op=7->V.B=false) : waitW A V t f tn un s={ s with ps := s.ps ++ [⟨f,tn,un,t⟩] } := by
 unfold waitW; rw [if_neg h1,if_neg (fun h => h2 h.1 h.2),if_neg (fun h => by rw [h3 h.1] at h; cases h.2)]
end
end
section
theorem infoPt : (Tryz.prog.info? 88).map (fun i => (i.zero,i.size,i.bytes))=some (some (.agg #[.int .i64 0,.bool false,.slice none 0 0,.int .i64 0,.string ⟨#[]⟩,.slice none 0 0,.slice none 0 0]),7,112) := by kernel_rfl
theorem wait_any (base rb : Nat) (day : Int) (fx : List Fx) (fa : Option Addr) (fl fc : Nat) (t : Te) (f : Int) (tn : Bool) (un : List Ex) (s : RS) (vP vF : Value) (ua : Option Addr) (uc : Nat) (cs : List Value) (w : World) (hd : I64 day) (hf : I64 f)
 (hJ : RunJ base rb day fx fa fl fc w s vP vF) (hT : RepT w (X3 rb vP vF) t cs) (hU : SlR exK w (X3 rb vP vF) un ua un.length uc) (hb : bT t=true) (hop : t.op=6\/t.op=7) (hk : un.length + t.rk<=1000) (hP : s.ps.length + t.nd<=100000) (hF : s.fs.length + t.nd<=100000) (IH : AcqC base rb day fx fa fl fc (t0 t)) :
 Calls Tryz.prog 49 #[.pointer (some ⟨rb,0,none⟩),.agg (.int .i64 f :: .bool tn :: .slice ua un.length uc :: cs).toArray] w fun x w' => x=.returned (.tuple #[])/\∃ vP' vF',RunTo base rb day fx fa fl fc w w' vP vF (waitW (acq day fx) (evalX day fx (x0 t)) t f tn un s) vP' vF' := by
 obtain ⟨k1,-,k3,-,-⟩ := te_kids hb;have hxk : (x0 t).rk<=1000 := by
  have hm : x0 t ∈ t.exprs := by rw [k3 (by omega)]; exact List.mem_cons_self ..
  have := rk_kidX hm;omega
 have HJ := LH9 hJ;have HT := LH9 hT;have HU := LH9 hU;have HSM := LH9 (And.intro hk (And.intro hP hF));have HIH := LH9 IH;have HBT := LH9 hb;have HOP := LH9 hop;have HFI := LH9 hf;obtain ⟨op,nm,exprs,terms,xa,xl,xc,ta,tl,tc,e1,e2,-,-,hX,hL⟩ := hT.inv;have hxe : exprs=[x0 t] := by have := k3 (by omega); rw [e1] at this ⊢; exact this
 have hte : terms[0]?=some (t0 t) := by
  have := k1 (by omega);rw [e1] at this ⊢;have h2 : terms=[t0 (Te.mk op nm exprs terms)] := this;rw [h2]; rfl
 have hoe : t.op=op := by rw [e1]; rfl
 obtain ⟨rfl,b,o,xo,xn,xs,aa,al,ac,rfl,-,hRX,u0,u1,u2,u3⟩ := ex_one hX hxe;obtain ⟨htl,tb,hto,q1,q2,q3,q4',q5,q6,q7,q8,rfl,htX,hRT,v0,v1,v2,v3⟩ := te_one hL hte;rw [Nat.zero_mul,Nat.add_zero] at v0 v1 v2 v3;subst e2;rw [hoe] at HOP;have HOE := LH9 hoe;have HNX : Hid (tb ∉ X3 rb vP vF) := htX;have HPT : Hid (ptK.R w (X3 rb vP vF) ⟨f,tn,un,t⟩ [.int .i64 f,.bool tn,.slice ua un.length uc,.int .i64 op,.string nm,.slice (some ⟨b,o,none⟩) 1 xc,.slice (some ⟨tb,hto,none⟩) tl tc]) := ⟨ua,uc,_,rfl,hf,hU,hT⟩;have HNI := LH9 (evalX_i64 hd (fxs_i64 hJ.seen) hRX);have hRX0 : RepE w [] (x0 t) [.int .i64 xo,.int .i64 xn,.string xs,.slice aa al ac] := hRX.less (fun b _ hm => nomatch hm);have HQ := LH9 (fun W (hW : Below w.heap.size w W) => obsEval_any day fx fa fl fc (x0 t) _ W hd (hRX0.kept (Kept.of_below hW [])) hxk (hJ.seen.kept (Kept.of_below hW [])));have HRT := LH9 hRT;have HLT := LH9 htl;have HKD : Hid ((t0 t).rk + 1<=t.rk/\(t0 t).nd + 1<=t.nd) := ⟨by have := rk_kid (t := t) (u := t0 t) (by rw [k1 (by omega)]; exact List.mem_cons_self ..); omega,(nd_kids hb).2.1 (by omega)⟩;obtain ⟨V,hV⟩ : ∃ V,V=evalX day fx (x0 t) := ⟨_,rfl⟩;rw [<- hV] at HQ HNI ⊢;obtain ⟨S9,hS9⟩ : ∃ S9,S9=waitW (acq day fx) V t f tn un s := ⟨_,rfl⟩;rw [<- hS9];have HSS := LH9 hS9;have n1 := below_nT w (.cells #[.int .i64 f,.bool tn,.slice ua un.length uc,.int .i64 op,.string nm,.slice (some ⟨b,o,none⟩) 1 xc,.slice (some ⟨tb,hto,none⟩) tl tc] 88);have B1 := LH9 (Mem.Blk.new w 88 #[.int .i64 f,.bool tn,.slice ua un.length uc,.int .i64 op,.string nm,.slice (some ⟨b,o,none⟩) 1 xc,.slice (some ⟨tb,hto,none⟩) tl tc]);have N1 := LH9 n1;have HRB : Hid (rb < w.heap.size) := hJ.lt rb (by unfold X3; simp);have HS1 := LH9 (hJ.sep.new 88 #[.int .i64 f,.bool tn,.slice ua un.length uc,.int .i64 op,.string nm,.slice (some ⟨b,o,none⟩) 1 xc,.slice (some ⟨tb,hto,none⟩) tl tc]);have HX : Hid (w.cell? ⟨b,o,none⟩=some (.int .i64 xo)/\w.cell? ⟨b,o + 1,none⟩=some (.int .i64 xn)/\w.cell? ⟨b,o + 2,none⟩=some (.string xs)/\w.cell? ⟨b,o + 3,none⟩=some (.slice aa al ac)) := ⟨u0,u1,u2,u3⟩;have HW : Hid (w.cell? ⟨tb,hto,none⟩=some (.int .i64 q1)/\w.cell? ⟨tb,hto + 1,none⟩=some (.string q2)/\w.cell? ⟨tb,hto + 2,none⟩=some (.slice q3 q4' q5)/\w.cell? ⟨tb,hto + 3,none⟩=some (.slice q6 q7 q8)) := ⟨v0,v1,v2,v3⟩;have h1s : (w.alloc (.cells #[.int .i64 f,.bool tn,.slice ua un.length uc,.int .i64 op,.string nm,.slice (some ⟨b,o,none⟩) 1 xc,.slice (some ⟨tb,hto,none⟩) tl tc] 88)).heap.size=w.heap.size + 1 := by simp
 have HSZ := LH9 h1s;have HGZ := LH9 h1s;clear hJ hT hU hb hop hk hP hF IH k1 k3 hxk e1 hxe hte hoe hX hL hRX hRX0 hRT htl htX u0 u1 u2 u3 v0 v1 v2 v3 n1 h1s hV hS9
 go_enter Tryz.func49,Tryz.ntmps49
 go_upto_region 1 with (fail);generalize w.alloc (.cells _ 88)=w1 at *;obtain ⟨c0,c1,c2,c3,c4,c5,c6⟩ := blk7 B1.o;have n2 := below_nT w1 (.cells #[.int .i64 op,.string nm,.slice (some ⟨b,o,none⟩) 1 xc,.slice (some ⟨tb,hto,none⟩) tl tc] 41);have B2 := LH9 (Mem.Blk.new w1 41 #[.int .i64 op,.string nm,.slice (some ⟨b,o,none⟩) 1 xc,.slice (some ⟨tb,hto,none⟩) tl tc]);have N2 := bt9 N1 n2;have B3 := LH9 (B1.o.below n2);have HZ2 : Hid ((w1.alloc (.cells #[.int .i64 op,.string nm,.slice (some ⟨b,o,none⟩) 1 xc,.slice (some ⟨tb,hto,none⟩) tl tc] 41)).heap.size=w.heap.size + 1 + 1) := by show _=_; rw [<- HSZ.o]; simp
 have HS2 := LH9 (HS1.o.below n2);clear n2;go_upto_region 2 with (fail);generalize w1.alloc (.cells _ 41)=w2 at *;generalize w1.heap.size=g1 at *;clear c0 c1 c2 c3 c4 c5 c6;have HJ2 := LH9 (HJ.o.below N2.o);have q0 : w2.cell? ⟨rb,0,none⟩=some (.int .i64 day) := HJ2.o.run.cells.cell 0;have q1' : w2.cell? ⟨rb,1,none⟩=some (.slice fa fl fc) := HJ2.o.run.cells.cell 1;have s2 : w2.cell? ⟨g1,2,none⟩=some (.slice (some ⟨b,o,none⟩) 1 xc) := B2.o.cell 2;obtain ⟨u0,u1,u2,u3⟩ := HX.o;replace u0 := cellT u0 N2.o;replace u1 := cellT u1 N2.o;replace u2 := cellT u2 N2.o;replace u3 := cellT u3 N2.o
 go_cut [5] (fun p W0 => ∃ z,p=.pointer (some ⟨z,0,none⟩)/\Hid (Below w2.heap.size w2 W0)/\Hid (w2.heap.size<=z)/\Hid (Mem.Blk W0 z 150 #[.int .i64 V.K,.int .i64 V.N,.bool V.B]))
 case first =>
  refine wp_region_till (S := fun W => W.cell? ⟨g1,2,none⟩=some (.slice (some ⟨b,o,none⟩) 1 xc)/\W.cell? ⟨b,o,none⟩=some (.int .i64 xo)/\W.cell? ⟨b,o + 1,none⟩=some (.int .i64 xn)/\W.cell? ⟨b,o + 2,none⟩=some (.string xs)/\W.cell? ⟨b,o + 3,none⟩=some (.slice aa al ac)/\W.cell? ⟨rb,0,none⟩=some (.int .i64 day)/\W.cell? ⟨rb,1,none⟩=some (.slice fa fl fc)) 10 (by kernel_rfl) ?_;refine tk 0 ⟨s2,u0,u1,u2,u3,q0,q1'⟩ ?_;refine tk 1 ⟨s2,u0,u1,u2,u3,q0,q1'⟩ ?_;refine tk 2 ⟨s2,u0,u1,u2,u3,q0,q1'⟩ ?_;refine tk 3 ⟨s2,u0,u1,u2,u3,q0,q1'⟩ ?_;refine tk 4 ⟨s2,u0,u1,u2,u3,q0,q1'⟩ ?_;refine tk 5 ⟨s2,u0,u1,u2,u3,q0,q1'⟩ ?_;refine tk 6 ⟨s2,u0,u1,u2,u3,q0,q1'⟩ ?_;refine tk 7 ⟨s2,u0,u1,u2,u3,q0,q1'⟩ ?_;refine till_two (i := 8) (j := 9) (by kernel_rfl) rfl rfl (fun K' hK => ?_) (fun K' hK => ?_)
  . go_simp;have b0 : Below w2.heap.size w2 w2.drew := (Below.refl w2.heap.size w2).drew;(with_reducible refine (HQ.o _ (N2.o.trans (b0.mono N2.o.size))).mono ?_);rintro y w3 ⟨hy,b1⟩;unfold RetV at hy;subst hy;have bt : Below w2.heap.size w2 w3 := b0.trans (b1.mono b0.size);replace s2 := cu9 s2 bt;replace u0 := cu9 u0 bt;replace u1 := cu9 u1 bt;replace u2 := cu9 u2 bt;replace u3 := cu9 u3 bt;replace q0 := cu9 q0 bt;replace q1' := cu9 q1' bt;have HB2 := LH9 bt;refine hK _ _ ⟨s2,u0,u1,u2,u3,q0,q1'⟩ ?_;clear hK K' b0 b1 bt
    try simp only [Act.put,zp1,zp2,zp3,zp4,zp5,zp6]
    refine t19 9 (fun K' hK=>?_);go_simp;have bn := below_nT w3 (.cells #[.int .i64 0,.int .i64 0,.bool false] 150);have BZ := LH9 (Mem.Blk.new w3 150 #[.int .i64 0,.int .i64 0,.bool false]);have HZ : Hid (w2.heap.size<=w3.heap.size) := HB2.o.size;have HB3 := bt9 HB2 bn;replace s2 := cu9 s2 bn;replace u0 := cu9 u0 bn;replace u1 := cu9 u1 bn;replace u2 := cu9 u2 bn;replace u3 := cu9 u3 bn;replace q0 := cu9 q0 bn;replace q1' := cu9 q1' bn;refine hK _ _ ⟨s2,u0,u1,u2,u3,q0,q1'⟩ ?_;clear hK K' bn HB2 s2 u0 u1 u2 u3 q0 q1';generalize w3.alloc (.cells _ 150)=w4 at *;generalize w3.heap.size=z at *
    exact Z7_80
  . go_simp;have bn : Below w2.heap.size w2 (w2.alloc (.cells #[.int .i64 0,.int .i64 0,.bool false] 150)).drew := (below_nT w2 (.cells #[.int .i64 0,.int .i64 0,.bool false] 150)).drew;have BZ1 := LH9 (Mem.Blk.new w2 150 #[.int .i64 0,.int .i64 0,.bool false]).drew;have HB2 := LH9 bn;replace s2 := cu9 s2 bn;replace u0 := cu9 u0 bn;replace u1 := cu9 u1 bn;replace u2 := cu9 u2 bn;replace u3 := cu9 u3 bn;replace q0 := cu9 q0 bn;replace q1' := cu9 q1' bn;refine hK _ _ ⟨s2,u0,u1,u2,u3,q0,q1'⟩ ?_;clear hK K' bn;obtain ⟨z,hz⟩ : ∃ z,z=w2.heap.size := ⟨_,rfl⟩;have HZ : Hid (w2.heap.size<=z) := by show _<=_; omega
    rw [<- hz] at BZ1;rw [show Value.pointer (some ⟨w2.heap.size,0,none⟩)=.pointer (some ⟨z,0,none⟩) by rw [hz]];clear hz;generalize (w2.alloc (.cells _ 150)).drew=w3 at *
    try simp only [Act.put,zp1,zp2,zp3,zp4,zp5,zp6]
    refine t19 8 (fun K' hK=>?_);go_simp;(with_reducible refine (HQ.o _ (N2.o.trans (HB2.o.mono N2.o.size))).mono ?_);rintro y w4 ⟨hy,b1⟩;unfold RetV at hy;subst hy;have BZ := LH9 (BZ1.o.below b1);have HB3 := bt9 HB2 b1;replace s2 := cu9 s2 b1;replace u0 := cu9 u0 b1;replace u1 := cu9 u1 b1;replace u2 := cu9 u2 b1;replace u3 := cu9 u3 b1;replace q0 := cu9 q0 b1;replace q1' := cu9 q1' b1;refine hK _ _ ⟨s2,u0,u1,u2,u3,q0,q1'⟩ ?_;clear hK K' b1 HB2 BZ1 s2 u0 u1 u2 u3 q0 q1'
    exact Z7_80
 obtain ⟨z,rfl,HB,HZ,BZ⟩ := hcut;obtain ⟨w3,rfl⟩ : ∃ W : World,W=wc := ⟨_,rfl⟩;have HJ3 := LH9 (HJ2.o.trans (HJ2.o.run.below HB.o));have B3' := LH9 (B3.o.below HB.o);have B2' := LH9 (B2.o.below HB.o);clear q0 q1' s2 u0 u1 u2 u3 HQ;have HGR : Hid (g1 ≠ rb) := by have := HGZ.o; have := HRB.o; show _ ≠ _; omega
 have HGW : Hid (g1 ≠ w.heap.size) := by have := HGZ.o; show _ ≠ _; omega
 have q4 : w3.cell? ⟨rb,4,none⟩=some (.bool s.bad) := HJ3.o.run.cells.cell 4;have f4 : w3.frozen? ⟨rb,4,none⟩=false := HJ3.o.run.cells.frozen 4;have HSB := LH9 (HS2.o.below HB.o)
 cases V with
 | brk =>
   have z0 : w3.cell? ⟨z,0,none⟩=some (.int .i64 3) := BZ.o.cell 0;have HS := LH9 (HJ3.o.trans (HJ3.o.run.setBad true));go_wp2_with fail
   go_end0
   exact ⟨rfl,vP,vF,by rw [HSS.o,waitW_brk]; exact HS.o⟩
 | unk =>
   have z0 : w3.cell? ⟨z,0,none⟩=some (.int .i64 0) := BZ.o.cell 0;have z2 : w3.cell? ⟨z,2,none⟩=some (.bool false) := BZ.o.cell 2;have y0 : w3.cell? ⟨g1,0,none⟩=some (.int .i64 op) := B2'.o.cell 0;have HSP : Hid (S9={ s with ps := s.ps ++ [⟨f,tn,un,t⟩] }) := HSS.o.trans (waitW_part (by show (0 : Int) ≠ 3; omega) (fun _ => by show (0 : Int) ≠ 1; omega) (fun _ => rfl));rcases HOP.o with hop | hop
   . exact Z7_24
   . exact Z7_7
 | num n =>
   have z0 : w3.cell? ⟨z,0,none⟩=some (.int .i64 1) := BZ.o.cell 0;have z1 : w3.cell? ⟨z,1,none⟩=some (.int .i64 n) := BZ.o.cell 1;have z2 : w3.cell? ⟨z,2,none⟩=some (.bool false) := BZ.o.cell 2;have y0 : w3.cell? ⟨g1,0,none⟩=some (.int .i64 op) := B2'.o.cell 0;rcases HOP.o with hop | hop
   . subst hop;have HSP : Hid (S9=acq day fx (t0 t) (fitN (fitI (f * n))) tn un { s with bad := !(fitB (fitI (f * n))) }) := HSS.o.trans (waitW_mul HOE.o);obtain ⟨c0,-,-,-,-,-,-⟩ := blk7 B3'.o;go_upto_region 7 with (fail);go_wp2_with fail;have hn9 : I64 n := HNI.o;(with_reducible refine (numMul_any f n w3 HFI.o hn9).mono ?_);rintro y w4 ⟨hy,bm⟩;unfold fitR at hy;subst hy;have HN9 := LH9 (fit_i64 (f * n));generalize fitN (fitI (f * n))=N9 at *;generalize fitB (fitI (f * n))=b9 at *;have HS4 := LH9 (HSB.o.below bm);have HF4 : Hid (Fr (X3 rb vP vF) w w4) := (HJ3.o.fr.trans (Fr.of_below bm _));have HT4 := LH9 (B2'.o.below bm);clear z0 z1 z2 y0 c0 q4 f4 bm hn9 HSB BZ B3' B2' HJ3 HJ2;have q4 : w4.cell? ⟨rb,4,none⟩=some (.bool s.bad) := (HS4.o.blk 3 rfl).cell 4;have f4 : w4.frozen? ⟨rb,4,none⟩=false := (HS4.o.blk 3 rfl).frozen 4;have HS5 := LH9 (HS4.o.store 3 rfl 4 (.bool (!b9)));have HF5 : Hid (Fr (X3 rb vP vF) w (w4.setCell ⟨rb,4,none⟩ (.bool (!b9)))) := HF4.o.trans (Fr.setCell w4 (p := ⟨rb,4,none⟩) (by unfold X3; simp) _);have HT5 := LH9 (HT4.o.far (p := ⟨rb,4,none⟩) HGR.o (.bool (!b9)));go_upto_region 9 with (fail);generalize w4.setCell ⟨rb,4,none⟩ (.bool (!b9))=w5 at *;clear q4 f4 HS4 HF4 HT4;have q4 : w5.cell? ⟨w.heap.size,0,none⟩=some (.int .i64 f) := (HS5.o.blk 0 rfl).cell 0;have f4 : w5.frozen? ⟨w.heap.size,0,none⟩=false := (HS5.o.blk 0 rfl).frozen 0;have HS6 := LH9 (HS5.o.store 0 rfl 0 (.int .i64 N9));have HF6 := LH9 (HF5.o.setNew (p := ⟨w.heap.size,0,none⟩) (Nat.le_refl _) (.int .i64 N9));have HT6 := LH9 (HT5.o.far (p := ⟨w.heap.size,0,none⟩) HGW.o (.int .i64 N9));go_upto_region 10 with (fail);generalize w5.setCell ⟨w.heap.size,0,none⟩ (.int .i64 N9)=w6 at *;clear q4 f4 HS5 HF5 HT5;have BP6 : Hid (Mem.Blk w6 w.heap.size 88 #[.int .i64 N9,.bool tn,.slice ua un.length uc,.int .i64 6,.string nm,.slice (some ⟨b,o,none⟩) 1 xc,.slice (some ⟨tb,hto,none⟩) tl tc]) := HS6.o.blk 0 rfl;have HJ6 : Hid (RunTo base rb day fx fa fl fc w w6 vP vF { s with bad := !b9 } vP vF) := RunTo.of HJ.o (HS6.o.drop 0) HF6.o;clear HS6 HF6;obtain ⟨c0,c1,c2,c3,c4,c5,c6⟩ := blk7 BP6.o;have y3 : w6.cell? ⟨g1,3,none⟩=some (.slice (some ⟨tb,hto,none⟩) tl tc) := HT6.o.cell 3;obtain ⟨v0,v1,v2,v3⟩ := HW.o;replace v0 := HJ6.o.fr.cell v0 HNX.o;replace v1 := HJ6.o.fr.cell v1 HNX.o;replace v2 := HJ6.o.fr.cell v2 HNX.o;replace v3 := HJ6.o.fr.cell v3 HNX.o;have hlt9 : 0 < tl := HLT.o;refine wp_region_till (S := fun W => W.cell? ⟨g1,3,none⟩=some (.slice (some ⟨tb,hto,none⟩) tl tc)/\W.cell? ⟨w.heap.size,0,none⟩=some (.int .i64 N9)/\W.cell? ⟨w.heap.size,1,none⟩=some (.bool tn)/\W.cell? ⟨w.heap.size,2,none⟩=some (.slice ua un.length uc)/\W.cell? ⟨w.heap.size,3,none⟩=some (.int .i64 6)/\W.cell? ⟨w.heap.size,4,none⟩=some (.string nm)/\W.cell? ⟨w.heap.size,5,none⟩=some (.slice (some ⟨b,o,none⟩) 1 xc)/\W.cell? ⟨w.heap.size,6,none⟩=some (.slice (some ⟨tb,hto,none⟩) tl tc)/\W.cell? ⟨tb,hto,none⟩=some (.int .i64 q1)/\W.cell? ⟨tb,hto + 1,none⟩=some (.string q2)/\W.cell? ⟨tb,hto + 2,none⟩=some (.slice q3 q4' q5)/\W.cell? ⟨tb,hto + 3,none⟩=some (.slice q6 q7 q8)) 7 (by kernel_rfl) ?_;refine tk 0 ⟨y3,c0,c1,c2,c3,c4,c5,c6,v0,v1,v2,v3⟩ ?_;refine tk 1 ⟨y3,c0,c1,c2,c3,c4,c5,c6,v0,v1,v2,v3⟩ ?_;refine tk 2 ⟨y3,c0,c1,c2,c3,c4,c5,c6,v0,v1,v2,v3⟩ ?_;refine tk 3 ⟨y3,c0,c1,c2,c3,c4,c5,c6,v0,v1,v2,v3⟩ ?_;refine tk 4 ⟨y3,c0,c1,c2,c3,c4,c5,c6,v0,v1,v2,v3⟩ ?_;refine tk 5 ⟨y3,c0,c1,c2,c3,c4,c5,c6,v0,v1,v2,v3⟩ ?_;refine t19 6 (fun K' hK=>?_);go_simp;have b0 : Below w6.heap.size w6 w6.drew := (Below.refl w6.heap.size w6).drew;(with_reducible refine (partWith_any _ _ _ _ _ _ _ _ _ _ _ _ _ _ _ _ _ _ _ _ _ _).mono ?_);rintro y w8 ⟨rfl,b1⟩;have bt := b0.trans (b1.mono b0.size);have HJ8 := LH9 (HJ6.o.trans (HJ6.o.run.below bt));have BP8 := LH9 (BP6.o.below bt);have BT8 := LH9 (HT6.o.below bt);refine hK _ _ ⟨cu9 y3 bt,cu9 c0 bt,cu9 c1 bt,cu9 c2 bt,cu9 c3 bt,cu9 c4 bt,cu9 c5 bt,cu9 c6 bt,cu9 v0 bt,cu9 v1 bt,cu9 v2 bt,cu9 v3 bt⟩ ?_;clear hK K' b0 b1 y3 c0 c1 c2 c3 c4 c5 c6 v0 v1 v2 v3 hlt9
     try simp only [Act.put,zp1,zp2,zp3,zp4,zp5,zp6]
     refine tl9 (fun K' hK=>?_);go_simp;have hic := HIH.o;have hrt8 : RepT w8 (X3 rb vP vF) (t0 t) [.int .i64 q1,.string q2,.slice q3 q4' q5,.slice q6 q7 q8] := HJ8.o.rep (K := teK) (x := (t0 t)) HRT.o;have huu8 : SlR exK w8 (X3 rb vP vF) un ua un.length uc := (HJ8.o.slr (K := exK) HU.o);unfold AcqC at hic;(with_reducible refine (hic N9 tn un _ vP vF ua uc [.int .i64 q1,.string q2,.slice q3 q4' q5,.slice q6 q7 q8] w8 HN9.o HJ8.o.run hrt8 huu8 (by have := HSM.o; have := HKD.o; omega) (by have := HSM.o; have := HKD.o; first | omega | (show s.ps.length + _<=_; omega)) (by have := HSM.o; have := HKD.o; first | omega | (show s.fs.length + _<=_; omega))).mono ?_);exact Z7_105
   . have HSP : Hid (S9={ s with ps := s.ps ++ [⟨f,tn,un,t⟩] }) := HSS.o.trans (waitW_part (by show (1 : Int) ≠ 3; omega) (fun h => by have := HOE.o; omega) (fun _ => rfl));exact Z7_7
 | tru b9 =>
   have z0 : w3.cell? ⟨z,0,none⟩=some (.int .i64 2) := BZ.o.cell 0;have z2 : w3.cell? ⟨z,2,none⟩=some (.bool b9) := BZ.o.cell 2;have y0 : w3.cell? ⟨g1,0,none⟩=some (.int .i64 op) := B2'.o.cell 0;rcases HOP.o with hop | hop
   . have HSP : Hid (S9={ s with ps := s.ps ++ [⟨f,tn,un,t⟩] }) := HSS.o.trans (waitW_part (by show (2 : Int) ≠ 3; omega) (fun _ => by show (2 : Int) ≠ 1; omega) (fun h => by have := HOE.o; omega));exact Z7_24
   . cases b9 with
     | false =>
       have HSP : Hid (S9={ s with ps := s.ps ++ [⟨f,tn,un,t⟩] }) := HSS.o.trans (waitW_part (by show (2 : Int) ≠ 3; omega) (fun h => by have := HOE.o; omega) (fun _ => rfl));exact Z7_7
     | true =>
       have HSP : Hid (S9=acq day fx (t0 t) f tn un s) := HSS.o.trans (waitW_when (HOE.o.trans hop));subst hop;go_upto_region 12 with (fail);clear z0 z2 y0 q4 f4;obtain ⟨c0,c1,c2,c3,c4,c5,c6⟩ := blk7 B3'.o;have y3 : w3.cell? ⟨g1,3,none⟩=some (.slice (some ⟨tb,hto,none⟩) tl tc) := B2'.o.cell 3;obtain ⟨v0,v1,v2,v3⟩ := HW.o;replace v0 := HJ3.o.fr.cell v0 HNX.o;replace v1 := HJ3.o.fr.cell v1 HNX.o;replace v2 := HJ3.o.fr.cell v2 HNX.o;replace v3 := HJ3.o.fr.cell v3 HNX.o;have hlt9 : 0 < tl := HLT.o;refine wp_region_till (S := fun W => W.cell? ⟨g1,3,none⟩=some (.slice (some ⟨tb,hto,none⟩) tl tc)/\W.cell? ⟨w.heap.size,0,none⟩=some (.int .i64 f)/\W.cell? ⟨w.heap.size,1,none⟩=some (.bool tn)/\W.cell? ⟨w.heap.size,2,none⟩=some (.slice ua un.length uc)/\W.cell? ⟨w.heap.size,3,none⟩=some (.int .i64 7)/\W.cell? ⟨w.heap.size,4,none⟩=some (.string nm)/\W.cell? ⟨w.heap.size,5,none⟩=some (.slice (some ⟨b,o,none⟩) 1 xc)/\W.cell? ⟨w.heap.size,6,none⟩=some (.slice (some ⟨tb,hto,none⟩) tl tc)/\W.cell? ⟨tb,hto,none⟩=some (.int .i64 q1)/\W.cell? ⟨tb,hto + 1,none⟩=some (.string q2)/\W.cell? ⟨tb,hto + 2,none⟩=some (.slice q3 q4' q5)/\W.cell? ⟨tb,hto + 3,none⟩=some (.slice q6 q7 q8)) 7 (by kernel_rfl) ?_;refine tk 0 ⟨y3,c0,c1,c2,c3,c4,c5,c6,v0,v1,v2,v3⟩ ?_;refine tk 1 ⟨y3,c0,c1,c2,c3,c4,c5,c6,v0,v1,v2,v3⟩ ?_;refine tk 2 ⟨y3,c0,c1,c2,c3,c4,c5,c6,v0,v1,v2,v3⟩ ?_;refine tk 3 ⟨y3,c0,c1,c2,c3,c4,c5,c6,v0,v1,v2,v3⟩ ?_;refine tk 4 ⟨y3,c0,c1,c2,c3,c4,c5,c6,v0,v1,v2,v3⟩ ?_;refine tk 5 ⟨y3,c0,c1,c2,c3,c4,c5,c6,v0,v1,v2,v3⟩ ?_;refine t19 6 (fun K' hK=>?_);go_simp;have b0 : Below w3.heap.size w3 w3.drew := (Below.refl w3.heap.size w3).drew;(with_reducible refine (partWith_any _ _ _ _ _ _ _ _ _ _ _ _ _ _ _ _ _ _ _ _ _ _).mono ?_);rintro y w8 ⟨rfl,b1⟩;have bt := b0.trans (b1.mono b0.size);have HJ8 := LH9 (HJ3.o.trans (HJ3.o.run.below bt));have BP8 := LH9 (B3'.o.below bt);have BT8 := LH9 (B2'.o.below bt);refine hK _ _ ⟨cu9 y3 bt,cu9 c0 bt,cu9 c1 bt,cu9 c2 bt,cu9 c3 bt,cu9 c4 bt,cu9 c5 bt,cu9 c6 bt,cu9 v0 bt,cu9 v1 bt,cu9 v2 bt,cu9 v3 bt⟩ ?_;clear hK K' b0 b1 y3 c0 c1 c2 c3 c4 c5 c6 v0 v1 v2 v3 hlt9
       try simp only [Act.put,zp1,zp2,zp3,zp4,zp5,zp6]
       refine tl9 (fun K' hK=>?_);go_simp;have hic := HIH.o;have hrt8 : RepT w8 (X3 rb vP vF) (t0 t) [.int .i64 q1,.string q2,.slice q3 q4' q5,.slice q6 q7 q8] := HJ8.o.rep (K := teK) (x := (t0 t)) HRT.o;have huu8 : SlR exK w8 (X3 rb vP vF) un ua un.length uc := (HJ8.o.slr (K := exK) HU.o);unfold AcqC at hic;(with_reducible refine (hic f tn un _ vP vF ua uc [.int .i64 q1,.string q2,.slice q3 q4' q5,.slice q6 q7 q8] w8 HFI.o HJ8.o.run hrt8 huu8 (by have := HSM.o; have := HKD.o; omega) (by have := HSM.o; have := HKD.o; first | omega | (show s.ps.length + _<=_; omega)) (by have := HSM.o; have := HKD.o; first | omega | (show s.fs.length + _<=_; omega))).mono ?_);exact Z7_105
end
end Go.Proofs.YtmiinmndbkdjbaaGreat
