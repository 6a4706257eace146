/- A part of the proof: LiQ, Drop, Told, Rsee, RvS, RvI, one behind another. -/
import Derived.Test.YtmiinmndbkdjbaaGreatMEA
import Derived.Test.YtmiinmndbkdjbaaGreatMED
import Derived.Test.YtmiinmndbkdjbaaGreatMEF
import Derived.Test.YtmiinmndbkdjbaaGreatMEG
import Derived.Test.YtmiinmndbkdjbaaGreatMEJ
import Derived.Lib.Hide
import Derived.WalkKit
set_option maxRecDepth 100000
set_option maxHeartbeats 16000000
set_option linter.unusedVariables false
set_option linter.unusedSimpArgs false
namespace Go.Proofs.YtmiinmndbkdjbaaGreat
open Go.RowKit
section
noncomputable def accL (day : Int) (fx : List Fx) (l : List Prt) (s : RS) : RS := l.foldl (fun s p => acq day fx p.term p.factor p.turned p.til s) s
section
variable {day : Int} {fx : List Fx} {p : Prt} {l rest : List Prt} {s : RS}
theorem accL_cons : accL day fx (p :: l) s=accL day fx l (acq day fx p.term p.factor p.turned p.til s) := rfl
theorem accL_bad (h : s.bad=true) : accL day fx l s=s := by
 induction l with
 | nil => rfl
 | cons p l ih => rw [accL_cons,acq_bad h,ih]
theorem RS.good {s : RS} (h : s.bad=false) : { s with bad := false }=s := by rw [<- h]
theorem acc_none (hb : bT p.term=true) (h : p.term.op=1\/(p.term.op=2/\p.factor=0)) : accL day fx (p :: rest) s=accL day fx rest s := by
 rw [accL_cons,acq_eq day fx hb,acqB];by_cases hs : s.bad=true
 . rw [if_pos hs]
 rw [if_neg hs];rcases h with h | ⟨h,hf⟩
 . rw [if_neg (by omega),if_neg (by omega),if_neg (by omega),if_neg (by omega),if_neg (by omega),if_neg (by omega)]
 . rw [if_pos h,if_pos hf]
theorem acc_one (hb : bT p.term=true) (hs : s.bad=false) (h : p.term.op=2) (hf : p.factor ≠ 0) : accL day fx (p :: rest) s=accL day fx rest { s with fs := s.fs ++ [⟨p.term.nm,p.factor⟩] } := by
 rw [accL_cons,acq_eq day fx hb,acqB,hs,if_neg (by simp),if_pos h,if_neg hf]
theorem acc_give (hb : bT p.term=true) (hs : s.bad=false) (h : p.term.op=3) (hf : fitB (fitI (-p.factor))=true) : accL day fx (p :: rest) s=accL day fx (⟨fitN (fitI (-p.factor)),!p.turned,p.til,t0 p.term⟩ :: rest) s := by
 rw [accL_cons,acq_eq day fx hb,acqB,hs,if_neg (by simp),if_neg (by omega),if_pos h,hf];show accL day fx rest (acq day fx _ _ _ _ { s with bad := false })=_;rw [RS.good hs]; rfl
theorem acc_giveBad (hb : bT p.term=true) (hs : s.bad=false) (h : p.term.op=3) (hf : fitB (fitI (-p.factor))=false) : (accL day fx (p :: rest) s).bad=true := by
 rw [accL_cons,acq_eq day fx hb,acqB,hs,if_neg (by simp),if_neg (by omega),if_pos h,hf,acq_bad rfl,accL_bad rfl]; rfl
theorem acc_and (hb : bT p.term=true) (hs : s.bad=false) (h : p.term.op=4) : accL day fx (p :: rest) s=accL day fx (⟨p.factor,p.turned,p.til,t0 p.term⟩ :: ⟨p.factor,p.turned,p.til,t1 p.term⟩ :: rest) s := by
 rw [accL_cons,acq_eq day fx hb,acqB,hs,if_neg (by simp),if_neg (by omega),if_neg (by omega),if_pos h]; rfl
theorem acc_part (hb : bT p.term=true) (hs : s.bad=false) (h : p.term.op=5\/p.term.op=9) : accL day fx (p :: rest) s=accL day fx rest { s with ps := s.ps ++ [p] } := by
 rw [accL_cons,acq_eq day fx hb,acqB,hs,if_neg (by simp),if_neg (by omega),if_neg (by omega),if_neg (by omega),if_neg (by omega),if_neg (by omega),if_pos h]
theorem acc_brk (hb : bT p.term=true) (hs : s.bad=false) (h : p.term.op=6\/p.term.op=7\/p.term.op=8) (hv : (evalX day fx (x0 p.term)).K=3) : (accL day fx (p :: rest) s).bad=true := by
 rw [accL_cons,acq_eq day fx hb,acqB,hs,if_neg (by simp),if_neg (by omega),if_neg (by omega),if_neg (by omega)];by_cases h8 : p.term.op=8
 . rw [if_pos h8,if_pos hv,accL_bad rfl]
 . rw [if_neg h8,if_pos (by omega)];unfold waitW;rw [if_pos hv,accL_bad rfl]
theorem acc_til (hb : bT p.term=true) (hs : s.bad=false) (h : p.term.op=8) (hv : (evalX day fx (x0 p.term)).K ≠ 3) (hB : (evalX day fx (x0 p.term)).B=false) : accL day fx (p :: rest) s=accL day fx (⟨p.factor,p.turned,p.til ++ [x0 p.term],t0 p.term⟩ :: rest) s := by
 rw [accL_cons,acq_eq day fx hb,acqB,hs,if_neg (by simp),if_neg (by omega),if_neg (by omega),if_neg (by omega),if_pos h,if_neg hv,hB,if_neg (by simp)]; rfl
theorem acc_ends (hb : bT p.term=true) (hs : s.bad=false) (h : p.term.op=8) (hv : (evalX day fx (x0 p.term)).K ≠ 3) (hB : (evalX day fx (x0 p.term)).B=true) : accL day fx (p :: rest) s=accL day fx rest s := by
 rw [accL_cons,acq_eq day fx hb,acqB,hs,if_neg (by simp),if_neg (by omega),if_neg (by omega),if_neg (by omega),if_pos h,if_neg hv,hB,if_pos rfl]
theorem acc_scale (hb : bT p.term=true) (hs : s.bad=false) (h : p.term.op=6) (hv : (evalX day fx (x0 p.term)).K=1) (hf : fitB (fitI (p.factor * (evalX day fx (x0 p.term)).N))=true) :
 accL day fx (p :: rest) s=accL day fx (⟨fitN (fitI (p.factor * (evalX day fx (x0 p.term)).N)),p.turned,p.til,t0 p.term⟩ :: rest) s := by
 rw [accL_cons,acq_eq day fx hb,acqB,hs,if_neg (by simp),if_neg (by omega),if_neg (by omega),if_neg (by omega),if_neg (by omega),if_pos (.inl h)];unfold waitW;rw [if_neg (by omega),if_pos ⟨h,hv⟩,hf];show accL day fx rest (acq day fx _ _ _ _ { s with bad := false })=_;rw [RS.good hs]; rfl
theorem acc_scaleBad (hb : bT p.term=true) (hs : s.bad=false) (h : p.term.op=6) (hv : (evalX day fx (x0 p.term)).K=1) (hf : fitB (fitI (p.factor * (evalX day fx (x0 p.term)).N))=false) : (accL day fx (p :: rest) s).bad=true := by
 rw [accL_cons,acq_eq day fx hb,acqB,hs,if_neg (by simp),if_neg (by omega),if_neg (by omega),if_neg (by omega),if_neg (by omega),if_pos (.inl h)];unfold waitW;rw [if_neg (by omega),if_pos ⟨h,hv⟩,hf,acq_bad rfl,accL_bad rfl]; rfl
theorem acc_when (hb : bT p.term=true) (hs : s.bad=false) (h : p.term.op=7) (hv : (evalX day fx (x0 p.term)).K ≠ 3) (hB : (evalX day fx (x0 p.term)).B=true) : accL day fx (p :: rest) s=accL day fx (⟨p.factor,p.turned,p.til,t0 p.term⟩ :: rest) s := by
 rw [accL_cons,acq_eq day fx hb,acqB,hs,if_neg (by simp),if_neg (by omega),if_neg (by omega),if_neg (by omega),if_neg (by omega),if_pos (.inr h)];unfold waitW;rw [if_neg hv,if_neg (by omega),if_pos ⟨h,hB⟩]; rfl
theorem acc_wait (hb : bT p.term=true) (hs : s.bad=false) (h : (p.term.op=6/\(evalX day fx (x0 p.term)).K ≠ 1)\/(p.term.op=7/\(evalX day fx (x0 p.term)).B=false)) (hv : (evalX day fx (x0 p.term)).K ≠ 3) : accL day fx (p :: rest) s=accL day fx rest { s with ps := s.ps ++ [p] } := by
 have h' : p.term.op=6\/p.term.op=7 := by rcases h with h | h <;> omega
 rw [accL_cons,acq_eq day fx hb,acqB,hs,if_neg (by simp),if_neg (by omega),if_neg (by omega),if_neg (by omega),if_neg (by omega),if_pos h'];unfold waitW;have n1 : ¬ (p.term.op=6/\(evalX day fx (x0 p.term)).K=1) := by rcases h with h | h <;> omega
 have n2 : ¬ (p.term.op=7/\(evalX day fx (x0 p.term)).B=true) := by
  rintro ⟨h1,h2⟩;rcases h with h | h
  . omega
  . rw [h.2] at h2; cases h2
 rw [if_neg hv,if_neg n1,if_neg n2,hs]
end
end
section
theorem Sl.drop {w : World} {X : List Nat} {sz len cap : Nat} {b o : Nat} {vs : List (List Value)} (h : Sl w X sz (some ⟨b,o,none⟩) len cap vs) (k : Nat) (hk : k<=len) : Sl w X sz (some ⟨b,o + k * sz,none⟩) (len - k) (cap - k) (vs.drop k) := by
 obtain ⟨h1,h2,h3,h4⟩ := h;refine ⟨by simp; omega,by omega,by omega,fun hp => ?_⟩;obtain ⟨b',o',ha,hb,hx,hc⟩ := h4 (by omega);injection ha with ha;injection ha with e1 e2;subst e1; subst e2;refine ⟨b,o + k * sz,rfl,hb,hx,fun i cs hi => ?_⟩;rw [List.getElem?_drop] at hi;have := hc (k + i) cs hi;refine ⟨this.1,fun j c hj => ?_⟩;rw [<- this.2 j c hj,show o + (k + i) * sz + j=o + k * sz + i * sz + j by rw [Nat.add_mul]; omega]
theorem SlR.dropAt {α : Type} {K : Elt α} {w : World} {X : List Nat} {l : List α} {len cap b o : Nat} (h : SlR K w X l (some ⟨b,o,none⟩) len cap) (k : Nat) (hk : k<=len) : SlR K w X (l.drop k) (some ⟨b,o + k * K.sz,none⟩) (len - k) (cap - k) := by
 obtain ⟨vs,h1,h2,h3⟩ := h;refine ⟨vs.drop k,by simp [h1],fun i x cs hi hc => h2 (k + i) x cs ?_ ?_,Sl.drop h3 k hk⟩
 . rw [List.getElem?_drop] at hi; exact hi
 . rw [List.getElem?_drop] at hc; exact hc
theorem SlR.empty {α : Type} {K : Elt α} {w w' : World} {X X' : List Nat} {l : List α} {a a' : Option Addr} {cap cap' : Nat} (h : SlR K w X l a 0 cap) (hc : cap'<=9223372036854775807) : SlR K w' X' [] a' 0 cap' :=
 ⟨[],rfl,fun i x cs hx => by simp at hx,rfl,Nat.zero_le _,hc,fun hp => absurd hp (Nat.lt_irrefl _)⟩
theorem SlR.from {α : Type} {K : Elt α} {w : World} {X : List Nat} {l : List α} {a : Option Addr} {len cap : Nat} (h : SlR K w X l a len cap) (k : Nat) (hk : k<=len) : SlR K w X (l.drop k) (if cap=k then a else a.map (fun p => p.add (k * K.sz))) (len - k) (cap - k) := by
 have hf := h.facts;by_cases hl : k=len
 . have hd : l.drop k=[] := List.drop_eq_nil_of_le (by omega);rw [hd,hl,Nat.sub_self];have h0 := h.take 0 (Nat.zero_le _);exact SlR.empty h0 (by omega)
 . rw [if_neg (by omega)];obtain ⟨b,o,x,cs,rfl,-⟩ := h.at k (by omega);have := SlR.dropAt h k hk;have e : (⟨b,o,none⟩ : Addr).add (k * K.sz)=⟨b,o + k * K.sz,none⟩ := by
    unfold Addr.add;by_cases h0 : k * K.sz=0
    . simp [h0]
    . simp [h0]
   show SlR K w X (l.drop k) (some ((⟨b,o,none⟩ : Addr).add (k * K.sz))) (len - k) (cap - k);rw [e]; exact this
end
section
def wd : Vl->ByteArray | .unk => ⟨#[63]⟩ | .brk => ⟨#[33]⟩ | .num _ => ⟨#[110]⟩ | .tru true => ⟨#[116]⟩ | .tru false => ⟨#[102]⟩
def RetW (v : Vl) (x : Ending) : Prop := x=.returned (.agg #[.string (wd v),.int .i64 v.N])
theorem rtruth_any (b : Bool) (w : World) : Calls Tryz.prog 59 #[.bool b] w fun x w' => RetW (.tru b) x/\Below w.heap.size w w' := by
 have BX := LH9 (Mem.Blk.new w 97 #[.string ⟨#[]⟩,.int .i64 0]);have HB := LH9 (below_two w (.cells #[.string ⟨#[]⟩,.int .i64 0] 97))
 go_enter Tryz.func59,Tryz.ntmps59
 go_upto_region 1 with (fail);generalize w.alloc (.cells _ 97)=v at *;obtain ⟨t0,t1,t2,t3⟩ := BX.o.two;have hm := BX.o.lt
 cases b with
 | false =>
   go_wp2_with fail;have HFN : Hid (Below w.heap.size w ((v.setCell ⟨w.heap.size,0,none⟩ (.string ⟨#[102]⟩)).setCell ⟨w.heap.size,1,none⟩ (.int .i64 0))/\Mem.Blk ((v.setCell ⟨w.heap.size,0,none⟩ (.string ⟨#[102]⟩)).setCell ⟨w.heap.size,1,none⟩ (.int .i64 0)) (w.heap.size) 97 #[.string ⟨#[102]⟩,.int .i64 0]) := ⟨((HB.o).setCell (by show w.heap.size<=w.heap.size; omega) _).setCell (by show w.heap.size<=w.heap.size; omega) _,((BX.o).set_ 0 _).set_ 1 _⟩;generalize (v.setCell ⟨w.heap.size,0,none⟩ (.string ⟨#[102]⟩)).setCell ⟨w.heap.size,1,none⟩ (.int .i64 0)=W9 at *;obtain ⟨r0,r1,-,-⟩ := HFN.o.2.two;refine bodyPost_ret (v := .agg #[.string ⟨#[102]⟩,.int .i64 0]) (by simp [results,Tryz.results59,go_sem,r0,r1]) rfl ⟨rfl,HFN.o.1⟩
 | true =>
   go_wp2_with fail;have HFN : Hid (Below w.heap.size w ((v.setCell ⟨w.heap.size,0,none⟩ (.string ⟨#[116]⟩)).setCell ⟨w.heap.size,1,none⟩ (.int .i64 0))/\Mem.Blk ((v.setCell ⟨w.heap.size,0,none⟩ (.string ⟨#[116]⟩)).setCell ⟨w.heap.size,1,none⟩ (.int .i64 0)) (w.heap.size) 97 #[.string ⟨#[116]⟩,.int .i64 0]) := ⟨((HB.o).setCell (by show w.heap.size<=w.heap.size; omega) _).setCell (by show w.heap.size<=w.heap.size; omega) _,((BX.o).set_ 0 _).set_ 1 _⟩;generalize (v.setCell ⟨w.heap.size,0,none⟩ (.string ⟨#[116]⟩)).setCell ⟨w.heap.size,1,none⟩ (.int .i64 0)=W9 at *;obtain ⟨r0,r1,-,-⟩ := HFN.o.2.two;refine bodyPost_ret (v := .agg #[.string ⟨#[116]⟩,.int .i64 0]) (by simp [results,Tryz.results59,go_sem,r0,r1]) rfl ⟨rfl,HFN.o.1⟩
end
section
theorem rseen_any (day : Int) (fx : List Fx) (nm : ByteArray) (a : Option Addr) (len cap : Nat) (w : World) (hS : SlR fxK w [] fx a len cap) :
 Calls Tryz.prog 60 #[.agg #[.int .i64 day,.slice a len cap],.string nm] w fun x w' => x=seenRt (seenV day fx nm)/\Below w.heap.size w w' := by
 obtain ⟨f1,f2,f3⟩ := hS.facts;have HL := LH9 f1;have hal := (Below.refl w.heap.size w).alloc (Nat.le_refl _) (.cells #[.int .i64 day,.slice a len cap] 26);have HS := LH9 (hS.kept (Kept.of_below hal []));have HB0 := LH9 hal;have BX := LH9 (Mem.Blk.new w 26 #[.int .i64 day,.slice a len cap]);obtain ⟨R,hR⟩ : ∃ R,R=seenRt (seenV day fx nm) := ⟨_,rfl⟩;rw [<- hR];have HR := LH9 hR;clear hR hS hal f1
 go_enter Tryz.func60,Tryz.ntmps60
 go_upto_region 1 with (fail);generalize w.alloc (.cells _ 26)=v at *;go_wp2_with fail
 go_loopw [6,7,8,9] (fun u y z i wr => ∃ (k : Nat) (b : Bool) (d n : Int),i=.int .i64 (k : Nat)/\u=.bool b/\y=.int .i64 d/\z=.int .i64 n/\k<=len/\Hid (BestR day nm fx k b d n)/\Hid (Below v.heap.size v wr)) (fun _ _ _ i _ => len - (intOf i).toNat)
 case atStart => exact ⟨0,false,0,0,rfl,rfl,rfl,rfl,Nat.zero_le _,BestR.start _ _ _,Below.refl _ _⟩
 case round =>
  obtain ⟨k,b,d,n,rfl,rfl,rfl,rfl,hk,HN,HB⟩ := hrel;have BW := LH9 (BX.o.below HB.o);obtain ⟨c0,c1,-,-⟩ := BW.o.two;have HSW := LH9 (HS.o.kept (Kept.of_below HB.o []));by_cases hlt : k < len
  . have hk' : (k : Int) < (len : Int) := by omega
    obtain ⟨q,o,f,rfl,hbl,-,hf,-,k1,k2,u0,u1,u2⟩ := fx_at HSW.o k hlt;have HF := LH9 hf;have hal := (Below.refl wr.heap.size wr).alloc (Nat.le_refl _) (.cells #[.string f.name,.int .i64 f.day,.int .i64 f.val] 92);have HB2 := bt9 HB hal;have BF := LH9 (Mem.Blk.new wr 92 #[.string f.name,.int .i64 f.day,.int .i64 f.val]);have BW2 := LH9 (BW.o.below hal);clear hf hal HSW HB HS BX BW;go_upto_region 8 with (fail);generalize wr.alloc (.cells _ 92)=v2 at *;generalize wr.heap.size=h2 at *;clear c0 c1 u0 u1 u2;obtain ⟨c0,c1,-,-⟩ := BW2.o.two;have d0 : v2.cell? ⟨h2,0,none⟩=_ := BF.o.cell 0;have d1 : v2.cell? ⟨h2,1,none⟩=_ := BF.o.cell 1;have d2 : v2.cell? ⟨h2,2,none⟩=_ := BF.o.cell 2;simp only [List.getElem?_toArray,List.getElem?_cons_zero,List.getElem?_cons_succ] at d0 d1 d2;by_cases hn : f.name=nm
    case neg =>
     have t1 : (f.name.toList == nm.toList)=false := tl_ne hn;have HX := LH9 (HN.o.skip HF.o (fun hh => hn hh.1));clear hn HN;exact Z7_152
    case pos =>
     by_cases hd : f.day<=day
     case neg =>
      have hdd : decide (f.day<=day)=false := decide_eq_false hd;have HX := LH9 (HN.o.skip HF.o (fun hh => hd hh.2.1));clear HN;subst hn;exact Z7_152
     case pos =>
      have hdd : decide (f.day<=day)=true := decide_eq_true hd
      cases b with
      | false =>
        have HX := LH9 (HN.o.take HF.o ⟨hn,hd,fun h => by cases h⟩);exact Z7_97
      | true =>
        by_cases hgd : d < f.day
        case pos =>
         have hgg : decide (d < f.day)=true := decide_eq_true hgd;have HX := LH9 (HN.o.take HF.o ⟨hn,hd,fun _ => hgd⟩);exact Z7_97
        case neg =>
         have hgg : decide (d < f.day)=false := decide_eq_false hgd;have HX := LH9 (HN.o.skip HF.o (fun hh => hgd (hh.2.2 rfl)));exact Z7_97
  . have hk' : ¬ (k : Int) < (len : Int) := by omega
    obtain rfl : k=fx.length := by have := HL.o; omega
    have HB2 := bu9 HB0 HB;obtain rfl : R=.returned (.tuple #[.int .i64 n,.bool b]) := by rw [HR.o,HN.o.done]
    clear HR HN;go_wp2_with fail;go_ret2;exact ⟨rfl,HB2.o⟩
end
section
structure RvSt (w W : World) (day : Int) (a : Option Addr) (len cap : Nat) (op n : Int) (nm : ByteArray) (a' : Option Addr) (len' cap' : Nat) : Prop where
 below : Below w.heap.size w W
 ex : Mem.Blk W w.heap.size 74 #[.int .i64 op,.int .i64 n,.string nm,.slice a' len' cap']
 env : Mem.Blk W (w.heap.size + 1) 26 #[.int .i64 day,.slice a len cap]
 res : Mem.Blk W (w.heap.size + 1 + 1) 97 #[.string ⟨#[]⟩,.int .i64 0]
section
variable {w W W' : World} {day : Int} {a : Option Addr} {len cap : Nat} {op n : Int} {nm : ByteArray} {a' : Option Addr} {len' cap' : Nat}
theorem RvSt.up (h : RvSt w W day a len cap op n nm a' len' cap') (hb : Below W.heap.size W W') : RvSt w W' day a len cap op n nm a' len' cap' :=
 ⟨h.below.trans (hb.mono h.below.size),h.ex.below hb,h.env.below hb,h.res.below hb⟩
theorem RvSt.lt (h : RvSt w W day a len cap op n nm a' len' cap') : w.heap.size + 1 + 1 < W.heap.size := h.res.lt
theorem RvSt.far2 (h : RvSt w W day a len cap op n nm a' len' cap') {g : Nat} (hg : w.heap.size + 1 + 1 < g) (c0 c1 : Value) : RvSt w ((W.setCell ⟨g,0,none⟩ c0).setCell ⟨g,1,none⟩ c1) day a len cap op n nm a' len' cap' :=
 have h0 : w.heap.size ≠ g := by omega
 have h1 : w.heap.size + 1 ≠ g := by omega
 have h2 : w.heap.size + 1 + 1 ≠ g := by omega
 have hb : w.heap.size<=g := by omega
 ⟨(h.below.setCell hb _).setCell hb _,(h.ex.far h0 _).far h0 _,(h.env.far h1 _).far h1 _,(h.res.far h2 _).far h2 _⟩
end
theorem RvSt.start (w : World) (day : Int) (a : Option Addr) (len cap : Nat) (op n : Int) (nm : ByteArray) (a' : Option Addr) (len' cap' : Nat) :
 RvSt w (((w.alloc (.cells #[.int .i64 op,.int .i64 n,.string nm,.slice a' len' cap'] 74)).alloc (.cells #[.int .i64 day,.slice a len cap] 26)).alloc (.cells #[.string ⟨#[]⟩,.int .i64 0] 97)) day a len cap op n nm a' len' cap' := by
 have h1 := Mem.Blk.new w 74 #[.int .i64 op,.int .i64 n,.string nm,.slice a' len' cap'];have h2 := Mem.Blk.new (w.alloc (.cells #[.int .i64 op,.int .i64 n,.string nm,.slice a' len' cap'] 74)) 26 #[.int .i64 day,.slice a len cap];have h3 := Mem.Blk.new ((w.alloc (.cells #[.int .i64 op,.int .i64 n,.string nm,.slice a' len' cap'] 74)).alloc (.cells #[.int .i64 day,.slice a len cap] 26)) 97 #[.string ⟨#[]⟩,.int .i64 0];have e1 : (w.alloc (.cells #[.int .i64 op,.int .i64 n,.string nm,.slice a' len' cap'] 74)).heap.size=w.heap.size + 1 := by simp
 have e2 : ((w.alloc (.cells #[.int .i64 op,.int .i64 n,.string nm,.slice a' len' cap'] 74)).alloc (.cells #[.int .i64 day,.slice a len cap] 26)).heap.size=w.heap.size + 1 + 1 := by simp
 exact Z7_137
structure RvV (w W : World) (g : Nat) (v : Vl) : Prop where
 hi : w.heap.size + 1 + 1 < g
 blk : Mem.Blk W g 97 #[.string (wd v),.int .i64 v.N]
theorem RvV.up {w W W' : World} {g : Nat} {v : Vl} (h : RvV w W g v) (hb : Below W.heap.size W W') : RvV w W' g v := ⟨h.hi,h.blk.below hb⟩
theorem RvV.far2 {w W : World} {g g' : Nat} {v : Vl} (h : RvV w W g v) (hg : g ≠ g') (c0 c1 : Value) : RvV w ((W.setCell ⟨g',0,none⟩ c0).setCell ⟨g',1,none⟩ c1) g v := ⟨h.hi,(h.blk.far hg _).far hg _⟩
def RvC (w : World) (day : Int) (a : Option Addr) (len cap : Nat) (c0 c1 c2 c3 : Value) (v : Vl) : Prop :=
 ∀ W,Below w.heap.size w W->Calls Tryz.prog 32 #[.agg #[c0,c1,c2,c3],.agg #[.int .i64 day,.slice a len cap]] W fun x W' => RetW v x/\Below W.heap.size W W'
theorem RvC.run {w : World} {day : Int} {a : Option Addr} {len cap : Nat} {c0 c1 c2 c3 : Value} {v : Vl} (h : RvC w day a len cap c0 c1 c2 c3 v) (W : World) (hW : Below w.heap.size w W) :
 Calls Tryz.prog 32 #[.agg #[c0,c1,c2,c3],.agg #[.int .i64 day,.slice a len cap]] W fun x W' => RetW v x/\Below W.heap.size W W' := h W hW
end
section
theorem rv_if (w : World) (day : Int) (a : Option Addr) (len cap : Nat) (n : Int) (nm : ByteArray) (b o cap' : Nat) (o0 n0 o1 n1 o2 n2 : Int) (m0 m1 m2 : ByteArray) (a0 a1 a2 : Option Addr) (l0 p0 l1 p1 l2 p2 : Nat) (A B C : Vl) (hA : Ty 2 A)
 (h0 : Four w b o (.int .i64 o0) (.int .i64 n0) (.string m0) (.slice a0 l0 p0)) (h1 : Four w b (o + 4) (.int .i64 o1) (.int .i64 n1) (.string m1) (.slice a1 l1 p1)) (h2 : Four w b (o + 8) (.int .i64 o2) (.int .i64 n2) (.string m2) (.slice a2 l2 p2))
 (HA : RvC w day a len cap (.int .i64 o0) (.int .i64 n0) (.string m0) (.slice a0 l0 p0) A) (HB : RvC w day a len cap (.int .i64 o1) (.int .i64 n1) (.string m1) (.slice a1 l1 p1) B) (HC : RvC w day a len cap (.int .i64 o2) (.int .i64 n2) (.string m2) (.slice a2 l2 p2) C) :
 Calls Tryz.prog 32 #[.agg #[.int .i64 21,.int .i64 n,.string nm,.slice (some ⟨b,o,none⟩) 3 cap'],.agg #[.int .i64 day,.slice a len cap]] w fun x w' => RetW (opV 21 [A,B,C]) x/\Below w.heap.size w w' := by
 have H0 := LH9 h0;have H1 := LH9 h1;have H2 := LH9 h2;have HCA := LH9 HA;have HCB := LH9 HB;have HCC := LH9 HC;have HTA := LH9 hA.of2;have ST := LH9 (RvSt.start w day a len cap 21 n nm (some ⟨b,o,none⟩) 3 cap');obtain ⟨R,hR⟩ : ∃ R,R=opV 21 [A,B,C] := ⟨_,rfl⟩;rw [<- hR];have HR := LH9 hR;clear hR h0 h1 h2 HA HB HC hA
 go_enter Tryz.func32,Tryz.ntmps32
 go_upto_region 1 with (fail);generalize ((w.alloc (.cells #[.int .i64 21,.int .i64 n,.string nm,.slice (some ⟨b,o,none⟩) 3 cap'] 74)).alloc (.cells #[.int .i64 day,.slice a len cap] 26)).alloc (.cells #[.string ⟨#[]⟩,.int .i64 0] 97)=v at *;have e0 : v.cell? ⟨w.heap.size + 1,0,none⟩=some (.int .i64 day) := ST.o.env.cell 0;have e1 : v.cell? ⟨w.heap.size + 1,1,none⟩=some (.slice a len cap) := ST.o.env.cell 1;obtain ⟨x0,x1,x2,x3,-,-,-,-⟩ := blk4 ST.o.ex;go_upto_region 11 with (fail);clear e0 e1 x0 x1 x2 x3
 go_cut [8] (fun p W0 => ∃ g,p=.pointer (some ⟨g,0,none⟩)/\Hid (RvSt w W0 day a len cap 21 n nm (some ⟨b,o,none⟩) 3 cap')/\Hid (RvV w W0 g A))
 case first =>
  have e0 : v.cell? ⟨w.heap.size + 1,0,none⟩=some (.int .i64 day) := ST.o.env.cell 0;have e1 : v.cell? ⟨w.heap.size + 1,1,none⟩=some (.slice a len cap) := ST.o.env.cell 1;have x3 : v.cell? ⟨w.heap.size,3,none⟩=some (.slice (some ⟨b,o,none⟩) 3 cap') := ST.o.ex.cell 3;obtain ⟨u0,u1,u2,u3⟩ := H0.o;replace u0 := cu9 u0 ST.o.below;replace u1 := cu9 u1 ST.o.below;replace u2 := cu9 u2 ST.o.below;replace u3 := cu9 u3 ST.o.below;refine wp_region_till (S := fun W => (W.cell? ⟨w.heap.size + 1,0,none⟩=some (.int .i64 day)/\W.cell? ⟨w.heap.size + 1,1,none⟩=some (.slice a len cap))/\W.cell? ⟨w.heap.size,3,none⟩=some (.slice (some ⟨b,o,none⟩) 3 cap')/\W.cell? ⟨b,o,none⟩=some (.int .i64 o0)/\W.cell? ⟨b,o + 1,none⟩=some (.int .i64 n0)/\W.cell? ⟨b,o + 2,none⟩=some (.string m0)/\W.cell? ⟨b,o + 3,none⟩=some (.slice a0 l0 p0)) 7 (by kernel_rfl) ?_;refine tk 0 ⟨⟨e0,e1⟩,x3,u0,u1,u2,u3⟩ ?_;refine tk 1 ⟨⟨e0,e1⟩,x3,u0,u1,u2,u3⟩ ?_;refine tk 2 ⟨⟨e0,e1⟩,x3,u0,u1,u2,u3⟩ ?_;refine tk 3 ⟨⟨e0,e1⟩,x3,u0,u1,u2,u3⟩ ?_;refine tk 4 ⟨⟨e0,e1⟩,x3,u0,u1,u2,u3⟩ ?_;refine till_two (i := 5) (j := 6) (by kernel_rfl) rfl rfl (fun K' hK => ?_) (fun K' hK => ?_)
  . go_simp;go_at_call 32;(with_reducible refine (RvC.run HCA.o _ ST.o.below.drew).mono ?_);rintro y w1 ⟨hy,b1⟩;unfold RetW at hy;subst hy;have hd := (Below.refl v.heap.size v).drew;have ST1 := LH9 ((ST.o.up hd).up b1);have bt := hd.trans (b1.mono hd.size);have GG := LH9 (True.intro);replace e0 := cu9 e0 bt;replace e1 := cu9 e1 bt;replace x3 := cu9 x3 bt;replace u0 := cu9 u0 bt;replace u1 := cu9 u1 bt;replace u2 := cu9 u2 bt;replace u3 := cu9 u3 bt;refine hK _ _ ⟨⟨e0,e1⟩,x3,u0,u1,u2,u3⟩ ?_;clear hK K' b1 hd bt
    try simp only [Act.put,zp1,zp2,zp3,zp4,zp5,zp6]
    refine t19 6 (fun K' hK=>?_);go_simp;have bn := (Below.refl w1.heap.size w1).alloc (Nat.le_refl _) (.cells #[.string ⟨#[]⟩,.int .i64 0] 97);have ST2 := LH9 (ST1.o.up bn);have BZ := LH9 (Mem.Blk.new w1 97 #[.string ⟨#[]⟩,.int .i64 0]);have HZ := LH9 ST1.o.lt;have HP := LH9 (True.intro);refine hK _ _ ⟨⟨cu9 e0 bn,cu9 e1 bn⟩,cu9 x3 bn,cu9 u0 bn,cu9 u1 bn,cu9 u2 bn,cu9 u3 bn⟩ ?_;clear hK K' bn ST1 e0 e1 x3 u0 u1 u2 u3 GG;generalize w1.alloc (.cells _ 97)=w2 at *;generalize w1.heap.size=z at *
    try simp only [Act.put,zp1,zp2,zp3,zp4,zp5,zp6]
    obtain ⟨t0,t1,t2,t3⟩ := BZ.o.two;have hm := BZ.o.lt;refine tl9 (fun K' hK=>?_);go_simp;have HS9 := LH9 (ST2.o.far2 HZ.o (.string (wd A)) (.int .i64 A.N));have HV9 := LH9 (RvV.mk (v := A) HZ.o ((BZ.o.set_ 0 (.string (wd A))).set_ 1 (.int .i64 A.N)));exact Z7_40
  . go_simp;have bn := below_new v (.cells #[.string ⟨#[]⟩,.int .i64 0] 97);have ST1 := LH9 (ST.o.up bn);have BZ1 := LH9 (Mem.Blk.new v 97 #[.string ⟨#[]⟩,.int .i64 0]).drew;have HZ := LH9 ST.o.lt;have HQ := LH9 (True.intro);replace e0 := cu9 e0 bn;replace e1 := cu9 e1 bn;replace x3 := cu9 x3 bn;replace u0 := cu9 u0 bn;replace u1 := cu9 u1 bn;replace u2 := cu9 u2 bn;replace u3 := cu9 u3 bn;refine hK _ _ ⟨⟨e0,e1⟩,x3,u0,u1,u2,u3⟩ ?_;clear hK K' bn;generalize (v.alloc (.cells _ 97)).drew=w1 at *;generalize v.heap.size=z at *
    try simp only [Act.put,zp1,zp2,zp3,zp4,zp5,zp6]
    refine t19 5 (fun K' hK=>?_);go_simp;go_at_call 32;(with_reducible refine (RvC.run HCA.o _ ST1.o.below).mono ?_);rintro y w2 ⟨hy,b1⟩;unfold RetW at hy;subst hy;have ST2 := LH9 (ST1.o.up b1);have BZ := LH9 (BZ1.o.below b1);have HP := LH9 (True.intro);refine hK _ _ ⟨⟨cu9 e0 b1,cu9 e1 b1⟩,cu9 x3 b1,cu9 u0 b1,cu9 u1 b1,cu9 u2 b1,cu9 u3 b1⟩ ?_;clear hK K' b1 ST1 BZ1 e0 e1 x3 u0 u1 u2 u3 HQ
    try simp only [Act.put,zp1,zp2,zp3,zp4,zp5,zp6]
    obtain ⟨t0,t1,t2,t3⟩ := BZ.o.two;have hm := BZ.o.lt;refine tl9 (fun K' hK=>?_);go_simp;have HS9 := LH9 (ST2.o.far2 HZ.o (.string (wd A)) (.int .i64 A.N));have HV9 := LH9 (RvV.mk (v := A) HZ.o ((BZ.o.set_ 0 (.string (wd A))).set_ 1 (.int .i64 A.N)));exact Z7_40
 obtain ⟨g,rfl,ST0,VA⟩ := hcut;obtain ⟨W0,rfl⟩ : ∃ W : World,W=wc := ⟨_,rfl⟩;clear ST;rcases HTA.o with rfl | rfl | ⟨t,rfl⟩
 . obtain rfl : R=.unk := HR.o;have t0 : W0.cell? ⟨g,0,none⟩=some (.string ⟨#[63]⟩) := VA.o.blk.cell 0;have t1 : W0.cell? ⟨g,1,none⟩=some (.int .i64 0) := VA.o.blk.cell 1;have e0 : W0.cell? ⟨w.heap.size + 1,0,none⟩=some (.int .i64 day) := ST0.o.env.cell 0;have e1 : W0.cell? ⟨w.heap.size + 1,1,none⟩=some (.slice a len cap) := ST0.o.env.cell 1;obtain ⟨x0,x1,x2,x3,-,-,-,-⟩ := blk4 ST0.o.ex;obtain ⟨q0,q1,q2,q3⟩ := ST0.o.res.two;have hm := ST0.o.lt;have HFN : Hid (Below w.heap.size w ((W0.setCell ⟨w.heap.size + 1 + 1,0,none⟩ (.string ⟨#[63]⟩)).setCell ⟨w.heap.size + 1 + 1,1,none⟩ (.int .i64 0))/\Mem.Blk ((W0.setCell ⟨w.heap.size + 1 + 1,0,none⟩ (.string ⟨#[63]⟩)).setCell ⟨w.heap.size + 1 + 1,1,none⟩ (.int .i64 0)) (w.heap.size + 1 + 1) 97 #[.string ⟨#[63]⟩,.int .i64 0]) := ⟨(ST0.o.below.setCell (by show w.heap.size<=w.heap.size + 1 + 1; omega) _).setCell (by show w.heap.size<=w.heap.size + 1 + 1; omega) _,(ST0.o.res.set_ 0 _).set_ 1 _⟩;go_wp2_with fail;generalize (W0.setCell ⟨w.heap.size + 1 + 1,0,none⟩ (.string ⟨#[63]⟩)).setCell ⟨w.heap.size + 1 + 1,1,none⟩ (.int .i64 0)=W9 at *;exact Z7_59
 . obtain rfl : R=.brk := HR.o;have t0 : W0.cell? ⟨g,0,none⟩=some (.string ⟨#[33]⟩) := VA.o.blk.cell 0;have t1 : W0.cell? ⟨g,1,none⟩=some (.int .i64 0) := VA.o.blk.cell 1;have e0 : W0.cell? ⟨w.heap.size + 1,0,none⟩=some (.int .i64 day) := ST0.o.env.cell 0;have e1 : W0.cell? ⟨w.heap.size + 1,1,none⟩=some (.slice a len cap) := ST0.o.env.cell 1;obtain ⟨x0,x1,x2,x3,-,-,-,-⟩ := blk4 ST0.o.ex;exact Z7_46
 . cases t with
   | true =>
     obtain rfl : R=B := HR.o;have t0 : W0.cell? ⟨g,0,none⟩=some (.string ⟨#[116]⟩) := VA.o.blk.cell 0;have t1 : W0.cell? ⟨g,1,none⟩=some (.int .i64 0) := VA.o.blk.cell 1;have e0 : W0.cell? ⟨w.heap.size + 1,0,none⟩=some (.int .i64 day) := ST0.o.env.cell 0;have e1 : W0.cell? ⟨w.heap.size + 1,1,none⟩=some (.slice a len cap) := ST0.o.env.cell 1;obtain ⟨x0,x1,x2,x3,-,-,-,-⟩ := blk4 ST0.o.ex;go_wp2_with fail;clear e0 e1 x0 x1 x2 x3 t0 t1;have e0 : W0.cell? ⟨w.heap.size + 1,0,none⟩=some (.int .i64 day) := ST0.o.env.cell 0;have e1 : W0.cell? ⟨w.heap.size + 1,1,none⟩=some (.slice a len cap) := ST0.o.env.cell 1;have x3 : W0.cell? ⟨w.heap.size,3,none⟩=some (.slice (some ⟨b,o,none⟩) 3 cap') := ST0.o.ex.cell 3;obtain ⟨u0,u1,u2,u3⟩ := H1.o;replace u0 := cu9 u0 ST0.o.below;replace u1 := cu9 u1 ST0.o.below;replace u2 := cu9 u2 ST0.o.below;replace u3 := cu9 u3 ST0.o.below;refine wp_region_till (S := fun W => (W.cell? ⟨w.heap.size + 1,0,none⟩=some (.int .i64 day)/\W.cell? ⟨w.heap.size + 1,1,none⟩=some (.slice a len cap))/\W.cell? ⟨w.heap.size,3,none⟩=some (.slice (some ⟨b,o,none⟩) 3 cap')/\W.cell? ⟨b,o + 4,none⟩=some (.int .i64 o1)/\W.cell? ⟨b,o + 4 + 1,none⟩=some (.int .i64 n1)/\W.cell? ⟨b,o + 4 + 2,none⟩=some (.string m1)/\W.cell? ⟨b,o + 4 + 3,none⟩=some (.slice a1 l1 p1)) 6 (by kernel_rfl) ?_;refine tk 0 ⟨⟨e0,e1⟩,x3,u0,u1,u2,u3⟩ ?_;refine tk 1 ⟨⟨e0,e1⟩,x3,u0,u1,u2,u3⟩ ?_;refine tk 2 ⟨⟨e0,e1⟩,x3,u0,u1,u2,u3⟩ ?_;refine tk 3 ⟨⟨e0,e1⟩,x3,u0,u1,u2,u3⟩ ?_;refine tk 4 ⟨⟨e0,e1⟩,x3,u0,u1,u2,u3⟩ ?_;refine t19 5 (fun K' hK=>?_);go_simp;go_at_call 32;(with_reducible refine (RvC.run HCB.o _ ST0.o.below.drew).mono ?_);rintro y w2 ⟨hy,b1⟩;have hd := (Below.refl W0.heap.size W0).drew;have b2 := hd.trans (b1.mono hd.size);replace e0 := cu9 e0 b2;replace e1 := cu9 e1 b2;replace x3 := cu9 x3 b2;replace u0 := cu9 u0 b2;replace u1 := cu9 u1 b2;replace u2 := cu9 u2 b2;replace u3 := cu9 u3 b2;unfold RetW at hy;subst hy;have HP : Hid (RetW R (.returned (.agg #[.string (wd R),.int .i64 R.N]))) := rfl;have ST2 := LH9 (ST0.o.up b2);clear b1 b2 hd HCA HCB HCC HR;refine hK _ _ ⟨⟨e0,e1⟩,x3,u0,u1,u2,u3⟩ ?_;clear hK K' e0 e1 x3 u0 u1 u2 u3;generalize wd R=rk at *;generalize R.N=rn at *
     try simp only [Act.put,zp1,zp2,zp3,zp4,zp5,zp6]
     have HFN : Hid (Below w.heap.size w ((w2.setCell ⟨w.heap.size + 1 + 1,0,none⟩ (.string rk)).setCell ⟨w.heap.size + 1 + 1,1,none⟩ (.int .i64 rn))/\Mem.Blk ((w2.setCell ⟨w.heap.size + 1 + 1,0,none⟩ (.string rk)).setCell ⟨w.heap.size + 1 + 1,1,none⟩ (.int .i64 rn)) (w.heap.size + 1 + 1) 97 #[.string rk,.int .i64 rn]) := ⟨(ST2.o.below.setCell (by show w.heap.size<=w.heap.size + 1 + 1; omega) _).setCell (by show w.heap.size<=w.heap.size + 1 + 1; omega) _,(ST2.o.res.set_ 0 _).set_ 1 _⟩;obtain ⟨q0,q1,q2,q3⟩ := ST2.o.res.two;have hm := ST2.o.lt;exact Z7_25
   | false =>
     obtain rfl : R=C := HR.o;have t0 : W0.cell? ⟨g,0,none⟩=some (.string ⟨#[102]⟩) := VA.o.blk.cell 0;have t1 : W0.cell? ⟨g,1,none⟩=some (.int .i64 0) := VA.o.blk.cell 1;have e0 : W0.cell? ⟨w.heap.size + 1,0,none⟩=some (.int .i64 day) := ST0.o.env.cell 0;have e1 : W0.cell? ⟨w.heap.size + 1,1,none⟩=some (.slice a len cap) := ST0.o.env.cell 1;obtain ⟨x0,x1,x2,x3,-,-,-,-⟩ := blk4 ST0.o.ex;go_wp2_with fail;clear e0 e1 x0 x1 x2 x3 t0 t1;have e0 : W0.cell? ⟨w.heap.size + 1,0,none⟩=some (.int .i64 day) := ST0.o.env.cell 0;have e1 : W0.cell? ⟨w.heap.size + 1,1,none⟩=some (.slice a len cap) := ST0.o.env.cell 1;have x3 : W0.cell? ⟨w.heap.size,3,none⟩=some (.slice (some ⟨b,o,none⟩) 3 cap') := ST0.o.ex.cell 3;obtain ⟨u0,u1,u2,u3⟩ := H2.o;replace u0 := cu9 u0 ST0.o.below;replace u1 := cu9 u1 ST0.o.below;replace u2 := cu9 u2 ST0.o.below;replace u3 := cu9 u3 ST0.o.below;refine wp_region_till (S := fun W => (W.cell? ⟨w.heap.size + 1,0,none⟩=some (.int .i64 day)/\W.cell? ⟨w.heap.size + 1,1,none⟩=some (.slice a len cap))/\W.cell? ⟨w.heap.size,3,none⟩=some (.slice (some ⟨b,o,none⟩) 3 cap')/\W.cell? ⟨b,o + 8,none⟩=some (.int .i64 o2)/\W.cell? ⟨b,o + 8 + 1,none⟩=some (.int .i64 n2)/\W.cell? ⟨b,o + 8 + 2,none⟩=some (.string m2)/\W.cell? ⟨b,o + 8 + 3,none⟩=some (.slice a2 l2 p2)) 6 (by kernel_rfl) ?_;refine tk 0 ⟨⟨e0,e1⟩,x3,u0,u1,u2,u3⟩ ?_;refine tk 1 ⟨⟨e0,e1⟩,x3,u0,u1,u2,u3⟩ ?_;refine tk 2 ⟨⟨e0,e1⟩,x3,u0,u1,u2,u3⟩ ?_;refine tk 3 ⟨⟨e0,e1⟩,x3,u0,u1,u2,u3⟩ ?_;refine tk 4 ⟨⟨e0,e1⟩,x3,u0,u1,u2,u3⟩ ?_;refine t19 5 (fun K' hK=>?_);go_simp;go_at_call 32;(with_reducible refine (RvC.run HCC.o _ ST0.o.below.drew).mono ?_);rintro y w2 ⟨hy,b1⟩;have hd := (Below.refl W0.heap.size W0).drew;have b2 := hd.trans (b1.mono hd.size);replace e0 := cu9 e0 b2;replace e1 := cu9 e1 b2;replace x3 := cu9 x3 b2;replace u0 := cu9 u0 b2;replace u1 := cu9 u1 b2;replace u2 := cu9 u2 b2;replace u3 := cu9 u3 b2;unfold RetW at hy;subst hy;have HP : Hid (RetW R (.returned (.agg #[.string (wd R),.int .i64 R.N]))) := rfl;have ST2 := LH9 (ST0.o.up b2);clear b1 b2 hd HCA HCB HCC HR;refine hK _ _ ⟨⟨e0,e1⟩,x3,u0,u1,u2,u3⟩ ?_;clear hK K' e0 e1 x3 u0 u1 u2 u3;generalize wd R=rk at *;generalize R.N=rn at *
     try simp only [Act.put,zp1,zp2,zp3,zp4,zp5,zp6]
     have HFN : Hid (Below w.heap.size w ((w2.setCell ⟨w.heap.size + 1 + 1,0,none⟩ (.string rk)).setCell ⟨w.heap.size + 1 + 1,1,none⟩ (.int .i64 rn))/\Mem.Blk ((w2.setCell ⟨w.heap.size + 1 + 1,0,none⟩ (.string rk)).setCell ⟨w.heap.size + 1 + 1,1,none⟩ (.int .i64 rn)) (w.heap.size + 1 + 1) 97 #[.string rk,.int .i64 rn]) := ⟨(ST2.o.below.setCell (by show w.heap.size<=w.heap.size + 1 + 1; omega) _).setCell (by show w.heap.size<=w.heap.size + 1 + 1; omega) _,(ST2.o.res.set_ 0 _).set_ 1 _⟩;obtain ⟨q0,q1,q2,q3⟩ := ST2.o.res.two;have hm := ST2.o.lt;exact Z7_25
end
end Go.Proofs.YtmiinmndbkdjbaaGreat
