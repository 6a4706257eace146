/- A part of the proof: LiK, LiF, LiG, LiH, one behind another. -/
import Derived.Test.YtmiinmndbkdjbaaGreatMEA
import Derived.Test.YtmiinmndbkdjbaaGreatMEC
import Derived.Test.YtmiinmndbkdjbaaGreatMEK
import Derived.Test.YtmiinmndbkdjbaaGreatMEM
import Derived.Lib.Hide
import Derived.WalkKit
set_option maxRecDepth 100000
set_option maxHeartbeats 16000000
set_option linter.unusedVariables false
set_option linter.unusedSimpArgs false
namespace Go.Proofs.YtmiinmndbkdjbaaGreat
open Go.RowKit
section
theorem cloneEo_any (l : List Ex) (X : List Nat) (a : Option Addr) (len cap : Nat) (w : World) (hS : SlR exK w X l a len cap) (hX : ∀ b ∈ X,b < w.heap.size) (hb : len<=1000000) :
 Calls Tryz.prog 54 #[.slice a len cap] w fun e w' => (∃ v,e=.returned v/\∃ csl,Grow exK 74 w.heap.size w' X l v csl)/\Below w.heap.size w w' := by
 obtain ⟨f1,f2,f3⟩ := hS.facts;have HXX := LH9 hX
 cases a with
 | none =>
   have h0 : len=0 := by
    rcases Nat.eq_zero_or_pos len with h | h
    . exact h
    . obtain ⟨b,o,x,cs,ha,-⟩ := hS.at 0 h; cases ha
   subst h0;have hl : l=[] := List.length_eq_zero_iff.1 f1;subst hl;clear hS hX f1;have hnil : ∀ W,(binOp .eql 29 (.slice none 0 cap) (.slice none 0 0)).run Tryz.prog W=.ok (.bool true) W := fun W => Lib.run_eql_slice_nil W _ _ none 0 cap 0 0 Tryz.underlying29
   go_enter Tryz.func54,Tryz.ntmps54
   go_wp2
   go_ret;exact ⟨⟨_,rfl,[],Grow.start exK 74 (Nat.le_refl _) HXX.o⟩,Below.refl _ _⟩
 | some ad =>
   obtain ⟨vs,h1,h2,h3⟩ := hS;have h3' : Sl w X 4 (some ad) len cap vs := h3;have HL := LH9 (flat_len 4 vs h3'.len4);have H1 := LH9 h1;have H2 := LH9 h2;have HO : Hid (∀ u ∈ vs.flatten,u.oneCell'=true) := flat_one (fun c hc => by
    obtain ⟨i,hi,rfl⟩ := List.getElem_of_mem hc;exact (exK.one (h2 i _ _ (List.getElem?_eq_getElem (by omega)) (List.getElem?_eq_getElem hi))).2)
   have hvl : vs.length=len := h3.1;have HVL := LH9 hvl;have HLN := LH9 f1;have HN := LH9 (Mem.Own.lit (e := 74) (size := 4) (Below.refl w.heap.size w) #[] 0 (by decide) rfl);have HCL : Hid (∀ j u,vs.flatten[j]?=some u->(w.alloc (.cells #[] 74)).cell? (ad.add j)=some u) := by
    exact Z7_99
   clear h3 h3' h2 h1 hX f1 hvl;have hnil : ∀ W,(binOp .eql 29 (.slice (some ad) len cap) (.slice none 0 0)).run Tryz.prog W=.ok (.bool false) W := fun W => Lib.run_eql_slice_nil W _ _ (some ad) len cap 0 0 Tryz.underlying29
   go_enter Tryz.func54,Tryz.ntmps54
   go_wp2_with (at_builtin; refine Mem.ap infoE Tryz.underlying29 rfl (by decide) rfl (.tmp 5) (.tmp 6) rfl rfl HN.o ad len cap vs.flatten rfl (by rw [HL.o,HVL.o]) HCL.o HO.o (by unfold maxLen; omega) (by omega) ?_; intro v' w' o' g' _ _; rw [Nat.zero_add] at o');obtain ⟨a2,cap2,rfl⟩ := own_slice o'.own;have HG : Hid (Grow exK 74 w.heap.size w' X l (.slice a2 len cap2) vs) := by
    have hlt : ∀ {g : Nat},(Value.slice a2 len cap2).ownBlock=some g->w.heap.size<=g := fun hg => (own_lt o'.own hg).1
    have e1 : ([] : List Value) ++ vs.flatten=vs.flatten := rfl;refine ⟨by rw [HLN.o]; exact o'.own,o'.below.size,fun g hg hm => by have := hlt hg; have := HXX.o g hm; omega,fun b hb => Nat.lt_of_lt_of_le (HXX.o b hb) o'.below.size,H1.o,fun i x cs hx hc => ?_⟩;have hR := H2.o i x cs hx hc;have hR2 : exK.R w (busy (.slice a2 len cap2) X) x cs := exK.less hR (fun b hb hm => by
     rcases busy_mem.1 hm with h1 | h1
     . have := hlt h1; omega
     . exact h1)
    exact exK.kept hR2 (Kept.of_below o'.below _)
   have B := LH9 o'.below;clear o' g'
   go_wp2
   go_ret;exact ⟨⟨_,rfl,vs,HG.o⟩,B.o⟩
end
section
theorem Grow.lower {α : Type} {K : Elt α} {e : TypeId} {base base' : Nat} {w : World} {X : List Nat} {l : List α} {v : Value} {csl : List (List Value)} (h : Grow K e base w X l v csl) (hb : base'<=base) : Grow K e base' w X l v csl :=
 ⟨⟨h.own.1,h.own.2.imp id (fun ⟨g,cap,cur,h1,h2,h3⟩ => ⟨g,cap,cur,h1,Nat.le_trans hb h2,h3⟩)⟩,Nat.le_trans hb h.room,h.apart,h.lt,h.count,h.elts⟩
section
variable (base rb : Nat) (day : Int) (fx : List Fx) (fa : Option Addr) (fl fc : Nat) (t : Te) (f : Int) (tn : Bool) (un : List Ex) (s : RS) (vP vF : Value) (ua : Option Addr) (uc : Nat) (cs : List Value) (w : World)
variable (hd : I64 day) (hf : I64 f) (hJ : RunJ base rb day fx fa fl fc w s vP vF) (hT : RepT w (X3 rb vP vF) t cs) (hU : SlR exK w (X3 rb vP vF) un ua un.length uc) (hb : bT t=true) (hbad : s.bad=false) (hk : un.length + t.rk<=1000) (hP : s.ps.length + t.nd<=100000) (hF : s.fs.length + t.nd<=100000)
include hd hf hJ hT hU hb hbad hk hP hF
theorem acq8k_any (hop : t.op=8) (hK : evalX day fx (x0 t)=.brk) :
 Calls Tryz.prog 27 #[.pointer (some ⟨rb,0,none⟩),.agg (.int .i64 f :: .bool tn :: .slice ua un.length uc :: cs).toArray] w fun x w' => x=.returned (.tuple #[])/\∃ vP' vF',RunTo base rb day fx fa fl fc w w' vP vF (acq day fx t f tn un s) vP' vF' := by
 have HRES := LH9 (acq8k (day := day) (fx := fx) (f := f) (tn := tn) (un := un) hb hbad hop (by rw [hK]; rfl));have ho : orB s (evalX day fx (x0 t))={ s with bad := true } := by rw [hK]; unfold orB; rw [hbad]; rfl
 have hv : (evalX day fx (x0 t)).B=false := by rw [hK]; rfl
 have hxe : t.exprs=[x0 t] := (te_kids hb).2.2.1 (by omega);have hxk : (x0 t).rk<=1000 := by have := rk_kidX (t := t) (e := x0 t) (by rw [hxe]; exact List.mem_cons_self ..); omega
 have HTR : Hid (∀ (W : World) (cs' : List Value),RunJ base rb day fx fa fl fc W s vP vF->RepE W (X3 rb vP vF) (x0 t) cs'->Calls Tryz.prog 53 #[.pointer (some ⟨rb,0,none⟩),.agg cs'.toArray] W fun x w' => x=.returned (.bool false)/\RunTo base rb day fx fa fl fc W w' vP vF { s with bad := true } vP vF/\Fr [rb] W w') := fun W cs' h1 h2 => by
  exact Z7_121
 clear ho hv hxk;obtain ⟨op,nm,exprs,terms,xa,xl,xc,ta,tl,tc,e1,e2,-,hnm,hX,hL⟩ := hT.inv;have hoe : op=t.op := by rw [e1]; rfl
 have hne : nm=t.nm := by rw [e1]; rfl
 have hxe : exprs=t.exprs := by rw [e1]; rfl
 have hte : terms=t.terms := by rw [e1]; rfl
 have HPT : Hid (ptK.R w (X3 rb vP vF) ⟨f,tn,un,t⟩ (.int .i64 f :: .bool tn :: .slice ua un.length uc :: cs)) := ⟨ua,uc,cs,rfl,hf,hU,hT⟩;subst e2;rw [hxe] at hX;rw [hte] at hL;clear e1 hxe hte;obtain rfl : op=8 := hoe.trans hop;have HT := LH9 hT;have HU := LH9 hU;have HX := LH9 hX;have HL := LH9 hL;have HJ := LH9 hJ;have HSM := LH9 (And.intro hk (And.intro hP hF));have HFI := LH9 hf;have HBT := LH9 hb;have HNM := LH9 hnm;have HDY := LH9 hd;have HOP := LH9 hop;have HNE := LH9 hne;have HBD := LH9 hbad;have HRB : Hid (rb < w.heap.size) := hJ.lt rb (by unfold X3; simp);obtain ⟨S9,hS9⟩ : ∃ S9,S9=acq day fx t f tn un s := ⟨_,rfl⟩;rw [<- hS9];have HSS := LH9 hS9;have HS1 := LH9 (hJ.sep.new 88 #[.int .i64 f,.bool tn,.slice ua un.length uc,.int .i64 8,.string nm,.slice xa xl xc,.slice ta tl tc]);have HS2 := LH9 (HS1.o.new 41 #[.int .i64 8,.string nm,.slice xa xl xc,.slice ta tl tc]);have HN1 := LH9 (below_nT w (.cells #[.int .i64 f,.bool tn,.slice ua un.length uc,.int .i64 8,.string nm,.slice xa xl xc,.slice ta tl tc] 88));have HN2 := LH9 (HN1.o.trans ((below_nT (w.alloc (.cells #[.int .i64 f,.bool tn,.slice ua un.length uc,.int .i64 8,.string nm,.slice xa xl xc,.slice ta tl tc] 88)) (.cells #[.int .i64 8,.string nm,.slice xa xl xc,.slice ta tl tc] 41)).mono HN1.o.size));have HSZ : Hid ((w.alloc (.cells #[.int .i64 f,.bool tn,.slice ua un.length uc,.int .i64 8,.string nm,.slice xa xl xc,.slice ta tl tc] 88)).heap.size=w.heap.size + 1) := by show _=_; simp
 clear hT hU hX hL hJ hk hP hF hf hb hnm hd hoe hne hS9 hop hbad
 go_enter Tryz.func27,Tryz.ntmps27
 go_upto_region 1 with (fail);generalize w.alloc (.cells _ 88)=w1 at *;obtain ⟨c0,c1,c2,c3,c4,c5,c6⟩ := blk7 (HS1.o.blk 0 rfl);go_upto_region 2 with (fail);generalize w1.alloc (.cells _ 41)=w2 at *;generalize w1.heap.size=g1 at *;clear c0 c1 c2 c3 c4 c5 c6;have HG1 : Hid (w.heap.size < g1) := by have := HSZ.o; show _ < _; omega
 have q4 : w2.cell? ⟨rb,4,none⟩=some (.bool s.bad) := (HS2.o.blk 4 rfl).cell 4;rw [HBD.o] at q4;have y0 : w2.cell? ⟨g1,0,none⟩=some (.int .i64 8) := (HS2.o.blk 0 rfl).cell 0;obtain ⟨rfl,b,o,xo,xn,xs,aa,al,ac,rfl,hbX,hRX,u0,u1,u2,u3⟩ := ex_one HX.o hxe;have HRX := LH9 hRX;have HBX : Hid (b ∉ X3 rb vP vF) := hbX;have HUS : Hid (w.cell? ⟨b,o,none⟩=some (.int .i64 xo)/\w.cell? ⟨b,o + 1,none⟩=some (.int .i64 xn)/\w.cell? ⟨b,o + 2,none⟩=some (.string xs)/\w.cell? ⟨b,o + 3,none⟩=some (.slice aa al ac)) := ⟨u0,u1,u2,u3⟩;replace u0 := cellT u0 HN2.o;replace u1 := cellT u1 HN2.o;replace u2 := cellT u2 HN2.o;replace u3 := cellT u3 HN2.o;have HJ2 := LH9 (HJ.o.below HN2.o);have s2 : w2.cell? ⟨g1,2,none⟩=some (.slice (some ⟨b,o,none⟩) 1 xc) := (HS2.o.blk 0 rfl).cell 2;clear hRX hbX hxe;go_upto_region 14 with (fail);go_wp2_with fail;go_at_call 53;have hR2 : RepE w2 (X3 rb vP vF) (x0 t) [.int .i64 xo,.int .i64 xn,.string xs,.slice aa al ac] := HJ2.o.rep (K := exK) (x := x0 t) HRX.o;(with_reducible refine (HTR.o w2 _ HJ2.o.run hR2).mono ?_);rintro y w3 ⟨rfl,ht,hfr⟩;have HJ3 := LH9 (HJ2.o.trans ht);have HFR := LH9 hfr;clear ht hfr hR2 u0 u1 u2 u3 s2 q4 y0 HTR;have q4 : w3.cell? ⟨rb,4,none⟩=some (.bool true) := HJ3.o.run.cells.cell 4;exact Z7_139
theorem acq8e_any (hop : t.op=8) (hK : evalX day fx (x0 t)=.tru true) :
 Calls Tryz.prog 27 #[.pointer (some ⟨rb,0,none⟩),.agg (.int .i64 f :: .bool tn :: .slice ua un.length uc :: cs).toArray] w fun x w' => x=.returned (.tuple #[])/\∃ vP' vF',RunTo base rb day fx fa fl fc w w' vP vF (acq day fx t f tn un s) vP' vF' := by
 have HRES := LH9 (acq8e (day := day) (fx := fx) (f := f) (tn := tn) (un := un) hb hbad hop (by rw [hK]; show (2 : Int) ≠ 3; omega) (by rw [hK]; rfl));have ho : orB s (evalX day fx (x0 t))=s := by rw [hK]; unfold orB; rw [show decide ((Vl.tru true).K=3)=false from rfl,Bool.or_false]
 have hv : (evalX day fx (x0 t)).B=true := by rw [hK]; rfl
 have hxe : t.exprs=[x0 t] := (te_kids hb).2.2.1 (by omega);have hxk : (x0 t).rk<=1000 := by have := rk_kidX (t := t) (e := x0 t) (by rw [hxe]; exact List.mem_cons_self ..); omega
 have HTR : Hid (∀ (W : World) (cs' : List Value),RunJ base rb day fx fa fl fc W s vP vF->RepE W (X3 rb vP vF) (x0 t) cs'->Calls Tryz.prog 53 #[.pointer (some ⟨rb,0,none⟩),.agg cs'.toArray] W fun x w' => x=.returned (.bool true)/\RunTo base rb day fx fa fl fc W w' vP vF s vP vF/\Fr [rb] W w') := fun W cs' h1 h2 => by
  exact Z7_121
 clear ho hv hxk;obtain ⟨op,nm,exprs,terms,xa,xl,xc,ta,tl,tc,e1,e2,-,hnm,hX,hL⟩ := hT.inv;have hoe : op=t.op := by rw [e1]; rfl
 have hne : nm=t.nm := by rw [e1]; rfl
 have hxe : exprs=t.exprs := by rw [e1]; rfl
 have hte : terms=t.terms := by rw [e1]; rfl
 have HPT : Hid (ptK.R w (X3 rb vP vF) ⟨f,tn,un,t⟩ (.int .i64 f :: .bool tn :: .slice ua un.length uc :: cs)) := ⟨ua,uc,cs,rfl,hf,hU,hT⟩;subst e2;rw [hxe] at hX;rw [hte] at hL;clear e1 hxe hte;obtain rfl : op=8 := hoe.trans hop;have HT := LH9 hT;have HU := LH9 hU;have HX := LH9 hX;have HL := LH9 hL;have HJ := LH9 hJ;have HSM := LH9 (And.intro hk (And.intro hP hF));have HFI := LH9 hf;have HBT := LH9 hb;have HNM := LH9 hnm;have HDY := LH9 hd;have HOP := LH9 hop;have HNE := LH9 hne;have HBD := LH9 hbad;have HRB : Hid (rb < w.heap.size) := hJ.lt rb (by unfold X3; simp);obtain ⟨S9,hS9⟩ : ∃ S9,S9=acq day fx t f tn un s := ⟨_,rfl⟩;rw [<- hS9];have HSS := LH9 hS9;have HS1 := LH9 (hJ.sep.new 88 #[.int .i64 f,.bool tn,.slice ua un.length uc,.int .i64 8,.string nm,.slice xa xl xc,.slice ta tl tc]);have HS2 := LH9 (HS1.o.new 41 #[.int .i64 8,.string nm,.slice xa xl xc,.slice ta tl tc]);have HN1 := LH9 (below_nT w (.cells #[.int .i64 f,.bool tn,.slice ua un.length uc,.int .i64 8,.string nm,.slice xa xl xc,.slice ta tl tc] 88));have HN2 := LH9 (HN1.o.trans ((below_nT (w.alloc (.cells #[.int .i64 f,.bool tn,.slice ua un.length uc,.int .i64 8,.string nm,.slice xa xl xc,.slice ta tl tc] 88)) (.cells #[.int .i64 8,.string nm,.slice xa xl xc,.slice ta tl tc] 41)).mono HN1.o.size));have HSZ : Hid ((w.alloc (.cells #[.int .i64 f,.bool tn,.slice ua un.length uc,.int .i64 8,.string nm,.slice xa xl xc,.slice ta tl tc] 88)).heap.size=w.heap.size + 1) := by show _=_; simp
 clear hT hU hX hL hJ hk hP hF hf hb hnm hd hoe hne hS9 hop hbad
 go_enter Tryz.func27,Tryz.ntmps27
 go_upto_region 1 with (fail);generalize w.alloc (.cells _ 88)=w1 at *;obtain ⟨c0,c1,c2,c3,c4,c5,c6⟩ := blk7 (HS1.o.blk 0 rfl);go_upto_region 2 with (fail);generalize w1.alloc (.cells _ 41)=w2 at *;generalize w1.heap.size=g1 at *;clear c0 c1 c2 c3 c4 c5 c6;have HG1 : Hid (w.heap.size < g1) := by have := HSZ.o; show _ < _; omega
 have q4 : w2.cell? ⟨rb,4,none⟩=some (.bool s.bad) := (HS2.o.blk 4 rfl).cell 4;rw [HBD.o] at q4;have y0 : w2.cell? ⟨g1,0,none⟩=some (.int .i64 8) := (HS2.o.blk 0 rfl).cell 0;obtain ⟨rfl,b,o,xo,xn,xs,aa,al,ac,rfl,hbX,hRX,u0,u1,u2,u3⟩ := ex_one HX.o hxe;have HRX := LH9 hRX;have HBX : Hid (b ∉ X3 rb vP vF) := hbX;have HUS : Hid (w.cell? ⟨b,o,none⟩=some (.int .i64 xo)/\w.cell? ⟨b,o + 1,none⟩=some (.int .i64 xn)/\w.cell? ⟨b,o + 2,none⟩=some (.string xs)/\w.cell? ⟨b,o + 3,none⟩=some (.slice aa al ac)) := ⟨u0,u1,u2,u3⟩;replace u0 := cellT u0 HN2.o;replace u1 := cellT u1 HN2.o;replace u2 := cellT u2 HN2.o;replace u3 := cellT u3 HN2.o;have HJ2 := LH9 (HJ.o.below HN2.o);have s2 : w2.cell? ⟨g1,2,none⟩=some (.slice (some ⟨b,o,none⟩) 1 xc) := (HS2.o.blk 0 rfl).cell 2;clear hRX hbX hxe;go_upto_region 14 with (fail);go_wp2_with fail;go_at_call 53;have hR2 : RepE w2 (X3 rb vP vF) (x0 t) [.int .i64 xo,.int .i64 xn,.string xs,.slice aa al ac] := HJ2.o.rep (K := exK) (x := x0 t) HRX.o;(with_reducible refine (HTR.o w2 _ HJ2.o.run hR2).mono ?_);rintro y w3 ⟨rfl,ht,hfr⟩;have HJ3 := LH9 (HJ2.o.trans ht);have HFR := LH9 hfr;clear ht hfr hR2 u0 u1 u2 u3 s2 q4 y0 HTR;exact Z7_139
theorem acq8_any (hop : t.op=8) (hK : (evalX day fx (x0 t)).K ≠ 3) (hB : (evalX day fx (x0 t)).B=false) (IH : AcqC base rb day fx fa fl fc (t0 t)) :
 Calls Tryz.prog 27 #[.pointer (some ⟨rb,0,none⟩),.agg (.int .i64 f :: .bool tn :: .slice ua un.length uc :: cs).toArray] w fun x w' => x=.returned (.tuple #[])/\∃ vP' vF',RunTo base rb day fx fa fl fc w w' vP vF (acq day fx t f tn un s) vP' vF' := by
 have HRES := LH9 (acq8 (day := day) (fx := fx) (f := f) (tn := tn) (un := un) hb hbad hop hK hB);have ho : orB s (evalX day fx (x0 t))=s := by unfold orB; rw [decide_eq_false hK,Bool.or_false]
 have hv : (evalX day fx (x0 t)).B=false := hB;have HIH := LH9 IH;clear hK hB IH;have HKD : Hid ((t0 t).rk + 1<=t.rk/\(t0 t).nd + 1<=t.nd) := kid0_bd hb (.inr (.inr hop));have hte : t.terms[0]?=some (t0 t) := kid0_at hb (.inr (.inr hop));have hxe : t.exprs=[x0 t] := (te_kids hb).2.2.1 (by omega);have hxk : (x0 t).rk<=1000 := by have := rk_kidX (t := t) (e := x0 t) (by rw [hxe]; exact List.mem_cons_self ..); omega
 have HTR : Hid (∀ (W : World) (cs' : List Value),RunJ base rb day fx fa fl fc W s vP vF->RepE W (X3 rb vP vF) (x0 t) cs'->Calls Tryz.prog 53 #[.pointer (some ⟨rb,0,none⟩),.agg cs'.toArray] W fun x w' => x=.returned (.bool false)/\RunTo base rb day fx fa fl fc W w' vP vF s vP vF/\Fr [rb] W w') := fun W cs' h1 h2 => by
  exact Z7_121
 clear ho hv hxk;obtain ⟨op,nm,exprs,terms,xa,xl,xc,ta,tl,tc,e1,e2,-,hnm,hX,hL⟩ := hT.inv;have hoe : op=t.op := by rw [e1]; rfl
 have hne : nm=t.nm := by rw [e1]; rfl
 have hxe : exprs=t.exprs := by rw [e1]; rfl
 have hte : terms=t.terms := by rw [e1]; rfl
 have HPT : Hid (ptK.R w (X3 rb vP vF) ⟨f,tn,un,t⟩ (.int .i64 f :: .bool tn :: .slice ua un.length uc :: cs)) := ⟨ua,uc,cs,rfl,hf,hU,hT⟩;subst e2;rw [hxe] at hX;rw [hte] at hL;clear e1 hxe hte;obtain rfl : op=8 := hoe.trans hop;have HT := LH9 hT;have HU := LH9 hU;have HX := LH9 hX;have HL := LH9 hL;have HJ := LH9 hJ;have HSM := LH9 (And.intro hk (And.intro hP hF));have HFI := LH9 hf;have HBT := LH9 hb;have HNM := LH9 hnm;have HDY := LH9 hd;have HOP := LH9 hop;have HNE := LH9 hne;have HBD := LH9 hbad;have HRB : Hid (rb < w.heap.size) := hJ.lt rb (by unfold X3; simp);obtain ⟨S9,hS9⟩ : ∃ S9,S9=acq day fx t f tn un s := ⟨_,rfl⟩;rw [<- hS9];have HSS := LH9 hS9;have HS1 := LH9 (hJ.sep.new 88 #[.int .i64 f,.bool tn,.slice ua un.length uc,.int .i64 8,.string nm,.slice xa xl xc,.slice ta tl tc]);have HS2 := LH9 (HS1.o.new 41 #[.int .i64 8,.string nm,.slice xa xl xc,.slice ta tl tc]);have HN1 := LH9 (below_nT w (.cells #[.int .i64 f,.bool tn,.slice ua un.length uc,.int .i64 8,.string nm,.slice xa xl xc,.slice ta tl tc] 88));have HN2 := LH9 (HN1.o.trans ((below_nT (w.alloc (.cells #[.int .i64 f,.bool tn,.slice ua un.length uc,.int .i64 8,.string nm,.slice xa xl xc,.slice ta tl tc] 88)) (.cells #[.int .i64 8,.string nm,.slice xa xl xc,.slice ta tl tc] 41)).mono HN1.o.size));have HSZ : Hid ((w.alloc (.cells #[.int .i64 f,.bool tn,.slice ua un.length uc,.int .i64 8,.string nm,.slice xa xl xc,.slice ta tl tc] 88)).heap.size=w.heap.size + 1) := by show _=_; simp
 clear hT hU hX hL hJ hk hP hF hf hb hnm hd hoe hne hS9 hop hbad
 go_enter Tryz.func27,Tryz.ntmps27
 go_upto_region 1 with (fail);generalize w.alloc (.cells _ 88)=w1 at *;obtain ⟨c0,c1,c2,c3,c4,c5,c6⟩ := blk7 (HS1.o.blk 0 rfl);go_upto_region 2 with (fail);generalize w1.alloc (.cells _ 41)=w2 at *;generalize w1.heap.size=g1 at *;clear c0 c1 c2 c3 c4 c5 c6;have HG1 : Hid (w.heap.size < g1) := by have := HSZ.o; show _ < _; omega
 have q4 : w2.cell? ⟨rb,4,none⟩=some (.bool s.bad) := (HS2.o.blk 4 rfl).cell 4;rw [HBD.o] at q4;have y0 : w2.cell? ⟨g1,0,none⟩=some (.int .i64 8) := (HS2.o.blk 0 rfl).cell 0;obtain ⟨rfl,b,o,xo,xn,xs,aa,al,ac,rfl,hbX,hRX,u0,u1,u2,u3⟩ := ex_one HX.o hxe;have HRX := LH9 hRX;have HBX : Hid (b ∉ X3 rb vP vF) := hbX;have HUS : Hid (w.cell? ⟨b,o,none⟩=some (.int .i64 xo)/\w.cell? ⟨b,o + 1,none⟩=some (.int .i64 xn)/\w.cell? ⟨b,o + 2,none⟩=some (.string xs)/\w.cell? ⟨b,o + 3,none⟩=some (.slice aa al ac)) := ⟨u0,u1,u2,u3⟩;replace u0 := cellT u0 HN2.o;replace u1 := cellT u1 HN2.o;replace u2 := cellT u2 HN2.o;replace u3 := cellT u3 HN2.o;have HJ2 := LH9 (HJ.o.below HN2.o);have s2 : w2.cell? ⟨g1,2,none⟩=some (.slice (some ⟨b,o,none⟩) 1 xc) := (HS2.o.blk 0 rfl).cell 2;clear hRX hbX hxe;go_upto_region 14 with (fail);go_wp2_with fail;go_at_call 53;have hR2 : RepE w2 (X3 rb vP vF) (x0 t) [.int .i64 xo,.int .i64 xn,.string xs,.slice aa al ac] := HJ2.o.rep (K := exK) (x := x0 t) HRX.o;(with_reducible refine (HTR.o w2 _ HJ2.o.run hR2).mono ?_);rintro y w3 ⟨rfl,ht,hfr⟩;have HJ3 := LH9 (HJ2.o.trans ht);have HFR := LH9 hfr;clear ht hfr hR2 u0 u1 u2 u3 s2 q4 y0 HTR;obtain ⟨htl,tb,hto,q1,q2,q3,q4',q5,q6,q7,q8,rfl,htX,hRT,v0,v1,v2,v3⟩ := te_one HL.o hte;rw [Nat.zero_mul,Nat.add_zero] at v0 v1 v2 v3;have HW : Hid (w.cell? ⟨tb,hto,none⟩=some (.int .i64 q1)/\w.cell? ⟨tb,hto + 1,none⟩=some (.string q2)/\w.cell? ⟨tb,hto + 2,none⟩=some (.slice q3 q4' q5)/\w.cell? ⟨tb,hto + 3,none⟩=some (.slice q6 q7 q8)) := ⟨v0,v1,v2,v3⟩;have HRT := LH9 hRT;have HNX : Hid (tb ∉ X3 rb vP vF) := htX;have HLT := LH9 htl;clear htl htX hRT v0 v1 v2 v3 hte;have HS3 : Hid (Sep w3 (bx g1 41 #[.int .i64 8,.string nm,.slice (some ⟨b,o,none⟩) 1 xc,.slice (some ⟨tb,hto,none⟩) tl tc] :: bx w.heap.size 88 #[.int .i64 f,.bool tn,.slice ua un.length uc,.int .i64 8,.string nm,.slice (some ⟨b,o,none⟩) 1 xc,.slice (some ⟨tb,hto,none⟩) tl tc] :: famR base rb day fx fa fl fc s vP vF)) := by
  have hrb := (HS2.o.at 4 rfl).2;have h4 := HS2.o.set_ (Y := [rb]) 4 rfl HFR.o.kept (fun b hb => .inl hb) (fun b hb => .inl hb) (o' := bx rb 86 #[.int .i64 day,.slice fa fl fc,vP,vF,.bool s.bad]) ⟨HJ3.o.run.cells,hrb⟩;exact h4
 have HR3 : Hid (Fr (X3 rb vP vF) w w3) := HJ3.o.fr;have hK13 : Kept (w.heap.size :: X3 rb vP vF) w w3 := HR3.o.kept.more (fun b hb => List.mem_cons_of_mem _ hb);have HU3 : Hid (SlR exK w3 (w.heap.size :: X3 rb vP vF) un ua un.length uc) := (HU.o.less (fun b hb hm => by
  rcases List.mem_cons.1 hm with h1 | h1
  . omega
  . exact h1)).kept hK13
 have HX3 : Hid (RepE w3 (w.heap.size :: X3 rb vP vF) (x0 t) [.int .i64 xo,.int .i64 xn,.string xs,.slice aa al ac]) := (HRX.o.less (fun b hb hm => by
  rcases List.mem_cons.1 hm with h1 | h1
  . omega
  . exact h1)).kept hK13
 have HXL : Hid (∀ b ∈ w.heap.size :: X3 rb vP vF,b < w3.heap.size) := fun b hb => by
  have h1 := HR3.o.size;have h2 := HN2.o.size;have h3 : w.heap.size < w3.heap.size := by
   have := (HS3.o.blk 1 rfl).lt;exact this
  rcases List.mem_cons.1 hb with h4 | h4
  . omega
  . have := HJ.o.lt b h4; omega
 have HCL := LH9 (fun (W : World) (hW : Below w3.heap.size w3 W) => cloneEo_any un (w.heap.size :: X3 rb vP vF) ua un.length uc W (HU3.o.kept (Kept.of_below hW _)) (fun b hb => Nat.lt_of_lt_of_le (HXL.o b hb) hW.size) (by have := HSM.o; omega));obtain ⟨U9,hU9⟩ : ∃ U,U=un ++ [x0 t] := ⟨_,rfl⟩;have HU9 := LH9 hU9;have HKL : Hid (U9.length + (t0 t).rk<=1000) := by
  have := HSM.o;have := HKD.o;show _<=_;rw [hU9,List.length_append,List.length_singleton]; omega
 clear hU9 hK13;have s2 : w3.cell? ⟨g1,2,none⟩=some (.slice (some ⟨b,o,none⟩) 1 xc) := (HS3.o.blk 0 rfl).cell 2;have c2 : w3.cell? ⟨w.heap.size,2,none⟩=some (.slice ua un.length uc) := (HS3.o.blk 1 rfl).cell 2;obtain ⟨u0,u1,u2,u3⟩ := HUS.o;replace u0 := HR3.o.cell u0 HBX.o;replace u1 := HR3.o.cell u1 HBX.o;replace u2 := HR3.o.cell u2 HBX.o;replace u3 := HR3.o.cell u3 HBX.o;have q4 : w3.cell? ⟨rb,4,none⟩=some (.bool s.bad) := HJ3.o.run.cells.cell 4;rw [HBD.o] at q4;go_upto_region 16 with (fail);clear q4
 go_cut [4] (fun p W7 => ∃ (a9 : Option Addr) (c9 : Nat),p=.pointer (some ⟨g1,0,none⟩)/\Hid (SlR exK W7 (X3 rb vP vF) U9 a9 U9.length c9)/\Hid (Sep W7 (bx g1 41 #[.int .i64 8,.string nm,.slice (some ⟨b,o,none⟩) 1 xc,.slice (some ⟨tb,hto,none⟩) tl tc] :: bx w.heap.size 88 #[.int .i64 f,.bool tn,.slice a9 U9.length c9,.int .i64 8,.string nm,.slice (some ⟨b,o,none⟩) 1 xc,.slice (some ⟨tb,hto,none⟩) tl tc] :: famR base rb day fx fa fl fc s vP vF))/\Hid (Fr (X3 rb vP vF) w W7))
 case first =>
  refine wp_region_till (S := fun W => W.cell? ⟨g1,2,none⟩=some (.slice (some ⟨b,o,none⟩) 1 xc)/\W.cell? ⟨w.heap.size,2,none⟩=some (.slice ua un.length uc)/\W.cell? ⟨b,o,none⟩=some (.int .i64 xo)/\W.cell? ⟨b,o + 1,none⟩=some (.int .i64 xn)/\W.cell? ⟨b,o + 2,none⟩=some (.string xs)/\W.cell? ⟨b,o + 3,none⟩=some (.slice aa al ac)) 8 (by kernel_rfl) ?_;refine tk 0 ⟨s2,c2,u0,u1,u2,u3⟩ ?_;refine tk 1 ⟨s2,c2,u0,u1,u2,u3⟩ ?_;refine tk 3 ⟨s2,c2,u0,u1,u2,u3⟩ ?_;refine tk 4 ⟨s2,c2,u0,u1,u2,u3⟩ ?_;refine tk 5 ⟨s2,c2,u0,u1,u2,u3⟩ ?_;refine tk 6 ⟨s2,c2,u0,u1,u2,u3⟩ ?_;refine till_two (i := 2) (j := 7) (by kernel_rfl) rfl rfl (fun K' hK => ?_) (fun K' hK => ?_)
  . go_simp;go_at_call 54;have b0 : Below w3.heap.size w3 w3.drew := (Below.refl w3.heap.size w3).drew;(with_reducible refine (HCL.o _ b0).mono ?_);rintro y w4 ⟨⟨v,rfl,csl,hG⟩,b1⟩;have bt : Below w3.heap.size w3 w4 := b0.trans (b1.mono b0.size);replace s2 := cu9 s2 bt;replace c2 := cu9 c2 bt;replace u0 := cu9 u0 bt;replace u1 := cu9 u1 bt;replace u2 := cu9 u2 bt;replace u3 := cu9 u3 bt;have hG4 : Grow exK 74 w3.heap.size w4 (w.heap.size :: X3 rb vP vF) un v csl := hG;have HB4 := LH9 bt;refine hK _ _ ⟨s2,c2,u0,u1,u2,u3⟩ ?_;clear hK K' b0 b1 bt hG
    try simp only [Act.put,zp1,zp2,zp3,zp4,zp5,zp6]
    refine t19 7 (fun K' hK=>?_);go_simp;have bn := below_nT w4 (.cells #[.int .i64 xo,.int .i64 xn,.string xs,.slice aa al ac] 74);have BZ := LH9 (Mem.Blk.new w4 74 #[.int .i64 xo,.int .i64 xn,.string xs,.slice aa al ac]);have HB5 := bt9 HB4 bn;have HG5 := LH9 (hG4.below bn);replace s2 := cu9 s2 bn;replace c2 := cu9 c2 bn;replace u0 := cu9 u0 bn;replace u1 := cu9 u1 bn;replace u2 := cu9 u2 bn;replace u3 := cu9 u3 bn;refine hK _ _ ⟨s2,c2,u0,u1,u2,u3⟩ ?_;clear hK K' bn HB4 hG4 s2 c2 u0 u1 u2 u3;generalize w4.alloc (.cells _ 74)=w5 at *;generalize w4.heap.size=z at *
    exact Z7_34
  . go_simp;have bn : Below w3.heap.size w3 (w3.alloc (.cells #[.int .i64 xo,.int .i64 xn,.string xs,.slice aa al ac] 74)).drew := (below_nT w3 (.cells #[.int .i64 xo,.int .i64 xn,.string xs,.slice aa al ac] 74)).drew;have BZ1 := LH9 (Mem.Blk.new w3 74 #[.int .i64 xo,.int .i64 xn,.string xs,.slice aa al ac]).drew;have HB4 := LH9 bn;replace s2 := cu9 s2 bn;replace c2 := cu9 c2 bn;replace u0 := cu9 u0 bn;replace u1 := cu9 u1 bn;replace u2 := cu9 u2 bn;replace u3 := cu9 u3 bn;refine hK _ _ ⟨s2,c2,u0,u1,u2,u3⟩ ?_;clear hK K' bn;obtain ⟨z,hz⟩ : ∃ z,z=w3.heap.size := ⟨_,rfl⟩;rw [<- hz] at BZ1;rw [show Value.slice (some ⟨w3.heap.size,0,none⟩) 1 1=.slice (some ⟨z,0,none⟩) 1 1 by rw [hz]];clear hz;generalize (w3.alloc (.cells _ 74)).drew=w4 at *
    try simp only [Act.put,zp1,zp2,zp3,zp4,zp5,zp6]
    refine t19 2 (fun K' hK=>?_);go_simp;go_at_call 54;(with_reducible refine (HCL.o _ HB4.o).mono ?_);rintro y w5 ⟨⟨v,rfl,csl,hG⟩,b1⟩;have HB5 := bt9 HB4 b1;have HG4 := LH9 hG;have HZZ := LH9 HB4.o.size;have BZ := LH9 (BZ1.o.below b1);replace s2 := cu9 s2 b1;replace c2 := cu9 c2 b1;replace u0 := cu9 u0 b1;replace u1 := cu9 u1 b1;replace u2 := cu9 u2 b1;replace u3 := cu9 u3 b1;refine hK _ _ ⟨s2,c2,u0,u1,u2,u3⟩ ?_;have HG5 : Hid (Grow exK 74 w3.heap.size w5 (w.heap.size :: X3 rb vP vF) un v csl) := HG4.o.lower HZZ.o;clear hK K' b1 hG HB4 HG4 HZZ BZ1 s2 c2 u0 u1 u2 u3
    exact Z7_34
 obtain ⟨a9,c9,rfl,HUU,HS7,HF7⟩ := hcut;obtain ⟨w7,rfl⟩ : ∃ W : World,W=wc := ⟨_,rfl⟩;clear s2 c2 u0 u1 u2 u3 HCL HS3 HJ3 HR3 HU3 HX3 HXL HFR HS2 HJ2;have BT7 : Hid (Mem.Blk w7 g1 41 #[.int .i64 8,.string nm,.slice (some ⟨b,o,none⟩) 1 xc,.slice (some ⟨tb,hto,none⟩) tl tc]) := HS7.o.blk 0 rfl;have BP7 : Hid (Mem.Blk w7 w.heap.size 88 #[.int .i64 f,.bool tn,.slice a9 U9.length c9,.int .i64 8,.string nm,.slice (some ⟨b,o,none⟩) 1 xc,.slice (some ⟨tb,hto,none⟩) tl tc]) := HS7.o.blk 1 rfl;have HJ7 : Hid (RunTo base rb day fx fa fl fc w w7 vP vF s vP vF) := RunTo.of HJ.o ((HS7.o.drop 0).drop 0) HF7.o;have HSM9 := LH9 (And.intro HKL.o HSM.o);rw [<- HU9.o] at HRES;go_upto_region 17 with (fail);obtain ⟨c0,c1,c2,c3,c4,c5,c6⟩ := blk7 BP7.o;have y3 : w7.cell? ⟨g1,3,none⟩=some (.slice (some ⟨tb,hto,none⟩) tl tc) := BT7.o.cell 3;obtain ⟨v0,v1,v2,v3⟩ := HW.o;replace v0 := HJ7.o.fr.cell v0 HNX.o;replace v1 := HJ7.o.fr.cell v1 HNX.o;replace v2 := HJ7.o.fr.cell v2 HNX.o;replace v3 := HJ7.o.fr.cell v3 HNX.o;have hlt9 : 0 < tl := HLT.o;refine wp_region_till (S := fun W => W.cell? ⟨g1,3,none⟩=some (.slice (some ⟨tb,hto,none⟩) tl tc)/\W.cell? ⟨w.heap.size,0,none⟩=some (.int .i64 f)/\W.cell? ⟨w.heap.size,1,none⟩=some (.bool tn)/\W.cell? ⟨w.heap.size,2,none⟩=some (.slice a9 U9.length c9)/\W.cell? ⟨w.heap.size,3,none⟩=some (.int .i64 8)/\W.cell? ⟨w.heap.size,4,none⟩=some (.string nm)/\W.cell? ⟨w.heap.size,5,none⟩=some (.slice (some ⟨b,o,none⟩) 1 xc)/\W.cell? ⟨w.heap.size,6,none⟩=some (.slice (some ⟨tb,hto,none⟩) tl tc)/\W.cell? ⟨tb,hto,none⟩=some (.int .i64 q1)/\W.cell? ⟨tb,hto + 1,none⟩=some (.string q2)/\W.cell? ⟨tb,hto + 2,none⟩=some (.slice q3 q4' q5)/\W.cell? ⟨tb,hto + 3,none⟩=some (.slice q6 q7 q8)) 7 (by kernel_rfl) ?_;refine tk 0 ⟨y3,c0,c1,c2,c3,c4,c5,c6,v0,v1,v2,v3⟩ ?_;refine tk 1 ⟨y3,c0,c1,c2,c3,c4,c5,c6,v0,v1,v2,v3⟩ ?_;refine tk 2 ⟨y3,c0,c1,c2,c3,c4,c5,c6,v0,v1,v2,v3⟩ ?_;refine tk 3 ⟨y3,c0,c1,c2,c3,c4,c5,c6,v0,v1,v2,v3⟩ ?_;refine tk 4 ⟨y3,c0,c1,c2,c3,c4,c5,c6,v0,v1,v2,v3⟩ ?_;refine tk 5 ⟨y3,c0,c1,c2,c3,c4,c5,c6,v0,v1,v2,v3⟩ ?_;refine t19 6 (fun K' hK=>?_);go_simp;have b0 : Below w7.heap.size w7 w7.drew := (Below.refl w7.heap.size w7).drew;(with_reducible refine (partWith_any _ _ _ _ _ _ _ _ _ _ _ _ _ _ _ _ _ _ _ _ _ _).mono ?_);rintro y w8 ⟨rfl,b1⟩;have bt := b0.trans (b1.mono b0.size);have HJ8 := LH9 (HJ7.o.trans (HJ7.o.run.below bt));have BP8 := LH9 (BP7.o.below bt);have BT8 := LH9 (BT7.o.below bt);refine hK _ _ ⟨cu9 y3 bt,cu9 c0 bt,cu9 c1 bt,cu9 c2 bt,cu9 c3 bt,cu9 c4 bt,cu9 c5 bt,cu9 c6 bt,cu9 v0 bt,cu9 v1 bt,cu9 v2 bt,cu9 v3 bt⟩ ?_;clear hK K' b0 b1 y3 c0 c1 c2 c3 c4 c5 c6 v0 v1 v2 v3 hlt9
 try simp only [Act.put,zp1,zp2,zp3,zp4,zp5,zp6]
 refine tl9 (fun K' hK=>?_);go_simp;have hic := HIH.o;have hrt8 : RepT w8 (X3 rb vP vF) (t0 t) [.int .i64 q1,.string q2,.slice q3 q4' q5,.slice q6 q7 q8] := HJ8.o.rep (K := teK) (x := (t0 t)) HRT.o;have huu8 : SlR exK w8 (X3 rb vP vF) U9 a9 U9.length c9 := (HUU.o.kept (Kept.of_below bt _));unfold AcqC at hic;(with_reducible refine (hic f tn U9 _ vP vF a9 c9 [.int .i64 q1,.string q2,.slice q3 q4' q5,.slice q6 q7 q8] w8 HFI.o HJ8.o.run hrt8 huu8 (by have := HSM9.o; have := HKD.o; omega) (by have := HSM9.o; have := HKD.o; first | omega | (show s.ps.length + _<=_; omega)) (by have := HSM9.o; have := HKD.o; first | omega | (show s.fs.length + _<=_; omega))).mono ?_);rintro y w9 ⟨rfl,vP',vF',hR9⟩;have HR9 := LH9 (HJ8.o.trans hR9);have HR98 := LH9 hR9;clear hic hrt8 huu8;refine hK _ _ ?_;clear hK K' hR9 bt
 try simp only [Act.put,zp1,zp2,zp3,zp4,zp5,zp6]
 refine wd9 ?_;go_wp2_with fail
 go_end0
 exact ⟨rfl,vP',vF',by rw [HSS.o,HRES.o]; exact HR9.o⟩
end
end
section
theorem evalX_cases (day : Int) (fx : List Fx) (e : Ex) : evalX day fx e=.brk\/evalX day fx e=.tru true\/((evalX day fx e).K ≠ 3/\(evalX day fx e).B=false) := by
 cases h : evalX day fx e with
 | unk => exact .inr (.inr ⟨by show (0 : Int) ≠ 3; omega,rfl⟩)
 | num n => exact .inr (.inr ⟨by show (1 : Int) ≠ 3; omega,rfl⟩)
 | tru b =>
   cases b with
   | true => exact .inr (.inl rfl)
   | false => exact .inr (.inr ⟨by show (2 : Int) ≠ 3; omega,rfl⟩)
 | brk => exact .inl rfl
theorem acquire_any (base rb : Nat) (day : Int) (fx : List Fx) (fa : Option Addr) (fl fc : Nat) (hd : I64 day) : ∀ (r : Nat) (t : Te),t.rk<=r->bT t=true->AcqC base rb day fx fa fl fc t := by
 intro r
 induction r with
 | zero =>
   intro t hr;exact Z7_100
 | succ r ih =>
   intro t hr hb f tn un s vP vF ua uc cs w hf hJ hT hU hk hP hF;obtain ⟨k1,k2,-,k4,k5⟩ := te_kids hb;have kid : ∀ u ∈ t.terms,AcqC base rb day fx fa fl fc u := fun u hu => ih u (by have := rk_kid hu; omega) (bT_kid hb hu)
   have m0 : t.op=3\/t.op=4\/t.op=6\/t.op=7\/t.op=8->AcqC base rb day fx fa fl fc (t0 t) := fun h' => kid _ (by
    by_cases h4 : t.op=4
    . rw [k2 (.inl h4)]; exact List.mem_cons_self ..
    . rw [k1 (by omega)]; exact List.mem_cons_self ..)
   cases hbad : s.bad with
   | true => exact acq_bad_any base rb day fx fa fl fc t f tn un s vP vF ua uc cs w hJ hT hbad
   | false =>
     have h9 : t.op=1\/t.op=2\/t.op=3\/t.op=4\/t.op=5\/t.op=6\/t.op=7\/t.op=8\/t.op=9 := by omega
     rcases h9 with h | h | h | h | h | h | h | h | h
     . exact acq1_any base rb day fx fa fl fc t f tn un s vP vF ua uc cs w hd hf hJ hT hU hb hbad hk hP hF h
     . by_cases hz : f=0
       . exact acq2z_any base rb day fx fa fl fc t f tn un s vP vF ua uc cs w hd hf hJ hT hU hb hbad hk hP hF h hz
       . exact acq2_any base rb day fx fa fl fc t f tn un s vP vF ua uc cs w hd hf hJ hT hU hb hbad hk hP hF h hz
     . exact acq3_any base rb day fx fa fl fc t f tn un s vP vF ua uc cs w hd hf hJ hT hU hb hbad hk hP hF h (m0 (by omega))
     . exact acq4_any base rb day fx fa fl fc t f tn un s vP vF ua uc cs w hd hf hJ hT hU hb hbad hk hP hF h (m0 (by omega)) (kid _ (by rw [k2 (.inl h)]; exact List.mem_cons_of_mem _ (List.mem_cons_self ..)))
     . exact acq5_any base rb day fx fa fl fc t f tn un s vP vF ua uc cs w hd hf hJ hT hU hb hbad hk hP hF h
     . exact acq6_any base rb day fx fa fl fc t f tn un s vP vF ua uc cs w hd hf hJ hT hU hb hbad hk hP hF h (m0 (by omega))
     . exact acq7_any base rb day fx fa fl fc t f tn un s vP vF ua uc cs w hd hf hJ hT hU hb hbad hk hP hF h (m0 (by omega))
     . rcases evalX_cases day fx (x0 t) with h' | h' | ⟨h',h''⟩
       . exact acq8k_any base rb day fx fa fl fc t f tn un s vP vF ua uc cs w hd hf hJ hT hU hb hbad hk hP hF h h'
       . exact acq8e_any base rb day fx fa fl fc t f tn un s vP vF ua uc cs w hd hf hJ hT hU hb hbad hk hP hF h h'
       . exact acq8_any base rb day fx fa fl fc t f tn un s vP vF ua uc cs w hd hf hJ hT hU hb hbad hk hP hF h h' h'' (m0 (by omega))
     . exact acq9_any base rb day fx fa fl fc t f tn un s vP vF ua uc cs w hd hf hJ hT hU hb hbad hk hP hF h
end
section
def OutS (w : World) (s : RS) (x : Ending) : Prop := ∃ pa pc qa qc,x=.returned (.tuple #[.slice pa s.ps.length pc,.slice qa s.fs.length qc,.int .i64 0])/\SlR ptK w [] s.ps pa s.ps.length pc/\SlR flK w [] s.fs qa s.fs.length qc
def OutE (e : Int) : Ending := .returned (.tuple #[.slice none 0 0,.slice none 0 0,.int .i64 e])
def s0 : RS := ⟨[],[],false⟩
theorem RunJ.start {base : Nat} {day : Int} {fx : List Fx} {fa : Option Addr} {fl fc : Nat} {w : World} (hS : SlR fxK w [] fx fa fl fc) (hb : base<=w.heap.size) :
 RunJ base w.heap.size day fx fa fl fc (w.alloc (.cells #[.int .i64 day,.slice fa fl fc,.slice none 0 0,.slice none 0 0,.bool false] 86)) s0 (.slice none 0 0) (.slice none 0 0) := by
 have h1 : Sep w [sl fxK fx fa fl fc] := (Sep.nil w).add (o := sl fxK fx fa fl fc) rfl hS;have h2 := h1.new 86 #[.int .i64 day,.slice fa fl fc,.slice none 0 0,.slice none 0 0,.bool false];have hb2 : base<=(w.alloc (.cells #[.int .i64 day,.slice fa fl fc,.slice none 0 0,.slice none 0 0,.bool false] 86)).heap.size := by simp; omega
 exact ⟨(h2.addGr flK 66 hb2).addGr ptK 88 hb2⟩
theorem RunJ.o {base rb : Nat} {day : Int} {fx : List Fx} {fa : Option Addr} {fl fc : Nat} {w : World} {s : RS} {vP vF : Value} (h : RunJ base rb day fx fa fl fc w s vP vF) :
 ∃ pa pc qa qc,vP=.slice pa s.ps.length pc/\vF=.slice qa s.fs.length qc/\SlR ptK w [] s.ps pa s.ps.length pc/\SlR flK w [] s.fs qa s.fs.length qc := by
 obtain ⟨pa,pc,h1,h2⟩ := h.sep.still 0 rfl;obtain ⟨qa,qc,h3,h4⟩ := h.sep.still 1 rfl;exact ⟨pa,pc,qa,qc,h1,h3,h2.free,h4.free⟩
theorem rT_parts0 {t : Te} (h : rT t=true) : t.nd<=200/\t.rk<=16/\bT t=true := by
 exact Z7_155
theorem X3_nil (rb : Nat) : X3 rb (.slice none 0 0) (.slice none 0 0)=[rb] := rfl
theorem start_ok (day : Int) (fx : List Fx) (fa : Option Addr) (fl fc : Nat) (t : Te) (cs : List Value) (w : World) (hd : I64 day) (hS : SlR fxK w [] fx fa fl fc) (hT : RepT w [] t cs) (hf : fitC t=0) (hbad : (acq day fx t 1 false [] s0).bad=false) :
 Calls Tryz.prog 9 #[.agg cs.toArray,.agg #[.int .i64 day,.slice fa fl fc]] w fun x w' => OutS w' (acq day fx t 1 false [] s0) x/\Below w.heap.size w w' := by
 have hr : rT t=true := by
  unfold fitC at hf
  split at hf
  . assumption
  . cases hf
 obtain ⟨hnd,hrk,hbt⟩ := rT_parts0 hr;have HF := LH9 (fun W (hW : Below w.heap.size w W) => fitsX_any t cs W (hT.kept (Kept.of_below hW [])) (by omega));rw [hf] at HF;have HBD := LH9 hbad;obtain ⟨S9,hS9⟩ : ∃ S,S=acq day fx t 1 false [] s0 := ⟨_,rfl⟩;have HS9 := LH9 hS9;have HT0 := LH9 hT;have HSS := LH9 hS;obtain ⟨op,nm,exprs,terms,xa,xl,xc,ta,tl,tc,e1,rfl,-,-,-,-⟩ := hT.inv;have hb1 := below_nT w (.cells #[.int .i64 op,.string nm,.slice xa xl xc,.slice ta tl tc] 41);have hb2 := below_nT (w.alloc (.cells #[.int .i64 op,.string nm,.slice xa xl xc,.slice ta tl tc] 41)) (.cells #[.int .i64 day,.slice fa fl fc] 44);have HB := LH9 (hb1.trans (hb2.mono hb1.size));have B1 := LH9 ((Mem.Blk.new w 41 #[.int .i64 op,.string nm,.slice xa xl xc,.slice ta tl tc]).below hb2);have e0 : (w.alloc (.cells #[.int .i64 op,.string nm,.slice xa xl xc,.slice ta tl tc] 41)).heap.size=w.heap.size + 1 := by simp
 have b2' := Mem.Blk.new (w.alloc (.cells #[.int .i64 op,.string nm,.slice xa xl xc,.slice ta tl tc] 41)) 44 #[.int .i64 day,.slice fa fl fc];rw [e0] at b2';have B2 := LH9 b2';have HD := LH9 hd;have HBT := LH9 hbt;have HSM := LH9 (And.intro hnd hrk);clear hb1 hb2 b2' e0 hT hS e1 hf hbad hd hbt hnd hrk hr hS9
 go_enter Tryz.func9,Tryz.ntmps9
 go_upto_region 1 with (fail);generalize (w.alloc (.cells #[.int .i64 op,.string nm,.slice xa xl xc,.slice ta tl tc] 41)).alloc (.cells #[.int .i64 day,.slice fa fl fc] 44)=w2 at *;obtain ⟨c0,c1,c2,c3,-,-,-,-⟩ := blk4 B1.o;go_wp2_with fail;(with_reducible refine (HF.o _ HB.o).mono ?_);rintro y w3 ⟨rfl,b3⟩;have HB3 := bt9 HB b3;have B13 := LH9 (B1.o.below b3);have B23 := LH9 (B2.o.below b3);clear b3 HB HF B1 B2 c0 c1 c2 c3;obtain ⟨e0,e1,-,-⟩ := B23.o.two;go_upto_region 4 with (fail);have HJ4 := LH9 (RunJ.start (day := day) (base := w3.heap.size) (HSS.o.kept (Kept.of_below HB3.o [])) (Nat.le_refl _));have b4 := below_nT w3 (.cells #[.int .i64 day,.slice fa fl fc,.slice none 0 0,.slice none 0 0,.bool false] 86);have HB4 := bt9 HB3 b4;have B14 := LH9 (B13.o.below b4);have HT4 : Hid (RepT (w3.alloc (.cells #[.int .i64 day,.slice fa fl fc,.slice none 0 0,.slice none 0 0,.bool false] 86)) (X3 w3.heap.size (.slice none 0 0) (.slice none 0 0)) t [.int .i64 op,.string nm,.slice xa xl xc,.slice ta tl tc]) := by
  have h1 : RepT w3 [w3.heap.size] t [.int .i64 op,.string nm,.slice xa xl xc,.slice ta tl tc] := (HT0.o.kept (Kept.of_below HB3.o [])).less (fun b hb hm => by rw [List.mem_singleton] at hm; omega);exact h1.kept (Kept.of_below b4 _)
 have HBS := LH9 HB3.o.size;clear b4;go_upto_region 5 with (fail);obtain ⟨base9,hbase9⟩ : ∃ b,b=w3.heap.size := ⟨_,rfl⟩;obtain ⟨rb9,hrb9⟩ : ∃ b,b=w3.heap.size := ⟨_,rfl⟩;generalize w3.alloc (.cells _ 86)=w4 at *;generalize w3.heap.size=rb9' at *;subst hbase9;obtain rfl : rb9=base9 := hrb9;obtain ⟨c0,c1,c2,c3,-,-,-,-⟩ := blk4 B14.o;have hA : Calls Tryz.prog 27 #[.pointer (some ⟨rb9,0,none⟩),.agg #[.int .i64 1,.bool false,.slice none 0 0,.int .i64 op,.string nm,.slice xa xl xc,.slice ta tl tc]] w4 fun x w' => x=.returned (.tuple #[])/\∃ vP' vF',RunTo rb9 rb9 day fx fa fl fc w4 w' (.slice none 0 0) (.slice none 0 0) S9 vP' vF' := by
  have h := acquire_any rb9 rb9 day fx fa fl fc HD.o t.rk t (Nat.le_refl _) HBT.o 1 false [] s0 (.slice none 0 0) (.slice none 0 0) none 0 [.int .i64 op,.string nm,.slice xa xl xc,.slice ta tl tc] w4 ⟨by omega,by omega⟩ HJ4.o HT4.o ⟨[],rfl,fun i x cs hx _ => by simp at hx,Sl.nil _ _ _⟩ (by have := HSM.o; simp; omega) (by have := HSM.o; show 0 + _<=_; omega) (by have := HSM.o; show 0 + _<=_; omega);rw [<- HS9.o] at h;exact h
 have HA := LH9 hA;clear hA e0 e1 B23 B13;go_wp2_with fail;(with_reducible refine HA.o.mono ?_);rintro y w6 ⟨rfl,pV,fV,hR6⟩;have HR6 := LH9 hR6;have HB6 : Hid (Below w.heap.size w w6) := HB4.o.trans (hR6.fr.below (B := w.heap.size) HB4.o.size (fun b hb => by
  rw [X3_nil,List.mem_singleton] at hb;have := HBS.o; omega))
 clear hR6 HA HB4 B14 c0 c1 c2 c3 HJ4 HT4 HB3;obtain ⟨pa,pc,qa,qc,rfl,rfl,hO1,hO2⟩ := HR6.o.run.o;have HO := LH9 (And.intro hO1 hO2);have HTL := LH9 (told_ok rb9 rb9 day fx fa fl fc S9 pa S9.ps.length pc qa S9.fs.length qc w6 HR6.o.run (by rw [HS9.o]; exact HBD.o));clear hO1 hO2;go_wp2_with fail;go_at_call 28;(with_reducible refine HTL.o.mono ?_);rintro y w7 ⟨rfl,b7⟩;have HB7 := bt9 HB6 b7;have HFN : Hid (OutS w7 (acq day fx t 1 false [] s0) (.returned (.tuple #[.slice pa S9.ps.length pc,.slice qa S9.fs.length qc,.int .i64 0]))) := by
  rw [<- HS9.o];exact ⟨pa,pc,qa,qc,rfl,HO.o.1.kept (Kept.of_below b7 _),HO.o.2.kept (Kept.of_below b7 _)⟩
 clear b7 HTL HO;go_wp2_with fail;go_ret3;exact ⟨HFN.o,HB7.o⟩
end
end Go.Proofs.YtmiinmndbkdjbaaGreat
