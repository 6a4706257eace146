/- A part of the proof: ChK, one behind another. -/
import Derived.Test.YtmiinmndbkdjbaaGreatMEA
import Derived.Test.YtmiinmndbkdjbaaGreatMER
import Derived.Test.YtmiinmndbkdjbaaGreatMEQA
import Derived.Test.YtmiinmndbkdjbaaGreatMEQB
import Derived.Lib.Hide
import Derived.WalkKit
set_option maxRecDepth 100000
set_option maxHeartbeats 16000000
set_option linter.unusedVariables false
set_option linter.unusedSimpArgs false
namespace Go.Proofs.YtmiinmndbkdjbaaGreat
open Go.RowKit
section
structure ChOk (p : Prt) : Prop where
 til : ∀ e ∈ p.til,kI e=2
 len : p.til.length<=500
 exs : p.term.op=9->p.term.exprs=[x0 p.term]/\kI (x0 p.term)=2
 kids : p.term.op=5\/p.term.op=9->∀ u ∈ p.term.terms,rT u=true/\fitT u=true/\u.rk<=500
def RcR (w : World) (E : Int) (R : RS) (x : Ending) : Prop := (E ≠ 0/\x=.returned (.tuple #[.slice none 0 0,.slice none 0 0,.int .i64 E])) \/
 (E=0/\∃ pa pc qa qc,x=.returned (.tuple #[.slice pa R.ps.length pc,.slice qa R.fs.length qc,.int .i64 0])/\SlR ptK w [] R.ps pa R.ps.length pc/\SlR flK w [] R.fs qa R.fs.length qc)
theorem RcR.err {w : World} {E e : Int} {R : RS} (h : E=e) (h0 : e ≠ 0) : RcR w E R (.returned (.tuple #[.slice none 0 0,.slice none 0 0,.int .i64 e])) := .inl ⟨by rw [h]; exact h0,by rw [h]⟩
theorem aq_bad {w : World} {R : RS} {x : Ending} (h : AqR w R x) (hb : R.bad=true) : x=.returned (.tuple #[.slice none 0 0,.slice none 0 0,.bool false]) := by
 rcases h with ⟨-,h⟩ | ⟨h,-⟩
 . exact h
 . rw [hb] at h; cases h
theorem aq_good {w : World} {R : RS} {x : Ending} (h : AqR w R x) (hb : R.bad=false) : ∃ pa pc qa qc,x=.returned (.tuple #[.slice pa R.ps.length pc,.slice qa R.fs.length qc,.bool true])/\SlR ptK w [] R.ps pa R.ps.length pc/\SlR flK w [] R.fs qa R.fs.length qc := by
 rcases h with ⟨h,-⟩ | ⟨-,h⟩
 . rw [hb] at h; cases h
 . exact h
theorem slR_news {α : Type} {K : Elt α} {w : World} {X : List Nat} {l : List α} {a : Option Addr} {len cap : Nat} (h : SlR K w X l a len cap) : ∃ vs : List (List Value),vs.length=l.length/\(∀ (i : Nat) (x : α) (c : List Value),l[i]?=some x->vs[i]?=some c->K.R w X x c)/\vs.flatten.length=len * K.sz /\
 (∀ u ∈ vs.flatten,u.oneCell'=true)/\(0 < len->∃ ad,a=some ad/\∀ j u,vs.flatten[j]?=some u->w.cell? (ad.add j)=some u) := by
 have hl := h.facts.1;obtain ⟨vs,g1,g2,g3⟩ := h;have g4 : ∀ x ∈ vs,x.length=K.sz := g3.len4;have g5 : vs.length=len := g3.1;refine ⟨vs,by omega,fun i x c hx hc => g2 i x c hx hc,by rw [flat_len K.sz vs g4,g5],flat_one (fun x hx => ?_),fun hp => ?_⟩
 . obtain ⟨i,hi,rfl⟩ := List.getElem_of_mem hx;exact (K.one (g2 i _ _ (List.getElem?_eq_getElem (by omega)) (List.getElem?_eq_getElem hi))).2
 . obtain ⟨b,o,hab,-⟩ := g3.2.2.2 hp;rw [hab] at g3;exact ⟨_,hab,g3.cells K.pos⟩
theorem els_app {α : Type} {K : Elt α} {w : World} {X : List Nat} {l m : List α} {vs us : List (List Value)} (hl : vs.length=l.length) (h1 : ∀ (i : Nat) (x : α) (c : List Value),l[i]?=some x->vs[i]?=some c->K.R w X x c) (h2 : ∀ (i : Nat) (x : α) (c : List Value),m[i]?=some x->us[i]?=some c->K.R w X x c) :
 ∀ (i : Nat) (x : α) (c : List Value),(l ++ m)[i]?=some x->(vs ++ us)[i]?=some c->K.R w X x c := by
 intro i x c hx hc;rcases Nat.lt_or_ge i l.length with hi | hi
 . rw [List.getElem?_append_left hi] at hx;rw [List.getElem?_append_left (by omega)] at hc;exact h1 i x c hx hc
 . rw [List.getElem?_append_right hi] at hx;rw [List.getElem?_append_right (by omega),hl] at hc;exact h2 _ x c hx hc
theorem els_to {α : Type} {K : Elt α} {w w' : World} {X : List Nat} {l : List α} {vs : List (List Value)} (h : ∀ (i : Nat) (x : α) (c : List Value),l[i]?=some x->vs[i]?=some c->K.R w X x c) (hb : Below w.heap.size w w') :
 ∀ (i : Nat) (x : α) (c : List Value),l[i]?=some x->vs[i]?=some c->K.R w' X x c := fun i x c hx hc => K.kept (h i x c hx hc) (Kept.of_below hb _)
theorem three_slR {α : Type} {K : Elt α} {w0 w2 : World} {e : TypeId} {base : Nat} {l m r : List α} {vl vm vr : List (List Value)} {v : Value}
 (hl : vl.length=l.length) (hm : vm.length=m.length) (hr : vr.length=r.length)
 (h1 : ∀ (i : Nat) (x : α) (c : List Value),l[i]?=some x->vl[i]?=some c->K.R w0 [] x c) (h2 : ∀ (i : Nat) (x : α) (c : List Value),m[i]?=some x->vm[i]?=some c->K.R w0 [] x c) (h3 : ∀ (i : Nat) (x : α) (c : List Value),r[i]?=some x->vr[i]?=some c->K.R w0 [] x c)
 (hb : Below w0.heap.size w0 w2) (ho : w2.ownsRow base e K.sz v (l.length + m.length + r.length) (vl.flatten ++ vm.flatten ++ vr.flatten)) : ∃ a c,v=.slice a (l ++ m ++ r).length c/\SlR K w2 [] (l ++ m ++ r) a (l ++ m ++ r).length c := by
 refine slR_row (base := base) (e := e) (csl := vl ++ vm ++ vr) (by rw [List.flatten_append,List.flatten_append,List.length_append,List.length_append]; exact ho) (fun g _ hm => by cases hm) (by simp [hl,hm,hr]) ?_;exact els_app (by rw [List.length_append,List.length_append,hl,hm]) (els_app hl (els_to h1 hb) (els_to h2 hb)) (els_to h3 hb)
theorem cells_up {w w' : World} {a : Option Addr} {m : Nat} {xs : List Value} (h : 0 < m->∃ ad,a=some ad/\∀ j u,xs[j]?=some u->w.cell? (ad.add j)=some u) (hb : Below w.heap.size w w') : 0 < m->∃ ad,a=some ad/\∀ j u,xs[j]?=some u->w'.cell? (ad.add j)=some u := fun hp => by
 obtain ⟨ad,h1,h2⟩ := h hp;exact ⟨ad,h1,fun j u hu => cu9 (h2 j u hu) hb⟩
theorem chA_at {day : Int} {fx : List Fx} {f : Int} {tn : Bool} {un : List Ex} {t u : Te} {q : Nat} (h : t.terms[q]?=some u) : chA day fx ⟨f,tn,un,t⟩ (q : Int)=accL day fx [⟨f,tn,un,u⟩] s0 := by
 show acq day fx (t.terms.getD q zT) f tn un s0=acq day fx u f tn un s0;rw [List.getD_eq_getElem?_getD,h]; rfl
theorem rchoose_any (day : Int) (fx : List Fx) (fa : Option Addr) (fl fc : Nat) (l : List Prt) (a : Option Addr) (n c : Nat) (at_ which : Int) (turned : Bool) (w : World) (hd : I64 day) (hat : I64 at_) (hF : SlR fxK w [] fx fa fl fc) (hS : SlR ptK w [] l a n c) (hn : n<=1000) (hok : ∀ p ∈ l,ChOk p) :
 Calls Tryz.prog 20 #[.slice a n c,.agg #[.int .i64 day,.slice fa fl fc],.int .i64 at_,.int .i64 which,.bool turned] w fun x w' => RcR w' (chE day fx l at_ which turned) (chS day fx l at_ which) x/\Below w.heap.size w w' := by
 obtain ⟨E,hE⟩ : ∃ E,E=chE day fx l at_ which turned := ⟨_,rfl⟩;obtain ⟨R,hR⟩ : ∃ R,R=chS day fx l at_ which := ⟨_,rfl⟩;rw [<- hE,<- hR];have hfl : l.length=n := hS.facts.1;have HB0 := LH9 (below_nT w (.cells #[.int .i64 day,.slice fa fl fc] 26));have E0 := LH9 (Mem.Blk.new w 26 #[.int .i64 day,.slice fa fl fc]);have HF := LH9 hF;have HS := LH9 hS;have HD := LH9 hd;have HN := LH9 hn;have HOK := LH9 hok;have HFL := LH9 hfl;have hc7 : at_ < 0\/(n : Int)<=at_->E=7 := fun h => by rw [hE]; unfold chE; rw [chP_out (by rw [hfl]; exact h)]
 have HC7 := LH9 hc7;have HE := LH9 hE;have HR := LH9 hR;clear hE hR hfl hF hS hd hn hok hc7;by_cases h1 : at_ < 0
 . have H7 := LH9 (HC7.o (.inl h1))
   go_enter Tryz.func20,Tryz.ntmps20
   go_wp2_with fail;go_ret3;exact ⟨RcR.err H7.o (by decide),HB0.o⟩
 by_cases h2 : (n : Int)<=at_
 . have H7 := LH9 (HC7.o (.inr h2))
   go_enter Tryz.func20,Tryz.ntmps20
   go_wp2_with fail;go_ret3;exact ⟨RcR.err H7.o (by decide),HB0.o⟩
 obtain ⟨k,rfl⟩ : ∃ k : Nat,at_=(k : Int) := ⟨at_.toNat,by omega⟩;have hlt : k < n := by omega
 clear h1 h2 HC7;have hlt' : (k : Int) < (n : Int) := by omega
 have k0 : (0 : Int)<=(k : Int) := by omega
 have k1 : (k : Int)<=1000 := by have := HN.o; omega
 obtain ⟨b,o,p,ua,uc,op,nm,xa,xl,xc,ka,kl,kc,ha,-,-,hp,hop,hf,hU,hT,u0,u1,u2,u3,u4,u5,u6⟩ := pt_at (HS.o.kept (Kept.of_below HB0.o [])) k hlt;have hpk := HOK.o p (List.mem_of_getElem? hp);have hec := HE.o;unfold chE at hec;rw [chP_in hp] at hec;have her := HR.o;unfold chS at her;rw [chP_in hp,Int.toNat_natCast] at her;dsimp only at hec her;obtain ⟨f,tn,un,t⟩ := p;obtain ⟨C,hC⟩ : ∃ C,C=choE day fx ⟨f,tn,un,t⟩ which turned := ⟨_,rfl⟩;rw [<- hC] at hec;unfold choE at hC;dsimp only at hop hf hU hT u0 u1 u2 u3 u4 u5 u6 hC;have HEC := LH9 hec;have HER := LH9 her;have HPK := LH9 hpk;have HT := LH9 hT;have HU := LH9 hU;have HFI := LH9 hf;have HLT := LH9 hlt;have hXT := rep_terms hT;have HXE := LH9 hXT.1;have HTT := LH9 hXT.2;have hkl : t.terms.length=kl := hXT.2.facts.1;have HKL := LH9 hkl;have HOP := LH9 hop;rw [hkl,<- hop] at hC;have b1 := below_nT (w.alloc (.cells #[.int .i64 day,.slice fa fl fc] 26)) (.cells #[.int .i64 f,.bool tn,.slice ua un.length uc,.int .i64 op,.string nm,.slice xa xl xc,.slice ka kl kc] 53);have BP := LH9 (Mem.Blk.new (w.alloc (.cells #[.int .i64 day,.slice fa fl fc] 26)) 53 #[.int .i64 f,.bool tn,.slice ua un.length uc,.int .i64 op,.string nm,.slice xa xl xc,.slice ka kl kc]);have E1 := LH9 (E0.o.below b1);have HW1 := LH9 b1;have HB1 := bt9 HB0 b1;have HHP := LH9 HB0.o.size;have HHQ : Hid (w.heap.size < (w.alloc (.cells #[.int .i64 day,.slice fa fl fc] 26)).heap.size) := by show _ < _; simp
 have HA := LH9 ha;clear HE HR hec her hpk hT hU hf hp hop hXT hkl b1 hlt E0;subst ha
 go_enter Tryz.func20,Tryz.ntmps20
 go_upto_region 1 with (fail);generalize w.alloc (.cells _ 26)=w0 at *;go_upto_region 4 with (fail);generalize w0.alloc (.cells _ 53)=w1 at *;obtain ⟨pb,hpb⟩ : ∃ g,g=w0.heap.size := ⟨_,rfl⟩;rw [<- hpb] at BP HHP HHQ;have HPB := LH9 hpb;rw [show Value.pointer (some ⟨w0.heap.size,0,none⟩)=.pointer (some ⟨pb,0,none⟩) by rw [hpb]];clear hpb u0 u1 u2 u3 u4 u5 u6;obtain ⟨c0,c1,c2,c3,c4,c5,c6⟩ := blk7 BP.o;obtain ⟨e0,e1,-,-⟩ := E1.o.two;have HEN := LH9 (rended_any day fx fa fl fc f tn un ua uc op nm xa ka xl xc kl kc w1 HD.o (HF.o.kept (Kept.of_below HB1.o [])) (HU.o.kept (Kept.of_below HW1.o [])) HPK.o.til (by have h : un.length<=500 := HPK.o.len; omega));obtain ⟨EB,hEB⟩ : ∃ b,b=un.any fun e => (evalX day fx e).B := ⟨_,rfl⟩
 obtain ⟨BD,hBD⟩ : ∃ b,b=un.any fun e => decide ((evalX day fx e).K=3) := ⟨_,rfl⟩
 rw [<- hEB,<- hBD] at HEN;rw [show endB day fx un=EB from hEB.symm,<- hBD] at hC;clear hEB hBD;go_wp2_with fail;go_at_call 41;(with_reducible refine HEN.o.mono ?_);rintro y w2 ⟨rfl,b2⟩;have HW2 := LH9 b2;have HB2 := bt9 HB1 b2;have BP2 := LH9 (BP.o.below b2);have E2 := LH9 (E1.o.below b2);clear b2 c0 c1 c2 c3 c4 c5 c6 e0 e1 HEN BP E1;obtain ⟨c0,c1,c2,c3,c4,c5,c6⟩ := blk7 BP2.o;obtain ⟨e0,e1,-,-⟩ := E2.o.two
 cases BD with
 | true =>
   rw [if_pos rfl] at hC;have HE9 : Hid (E=2) := by
    show _=_;have h1 := HEC.o;rw [hC,if_pos (by decide)] at h1;exact h1
   clear hC;go_wp2_with fail;go_ret3;exact ⟨RcR.err HE9.o (by decide),HB2.o⟩
 | false =>
   rw [if_neg (by decide)] at hC
   cases EB with
   | true =>
     rw [if_pos (.inl rfl)] at hC;exact Z7_134
   | false =>
     by_cases h59 : op ≠ 5/\op ≠ 9
     . rw [if_pos (.inr h59)] at hC;have o5 : (op != 5)=true := bne_iff_ne.2 h59.1;have o9 : (op != 9)=true := bne_iff_ne.2 h59.2;clear h59;exact Z7_134
     rw [if_neg (by rintro (h | h); exact absurd h (by decide); exact h59 h)] at hC;have hop2 : op=5\/op=9 := by omega
     clear h59;have HKD := LH9 (HPK.o.kids (by rw [<- HOP.o]; exact hop2));by_cases htt : tn ≠ turned
     . rw [if_pos htt] at hC;have h2 : (tn=true/\turned=false)\/(tn=false/\turned=true) := by
        revert htt
        cases tn <;> cases turned <;> simp
       clear htt;rcases hop2 with rfl | rfl
       . rcases h2 with ⟨rfl,rfl⟩ | ⟨rfl,rfl⟩
         . exact Z7_81
         . exact Z7_81
       . rcases h2 with ⟨rfl,rfl⟩ | ⟨rfl,rfl⟩
         . exact Z7_81
         . exact Z7_81
     rw [if_neg htt] at hC;obtain rfl : tn=turned := Classical.not_not.1 htt;clear htt;by_cases hr1 : which < 0
     . rw [if_pos (.inl hr1)] at hC;rcases hop2 with rfl | rfl
       . exact Z7_82
       . exact Z7_82
     by_cases hr2 : (kl : Int)<=which
     . rw [if_pos (.inr hr2)] at hC;rcases hop2 with rfl | rfl
       . exact Z7_82
       . exact Z7_82
     rw [if_neg (by rintro (h | h); exact hr1 h; exact hr2 h)] at hC;obtain ⟨q,rfl⟩ : ∃ q : Nat,which=(q : Int) := ⟨which.toNat,by omega⟩;have hq : q < kl := by omega
     clear hr1 hr2;obtain ⟨u,hu⟩ : ∃ u,t.terms[q]?=some u := ⟨_,List.getElem?_eq_getElem (by rw [HKL.o]; exact hq)⟩;obtain ⟨r1,r2,r3⟩ := HKD.o u (List.mem_of_getElem? hu);have HQA := LH9 (chA_at (day := day) (fx := fx) (f := f) (tn := tn) (un := un) hu);obtain ⟨S,hSS⟩ : ∃ S,S=accL day fx [⟨f,tn,un,u⟩] s0 := ⟨_,rfl⟩;have HSS := LH9 hSS;rw [HQA.o,<- hSS] at HEC HER;have HTD : Hid (TdOk ⟨f,tn,un,u⟩) := ⟨r1,r2,by have h : un.length<=500 := HPK.o.len; show un.length + u.rk<=1000; omega⟩;obtain ⟨-,tb,hto,q1,q2,q3,q4',q5,q6,q7,q8,rfl,-,hRT,v0,v1,v2,v3⟩ := te_one HTT.o hu;have HWK : Hid (w0.cell? ⟨tb,hto + q * 4,none⟩=some (.int .i64 q1)/\w0.cell? ⟨tb,hto + q * 4 + 1,none⟩=some (.string q2)/\w0.cell? ⟨tb,hto + q * 4 + 2,none⟩=some (.slice q3 q4' q5)/\w0.cell? ⟨tb,hto + q * 4 + 3,none⟩=some (.slice q6 q7 q8)) := ⟨v0,v1,v2,v3⟩;have HRK := LH9 hRT;have HQL := LH9 hq;clear hSS r1 r2 r3 hRT v0 v1 v2 v3 hu hq;rcases hop2 with rfl | rfl
     . rw [if_neg (by decide)] at hC;have hC0 := LH9 hC;clear hC;have HW3 := bu9 HW1 HW2;have hlq := HQL.o;have hlq2 : (q : Int) < (kl : Int) := by omega
       have q0 : (0 : Int)<=(q : Int) := by omega
       obtain ⟨v0,v1,v2,v3⟩ := HWK.o;replace v0 := cu9 v0 HW3.o;replace v1 := cu9 v1 HW3.o;replace v2 := cu9 v2 HW3.o;replace v3 := cu9 v3 HW3.o;have hfr := (((Fr.setCell w2 (X := [pb]) (p := ⟨pb,3,none⟩) (List.mem_singleton.2 rfl) (.int .i64 q1)).trans (Fr.setCell _ (X := [pb]) (p := ⟨pb,4,none⟩) (List.mem_singleton.2 rfl) (.string q2))).trans (Fr.setCell _ (X := [pb]) (p := ⟨pb,5,none⟩) (List.mem_singleton.2 rfl) (.slice q3 q4' q5))).trans (Fr.setCell _ (X := [pb]) (p := ⟨pb,6,none⟩) (List.mem_singleton.2 rfl) (.slice q6 q7 q8));have BS := LH9 ((((BP2.o.set_ 3 (.int .i64 q1)).set_ 4 (.string q2)).set_ 5 (.slice q3 q4' q5)).set_ 6 (.slice q6 q7 q8));have HBS := LH9 ((((HB2.o.setCell (p := ⟨pb,3,none⟩) HHP.o (.int .i64 q1)).setCell (p := ⟨pb,4,none⟩) HHP.o (.string q2)).setCell (p := ⟨pb,5,none⟩) HHP.o (.slice q3 q4' q5)).setCell (p := ⟨pb,6,none⟩) HHP.o (.slice q6 q7 q8));have HFR := LH9 hfr;clear hfr;obtain ⟨-,-,-,f3,f4,f5,f6⟩ := frz7 BP2.o;go_upto_region 20 with (fail);generalize (((w2.setCell ⟨pb,3,none⟩ (.int .i64 q1)).setCell ⟨pb,4,none⟩ (.string q2)).setCell ⟨pb,5,none⟩ (.slice q3 q4' q5)).setCell ⟨pb,6,none⟩ (.slice q6 q7 q8)=w3 at *;clear f3 f4 f5 f6 c0 c1 c2 c3 c4 c5 c6 v0 v1 v2 v3;have hkp : Kept [pb] w0 w3 := (Kept.of_below HW3.o _).trans HFR.o.kept;exact Z7_6
     . rw [if_pos rfl] at hC;obtain ⟨hxe,hk2⟩ := HPK.o.exs HOP.o.symm;have hxe' : t.exprs=[x0 t] := hxe;obtain ⟨rfl,xb,xo_,xo,xn,xs,aa,al,ac,rfl,-,hRX,u0,u1,u2,u3⟩ := ex_one HXE.o hxe';obtain ⟨ee,eb,ek⟩ := evalX_k (day := day) (fx := fx) (e := x0 t) hk2;have HW3 := bu9 HW1 HW2;have HQ := LH9 (fun W (hW : Below w2.heap.size w2 W) => reval_any day fx fa fl fc HD.o (x0 t).rk (x0 t) (Nat.le_refl _) eb ek _ W (hRX.kept (Kept.of_below (HW3.o.trans (hW.mono HW3.o.size)) [])) (HF.o.kept (Kept.of_below (HB2.o.trans (hW.mono HB2.o.size)) [])));rw [<- ee] at HQ;obtain ⟨V,hV⟩ : ∃ V,V=evalX day fx (x0 t) := ⟨_,rfl⟩;rw [<- hV] at HQ;rw [show evalX day fx (x0 (⟨f,tn,un,t⟩ : Prt).term)=V from hV.symm] at hC;have HC := LH9 hC;replace u0 := cu9 u0 HW3.o;replace u1 := cu9 u1 HW3.o;replace u2 := cu9 u2 HW3.o;replace u3 := cu9 u3 HW3.o;clear ee eb ek hRX hV hxe hxe' hk2 hC;have hlq := HQL.o;have hlq2 : (q : Int) < (kl : Int) := by omega
       have q0 : (0 : Int)<=(q : Int) := by omega
       go_upto_region 14 with (fail)
       go_cut [16] (fun p9 W0 => ∃ z,p9=.pointer (some ⟨z,0,none⟩)/\Hid (Below w2.heap.size w2 W0)/\Hid (Mem.Blk W0 z 97 #[.string (wd V),.int .i64 V.N]))
       case first =>
        as_aux_lemma =>
         refine wp_region_tillQ (S := fun W => W.cell? ⟨pb,5,none⟩=some (.slice (some ⟨xb,xo_,none⟩) 1 xc)/\W.cell? ⟨xb,xo_,none⟩=some (.int .i64 xo)/\W.cell? ⟨xb,xo_ + 1,none⟩=some (.int .i64 xn)/\W.cell? ⟨xb,xo_ + 2,none⟩=some (.string xs)/\W.cell? ⟨xb,xo_ + 3,none⟩=some (.slice aa al ac)/\W.cell? ⟨w.heap.size,0,none⟩=some (.int .i64 day)/\W.cell? ⟨w.heap.size,1,none⟩=some (.slice fa fl fc)) 8 (by kernel_rfl) (fun _ _ _ _ _ h => h) (fun Q9 HQP HQ9 => ?_);refine tk 0 ⟨c5,u0,u1,u2,u3,e0,e1⟩ ?_ (hQ := hq HQP);refine tk 1 ⟨c5,u0,u1,u2,u3,e0,e1⟩ ?_ (hQ := hq HQP);refine tk 2 ⟨c5,u0,u1,u2,u3,e0,e1⟩ ?_ (hQ := hq HQP);refine tk 3 ⟨c5,u0,u1,u2,u3,e0,e1⟩ ?_ (hQ := hq HQP);refine tk 4 ⟨c5,u0,u1,u2,u3,e0,e1⟩ ?_ (hQ := hq HQP);refine tk 5 ⟨c5,u0,u1,u2,u3,e0,e1⟩ ?_ (hQ := hq HQP);refine till_two (i := 6) (j := 7) (by kernel_rfl) rfl rfl (fun K' hK => ?_) (fun K' hK => ?_)
         . go_simp;go_at_call 32;have b0 : Below w2.heap.size w2 w2.drew := (Below.refl w2.heap.size w2).drew;(with_reducible refine (HQ.o _ b0).mono ?_);rintro y w5 ⟨hy,b1⟩;unfold RetW at hy;subst hy;have bt : Below w2.heap.size w2 w5 := b0.trans (b1.mono b0.size);have HBT := LH9 bt;replace c5 := cu9 c5 bt;replace u0 := cu9 u0 bt;replace u1 := cu9 u1 bt;replace u2 := cu9 u2 bt;replace u3 := cu9 u3 bt;replace e0 := cu9 e0 bt;replace e1 := cu9 e1 bt;refine hK _ _ ⟨c5,u0,u1,u2,u3,e0,e1⟩ ?_;clear hK K' b0 b1 bt
           try simp only [Act.put,zp1,zp2,zp3,zp4,zp5,zp6]
           refine t19 7 (fun K' hK=>?_);go_simp;have bn := below_nT w5 (.cells #[.string ⟨#[]⟩,.int .i64 0] 97);have BZ := LH9 (Mem.Blk.new w5 97 #[.string ⟨#[]⟩,.int .i64 0]);have HZ : Hid (w2.heap.size<=w5.heap.size) := HBT.o.size;have HB5 := bt9 HBT bn;replace c5 := cu9 c5 bn;replace u0 := cu9 u0 bn;replace u1 := cu9 u1 bn;replace u2 := cu9 u2 bn;replace u3 := cu9 u3 bn;replace e0 := cu9 e0 bn;replace e1 := cu9 e1 bn;refine hK _ _ ⟨c5,u0,u1,u2,u3,e0,e1⟩ ?_;clear hK K' bn HBT c5 u0 u1 u2 u3 e0 e1;generalize w5.alloc (.cells _ 97)=w6 at *;generalize w5.heap.size=z at *
           exact Z7_14
         . go_simp;have bn : Below w2.heap.size w2 (w2.alloc (.cells #[.string ⟨#[]⟩,.int .i64 0] 97)).drew := (below_nT w2 (.cells #[.string ⟨#[]⟩,.int .i64 0] 97)).drew;have BZ1 := LH9 (Mem.Blk.new w2 97 #[.string ⟨#[]⟩,.int .i64 0]).drew;have HBT := LH9 bn;replace c5 := cu9 c5 bn;replace u0 := cu9 u0 bn;replace u1 := cu9 u1 bn;replace u2 := cu9 u2 bn;replace u3 := cu9 u3 bn;replace e0 := cu9 e0 bn;replace e1 := cu9 e1 bn;refine hK _ _ ⟨c5,u0,u1,u2,u3,e0,e1⟩ ?_;clear hK K' bn;obtain ⟨z,hz⟩ : ∃ z,z=w2.heap.size := ⟨_,rfl⟩;have HZ : Hid (w2.heap.size<=z) := by show _<=_; omega
           rw [<- hz] at BZ1;rw [show Value.pointer (some ⟨w2.heap.size,0,none⟩)=.pointer (some ⟨z,0,none⟩) by rw [hz]];clear hz;generalize (w2.alloc (.cells _ 97)).drew=w5 at *
           try simp only [Act.put,zp1,zp2,zp3,zp4,zp5,zp6]
           refine t19 6 (fun K' hK=>?_);go_simp;go_at_call 32;(with_reducible refine (HQ.o _ HBT.o).mono ?_);rintro y w6 ⟨hy,b1⟩;unfold RetW at hy;subst hy;have BZ := LH9 (BZ1.o.below b1);have HB5 := bt9 HBT b1;replace c5 := cu9 c5 b1;replace u0 := cu9 u0 b1;replace u1 := cu9 u1 b1;replace u2 := cu9 u2 b1;replace u3 := cu9 u3 b1;replace e0 := cu9 e0 b1;replace e1 := cu9 e1 b1;refine hK _ _ ⟨c5,u0,u1,u2,u3,e0,e1⟩ ?_;clear hK K' b1 HBT BZ1 c5 u0 u1 u2 u3 e0 e1
           exact Z7_14
       obtain ⟨z,rfl,HWE,BZ⟩ := hcut;obtain ⟨we,rfl⟩ : ∃ W4 : World,W4=wc := ⟨_,rfl⟩;have HBE := bu9 HB2 HWE;have HW3E := bu9 HW3 HWE;have BPE := LH9 (BP2.o.below HWE.o);have EE := LH9 (E2.o.below HWE.o);clear HQ c0 c1 c2 c3 c4 c5 c6 u0 u1 u2 u3 e0 e1 HW3
       cases V with
       | brk =>
         have HE9 : Hid (E=2) := by
          show _=_;have h1 := HEC.o;have h2 : C=2 := HC.o.trans (by first | exact if_pos rfl | exact (if_neg (by first | (show ¬ (0 : Int)=3; omega) | (show ¬ (1 : Int)=3; omega) | (show ¬ (2 : Int)=3; omega))).trans (if_neg (by first | (show ¬ false=true; decide))));rw [h2,if_pos (by decide)] at h1;exact h1
         clear HC;have z0' : we.cell? ⟨z,0,none⟩=some (.string ⟨#[33]⟩) := BZ.o.cell 0;exact Z7_112
       | num n9 =>
         have HE9 : Hid (E=14) := by
          exact Z7_72
         clear HC;have z0' : we.cell? ⟨z,0,none⟩=some (.string ⟨#[110]⟩) := BZ.o.cell 0;have z1' : we.cell? ⟨z,1,none⟩=some (.int .i64 n9) := BZ.o.cell 1;go_wp2_with fail;go_ret3;exact ⟨RcR.err HE9.o (by decide),HBE.o⟩
       | unk =>
         have HE9 : Hid (E=14) := by
          exact Z7_72
         clear HC;have z0' : we.cell? ⟨z,0,none⟩=some (.string ⟨#[63]⟩) := BZ.o.cell 0;exact Z7_112
       | tru bb =>
         cases bb with
         | false =>
           have HE9 : Hid (E=14) := by
            exact Z7_72
           clear HC;have z0' : we.cell? ⟨z,0,none⟩=some (.string ⟨#[102]⟩) := BZ.o.cell 0;exact Z7_112
         | true =>
           have HC0 : Hid (C=0) := HC.o.trans ((if_neg (by show ¬ (2 : Int)=3; omega)).trans (if_pos rfl));have hC0 := HC0;have z0' : we.cell? ⟨z,0,none⟩=some (.string ⟨#[116]⟩) := BZ.o.cell 0;have z1' : we.cell? ⟨z,1,none⟩=some (.int .i64 0) := BZ.o.cell 1;obtain ⟨c0,c1,c2,c3,c4,c5,c6⟩ := blk7 BPE.o;obtain ⟨e0,e1,-,-⟩ := EE.o.two;obtain ⟨v0,v1,v2,v3⟩ := HWK.o;replace v0 := cu9 v0 HW3E.o;replace v1 := cu9 v1 HW3E.o;replace v2 := cu9 v2 HW3E.o;replace v3 := cu9 v3 HW3E.o;have hfr := (((Fr.setCell we (X := [pb]) (p := ⟨pb,3,none⟩) (List.mem_singleton.2 rfl) (.int .i64 q1)).trans (Fr.setCell _ (X := [pb]) (p := ⟨pb,4,none⟩) (List.mem_singleton.2 rfl) (.string q2))).trans (Fr.setCell _ (X := [pb]) (p := ⟨pb,5,none⟩) (List.mem_singleton.2 rfl) (.slice q3 q4' q5))).trans (Fr.setCell _ (X := [pb]) (p := ⟨pb,6,none⟩) (List.mem_singleton.2 rfl) (.slice q6 q7 q8));have BS := LH9 ((((BPE.o.set_ 3 (.int .i64 q1)).set_ 4 (.string q2)).set_ 5 (.slice q3 q4' q5)).set_ 6 (.slice q6 q7 q8));have HBS := LH9 ((((HBE.o.setCell (p := ⟨pb,3,none⟩) HHP.o (.int .i64 q1)).setCell (p := ⟨pb,4,none⟩) HHP.o (.string q2)).setCell (p := ⟨pb,5,none⟩) HHP.o (.slice q3 q4' q5)).setCell (p := ⟨pb,6,none⟩) HHP.o (.slice q6 q7 q8));have HFR := LH9 hfr;clear hfr;obtain ⟨-,-,-,f3,f4,f5,f6⟩ := frz7 BPE.o;go_upto_region 20 with (fail);generalize (((we.setCell ⟨pb,3,none⟩ (.int .i64 q1)).setCell ⟨pb,4,none⟩ (.string q2)).setCell ⟨pb,5,none⟩ (.slice q3 q4' q5)).setCell ⟨pb,6,none⟩ (.slice q6 q7 q8)=w3 at *;clear f3 f4 f5 f6 c0 c1 c2 c3 c4 c5 c6 v0 v1 v2 v3;have hkp : Kept [pb] w0 w3 := (Kept.of_below HW3E.o _).trans HFR.o.kept;exact Z7_6
end
end Go.Proofs.YtmiinmndbkdjbaaGreat
