/- A part of the proof: ChI, ChL, ChM, ChN, ChO, ChR, TreeE, one behind another. -/
import Derived.Test.YtmiinmndbkdjbaaGreatMEA
import Derived.Test.YtmiinmndbkdjbaaGreatMEC
import Derived.Test.YtmiinmndbkdjbaaGreatMEE
import Derived.Test.YtmiinmndbkdjbaaGreatMEL
import Derived.Test.YtmiinmndbkdjbaaGreatMEM
import Derived.Test.YtmiinmndbkdjbaaGreatMEN
import Derived.Test.YtmiinmndbkdjbaaGreatMEZ
import Derived.Test.YtmiinmndbkdjbaaGreatMEQA
import Derived.Test.YtmiinmndbkdjbaaGreatMEQC
import Derived.Test.YtmiinmndbkdjbaaGreatMEQD
import Derived.Lib.Hide
import Derived.WalkKit
set_option maxRecDepth 100000
set_option maxHeartbeats 16000000
set_option linter.unusedVariables false
set_option linter.unusedSimpArgs false
namespace Go.Proofs.YtmiinmndbkdjbaaGreat
open Go.RowKit
section
theorem clonePt_any (l : List Prt) (X : List Nat) (a : Option Addr) (len cap : Nat) (w : World) (hS : SlR ptK w X l a len cap) (hX : ∀ b ∈ X,b < w.heap.size) (hb : len<=1000000) :
 Calls Tryz.prog 37 #[.slice a len cap] w fun e w' => (∃ v,e=.returned v/\∃ csl,Grow ptK 88 w.heap.size w' X l v csl)/\Below w.heap.size w w' := by
 obtain ⟨f1,f2,f3⟩ := hS.facts;have HXX := LH9 hX
 cases a with
 | none =>
   have h0 : len=0 := by
    rcases Nat.eq_zero_or_pos len with h | h
    . exact h
    . obtain ⟨b,o,x,cs,ha,-⟩ := hS.at 0 h; cases ha
   subst h0;have hl : l=[] := List.length_eq_zero_iff.1 f1;subst hl;clear hS hX f1;have hnil : ∀ W,(binOp .eql 35 (.slice none 0 cap) (.slice none 0 0)).run Tryz.prog W=.ok (.bool true) W := fun W => Lib.run_eql_slice_nil W _ _ none 0 cap 0 0 Tryz.underlying35
   go_enter Tryz.func37,Tryz.ntmps37
   go_wp2
   go_ret;exact ⟨⟨_,rfl,[],Grow.start ptK 88 (Nat.le_refl _) HXX.o⟩,Below.refl _ _⟩
 | some ad =>
   obtain ⟨vs,h1,h2,h3⟩ := hS;have h3' : Sl w X 7 (some ad) len cap vs := h3;have HL := LH9 (flat_len 7 vs h3'.len4);have H1 := LH9 h1;have H2 := LH9 h2;have HO : Hid (∀ u ∈ vs.flatten,u.oneCell'=true) := flat_one (fun c hc => by
    obtain ⟨i,hi,rfl⟩ := List.getElem_of_mem hc;exact (ptK.one (h2 i _ _ (List.getElem?_eq_getElem (by omega)) (List.getElem?_eq_getElem hi))).2)
   have hvl : vs.length=len := h3.1;have HVL := LH9 hvl;have HLN := LH9 f1;have HN := LH9 (Mem.Own.lit (e := 88) (size := 7) (Below.refl w.heap.size w) #[] 0 (by decide) rfl);have HCL : Hid (∀ j u,vs.flatten[j]?=some u->(w.alloc (.cells #[] 88)).cell? (ad.add j)=some u) := by
    exact Z7_99
   clear h3 h3' h2 h1 hX f1 hvl;have hnil : ∀ W,(binOp .eql 35 (.slice (some ad) len cap) (.slice none 0 0)).run Tryz.prog W=.ok (.bool false) W := fun W => Lib.run_eql_slice_nil W _ _ (some ad) len cap 0 0 Tryz.underlying35
   go_enter Tryz.func37,Tryz.ntmps37
   go_wp2_with (at_builtin; refine Mem.ap infoPt Tryz.underlying35 rfl (by decide) rfl (.tmp 5) (.tmp 6) rfl rfl HN.o ad len cap vs.flatten rfl (by rw [HL.o,HVL.o]) HCL.o HO.o (by unfold maxLen; omega) (by omega) ?_; intro v' w' o' g' _ _; rw [Nat.zero_add] at o');obtain ⟨a2,cap2,rfl⟩ := own_slice o'.own;have HG : Hid (Grow ptK 88 w.heap.size w' X l (.slice a2 len cap2) vs) := by
    have hlt : ∀ {g : Nat},(Value.slice a2 len cap2).ownBlock=some g->w.heap.size<=g := fun hg => (own_lt o'.own hg).1
    have e1 : ([] : List Value) ++ vs.flatten=vs.flatten := rfl;refine ⟨by rw [HLN.o]; exact o'.own,o'.below.size,fun g hg hm => by have := hlt hg; have := HXX.o g hm; omega,fun b hb => Nat.lt_of_lt_of_le (HXX.o b hb) o'.below.size,H1.o,fun i x cs hx hc => ?_⟩;have hR := H2.o i x cs hx hc;have hR2 : ptK.R w (busy (.slice a2 len cap2) X) x cs := ptK.less hR (fun b hb hm => by
     rcases busy_mem.1 hm with h1 | h1
     . have := hlt h1; omega
     . exact h1)
    exact ptK.kept hR2 (Kept.of_below o'.below _)
   have B := LH9 o'.below;clear o' g'
   go_wp2
   go_ret;exact ⟨⟨_,rfl,vs,HG.o⟩,B.o⟩
end
section
theorem step_apZ {P : Program} {w : World} {ops : Array Oper} {o : Oper} {a : Act} {K : Act->World->Prop} {Q : Exit->Act->World->Prop} {E : Prop} {t e : TypeId} {z : Value} {size bytes base : Nat}
 (hinfo : (P.info? e).map (fun i => (i.zero,i.size,i.bytes))=some (some z,size,bytes)) (ht : P.underlying t=some (.slice e)) (hzs : z.cells.size=size) (hsz : 0 < size)
 (hgd : o.guard=none) (s x : Operand) (ho : o.op=.call { callee := .builtin .append,args := #[s,x],argTypes := #[t,t] })
 {v : Value} {n : Nat} {xs : List Value} (hs : a.eval s=v) (hown : w.ownsRow base e size v n xs) (hbase : base<=w.heap.size)
 (ao : Option Addr) (m c : Nat) (news : List Value) (hx : a.eval x=.slice ao m c) (hl : news.length=m * size)
 (hnews : 0 < m->∃ ad,ao=some ad/\∀ j u,news[j]?=some u->w.cell? (ad.add j)=some u) (h1 : ∀ u ∈ news,u.oneCell'=true)
 (h63 : n + m<=maxLen) (hbytes : (n + m) * bytes<=140737488355328)
 (h : ∀ v' w',w'.ownsRow base e size v' (n + m) (xs ++ news)->w.grownBy w' v.ownBlock->(v'.ownBlock=v.ownBlock\/v'.ownBlock=some w.heap.size)->K (a.put o.dst v') w') :
 if Region.wanted o (yielded ops a.tmps)=true then Oper.wp P o a w K Q else E := by
 by_cases hm : m=0
 . subst hm;obtain ⟨i,hi,hz,hsize,hby⟩ := info_parts hinfo;obtain ⟨av,capv,rfl⟩ := own_slice hown;have hl0 : news=[] := List.length_eq_zero_iff.1 (by rw [hl,Nat.zero_mul]);subst hl0;have hcap : n<=capv := by
    exact Z7_153
   have hsrc : Src P i.size t (.slice ao 0 c) 0 [] w := by
    cases ao with
    | none => exact Src.ofNil w ht c
    | some ad => exact Src.ofSlice w ht ad 0 c [] (by simp) (fun j u h => by cases h) (fun u h => by cases h)
   have hrun := run_append_nothing (P := P) w t t o.type e i ht hi av n capv hcap _ hsrc;have hw : Region.wanted o (yielded ops a.tmps)=true := by simp [Region.wanted,hgd]
   rw [if_pos hw];unfold Oper.wp execOp;simp only [ho,resolve,invoke,builtin,Sem.run_bind,Sem.run_pure,Result.andThen_ok,List.map_toArray,List.map_cons,List.map_nil,hs,hx,hrun];exact h _ _ (by rw [List.append_nil]; exact hown) (World.grownBy.refl _ _) (.inl rfl)
 . obtain ⟨ad,rfl,hc⟩ := hnews (by omega);exact step_ap hinfo ht hzs hsz hgd s x ho hs hown hbase ad m c news hx hl hc h1 h63 hbytes h
section
variable {α : Type} {K : Elt α} {e : TypeId} {base : Nat} {w w' : World} {X : List Nat} {l m : List α} {v v' : Value} {csl cm : List (List Value)}
theorem Grow.pushL (h : Grow K e base w X l v csl) (hc : cm.length=m.length) (hR : ∀ (i : Nat) (x : α) (c : List Value),m[i]?=some x->cm[i]?=some c->K.R w (busy v X) x c)
 (ho : w'.ownsRow base e K.sz v' (l.length + m.length) (csl.flatten ++ cm.flatten)) (hg : w.grownBy w' v.ownBlock) (hv : v'.ownBlock=v.ownBlock\/v'.ownBlock=some w.heap.size) :
 Grow K e base w' X (l ++ m) v' (csl ++ cm) := by
 have hK := h.row hg;have move : ∀ y c,K.R w (busy v X) y c->K.R w' (busy v' X) y c := fun y c hy => K.to hy hK (fun b hb => busy_mem.2 (.inl (by rw [Option.mem_toList] at hb; exact hb))) (fun b hb => by
  rcases busy_mem.1 hb with hm | hm
  . exact Z7_150
  . exact .inl (busy_mem.2 (.inr hm)))
 refine ⟨by rw [List.length_append,List.flatten_append]; exact ho,Nat.le_trans h.room hg.size,fun g hgb hm => ?_,fun b hb => Nat.lt_of_lt_of_le (h.lt b hb) hg.size,by rw [List.length_append,List.length_append,h.count,hc],fun i y c hy hcc => ?_⟩
 . exact Z7_146
 . rcases Nat.lt_or_ge i l.length with hi | hi
   . rw [List.getElem?_append_left hi] at hy;rw [List.getElem?_append_left (by rw [h.count]; exact hi)] at hcc;exact move _ _ (h.elts i y c hy hcc)
   . rw [List.getElem?_append_right hi] at hy;rw [List.getElem?_append_right (by rw [h.count]; exact hi),h.count] at hcc;exact move _ _ (hR _ y c hy hcc)
end
theorem Sep.pushL {α : Type} {K : Elt α} {e : TypeId} {base : Nat} {w w' : World} {fam : List Ob} {l m : List α} {v v' : Value} {csl cm : List (List Value)} (h : Sep w fam) (i : Nat) (hi : fam[i]?=some (gr K e base l v)) (hG : Grow K e base w (others fam i) l v csl) (hc : cm.length=m.length)
 (hR : ∀ (j : Nat) (x : α) (c : List Value),m[j]?=some x->cm[j]?=some c->K.R w (owns fam) x c)
 (ho : w'.ownsRow base e K.sz v' (l.length + m.length) (csl.flatten ++ cm.flatten)) (hg : w.grownBy w' v.ownBlock) (hv : v'.ownBlock=v.ownBlock\/v'.ownBlock=some w.heap.size) : Sep w' (fam.set i (gr K e base (l ++ m) v')) := by
 refine h.set_ i hi (hG.row hg) (fun b hb => .inl hb) (own_next hv) ⟨_,hG.pushL hc (fun j x c hx hcx => K.less (hR j x c hx hcx) (fun b _ hm => ?_)) ho hg hv⟩;exact Z7_124
theorem Sep.re {w : World} {fam fam' : List Ob} (h : Sep w fam) (H : ∀ (i : Nat) (o : Ob),fam'[i]?=some o->∃ j,fam[j]?=some o/\∀ b ∈ others fam' i,b ∈ others fam j) : Sep w fam' := by
 intro i o hi;obtain ⟨j,hj,hs⟩ := H i o hi;refine o.st (h j o hj) (Kept.refl w []) (fun b hb => by cases hb) (fun b hb => ⟨.inl (hs b hb),?_⟩);obtain ⟨m,om,-,hom,hbm⟩ := mem_others.1 (hs b hb);exact h.lt b (mem_owns.2 ⟨m,om,hom,hbm⟩)
theorem Sep.re4 {w : World} {a b c d : Ob} (h : Sep w [a,b,c,d]) : Sep w [c,a,b,d] := by
 refine h.re fun i o hi => ?_
 have key : ∀ i o,[c,a,b,d][i]?=some o->[a,b,c,d][if i=0 then 2 else if i=1 then 0 else if i=2 then 1 else i]?=some o := by
  intro i o hi
  match i,hi with
  | 0,hi => exact hi
  | 1,hi => exact hi
  | 2,hi => exact hi
  | 3,hi => exact hi
  | k + 4,hi => simp at hi
 refine ⟨_,key i o hi,fun q hq => ?_⟩;obtain ⟨m,om,hne,hom,hbm⟩ := mem_others.1 hq;refine mem_others.2 ⟨_,om,?_,key m om hom,hbm⟩;have hl1 := (List.getElem?_eq_some_iff.1 hi).1;have hl2 := (List.getElem?_eq_some_iff.1 hom).1;simp at hl1 hl2
 split <;> split <;> (try split) <;> (try split) <;> (try split) <;> (try split) <;> omega
section
variable {base rb : Nat} {day : Int} {fx : List Fx} {fa : Option Addr} {fl fc : Nat} {w w' : World} {s : RS} {vP vF : Value}
theorem RunJ.pushL {w1 : World} {csl cm : List (List Value)} {v' : Value} {m : List Prt} (h : RunJ base rb day fx fa fl fc w s vP vF)
 (hG : Grow ptK 88 base w (others (famR base rb day fx fa fl fc s vP vF) 0) s.ps vP csl)
 (hc : cm.length=m.length) (hR : ∀ (i : Nat) (x : Prt) (c : List Value),m[i]?=some x->cm[i]?=some c->ptK.R w (X3 rb vP vF) x c)
 (ho : w1.ownsRow base 88 7 v' (s.ps.length + m.length) (csl.flatten ++ cm.flatten)) (hg : w.grownBy w1 vP.ownBlock) (hv : v'.ownBlock=vP.ownBlock\/v'.ownBlock=some w.heap.size) :
 RunTo base rb day fx fa fl fc w (w1.setCell ⟨rb,2,none⟩ v') vP vF { s with ps := s.ps ++ m } v' vF := by
 have h1 := h.sep.pushL 0 rfl hG hc (fun i x c hx hcx => by rw [owns_famR]; exact hR i x c hx hcx) ho hg hv;have h2 := h1.store 2 rfl 2 v';have hj : RunJ base rb day fx fa fl fc (w1.setCell ⟨rb,2,none⟩ v') { s with ps := s.ps ++ m } v' vF := ⟨h2⟩;have hk := hG.row hg;exact Z7_88
theorem RunJ.begin {wB : World} {l : List Prt} {csl : List (List Value)} (hS : SlR fxK wB [] fx fa fl fc) (hb : Below wB.heap.size wB w) (hG : Grow ptK 88 wB.heap.size w [] l vP csl) :
 RunJ wB.heap.size w.heap.size day fx fa fl fc (w.alloc (.cells #[.int .i64 day,.slice fa fl fc,vP,.slice none 0 0,.bool false] 86)) ⟨l,[],false⟩ vP (.slice none 0 0) := by
 have h1 : Sep wB [sl fxK fx fa fl fc] := (Sep.nil wB).add (o := sl fxK fx fa fl fc) rfl hS;have h0 : Sep w [gr ptK 88 wB.heap.size l vP,sl fxK fx fa fl fc] := h1.cons (o := gr ptK 88 wB.heap.size l vP) (Kept.of_below hb _) (fun b hm => by
  have hm' : b ∈ vP.ownBlock.toList := hm;rw [Option.mem_toList] at hm';exact (hG.blt hm').1) ⟨csl,hG⟩
 have h2 := h0.new 86 #[.int .i64 day,.slice fa fl fc,vP,.slice none 0 0,.bool false];have hb2 : wB.heap.size<=(w.alloc (.cells #[.int .i64 day,.slice fa fl fc,vP,.slice none 0 0,.bool false] 86)).heap.size := by have := hb.size; simp; omega
 have h3 := h2.addGr flK 66 hb2;exact ⟨Sep.re4 h3⟩
end
end
section
noncomputable def chX (day : Int) (fx : List Fx) (l : List Prt) (at_ which : Int) (turned : Bool) : Int := if rightP l=true then chE day fx l at_ which turned else 1
theorem build_run (day : Int) (fa : Option Addr) (fl fc : Nat) (a : Option Addr) (n c : Nat) (W : World) : (Instr.build 86 #[(0,.agg #[.int .i64 day,.slice fa fl fc]),(1,.slice a n c)]).run Tryz.prog W=.ok (.agg #[.int .i64 day,.slice fa fl fc,.slice a n c,.slice none 0 0,.bool false]) W := by kernel_rfl
theorem build_runy {a : Act} {op : Oper} {x0 x1 : Operand} {day : Int} {fa : Option Addr} {fl fc : Nat} {p : Option Addr} {n c : Nat} (ho : op.op=.build 86 #[(0,x0),(1,x1)]) (h0 : a.eval x0=.agg #[.int .i64 day,.slice fa fl fc]) (h1 : a.eval x1=.slice p n c) :
 ∀ w,(execOp a.eval op).run Tryz.prog w=.ok (.value (.agg #[.int .i64 day,.slice fa fl fc,.slice p n c,.slice none 0 0,.bool false])) w := by
 intro w;unfold execOp;rw [ho];simp only [Sem.run_bind,List.map_toArray,List.map_cons,List.map_nil,h0,h1,build_run,Result.andThen_ok,Sem.run_pure]
theorem choose_any (day : Int) (fx : List Fx) (fa : Option Addr) (fl fc : Nat) (l : List Prt) (a : Option Addr) (n c : Nat) (at_ which : Int) (turned : Bool) (w : World) (hd : I64 day) (hat : I64 at_) (hF : SlR fxK w [] fx fa fl fc) (hS : SlR ptK w [] l a n c)
 (hk : ∀ p ∈ l,p.term.rk < 1000/\p.til.length<=1000/\∀ e ∈ p.til,e.rk<=1000) (hn : n<=1000) :
 Calls Tryz.prog 16 #[.slice a n c,.agg #[.int .i64 day,.slice fa fl fc],.int .i64 at_,.int .i64 which,.bool turned] w fun x w' => RcR w' (chX day fx l at_ which turned) (chS day fx l at_ which) x/\Below w.heap.size w w' := by
 obtain ⟨E,hE⟩ : ∃ E,E=chX day fx l at_ which turned := ⟨_,rfl⟩;obtain ⟨R,hR⟩ : ∃ R,R=chS day fx l at_ which := ⟨_,rfl⟩;rw [<- hE,<- hR];have hfl : l.length=n := hS.facts.1;have HB0 := LH9 (below_nT w (.cells #[.int .i64 day,.slice fa fl fc] 44));have E0 := LH9 (Mem.Blk.new w 44 #[.int .i64 day,.slice fa fl fc]);have HRT := LH9 (rightL_any l a n c (w.alloc (.cells #[.int .i64 day,.slice fa fl fc] 44)) (hS.kept (Kept.of_below HB0.o [])) hk hn);have HF := LH9 hF;have HS := LH9 hS;have HD := LH9 hd;have HN := LH9 hn;have hc7 : rightP l=true->at_ < 0\/(n : Int)<=at_->E=7 := fun h0 h => by rw [hE]; unfold chX; rw [if_pos h0]; unfold chE; rw [chP_out (by rw [hfl]; exact h)]
 have hc1 : rightP l=false->E=1 := fun h0 => by rw [hE]; unfold chX; rw [h0]; exact if_neg (by decide)
 have HC7 := LH9 hc7;have HC1 := LH9 hc1;have HE := LH9 hE;have HR := LH9 hR;have HFL := LH9 hfl;clear hE hR hfl hF hS hd hn hk hc7 hc1
 go_enter Tryz.func16,Tryz.ntmps16
 go_upto_region 1 with (fail);generalize w.alloc (.cells _ 44)=w0 at *;go_wp2_with fail;go_at_call 36;(with_reducible refine HRT.o.mono ?_);rintro y w1 ⟨rfl,b1⟩;have HB1 := bt9 HB0 b1;have E1 := LH9 (E0.o.below b1);clear b1 HRT E0 HB0
 cases hrp : rightP l with
 | false =>
   have H7 := LH9 (HC1.o hrp);clear hrp;go_wp2_with fail;go_ret3;exact ⟨RcR.err H7.o (by decide),HB1.o⟩
 | true =>
 by_cases h1 : at_ < 0
 . have H7 := LH9 (HC7.o hrp (.inl h1));clear hrp;go_wp2_with fail;go_ret3;exact ⟨RcR.err H7.o (by decide),HB1.o⟩
 by_cases h2 : (n : Int)<=at_
 . have H7 := LH9 (HC7.o hrp (.inr h2));clear hrp;go_wp2_with fail;go_ret3;exact ⟨RcR.err H7.o (by decide),HB1.o⟩
 obtain ⟨k,rfl⟩ : ∃ k : Nat,at_=(k : Int) := ⟨at_.toNat,by omega⟩;have hlt : k < n := by omega
 have hS1 := HS.o.kept (Kept.of_below HB1.o []);obtain ⟨b,o,p,ua,uc,op,nm,xa,xl,xc,ka,kl,kc,ha,hbl,-,hp,hop,hf,hU,hT,u0,u1,u2,u3,u4,u5,u6⟩ := pt_at hS1 k hlt;have hpb : partB p=true := by
  unfold rightP at hrp;rw [Bool.and_eq_true] at hrp;exact List.all_eq_true.1 hrp.1 p (List.mem_of_getElem? hp)
 have hec := HE.o;unfold chX at hec;rw [if_pos hrp] at hec;unfold chE at hec;rw [chP_in hp] at hec;have her := HR.o;unfold chS at her;rw [chP_in hp,Int.toNat_natCast] at her;dsimp only at hec her;obtain ⟨f,tn,un,t⟩ := p;dsimp only at hop hf hU hT u0 u1 u2 u3 u4 u5 u6;have HEC := LH9 hec;have HER := LH9 her;have HPB := LH9 hpb;have HT := LH9 hT;have HU := LH9 hU;have HFI := LH9 hf;have HLT := LH9 hlt;have HS1 := LH9 hS1;have HCL := LH9 (clonePt_any (l.take k) [] a k c w1.drew ((hS1.kept (Kept.of_below (Below.refl w1.heap.size w1).drew [])).take k (by omega)) (fun b hm => by cases hm) (by have := HN.o; omega));have HUW : Hid (w1.cell? ⟨b,o + k * 7,none⟩=some (.int .i64 f)/\w1.cell? ⟨b,o + k * 7 + 1,none⟩=some (.bool tn)/\w1.cell? ⟨b,o + k * 7 + 2,none⟩=some (.slice ua un.length uc)/\w1.cell? ⟨b,o + k * 7 + 3,none⟩=some (.int .i64 op)/\w1.cell? ⟨b,o + k * 7 + 4,none⟩=some (.string nm)/\w1.cell? ⟨b,o + k * 7 + 5,none⟩=some (.slice xa xl xc)/\w1.cell? ⟨b,o + k * 7 + 6,none⟩=some (.slice ka kl kc)) := ⟨u0,u1,u2,u3,u4,u5,u6⟩;have hlt' : (k : Int) < (n : Int) := by omega
 have k0 : (0 : Int)<=(k : Int) := by omega
 have k1 : (k : Int)<=1000 := by have := HN.o; omega
 have hkc : (k : Int)<=(c : Int) := by have := hS1.facts.2.1; omega
 have HSZ := LH9 HB1.o.size;have HA := LH9 ha;have HBL := LH9 hbl;obtain ⟨e0,e1,-,-⟩ := E1.o.two;clear HE HR hec her hpb hT hU hf hp hop hlt hbl h1 h2 HC7 HC1 hrp hS1 u0 u1 u2 u3 u4 u5 u6;subst ha;go_upto_region 5 with (fail);refine wp_region_till (S := fun W => W.cell? ⟨w.heap.size,0,none⟩=some (.int .i64 day)/\W.cell? ⟨w.heap.size,1,none⟩=some (.slice fa fl fc)) 5 (by kernel_rfl) ?_;refine tk 0 ⟨e0,e1⟩ ?_;refine tk 1 ⟨e0,e1⟩ ?_;refine tk 2 ⟨e0,e1⟩ ?_;refine tk 3 ⟨e0,e1⟩ ?_;refine t19 4 (fun K' hK=>?_);go_simp;go_at_call 37;(with_reducible refine HCL.o.mono ?_);rintro y w2 ⟨⟨v,rfl,csl,hG⟩,b2⟩;obtain ⟨a2,cap2,rfl⟩ := own_slice hG.own;have hkl : (l.take k).length=k := by rw [List.length_take,HFL.o]; omega
 rw [hkl] at hG ⊢;have hb2 : Below w1.heap.size w1 w2 := (Below.refl w1.heap.size w1).drew.trans b2;have HJ3 := LH9 (RunJ.begin (wB := w1.drew) (day := day) (HF.o.kept (Kept.of_below (HB1.o.trans ((Below.refl w1.heap.size w1).drew.mono HB1.o.size)) [])) b2 hG);have HX3 : Hid (∀ q ∈ X3 w2.heap.size (.slice a2 k cap2) (.slice none 0 0),w1.heap.size<=q) := by
  intro q hq;unfold X3 at hq;rcases List.mem_append.1 hq with h | h
  . rw [Option.mem_toList] at h; exact (hG.blt h).1
  . rcases List.mem_append.1 h with h | h
    . simp [Value.ownBlock] at h
    . rw [List.mem_singleton] at h; have := hb2.size; omega
 have HW3 := LH9 (hb2.trans ((below_nT w2 (.cells #[.int .i64 day,.slice fa fl fc,.slice a2 k cap2,.slice none 0 0,.bool false] 86)).mono hb2.size));refine hK _ _ ⟨cu9 e0 hb2,cu9 e1 hb2⟩ ?_;clear hK K' b2 hb2 hG hkl e0 e1 HCL
 try simp only [Act.put,zp1,zp2,zp3,zp4,zp5,zp6]
 refine tl9 (fun K' hK=>?_);refine wp_of_run (by rfl) (build_runy rfl rfl rfl _) ?_;refine hK _ _ ?_;clear hK K'
 try simp only [Act.put,zp1,zp2,zp3,zp4,zp5,zp6]
 refine any_one (i := 6) (by kernel_rfl) rfl (fun K' hK => ?_);go_simp;refine hK _ _ ?_;clear hK K';obtain ⟨rb,hrb⟩ : ∃ g,g=w2.heap.size := ⟨_,rfl⟩;rw [<- hrb] at HJ3 HX3;rw [show Value.pointer (some ⟨w2.heap.size,0,none⟩)=.pointer (some ⟨rb,0,none⟩) by rw [hrb]];clear hrb;generalize w2.alloc (.cells _ 86)=w3 at *
 try simp only [Act.put,zp1,zp2,zp3,zp4,zp5,zp6]
 refine ak 7 ?_;refine wd9 ?_;have hless : ∀ q,q < w1.heap.size->q ∈ X3 rb (.slice a2 k cap2) (.slice none 0 0)->q ∈ ([] : List Nat) := fun q hq hm => by have := HX3.o q hm; omega
 have HNB : Hid (b ∉ X3 rb (.slice a2 k cap2) (.slice none 0 0)) := fun hm => by have := HX3.o b hm; have := HBL.o; omega
 have HT3 := LH9 ((HT.o.less hless).kept (Kept.of_below HW3.o _));have HU3 := LH9 ((HU.o.less hless).kept (Kept.of_below HW3.o _));have HS3 := LH9 ((HS1.o.less hless).kept (Kept.of_below HW3.o _));have HCH := LH9 (chosen_any w1.drew.heap.size rb day fx fa fl fc ⟨f,tn,un,t⟩ which turned ⟨l.take k,[],false⟩ (.slice a2 k cap2) (.slice none 0 0) ua uc _ w3 HD.o rfl HJ3.o HT3.o HU3.o HPB.o);have HBW3 := bu9 HB1 HW3;obtain ⟨u0,u1,u2,u3,u4,u5,u6⟩ := HUW.o;replace u0 := cu9 u0 HW3.o;replace u1 := cu9 u1 HW3.o;replace u2 := cu9 u2 HW3.o;replace u3 := cu9 u3 HW3.o;replace u4 := cu9 u4 HW3.o;replace u5 := cu9 u5 HW3.o;replace u6 := cu9 u6 HW3.o;have HUV : Hid (w3.cell? ⟨b,o + k * 7,none⟩=some (.int .i64 f)/\w3.cell? ⟨b,o + k * 7 + 1,none⟩=some (.bool tn)/\w3.cell? ⟨b,o + k * 7 + 2,none⟩=some (.slice ua un.length uc)/\w3.cell? ⟨b,o + k * 7 + 3,none⟩=some (.int .i64 op)/\w3.cell? ⟨b,o + k * 7 + 4,none⟩=some (.string nm)/\w3.cell? ⟨b,o + k * 7 + 5,none⟩=some (.slice xa xl xc)/\w3.cell? ⟨b,o + k * 7 + 6,none⟩=some (.slice ka kl kc)) := ⟨u0,u1,u2,u3,u4,u5,u6⟩;clear hless HS1 HT HU HUW HS;go_wp2_with fail;go_at_call 38;(with_reducible refine HCH.o.mono ?_);rintro y w4 ⟨o9,m9,a9,b9,al9,ac9,bl9,bc9,rfl,hfr,hz⟩;have HFR := LH9 hfr;have HZ := LH9 hz;have hb4 := hfr.below (B := w.heap.size) HBW3.o.size (fun q hq => by have := HX3.o q hq; have := HSZ.o; omega);have bn := below_nT w4 (.cells #[.int .i64 o9,.string m9,.slice a9 al9 ac9,.slice b9 bl9 bc9] 41);have TB := LH9 (Mem.Blk.new w4 41 #[.int .i64 o9,.string m9,.slice a9 al9 ac9,.slice b9 bl9 bc9]);have HW5 := LH9 bn;have HB5 := LH9 ((HBW3.o.trans hb4).trans (bn.mono (HBW3.o.trans hb4).size));obtain ⟨C,hC⟩ : ∃ C,C=choE day fx ⟨f,tn,un,t⟩ which turned := ⟨_,rfl⟩;rw [<- hC] at HZ HEC ⊢;clear hfr hz hb4 bn hC HCH u0 u1 u2 u3 u4 u5 u6;go_upto_region 7 with (fail);generalize w4.alloc (.cells _ 41)=w5 at *;obtain ⟨tb,htb⟩ : ∃ g,g=w4.heap.size := ⟨_,rfl⟩;rw [<- htb] at TB;rw [show Value.pointer (some ⟨w4.heap.size,0,none⟩)=.pointer (some ⟨tb,0,none⟩) by rw [htb]];clear htb;by_cases hC0 : C ≠ 0
 . have HE9 := LH9 (HEC.o.trans (if_pos hC0));have hn : (C != 0)=true := bne_iff_ne.2 hC0;have HC0 := LH9 hC0;clear hC0;go_wp2_with fail;go_ret3;exact ⟨RcR.err HE9.o HC0.o,HB5.o⟩
 obtain rfl : C=0 := Classical.not_not.1 hC0;obtain ⟨hr,u,hu,hRu⟩ := HZ.o rfl;have hu' : t.terms[which.toNat]?=some u := hu;obtain ⟨g1,g2,g3,-⟩ := part_get HPB.o;have hru := rT_kid g1 (List.mem_of_getElem? hu');have HSM : Hid (un.length<=16/\u.nd<=200/\u.rk<=16/\bT u=true) := ⟨g3,(rT_get hru).1,(rT_get hru).2.1,(rT_get hru).2.2⟩;have HTK : Hid ((l.take k).length<=1000) := by show _<=_; rw [List.length_take]; omega
 have hch : chA day fx ⟨f,tn,un,t⟩ which=acq day fx u f tn un s0 := by
  show acq day fx (t.terms.getD which.toNat zT) f tn un s0=_;rw [List.getD_eq_getElem?_getD,hu']; rfl
 have hac := acq_pre (day := day) (fx := fx) HSM.o.2.2.2 (l.take k) f tn un;rw [hch] at HEC HER;obtain ⟨A,hA⟩ : ∃ A,A=acq day fx u f tn un s0 := ⟨_,rfl⟩;rw [<- hA] at HEC HER hac;have HAC := LH9 hac;have HJ5 := LH9 (hr.trans (hr.run.below HW5.o));have HRU := LH9 (hRu.kept (Kept.of_below HW5.o _));have HLN : Hid (A.ps.length<=200) := by
  have h := (acq_len day fx u.rk u (Nat.le_refl _) HSM.o.2.2.2 f tn un s0).1;have h2 : u.nd<=200 := HSM.o.2.1;have h3 : A.ps.length<=0 + u.nd := by rw [hA]; exact h
  show _<=_;omega
 clear hC0 hr hRu hu hu' g1 g2 g3 hru hch hac hA HZ HFR;obtain ⟨u0,u1,u2,u3,u4,u5,u6⟩ := HUV.o;replace u0 := HJ5.o.fr.cell u0 HNB.o;replace u1 := HJ5.o.fr.cell u1 HNB.o;replace u2 := HJ5.o.fr.cell u2 HNB.o;replace u3 := HJ5.o.fr.cell u3 HNB.o;replace u4 := HJ5.o.fr.cell u4 HNB.o;replace u5 := HJ5.o.fr.cell u5 HNB.o;replace u6 := HJ5.o.fr.cell u6 HNB.o;obtain ⟨y0,y1,y2,y3,-,-,-,-⟩ := blk4 TB.o;have hnn : ((0 : Int) != 0)=false := rfl;go_upto_region 9 with (fail);clear hnn;refine wp_region_till (S := fun W => W.cell? ⟨tb,0,none⟩=some (.int .i64 o9)/\W.cell? ⟨tb,1,none⟩=some (.string m9)/\W.cell? ⟨tb,2,none⟩=some (.slice a9 al9 ac9)/\W.cell? ⟨tb,3,none⟩=some (.slice b9 bl9 bc9)/\W.cell? ⟨b,o + k * 7,none⟩=some (.int .i64 f)/\W.cell? ⟨b,o + k * 7 + 1,none⟩=some (.bool tn)/\W.cell? ⟨b,o + k * 7 + 2,none⟩=some (.slice ua un.length uc)/\W.cell? ⟨b,o + k * 7 + 3,none⟩=some (.int .i64 op)/\W.cell? ⟨b,o + k * 7 + 4,none⟩=some (.string nm)/\W.cell? ⟨b,o + k * 7 + 5,none⟩=some (.slice xa xl xc)/\W.cell? ⟨b,o + k * 7 + 6,none⟩=some (.slice ka kl kc)) 7 (by kernel_rfl) ?_;refine tk 0 ⟨y0,y1,y2,y3,u0,u1,u2,u3,u4,u5,u6⟩ ?_;refine tk 1 ⟨y0,y1,y2,y3,u0,u1,u2,u3,u4,u5,u6⟩ ?_;refine tk 2 ⟨y0,y1,y2,y3,u0,u1,u2,u3,u4,u5,u6⟩ ?_;refine tk 3 ⟨y0,y1,y2,y3,u0,u1,u2,u3,u4,u5,u6⟩ ?_;refine tk 4 ⟨y0,y1,y2,y3,u0,u1,u2,u3,u4,u5,u6⟩ ?_;refine tk 5 ⟨y0,y1,y2,y3,u0,u1,u2,u3,u4,u5,u6⟩ ?_;refine t19 6 (fun K' hK=>?_);go_simp;have b0 : Below w5.heap.size w5 w5.drew := (Below.refl w5.heap.size w5).drew;(with_reducible refine (partWith_any _ _ _ _ _ _ _ _ _ _ _ _ _ _ _ _ _ _ _ _ _ _).mono ?_);rintro y w8 ⟨rfl,b1⟩;have bt := b0.trans (b1.mono b0.size);have HJ8 := LH9 (HJ5.o.trans (HJ5.o.run.below bt));have HRU8 := LH9 (HRU.o.kept (Kept.of_below bt _));refine hK _ _ ⟨cu9 y0 bt,cu9 y1 bt,cu9 y2 bt,cu9 y3 bt,cu9 u0 bt,cu9 u1 bt,cu9 u2 bt,cu9 u3 bt,cu9 u4 bt,cu9 u5 bt,cu9 u6 bt⟩ ?_;clear hK K' b0 b1 bt y0 y1 y2 y3 u0 u1 u2 u3 u4 u5 u6
 try simp only [Act.put,zp1,zp2,zp3,zp4,zp5,zp6]
 refine tl9 (fun K' hK=>?_);go_simp;have hic := acquire_any w1.drew.heap.size rb day fx fa fl fc HD.o u.rk u (Nat.le_refl _) HSM.o.2.2.2;unfold AcqC at hic;have huu := HJ8.o.slr HU3.o;(with_reducible refine (hic f tn un ⟨l.take k,[],false⟩ (.slice a2 k cap2) (.slice none 0 0) ua uc [.int .i64 o9,.string m9,.slice a9 al9 ac9,.slice b9 bl9 bc9] w8 HFI.o HJ8.o.run HRU8.o huu (by have := HSM.o; omega) (by have := HSM.o; have := HTK.o; show (l.take k).length + _<=_; omega) (by have := HSM.o; simp; omega)).mono ?_);rintro y w9 ⟨rfl,vP',vF',hR9⟩;rw [HAC.o] at hR9;have HR9 := LH9 (HJ8.o.trans hR9);clear hic huu hR9;refine hK _ _ ?_;clear hK K' HJ8 HRU8
 try simp only [Act.put,zp1,zp2,zp3,zp4,zp5,zp6]
 refine wd9 ?_;have d1 : w9.cell? ⟨rb,2,none⟩=some vP' := HR9.o.run.cells.cell 2;have b0 : Below w9.heap.size w9 w9.drew := (Below.refl w9.heap.size w9).drew;have HRD := LH9 (HR9.o.trans (HR9.o.run.below b0));have hS9 := HRD.o.slr HS3.o;have hfm := hS9.from (k + 1) (by have := HLT.o; omega);have hrr : (if c=k + 1 then some (⟨b,o,none⟩ : Addr) else Option.map (fun p => p.add ((k + 1) * ptK.sz)) (some (⟨b,o,none⟩ : Addr)))=if c=k + 1 then some ⟨b,o,none⟩ else some ⟨b,o + (k + 1) * 7,none⟩ := by
  have : (⟨b,o,none⟩ : Addr).add ((k + 1) * ptK.sz)=⟨b,o + (k + 1) * 7,none⟩ := Mem.add_off b o _;simp only [Option.map_some,this]
 rw [hrr] at hfm;obtain ⟨ra,hra⟩ : ∃ ra,ra=(if c=k + 1 then some (⟨b,o,none⟩ : Addr) else some ⟨b,o + (k + 1) * 7,none⟩) := ⟨_,rfl⟩;have HRA := LH9 hra;rw [<- hra] at hfm;obtain ⟨ts,l1,l2,l3,l4,l5⟩ := slR_news hfm;have L1 := LH9 l1;have L2 := LH9 l2;have L3 := LH9 l3;have L4 := LH9 l4;have L5 := LH9 l5;have HKN : Hid (n<=1000/\k < n/\n<=c) := ⟨HN.o,HLT.o,hS9.facts.2.1⟩;have HDL : Hid ((l.drop (k + 1)).length=n - (k + 1)) := by show _=_; rw [List.length_drop,HFL.o]
 have hn1 : ((k : Nat) : Int) + 1<=((n : Nat) : Int) := by omega
 have hn2 : ((n : Nat) : Int)<=((c : Nat) : Int) := by have := HKN.o; omega
 have hq1 : IntKind.i64.wrap (((k : Nat) : Int) + 1)=((k : Nat) : Int) + 1 := IntWalk.i64_in _ (by omega);have hq2 : (((k : Nat) : Int) + 1).toNat=k + 1 := by omega
 have hq3 : (0 : Int)<=((k : Nat) : Int) + 1 := by omega
 clear l1 l2 l3 l4 l5 hfm hrr hra hS9;go_upto_region 10 with (fail);refine wp_region_any (by kernel_rfl) ?_;refine ak 0 ?_;refine any_of_till (n := 9) (S := fun W => W.cell? ⟨rb,2,none⟩=some vP') _ _ _ _ ?_;refine tk 1 d1 ?_;refine tk 2 d1 ?_;refine tk 3 d1 ?_;refine tk 4 d1 ?_;refine tk 5 d1 ?_;refine tk 6 d1 ?_;refine tk 7 d1 ?_;refine tk 8 d1 ?_;rw [<- HRA.o];refine tl9 (fun K' hK=>?_);rw [show ({ heap := w9.heap,tape := w9.tape,drawn := w9.drawn + 1,os := w9.os,output := w9.output } : World)=w9.drew from rfl];generalize w9.drew=wd at *;have HSP : Hid ((shP (l.take k) A).ps.length<=2000) := by have := HTK.o; have := HLN.o; show (l.take k ++ A.ps).length<=_; rw [List.length_append]; omega
 obtain ⟨csl,hGr⟩ := HRD.o.run.sep.at 0 rfl;refine step_apZ infoPt Tryz.underlying35 rfl (by decide) rfl (.tmp 62) (.tmp 66) rfl rfl hGr.own hGr.room ra (n - (k + 1)) (c - (k + 1)) ts.flatten rfl L3.o L5.o L4.o (by have := HSP.o; have := HKN.o; unfold maxLen; omega) (by have := HSP.o; have := HKN.o; omega) ?_;intro v' w10 og gg hv';rw [<- HDL.o] at og;obtain ⟨N9,hN9⟩ : ∃ m,m=(shP (l.take k) A).ps.length + (l.drop (k + 1)).length := ⟨_,rfl⟩;have hv : ∃ av capv,v'=.slice av N9 capv := by obtain ⟨x,y,h⟩ := own_slice og; exact ⟨x,y,by rw [h,hN9]⟩
 obtain ⟨av,capv,rfl⟩ := hv;have hs10 := HRD.o.run.sep.pushL 0 rfl hGr L1.o (fun i x c hx hc => by rw [owns_famR]; exact L2.o i x c hx hc) og gg hv';have MB := hs10.blk 2 rfl;have m4 : w10.cell? ⟨rb,2,none⟩=some vP' := MB.cell 2;have m5 : w10.frozen? ⟨rb,2,none⟩=false := MB.frozen 2;have hpl := HRD.o.run.pushL hGr L1.o L2.o og gg hv';rw [show ({ shP (l.take k) A with ps := (shP (l.take k) A).ps ++ l.drop (k + 1) } : RS)=R from HER.o.symm] at hpl;have HR11 := LH9 (HRD.o.trans hpl);clear hN9 hs10 MB hpl og gg hv' hGr hn1 hn2 hq1 hq2 hq3 L1 L2 L3 L4 L5 d1 b0;refine hK _ _ ?_;clear hK K'
 try simp only [Act.put,zp1,zp2,zp3,zp4,zp5,zp6]
 refine ak 10 ?_;refine ak 11 ?_;refine any_one (i := 12) (by kernel_rfl) rfl (fun K' hK => ?_);go_simp;refine hK _ _ ?_;clear hK K' m4 m5;refine wd9 ?_;generalize w10.setCell ⟨rb,2,none⟩ (.slice av N9 capv)=w11 at *;have HB11 := LH9 (HBW3.o.trans (HR11.o.fr.below (B := w.heap.size) HBW3.o.size (fun q hq => by have := HX3.o q hq; have := HSZ.o; omega)));have hrb : R.bad=A.bad := by rw [HER.o]
 cases hbd : R.bad with
 | true =>
   have HE9 : Hid (E=2) := HEC.o.trans ((if_neg (by decide)).trans (if_pos (by rw [<- hrb]; exact hbd)));have HTL := LH9 (told_bad _ rb day fx fa fl fc R _ _ w11 HR11.o.run hbd);clear hbd hrb;go_wp2_with fail;go_at_call 28;(with_reducible refine HTL.o.mono ?_);rintro y w12 ⟨rfl,b12⟩;have HB12 := bt9 HB11 b12;clear b12 HTL;go_wp2_with fail;go_ret3;exact ⟨RcR.err HE9.o (by decide),HB12.o⟩
 | false =>
   have HE9 : Hid (E=0) := HEC.o.trans ((if_neg (by decide)).trans (if_neg (by rw [<- hrb,hbd]; decide)));obtain ⟨pa,pc,qa,qc,ie,rfl,hO1,hO2⟩ := HR11.o.run.o;injection ie with i1 i2 i3;subst i1; subst i2; subst i3;have HO1 := LH9 hO1;have HO2 := LH9 hO2;have HTL := LH9 (told_ok _ rb day fx fa fl fc R av R.ps.length capv qa R.fs.length qc w11 HR11.o.run hbd);clear hbd hrb hO1 hO2;go_wp2_with fail;go_at_call 28;(with_reducible refine HTL.o.mono ?_);rintro y w12 ⟨rfl,b12⟩;have HB12 := bt9 HB11 b12;have HFN : Hid (RcR w12 E R (.returned (.tuple #[.slice av R.ps.length capv,.slice qa R.fs.length qc,.int .i64 0]))) := .inr ⟨HE9.o,av,capv,qa,qc,rfl,HO1.o.kept (Kept.of_below b12 _),HO2.o.kept (Kept.of_below b12 _)⟩;clear b12 HTL;go_wp2_with fail;go_ret3;exact ⟨HFN.o,HB12.o⟩
end
section
noncomputable def chC (day : Int) (fx : List Fx) (l : List Prt) : Nat->List Int
 | 0 => []
 | k + 1 => chC day fx l k ++ (match l[k]? with | some p => if choE day fx p 0 p.turned=0 then [((k : Nat) : Int)] else [] | none => [])
noncomputable def chO (day : Int) (fx : List Fx) (l : List Prt) : List Int := if rightP l=true then chC day fx l l.length else []
theorem chC_yes {day : Int} {fx : List Fx} {l : List Prt} {k : Nat} {p : Prt} (h : l[k]?=some p) (h0 : choE day fx p 0 p.turned=0) : chC day fx l (k + 1)=chC day fx l k ++ [((k : Nat) : Int)] := by
 rw [chC,h]; dsimp only; rw [if_pos h0]
theorem chC_no {day : Int} {fx : List Fx} {l : List Prt} {k : Nat} {p : Prt} (h : l[k]?=some p) (h0 : choE day fx p 0 p.turned ≠ 0) : chC day fx l (k + 1)=chC day fx l k := by
 rw [chC,h]; dsimp only; rw [if_neg h0,List.append_nil]
theorem chC_len (day : Int) (fx : List Fx) (l : List Prt) (k : Nat) : (chC day fx l k).length<=k := by
 induction k with
 | zero => exact Nat.le_refl _
 | succ k ih =>
   rw [chC,List.length_append]
   split
   . split
     . simp; omega
     . simp; omega
   . simp; omega
theorem choices_any (day : Int) (fx : List Fx) (fa : Option Addr) (fl fc : Nat) (l : List Prt) (a : Option Addr) (n c : Nat) (w : World) (hd : I64 day) (hF : SlR fxK w [] fx fa fl fc) (hS : SlR ptK w [] l a n c)
 (hk : ∀ p ∈ l,p.term.rk < 1000/\p.til.length<=1000/\∀ e ∈ p.til,e.rk<=1000) (hn : n<=1000) :
 Calls Tryz.prog 18 #[.slice a n c,.agg #[.int .i64 day,.slice fa fl fc]] w fun x w' => (∃ a' c',x=.returned (.slice a' (chO day fx l).length c')/\SlR i64K w' [] (chO day fx l) a' (chO day fx l).length c')/\Below w.heap.size w w' := by
 have hfl : l.length=n := hS.facts.1;have HB0 := LH9 (below_nT w (.cells #[.int .i64 day,.slice fa fl fc] 44));have E0 := LH9 (Mem.Blk.new w 44 #[.int .i64 day,.slice fa fl fc]);have HRT := LH9 (rightL_any l a n c (w.alloc (.cells #[.int .i64 day,.slice fa fl fc] 44)) (hS.kept (Kept.of_below HB0.o [])) hk hn);have HF := LH9 hF;have HS := LH9 hS;have HD := LH9 hd;have HN := LH9 hn;have HFL := LH9 hfl;obtain ⟨O,hO⟩ : ∃ O,O=chO day fx l := ⟨_,rfl⟩;have HO := LH9 hO;rw [<- hO];clear hfl hF hS hd hn hk hO
 go_enter Tryz.func18,Tryz.ntmps18
 go_upto_region 1 with (fail);generalize w.alloc (.cells _ 44)=w0 at *;go_wp2_with fail;go_at_call 36;(with_reducible refine HRT.o.mono ?_);rintro y w1 ⟨rfl,b1⟩;have HB1 := bt9 HB0 b1;have E1 := LH9 (E0.o.below b1);clear b1 HRT E0 HB0
 cases hrp : rightP l with
 | false =>
   have HO0 : Hid (O=[]) := by show _=_; rw [HO.o]; unfold chO; rw [hrp]; exact if_neg (by decide)
   clear hrp;go_wp2_with fail;go_ret;exact ⟨⟨none,0,by rw [HO0.o]; rfl,by rw [HO0.o]; exact SlR.nil _ _ _⟩,HB1.o⟩
 | true =>
 have HPA : Hid (∀ p ∈ l,partB p=true) := by
  unfold rightP at hrp;rw [Bool.and_eq_true] at hrp;exact fun p hp => List.all_eq_true.1 hrp.1 p hp
 have HO1 : Hid (O=chC day fx l n) := by show _=_; rw [HO.o]; unfold chO; rw [if_pos hrp,HFL.o]
 clear hrp HO;go_upto_region 5 with (fail)
 go_loopw [5,16] (fun v i wr => ∃ (k : Nat),i=.int .i64 (k : Nat)/\k<=n/\Hid (Below w1.heap.size w1 wr)/\Hid (Sep wr [gr i64K 3 w1.heap.size (chC day fx l k) v])) (fun _ i _ => n - (intOf i).toNat)
 case atStart => exact ⟨0,rfl,Nat.zero_le _,Below.refl _ _,(Sep.nil w1).addGr i64K 3 (Nat.le_refl _)⟩
 case round =>
  rename World => wr
  obtain ⟨k,rfl,hk,HB,HS1⟩ := hrel;by_cases hlt : k < n
  . have hlt' : (k : Int) < (n : Int) := by omega
    have k0 : (0 : Int)<=(k : Int) := by omega
    have k1 : (k : Int)<=1000 := by have := HN.o; omega
    have HBW := bu9 HB1 HB;obtain ⟨b,o,p,ua,uc,op,nm,xa,xl,xc,ka,kl,kc,ha,hbl,-,hp,hop,hf,hU,hT,u0,u1,u2,u3,u4,u5,u6⟩ := pt_at (HS.o.kept (Kept.of_below HBW.o [])) k hlt;have HPB := LH9 (HPA.o p (List.mem_of_getElem? hp));have HYES := LH9 (fun h => chC_yes (day := day) (fx := fx) hp h);have HNO := LH9 (fun h => chC_no (day := day) (fx := fx) hp h);obtain ⟨f,tn,un,t⟩ := p;dsimp only at hop hf hU hT u0 u1 u2 u3 u4 u5 u6;have HT := LH9 hT;have HU := LH9 hU;have HLT := LH9 hlt;have HA := LH9 ha;have b4 := below_nT wr (.cells #[.int .i64 f,.bool tn,.slice ua un.length uc,.int .i64 op,.string nm,.slice xa xl xc,.slice ka kl kc] 88);have BP4 := LH9 (Mem.Blk.new wr 88 #[.int .i64 f,.bool tn,.slice ua un.length uc,.int .i64 op,.string nm,.slice xa xl xc,.slice ka kl kc]);have HW4 := LH9 b4;have E4 := LH9 ((E1.o.below HB.o).below b4);clear hT hU hf hp hop hlt b4 hbl;subst ha;go_upto_region 7 with (fail);generalize wr.alloc (.cells _ 88)=w4 at *;obtain ⟨pb,hpb⟩ : ∃ g,g=wr.heap.size := ⟨_,rfl⟩;rw [<- hpb] at BP4;rw [show Value.pointer (some ⟨wr.heap.size,0,none⟩)=.pointer (some ⟨pb,0,none⟩) by rw [hpb]];clear hpb u0 u1 u2 u3 u4 u5 u6;obtain ⟨e0,e1,-,-⟩ := E4.o.two;have HJ5 := LH9 (RunJ.start (day := day) (HF.o.kept (Kept.of_below (HBW.o.trans (HW4.o.mono HBW.o.size)) [])) (Nat.le_refl _));have HW5 := LH9 (HW4.o.trans ((below_nT w4 (.cells #[.int .i64 day,.slice fa fl fc,.slice none 0 0,.slice none 0 0,.bool false] 86)).mono HW4.o.size));have BP5 := LH9 (BP4.o.alloc (.cells #[.int .i64 day,.slice fa fl fc,.slice none 0 0,.slice none 0 0,.bool false] 86));have HRB := LH9 HW4.o.size;go_upto_region 8 with (fail);generalize w4.alloc (.cells _ 86)=w5 at *;obtain ⟨rb,hrb⟩ : ∃ g,g=w4.heap.size := ⟨_,rfl⟩;rw [<- hrb] at HJ5 HRB;rw [show Value.pointer (some ⟨w4.heap.size,0,none⟩)=.pointer (some ⟨rb,0,none⟩) by rw [hrb]];clear hrb e0 e1 BP4;have hless : ∀ q,q < wr.heap.size->q ∈ X3 rb (.slice none 0 0) (.slice none 0 0)->q ∈ ([] : List Nat) := fun q hq hm => by
     rw [X3_nil,List.mem_singleton] at hm;have := HRB.o;omega
    have hT5 := (HT.o.less hless).kept (Kept.of_below HW5.o _);have hU5 := (HU.o.less hless).kept (Kept.of_below HW5.o _);have HCH := LH9 (chosen_any rb rb day fx fa fl fc ⟨f,tn,un,t⟩ 0 tn s0 (.slice none 0 0) (.slice none 0 0) ua uc _ w5 HD.o rfl HJ5.o hT5 hU5 HPB.o);obtain ⟨c0,c1,c2,c3,c4,c5,c6⟩ := blk7 BP5.o;clear hless hT5 hU5;go_wp2_with fail;go_at_call 38;(with_reducible refine HCH.o.mono ?_);rintro y w6 ⟨o9,m9,a9,b9,al9,ac9,bl9,bc9,rfl,hfr,-⟩;have hb6 := hfr.below (B := wr.heap.size) HW5.o.size (fun q hq => by
     rw [X3_nil,List.mem_singleton] at hq;have := HRB.o;omega)
    have hw6 := HW5.o.trans hb6;have bn := below_nT w6 (.cells #[.int .i64 o9,.string m9,.slice a9 al9 ac9,.slice b9 bl9 bc9] 41);have HW7 := LH9 (hw6.trans (bn.mono hw6.size));obtain ⟨C,hC⟩ : ∃ C,C=choE day fx ⟨f,tn,un,t⟩ 0 tn := ⟨_,rfl⟩;rw [<- hC] at HYES HNO ⊢;clear hfr hb6 hw6 bn hC HCH c0 c1 c2 c3 c4 c5 c6 BP5;go_upto_region 9 with (fail);generalize w6.alloc (.cells _ 41)=w7 at *;have HS7 := LH9 (HS1.o.below HW7.o);have HB7 := bu9 HB HW7;by_cases hC0 : C=0
    . have HCC := LH9 (HYES.o hC0);have hn0 : (C == 0)=true := by rw [hC0]; rfl
      have hlen := chC_len day fx l k;have HLE : Hid ((chC day fx l k).length<=1000) := by have := HN.o; have := HLT.o; show _<=_; omega
      have hbn := below_nT w7 (.cells #[.int .i64 (k : Nat)] 3);have HS8 := LH9 (HS7.o.below hbn);have HB8 := bt9 HB7 hbn;obtain ⟨csl,hG⟩ := HS8.o.at 0 rfl;have HG := LH9 hG;clear hC0 hlen hbn hG HS7 HB7;go_wp2_with (at_builtin; refine ap_row infoI Tryz.underlying30 rfl (by decide) rfl (.tmp 34) (.tmp 36) rfl rfl HG.o.own HG.o.room ⟨w7.heap.size,0,none⟩ 1 1 [.int .i64 (k : Nat)] rfl rfl (lit_cells_at w7 #[.int .i64 (k : Nat)] 3 _ rfl) (by simp [Value.oneCell']) (by have := HLE.o; unfold maxLen; omega) (by have := HLE.o; omega) ?_; intro v' w9 o' g' h'; have HO := LH9 o'; have HGG := LH9 g'; have HV9 := LH9 h'; clear o' g' h');have hpu := HS8.o.push 0 rfl HG.o (x := ((k : Nat) : Int)) ⟨rfl,by unfold I64; omega⟩ HO.o HGG.o HV9.o;have HS9 : Hid (Sep w9 [gr i64K 3 w1.heap.size (chC day fx l (k + 1)) v']) := by rw [HCC.o]; exact hpu
      have HB9 := LH9 (HB8.o.grown HGG.o HB8.o.size (fun b hb => (HG.o.blt hb).1));clear hpu HO HGG HV9 HG HS8 HB8;go_roundw
      case rel => exact ⟨k + 1,by go_num,by have := HLT.o; omega,HB9.o,HS9.o⟩
      case measure => simp [intOf]; have := HLT.o; omega
    . have HCC := LH9 (HNO.o hC0);have hn0 : (C == 0)=false := beq_eq_false_iff_ne.2 hC0;clear hC0;have HS9 : Hid (Sep w7 [gr i64K 3 w1.heap.size (chC day fx l (k + 1)) u5]) := by rw [HCC.o]; exact HS7.o
      go_wp2_with fail;go_roundw
      case rel => exact ⟨k + 1,by go_num,by have := HLT.o; omega,HB7.o,HS9.o⟩
      case measure => simp [intOf]; have := HLT.o; omega
  . have hlt' : ¬ (k : Int) < (n : Int) := by omega
    obtain rfl : k=n := by omega
    obtain ⟨pa,pc,rfl,hP⟩ := HS1.o.still 0 rfl;rw [<- HO1.o] at hP ⊢;have HP := LH9 hP.free;have HBW := bu9 HB1 HB;clear hlt hP;go_wp2_with fail;go_ret;exact ⟨⟨pa,pc,rfl,HP.o⟩,HBW.o⟩
end
section
structure Pc where
 f : Int
 tn : Bool
 un : List Int
 tm : Int
def pcK : Elt Pc where
 sz := 4
 pos := by decide
 R := fun w X x cs => ∃ a cap,cs=[.int .i64 x.f,.bool x.tn,.slice a x.un.length cap,.int .i64 x.tm]/\I64 x.f/\I64 x.tm/\SlR i64K w X x.un a x.un.length cap
 kept := fun h k => by obtain ⟨a,cap,rfl,h1,h2,h4⟩ := h; exact ⟨a,cap,rfl,h1,h2,h4.kept k⟩
 less := fun h k => by obtain ⟨a,cap,rfl,h1,h2,h4⟩ := h; exact ⟨a,cap,rfl,h1,h2,h4.less k⟩
 one := fun h => by obtain ⟨a,cap,rfl,h1,h2,h4⟩ := h; exact ⟨rfl,by simp [Value.oneCell']⟩
def pkI (z : Int) (n : Nat) : Nat := (earl z (n : Int)).toNat
theorem earl_in {z : Int} {n : Nat} (h : 0 < n) : earl z (n : Int)=((pkI z n : Nat) : Int)/\pkI z n < n := by
 have h1 := Int.emod_nonneg (IntKind.u64.wrap z) (show (n : Int) ≠ 0 by omega);have h2 := Int.emod_lt_of_pos (IntKind.u64.wrap z) (show (0 : Int) < (n : Int) by omega);unfold pkI earl;rw [if_neg (by omega)];generalize IntKind.u64.wrap z % (n : Int)=r at *;omega
def tilOf (es : List Ex) (un : List Int) : List Ex := (un.take 18).map fun z => es.getD (pkI z es.length) zE
def prtOf (es : List Ex) (ts : List Te) (p : Pc) : Prt := ⟨p.f,p.tn,tilOf es p.un,ts.getD (pkI p.tm ts.length) zT⟩
def ofL (es : List Ex) (ts : List Te) (l : List Pc) : List Prt := if es.length=0\/ts.length=0 then [] else l.map (prtOf es ts)
def prtB (p : Prt) : Bool := rT p.term && p.til.all rE
theorem prtB_iff {p : Prt} : prtB p=true ↔ PrtB p := by
 unfold prtB PrtB;rw [Bool.and_eq_true,List.all_eq_true]
theorem pc_at {w : World} {X : List Nat} {l : List Pc} {a : Option Addr} {len cap : Nat} (h : SlR pcK w X l a len cap) (k : Nat) (hk : k < len) :
 ∃ b o p ua uc,a=some ⟨b,o,none⟩/\b < w.heap.size/\l[k]?=some p/\I64 p.f/\I64 p.tm/\SlR i64K w X p.un ua p.un.length uc /\
   w.cell? ⟨b,o + k * 4,none⟩=some (.int .i64 p.f)/\w.cell? ⟨b,o + k * 4 + 1,none⟩=some (.bool p.tn)/\w.cell? ⟨b,o + k * 4 + 2,none⟩=some (.slice ua p.un.length uc)/\w.cell? ⟨b,o + k * 4 + 3,none⟩=some (.int .i64 p.tm) := by
 obtain ⟨b,o,p,cs,ha,hb,hX,hp,hR,-,hc⟩ := h.at k hk;have hR' : ∃ a cap,cs=[.int .i64 p.f,.bool p.tn,.slice a p.un.length cap,.int .i64 p.tm]/\I64 p.f/\I64 p.tm/\SlR i64K w X p.un a p.un.length cap := hR;obtain ⟨ua,uc,rfl,h1,h2,h3⟩ := hR';exact ⟨b,o,p,ua,uc,ha,hb,hp,h1,h2,h3,hc 0 _ rfl,hc 1 _ rfl,hc 2 _ rfl,hc 3 _ rfl⟩
theorem i64_at {w : World} {l : List Int} {a : Option Addr} {len cap : Nat} (h : SlR i64K w [] l a len cap) {k : Nat} {z : Int} (hz : l[k]?=some z) : k < len/\∃ b o,a=some ⟨b,o,none⟩/\w.cell? ⟨b,o + k,none⟩=some (.int .i64 z) := by
 have hk : k < len := by rw [<- h.facts.1]; exact (List.getElem?_eq_some_iff.1 hz).1
 obtain ⟨b,o,x,cs,ha,-,-,hx,hR,-,hc⟩ := h.at k hk;rw [hz] at hx;injection hx with hx;subst hx;have hR' : cs=[.int .i64 z]/\I64 z := hR;obtain ⟨rfl,-⟩ := hR';have h0 := hc 0 _ rfl;have e : i64K.sz=1 := rfl;rw [e,Nat.mul_one,Nat.add_zero] at h0;exact ⟨hk,b,o,ha,h0⟩
theorem ex_at {w : World} {X : List Nat} {l : List Ex} {a : Option Addr} {len cap : Nat} (h : SlR exK w X l a len cap) (k : Nat) (hk : k < len) :
 ∃ b o e op no nm aa al ac,a=some ⟨b,o,none⟩/\b < w.heap.size/\l[k]?=some e/\RepE w X e [.int .i64 op,.int .i64 no,.string nm,.slice aa al ac] /\
   w.cell? ⟨b,o + k * 4,none⟩=some (.int .i64 op)/\w.cell? ⟨b,o + k * 4 + 1,none⟩=some (.int .i64 no)/\w.cell? ⟨b,o + k * 4 + 2,none⟩=some (.string nm)/\w.cell? ⟨b,o + k * 4 + 3,none⟩=some (.slice aa al ac) := by
 obtain ⟨b,o,e,cs,ha,hb,hX,he,hR,-,hc⟩ := h.at k hk;have hR' : RepE w X e cs := hR;obtain ⟨op,no,nm,args,aa,al,ac,e1,rfl,-,-,-,-⟩ := RepE.inv hR';exact ⟨b,o,e,op,no,nm,aa,al,ac,ha,hb,he,hR',hc 0 _ rfl,hc 1 _ rfl,hc 2 _ rfl,hc 3 _ rfl⟩
theorem te_at {w : World} {X : List Nat} {l : List Te} {a : Option Addr} {len cap : Nat} (h : SlR teK w X l a len cap) (k : Nat) (hk : k < len) :
 ∃ b o e op nm xa xl xc ta tl tc,a=some ⟨b,o,none⟩/\b < w.heap.size/\l[k]?=some e/\RepT w X e [.int .i64 op,.string nm,.slice xa xl xc,.slice ta tl tc] /\
   w.cell? ⟨b,o + k * 4,none⟩=some (.int .i64 op)/\w.cell? ⟨b,o + k * 4 + 1,none⟩=some (.string nm)/\w.cell? ⟨b,o + k * 4 + 2,none⟩=some (.slice xa xl xc)/\w.cell? ⟨b,o + k * 4 + 3,none⟩=some (.slice ta tl tc) := by
 obtain ⟨b,o,e,cs,ha,hb,hX,he,hR,-,hc⟩ := h.at k hk;have hR' : RepT w X e cs := hR;obtain ⟨op,nm,exprs,terms,xa,xl,xc,ta,tl,tc,e1,rfl,-,-,-,-⟩ := hR'.inv;exact ⟨b,o,e,op,nm,xa,xl,xc,ta,tl,tc,ha,hb,he,hR',hc 0 _ rfl,hc 1 _ rfl,hc 2 _ rfl,hc 3 _ rfl⟩
theorem til_take {es : List Ex} {un : List Int} {j : Nat} {z : Int} (h : un[j]?=some z) (hj : j < 18) (h0 : 0 < es.length) : ∃ e,es[pkI z es.length]?=some e/\(tilOf es un).take (j + 1)=(tilOf es un).take j ++ [e] := by
 have hp := (earl_in (z := z) h0).2;refine ⟨es[pkI z es.length],List.getElem?_eq_getElem hp,?_⟩;have hu : (tilOf es un)[j]?=some es[pkI z es.length] := by
  unfold tilOf;rw [List.getElem?_map,List.getElem?_take,if_pos hj,h];simp [List.getD_eq_getElem?_getD,List.getElem?_eq_getElem hp]
 obtain ⟨hk,e⟩ := List.getElem?_eq_some_iff.1 hu;rw [<- e]; exact (List.take_append_getElem hk).symm
theorem til_len (es : List Ex) (un : List Int) : (tilOf es un).length=min 18 un.length := by unfold tilOf; simp
end
section
theorem prtB_of {p : Prt} (h : partB p=true) : PrtB p := by
 obtain ⟨q1,-,-,q4⟩ := part_get h;refine ⟨q1,fun e he => ?_⟩;have h2 := q4 e he
 cases h' : rE e with
 | true => rfl
 | false => exfalso; unfold kI at h2; rw [h'] at h2; cases h2
theorem right_parts {l : List Prt} (h : rightP l=true) : ∀ p ∈ l,partB p=true := by
 unfold rightP at h;rw [Bool.and_eq_true] at h;exact fun p hp => List.all_eq_true.1 h.1 p hp
theorem right_prt {l : List Prt} (h : rightP l=true) : l.all prtB=true := List.all_eq_true.2 fun p hp => prtB_iff.2 (prtB_of (right_parts h p hp))
theorem chOk_of {p : Prt} (h : partB p=true) : ChOk p := by
 obtain ⟨q1,q2,q3,q4⟩ := part_get h;refine ⟨q4,by omega,fun h9 => ?_,fun _ u hu => ?_⟩
 . have e := (te_kids (rT_get q1).2.2).2.2.1 (by omega);refine ⟨e,?_⟩;have h1 := kI_kid q1 q2 (e := x0 p.term) (by rw [e]; exact List.mem_cons_self ..);rw [h1,h9]; rfl
 . have h1 := rT_kid q1 hu;exact ⟨h1,fit_kid q2 hu,by have := (rT_get h1).2.1; omega⟩
def z1 : Te := .mk 1 ⟨#[]⟩ [] []
theorem z1_rT : rT z1=true := by kernel_rfl
theorem z1_fit : fitT z1=true := by kernel_rfl
theorem z1_rk : z1.rk<=500 := of_decide_eq_true (by kernel_rfl)
def zed (p : Prt) : Prt := ⟨p.factor,p.turned,p.til,.mk p.term.op p.term.nm p.term.exprs (List.replicate p.term.terms.length z1)⟩
theorem zed_choE (day : Int) (fx : List Fx) (p : Prt) (w : Int) (t : Bool) : choE day fx (zed p) w t=choE day fx p w t := by
 unfold choE;have e : ((zed p).term.terms.length : Int)=(p.term.terms.length : Int) := by show ((List.replicate p.term.terms.length z1).length : Int)=_; rw [List.length_replicate]
 rw [e]
 rfl
theorem zed_ok {p : Prt} (h : partB p=true) : ChOk (zed p) := by
 have k := chOk_of h;refine ⟨k.til,k.len,k.exs,fun _ u hu => ?_⟩;have : u=z1 := (List.mem_replicate.1 hu).2;subst this;exact ⟨z1_rT,z1_fit,z1_rk⟩
theorem choE_zero {day : Int} {fx : List Fx} {p : Prt} {t : Bool} (h : choE day fx p 0 t=0) : 0 < p.term.terms.length := by
 unfold choE at h
 split at h
 . omega
 split at h
 . omega
 split at h
 . omega
 split at h
 . omega
 rename_i h4
 omega
theorem zed_chE {day : Int} {fx : List Fx} {p : Prt} : chE day fx [zed p] 0 0 p.turned=choE day fx p 0 p.turned := by
 unfold chE;have e : chP [zed p] 0=some (zed p) := chP_in (k := 0) rfl;rw [e];dsimp only;rw [zed_choE];by_cases h : choE day fx p 0 p.turned=0
 . rw [if_neg (by simp [h]),h];have hl := choE_zero h;have hA : chA day fx (zed p) 0=s0 := by
    show acq day fx ((List.replicate p.term.terms.length z1).getD 0 zT) p.factor p.turned p.til s0=s0;have : (List.replicate p.term.terms.length z1).getD 0 zT=z1 := by
     rw [List.getD_eq_getElem?_getD,List.getElem?_replicate,if_pos hl]; rfl
    rw [this];exact acq1 (rT_get z1_rT).2.2 rfl
   rw [hA]; rfl
 . rw [if_pos h]
theorem chC_pre (day : Int) (fx : List Fx) (l : List Prt) {i j : Nat} (h : i<=j) : ∃ m,chC day fx l j=chC day fx l i ++ m := by
 induction j with
 | zero => obtain rfl : i=0 := by omega
           exact ⟨[],by simp⟩
 | succ j ih =>
   by_cases hi : i=j + 1
   . subst hi; exact ⟨[],by simp⟩
   . obtain ⟨m,hm⟩ := ih (by omega);exact ⟨m ++ _,by rw [chC,hm,List.append_assoc]⟩
theorem chC_get {day : Int} {fx : List Fx} {l : List Prt} {i n : Nat} {p : Prt} (hp : l[i]?=some p) (hn : i < n) (h : choE day fx p 0 p.turned=0) : (chC day fx l n)[(chC day fx l i).length]?=some ((i : Nat) : Int) := by
 obtain ⟨m,hm⟩ := chC_pre day fx l (i := i + 1) (j := n) hn;rw [hm,chC_yes hp h,List.append_assoc,List.getElem?_append_right (Nat.le_refl _),Nat.sub_self]; rfl
def zc (n k : Nat) : List Value := (List.range n).flatMap fun i => [.int .i64 (if i < k then 1 else 0),.string ⟨#[]⟩,.slice none 0 0,.slice none 0 0]
end
section
theorem rE_parts (t : Ex) (hr : t.rk < 1000) : rE t=(decide (ndI t.nd<=200) && decide (rkI t.nd t.rk<=16) && bE t) := by
 have : rE t=(decide (t.nd<=200/\t.rk<=16) && bE t) := rfl;exact Z7_126
theorem treeRightE_any {w : World} {es : List Ex} {ts : List Te} {cs : List Value} (h : TreeIs w [] es ts cs) (i : Nat) {t : Ex} (ht : es[i]?=some t) (hr : t.rk < 1000) :
 Calls Tryz.prog 35 #[.agg cs.toArray,.int .i64 (i : Nat)] w fun x w' => x=.returned (.bool (rE t))/\Below w.heap.size w w' := by
 have hit : i < es.length := (List.getElem?_eq_some_iff.1 ht).1;obtain ⟨aE,cE,aN,cN,aD,cD,aT,cT,aM,cM,aP,cP,rfl,h1,h2,h3,h4,h5,h6⟩ := h;have hlM : (nds es).length=es.length := by unfold nds; rw [List.length_map]
 have hlP : (rks es).length=es.length := by unfold rks; rw [List.length_map]
 obtain ⟨bm,om,xm,cm,rfl,hbm,-,hxm,⟨rfl,-⟩,-,hcm⟩ := h2.at i (by omega);obtain ⟨bp,op,xp,cp,rfl,hbp,-,hxp,⟨rfl,-⟩,-,hcp⟩ := h3.at i (by omega);obtain ⟨bt,ot,xt,ct,rfl,hbt,-,hxt,hRt,-,hct⟩ := h1.at i hit;obtain rfl : xm=ndI t.nd := by
  unfold nds at hxm;rw [List.getElem?_map,ht] at hxm;injection hxm with h; exact h.symm
 obtain rfl : xp=rkI t.nd t.rk := by
  unfold rks at hxp;rw [List.getElem?_map,ht] at hxp;injection hxp with h; exact h.symm
 obtain rfl : t=xt := by rw [ht] at hxt; injection hxt
 have HRT := LH9 (rE_parts t hr);have HW0 := LH9 ((Below.refl w.heap.size w).alloc (Nat.le_refl _) (.cells #[.slice (some ⟨bt,ot,none⟩) es.length cE,.slice (some ⟨bm,om,none⟩) (nds es).length cN,.slice (some ⟨bp,op,none⟩) (rks es).length cD,.slice aT ts.length cT,.slice aM (ndsT ts).length cM,.slice aP (rksT ts).length cP] 33));have BX := Mem.Blk.new w 33 #[.slice (some ⟨bt,ot,none⟩) es.length cE,.slice (some ⟨bm,om,none⟩) (nds es).length cN,.slice (some ⟨bp,op,none⟩) (rks es).length cD,.slice aT ts.length cT,.slice aM (ndsT ts).length cM,.slice aP (rksT ts).length cP];have HC : Hid (∀ W,Below w.heap.size w W->Calls Tryz.prog 56 #[.agg ct.toArray] W fun x w' => x=.returned (.bool (bE t))/\Below W.heap.size W w') := fun W hW => rbuiltExpr_any t.rk t (Nat.le_refl _) ct W (RepE.kept hRt (Kept.of_below hW []))
 obtain ⟨o5,n5,e5,x5,p5,l5,r5,-,rfl,-⟩ := hRt.inv;have s3 := LH9 (BX.cell 0);have s4 := LH9 (BX.cell 1);have s5 := LH9 (BX.cell 2);have g0 := LH9 (cu9 (show w.cell? ⟨bm,om + i,none⟩=some (.int .i64 (ndI t.nd)) by have := hcm 0 _ rfl; simpa [i64K] using this) HW0.o);have g1 := LH9 (cu9 (show w.cell? ⟨bp,op + i,none⟩=some (.int .i64 (rkI t.nd t.rk)) by have := hcp 0 _ rfl; simpa [i64K] using this) HW0.o);have v0 := LH9 (cu9 (show w.cell? ⟨bt,ot + i * 4,none⟩=some (.int .i64 o5) from hct 0 _ rfl) HW0.o);have v1 := LH9 (cu9 (show w.cell? ⟨bt,ot + i * 4 + 1,none⟩=some (.int .i64 n5) from hct 1 _ rfl) HW0.o);have v2 := LH9 (cu9 (show w.cell? ⟨bt,ot + i * 4 + 2,none⟩=some (.string e5) from hct 2 _ rfl) HW0.o);have v3 := LH9 (cu9 (show w.cell? ⟨bt,ot + i * 4 + 3,none⟩=some (.slice p5 l5 r5) from hct 3 _ rfl) HW0.o);have i0 : (0 : Int)<=(i : Int) := by omega
 have i1 : (i : Int) < (es.length : Int) := by omega
 have i2 : (i : Int) < ((nds es).length : Int) := by omega
 have i3 : (i : Int) < ((rks es).length : Int) := by omega
 have n1 := ndI_bd t.nd;have n2 := rkI_bd t.nd t.rk hr;clear hcm hcp hct hRt BX h1 h2 h3 h4 h5 h6 hxm hxp ht hr hlM hlP hxt hbm hbp hbt hit;generalize ndI t.nd=a at *;generalize rkI t.nd t.rk=b at *;rw [HRT.o];generalize (nds es).length=lN at *;generalize (ndsT ts).length=lM at *;generalize (rks es).length=lD at *;generalize (rksT ts).length=lP at *;by_cases ha : a<=200
 . by_cases hb : b<=16
   . have e1 : (decide (a<=200) && decide (b<=16) && bE t)=bE t := by simp [ha,hb]
     rw [e1]
     go_enter Tryz.func35,Tryz.ntmps35
     go_upto_region 1 with (fail);generalize w.alloc (.cells _ 33)=v at *;have s3' := s3.o;have s4' := s4.o;have s5' := s5.o;have g0' := g0.o;have g1' := g1.o;have v0' := v0.o;have v1' := v1.o;have v2' := v2.o;have v3' := v3.o;simp only [List.getElem?_toArray,List.getElem?_cons_zero,List.getElem?_cons_succ] at s3' s4' s5';clear s3 s4 s5 g0 g1 v0 v1 v2 v3;go_wp2_with fail;go_at_call 56;exact Z7_145
   . have e1 : (decide (a<=200) && decide (b<=16) && bE t)=false := by simp [hb]
     rw [e1]
     go_enter Tryz.func35,Tryz.ntmps35
     exact Z7_52
 . have e1 : (decide (a<=200) && decide (b<=16) && bE t)=false := by simp [ha]
   rw [e1]
   go_enter Tryz.func35,Tryz.ntmps35
   exact Z7_52
end
end Go.Proofs.YtmiinmndbkdjbaaGreat
