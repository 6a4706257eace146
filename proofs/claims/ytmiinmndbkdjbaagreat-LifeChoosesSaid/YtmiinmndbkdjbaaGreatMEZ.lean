/- A part of the proof: RvX, StK, Apz, AqB, ChC, one behind another. -/
import Derived.Test.YtmiinmndbkdjbaaGreatMEA
import Derived.Test.YtmiinmndbkdjbaaGreatMEB
import Derived.Test.YtmiinmndbkdjbaaGreatMEC
import Derived.Test.YtmiinmndbkdjbaaGreatMEJ
import Derived.Test.YtmiinmndbkdjbaaGreatMEO
import Derived.Test.YtmiinmndbkdjbaaGreatMEQ
import Derived.Test.YtmiinmndbkdjbaaGreatMET
import Derived.Test.YtmiinmndbkdjbaaGreatMEU
import Derived.Test.YtmiinmndbkdjbaaGreatMEV
import Derived.Test.YtmiinmndbkdjbaaGreatMEW
import Derived.Test.YtmiinmndbkdjbaaGreatMEY
import Derived.Sort.EncStr
import Derived.Deep.Draws
import Derived.Deep.Upon
import Derived.Lib.Hide
import Derived.WalkKit
set_option maxRecDepth 100000
set_option maxHeartbeats 16000000
set_option linter.unusedVariables false
set_option linter.unusedSimpArgs false
namespace Go.Proofs.YtmiinmndbkdjbaaGreat
open Go.RowKit
section
theorem tail_of {day : Int} {fx : List Fx} {op n : Int} {nm : ByteArray} {ks : List Int} {vs : List Vl} {k : Int} (h : Shape op ks vs k) (h17 : op ≠ 17) (h18 : op ≠ 18) (h21 : op ≠ 21) (hI : ∀ v ∈ vs,I64 v.N) :
 (vs.any (fun v => decide (v=.brk))=true->opV op vs=.brk)/\(vs.any (fun v => decide (v=.brk))=false->vs.any (fun v => decide (v=.unk))=true->opV op vs=.unk) /\
 (vs.any (fun v => decide (v=.brk))=false->vs.any (fun v => decide (v=.unk))=false->TailP day fx op n nm vs (opV op vs)) := by
 cases h with
 | two1 h ha hb =>
   rw [opV_two (by omega)];rcases ha.of1 with rfl | rfl | ⟨x,rfl⟩ <;> rcases hb.of1 with rfl | rfl | ⟨y,rfl⟩ <;> simp [twoV,h,Vl.N];exact .ar x y _ h (hI (.num x) (by simp)) (hI (.num y) (by simp)) rfl
 | cmp h ha hb =>
   rw [opV_two (by omega)];have h5 : ¬ (5<=op/\op<=10) := by omega
   rcases ha.of1 with rfl | rfl | ⟨x,rfl⟩ <;> rcases hb.of1 with rfl | rfl | ⟨y,rfl⟩ <;> simp [twoV,h5,Vl.N];exact .cmp x y _ h rfl
 | both h => omega
 | not ha =>
   rcases ha.of2 with rfl | rfl | ⟨t,rfl⟩
   . simp [opV]
   . simp [opV]
   . refine ⟨by simp,by simp,fun _ _ => .not t _ rfl rfl⟩
 | neg ha =>
   rcases ha.of1 with rfl | rfl | ⟨x,rfl⟩
   . simp [opV]
   . simp [opV]
   . refine ⟨by simp,by simp,fun _ _ => .neg x _ rfl (hI (.num x) (by simp)) rfl⟩
 | cond => exact absurd rfl h21
theorem reval_any (day : Int) (fx : List Fx) (a : Option Addr) (len cap : Nat) (hd : I64 day) : ∀ (r : Nat) (e : Ex),e.rk<=r->bE e=true->kE e ≠ 0->∀ (cs : List Value) (w : World),RepE w [] e cs->SlR fxK w [] fx a len cap ->
 Calls Tryz.prog 32 #[.agg cs.toArray,.agg #[.int .i64 day,.slice a len cap]] w fun x w' => RetW (evalE day fx e) x/\Below w.heap.size w w' := by
 intro r
 induction r with
 | zero => intro e h; have := e.rk_pos; omega
 | succ r ih =>
   intro e hr hb hk cs w hR hS;have hnum := RepE.nums _ e (Nat.le_refl _) cs hR;have hfx := fxs_i64 hS;obtain ⟨op,n,nm,args,a',len',cap',rfl,rfl,i1,i2,i3,hSA⟩ := hR.inv;obtain ⟨g1,-,g3⟩ := bE_inv hb;have hkids := kid_kinds hb hk;have hop := ar_op (by omega : 0<=ar op);have hlen := hSA.facts.1;have hsh := fun h4 => eval_shape day fx hb hk (op := op) h4
   obtain ⟨-,hnk⟩ := hnum;rw [evalE_mk];have hC : ∀ (k : Nat) (x : Ex) (c0 c1 : Int) (c2 : ByteArray) (s0 : Option Addr) (s1 s2 : Nat),args[k]?=some x->RepE w [] x [.int .i64 c0,.int .i64 c1,.string c2,.slice s0 s1 s2]->RvC w day a len cap (.int .i64 c0) (.int .i64 c1) (.string c2) (.slice s0 s1 s2) (evalE day fx x) := by
    exact Z7_115
   have hI : ∀ v ∈ args.map (evalE day fx),I64 v.N := by
    intro v hv;obtain ⟨x,hx,rfl⟩ := List.mem_map.1 hv;exact eval_i64 hd hfx x.rk x (Nat.le_refl _) (nums_go.1 hnk x hx)
   have hl3 : args.length<=3 := by
    unfold ar at g1
    repeat' split at g1
    all_goals omega
   by_cases h4 : op<=4
   . have hl : args=[] := List.length_eq_zero_iff.1 (by rw [ar_nil hop.1 h4] at g1; omega);subst hl;refine rv_rest w day fx a len cap op n nm [] a' len' cap' (evalE day fx) _ hSA (by omega) hC (by omega) (by omega) (by omega) (by simp) (by simp) hS (fun _ _ => ?_);unfold evO;by_cases h12 : op=1\/op=2
     . rw [if_pos h12]; exact .lit h12
     rw [if_neg h12];by_cases h44 : op=4
     . rw [if_pos h44]; exact .day h44
     rw [if_neg h44,if_pos (by omega)];exact .obs _ (by omega) rfl
   . have hs := hsh (by omega);have hev : evO day fx op n nm (args.map (evalE day fx))=opV op (args.map (evalE day fx)) := by unfold evO; rw [if_neg (by omega),if_neg (by omega),if_neg (by omega)]
     rw [hev];by_cases h178 : op=17\/op=18
     . have hc : args.length=2 := by rw [ar_two (by omega)] at g1; omega
       obtain ⟨x,y,rfl⟩ := two_of hc;obtain rfl : len'=2 := by omega
       obtain ⟨b,o,x',c0,c1,c2,s0,s1,s2,rfl,-,hx,hrep,hF⟩ := arg_at hSA 0 (by omega);obtain rfl : x=x' := by simpa using hx
       obtain ⟨b',o',y',d0,d1,d2,t0,t1,t2,e,-,hy,hrep',hF'⟩ := arg_at hSA 1 (by omega);obtain rfl : y=y' := by simpa using hy
       injection e with e; injection e with e1 e2; subst e1; subst e2;rw [Nat.zero_mul,Nat.add_zero] at hF;rw [Nat.one_mul] at hF';have h0 := hC 0 x _ _ _ _ _ _ rfl hrep;have h1 := hC 1 y _ _ _ _ _ _ rfl hrep';simp only [List.map_cons,List.map_nil] at hs ⊢;generalize evalE day fx x=A at *;generalize evalE day fx y=B at *;generalize kE x=kx at *;generalize kE y=ky at *;generalize kE (Ex.mk op n nm [x,y])=kk at *;rw [opV_both h178]
       cases hs with
       | two1 h ha hb' => omega
       | cmp h ha hb' => omega
       | both h ha hb' =>
         rcases h178 with rfl | rfl
         . exact rv_and17 w day a len cap n nm b o cap' c0 c1 d0 d1 c2 d2 s0 t0 s1 s2 t1 t2 A B ha hb' hF hF' h0 h1
         . exact rv_and18 w day a len cap n nm b o cap' c0 c1 d0 d1 c2 d2 s0 t0 s1 s2 t1 t2 A B ha hb' hF hF' h0 h1
     . by_cases h21 : op=21
       . subst h21;have hc : args.length=3 := by rw [show ar 21=3 by decide] at g1; omega
         obtain ⟨x,y,z,rfl⟩ := three_of hc;obtain rfl : len'=3 := by omega
         obtain ⟨b,o,x',c0,c1,c2,s0,s1,s2,rfl,-,hx,hrep,hF⟩ := arg_at hSA 0 (by omega);obtain rfl : x=x' := by simpa using hx
         obtain ⟨b',o',y',d0,d1,d2,t0,t1,t2,e,-,hy,hrep',hF'⟩ := arg_at hSA 1 (by omega);obtain rfl : y=y' := by simpa using hy
         injection e with e; injection e with e1 e2; subst e1; subst e2;obtain ⟨b',o',z',f0,f1,f2,u0,u1,u2,e,-,hz,hrep2,hF2⟩ := arg_at hSA 2 (by omega);obtain rfl : z=z' := by simpa using hz
         injection e with e; injection e with e1 e2; subst e1; subst e2;rw [Nat.zero_mul,Nat.add_zero] at hF;rw [Nat.one_mul] at hF';have h0 := hC 0 x _ _ _ _ _ _ rfl hrep;have h1 := hC 1 y _ _ _ _ _ _ rfl hrep';have h2 := hC 2 z _ _ _ _ _ _ rfl hrep2;simp only [List.map_cons,List.map_nil] at hs ⊢;generalize evalE day fx x=A at *;generalize evalE day fx y=B at *;generalize evalE day fx z=C at *;generalize kE x=kx at *;generalize kE y=ky at *;generalize kE z=kz at *;generalize kE (Ex.mk 21 n nm [x,y,z])=kk at *
         cases hs with
         | cond ha hb' hc' => exact rv_if w day a len cap n nm b o cap' c0 c1 d0 d1 f0 f1 c2 d2 f2 s0 t0 u0 s1 s2 t1 t2 u1 u2 A B C ha hF hF' hF2 h0 h1 h2
       . obtain ⟨q1,q2,q3⟩ := tail_of (day := day) (fx := fx) (n := n) (nm := nm) hs (by omega) (by omega) h21 hI;exact rv_rest w day fx a len cap op n nm args a' len' cap' (evalE day fx) _ hSA (by omega) hC (by omega) (by omega) h21 q1 q2 hS q3
end
section
def strK : Elt (List UInt8) where
 sz := 1
 pos := by decide
 R := fun _ _ s cs => cs=[encStr s]
 kept := fun h _ => h
 less := fun h _ => h
 one := fun h => by subst h; exact ⟨rfl,by simp [encStr,Value.oneCell']⟩
end
section
theorem ap_rowZ {P : Program} {w : World} {ops : Array Oper} {rest : List Oper} {o : Oper} {a : Act} {Q : Exit->Act->World->Prop} {t e : TypeId} {z : Value} {size bytes base : Nat}
 (hinfo : (P.info? e).map (fun i => (i.zero,i.size,i.bytes))=some (some z,size,bytes)) (ht : P.underlying t=some (.slice e)) (hzs : z.cells.size=size) (hsz : 0 < size)
 (hgd : o.guard=none) (s x : Operand) (ho : o.op=.call { callee := .builtin .append,args := #[s,x],argTypes := #[t,t] })
 {v : Value} {n : Nat} {xs : List Value} (hs : a.eval s=v) (hown : w.ownsRow base e size v n xs) (hbase : base<=w.heap.size)
 (ao : Option Addr) (m c : Nat) (news : List Value) (hx : a.eval x=.slice ao m c) (hl : news.length=m * size)
 (hnews : 0 < m->∃ ad,ao=some ad/\∀ j u,news[j]?=some u->w.cell? (ad.add j)=some u) (h1 : ∀ u ∈ news,u.oneCell'=true)
 (h63 : n + m<=maxLen) (hbytes : (n + m) * bytes<=140737488355328)
 (h : ∀ v' w',w'.ownsRow base e size v' (n + m) (xs ++ news)->w.grownBy w' v.ownBlock->(v'.ownBlock=v.ownBlock\/v'.ownBlock=some w.heap.size)->wpList P ops Q rest (a.put o.dst v') w') :
 wpList P ops Q (o :: rest) a w := by
 by_cases hm : m=0
 . subst hm;obtain ⟨i,hi,hz,hsize,hby⟩ := info_parts hinfo;obtain ⟨av,capv,rfl⟩ := own_slice hown;have hl0 : news=[] := List.length_eq_zero_iff.1 (by rw [hl,Nat.zero_mul]);subst hl0;have hcap : n<=capv := by
    exact Z7_153
   have hsrc : Src P i.size t (.slice ao 0 c) 0 [] w := by
    cases ao with
    | none => exact Src.ofNil w ht c
    | some ad => exact Src.ofSlice w ht ad 0 c [] (by simp) (fun j u h => by cases h) (fun u h => by cases h)
   have hrun := run_append_nothing (P := P) w t t o.type e i ht hi av n capv hcap _ hsrc;refine wpList_plain hgd fun _ hK => ?_
   unfold Oper.wp execOp;simp only [ho,resolve,invoke,builtin,Sem.run_bind,Sem.run_pure,Result.andThen_ok,List.map_toArray,List.map_cons,List.map_nil,hs,hx,hrun];exact hK _ _ (h _ _ (by rw [List.append_nil]; exact hown) (World.grownBy.refl _ _) (.inl rfl))
 . obtain ⟨ad,rfl,hc⟩ := hnews (by omega);exact ap_row hinfo ht hzs hsz hgd s x ho hs hown hbase ad m c news hx hl hc h1 h63 hbytes h
end
section
theorem infoRP9 : (Tryz.prog.info? 53).map (fun i => (i.zero,i.size,i.bytes))=some (some (.agg #[.int .i64 0,.bool false,.slice none 0 0,.int .i64 0,.string ⟨#[]⟩,.slice none 0 0,.slice none 0 0]),7,112) := by kernel_rfl
theorem infoRF9 : (Tryz.prog.info? 67).map (fun i => (i.zero,i.size,i.bytes))=some (some (.agg #[.string ⟨#[]⟩,.int .i64 0]),2,24) := by kernel_rfl
structure TdOk (p : Prt) : Prop where
 right : rT p.term=true
 fit : fitT p.term=true
 len : p.til.length + p.term.rk<=1000
theorem TdOk.kid {f f' : Int} {tn tn' : Bool} {un un' : List Ex} {t u : Te} (h : TdOk ⟨f,tn,un,t⟩) (hu : u ∈ t.terms) (hl : un'.length<=un.length + 1) : TdOk ⟨f',tn',un',u⟩ :=
 ⟨rT_kid h.right hu,fit_kid h.fit hu,by have h1 := h.len; have h2 := rk_kid hu; show un'.length + u.rk<=1000; have h3 : un.length + t.rk<=1000 := h1; omega⟩
theorem evalX_E {day : Int} {fx : List Fx} {t : Te} {e : Ex} (hr : rT t=true) (hf : fitT t=true) (hm : e ∈ t.exprs) : evalX day fx e=evalE day fx e/\bE e=true/\kE e ≠ 0 := by
 have h1 := kI_kid hr hf hm;have h2 : kI e ≠ 0 := by rw [h1]; unfold needT; split <;> omega
 have h3 : rE e=true := by
  cases h : rE e with
  | true => rfl
  | false => exfalso; apply h2; unfold kI; rw [h]; rfl
 have h4 : kI e=kE e := by unfold kI; rw [if_pos h3]
 refine ⟨by unfold evalX; rw [if_neg h2],?_,by rw [<- h4]; exact h2⟩;have e2 : rE e=(decide (e.nd<=200/\e.rk<=16) && bE e) := rfl;rw [e2,Bool.and_eq_true] at h3;exact h3.2
def famA (base e3 : Nat) (day : Int) (fx : List Fx) (fa : Option Addr) (fl fc : Nat) (s : RS) (vP vF : Value) : List Ob :=
 [gr ptK 53 base s.ps vP,gr flK 67 base s.fs vF,bx e3 26 #[.int .i64 day,.slice fa fl fc],sl fxK fx fa fl fc]
structure AcJ (w wr : World) (e3 : Nat) (day : Int) (fx : List Fx) (fa : Option Addr) (fl fc : Nat) (R : RS) (td : List Prt) (ta : Option Addr) (tc : Nat) (s : RS) (vP vF : Value) : Prop where
 below : Below w.heap.size w wr
 sep : Sep wr (sl ptK td ta td.length tc :: famA w.heap.size e3 day fx fa fl fc s vP vF)
 val : accL day fx td s=R
 good : s.bad=false
 ok : ∀ p ∈ td,TdOk p
 smP : s.ps.length + ndL td<=100000
 smF : s.fs.length + ndL td<=100000
section
variable {w wr wr' : World} {e3 : Nat} {day : Int} {fx : List Fx} {fa : Option Addr} {fl fc : Nat} {R : RS} {td : List Prt} {ta : Option Addr} {tc : Nat} {s : RS} {vP vF : Value}
structure AhJ (w wr : World) (e3 : Nat) (day : Int) (fx : List Fx) (fa : Option Addr) (fl fc : Nat) (R : RS) (n : Nat) (ah rest : List Prt) (az : Nat) (ta : Option Addr) (tc : Nat) (s : RS) (vP vF : Value) : Prop where
 below : Below w.heap.size w wr
 sep : Sep wr (gr ptK 53 w.heap.size ah (.slice (some ⟨az,0,none⟩) ah.length ah.length) :: sl ptK rest ta rest.length tc :: famA w.heap.size e3 day fx fa fl fc s vP vF)
 val : accL day fx (ah ++ rest) s=R
 good : s.bad=false
 ok : ∀ p ∈ ah ++ rest,TdOk p
 nd : ndL (ah ++ rest) < n
 smP : s.ps.length + ndL (ah ++ rest)<=100000
 smF : s.fs.length + ndL (ah ++ rest)<=100000
end
theorem Grow.lit {α : Type} {K : Elt α} {w : World} {X : List Nat} {base : Nat} {e : TypeId} {cs : Array Value} {l : List α} (csl : List (List Value)) (hb : base<=w.heap.size) (hX : ∀ b ∈ X,b < w.heap.size) (hc : csl.length=l.length) (hf : cs.toList=csl.flatten)
 (he : ∀ (i : Nat) (x : α) (c : List Value),l[i]?=some x->csl[i]?=some c->K.R w X x c) (hn : l.length<=maxLen) : Grow K e base (w.alloc (.cells cs e)) X l (.slice (some ⟨w.heap.size,0,none⟩) l.length l.length) csl := by
 have h4 : ∀ c ∈ csl,c.length=K.sz := by
  exact Z7_103
 have hsz : cs.size=l.length * K.sz := by
  rw [<- Array.length_toList,hf,flat_len K.sz csl h4,hc]
 have ho := World.ownsRow_lit (e := e) w cs l.length hb hn hsz;rw [hf] at ho;refine ⟨ho,by simp; omega,fun g hg hm => ?_,fun b hb' => by have := hX b hb'; simp; omega,hc,fun i x c hx hcx => ?_⟩
 . simp [Value.ownBlock] at hg; subst hg; have := hX _ hm; omega
 . have h1 := he i x c hx hcx;have h2 : K.R w (busy (.slice (some ⟨w.heap.size,0,none⟩) l.length l.length) X) x c := K.less h1 (fun b hb' hm => by
    rcases busy_mem.1 hm with h3 | h3
    . simp [Value.ownBlock] at h3; omega
    . exact h3)
   exact K.kept h2 (Kept.alloc w _ _)
theorem slR_row {α : Type} {K : Elt α} {w : World} {X : List Nat} {base : Nat} {e : TypeId} {v : Value} {l : List α} {csl : List (List Value)} (ho : w.ownsRow base e K.sz v l.length csl.flatten) (hX : ∀ g,v.ownBlock=some g->g ∉ X) (hcn : csl.length=l.length)
 (he : ∀ (i : Nat) (x : α) (c : List Value),l[i]?=some x->csl[i]?=some c->K.R w X x c) : ∃ a cap,v=.slice a l.length cap/\SlR K w X l a l.length cap := by
 have hmx : maxLen=9223372036854775807 := by decide
 have hl4 : ∀ c ∈ csl,c.length=K.sz := by
  exact Z7_103
 rcases ho.2 with ⟨rfl,h00⟩ | ⟨g,capn,cur,hv,h1,h2,h3,h4,h5,h6⟩
 . have h1 : csl=[] := List.length_eq_zero_iff.1 (by rw [hcn,h00]);subst h1;refine ⟨none,0,by rw [h00],[],by simpa using h00.symm,fun i x cs hx hc => by simp at hc,?_⟩;rw [h00];exact Sl.nil _ _ _
 . subst hv;refine ⟨_,capn,rfl,csl,hcn,he,hcn,h3,by omega,fun hp => ⟨g,0,rfl,lt_of_block h2,hX g rfl,fun i cs hi => ⟨hl4 cs (List.mem_of_getElem? hi),fun j c hj => ?_⟩⟩⟩;have h4' := hl4 cs (List.mem_of_getElem? hi);have hjs : j < K.sz := by rw [<- h4']; exact (List.getElem?_eq_some_iff.1 hj).1
   have hi' : i < l.length := by rw [<- hcn]; exact (List.getElem?_eq_some_iff.1 hi).1
   rw [Nat.zero_add,ho.cellAt (i * K.sz + j) (by calc i * K.sz + j < i * K.sz + K.sz := by omega
                                                      _=(i + 1) * K.sz := by rw [Nat.add_mul]; omega
                                                      _<=l.length * K.sz := Nat.mul_le_mul_right _ (by omega)),flat_get K.sz csl hl4 i j cs hi hjs]
   exact hj
section
variable {w W : World} {e3 : Nat} {day : Int} {fx : List Fx} {fa : Option Addr} {fl fc : Nat} {R : RS} {n : Nat} {ah rest : List Prt} {az : Nat} {ta : Option Addr} {tc : Nat} {s : RS} {vP vF : Value}
theorem AhJ.lit {cs : Array Value} (hb : Below w.heap.size w W) (hs : Sep W (sl ptK rest ta rest.length tc :: famA w.heap.size e3 day fx fa fl fc s vP vF)) (csl : List (List Value)) (hf : cs.toList=csl.flatten) (hc : csl.length=ah.length)
 (he : ∀ (i : Nat) (x : Prt) (c : List Value),ah[i]?=some x->csl[i]?=some c->ptK.R W (owns (famA w.heap.size e3 day fx fa fl fc s vP vF)) x c) (hval : accL day fx (ah ++ rest) s=R) (hg : s.bad=false) (hok : ∀ p ∈ ah ++ rest,TdOk p) (hn : ndL (ah ++ rest) < n)
 (hP : s.ps.length + ndL (ah ++ rest)<=100000) (hF : s.fs.length + ndL (ah ++ rest)<=100000) (hal : ah.length<=2) : AhJ w (W.alloc (.cells cs 53)) e3 day fx fa fl fc R n ah rest W.heap.size ta tc s vP vF := by
 have hG : Grow ptK 53 w.heap.size (W.alloc (.cells cs 53)) (owns (sl ptK rest ta rest.length tc :: famA w.heap.size e3 day fx fa fl fc s vP vF)) ah (.slice (some ⟨W.heap.size,0,none⟩) ah.length ah.length) csl :=
  Grow.lit csl hb.size hs.lt hc hf he (by unfold maxLen; omega)
 refine ⟨hb.trans ((below_nT W _).mono hb.size),hs.cons (o := gr ptK 53 w.heap.size ah (.slice (some ⟨W.heap.size,0,none⟩) ah.length ah.length)) (Kept.alloc W _ []) (fun b hb' => ?_) ⟨csl,hG⟩,hval,hg,hok,hn,hP,hF⟩;have hb2 : b ∈ (Value.slice (some ⟨W.heap.size,0,none⟩) ah.length ah.length).ownBlock.toList := hb';simp [Value.ownBlock] at hb2;omega
theorem AhJ.up {W' : World} (h : AhJ w W e3 day fx fa fl fc R n ah rest az ta tc s vP vF) (hb : Below W.heap.size W W') : AhJ w W' e3 day fx fa fl fc R n ah rest az ta tc s vP vF :=
 ⟨h.below.trans (hb.mono h.below.size),h.sep.below hb,h.val,h.good,h.ok,h.nd,h.smP,h.smF⟩
theorem AhJ.next {W' : World} {v' : Value} {csl vs : List (List Value)} (h : AhJ w W e3 day fx fa fl fc R n ah rest az ta tc s vP vF)
 (hG : Grow ptK 53 w.heap.size W (others (gr ptK 53 w.heap.size ah (.slice (some ⟨az,0,none⟩) ah.length ah.length) :: sl ptK rest ta rest.length tc :: famA w.heap.size e3 day fx fa fl fc s vP vF) 0) ah (.slice (some ⟨az,0,none⟩) ah.length ah.length) csl)
 (h1 : vs.length=rest.length) (h2 : ∀ (i : Nat) (x : Prt) (c : List Value),rest[i]?=some x->vs[i]?=some c->ptK.R W (others (gr ptK 53 w.heap.size ah (.slice (some ⟨az,0,none⟩) ah.length ah.length) :: sl ptK rest ta rest.length tc :: famA w.heap.size e3 day fx fa fl fc s vP vF) 1) x c)
 (ho : W'.ownsRow w.heap.size 53 7 v' (ah.length + rest.length) (csl.flatten ++ vs.flatten)) (hg : W.grownBy W' (some az)) (hv : v'.ownBlock=some az\/v'.ownBlock=some W.heap.size) :
 ∃ a' c',v'=.slice a' (ah ++ rest).length c'/\AcJ w W' e3 day fx fa fl fc R (ah ++ rest) a' c' s vP vF := by
 have k : Kept [az] W W' := Kept.of_grown hg (by simp);have haz := hG.blt (g := az) rfl;have hap := hG.apart az rfl;have hX1 : ∀ b,b ∈ others (gr ptK 53 w.heap.size ah (.slice (some ⟨az,0,none⟩) ah.length ah.length) :: sl ptK rest ta rest.length tc :: famA w.heap.size e3 day fx fa fl fc s vP vF) 0->b ∈ others (gr ptK 53 w.heap.size ah (.slice (some ⟨az,0,none⟩) ah.length ah.length) :: sl ptK rest ta rest.length tc :: famA w.heap.size e3 day fx fa fl fc s vP vF) 1 := by
  intro b hb;obtain ⟨m,om,hm,hom,hbm⟩ := mem_others.1 hb;by_cases h1 : m=1
  . subst h1;simp at hom;subst hom
    cases hbm
  . exact mem_others.2 ⟨m,om,h1,hom,hbm⟩
 have haz1 : az ∈ others (gr ptK 53 w.heap.size ah (.slice (some ⟨az,0,none⟩) ah.length ah.length) :: sl ptK rest ta rest.length tc :: famA w.heap.size e3 day fx fa fl fc s vP vF) 1 :=
  mem_others.2 ⟨0,_,by omega,rfl,by show az ∈ (Value.slice (some ⟨az,0,none⟩) ah.length ah.length).ownBlock.toList; simp [Value.ownBlock]⟩
 have ho' : W'.ownsRow w.heap.size 53 ptK.sz v' (ah ++ rest).length (csl ++ vs).flatten := by
  rw [List.length_append,List.flatten_append]; exact ho
 obtain ⟨a',c',rfl,hS⟩ := slR_row (K := ptK) (X := others (gr ptK 53 w.heap.size ah (.slice (some ⟨az,0,none⟩) ah.length ah.length) :: sl ptK rest ta rest.length tc :: famA w.heap.size e3 day fx fa fl fc s vP vF) 0) ho' (fun g hg' hm => by
  rcases hv with h3 | h3
  . rw [h3] at hg'; injection hg' with hg'; subst hg'; exact hap hm
  . rw [h3] at hg'; injection hg' with hg'; have := hG.lt g hm; omega) (by rw [List.length_append,List.length_append,hG.count,h1]) (fun i x cc hx hcx => by
  rcases Nat.lt_or_ge i ah.length with hi | hi
  . rw [List.getElem?_append_left hi] at hx;rw [List.getElem?_append_left (by rw [hG.count]; exact hi)] at hcx;exact ptK.to (hG.elts i x cc hx hcx) k (fun b hb => by rw [List.mem_singleton] at hb; subst hb; exact busy_mem.2 (.inl rfl)) (fun b hb => .inl (busy_mem.2 (.inr hb)))
  . rw [List.getElem?_append_right hi] at hx;rw [List.getElem?_append_right (by rw [hG.count]; exact hi),hG.count] at hcx;exact ptK.to (h2 _ x cc hx hcx) k (fun b hb => by rw [List.mem_singleton] at hb; subst hb; exact haz1) (fun b hb => .inl (hX1 b hb)))
 have hs := h.sep.set_ (o' := sl ptK (ah ++ rest) a' (ah ++ rest).length c') 0 rfl k (fun b hb => .inl (by rw [List.mem_singleton] at hb; subst hb; show b ∈ (Value.slice (some ⟨b,0,none⟩) ah.length ah.length).ownBlock.toList; simp [Value.ownBlock])) (fun b hb => by cases hb) hS;exact ⟨a',c',rfl,h.below.grown hg h.below.size (fun b hb => by injection hb with hb; subst hb; exact haz.1),hs.drop 1,h.val,h.good,h.ok,h.smP,h.smF⟩
theorem AhJ.pushP {W' : World} {csl : List (List Value)} {v' : Value} {x : Prt} {cc : List Value} (hb : Below w.heap.size w W) (hs : Sep W (gr ptK 53 w.heap.size ah (.slice (some ⟨az,0,none⟩) ah.length ah.length) :: sl ptK rest ta rest.length tc :: famA w.heap.size e3 day fx fa fl fc s vP vF))
 (hG : Grow ptK 53 w.heap.size W (others (gr ptK 53 w.heap.size ah (.slice (some ⟨az,0,none⟩) ah.length ah.length) :: sl ptK rest ta rest.length tc :: famA w.heap.size e3 day fx fa fl fc s vP vF) 2) s.ps vP csl)
 (hR : ptK.R W (owns (gr ptK 53 w.heap.size ah (.slice (some ⟨az,0,none⟩) ah.length ah.length) :: sl ptK rest ta rest.length tc :: famA w.heap.size e3 day fx fa fl fc s vP vF)) x cc)
 (ho : W'.ownsRow w.heap.size 53 7 v' (s.ps.length + 1) (csl.flatten ++ cc)) (hg : W.grownBy W' vP.ownBlock) (hv : v'.ownBlock=vP.ownBlock\/v'.ownBlock=some W.heap.size) :
 Below w.heap.size w W'/\Sep W' (gr ptK 53 w.heap.size ah (.slice (some ⟨az,0,none⟩) ah.length ah.length) :: sl ptK rest ta rest.length tc :: famA w.heap.size e3 day fx fa fl fc { s with ps := s.ps ++ [x] } v' vF) :=
 ⟨hb.grown hg hb.size (fun b h => (hG.blt h).1),hs.push 2 rfl hG hR ho hg hv⟩
theorem AhJ.pushF {W' : World} {csl : List (List Value)} {v' : Value} {x : Flw} {cc : List Value} (hb : Below w.heap.size w W) (hs : Sep W (gr ptK 53 w.heap.size ah (.slice (some ⟨az,0,none⟩) ah.length ah.length) :: sl ptK rest ta rest.length tc :: famA w.heap.size e3 day fx fa fl fc s vP vF))
 (hG : Grow flK 67 w.heap.size W (others (gr ptK 53 w.heap.size ah (.slice (some ⟨az,0,none⟩) ah.length ah.length) :: sl ptK rest ta rest.length tc :: famA w.heap.size e3 day fx fa fl fc s vP vF) 3) s.fs vF csl)
 (hR : flK.R W (owns (gr ptK 53 w.heap.size ah (.slice (some ⟨az,0,none⟩) ah.length ah.length) :: sl ptK rest ta rest.length tc :: famA w.heap.size e3 day fx fa fl fc s vP vF)) x cc)
 (ho : W'.ownsRow w.heap.size 67 2 v' (s.fs.length + 1) (csl.flatten ++ cc)) (hg : W.grownBy W' vF.ownBlock) (hv : v'.ownBlock=vF.ownBlock\/v'.ownBlock=some W.heap.size) :
 Below w.heap.size w W'/\Sep W' (gr ptK 53 w.heap.size ah (.slice (some ⟨az,0,none⟩) ah.length ah.length) :: sl ptK rest ta rest.length tc :: famA w.heap.size e3 day fx fa fl fc { s with fs := s.fs ++ [x] } vP v') :=
 ⟨hb.grown hg hb.size (fun b h => (hG.blt h).1),hs.push 3 rfl hG hR ho hg hv⟩
theorem AhJ.of (hb : Below w.heap.size w W) (hs : Sep W (gr ptK 53 w.heap.size [] (.slice (some ⟨az,0,none⟩) 0 0) :: sl ptK rest ta rest.length tc :: famA w.heap.size e3 day fx fa fl fc s vP vF)) (e : accL day fx rest s=R) (hg : s.bad=false) (hok : ∀ p ∈ rest,TdOk p) (hn : ndL rest < n) (hP : s.ps.length + ndL rest<=100000) (hF : s.fs.length + ndL rest<=100000) :
 AhJ w W e3 day fx fa fl fc R n [] rest az ta tc s vP vF := ⟨hb,hs,e,hg,hok,hn,hP,hF⟩
end
theorem rep_terms {w : World} {X : List Nat} {t : Te} {op : Int} {nm : ByteArray} {xa ka : Option Addr} {xl xc kl kc : Nat} (h : RepT w X t [.int .i64 op,.string nm,.slice xa xl xc,.slice ka kl kc]) : SlE w X t.exprs xa xl xc/\SlT w X t.terms ka kl kc := by
 obtain ⟨q1,q2,q3,q4,q5,q6,q7,q8,q9,q10,e1,e2,-,-,h1,h2⟩ := h.inv;injection e2 with _ e2;injection e2 with _ e2;injection e2 with e3 e2;injection e2 with e4 _;injection e3 with a1 a2 a3;injection e4 with b1 b2 b3;subst a1; subst a2; subst a3; subst b1; subst b2; subst b3; subst e1;exact ⟨h1,h2⟩
theorem kidA_at {t : Te} (hb : bT t=true) (h : t.op=3\/t.op=4\/t.op=6\/t.op=7\/t.op=8) : t.terms[0]?=some (t0 t) := by
 obtain ⟨k1,k2,-⟩ := te_kids hb;by_cases h4 : t.op=4
 . rw [k2 (.inl h4)]; rfl
 . rw [k1 (by omega)]; rfl
theorem kidA_nd {t : Te} (hb : bT t=true) (h : t.op=3\/t.op=6\/t.op=7\/t.op=8) (n : Nat) : (t0 t).nd + n < t.nd + n := by
 have := (nd_kids hb).2.1 h; omega
theorem build_rp (f : Int) (tn : Bool) (ua : Option Addr) (ul uc : Nat) (o : Int) (s : ByteArray) (x y : Option Addr) (xl xc yl yc : Nat) (W : World) : (Instr.build 53 #[(0,.int .i64 f),(1,.bool tn),(2,.slice ua ul uc),(3,.agg #[.int .i64 o,.string s,.slice x xl xc,.slice y yl yc])]).run Tryz.prog W=.ok (.agg #[.int .i64 f,.bool tn,.slice ua ul uc,.int .i64 o,.string s,.slice x xl xc,.slice y yl yc]) W := by kernel_rfl
theorem build_y {S : World->Prop} {a : Act} {op : Oper} {x0 x1 x2 x3 : Operand} {f : Int} {tn : Bool} {ua : Option Addr} {ul uc : Nat} {o : Int} {s : ByteArray} {x y : Option Addr} {xl xc yl yc : Nat} (ho : op.op=.build 53 #[(0,x0),(1,x1),(2,x2),(3,x3)]) (h0 : a.eval x0=.int .i64 f) (h1 : a.eval x1=.bool tn) (h2 : a.eval x2=.slice ua ul uc)
 (h3 : a.eval x3=.agg #[.int .i64 o,.string s,.slice x xl xc,.slice y yl yc]) : ∀ w,S w->(execOp a.eval op).run Tryz.prog w=.ok (.value (.agg #[.int .i64 f,.bool tn,.slice ua ul uc,.int .i64 o,.string s,.slice x xl xc,.slice y yl yc])) w := by
 intro w _;unfold execOp;rw [ho];simp only [Sem.run_bind,List.map_toArray,List.map_cons,List.map_nil,h0,h1,h2,h3,build_rp,Result.andThen_ok,Sem.run_pure]
theorem bs_run (f : Int) (tn : Bool) (ua : Option Addr) (ul uc : Nat) (o : Int) (s : ByteArray) (x y : Option Addr) (xl xc yl yc : Nat) (W : World) : (Instr.buildSlice 46 1 #[(0,.agg #[.int .i64 f,.bool tn,.slice ua ul uc,.int .i64 o,.string s,.slice x xl xc,.slice y yl yc])]).run Tryz.prog W=.ok (.slice (some ⟨W.heap.size,0,none⟩) 1 1) (W.alloc (.cells #[.int .i64 f,.bool tn,.slice ua ul uc,.int .i64 o,.string s,.slice x xl xc,.slice y yl yc] 53)) := by kernel_rfl
theorem bs_run2 (f : Int) (tn : Bool) (ua : Option Addr) (ul uc : Nat) (o : Int) (s : ByteArray) (x y : Option Addr) (xl xc yl yc : Nat) (f' : Int) (tn' : Bool) (ua' : Option Addr) (ul' uc' : Nat) (o' : Int) (s' : ByteArray) (x' y' : Option Addr) (xl' xc' yl' yc' : Nat) (W : World) : (Instr.buildSlice 46 2 #[(0,.agg #[.int .i64 f,.bool tn,.slice ua ul uc,.int .i64 o,.string s,.slice x xl xc,.slice y yl yc]),(1,.agg #[.int .i64 f',.bool tn',.slice ua' ul' uc',.int .i64 o',.string s',.slice x' xl' xc',.slice y' yl' yc'])]).run Tryz.prog W=.ok (.slice (some ⟨W.heap.size,0,none⟩) 2 2) (W.alloc (.cells #[.int .i64 f,.bool tn,.slice ua ul uc,.int .i64 o,.string s,.slice x xl xc,.slice y yl yc,.int .i64 f',.bool tn',.slice ua' ul' uc',.int .i64 o',.string s',.slice x' xl' xc',.slice y' yl' yc'] 53)) := by kernel_rfl
theorem wp_of_run {P : Program} {ops : Array Oper} {o : Oper} {a : Act} {w w' : World} {v : Value} {K : Act->World->Prop} {Q : Exit->Act->World->Prop} (hw : Region.wanted o (yielded ops a.tmps)=true) (h : (execOp a.eval o).run P w=.ok (.value v) w') (hK : K (a.put o.dst v) w') :
 if Region.wanted o (yielded ops a.tmps)=true then Oper.wp P o a w K Q else K (a.put o.dst undef) w := by
 rw [if_pos hw];unfold Oper.wp;rw [h];exact hK
theorem bs_y {a : Act} {op : Oper} {x0 : Operand} {f : Int} {tn : Bool} {ua : Option Addr} {ul uc : Nat} {o : Int} {s : ByteArray} {x y : Option Addr} {xl xc yl yc : Nat} {w : World} (ho : op.op=.buildSlice 46 1 #[(0,x0)])
 (h0 : a.eval x0=.agg #[.int .i64 f,.bool tn,.slice ua ul uc,.int .i64 o,.string s,.slice x xl xc,.slice y yl yc]) : (execOp a.eval op).run Tryz.prog w=.ok (.value (.slice (some ⟨w.heap.size,0,none⟩) 1 1)) (w.alloc (.cells #[.int .i64 f,.bool tn,.slice ua ul uc,.int .i64 o,.string s,.slice x xl xc,.slice y yl yc] 53)) := by
 unfold execOp;rw [ho];simp only [Sem.run_bind,List.map_toArray,List.map_cons,List.map_nil,h0,bs_run,Result.andThen_ok,Sem.run_pure]
theorem bs_y2 {a : Act} {op : Oper} {x0 x1 : Operand} {f : Int} {tn : Bool} {ua : Option Addr} {ul uc : Nat} {o : Int} {s : ByteArray} {x y : Option Addr} {xl xc yl yc : Nat} {f' : Int} {tn' : Bool} {ua' : Option Addr} {ul' uc' : Nat} {o' : Int} {s' : ByteArray} {x' y' : Option Addr} {xl' xc' yl' yc' : Nat} {w : World} (ho : op.op=.buildSlice 46 2 #[(0,x0),(1,x1)])
 (h0 : a.eval x0=.agg #[.int .i64 f,.bool tn,.slice ua ul uc,.int .i64 o,.string s,.slice x xl xc,.slice y yl yc]) (h1 : a.eval x1=.agg #[.int .i64 f',.bool tn',.slice ua' ul' uc',.int .i64 o',.string s',.slice x' xl' xc',.slice y' yl' yc']) : (execOp a.eval op).run Tryz.prog w=.ok (.value (.slice (some ⟨w.heap.size,0,none⟩) 2 2)) (w.alloc (.cells #[.int .i64 f,.bool tn,.slice ua ul uc,.int .i64 o,.string s,.slice x xl xc,.slice y yl yc,.int .i64 f',.bool tn',.slice ua' ul' uc',.int .i64 o',.string s',.slice x' xl' xc',.slice y' yl' yc'] 53)) := by
 unfold execOp;rw [ho];simp only [Sem.run_bind,List.map_toArray,List.map_cons,List.map_nil,h0,h1,bs_run2,Result.andThen_ok,Sem.run_pure]
theorem list_bs {ops : Array Oper} {Q : Exit->Act->World->Prop} {rest : List Oper} {a : Act} {op : Oper} {x0 : Operand} {f : Int} {tn : Bool} {ua : Option Addr} {ul uc : Nat} {o : Int} {s : ByteArray} {x y : Option Addr} {xl xc yl yc : Nat} {w : World} (hg : op.guard=none) (ho : op.op=.buildSlice 46 1 #[(0,x0)])
 (h0 : a.eval x0=.agg #[.int .i64 f,.bool tn,.slice ua ul uc,.int .i64 o,.string s,.slice x xl xc,.slice y yl yc])
 (h : wpList Tryz.prog ops Q rest (a.put op.dst (.slice (some ⟨w.heap.size,0,none⟩) 1 1)) (w.alloc (.cells #[.int .i64 f,.bool tn,.slice ua ul uc,.int .i64 o,.string s,.slice x xl xc,.slice y yl yc] 53))) : wpList Tryz.prog ops Q (op :: rest) a w := by
 refine wpList_plain hg fun K hK => ?_
 unfold Oper.wp;rw [bs_y ho h0];exact hK _ _ h
theorem bsE_run (o n : Int) (s : ByteArray) (x : Option Addr) (xl xc : Nat) (W : World) : (Instr.buildSlice 29 1 #[(0,.agg #[.int .i64 o,.int .i64 n,.string s,.slice x xl xc])]).run Tryz.prog W=.ok (.slice (some ⟨W.heap.size,0,none⟩) 1 1) (W.alloc (.cells #[.int .i64 o,.int .i64 n,.string s,.slice x xl xc] 74)) := by kernel_rfl
theorem list_bsE {ops : Array Oper} {Q : Exit->Act->World->Prop} {rest : List Oper} {a : Act} {op : Oper} {x0 : Operand} {o n : Int} {s : ByteArray} {x : Option Addr} {xl xc : Nat} {w : World} (hg : op.guard=none) (ho : op.op=.buildSlice 29 1 #[(0,x0)])
 (h0 : a.eval x0=.agg #[.int .i64 o,.int .i64 n,.string s,.slice x xl xc])
 (h : wpList Tryz.prog ops Q rest (a.put op.dst (.slice (some ⟨w.heap.size,0,none⟩) 1 1)) (w.alloc (.cells #[.int .i64 o,.int .i64 n,.string s,.slice x xl xc] 74))) : wpList Tryz.prog ops Q (op :: rest) a w := by
 refine wpList_plain hg fun K hK => ?_
 unfold Oper.wp;have e : (execOp a.eval op).run Tryz.prog w=.ok (.value (.slice (some ⟨w.heap.size,0,none⟩) 1 1)) (w.alloc (.cells #[.int .i64 o,.int .i64 n,.string s,.slice x xl xc] 74)) := by
  unfold execOp;rw [ho];simp only [Sem.run_bind,List.map_toArray,List.map_cons,List.map_nil,h0,bsE_run,Result.andThen_ok,Sem.run_pure]
 rw [e];exact hK _ _ h
theorem wp_region_tillQ {P : Program} {ops : Array Oper} {Q : Exit->Act->World->Prop} {S : World->Prop} {id : Nat} {a : Act} {w : World} (n : Nat) (hm : P.follows .mixedOrders=true)
 (hp : ∀ c (a : Act) d v w,Q (.panic c) (a.put (some d) v) w->Q (.panic c) a w) (h : ∀ Q' : Exit->Act->World->Prop,Hid (∀ c (a : Act) d v w,Q' (.panic c) (a.put (some d) v) w->Q' (.panic c) a w)->Hid (Q'=Q)->Till P .any ops Q' S n ops.size (Array.replicate ops.size false) a w.drew) : (Code.region id ops true).wp P Q a w := wp_region_till n hm (h Q hp rfl)
end
section
theorem evalX_k {day : Int} {fx : List Fx} {e : Ex} (h : kI e=2) : evalX day fx e=evalE day fx e/\bE e=true/\kE e ≠ 0 := by
 have h3 : rE e=true := by
  cases h' : rE e with
  | true => rfl
  | false => exfalso; unfold kI at h; rw [h'] at h; cases h
 have h4 : kI e=kE e := by unfold kI; rw [if_pos h3]
 refine ⟨by unfold evalX; rw [if_neg (by omega)],?_,by rw [<- h4]; omega⟩;have e2 : rE e=(decide (e.nd<=200/\e.rk<=16) && bE e) := rfl;rw [e2,Bool.and_eq_true] at h3;exact h3.2
theorem any_tk {α : Type} {f : α->Bool} {l : List α} {k : Nat} {x : α} (h : l[k]?=some x) : (l.take (k + 1)).any f=((l.take k).any f || f x) := by
 obtain ⟨hk,e⟩ := List.getElem?_eq_some_iff.1 h;rw [<- List.take_append_getElem hk,List.any_append,e]; simp
theorem rended_any (day : Int) (fx : List Fx) (fa : Option Addr) (fl fc : Nat) (f : Int) (tn : Bool) (un : List Ex) (ua : Option Addr) (uc : Nat) (op : Int) (nm : ByteArray) (xa ka : Option Addr) (xl xc kl kc : Nat) (w : World) (hd : I64 day) (hF : SlR fxK w [] fx fa fl fc) (hU : SlR exK w [] un ua un.length uc) (hk : ∀ e ∈ un,kI e=2) (hl : un.length<=1000) :
 Calls Tryz.prog 41 #[.agg #[.int .i64 f,.bool tn,.slice ua un.length uc,.int .i64 op,.string nm,.slice xa xl xc,.slice ka kl kc],.agg #[.int .i64 day,.slice fa fl fc]] w fun x w' =>
  x=.returned (.tuple #[.bool (un.any fun e => (evalX day fx e).B),.bool (un.any fun e => decide ((evalX day fx e).K=3))])/\Below w.heap.size w w' := by
 have HD := LH9 hd;have HK := LH9 hk;have HL := LH9 hl;have HF := LH9 hF;have HU := LH9 hU;have hb1 := below_nT w (.cells #[.int .i64 f,.bool tn,.slice ua un.length uc,.int .i64 op,.string nm,.slice xa xl xc,.slice ka kl kc] 53);have hb2 := below_nT (w.alloc (.cells #[.int .i64 f,.bool tn,.slice ua un.length uc,.int .i64 op,.string nm,.slice xa xl xc,.slice ka kl kc] 53)) (.cells #[.int .i64 day,.slice fa fl fc] 26);have HB0 := LH9 (hb1.trans (hb2.mono hb1.size));have B1 := LH9 ((Mem.Blk.new w 53 #[.int .i64 f,.bool tn,.slice ua un.length uc,.int .i64 op,.string nm,.slice xa xl xc,.slice ka kl kc]).below hb2);have b2' := Mem.Blk.new (w.alloc (.cells #[.int .i64 f,.bool tn,.slice ua un.length uc,.int .i64 op,.string nm,.slice xa xl xc,.slice ka kl kc] 53)) 26 #[.int .i64 day,.slice fa fl fc];rw [show (w.alloc (.cells #[.int .i64 f,.bool tn,.slice ua un.length uc,.int .i64 op,.string nm,.slice xa xl xc,.slice ka kl kc] 53)).heap.size=w.heap.size + 1 by simp] at b2';have B2 := LH9 b2';obtain ⟨RE,hRE⟩ : ∃ b,b=un.any fun e => (evalX day fx e).B := ⟨_,rfl⟩
 obtain ⟨RB,hRB⟩ : ∃ b,b=un.any fun e => decide ((evalX day fx e).K=3) := ⟨_,rfl⟩
 rw [<- hRE,<- hRB];have HRE := LH9 hRE;have HRB := LH9 hRB;clear hd hk hl hF hU hb1 hb2 b2' hRE hRB
 go_enter Tryz.func41,Tryz.ntmps41
 go_upto_region 1 with (fail);generalize (w.alloc (.cells #[.int .i64 f,.bool tn,.slice ua un.length uc,.int .i64 op,.string nm,.slice xa xl xc,.slice ka kl kc] 53)).alloc (.cells #[.int .i64 day,.slice fa fl fc] 26)=w0 at *;go_wp2_with fail
 go_loopw [6,7,8] (fun x y i wr => ∃ (k : Nat) (p q : Bool),x=.bool p/\y=.bool q/\i=.int .i64 (k : Nat)/\k<=un.length/\Hid (Below w0.heap.size w0 wr)/\Hid (p=(un.take k).any fun e => (evalX day fx e).B)/\Hid (q=(un.take k).any fun e => decide ((evalX day fx e).K=3))) (fun _ _ i _ => un.length - (intOf i).toNat)
 case atStart => exact ⟨0,false,false,rfl,rfl,rfl,Nat.zero_le _,Below.refl _ _,rfl,rfl⟩
 case round =>
  rename World => w3
  obtain ⟨k,p,q,rfl,rfl,rfl,hk,HW,HP,HQQ⟩ := hrel;obtain ⟨c0,c1,c2,c3,c4,c5,c6⟩ := blk7 (B1.o.below HW.o);by_cases hlt : k < un.length
  . have hlt' : (k : Int) < (un.length : Int) := by omega
    have k0 : (0 : Int)<=(k : Int) := by omega
    have k1 : (k : Int)<=1000 := by have := HL.o; omega
    obtain ⟨xb,xo_,e9,xo,xn,xs,aa,al,ac,rfl,hx,hRX,u0,u1,u2,u3⟩ := ex_at9 (HU.o.kept (Kept.of_below (HB0.o.trans (HW.o.mono HB0.o.size)) [])) k hlt;obtain ⟨ee,eb,ek⟩ := evalX_k (day := day) (fx := fx) (HK.o e9 (List.mem_of_getElem? hx));have hseen : SlR fxK w3 [] fx fa fl fc := HF.o.kept (Kept.of_below (HB0.o.trans (HW.o.mono HB0.o.size)) []);have HQ := LH9 (fun W (hW : Below w3.heap.size w3 W) => reval_any day fx fa fl fc HD.o e9.rk e9 (Nat.le_refl _) eb ek _ W (hRX.kept (Kept.of_below hW [])) (hseen.kept (Kept.of_below hW [])));rw [<- ee] at HQ;have HP1 := LH9 (any_tk (f := fun e => (evalX day fx e).B) hx);have HQ1 := LH9 (any_tk (f := fun e => decide ((evalX day fx e).K=3)) hx);rw [<- HP.o] at HP1;rw [<- HQQ.o] at HQ1;obtain ⟨e0,e1,-,-⟩ := (B2.o.below HW.o).two;obtain ⟨V,hV⟩ : ∃ V,V=evalX day fx e9 := ⟨_,rfl⟩;rw [<- hV] at HQ HP1 HQ1;have HLT := LH9 hlt;clear ee eb ek hseen hRX hV hx hlt;go_upto_region 5 with (fail)
    go_cut [9] from 10 to 35 (fun p9 W0 => ∃ z,p9=.pointer (some ⟨z,0,none⟩)/\Hid (Below w3.heap.size w3 W0)/\Hid (Mem.Blk W0 z 97 #[.string (wd V),.int .i64 V.N]))
    case first =>
     as_aux_lemma =>
      clear HP1 HQ1 HP HQQ B1 B2 c0 c1 c3 c4 c5 c6;refine wp_region_tillQ (S := fun W => W.cell? ⟨w.heap.size,2,none⟩=some (.slice (some ⟨xb,xo_,none⟩) un.length uc)/\W.cell? ⟨xb,xo_ + k * 4,none⟩=some (.int .i64 xo)/\W.cell? ⟨xb,xo_ + k * 4 + 1,none⟩=some (.int .i64 xn)/\W.cell? ⟨xb,xo_ + k * 4 + 2,none⟩=some (.string xs)/\W.cell? ⟨xb,xo_ + k * 4 + 3,none⟩=some (.slice aa al ac)/\W.cell? ⟨w.heap.size + 1,0,none⟩=some (.int .i64 day)/\W.cell? ⟨w.heap.size + 1,1,none⟩=some (.slice fa fl fc)) 8 (by kernel_rfl) (fun _ _ _ _ _ h => h) (fun Q9 HQP HQ9 => ?_);refine tk 0 ⟨c2,u0,u1,u2,u3,e0,e1⟩ ?_ (hQ := hq HQP);refine tk 1 ⟨c2,u0,u1,u2,u3,e0,e1⟩ ?_ (hQ := hq HQP);refine tk 2 ⟨c2,u0,u1,u2,u3,e0,e1⟩ ?_ (hQ := hq HQP);refine tk 3 ⟨c2,u0,u1,u2,u3,e0,e1⟩ ?_ (hQ := hq HQP);refine tk 4 ⟨c2,u0,u1,u2,u3,e0,e1⟩ ?_ (hQ := hq HQP);refine tk 5 ⟨c2,u0,u1,u2,u3,e0,e1⟩ ?_ (hQ := hq HQP);refine till_two (i := 6) (j := 7) (by kernel_rfl) rfl rfl (fun K' hK => ?_) (fun K' hK => ?_)
      . go_simp;go_at_call 32;have b0 : Below w3.heap.size w3 w3.drew := (Below.refl w3.heap.size w3).drew;(with_reducible refine (HQ.o _ b0).mono ?_);rintro y w5 ⟨hy,b1⟩;unfold RetW at hy;subst hy;have bt : Below w3.heap.size w3 w5 := b0.trans (b1.mono b0.size);have HB2 := LH9 bt;replace c2 := cu9 c2 bt;replace u0 := cu9 u0 bt;replace u1 := cu9 u1 bt;replace u2 := cu9 u2 bt;replace u3 := cu9 u3 bt;replace e0 := cu9 e0 bt;replace e1 := cu9 e1 bt;refine hK _ _ ⟨c2,u0,u1,u2,u3,e0,e1⟩ ?_;clear hK K' b0 b1 bt
        try simp only [Act.put,zp1,zp2,zp3,zp4,zp5,zp6]
        refine t19 7 (fun K' hK=>?_);go_simp;have bn := below_nT w5 (.cells #[.string ⟨#[]⟩,.int .i64 0] 97);have BZ := LH9 (Mem.Blk.new w5 97 #[.string ⟨#[]⟩,.int .i64 0]);have HZ : Hid (w3.heap.size<=w5.heap.size) := HB2.o.size;have HB5 := bt9 HB2 bn;replace c2 := cu9 c2 bn;replace u0 := cu9 u0 bn;replace u1 := cu9 u1 bn;replace u2 := cu9 u2 bn;replace u3 := cu9 u3 bn;replace e0 := cu9 e0 bn;replace e1 := cu9 e1 bn;refine hK _ _ ⟨c2,u0,u1,u2,u3,e0,e1⟩ ?_;clear hK K' bn HB2 c2 u0 u1 u2 u3 e0 e1;generalize w5.alloc (.cells _ 97)=w6 at *;generalize w5.heap.size=z at *
        exact Z7_14
      . go_simp;have bn : Below w3.heap.size w3 (w3.alloc (.cells #[.string ⟨#[]⟩,.int .i64 0] 97)).drew := (below_nT w3 (.cells #[.string ⟨#[]⟩,.int .i64 0] 97)).drew;have BZ1 := LH9 (Mem.Blk.new w3 97 #[.string ⟨#[]⟩,.int .i64 0]).drew;have HB2 := LH9 bn;replace c2 := cu9 c2 bn;replace u0 := cu9 u0 bn;replace u1 := cu9 u1 bn;replace u2 := cu9 u2 bn;replace u3 := cu9 u3 bn;replace e0 := cu9 e0 bn;replace e1 := cu9 e1 bn;refine hK _ _ ⟨c2,u0,u1,u2,u3,e0,e1⟩ ?_;clear hK K' bn;obtain ⟨z,hz⟩ : ∃ z,z=w3.heap.size := ⟨_,rfl⟩;have HZ : Hid (w3.heap.size<=z) := by show _<=_; omega
        rw [<- hz] at BZ1;rw [show Value.pointer (some ⟨w3.heap.size,0,none⟩)=.pointer (some ⟨z,0,none⟩) by rw [hz]];clear hz;generalize (w3.alloc (.cells _ 97)).drew=w5 at *
        try simp only [Act.put,zp1,zp2,zp3,zp4,zp5,zp6]
        refine t19 6 (fun K' hK=>?_);go_simp;go_at_call 32;(with_reducible refine (HQ.o _ HB2.o).mono ?_);rintro y w6 ⟨hy,b1⟩;unfold RetW at hy;subst hy;have BZ := LH9 (BZ1.o.below b1);have HB5 := bt9 HB2 b1;replace c2 := cu9 c2 b1;replace u0 := cu9 u0 b1;replace u1 := cu9 u1 b1;replace u2 := cu9 u2 b1;replace u3 := cu9 u3 b1;replace e0 := cu9 e0 b1;replace e1 := cu9 e1 b1;refine hK _ _ ⟨c2,u0,u1,u2,u3,e0,e1⟩ ?_;clear hK K' b1 HB2 BZ1 c2 u0 u1 u2 u3 e0 e1
        exact Z7_14
    obtain ⟨z,rfl,HW4,BZ⟩ := hcut;obtain ⟨w4,rfl⟩ : ∃ W4 : World,W4=wc := ⟨_,rfl⟩;have HB4 := bu9 HW HW4;clear c0 c1 c2 c3 c4 c5 c6 u0 u1 u2 u3 e0 e1 HQ HW4
    cases V with
    | brk =>
      have z0' : w4.cell? ⟨z,0,none⟩=some (.string ⟨#[33]⟩) := BZ.o.cell 0;have h1 : ((un.take (k + 1)).any fun e => (evalX day fx e).B)=(p || false) := HP1.o;have h2 : ((un.take (k + 1)).any fun e => decide ((evalX day fx e).K=3))=(q || true) := by rw [HQ1.o]; congr 1
      exact Z7_23
    | num n =>
      have z0' : w4.cell? ⟨z,0,none⟩=some (.string ⟨#[110]⟩) := BZ.o.cell 0;have h1 : ((un.take (k + 1)).any fun e => (evalX day fx e).B)=(p || false) := HP1.o;have h2 : ((un.take (k + 1)).any fun e => decide ((evalX day fx e).K=3))=(q || false) := by rw [HQ1.o]; congr 1
      exact Z7_23
    | unk =>
      have z0' : w4.cell? ⟨z,0,none⟩=some (.string ⟨#[63]⟩) := BZ.o.cell 0;have h1 : ((un.take (k + 1)).any fun e => (evalX day fx e).B)=(p || false) := HP1.o;have h2 : ((un.take (k + 1)).any fun e => decide ((evalX day fx e).K=3))=(q || false) := by rw [HQ1.o]; congr 1
      exact Z7_23
    | tru bb =>
      cases bb with
      | true =>
        have z0' : w4.cell? ⟨z,0,none⟩=some (.string ⟨#[116]⟩) := BZ.o.cell 0;have h1 : ((un.take (k + 1)).any fun e => (evalX day fx e).B)=(p || true) := HP1.o;have h2 : ((un.take (k + 1)).any fun e => decide ((evalX day fx e).K=3))=(q || false) := by rw [HQ1.o]; congr 1
        exact Z7_23
      | false =>
        have z0' : w4.cell? ⟨z,0,none⟩=some (.string ⟨#[102]⟩) := BZ.o.cell 0;have h1 : ((un.take (k + 1)).any fun e => (evalX day fx e).B)=(p || false) := HP1.o;have h2 : ((un.take (k + 1)).any fun e => decide ((evalX day fx e).K=3))=(q || false) := by rw [HQ1.o]; congr 1
        exact Z7_23
  . have hlt' : ¬ (k : Int) < (un.length : Int) := by omega
    obtain rfl : k=un.length := by omega
    have HF1 : Hid (RE=p) := by show _=_; rw [HP.o,HRE.o,List.take_length]
    have HF2 : Hid (RB=q) := by show _=_; rw [HQQ.o,HRB.o,List.take_length]
    have HFB := bu9 HB0 HW;clear hlt;go_wp2_with fail;go_ret2;refine ⟨?_,HFB.o⟩;show Ending.returned (.tuple #[.bool p,.bool q])=_;rw [HF1.o,HF2.o]
end
end Go.Proofs.YtmiinmndbkdjbaaGreat
