/- A part of the proof: Gro, Grow, Sep, Bld, Eqv, ExP, KindP, FoldP, EvalP, FaultP, one behind another. -/
import Derived.Test.YtmiinmndbkdjbaaGreatMEA
import Derived.Test.YtmiinmndbkdjbaaGreatMEB
import Derived.Lib.Hide
import Derived.WalkKit
set_option maxRecDepth 100000
set_option maxHeartbeats 16000000
set_option linter.unusedVariables false
set_option linter.unusedSimpArgs false
namespace Go.Proofs.YtmiinmndbkdjbaaGreat
open Go.RowKit
section
structure Elt (α : Type) where
 sz : Nat
 pos : 0 < sz
 R : World->List Nat->α->List Value->Prop
 kept : ∀ {w w' : World} {X : List Nat} {x : α} {cs : List Value},R w X x cs->Kept X w w'->R w' X x cs
 less : ∀ {w : World} {X X' : List Nat} {x : α} {cs : List Value},R w X x cs->(∀ b,b < w.heap.size->b ∈ X'->b ∈ X)->R w X' x cs
 one : ∀ {w : World} {X : List Nat} {x : α} {cs : List Value},R w X x cs->cs.length=sz/\∀ u ∈ cs,u.oneCell'=true
def exK : Elt Ex := ⟨4,by decide,RepE,fun h k => h.kept k,fun h k => h.less k,fun h => h.one⟩
def teK : Elt Te := ⟨4,by decide,RepT,fun h k => h.kept k,fun h k => h.less k,fun h => h.one⟩
def i64K : Elt Int := ⟨1,by decide,fun _ _ n cs => cs=[.int .i64 n]/\I64 n,fun h _ => h,fun h _ => h,fun h => by obtain ⟨rfl,_⟩ := h; exact ⟨rfl,by simp [Value.oneCell']⟩⟩
def SlR {α : Type} (K : Elt α) (w : World) (X : List Nat) (l : List α) (a : Option Addr) (len cap : Nat) : Prop :=
 ∃ vs : List (List Value),vs.length=l.length/\(∀ (i : Nat) (x : α) (cs : List Value),l[i]?=some x->vs[i]?=some cs->K.R w X x cs)/\Sl w X K.sz a len cap vs
section
variable {α : Type} {K : Elt α} {w w' : World} {X X' : List Nat} {l : List α} {a : Option Addr} {len cap : Nat}
theorem SlR.kept (h : SlR K w X l a len cap) (k : Kept X w w') : SlR K w' X l a len cap := by
 obtain ⟨vs,h1,h2,h3⟩ := h;exact ⟨vs,h1,fun i e cs he hc => K.kept (h2 i e cs he hc) k,h3.kept k⟩
theorem SlR.less (h : SlR K w X l a len cap) (hX : ∀ b,b < w.heap.size->b ∈ X'->b ∈ X) : SlR K w X' l a len cap := by
 obtain ⟨vs,h1,h2,h3⟩ := h;exact ⟨vs,h1,fun i e cs he hc => K.less (h2 i e cs he hc) hX,h3.less hX⟩
theorem SlR.facts (h : SlR K w X l a len cap) : l.length=len/\len<=cap/\cap<=9223372036854775807 := by
 obtain ⟨vs,h1,_,h3⟩ := h; exact ⟨by rw [<- h1]; exact h3.1,h3.2.1,h3.2.2.1⟩
theorem SlR.nil (K : Elt α) (w : World) (X : List Nat) : SlR K w X [] none 0 0 := ⟨[],rfl,fun i e cs h _ => by simp at h,Sl.nil _ _ _⟩
theorem SlR.take (h : SlR K w X l a len cap) (k : Nat) (hk : k<=len) : SlR K w X (l.take k) a k cap := by
 obtain ⟨vs,h1,h2,h3⟩ := h;refine ⟨vs.take k,by simp [h1],fun i x cs hi hc => h2 i x cs ?_ ?_,h3.take k hk⟩
 . rw [List.getElem?_take] at hi; split at hi <;> simp_all
 . rw [List.getElem?_take] at hc; split at hc <;> simp_all
theorem SlR.at (h : SlR K w X l a len cap) (k : Nat) (hk : k < len) : ∃ b o x cs,a=some ⟨b,o,none⟩/\b < w.heap.size/\b ∉ X/\l[k]?=some x/\K.R w X x cs/\cs.length=K.sz/\∀ j c,cs[j]?=some c->w.cell? ⟨b,o + k * K.sz + j,none⟩=some c := by
 have hf := h.facts;obtain ⟨vs,h1,h2,h3⟩ := h;obtain ⟨b,o,ha,hb,hx,hc⟩ := h3.2.2.2 (by omega);have hlk : l[k]?=some (l[k]'(by omega)) := List.getElem?_eq_getElem (by omega);have hvk : vs[k]?=some (vs[k]'(by omega)) := List.getElem?_eq_getElem (by omega);exact ⟨b,o,_,_,ha,hb,hx,hlk,h2 k _ _ hlk hvk,(hc k _ hvk).1,(hc k _ hvk).2⟩
end
theorem SlE.slR {w : World} {X : List Nat} {l : List Ex} {a : Option Addr} {len cap : Nat} (h : SlE w X l a len cap) : SlR exK w X l a len cap := h
theorem SlT.slR {w : World} {X : List Nat} {l : List Te} {a : Option Addr} {len cap : Nat} (h : SlT w X l a len cap) : SlR teK w X l a len cap := h
theorem SlR.slE {w : World} {X : List Nat} {l : List Ex} {a : Option Addr} {len cap : Nat} (h : SlR exK w X l a len cap) : SlE w X l a len cap := h
theorem SlR.slT {w : World} {X : List Nat} {l : List Te} {a : Option Addr} {len cap : Nat} (h : SlR teK w X l a len cap) : SlT w X l a len cap := h
theorem or_map {p q r s : Prop} (h : p\/q) (f : p->r) (g : q->s) : r\/s := h.elim (fun x => .inl (f x)) (fun x => .inr (g x))
def busy (v : Value) (Y : List Nat) : List Nat := v.ownBlock.toList ++ Y
theorem busy_mem {v : Value} {Y : List Nat} {b : Nat} : b ∈ busy v Y ↔ v.ownBlock=some b\/b ∈ Y := by
 unfold busy; rw [List.mem_append,Option.mem_toList]
structure Gro {α : Type} (K : Elt α) (e : TypeId) (base : Nat) (w : World) (X : List Nat) (l : List α) (v : Value) (csl : List (List Value)) : Prop where
 own : w.ownsRow base e K.sz v l.length csl.flatten
 room : base<=w.heap.size
 above : ∀ b ∈ X,b < base
 count : csl.length=l.length
 elts : ∀ (i : Nat) (x : α) (cs : List Value),l[i]?=some x->csl[i]?=some cs->K.R w (busy v X) x cs
section
variable {α : Type} {K : Elt α} {e : TypeId} {base : Nat} {w w' w1 w2 : World} {X Y : List Nat} {l : List α} {v v' : Value} {csl : List (List Value)}
theorem Gro.len4 (h : Gro K e base w X l v csl) : ∀ c ∈ csl,c.length=K.sz := by
 exact Z7_136
theorem Gro.start (K : Elt α) (e : TypeId) {base : Nat} {w : World} {X : List Nat} (hb : base<=w.heap.size) (hX : ∀ b ∈ X,b < base) : Gro K e base w X [] (.slice none 0 0) [] :=
 ⟨World.ownsRow_nil _ _ _ _,hb,hX,rfl,fun i x cs h _ => by simp at h⟩
theorem Gro.lt (h : Gro K e base w X l v csl) {g : Nat} (hg : v.ownBlock=some g) : base<=g/\g < w.heap.size := own_lt h.own hg
theorem Gro.notIn (h : Gro K e base w X l v csl) {g : Nat} (hg : v.ownBlock=some g) : g ∉ X := fun hm => by have := h.above g hm; have := (h.lt hg).1; omega
theorem own_same {w w' : World} {base : Nat} {e : TypeId} {sz n : Nat} {v : Value} {xs : List Value} (h : w.ownsRow base e sz v n xs) (hg : ∀ g,v.ownBlock=some g->w'.heap[g]?=w.heap[g]?) : w'.ownsRow base e sz v n xs := by
 obtain ⟨h1,h2⟩ := h;refine ⟨h1,?_⟩;rcases h2 with h2 | ⟨g,cap,cur,hv,hgb,hh,r⟩
 . exact .inl h2
 . subst hv;exact .inr ⟨g,cap,cur,rfl,hgb,by rw [hg g rfl]; exact hh,r⟩
theorem Gro.kept (h : Gro K e base w X l v csl) (k : Kept Y w w') (hY : ∀ b ∈ Y,b ∈ X) : Gro K e base w' X l v csl :=
 ⟨own_same h.own (fun g hg => k.2 g (h.lt hg).2 (fun hm => h.notIn hg (hY g hm))),Nat.le_trans h.room k.1,h.above,h.count,fun i x cs hx hc => K.kept (h.elts i x cs hx hc) (k.more (fun b hb => busy_mem.2 (.inr (hY b hb))))⟩
theorem Gro.below (h : Gro K e base w X l v csl) (k : Below w.heap.size w w') : Gro K e base w' X l v csl := h.kept (Y := []) (Kept.of_below k []) (fun b hb => by cases hb)
theorem Gro.alloc (h : Gro K e base w X l v csl) (o : Obj) : Gro K e base (w.alloc o) X l v csl := h.kept (Y := []) (Kept.alloc w o []) (fun b hb => by cases hb)
theorem Gro.rowKept (h : Gro K e base w X l v csl) (hg : w.grownBy w' v.ownBlock) : Kept (busy v X) w w' := Kept.of_grown_own hg (fun b hb => busy_mem.2 (.inl hb))
theorem Gro.push (h : Gro K e base w X l v csl) {x : α} {cs : List Value} (hR : K.R w (busy v X) x cs)
 (ho : w'.ownsRow base e K.sz v' (l.length + 1) (csl.flatten ++ cs)) (hg : w.grownBy w' v.ownBlock) (hv : v'.ownBlock=v.ownBlock\/v'.ownBlock=some w.heap.size) :
 Gro K e base w' X (l ++ [x]) v' (csl ++ [cs]) := by
 have hK := h.rowKept hg;have cut : ∀ b,b < w.heap.size->b ∈ busy v' X->b ∈ busy v X := by
  intro b hb hm;rcases busy_mem.1 hm with hm | hm
  . rcases hv with hv | hv
    . exact busy_mem.2 (.inl (by rw [<- hv]; exact hm))
    . rw [hm] at hv; injection hv with hv; omega
  . exact busy_mem.2 (.inr hm)
 have hK' : Kept (busy v X ++ busy v' X) w w' := hK.more (fun b hb => List.mem_append.2 (.inl hb));have move : ∀ y c,K.R w (busy v X) y c->K.R w' (busy v' X) y c := by
  intro y c hy;have h1 : K.R w (busy v X ++ busy v' X) y c := K.less hy (fun b hb hm => by
   rcases List.mem_append.1 hm with hm | hm
   . exact hm
   . exact cut b hb hm)
  exact K.less (K.kept h1 hK') (fun b _ hm => List.mem_append.2 (.inr hm))
 refine ⟨by rw [List.length_append,List.flatten_append,List.flatten_singleton]; exact ho,Nat.le_trans h.room hg.size,h.above,by rw [List.length_append,List.length_append,h.count]; rfl,fun i y c hy hc => ?_⟩;exact Z7_83
theorem Gro.slR (h : Gro K e base w X l v csl) : ∃ a cap,v=.slice a l.length cap/\SlR K w X l a l.length cap := by
 have hmx : maxLen=9223372036854775807 := by decide
 have hel : ∀ (i : Nat) (x : α) (cs : List Value),l[i]?=some x->csl[i]?=some cs->K.R w X x cs := fun i x cs hx hc => K.less (h.elts i x cs hx hc) (fun b _ hm => busy_mem.2 (.inr hm))
 rcases h.own.2 with ⟨rfl,h00⟩ | ⟨g,capn,cur,hv,h1,h2,h3,h4,h5,h6⟩
 . exact Z7_127
 . subst hv;refine ⟨_,capn,rfl,csl,h.count,hel,h.count,h3,by omega,fun hp => ⟨g,0,rfl,lt_of_block h2,fun hm => by have := h.above g hm; omega,fun i cs hi => ⟨h.len4 cs (List.mem_of_getElem? hi),fun j c hj => ?_⟩⟩⟩;exact Z7_85
end
end
section
theorem Elt.to {α : Type} (K : Elt α) {w w' : World} {X Y X' : List Nat} {x : α} {cs : List Value} (h : K.R w X x cs) (k : Kept Y w w') (hY : ∀ b ∈ Y,b ∈ X) (hX : ∀ b ∈ X',b ∈ X\/w.heap.size<=b) : K.R w' X' x cs := by
 have h1 : K.R w (X ++ X') x cs := K.less h (fun b hb hm => by
  rcases List.mem_append.1 hm with hm | hm
  . exact hm
  . exact (hX b hm).resolve_right (by omega))
 exact K.less (K.kept h1 (k.more (fun b hb => List.mem_append.2 (.inl (hY b hb))))) (fun b _ hm => List.mem_append.2 (.inr hm))
theorem SlR.to {α : Type} {K : Elt α} {w w' : World} {X Y X' : List Nat} {l : List α} {a : Option Addr} {len cap : Nat} (h : SlR K w X l a len cap) (k : Kept Y w w') (hY : ∀ b ∈ Y,b ∈ X) (hX : ∀ b ∈ X',b ∈ X\/w.heap.size<=b) : SlR K w' X' l a len cap := by
 have h1 : SlR K w (X ++ X') l a len cap := h.less (fun b hb hm => by
  rcases List.mem_append.1 hm with hm | hm
  . exact hm
  . exact (hX b hm).resolve_right (by omega))
 exact (h1.kept (k.more (fun b hb => List.mem_append.2 (.inl (hY b hb))))).less (fun b _ hm => List.mem_append.2 (.inr hm))
theorem ap_row {P : Program} {w : World} {ops : Array Oper} {rest : List Oper} {o : Oper} {a : Act} {Q : Exit->Act->World->Prop} {t e : TypeId} {z : Value} {size bytes base : Nat}
 (hinfo : (P.info? e).map (fun i => (i.zero,i.size,i.bytes))=some (some z,size,bytes)) (ht : P.underlying t=some (.slice e)) (hzs : z.cells.size=size) (hsz : 0 < size)
 (hgd : o.guard=none) (s x : Operand) (ho : o.op=.call { callee := .builtin .append,args := #[s,x],argTypes := #[t,t] })
 {v : Value} {n : Nat} {xs : List Value} (hs : a.eval s=v) (hown : w.ownsRow base e size v n xs) (hbase : base<=w.heap.size)
 (ad : Addr) (m c : Nat) (news : List Value) (hx : a.eval x=.slice (some ad) m c) (hl : news.length=m * size)
 (hnews : ∀ j u,news[j]?=some u->w.cell? (ad.add j)=some u) (h1 : ∀ u ∈ news,u.oneCell'=true)
 (h63 : n + m<=maxLen) (hbytes : (n + m) * bytes<=140737488355328)
 (h : ∀ v' w',w'.ownsRow base e size v' (n + m) (xs ++ news)->w.grownBy w' v.ownBlock->(v'.ownBlock=v.ownBlock\/v'.ownBlock=some w.heap.size)->wpList P ops Q rest (a.put o.dst v') w') :
 wpList P ops Q (o :: rest) a w := by
 obtain ⟨i,hi,hz,hsize,hby⟩ := info_parts hinfo;refine wpList_plain hgd fun _ hK => ?_
 obtain ⟨v',w',hrun,h2,h3,h4,h5⟩ := run_append_own_at (P := P) w base t o.type e i z size bytes ht hi hz hsize hby hzs hsz v n xs hown ad m c news hl hnews h1 h63 hbytes hbase;unfold Oper.wp execOp;simp only [ho,resolve,invoke,builtin,Sem.run_bind,Sem.run_pure,Result.andThen_ok,List.map_toArray,List.map_cons,List.map_nil,hs,hx,hrun];exact hK _ _ (h v' w' h2 h3 h5)
theorem lit_cells_at (w : World) (cs : Array Value) (t : TypeId) (g : Nat) (hg : g=w.heap.size) : ∀ j u,cs.toList[j]?=some u->(w.alloc (.cells cs t)).cell? ((⟨g,0,none⟩ : Addr).add j)=some u := by
 subst hg; exact Mem.lit_cells w cs t
def slK {α : Type} (K : Elt α) : World->List Nat->List α->Value->Prop := fun w X l v => ∃ a cap,v=.slice a l.length cap/\SlR K w X l a l.length cap
structure Grow {α : Type} (K : Elt α) (e : TypeId) (base : Nat) (w : World) (X : List Nat) (l : List α) (v : Value) (csl : List (List Value)) : Prop where
 own : w.ownsRow base e K.sz v l.length csl.flatten
 room : base<=w.heap.size
 apart : ∀ g,v.ownBlock=some g->g ∉ X
 lt : ∀ b ∈ X,b < w.heap.size
 count : csl.length=l.length
 elts : ∀ (i : Nat) (x : α) (cs : List Value),l[i]?=some x->csl[i]?=some cs->K.R w (busy v X) x cs
section
variable {α : Type} {K : Elt α} {e : TypeId} {base : Nat} {w w' w1 w2 : World} {X Y X' : List Nat} {l : List α} {v v' : Value} {csl : List (List Value)}
theorem Grow.len4 (h : Grow K e base w X l v csl) : ∀ c ∈ csl,c.length=K.sz := by
 exact Z7_136
theorem Grow.start (K : Elt α) (e : TypeId) {base : Nat} {w : World} {X : List Nat} (hb : base<=w.heap.size) (hX : ∀ b ∈ X,b < w.heap.size) : Grow K e base w X [] (.slice none 0 0) [] :=
 ⟨World.ownsRow_nil _ _ _ _,hb,fun g hg => by simp [Value.ownBlock] at hg,hX,rfl,fun i x cs h _ => by simp at h⟩
theorem Grow.blt (h : Grow K e base w X l v csl) {g : Nat} (hg : v.ownBlock=some g) : base<=g/\g < w.heap.size := own_lt h.own hg
theorem Grow.to (h : Grow K e base w X l v csl) (k : Kept Y w w') (hY : ∀ b ∈ Y,b ∈ X) (hX : ∀ b ∈ X',(b ∈ X\/w.heap.size<=b)/\b < w'.heap.size) : Grow K e base w' X' l v csl :=
 ⟨own_same h.own (fun g hg => k.2 g (h.blt hg).2 (fun hm => h.apart g hg (hY g hm))),Nat.le_trans h.room k.1,
  fun g hg hm => by
   rcases (hX g hm).1 with h1 | h1
   . exact h.apart g hg h1
   . have := (h.blt hg).2; omega,
  fun b hb => (hX b hb).2,h.count,fun i x cs hx hc => K.to (h.elts i x cs hx hc) k (fun b hb => busy_mem.2 (.inr (hY b hb))) (fun b hb => by
   rcases busy_mem.1 hb with hm | hm
   . exact .inl (busy_mem.2 (.inl hm))
   . exact or_map (hX b hm).1 (fun h1 => busy_mem.2 (.inr h1)) id)⟩
theorem Grow.same (h : Grow K e base w X l v csl) (k : Kept Y w w') (hY : ∀ b ∈ Y,b ∈ X) : Grow K e base w' X l v csl := h.to k hY (fun b hb => ⟨.inl hb,Nat.lt_of_lt_of_le (h.lt b hb) k.1⟩)
theorem Grow.below (h : Grow K e base w X l v csl) (k : Below w.heap.size w w') : Grow K e base w' X l v csl := h.same (Kept.of_below k []) (fun b hb => by cases hb)
theorem Grow.row (_h : Grow K e base w X l v csl) (hg : w.grownBy w' v.ownBlock) : Kept v.ownBlock.toList w w' := Kept.of_grown_own hg (fun b hb => by rw [hb]; simp)
theorem own_next {w : World} {v v' : Value} (hv : v'.ownBlock=v.ownBlock\/v'.ownBlock=some w.heap.size) : ∀ b ∈ v'.ownBlock.toList,b ∈ v.ownBlock.toList\/w.heap.size<=b := by
 intro b hb;rw [Option.mem_toList] at hb;rcases hv with h | h
 . exact .inl (by rw [Option.mem_toList,<- h]; exact hb)
 . rw [h] at hb; injection hb with hb; exact .inr (by omega)
theorem Grow.push (h : Grow K e base w X l v csl) {x : α} {cs : List Value} (hR : K.R w (busy v X) x cs)
 (ho : w'.ownsRow base e K.sz v' (l.length + 1) (csl.flatten ++ cs)) (hg : w.grownBy w' v.ownBlock) (hv : v'.ownBlock=v.ownBlock\/v'.ownBlock=some w.heap.size) :
 Grow K e base w' X (l ++ [x]) v' (csl ++ [cs]) := by
 have hK := h.row hg;have move : ∀ y c,K.R w (busy v X) y c->K.R w' (busy v' X) y c := fun y c hy => K.to hy hK (fun b hb => busy_mem.2 (.inl (by rw [Option.mem_toList] at hb; exact hb))) (fun b hb => by
  rcases busy_mem.1 hb with hm | hm
  . exact Z7_150
  . exact .inl (busy_mem.2 (.inr hm)))
 refine ⟨by rw [List.length_append,List.flatten_append,List.flatten_singleton]; exact ho,Nat.le_trans h.room hg.size,fun g hgb hm => ?_,fun b hb => Nat.lt_of_lt_of_le (h.lt b hb) hg.size,by rw [List.length_append,List.length_append,h.count]; rfl,fun i y c hy hc => ?_⟩
 . exact Z7_146
 . exact Z7_83
theorem Grow.slR (h : Grow K e base w X l v csl) : ∃ a cap,v=.slice a l.length cap/\SlR K w X l a l.length cap := by
 have hmx : maxLen=9223372036854775807 := by decide
 have hel : ∀ (i : Nat) (x : α) (cs : List Value),l[i]?=some x->csl[i]?=some cs->K.R w X x cs := fun i x cs hx hc => K.less (h.elts i x cs hx hc) (fun b _ hm => busy_mem.2 (.inr hm))
 rcases h.own.2 with ⟨rfl,h00⟩ | ⟨g,capn,cur,hv,h1,h2,h3,h4,h5,h6⟩
 . exact Z7_127
 . subst hv;refine ⟨_,capn,rfl,csl,h.count,hel,h.count,h3,by omega,fun hp => ⟨g,0,rfl,lt_of_block h2,h.apart g rfl,fun i cs hi => ⟨h.len4 cs (List.mem_of_getElem? hi),fun j c hj => ?_⟩⟩⟩;exact Z7_85
end
end
section
structure Ob where
 own : List Nat
 P : World->List Nat->Prop
 st : ∀ {w w' : World} {X Y X' : List Nat},P w X->Kept Y w w'->(∀ b ∈ Y,b ∈ X)->(∀ b ∈ X',(b ∈ X\/w.heap.size<=b)/\b < w'.heap.size)->P w' X'
 lt : ∀ {w : World} {X : List Nat},P w X->∀ b ∈ own,b < w.heap.size
def owns : List Ob->List Nat
 | [] => []
 | o :: t => o.own ++ owns t
def others (fam : List Ob) (i : Nat) : List Nat := (List.range fam.length).flatMap fun j => if j=i then [] else ((fam[j]?).map Ob.own).getD []
def Sep (w : World) (fam : List Ob) : Prop := ∀ (i : Nat) (o : Ob),fam[i]?=some o->o.P w (others fam i)
theorem mem_owns {fam : List Ob} {b : Nat} : b ∈ owns fam ↔ ∃ (j : Nat) (o : Ob),fam[j]?=some o/\b ∈ o.own := by
 induction fam with
 | nil => simp [owns]
 | cons x t ih =>
   rw [owns,List.mem_append,ih]
   constructor
   . rintro (h | ⟨j,o,hj,hb⟩)
     . exact ⟨0,x,rfl,h⟩
     . exact ⟨j + 1,o,by simpa using hj,hb⟩
   . rintro ⟨j,o,hj,hb⟩
     cases j with
     | zero => simp at hj; subst hj; exact .inl hb
     | succ j => exact .inr ⟨j,o,by simpa using hj,hb⟩
theorem mem_others {fam : List Ob} {i b : Nat} : b ∈ others fam i ↔ ∃ (j : Nat) (o : Ob),j ≠ i/\fam[j]?=some o/\b ∈ o.own := by
 unfold others;rw [List.mem_flatMap]
 constructor
 . rintro ⟨j,hj,hb⟩
   split at hb
   . cases hb
   . rename_i hne
     cases ho : fam[j]? with
     | none => rw [ho] at hb; cases hb
     | some o => rw [ho] at hb; exact ⟨j,o,hne,ho,hb⟩
 . rintro ⟨j,o,hne,ho,hb⟩;exact ⟨j,List.mem_range.2 (List.getElem?_eq_some_iff.1 ho).1,by rw [if_neg hne,ho]; exact hb⟩
section
variable {w w' : World} {fam : List Ob} {o o' : Ob} {i : Nat} {Y : List Nat}
theorem Sep.nil (w : World) : Sep w [] := fun i o h => by simp at h
theorem Sep.lt (h : Sep w fam) : ∀ b ∈ owns fam,b < w.heap.size := by
 intro b hb;obtain ⟨j,o,hj,hb⟩ := mem_owns.1 hb;exact o.lt (h j o hj) b hb
theorem Sep.at (h : Sep w fam) (i : Nat) {o : Ob} (hi : fam[i]?=some o) : o.P w (others fam i) := h i o hi
theorem Sep.set_ (h : Sep w fam) (i : Nat) {o o' : Ob} (hi : fam[i]?=some o) (k : Kept Y w w') (hY : ∀ b ∈ Y,b ∈ o.own\/w.heap.size<=b) (hown : ∀ b ∈ o'.own,b ∈ o.own\/w.heap.size<=b) (hP : o'.P w' (others fam i)) : Sep w' (fam.set i o') := by
 have hil : i < fam.length := (List.getElem?_eq_some_iff.1 hi).1;intro j oj hj;by_cases hji : j=i
 . subst hji;rw [List.getElem?_set_self hil] at hj;injection hj with hj;subst hj;have e : others (fam.set j o') j=others fam j := by
    unfold others;rw [List.length_set]
    congr 1
    funext k
    by_cases hk : k=j
    . rw [if_pos hk,if_pos hk]
    . rw [if_neg hk,if_neg hk,List.getElem?_set_ne (fun e => hk e.symm)]
   rw [e];exact hP
 . rw [List.getElem?_set_ne (fun e => hji e.symm)] at hj;have hk' : Kept (Y.filter fun b => decide (b < w.heap.size)) w w' := ⟨k.1,fun b hb hx => k.2 b hb (fun hm => hx (List.mem_filter.2 ⟨hm,by simpa using hb⟩))⟩;refine oj.st (h j oj hj) hk' (fun b hb => ?_) (fun b hb => ?_)
   . obtain ⟨h1,h2⟩ := List.mem_filter.1 hb;rcases hY b h1 with h3 | h3
     . exact mem_others.2 ⟨i,o,fun e => hji e.symm,hi,h3⟩
     . simp at h2; omega
   . obtain ⟨m,om,hm,hom,hbm⟩ := mem_others.1 hb;by_cases hmi : m=i
     . subst hmi;rw [List.getElem?_set_self hil] at hom;injection hom with hom;subst hom;exact ⟨or_map (hown b hbm) (fun h1 => mem_others.2 ⟨m,o,hm,hi,h1⟩) id,o'.lt hP b hbm⟩
     . rw [List.getElem?_set_ne (fun e => hmi e.symm)] at hom;exact ⟨.inl (mem_others.2 ⟨m,om,hm,hom,hbm⟩),Nat.lt_of_lt_of_le (om.lt (h m om hom) b hbm) k.1⟩
theorem Sep.kept (h : Sep w fam) (k : Kept [] w w') : Sep w' fam := by
 intro j oj hj;refine oj.st (h j oj hj) k (fun b hb => by cases hb) (fun b hb => ⟨.inl hb,?_⟩);obtain ⟨m,om,hm,hom,hbm⟩ := mem_others.1 hb;exact Nat.lt_of_lt_of_le (om.lt (h m om hom) b hbm) k.1
theorem Sep.below (h : Sep w fam) (k : Below w.heap.size w w') : Sep w' fam := h.kept (Kept.of_below k [])
theorem Sep.drew (h : Sep w fam) : Sep w.drew fam := h.below (Below.refl _ _).drew
theorem Sep.cons (h : Sep w fam) (k : Kept [] w w') (hown : ∀ b ∈ o.own,w.heap.size<=b) (hP : o.P w' (owns fam)) : Sep w' (o :: fam) := by
 intro j oj hj
 cases j with
 | zero =>
   simp at hj;subst hj;refine o.st hP (Kept.refl w' []) (fun b hb => by cases hb) (fun b hb => ?_);obtain ⟨m,om,hm,hom,hbm⟩ := mem_others.1 hb
   cases m with
   | zero => exact absurd rfl hm
   | succ m =>
     have hom' : fam[m]?=some om := by simpa using hom
     exact ⟨.inl (mem_owns.2 ⟨m,om,hom',hbm⟩),Nat.lt_of_lt_of_le (om.lt (h m om hom') b hbm) k.1⟩
 | succ j =>
   have hj' : fam[j]?=some oj := by simpa using hj
   refine oj.st (h j oj hj') k (fun b hb => by cases hb) (fun b hb => ?_);obtain ⟨m,om,hm,hom,hbm⟩ := mem_others.1 hb
   cases m with
   | zero =>
     simp at hom;subst hom;exact ⟨.inr (hown b hbm),o.lt hP b hbm⟩
   | succ m =>
     have hom' : fam[m]?=some om := by simpa using hom
     exact ⟨.inl (mem_others.2 ⟨m,om,fun e => hm (by rw [e]),hom',hbm⟩),Nat.lt_of_lt_of_le (om.lt (h m om hom') b hbm) k.1⟩
theorem Sep.add (h : Sep w fam) (hown : o.own=[]) (hP : o.P w (owns fam)) : Sep w (o :: fam) := h.cons (Kept.refl w []) (fun b hb => by rw [hown] at hb; cases hb) hP
theorem Sep.drop (h : Sep w fam) (i : Nat) : Sep w (fam.eraseIdx i) := by
 intro j oj hj;rw [List.getElem?_eraseIdx] at hj;have key : ∀ m om,(fam.eraseIdx i)[m]?=some om->fam[if m < i then m else m + 1]?=some om := by
  intro m om hm;rw [List.getElem?_eraseIdx] at hm;by_cases hmi : m < i
  . rw [if_pos hmi] at hm ⊢; exact hm
  . rw [if_neg hmi] at hm ⊢; exact hm
 have hj' : fam[if j < i then j else j + 1]?=some oj := by
  by_cases hmi : j < i
  . rw [if_pos hmi] at hj ⊢; exact hj
  . rw [if_neg hmi] at hj ⊢; exact hj
 refine oj.st (h _ oj hj') (Kept.refl w []) (fun b hb => by cases hb) (fun b hb => ?_);obtain ⟨m,om,hm,hom,hbm⟩ := mem_others.1 hb;have hom' := key m om hom;refine ⟨.inl (mem_others.2 ⟨_,om,?_,hom',hbm⟩),om.lt (h _ om hom') b hbm⟩;intro e;apply hm
 split at e <;> split at e <;> omega
end
def bx (g : Nat) (t : TypeId) (cs : Array Value) : Ob where
 own := [g]
 P := fun w X => Mem.Blk w g t cs/\g ∉ X
 st := fun {w w' X Y X'} h k hY hX => ⟨(k.2 g h.1.lt (fun hm => h.2 (hY g hm))).trans h.1,fun hm => by
  rcases (hX g hm).1 with h1 | h1
  . exact h.2 h1
  . have := h.1.lt; omega⟩
 lt := fun h b hb => by rw [List.mem_singleton] at hb; subst hb; exact h.1.lt
def gr {α : Type} (K : Elt α) (e : TypeId) (base : Nat) (l : List α) (v : Value) : Ob where
 own := v.ownBlock.toList
 P := fun w X => ∃ csl,Grow K e base w X l v csl
 st := fun h k hY hX => by obtain ⟨csl,h⟩ := h; exact ⟨csl,h.to k hY hX⟩
 lt := fun h b hb => by obtain ⟨csl,h⟩ := h; rw [Option.mem_toList] at hb; exact (h.blt hb).2
def im {α : Type} (K : Elt α) (x : α) (cs : List Value) : Ob where
 own := []
 P := fun w X => K.R w X x cs
 st := fun h k hY hX => K.to h k hY (fun b hb => (hX b hb).1)
 lt := fun _ b hb => by cases hb
def sl {α : Type} (K : Elt α) (l : List α) (a : Option Addr) (len cap : Nat) : Ob where
 own := []
 P := fun w X => SlR K w X l a len cap
 st := fun h k hY hX => h.to k hY (fun b hb => (hX b hb).1)
 lt := fun _ b hb => by cases hb
section
variable {α : Type} {K : Elt α} {e : TypeId} {base : Nat} {w w' w2 : World} {fam : List Ob} {l : List α} {v v' : Value} {g : Nat} {t : TypeId} {cs : Array Value} {csl : List (List Value)}
theorem Sep.blk (h : Sep w fam) (i : Nat) (hi : fam[i]?=some (bx g t cs)) : Mem.Blk w g t cs := (h.at i hi).1
theorem Sep.new (h : Sep w fam) (t : TypeId) (cs : Array Value) : Sep (w.alloc (.cells cs t)) (bx w.heap.size t cs :: fam) :=
 h.cons (o := bx w.heap.size t cs) (Kept.alloc w _ []) (fun b hb => by rw [show (bx w.heap.size t cs).own=[w.heap.size] from rfl,List.mem_singleton] at hb; omega) ⟨Mem.Blk.new w t cs,fun hm => by have := h.lt _ hm; omega⟩
theorem Sep.store (h : Sep w fam) (i : Nat) (hi : fam[i]?=some (bx g t cs)) (j : Nat) (u : Value) : Sep (w.setCell ⟨g,j,none⟩ u) (fam.set i (bx g t (cs.setIfInBounds j u))) :=
 h.set_ i hi (Kept.setCell w (X := [g]) (by simp) u) (fun b hb => .inl hb) (fun b hb => .inl hb) ⟨(h.at i hi).1.set_ j u,(h.at i hi).2⟩
theorem Sep.push (h : Sep w fam) (i : Nat) (hi : fam[i]?=some (gr K e base l v)) (hG : Grow K e base w (others fam i) l v csl) {x : α} {c : List Value} (hR : K.R w (owns fam) x c)
 (ho : w'.ownsRow base e K.sz v' (l.length + 1) (csl.flatten ++ c)) (hg : w.grownBy w' v.ownBlock) (hv : v'.ownBlock=v.ownBlock\/v'.ownBlock=some w.heap.size) : Sep w' (fam.set i (gr K e base (l ++ [x]) v')) := by
 refine h.set_ i hi (hG.row hg) (fun b hb => .inl hb) (own_next hv) ⟨_,hG.push (K.less hR (fun b _ hm => ?_)) ho hg hv⟩;exact Z7_124
theorem Sep.still (h : Sep w fam) (i : Nat) (hi : fam[i]?=some (gr K e base l v)) : ∃ a cap,v=.slice a l.length cap/\SlR K w (others fam i) l a l.length cap := by
 obtain ⟨csl,hG⟩ := h.at i hi;exact hG.slR
end
end
section
theorem cell_lt {w : World} {a : Addr} {v : Value} (h : w.cell? a=some v) : a.block < w.heap.size := by
 rcases Nat.lt_or_ge a.block w.heap.size with h1 | h1
 . exact h1
 . have : w.heap[a.block]?=none := Array.getElem?_eq_none h1;simp [World.cell?,this] at h
theorem cu9 {w w' : World} {p : Addr} {v : Value} (h : w.cell? p=some v) (hb : Below w.heap.size w w') : w'.cell? p=some v := (hb.cell (cell_lt h)).trans h
theorem below_new (w : World) (o : Obj) : Below w.heap.size w (w.alloc o).drew := ((Below.refl w.heap.size w).alloc (Nat.le_refl _) o).drew
def ndI (n : Nat) : Int := if n < 1000 then (n : Int) else 1000
def rkI (n r : Nat) : Int := if n < 1000 then (r : Int) else 1000
theorem ndI_bd (n : Nat) : 0<=ndI n/\ndI n<=1000 := by unfold ndI; split <;> omega
theorem rkI_bd (n r : Nat) (h : r < 1000) : 0<=rkI n r/\rkI n r<=1000 := by unfold rkI; split <;> omega
structure Cnt (k S M : Nat) (N D : Int) : Prop where
 n1 : 1<=N
 n2 : N<=1 + 1000 * (k : Int)
 d1 : 1<=D
 d2 : D<=1001
 yes : S < 1000->N=(S : Int)/\D=(M : Int)
 no : 1000<=S->1000<=N\/1000<=D
theorem Cnt.one : Cnt 0 1 1 1 1 := ⟨by omega,by omega,by omega,by omega,fun _ => ⟨rfl,rfl⟩,fun h => by omega⟩
theorem Cnt.step {k S M : Nat} {N D : Int} (h : Cnt k S M N D) {n r : Nat} (hn : 1<=n) (hr : r < 1000) : Cnt (k + 1) (S + n) (max M (r + 1)) (N + ndI n) (max D (rkI n r + 1)) := by
 obtain ⟨h1,h2,h3,h4,h5,h6⟩ := h;have b1 := ndI_bd n;have b2 := rkI_bd n r hr;refine ⟨by omega,by omega,by omega,by omega,fun hS => ?_,fun hS => ?_⟩
 . obtain ⟨e1,e2⟩ := h5 (by omega);have hn' : n < 1000 := by omega
   unfold ndI rkI;rw [if_pos hn',if_pos hn']
   constructor <;> omega
 . by_cases hS' : 1000<=S
   . rcases h6 hS' with h7 | h7
     . exact .inl (by omega)
     . exact .inr (by omega)
   . obtain ⟨e1,e2⟩ := h5 (by omega);by_cases hn' : n < 1000
     . left; unfold ndI; rw [if_pos hn']; omega
     . left; unfold ndI; rw [if_neg hn']; omega
theorem Cnt.great {k S M : Nat} {N D : Int} (h : Cnt k S M N D) (hM : M < 1000) (hg : 1000<=N\/1000<=D) : ndI S=1000/\rkI S M=1000 := by
 have : ¬ S < 1000 := fun hS => by obtain ⟨e1,e2⟩ := h.yes hS; omega
 unfold ndI rkI;rw [if_neg this,if_neg this];exact ⟨rfl,rfl⟩
theorem Cnt.small {k S M : Nat} {N D : Int} (h : Cnt k S M N D) (h1 : N < 1000) (h2 : D < 1000) : ndI S=N/\rkI S M=D := by
 have hS : S < 1000 := by
  rcases Nat.lt_or_ge S 1000 with h3 | h3
  . exact h3
  . rcases h.no h3 with h4 | h4 <;> omega
 obtain ⟨e1,e2⟩ := h.yes hS;unfold ndI rkI;rw [if_pos hS,if_pos hS];exact ⟨e1.symm,e2.symm⟩
theorem Ex.nd_snoc (l : List Ex) (x : Ex) : Ex.nd.go (l ++ [x])=Ex.nd.go l + x.nd := by
 induction l with
 | nil => simp [Ex.nd.go]
 | cons y t ih => simp only [List.cons_append,Ex.nd.go,ih]; omega
theorem Ex.rk_snoc (l : List Ex) (x : Ex) : Ex.rk.go (l ++ [x])=max (Ex.rk.go l) x.rk := by
 induction l with
 | nil => simp [Ex.rk.go]
 | cons y t ih => simp only [List.cons_append,Ex.rk.go,ih]; omega
theorem Te.nd_snoc (l : List Te) (x : Te) : Te.nd.go (l ++ [x])=Te.nd.go l + x.nd := by
 induction l with
 | nil => simp [Te.nd.go]
 | cons y t ih => simp only [List.cons_append,Te.nd.go,ih]; omega
theorem Te.rk_snoc (l : List Te) (x : Te) : Te.rk.go (l ++ [x])=max (Te.rk.go l) x.rk := by
 induction l with
 | nil => simp [Te.rk.go]
 | cons y t ih => simp only [List.cons_append,Te.rk.go,ih]; omega
theorem Ex.rk_go_le {l : List Ex} {b : Nat} (h : ∀ e ∈ l,e.rk<=b) : Ex.rk.go l<=b := by
 induction l with
 | nil => simp [Ex.rk.go]
 | cons y t ih =>
   simp only [Ex.rk.go];have h1 := h y (by simp);have h2 := ih (fun e he => h e (by simp [he]));omega
theorem Te.rk_go_le {l : List Te} {b : Nat} (h : ∀ e ∈ l,e.rk<=b) : Te.rk.go l<=b := by
 induction l with
 | nil => simp [Te.rk.go]
 | cons y t ih =>
   simp only [Te.rk.go];have h1 := h y (by simp);have h2 := ih (fun e he => h e (by simp [he]));omega
theorem Ex.nd_pos' (e : Ex) : 1<=e.nd := by cases e; simp only [Ex.nd]; omega
theorem Te.nd_pos' (e : Te) : 1<=e.nd := by cases e; simp only [Te.nd]; omega
theorem max_if (a b : Int) : (if a < b then b else a)=max a b := by split <;> omega
theorem Cnt.push {args : List Ex} {x : Ex} {N D : Int} (h : Cnt args.length (1 + Ex.nd.go args) (1 + Ex.rk.go args) N D) (hr : x.rk < 1000) :
 Cnt (args ++ [x]).length (1 + Ex.nd.go (args ++ [x])) (1 + Ex.rk.go (args ++ [x])) (N + ndI x.nd) (if D < rkI x.nd x.rk + 1 then rkI x.nd x.rk + 1 else D) := by
 have h1 := h.step x.nd_pos' hr;rw [max_if,Ex.nd_snoc,Ex.rk_snoc,List.length_append];rw [show 1 + (Ex.nd.go args + x.nd)=1 + Ex.nd.go args + x.nd by omega,show 1 + max (Ex.rk.go args) x.rk=max (1 + Ex.rk.go args) (x.rk + 1) by omega];exact h1
def Te.nds (xs : List Ex) (ts : List Te) : Nat := 1 + Ex.nd.go xs + Te.nd.go ts
def Te.rks (xs : List Ex) (ts : List Te) : Nat := 1 + max (Ex.rk.go xs) (Te.rk.go ts)
theorem Cnt.pushX {xs : List Ex} {x : Ex} {k : Nat} {N D : Int} (h : Cnt k (Te.nds xs []) (Te.rks xs []) N D) (hr : x.rk < 1000) :
 Cnt (k + 1) (Te.nds (xs ++ [x]) []) (Te.rks (xs ++ [x]) []) (N + ndI x.nd) (if D < rkI x.nd x.rk + 1 then rkI x.nd x.rk + 1 else D) := by
 have h1 := h.step x.nd_pos' hr;unfold Te.nds Te.rks at *;rw [max_if,Ex.nd_snoc,Ex.rk_snoc];simp only [Te.nd.go,Te.rk.go] at *;rw [show 1 + (Ex.nd.go xs + x.nd) + 0=1 + Ex.nd.go xs + 0 + x.nd by omega,show 1 + max (max (Ex.rk.go xs) x.rk) 0=max (1 + max (Ex.rk.go xs) 0) (x.rk + 1) by omega];exact h1
theorem Cnt.pushT {xs : List Ex} {ts : List Te} {x : Te} {k : Nat} {N D : Int} (h : Cnt k (Te.nds xs ts) (Te.rks xs ts) N D) (hr : x.rk < 1000) :
 Cnt (k + 1) (Te.nds xs (ts ++ [x])) (Te.rks xs (ts ++ [x])) (N + ndI x.nd) (if D < rkI x.nd x.rk + 1 then rkI x.nd x.rk + 1 else D) := by
 have h1 := h.step x.nd_pos' hr;unfold Te.nds Te.rks at *;rw [max_if,Te.nd_snoc,Te.rk_snoc];rw [show 1 + Ex.nd.go xs + (Te.nd.go ts + x.nd)=1 + Ex.nd.go xs + Te.nd.go ts + x.nd by omega,show 1 + max (Ex.rk.go xs) (max (Te.rk.go ts) x.rk)=max (1 + max (Ex.rk.go xs) (Te.rk.go ts)) (x.rk + 1) by omega];exact h1
structure Lf where
 op : Int
 n : Int
 nm : ByteArray
 kids : List Int
structure Kn where
 op : Int
 nm : ByteArray
 exprs : List Int
 terms : List Int
def lfK : Elt Lf where
 sz := 4
 pos := by decide
 R := fun w X x cs => ∃ a cap,cs=[.int .i64 x.op,.int .i64 x.n,.string x.nm,.slice a x.kids.length cap]/\I64 x.op/\I64 x.n/\x.nm.size<=9223372036854775807/\SlR i64K w X x.kids a x.kids.length cap
 kept := fun h k => by obtain ⟨a,cap,rfl,h1,h2,h3,h4⟩ := h; exact ⟨a,cap,rfl,h1,h2,h3,h4.kept k⟩
 less := fun h k => by obtain ⟨a,cap,rfl,h1,h2,h3,h4⟩ := h; exact ⟨a,cap,rfl,h1,h2,h3,h4.less k⟩
 one := fun h => by obtain ⟨a,cap,rfl,h1,h2,h3,h4⟩ := h; exact ⟨rfl,by simp [Value.oneCell']⟩
def knK : Elt Kn where
 sz := 4
 pos := by decide
 R := fun w X x cs => ∃ a cap a' cap',cs=[.int .i64 x.op,.string x.nm,.slice a x.exprs.length cap,.slice a' x.terms.length cap']/\I64 x.op/\x.nm.size<=9223372036854775807/\SlR i64K w X x.exprs a x.exprs.length cap/\SlR i64K w X x.terms a' x.terms.length cap'
 kept := fun h k => by obtain ⟨a,cap,a',cap',rfl,h1,h2,h3,h4⟩ := h; exact ⟨a,cap,a',cap',rfl,h1,h2,h3.kept k,h4.kept k⟩
 less := fun h k => by obtain ⟨a,cap,a',cap',rfl,h1,h2,h3,h4⟩ := h; exact ⟨a,cap,a',cap',rfl,h1,h2,h3.less k,h4.less k⟩
 one := fun h => by obtain ⟨a,cap,a',cap',rfl,h1,h2,h3,h4⟩ := h; exact ⟨rfl,by simp [Value.oneCell']⟩
def nds (es : List Ex) : List Int := es.map fun e => ndI e.nd
def rks (es : List Ex) : List Int := es.map fun e => rkI e.nd e.rk
def ndsT (ts : List Te) : List Int := ts.map fun e => ndI e.nd
def rksT (ts : List Te) : List Int := ts.map fun e => rkI e.nd e.rk
theorem Sep.elt {α : Type} {K : Elt α} {e : TypeId} {base : Nat} {w : World} {fam : List Ob} {l : List α} {v : Value} (h : Sep w fam) (i : Nat) (hi : fam[i]?=some (gr K e base l v)) (j : Nat) (hj : j < l.length) :
 ∃ g cap x cs,v=.slice (some ⟨g,0,none⟩) l.length cap/\l.length<=cap/\l[j]?=some x/\K.R w (owns fam) x cs/\cs.length=K.sz/\∀ m c,m < K.sz->cs[m]?=some c->w.cell? ⟨g,j * K.sz + m,none⟩=some c := by
 obtain ⟨csl,hG⟩ := h.at i hi;obtain ⟨g,cap,rfl,hg0,hg1,hg2,hob⟩ := own_form hG.own (by omega);have hx : l[j]?=some (l[j]'hj) := List.getElem?_eq_getElem hj;have hc : csl[j]?=some (csl[j]'(by rw [hG.count]; exact hj)) := List.getElem?_eq_getElem (by rw [hG.count]; exact hj);have hR := hG.elts j _ _ hx hc;refine ⟨g,cap,_,_,rfl,hg2,hx,K.less hR (fun b _ hm => ?_),(K.one hR).1,fun m c hm hcm => ?_⟩
 . obtain ⟨q,o,hq,hb⟩ := mem_owns.1 hm;by_cases hqi : q=i
   . subst hqi;rw [hi] at hq;injection hq with hq;subst hq;have hb' : b ∈ (Value.slice (some ⟨g,0,none⟩) l.length cap).ownBlock.toList := hb;rw [Option.mem_toList] at hb';exact busy_mem.2 (.inl hb')
   . exact busy_mem.2 (.inr (mem_others.2 ⟨q,o,hqi,hq,hb⟩))
 . rw [hG.own.cellAt (j * K.sz + m) (by calc j * K.sz + m < j * K.sz + K.sz := by omega
                                             _=(j + 1) * K.sz := by rw [Nat.add_mul]; omega
                                             _<=l.length * K.sz := Nat.mul_le_mul_right _ (by omega)),flat_get K.sz csl hG.len4 j m _ hc hm]
   exact hcm
theorem Sep.form {α : Type} {K : Elt α} {e : TypeId} {base : Nat} {w : World} {fam : List Ob} {l : List α} {v : Value} (h : Sep w fam) (i : Nat) (hi : fam[i]?=some (gr K e base l v)) : ∃ a cap,v=.slice a l.length cap := by
 obtain ⟨a,cap,hv,_⟩ := h.still i hi;exact ⟨a,cap,hv⟩
end
section
open Classical in
noncomputable def eqv {α : Type} (a b : α) : Bool := decide (a=b)
open Classical in
theorem eqv_yes {α : Type} {a b : α} (h : a=b) : eqv a b=true := by unfold eqv; exact decide_eq_true h
open Classical in
theorem eqv_no {α : Type} {a b : α} (h : a ≠ b) : eqv a b=false := by unfold eqv; exact decide_eq_false h
open Classical in
theorem eqv_iff {α : Type} {a b : α} : eqv a b=true ↔ a=b := by unfold eqv; exact decide_eq_true_iff
theorem list_ne {α : Type} {l l' : List α} {k : Nat} {x y : α} (h : l[k]?=some x) (h' : l'[k]?=some y) (hne : x ≠ y) : l ≠ l' := by
 rintro rfl; rw [h] at h'; injection h' with h'; exact hne h'
theorem list_eq_of {α : Type} {l l' : List α} (hl : l.length=l'.length) (h : ∀ (j : Nat) x,j < l.length->l[j]?=some x->l'[j]?=some x) : l=l' := by
 apply List.ext_getElem?;intro j;rcases Nat.lt_or_ge j l.length with hj | hj
 . have := List.getElem?_eq_getElem hj;rw [this,h j _ hj this]
 . rw [List.getElem?_eq_none hj,List.getElem?_eq_none (by omega)]
theorem tl_ne {s s' : ByteArray} (h : s ≠ s') : (s.toList == s'.toList)=false := by
 rw [beq_eq_false_iff_ne];intro he;rw [ByteArray.toList_eq,ByteArray.toList_eq] at he;apply h
 cases s; cases s'
 simp at he;rw [he]
theorem Te.rk_pos' (e : Te) : 1<=e.rk := by cases e; simp only [Te.rk]; omega
theorem eqT {op : Int} {nm : ByteArray} {x x2 : List Ex} {t t2 : List Te} : eqv (Te.mk op nm x t) (Te.mk op nm x2 t2)=(eqv x x2 && eqv t t2) := by
 rw [Bool.eq_iff_iff,Bool.and_eq_true,eqv_iff,eqv_iff,eqv_iff]
 constructor
 . intro h; injection h with _ _ h1 h2; exact ⟨h1,h2⟩
 . rintro ⟨rfl,rfl⟩; rfl
end
section
theorem bT_inv {op : Int} {nm : ByteArray} {x : List Ex} {l : List Te} (h : bT (.mk op nm x l)=true) :
 arX op=(x.length : Nat)/\arT op=(l.length : Nat)/\okT op nm=true/\(∀ e ∈ x,bE e=true)/\∀ t ∈ l,bT t=true := by
 rw [bT,bT_go] at h;simp only [Bool.and_eq_true,beq_iff_eq,Bool.not_eq_true',List.any_eq_false,Bool.not_eq_true,Bool.not_eq_false'] at h;obtain ⟨⟨⟨⟨h1,h2⟩,h3⟩,h4⟩,h5⟩ := h;exact ⟨h1,h2,h3,(fun e he => by have := h4 e he; simpa using this),(fun e he => by have := h5 e he; simpa using this)⟩
theorem bE_inv {op n : Int} {nm : ByteArray} {l : List Ex} (h : bE (.mk op n nm l)=true) : ar op=(l.length : Nat)/\okE op n nm=true/\∀ e ∈ l,bE e=true := by
 rw [bE,bE_go] at h;simp only [Bool.and_eq_true,beq_iff_eq,Bool.not_eq_true',List.any_eq_false,Bool.not_eq_true,Bool.not_eq_false'] at h;obtain ⟨⟨h1,h2⟩,h3⟩ := h;exact ⟨h1,h2,fun e he => by have := h3 e he; simpa using this⟩
def obsE : Ex->List ByteArray
 | .mk op _ nm l => (if op=3 then [nm] else []) ++ go l
 where go : List Ex->List ByteArray
 | [] => []
 | e :: t => obsE e ++ go t
end
section
def needK (op : Int) : Int := if (5<=op/\op<=10)\/op=20 then 1 else if 11<=op/\op<=16 then 1 else if op=17\/op=18\/op=19 then 2 else 0
def isK (op : Int) : Int := if (5<=op/\op<=10)\/op=20 then 1 else if 11<=op/\op<=16 then 2 else if op=17\/op=18\/op=19 then 2 else 1
def kOf (op : Int) (l : List Int) : Int := if op=21 then (if l.getD 0 0=2/\l.getD 1 0=l.getD 2 0 then l.getD 1 0 else 0) else if l.all (fun k => decide (k=needK op)) then isK op else 0
def kE : Ex->Int
 | .mk op _ _ l => kOf op (go l)
 where go : List Ex->List Int
 | [] => []
 | e :: t => kE e :: go t
theorem kE_go (l : List Ex) : kE.go l=l.map kE := by
 induction l with
 | nil => rfl
 | cons x t ih => simp only [kE.go,ih,List.map_cons]
theorem kE_mk (op n : Int) (nm : ByteArray) (l : List Ex) : kE (.mk op n nm l)=kOf op (l.map kE) := by rw [kE,kE_go]
theorem isK_01 (op : Int) : isK op=1\/isK op=2 := by
 unfold isK
 repeat' split
 all_goals first | exact .inl rfl | exact .inr rfl
theorem kE_bd : ∀ (r : Nat) (e : Ex),e.rk<=r->kE e=0\/kE e=1\/kE e=2 := by
 intro r
 induction r with
 | zero => intro e h; have := e.rk_pos; omega
 | succ r ih =>
   intro e hr;obtain ⟨op,n,nm,l⟩ := e;rw [kE_mk];unfold kOf;by_cases h21 : op=21
   . rw [if_pos h21]
     split
     . rw [List.getD_eq_getElem?_getD,List.getElem?_map]
       cases h1 : l[1]? with
       | none => exact .inl rfl
       | some x => exact ih x (by have := Ex.rk_lt (op := op) (n := n) (nm := nm) h1; omega)
     . exact .inl rfl
   . rw [if_neg h21]
     split
     . rcases isK_01 op with h | h
       . exact .inr (.inl h)
       . exact .inr (.inr h)
     . exact .inl rfl
def rkOf (op : Int) (l : List Int) : Int :=
 if op<=4 then 1 else if (op<=10\/op=20)/\l.all (fun k => decide (k=1)) then 1 else if 11<=op/\op<=16/\l.all (fun k => decide (k=1)) then 2
 else if 17<=op/\op<=19/\l.all (fun k => decide (k=2)) then 2 else if op=21/\l.getD 0 0=2/\l.getD 1 0=l.getD 2 0 then l.getD 1 0 else 0
theorem ar_op {op : Int} (h : 0<=ar op) : 1<=op/\op<=21 := by
 unfold ar at h
 repeat' split at h
 all_goals omega
theorem ar_nil {op : Int} (h1 : 1<=op) (h4 : op<=4) : ar op=0 := by unfold ar; rw [if_pos ⟨h1,h4⟩]
theorem rkOf_eq {op : Int} {l : List Int} (h : ar op=(l.length : Nat)) : rkOf op l=kOf op l := by
 obtain ⟨h1,h2⟩ := ar_op (by omega : 0<=ar op);unfold rkOf kOf needK isK;by_cases h4 : op<=4
 . have hl : l=[] := List.length_eq_zero_iff.1 (by rw [ar_nil h1 h4] at h; omega);subst hl;rw [if_pos h4,if_neg (by omega)];simp
   repeat' split
   all_goals first | rfl | omega
 . rw [if_neg h4];by_cases h10 : op<=10\/op=20
   . have e : (5<=op/\op<=10)\/op=20 := by omega
     have n21 : ¬ op=21 := by omega
     have n11 : ¬ (11<=op/\op<=16) := by omega
     have n17 : ¬ (17<=op/\op<=19) := by omega
     simp only [if_pos e,if_neg n21,h10,true_and,n21,false_and,if_false];by_cases ha : l.all (fun k => decide (k=1))=true
     . simp [ha]
     . simp [ha,n11,n17];intro a b; omega
   . have e : ¬ ((5<=op/\op<=10)\/op=20) := by omega
     rw [if_neg (by intro hh; exact h10 hh.1)];by_cases h16 : 11<=op/\op<=16
     . have n21 : ¬ op=21 := by omega
       have n17 : ¬ (17<=op/\op<=19) := by omega
       by_cases ha : l.all (fun k => decide (k=1))=true
       . rw [if_pos ⟨h16.1,h16.2,ha⟩,if_neg n21,if_neg e,if_pos h16,if_pos ha,if_neg e,if_pos h16]
       . rw [if_neg (fun hh => ha hh.2.2),if_neg (fun hh => n17 ⟨hh.1,hh.2.1⟩),if_neg (fun hh => n21 hh.1),if_neg n21,if_neg e,if_pos h16,if_neg ha]
     . rw [if_neg (fun hh => h16 ⟨hh.1,hh.2.1⟩)];by_cases h17 : 17<=op/\op<=19
       . have n21 : ¬ op=21 := by omega
         have e17 : op=17\/op=18\/op=19 := by omega
         by_cases ha : l.all (fun k => decide (k=2))=true
         . rw [if_pos ⟨h17.1,h17.2,ha⟩,if_neg n21,if_neg e,if_neg h16,if_pos e17,if_pos ha,if_neg e,if_neg h16,if_pos e17]
         . rw [if_neg (fun hh => ha hh.2.2),if_neg (fun hh => n21 hh.1),if_neg n21,if_neg e,if_neg h16,if_pos e17,if_neg ha]
       . have h21 : op=21 := by omega
         rw [if_neg (fun hh => h17 ⟨hh.1,hh.2.1⟩),if_pos h21];by_cases hb : l.getD 0 0=2/\l.getD 1 0=l.getD 2 0
         . rw [if_pos ⟨h21,hb.1,hb.2⟩,if_pos hb]
         . rw [if_neg (fun hh => hb hh.2),if_neg hb]
end
section
def minI : Int := -9223372036854775808
def knownE : Ex->Option Int
 | .mk op n _ l => if op=1\/op=2 then some n else if op=20 then (match l with | .mk o m _ _ :: _ => if o=1 then some (-m) else none | [] => none) else none
def fitI (z : Int) : Option Int := if -9223372036854775808<=z/\z<=9223372036854775807 then some z else none
def valueM (op : Int) (l : List Int) : Option Int :=
 if op=5 then fitI (l.getD 0 0 + l.getD 1 0) else if op=6 then fitI (l.getD 0 0 - l.getD 1 0) else if op=7 then fitI (l.getD 0 0 * l.getD 1 0)
 else if op=8 then (if l.getD 1 0=0 then none else fitI ((l.getD 0 0).fdiv (l.getD 1 0))) else if op=9 then some (min (l.getD 0 0) (l.getD 1 0)) else if op=10 then some (max (l.getD 0 0) (l.getD 1 0))
 else if op=20 then fitI (-(l.getD 0 0)) else none
def constE (n : Int) : Ex := if 0<=n then .mk 1 n ⟨#[]⟩ [] else .mk 20 0 ⟨#[]⟩ [.mk 1 (-n) ⟨#[]⟩ []]
def foldO (op n : Int) (nm : ByteArray) (l : List Ex) : Ex :=
 if (l.filterMap knownE).length < l.length\/(l.filterMap knownE).length=0 then .mk op n nm l
 else match valueM op (l.filterMap knownE) with | some v => if v=minI then .mk op n nm l else constE v | none => .mk op n nm l
def foldE : Ex->Ex
 | .mk op n nm l => foldO op n nm (go l)
 where go : List Ex->List Ex
 | [] => []
 | e :: t => foldE e :: go t
theorem value_bd {op : Int} {l : List Int} {v : Int} (hl : ∀ x ∈ l,-9223372036854775808<=x/\x<=9223372036854775807) (h : valueM op l=some v) : -9223372036854775808<=v/\v<=9223372036854775807 := by
 have hg : ∀ i,-9223372036854775808<=l.getD i 0/\l.getD i 0<=9223372036854775807 := by
  intro i;rw [List.getD_eq_getElem?_getD]
  cases hi : l[i]? with
  | none => exact ⟨by decide,by decide⟩
  | some x => exact hl x (List.mem_of_getElem? hi)
 have hf : ∀ z,fitI z=some v->-9223372036854775808<=v/\v<=9223372036854775807 := by
  intro z hz;unfold fitI at hz
  split at hz
  . injection hz with hz; subst hz; assumption
  . cases hz
 have g0 := hg 0;have g1 := hg 1;unfold valueM at h
 repeat' split at h
 all_goals first | exact hf _ h | (injection h with h; omega) | cases h
def NumsE : Ex->Prop
 | .mk _ n _ l => I64 n/\go l
 where go : List Ex->Prop
 | [] => True
 | e :: t => NumsE e/\go t
theorem nums_go {l : List Ex} : NumsE.go l ↔ ∀ e ∈ l,NumsE e := by
 induction l with
 | nil => simp [NumsE.go]
 | cons x t ih => simp only [NumsE.go,ih,List.mem_cons,forall_eq_or_imp]
theorem RepE.nums {w : World} {X : List Nat} : ∀ (r : Nat) (e : Ex),e.rk<=r->∀ (cs : List Value),RepE w X e cs->NumsE e := by
 intro r
 induction r with
 | zero => intro e h; have := e.rk_pos; omega
 | succ r ih =>
   intro e hr cs h;obtain ⟨op,n,nm,l,a,len,cap,rfl,rfl,-,h2,-,hS⟩ := h.inv;have hf := hS.facts;refine ⟨h2,nums_go.2 (fun e he => ?_)⟩;obtain ⟨k,hk⟩ := List.getElem?_of_mem he;have hkl : k < l.length := (List.getElem?_eq_some_iff.1 hk).1;obtain ⟨b,o,op',n',nm',args,a',len',cap',-,-,-,hx,j1,j2,j3,hS',-⟩ := hS.at k (by omega);rw [hk] at hx;injection hx with hx;subst hx;exact ih _ (by have := Ex.rk_lt (op := op) (n := n) (nm := nm) hk; omega) _ (RepE.mk' j1 j2 j3 hS')
end
section
inductive Vl where
 | unk : Vl
 | num (n : Int) : Vl
 | tru (b : Bool) : Vl
 | brk : Vl
deriving DecidableEq
def Vl.N : Vl->Int | .num n => n | _ => 0
def Vl.B : Vl->Bool | .tru b => b | _ => false
structure Fx where
 name : ByteArray
 day : Int
 val : Int
noncomputable def seenF (day : Int) (nm : ByteArray) : List Fx->Option (Int × Int)->Option (Int × Int)
 | [],b => b
 | f :: t,b => seenF day nm t (if eqv f.name nm=true/\f.day<=day/\(∀ p,b=some p->p.1 < f.day) then some (f.day,f.val) else b)
noncomputable def seenV (day : Int) (fx : List Fx) (nm : ByteArray) : Vl := match seenF day nm fx none with | some p => .num p.2 | none => .unk
def numV : Option Int->Vl | some n => .num n | none => .brk
def cmpV (op a b : Int) : Bool := if op=11 then decide (a < b) else if op=12 then decide (a<=b) else if op=13 then decide (a=b) else if op=14 then decide (a ≠ b) else if op=15 then decide (b<=a) else decide (b < a)
def twoV (op a b : Int) : Vl := if 5<=op/\op<=10 then numV (valueM op [a,b]) else .tru (cmpV op a b)
def bothV (s : Bool) (a b : Vl) : Vl := if a=.brk\/a=.tru s then a else if (∃ t,a=.tru t)\/b=.brk\/b=.tru s then b else .unk
def opV (op : Int) (vs : List Vl) : Vl :=
 if op=17\/op=18 then bothV (decide (op=18)) (vs.getD 0 .unk) (vs.getD 1 .unk)
 else if op=21 then (match vs.getD 0 .unk with | .unk => .unk | .brk => .brk | .num _ => vs.getD 2 .unk | .tru t => if t=true then vs.getD 1 .unk else vs.getD 2 .unk)
 else if op=19 then (match vs.getD 0 .unk with | .unk => .unk | .brk => .brk | .num _ => .tru true | .tru t => .tru (!t))
 else if op=20 then (match vs.getD 0 .unk with | .unk => .unk | .brk => .brk | .num x => numV (fitI (-x)) | .tru _ => .num 0)
 else if vs.getD 0 .unk=.brk\/vs.getD 1 .unk=.brk then .brk else if vs.getD 0 .unk=.unk\/vs.getD 1 .unk=.unk then .unk else twoV op (vs.getD 0 .unk).N (vs.getD 1 .unk).N
noncomputable def evO (day : Int) (fx : List Fx) (op n : Int) (nm : ByteArray) (vs : List Vl) : Vl :=
 if op=1\/op=2 then .num n else if op=4 then .num day else if op=3 then seenV day fx nm else opV op vs
noncomputable def evalE (day : Int) (fx : List Fx) : Ex->Vl
 | .mk op n nm l => evO day fx op n nm (go l)
 where go : List Ex->List Vl
 | [] => []
 | e :: t => evalE day fx e :: go t
theorem evalE_go (day : Int) (fx : List Fx) (l : List Ex) : evalE.go day fx l=l.map (evalE day fx) := by
 induction l with
 | nil => rfl
 | cons x t ih => simp only [evalE.go,ih,List.map_cons]
theorem evalE_mk (day : Int) (fx : List Fx) (op n : Int) (nm : ByteArray) (l : List Ex) : evalE day fx (.mk op n nm l)=evO day fx op n nm (l.map (evalE day fx)) := by rw [evalE,evalE_go]
theorem ar_two {op : Int} (h : 5<=op/\op<=18) : ar op=2 := by unfold ar; rw [if_neg (by omega),if_pos h]
end
section
theorem all_kinds {op : Int} {l : List Int} (ha : ar op=(l.length : Nat)) (h : kOf op l ≠ 0) (h0 : ∀ k ∈ l,k=0\/k=1\/k=2) : ∀ k ∈ l,k ≠ 0 := by
 obtain ⟨h1,h2⟩ := ar_op (by omega : 0<=ar op);unfold kOf at h;by_cases h21 : op=21
 . rw [if_pos h21] at h;have hl : l.length=3 := by subst h21; rw [show ar 21=3 by decide] at ha; omega
   obtain ⟨a,b,c,rfl⟩ : ∃ a b c,l=[a,b,c] := by
    match l,hl with
    | [a,b,c],_ => exact ⟨a,b,c,rfl⟩
   simp at h;intro k hk;simp at hk;obtain ⟨⟨e1,e2⟩,e3⟩ := h;rcases hk with rfl | rfl | rfl <;> omega
 . rw [if_neg h21] at h;by_cases h4 : op<=4
   . have hl : l=[] := List.length_eq_zero_iff.1 (by rw [ar_nil h1 h4] at ha; omega);subst hl;intro k hk; cases hk
   . by_cases hall : l.all (fun k => decide (k=needK op))=true
     . intro k hk;have := List.all_eq_true.1 hall k hk;rw [decide_eq_true_eq] at this;subst this;unfold needK
       repeat' split
       all_goals omega
     . rw [if_neg hall] at h;exact absurd rfl h
theorem kid_kinds {op n : Int} {nm : ByteArray} {l : List Ex} (hb : bE (.mk op n nm l)=true) (h : kE (.mk op n nm l) ≠ 0) : ∀ c ∈ l,kE c ≠ 0 := by
 obtain ⟨h1,-,-⟩ := bE_inv hb;rw [kE_mk] at h;intro c hc;exact all_kinds (by rw [List.length_map]; exact h1) h (fun k hk => by obtain ⟨e,_,rfl⟩ := List.mem_map.1 hk; exact kE_bd _ e (Nat.le_refl _)) _ (List.mem_map.2 ⟨c,hc,rfl⟩)
def faultE : Ex->Option (List Int)
 | .mk op _ _ l => if kOf op (l.map kE) ≠ 0 then none else some (go 0 l)
 where go : Nat->List Ex->List Int
 | _,[] => []
 | i,e :: t => match faultE e with | some p => (i : Int) :: p | none => go (i + 1) t
def lessP : List Int->List Int->Bool
 | [],[] => false
 | [],_ :: _ => true
 | _ :: _,[] => false
 | a :: s,b :: t => if a ≠ b then decide (a < b) else lessP s t
def bet (a b : Option (List Int)) : Option (List Int) :=
 match a,b with
 | none,b => b
 | some a,none => some a
 | some a,some b => if lessP b a=true then some b else some a
def refE : Ex->List Int->Option (List Int)
 | .mk op _ _ l,p => if kOf op (l.map kE)=0/\(∀ c ∈ l,kE c ≠ 0) then bet (go p 0 none l) (some p) else go p 0 none l
 where go (p : List Int) : Nat->Option (List Int)->List Ex->Option (List Int)
 | _,b,[] => b
 | i,b,e :: t => go p (i + 1) (bet b (refE e (p ++ [(i : Int)]))) t
def needT (op : Int) : Int := if op=6 then 1 else 2
def fitT : Te->Bool
 | .mk op _ x l => x.all (fun e => decide (kE e=needT op)) && go l
 where go : List Te->Bool
 | [] => true
 | e :: t => fitT e && go t
theorem fitT_go (l : List Te) : fitT.go l=l.all fitT := by
 induction l with
 | nil => rfl
 | cons x t ih => simp only [fitT.go,ih,List.all_cons]
def firstX (op : Int) : Nat->List Ex->Option (List Int)
 | _,[] => none
 | i,e :: t => if kE e=needT op then firstX op (i + 1) t else some ((i : Int) :: (faultE e).getD [])
def faultT : Te->Option (List Int)
 | .mk op _ x l => match firstX op 0 x with | some p => some p | none => go x.length l
 where go : Nat->List Te->Option (List Int)
 | _,[] => none
 | i,e :: t => match faultT e with | some p => some ((i : Int) :: p) | none => go (i + 1) t
def refX (op : Int) (p : List Int) : Nat->Option (List Int)->List Ex->Option (List Int)
 | _,b,[] => b
 | i,b,e :: t => refX op p (i + 1) (if kE e ≠ 0/\¬ (op=6 ↔ kE e=1) then bet (bet b (refE e (p ++ [(i : Int)]))) (some (p ++ [(i : Int)])) else bet b (refE e (p ++ [(i : Int)]))) t
def refT : Te->List Int->Option (List Int)
 | .mk op _ x l,p => go p x.length (refX op p 0 none x) l
 where go (p : List Int) : Nat->Option (List Int)->List Te->Option (List Int)
 | _,b,[] => b
 | i,b,e :: t => go p (i + 1) (bet b (refT e (p ++ [(i : Int)]))) t
end
end Go.Proofs.YtmiinmndbkdjbaaGreat
