/- A part of the proof: Both, Evl, one behind another. -/
import Derived.Test.YtmiinmndbkdjbaaGreatMEA
import Derived.Test.YtmiinmndbkdjbaaGreatMEG
import Derived.Lib.Hide
import Derived.WalkKit
set_option maxRecDepth 100000
set_option maxHeartbeats 16000000
set_option linter.unusedVariables false
set_option linter.unusedSimpArgs false
namespace Go.Proofs.YtmiinmndbkdjbaaGreat
open Go.RowKit
section
theorem both_any (s : Bool) (day : Int) (a : Option Addr) (len cap : Nat) (op n : Int) (nm : ByteArray) (b o cap' : Nat) (o0 n0 o1 n1 : Int) (m0 m1 : ByteArray) (a0 a1 : Option Addr) (l0 p0 l1 p1 : Nat) (A B : Vl) (w : World)
 (h0 : Four w b o (.int .i64 o0) (.int .i64 n0) (.string m0) (.slice a0 l0 p0)) (h1 : Four w b (o + 4) (.int .i64 o1) (.int .i64 n1) (.string m1) (.slice a1 l1 p1))
 (HA : EvC w day a len cap (.int .i64 o0) (.int .i64 n0) (.string m0) (.slice a0 l0 p0) A) (HB : EvC w day a len cap (.int .i64 o1) (.int .i64 n1) (.string m1) (.slice a1 l1 p1) B) :
 Calls Tryz.prog 124 #[.agg #[.int .i64 day,.slice a len cap],.agg #[.int .i64 op,.int .i64 n,.string nm,.slice (some ⟨b,o,none⟩) 2 cap'],.bool s] w fun x w' => RetV (bothV s A B) x/\Below w.heap.size w w' := by
 have HR : Hid (bothV s A B=if A=.brk\/A=.tru s then A else if (∃ t,A=.tru t)\/B=.brk\/B=.tru s then B else .unk) := by
  show bothV s A B=_;unfold bothV
  congr
 have H0 := LH9 h0;have H1 := LH9 h1;have HCA := LH9 HA;have HCB := LH9 HB;have ST := LH9 (EvSt.start w day a len cap op n nm (some ⟨b,o,none⟩) 2 cap');obtain ⟨R,hR⟩ : ∃ R,R=bothV s A B := ⟨_,rfl⟩;rw [<- hR] at HR ⊢;clear hR h0 h1 HA HB
 go_enter Tryz.func124,Tryz.ntmps124
 go_upto_region 1 with (fail);generalize ((w.alloc (.cells #[.int .i64 day,.slice a len cap] 44)).alloc (.cells #[.int .i64 op,.int .i64 n,.string nm,.slice (some ⟨b,o,none⟩) 2 cap'] 74)).alloc (.cells #[.int .i64 0,.int .i64 0,.bool false] 150)=v at *
 go_cut [7] (fun p W0 => ∃ g,p=.pointer (some ⟨g,0,none⟩)/\Hid (EvSt w W0 day a len cap op n nm (some ⟨b,o,none⟩) 2 cap')/\Hid (EvV w W0 g A))
 case first =>
  obtain ⟨e0,e1,-,-⟩ := ST.o.env.two;have x3 : v.cell? ⟨w.heap.size + 1,3,none⟩=_ := ST.o.ex.cell 3;simp only [List.getElem?_toArray,List.getElem?_cons_zero,List.getElem?_cons_succ] at x3;obtain ⟨u0,u1,u2,u3⟩ := H0.o;replace u0 := cu9 u0 ST.o.below;replace u1 := cu9 u1 ST.o.below;replace u2 := cu9 u2 ST.o.below;replace u3 := cu9 u3 ST.o.below;refine wp_region_till (S := fun W => (W.cell? ⟨w.heap.size,0,none⟩=some (.int .i64 day)/\W.cell? ⟨w.heap.size,1,none⟩=some (.slice a len cap))/\W.cell? ⟨w.heap.size + 1,3,none⟩=some (.slice (some ⟨b,o,none⟩) 2 cap')/\W.cell? ⟨b,o,none⟩=some (.int .i64 o0)/\W.cell? ⟨b,o + 1,none⟩=some (.int .i64 n0)/\W.cell? ⟨b,o + 2,none⟩=some (.string m0)/\W.cell? ⟨b,o + 3,none⟩=some (.slice a0 l0 p0)) 7 (by kernel_rfl) ?_;exact Z7_0
 case rest =>
  obtain ⟨g,rfl,ST0,VA⟩ := hcut;obtain ⟨W0,rfl⟩ : ∃ W : World,W=wc := ⟨_,rfl⟩
  cases A with
  | brk =>
    obtain rfl : R=.brk := by rw [HR.o]; simp
    have t0 : W0.cell? ⟨g,0,none⟩=some (.int .i64 3) := VA.o.blk.cell 0;have t1 : W0.cell? ⟨g,1,none⟩=some (.int .i64 0) := VA.o.blk.cell 1;have t2 : W0.cell? ⟨g,2,none⟩=some (.bool false) := VA.o.blk.cell 2;have HFN := LH9 (ret3 (.int .i64 3) (.int .i64 0) (.bool false) ST0.o.below (by omega : w.heap.size<=w.heap.size + 1 + 1) ST0.o.res);obtain ⟨q0,q1,q2,q3,q4,q5⟩ := blk3 ST0.o.res;have hm := ST0.o.lt;go_wp2_with fail;generalize ((W0.setCell ⟨w.heap.size + 1 + 1,0,none⟩ (.int .i64 3)).setCell ⟨w.heap.size + 1 + 1,1,none⟩ (.int .i64 0)).setCell ⟨w.heap.size + 1 + 1,2,none⟩ (.bool false)=W9 at *;obtain ⟨r0,r1,r2,-,-,-⟩ := blk3 HFN.o.2;refine bodyPost_ret (v := .agg #[.int .i64 3,.int .i64 0,.bool false]) (by simp [results,Tryz.results124,go_sem,r0,r1,r2]) rfl ⟨rfl,HFN.o.1⟩
  | unk =>
    have HR1 : Hid (R=if B=.brk\/B=.tru s then B else .unk) := by rw [HR.o]; simp [Hid]
    have t0 : W0.cell? ⟨g,0,none⟩=some (.int .i64 0) := VA.o.blk.cell 0;have t1 : W0.cell? ⟨g,1,none⟩=some (.int .i64 0) := VA.o.blk.cell 1;have t2 : W0.cell? ⟨g,2,none⟩=some (.bool false) := VA.o.blk.cell 2;go_wp2_with fail
    go_cut [8] (fun p W1 => ∃ g1,p=.pointer (some ⟨g1,0,none⟩)/\Hid (EvSt w W1 day a len cap op n nm (some ⟨b,o,none⟩) 2 cap')/\Hid (EvV w W1 g1 B)/\Hid (EvV w W1 g .unk))
    case first =>
     clear t0 t1 t2;exact Z7_2
    obtain ⟨g1,rfl,ST1,VB,VA1⟩ := hcut;obtain ⟨W1,rfl⟩ : ∃ W : World,W=wc := ⟨_,rfl⟩;clear t0 t1 t2 ST0 VA;have t0 : W1.cell? ⟨g,0,none⟩=some (.int .i64 0) := VA1.o.blk.cell 0;have t1 : W1.cell? ⟨g,1,none⟩=some (.int .i64 0) := VA1.o.blk.cell 1;exact Z7_9
  | num nA =>
    have HR1 : Hid (R=if B=.brk\/B=.tru s then B else .unk) := by rw [HR.o]; simp [Hid]
    have t0 : W0.cell? ⟨g,0,none⟩=some (.int .i64 1) := VA.o.blk.cell 0;have t1 : W0.cell? ⟨g,1,none⟩=some (.int .i64 nA) := VA.o.blk.cell 1;have t2 : W0.cell? ⟨g,2,none⟩=some (.bool false) := VA.o.blk.cell 2;go_wp2_with fail
    go_cut [8] (fun p W1 => ∃ g1,p=.pointer (some ⟨g1,0,none⟩)/\Hid (EvSt w W1 day a len cap op n nm (some ⟨b,o,none⟩) 2 cap')/\Hid (EvV w W1 g1 B)/\Hid (EvV w W1 g (.num nA)))
    case first =>
     clear t0 t1 t2;exact Z7_2
    obtain ⟨g1,rfl,ST1,VB,VA1⟩ := hcut;obtain ⟨W1,rfl⟩ : ∃ W : World,W=wc := ⟨_,rfl⟩;clear t0 t1 t2 ST0 VA;have t0 : W1.cell? ⟨g,0,none⟩=some (.int .i64 1) := VA1.o.blk.cell 0;have t1 : W1.cell? ⟨g,1,none⟩=some (.int .i64 nA) := VA1.o.blk.cell 1;exact Z7_9
  | tru t =>
    by_cases hts : t=s
    . subst hts;obtain rfl : R=.tru t := by rw [HR.o]; simp
      have t0 : W0.cell? ⟨g,0,none⟩=some (.int .i64 2) := VA.o.blk.cell 0;have t1 : W0.cell? ⟨g,1,none⟩=some (.int .i64 0) := VA.o.blk.cell 1;have t2 : W0.cell? ⟨g,2,none⟩=some (.bool t) := VA.o.blk.cell 2
      cases t
      . have HFN := LH9 (ret3 (.int .i64 2) (.int .i64 0) (.bool false) ST0.o.below (by omega : w.heap.size<=w.heap.size + 1 + 1) ST0.o.res);obtain ⟨q0,q1,q2,q3,q4,q5⟩ := blk3 ST0.o.res;have hm := ST0.o.lt;go_wp2_with fail;generalize ((W0.setCell ⟨w.heap.size + 1 + 1,0,none⟩ (.int .i64 2)).setCell ⟨w.heap.size + 1 + 1,1,none⟩ (.int .i64 0)).setCell ⟨w.heap.size + 1 + 1,2,none⟩ (.bool false)=W9 at *;obtain ⟨r0,r1,r2,-,-,-⟩ := blk3 HFN.o.2;refine bodyPost_ret (v := .agg #[.int .i64 2,.int .i64 0,.bool false]) (by simp [results,Tryz.results124,go_sem,r0,r1,r2]) rfl ⟨rfl,HFN.o.1⟩
      . have HFN := LH9 (ret3 (.int .i64 2) (.int .i64 0) (.bool true) ST0.o.below (by omega : w.heap.size<=w.heap.size + 1 + 1) ST0.o.res);obtain ⟨q0,q1,q2,q3,q4,q5⟩ := blk3 ST0.o.res;have hm := ST0.o.lt;go_wp2_with fail;generalize ((W0.setCell ⟨w.heap.size + 1 + 1,0,none⟩ (.int .i64 2)).setCell ⟨w.heap.size + 1 + 1,1,none⟩ (.int .i64 0)).setCell ⟨w.heap.size + 1 + 1,2,none⟩ (.bool true)=W9 at *;obtain ⟨r0,r1,r2,-,-,-⟩ := blk3 HFN.o.2;refine bodyPost_ret (v := .agg #[.int .i64 2,.int .i64 0,.bool true]) (by simp [results,Tryz.results124,go_sem,r0,r1,r2]) rfl ⟨rfl,HFN.o.1⟩
    . have HR1 : R=B := by rw [HR.o]; simp [hts]
      subst HR1;clear HR
      cases t <;> cases s <;> first | exact absurd rfl hts | skip
      . have t0 : W0.cell? ⟨g,0,none⟩=some (.int .i64 2) := VA.o.blk.cell 0;have t1 : W0.cell? ⟨g,1,none⟩=some (.int .i64 0) := VA.o.blk.cell 1;have t2 : W0.cell? ⟨g,2,none⟩=some (.bool false) := VA.o.blk.cell 2;go_wp2_with fail
        go_cut [8] (fun p W1 => ∃ g1,p=.pointer (some ⟨g1,0,none⟩)/\Hid (EvSt w W1 day a len cap op n nm (some ⟨b,o,none⟩) 2 cap')/\Hid (EvV w W1 g1 R)/\Hid (EvV w W1 g (.tru false)))
        case first =>
         exact Z7_18
        obtain ⟨g1,rfl,ST1,VB,VA1⟩ := hcut;obtain ⟨W1,rfl⟩ : ∃ W : World,W=wc := ⟨_,rfl⟩;clear t0 t1 t2 ST0 VA;have t0 : W1.cell? ⟨g,0,none⟩=some (.int .i64 2) := VA1.o.blk.cell 0;have t1 : W1.cell? ⟨g,1,none⟩=some (.int .i64 0) := VA1.o.blk.cell 1;have t2 : W1.cell? ⟨g,2,none⟩=some (.bool false) := VA1.o.blk.cell 2;exact Z7_60
      . have t0 : W0.cell? ⟨g,0,none⟩=some (.int .i64 2) := VA.o.blk.cell 0;have t1 : W0.cell? ⟨g,1,none⟩=some (.int .i64 0) := VA.o.blk.cell 1;have t2 : W0.cell? ⟨g,2,none⟩=some (.bool true) := VA.o.blk.cell 2;go_wp2_with fail
        go_cut [8] (fun p W1 => ∃ g1,p=.pointer (some ⟨g1,0,none⟩)/\Hid (EvSt w W1 day a len cap op n nm (some ⟨b,o,none⟩) 2 cap')/\Hid (EvV w W1 g1 R)/\Hid (EvV w W1 g (.tru true)))
        case first =>
         exact Z7_18
        obtain ⟨g1,rfl,ST1,VB,VA1⟩ := hcut;obtain ⟨W1,rfl⟩ : ∃ W : World,W=wc := ⟨_,rfl⟩;clear t0 t1 t2 ST0 VA;have t0 : W1.cell? ⟨g,0,none⟩=some (.int .i64 2) := VA1.o.blk.cell 0;have t1 : W1.cell? ⟨g,1,none⟩=some (.int .i64 0) := VA1.o.blk.cell 1;have t2 : W1.cell? ⟨g,2,none⟩=some (.bool true) := VA1.o.blk.cell 2;exact Z7_60
end
section
theorem i64_N (o : Option Int) (h : ∀ v,o=some v->I64 v) : I64 (numV o).N := by
 cases o with
 | none => show I64 0; unfold I64; omega
 | some v => exact h v rfl
theorem i64_0 : I64 0 := by unfold I64; omega
theorem i64_fit (z : Int) : ∀ v,fitI z=some v->I64 v := by
 intro v h;unfold fitI at h
 split at h
 . injection h with h; subst h; assumption
 . cases h
theorem seen_i64 {day : Int} {fx : List Fx} (hf : ∀ f ∈ fx,I64 f.val) (nm : ByteArray) : I64 (seenV day fx nm).N := by
 have key : ∀ (l : List Fx) (b : Option (Int × Int)),(∀ f ∈ l,I64 f.val)->(∀ p,b=some p->I64 p.2)->∀ p,seenF day nm l b=some p->I64 p.2 := by
  intro l
  induction l with
  | nil => intro b _ hb p hp; exact hb p hp
  | cons x t ih =>
    intro b hl hb p hp;rw [seenF] at hp;refine ih _ (fun f hf => hl f (List.mem_cons_of_mem _ hf)) (fun q hq => ?_) p hp
    split at hq
    . injection hq with hq; subst hq; exact hl x (List.mem_cons_self ..)
    . exact hb q hq
 unfold seenV
 cases h : seenF day nm fx none with
 | none => exact i64_0
 | some p => exact key fx none hf (fun p hp => by cases hp) p h
theorem eval_i64 {day : Int} {fx : List Fx} (hd : I64 day) (hf : ∀ f ∈ fx,I64 f.val) : ∀ (r : Nat) (e : Ex),e.rk<=r->NumsE e->I64 (evalE day fx e).N := by
 intro r
 induction r with
 | zero => intro e h; have := e.rk_pos; omega
 | succ r ih =>
   intro e hr hn;obtain ⟨op,n,nm,l⟩ := e;obtain ⟨m1,m2⟩ := hn;have hk : ∀ i,I64 ((l.map (evalE day fx)).getD i .unk).N := by
    intro i;rw [List.getD_eq_getElem?_getD,List.getElem?_map]
    cases hc : l[i]? with
    | none => exact i64_0
    | some c => exact ih c (by have := Ex.rk_lt (op := op) (n := n) (nm := nm) hc; omega) (nums_go.1 m2 c (List.mem_of_getElem? hc))
   rw [evalE_mk];generalize l.map (evalE day fx)=vs at *;unfold evO;by_cases h1 : op=1\/op=2
   . rw [if_pos h1]; exact m1
   rw [if_neg h1];by_cases h2 : op=4
   . rw [if_pos h2]; exact hd
   rw [if_neg h2];by_cases h3 : op=3
   . rw [if_pos h3]; exact seen_i64 hf nm
   rw [if_neg h3];unfold opV;by_cases h4 : op=17\/op=18
   . rw [if_pos h4];unfold bothV
     split
     . exact hk 0
     . split
       . exact hk 1
       . exact i64_0
   rw [if_neg h4];by_cases h5 : op=21
   . rw [if_pos h5]
     split
     . exact i64_0
     . exact i64_0
     . exact hk 2
     . split
       . exact hk 1
       . exact hk 2
   rw [if_neg h5];by_cases h6 : op=19
   . rw [if_pos h6]
     split <;> exact i64_0
   rw [if_neg h6];by_cases h7 : op=20
   . rw [if_pos h7]
     split
     . exact i64_0
     . exact i64_0
     . exact i64_N _ (i64_fit _)
     . exact i64_0
   rw [if_neg h7]
   split
   . exact i64_0
   split
   . exact i64_0
   unfold twoV
   split
   . refine i64_N _ (fun v hv => value_bd (fun x hx => ?_) hv);simp at hx;rcases hx with rfl | rfl
     . exact hk 0
     . exact hk 1
   . exact i64_0
theorem seen_two (day : Int) (fx : List Fx) (nm : ByteArray) : seenV day fx nm=.unk\/∃ n,seenV day fx nm=.num n := by
 unfold seenV
 split
 . exact .inr ⟨_,rfl⟩
 . exact .inl rfl
theorem fxs_i64 {w : World} {X : List Nat} {fx : List Fx} {a : Option Addr} {len cap : Nat} (h : SlR fxK w X fx a len cap) : ∀ f ∈ fx,I64 f.val := by
 intro f hf;obtain ⟨k,hk⟩ := List.getElem?_of_mem hf;obtain ⟨b,o,f',-,-,-,hf',-,-,h3,-⟩ := fx_at h k (by have := (List.getElem?_eq_some_iff.1 hk).1; have := h.facts.1; omega);rw [hk] at hf'; injection hf' with hf'; subst hf'; exact h3
theorem arg_at {w : World} {l : List Ex} {a : Option Addr} {len cap : Nat} (h : SlE w [] l a len cap) (k : Nat) (hk : k < len) : ∃ b o x c0 c1 c2 s0 s1 s2,a=some ⟨b,o,none⟩/\b < w.heap.size/\l[k]?=some x /\
 RepE w [] x [.int .i64 c0,.int .i64 c1,.string c2,.slice s0 s1 s2]/\Four w b (o + k * 4) (.int .i64 c0) (.int .i64 c1) (.string c2) (.slice s0 s1 s2) := by
 obtain ⟨b,o,op,n,nm,ar,a',l',p',ha,hb,-,hl,h1,h2,h3,hS,hF⟩ := h.at k hk;exact ⟨b,o,_,op,n,nm,a',l',p',ha,hb,hl,RepE.mk' h1 h2 h3 hS,hF⟩
theorem evLeaf_any (day : Int) (fx : List Fx) (a : Option Addr) (len cap : Nat) (op n : Int) (nm : ByteArray) (a' : Option Addr) (len' cap' : Nat) (w : World) (hf : SlR fxK w [] fx a len cap) (ho : 1<=op/\op<=4) :
 Calls Tryz.prog 96 #[.agg #[.int .i64 day,.slice a len cap],.agg #[.int .i64 op,.int .i64 n,.string nm,.slice a' len' cap']] w fun x w' => RetV (evO day fx op n nm []) x/\Below w.heap.size w w' := by
 have ST := LH9 (EvSt.start w day a len cap op n nm a' len' cap');have HSE := LH9 (fun W (hW : Below w.heap.size w W) => seen_any day fx nm a len cap W (hf.kept (Kept.of_below hW [])));have HR : Hid (evO day fx op n nm []=if op=1\/op=2 then .num n else if op=4 then .num day else if op=3 then seenV day fx nm else opV op []) := rfl;have HS2 := LH9 (seen_two day fx nm);obtain ⟨R,hR⟩ : ∃ R,R=evO day fx op n nm [] := ⟨_,rfl⟩;rw [<- hR] at HR ⊢;generalize seenV day fx nm=sv at *;clear hR hf;have hop : op=1\/op=2\/op=3\/op=4 := by omega
 clear ho;rcases hop with rfl | rfl | rfl | rfl
 . obtain rfl : R=.num n := HR.o;clear HR
   go_enter Tryz.func96,Tryz.ntmps96
   go_upto_region 1 with (fail);generalize ((w.alloc (.cells #[.int .i64 day,.slice a len cap] 44)).alloc (.cells #[.int .i64 1,.int .i64 n,.string nm,.slice a' len' cap'] 74)).alloc (.cells #[.int .i64 0,.int .i64 0,.bool false] 150)=v at *;exact Z7_62
 . obtain rfl : R=.num n := HR.o;clear HR
   go_enter Tryz.func96,Tryz.ntmps96
   go_upto_region 1 with (fail);generalize ((w.alloc (.cells #[.int .i64 day,.slice a len cap] 44)).alloc (.cells #[.int .i64 2,.int .i64 n,.string nm,.slice a' len' cap'] 74)).alloc (.cells #[.int .i64 0,.int .i64 0,.bool false] 150)=v at *;exact Z7_62
 . obtain rfl : R=sv := HR.o;clear HR
   go_enter Tryz.func96,Tryz.ntmps96
   go_upto_region 1 with (fail);generalize ((w.alloc (.cells #[.int .i64 day,.slice a len cap] 44)).alloc (.cells #[.int .i64 3,.int .i64 n,.string nm,.slice a' len' cap'] 74)).alloc (.cells #[.int .i64 0,.int .i64 0,.bool false] 150)=v at *;obtain ⟨e0,e1,-,-⟩ := ST.o.env.two;obtain ⟨x0,x1,x2,x3,-,-,-,-⟩ := blk4 ST.o.ex;go_wp2_with fail;go_at_call 123;(with_reducible refine (HSE.o _ ST.o.below).mono ?_);rintro x w1 ⟨rfl,b1⟩;have ST1 := LH9 (ST.o.up b1);clear ST HSE b1 e0 e1 x0 x1 x2 x3;rcases HS2.o with rfl | ⟨m,rfl⟩
   . simp only [seenRt];have HFN := LH9 (ret3 (.int .i64 0) (.int .i64 0) (.bool false) ST1.o.below (by omega : w.heap.size<=w.heap.size + 1 + 1) ST1.o.res);obtain ⟨q0,q1,q2,q3,q4,q5⟩ := blk3 ST1.o.res;have hm := ST1.o.lt;go_wp2_with fail;generalize ((w1.setCell ⟨w.heap.size + 1 + 1,0,none⟩ (.int .i64 0)).setCell ⟨w.heap.size + 1 + 1,1,none⟩ (.int .i64 0)).setCell ⟨w.heap.size + 1 + 1,2,none⟩ (.bool false)=W9 at *;obtain ⟨r0,r1,r2,-,-,-⟩ := blk3 HFN.o.2;refine bodyPost_ret (v := .agg #[.int .i64 0,.int .i64 0,.bool false]) (by simp [results,Tryz.results96,go_sem,r0,r1,r2]) rfl ⟨rfl,HFN.o.1⟩
   . simp only [seenRt];go_wp2_with fail;go_at_call 122;(with_reducible refine (number_any m true _).mono ?_);rintro y w2 ⟨hy,b2⟩;have hy' : y=.returned (.agg #[.int .i64 1,.int .i64 m,.bool false]) := hy;subst hy';have ST2 := LH9 (ST1.o.up b2);clear b2 hy;have HFN := LH9 (ret3 (.int .i64 1) (.int .i64 m) (.bool false) ST2.o.below (by omega : w.heap.size<=w.heap.size + 1 + 1) ST2.o.res);obtain ⟨q0,q1,q2,q3,q4,q5⟩ := blk3 ST2.o.res;have hm := ST2.o.lt;go_wp2_with fail;generalize ((w2.setCell ⟨w.heap.size + 1 + 1,0,none⟩ (.int .i64 1)).setCell ⟨w.heap.size + 1 + 1,1,none⟩ (.int .i64 m)).setCell ⟨w.heap.size + 1 + 1,2,none⟩ (.bool false)=W9 at *;obtain ⟨r0,r1,r2,-,-,-⟩ := blk3 HFN.o.2;refine bodyPost_ret (v := .agg #[.int .i64 1,.int .i64 m,.bool false]) (by simp [results,Tryz.results96,go_sem,r0,r1,r2]) rfl ⟨rfl,HFN.o.1⟩
 . obtain rfl : R=.num day := HR.o;clear HR
   go_enter Tryz.func96,Tryz.ntmps96
   go_upto_region 1 with (fail);generalize ((w.alloc (.cells #[.int .i64 day,.slice a len cap] 44)).alloc (.cells #[.int .i64 4,.int .i64 n,.string nm,.slice a' len' cap'] 74)).alloc (.cells #[.int .i64 0,.int .i64 0,.bool false] 150)=v at *;obtain ⟨e0,e1,-,-⟩ := ST.o.env.two;obtain ⟨x0,x1,x2,x3,-,-,-,-⟩ := blk4 ST.o.ex;go_wp2_with fail;clear e0 e1 x0 x1 x2 x3;go_at_call 122;(with_reducible refine (number_any day true _).mono ?_);rintro y w2 ⟨hy,b2⟩;have hy' : y=.returned (.agg #[.int .i64 1,.int .i64 day,.bool false]) := hy;subst hy';have ST2 := LH9 (ST.o.up b2);clear b2 hy;have HFN := LH9 (ret3 (.int .i64 1) (.int .i64 day) (.bool false) ST2.o.below (by omega : w.heap.size<=w.heap.size + 1 + 1) ST2.o.res);obtain ⟨q0,q1,q2,q3,q4,q5⟩ := blk3 ST2.o.res;have hm := ST2.o.lt;go_wp2_with fail;generalize ((w2.setCell ⟨w.heap.size + 1 + 1,0,none⟩ (.int .i64 1)).setCell ⟨w.heap.size + 1 + 1,1,none⟩ (.int .i64 day)).setCell ⟨w.heap.size + 1 + 1,2,none⟩ (.bool false)=W9 at *;obtain ⟨r0,r1,r2,-,-,-⟩ := blk3 HFN.o.2;refine bodyPost_ret (v := .agg #[.int .i64 1,.int .i64 day,.bool false]) (by simp [results,Tryz.results96,go_sem,r0,r1,r2]) rfl ⟨rfl,HFN.o.1⟩
end
end Go.Proofs.YtmiinmndbkdjbaaGreat
