/- A part of the proof: Reg, Tk, Tree, Mem, Has, Str, StrB, one behind another. -/
import Derived.Deep.RegionHeld3
import Derived.Tactics
import Derived.KernelRfl
import Derived.WalkKit
import Derived.Lib.Hide
import Derived.WalkSpells
import Derived.Below
import Derived.Maps.AppendAt
import Derived.Test.YtmiinmndbkdjbaaGreatProg
import Derived.Test.YtmiinmndbkdjbaaGreatChecked
import Derived.LoopTactic
import Derived.WalkLawsBesides
import Derived.BigQuiet
set_option maxRecDepth 100000
set_option maxHeartbeats 16000000
set_option linter.unusedVariables false
set_option linter.unusedSimpArgs false
namespace Go.RowKit
theorem Hid.o {p : Prop} (h : Hid p) : p := h.out
end Go.RowKit
namespace Go.Proofs.YtmiinmndbkdjbaaGreat
open Go Go.RowKit
theorem LH9 {p : Prop} (h : p) : Hid p := Lib.hid h
theorem zp1.{u} {α : Type u} {xs : List α} {i : Nat} (h : i < xs.toArray.size) : xs.toArray[i] = xs[i]'(by simpa using h) := List.getElem_toArray h
theorem zp2.{u} {α : Type u} {a : α} {l : List α} {h : 0 < (a :: l).length} : (a :: l)[0] = a := rfl
theorem zp3.{u} {α : Type u} {a : α} {l : List α} {i : Nat} {h : i + 1 < (a :: l).length} : (a :: l)[i+1] = l[i]'(Nat.lt_of_succ_lt_succ h) := rfl
theorem zp4.{u} {α : Type u} {l : List α} {i : Nat} {a : α} : l.toArray.setIfInBounds i a = (l.set i a).toArray := by simp
theorem zp5.{u} {α : Type u} {x : α} {xs : List α} {a : α} : (x :: xs).set 0 a = a :: xs := rfl
theorem zp6.{u} {α : Type u} {x : α} {xs : List α} {i : Nat} {a : α} : (x :: xs).set (i+1) a = x :: xs.set i a := rfl
end Go.Proofs.YtmiinmndbkdjbaaGreat
namespace Go.Proofs.YtmiinmndbkdjbaaGreat
open Go.RowKit
section
open Go
variable {P : Program} {ops : Array Oper} {Q : Exit→Act→World→Prop} {md : Region.Mode} {S : World→Prop} {n : Nat} {l : Array Bool}
def Till (P : Program) (md : Region.Mode) (ops : Array Oper) (Q : Exit→Act→World→Prop) (S : World→Prop) (n : Nat) : Nat→Array Bool→Act→World→Prop
 | 0,l,a,w => Region.ready md ops l=[]∧Q .normal a w
 | fuel + 1,l,a,w =>
   (Region.ready md ops l=[]→Q .normal a w) ∧
   ∀ i ∈ Region.ready md ops l,wpOp P ops Q i (fun a' w' => ((l.setIfInBounds i true).getD n true=true∨S w')∧Till P md ops Q S n fuel (l.setIfInBounds i true) a' w') a w
theorem any_of_till : ∀ (fuel : Nat) (l : Array Bool) (a : Act) (w : World),Till P md ops Q S n fuel l a w→wpAny P md ops Q fuel l a w
 | 0,_,_,_,h => h
 | fuel + 1,_,_,_,h => ⟨h.1,fun i hi => wpOp_mono (fun a' w' h' => any_of_till fuel _ a' w' h'.2) (h.2 i hi)⟩
theorem listed_stays {l : Array Bool} {i : Nat} (h : l.getD n true=true) : (l.setIfInBounds i true).getD n true=true := by
 by_cases hi : i=n
 · subst hi;rcases Nat.lt_or_ge i l.size with h' | h'
   · simp [h']
   · simp [Array.getElem?_eq_none (by simpa using h')]
 · rw [getD_set_ne true hi]; exact h
theorem till_of_any : ∀ (fuel : Nat) (l : Array Bool) (a : Act) (w : World),l.getD n true=true→wpAny P md ops Q fuel l a w→Till P md ops Q S n fuel l a w
 | 0,_,_,_,_,h => h
 | fuel + 1,_,_,_,hn,h => ⟨h.1,fun i hi => wpOp_mono (fun a' w' h' => ⟨.inl (listed_stays hn),till_of_any fuel _ a' w' (listed_stays hn) h'⟩) (h.2 i hi)⟩
def Clo (md : Region.Mode) (ops : Array Oper) (l : Array Bool) : Prop := ∀ j oj,ops[j]?=some oj→l.getD j true=true→∀ e ∈ oj.after,Region.binds md e=true→l.getD e.on true=true
def cloB (md : Region.Mode) (ops : Array Oper) (l : Array Bool) : Bool := (List.range ops.size).all fun j => !l.getD j true || match ops[j]? with | some oj => oj.after.all (fun e => !Region.binds md e || l.getD e.on true) | none => true
theorem Clo.of (h : cloB md ops l=true) : Clo md ops l := by
 intro j oj hj hl e he hb;simp only [cloB,List.all_eq_true,List.mem_range] at h;have h1 := h j (Array.getElem?_eq_some_iff.1 hj).1;simp only [hj,hl,Bool.not_true,Bool.false_or,Array.all_eq_true_iff_forall_mem] at h1;have h2 := h1 e he
 simpa [hb] using h2
theorem getD_up {l : Array Bool} {j : Nat} (h : l.getD j false=true) : l.getD j true=true := by
 rcases Nat.lt_or_ge j l.size with h' | h'
 · simp [h'] at h ⊢; exact h
 · simp [Array.getElem?_eq_none h'] at h
theorem Clo.set {l : Array Bool} {i : Nat} (h : Clo md ops l) (hi : i ∈ Region.ready md ops l) : Clo md ops (l.setIfInBounds i true) := by
 obtain ⟨h0,oi,hoi,hall⟩ := mem_ready.1 hi;intro j oj hj hl e he hb;by_cases hij : i=j
 · subst hij;rw [hoi] at hj;injection hj with hj;subst hj;exact listed_stays (getD_up (hall e he hb))
 · rw [getD_set_ne true hij] at hl;exact listed_stays (h j oj hj hl e he hb)
def reach (md : Region.Mode) (ops : Array Oper) (i : Nat) : Nat→Nat→Bool
 | 0,_ => false
 | f + 1,n => match ops[n]? with | some o => o.after.any (fun e => Region.binds md e && (e.on == i || reach md ops i f e.on)) | none => false
theorem reach_spec {l : Array Bool} {i : Nat} (hc : Clo md ops l) : ∀ (f n : Nat),reach md ops i f n=true→(∀ o,ops[n]?=some o→∀ e ∈ o.after,Region.binds md e=true→l.getD e.on true=true)→l.getD i true=true
 | 0,_,h,_ => by cases h
 | f + 1,n,h,hn => by
   unfold reach at h
   cases ho : ops[n]? with
   | none => rw [ho] at h; cases h
   | some o =>
     rw [ho] at h;obtain ⟨e,he,hb⟩ := Array.any_eq_true'.1 h;simp only [Bool.and_eq_true,Bool.or_eq_true,beq_iff_eq] at hb;have hl := hn o ho e he hb.1;rcases hb.2 with h1 | h1
     · rw [← h1]; exact hl
     · exact reach_spec hc f e.on h1 (fun o' ho' e' he' hb' => hc e.on o' ho' hl e' he' hb')
theorem till_first {i : Nat} {oi : Oper} {v : Value} (hi : ops[i]?=some oi) (hsel : ∀ (j : Nat) (o : Oper) cs b,ops[j]?=some o→o.op ≠ .select cs b)
 (hQ : ∀ c a w,Q (.panic c) (a.put oi.dst v) w→Q (.panic c) a w) (hin : i ≠ n)
 {f : Nat} (hwait : reach md ops i f n=true) :
 ∀ (fuel : Nat) (l : Array Bool) (a : Act) (w : World),Clo md ops l →
   (∀ j oj,ops[j]?=some oj→j ≠ i→l.getD j true=false→(∀ e ∈ oj.after,Region.binds md e=true→e.on ≠ i)→oi.apart ops oj=true) →
   i ∈ Region.ready md ops l→l.getD n true=false→YieldsIf P ops S oi v a→S w →
   Till P md ops Q S n fuel (l.setIfInBounds i true) (a.put oi.dst v) w→Till P md ops Q S n (fuel + 1) l a w := by
 intro fuel
 induction fuel with
 | zero =>
   intro l a w _ _ hr _ hy hS H;refine ⟨fun h => (by rw [h] at hr; cases hr),fun j hj => ?_⟩;by_cases hji : j=i
   · subst hji; exact hy.wpOp hi hS ⟨.inr hS,H⟩
   · have h := ready_mono hj hji;rw [H.1] at h
     cases h
 | succ fuel ih =>
   intro l a w hclo hfree hr hnl hy hS H;refine ⟨fun h => (by rw [h] at hr; cases hr),fun j hj => ?_⟩;by_cases hji : j=i
   · subst hji; exact hy.wpOp hi hS ⟨.inr hS,H⟩
   · have h1 := H.2 j (ready_mono hj hji);obtain ⟨hjun,oj,hoj,hall⟩ := mem_ready.1 hj;have hnot : ∀ e ∈ oj.after,Region.binds md e=true→e.on ≠ i := fun e he hb heq => by
      have g1 := hall e he hb;have g0 := (mem_ready.1 hr).1;rw [heq] at g1;rcases Nat.lt_or_ge i l.size with h' | h'
      · simp [h'] at g0 g1; rw [g0] at g1; cases g1
      · simp [Array.getElem?_eq_none h'] at g1
     have hjn : j ≠ n := by
      rintro rfl;have g1 := reach_spec hclo f j hwait (fun o ho e he hb => by rw [hoj] at ho; injection ho with ho; subst ho; exact getD_up (hall e he hb));rw [(mem_ready.1 hr).1] at g1
      cases g1
     have hnl2 : (l.setIfInBounds j true).getD n true=false := by rw [getD_set_ne true hjn]; exact hnl
     have hnl3 : ((l.setIfInBounds i true).setIfInBounds j true).getD n true=false := by rw [getD_set_ne true hjn,getD_set_ne true hin]; exact hnl
     have h2 := wpOp_putIf hoj (hfree j oj hoj hji hjun hnot) (fun cs b => hsel i oi cs b hi) (fun cs b => hsel j oj cs b hoj) hQ hy h1;have hfree' : ∀ k ok,ops[k]?=some ok→k ≠ i→(l.setIfInBounds j true).getD k true=false →
      (∀ e ∈ ok.after,Region.binds md e=true→e.on ≠ i)→oi.apart ops ok=true := fun k ok hk hki hun hno => by
      refine hfree k ok hk hki ?_ hno;by_cases hjk : j=k
      · subst hjk; exact hjun
      · rw [getD_set_ne true hjk] at hun; exact hun
     refine wpOp_mono (fun a' w' h3 => ?_) h2;have hS' : S w' := h3.2.1.resolve_left (by rw [hnl3]; simp);refine ⟨.inr hS',ih (l.setIfInBounds j true) a' w' (hclo.set hj) hfree' (ready_mono hr (Ne.symm hji)) hnl2 h3.1 hS' ?_⟩;rw [Array.setIfInBounds_comm _ _ hji];exact h3.2.2
def takeB (md : Region.Mode) (ops : Array Oper) (n : Nat) (l : Array Bool) (i : Nat) : Bool :=
 Region.noSelect ops && Region.free md ops l i && (Region.ready md ops l).contains i && !(i == n) && reach md ops i ops.size n && !l.getD n true && cloB md ops l
theorem till_take {i : Nat} {oi : Oper} {v : Value} {fuel : Nat} {l : Array Bool} {a : Act} {w : World} (hi : ops[i]?=some oi) (hb : takeB md ops n l i=true)
 (hQ : ∀ c a w,Q (.panic c) (a.put oi.dst v) w→Q (.panic c) a w) (hy : YieldsIf P ops S oi v a) (hS : S w)
 (h : Till P md ops Q S n fuel (l.setIfInBounds i true) (a.put oi.dst v) w) : Till P md ops Q S n (fuel + 1) l a w := by
 simp only [takeB,Bool.and_eq_true,Bool.not_eq_true'] at hb;obtain ⟨⟨⟨⟨⟨⟨h1,h2⟩,h3⟩,h4⟩,h5⟩,h6⟩,h7⟩ := hb;exact till_first hi (Region.noSelect_spec h1) hQ (by simpa using h4) h5 fuel l a w (Clo.of h7) (Region.free_spec hi h2) (by simpa using h3) h6 hy hS h
def anyB (md : Region.Mode) (ops : Array Oper) (l : Array Bool) (i : Nat) : Bool := Region.noSelect ops && Region.free md ops l i && (Region.ready md ops l).contains i
theorem any_take {i : Nat} {oi : Oper} {v : Value} {fuel : Nat} {l : Array Bool} {a : Act} {w : World} (hi : ops[i]?=some oi) (hb : anyB md ops l i=true)
 (hQ : ∀ c a w,Q (.panic c) (a.put oi.dst v) w→Q (.panic c) a w) (hy : Yields P ops oi v a)
 (h : wpAny P md ops Q fuel (l.setIfInBounds i true) (a.put oi.dst v) w) : wpAny P md ops Q (fuel + 1) l a w := by
 simp only [anyB,Bool.and_eq_true] at hb;exact wpAny_take hi hb.1.1 hb.1.2 hb.2 hQ hy h
theorem any_one {i : Nat} {oi : Oper} {fuel : Nat} {l : Array Bool} {a : Act} {w : World} (hr : Region.ready md ops l=[i]) (hoi : ops[i]?=some oi)
 (hi : ∀ K' : Act→World→Prop,Shut (∀ a w,wpAny P md ops Q fuel (l.setIfInBounds i true) a w→K' a w)→if Region.wanted oi (yielded ops a.tmps)=true then Oper.wp P oi a w K' Q else K' (a.put oi.dst undef) w) :
 wpAny P md ops Q (fuel + 1) l a w := by
 refine wpAny_all hr (by simp) fun k hk => ?_
 rcases List.mem_cons.1 hk with rfl | hk
 · exact wpOp_step hoi fun K' hK => hi K' hK
 · cases hk
theorem till_all {rs : List Nat} {fuel : Nat} {l : Array Bool} {a : Act} {w : World} (hr : Region.ready md ops l=rs) (hne : rs ≠ [])
 (h : ∀ i ∈ rs,wpOp P ops Q i (fun a' w' => ((l.setIfInBounds i true).getD n true=true∨S w')∧Till P md ops Q S n fuel (l.setIfInBounds i true) a' w') a w) : Till P md ops Q S n (fuel + 1) l a w :=
 ⟨fun h0 => absurd (hr ▸ h0) hne,hr ▸ h⟩
theorem wp_region_till {id : Nat} {a : Act} {w : World} (n : Nat) (hm : P.follows .mixedOrders=true)
 (h : Till P .any ops Q S n ops.size (Array.replicate ops.size false) a w.drew) : (Code.region id ops true).wp P Q a w :=
 wp_region_any hm (any_of_till _ _ _ _ h)
theorem till_two {i j : Nat} {oi oj : Oper} {fuel : Nat} {l : Array Bool} {a : Act} {w : World} (hr : Region.ready md ops l=[i,j]) (hoi : ops[i]?=some oi) (hoj : ops[j]?=some oj)
 (hi : ∀ K' : Act→World→Prop,Shut (∀ a w,S w→Till P md ops Q S n fuel (l.setIfInBounds i true) a w→K' a w)→if Region.wanted oi (yielded ops a.tmps)=true then Oper.wp P oi a w K' Q else K' (a.put oi.dst undef) w)
 (hj : ∀ K' : Act→World→Prop,Shut (∀ a w,S w→Till P md ops Q S n fuel (l.setIfInBounds j true) a w→K' a w)→if Region.wanted oj (yielded ops a.tmps)=true then Oper.wp P oj a w K' Q else K' (a.put oj.dst undef) w) :
 Till P md ops Q S n (fuel + 1) l a w := by
 refine till_all hr (by simp) fun k hk => ?_
 rcases List.mem_cons.1 hk with rfl | hk
 · exact wpOp_step hoi fun K' hK => hi K' fun a w hS hT => hK a w ⟨.inr hS,hT⟩
 · rcases List.mem_cons.1 hk with rfl | hk
   · exact wpOp_step hoj fun K' hK => hj K' fun a w hS hT => hK a w ⟨.inr hS,hT⟩
   · cases hk
theorem till_one {i : Nat} {oi : Oper} {fuel : Nat} {l : Array Bool} {a : Act} {w : World} (hr : Region.ready md ops l=[i]) (hoi : ops[i]?=some oi)
 (hi : ∀ K' : Act→World→Prop,Shut (∀ a w,S w→Till P md ops Q S n fuel (l.setIfInBounds i true) a w→K' a w)→if Region.wanted oi (yielded ops a.tmps)=true then Oper.wp P oi a w K' Q else K' (a.put oi.dst undef) w) :
 Till P md ops Q S n (fuel + 1) l a w := by
 refine till_all hr (by simp) fun k hk => ?_
 rcases List.mem_cons.1 hk with rfl | hk
 · exact wpOp_step hoi fun K' hK => hi K' fun a w hS hT => hK a w ⟨.inr hS,hT⟩
 · cases hk
theorem till_last {oi : Oper} {fuel : Nat} {l : Array Bool} {a : Act} {w : World} (hr : Region.ready md ops l=[n]) (hoi : ops[n]?=some oi) (hl : (l.setIfInBounds n true).getD n true=true)
 (hi : ∀ K' : Act→World→Prop,Shut (∀ a w,wpAny P md ops Q fuel (l.setIfInBounds n true) a w→K' a w)→if Region.wanted oi (yielded ops a.tmps)=true then Oper.wp P oi a w K' Q else K' (a.put oi.dst undef) w) :
 Till P md ops Q S n (fuel + 1) l a w := by
 refine till_all hr (by simp) fun k hk => ?_
 rcases List.mem_cons.1 hk with rfl | hk
 · exact wpOp_step hoi fun K' hK => hi K' fun a w hT => hK a w ⟨.inl hl,till_of_any _ _ _ _ hl hT⟩
 · cases hk
end
section
open Go Go.RowKit
variable {P : Program} {ops : Array Oper} {Q : Exit→Act→World→Prop} {md : Region.Mode} {S : World→Prop} {n : Nat} {l : Array Bool}
theorem hq {d : Tmp} {v : Value} (H : Hid (∀ c (a : Act) d v w,Q (.panic c) (a.put (some d) v) w→Q (.panic c) a w)) : ∀ c a w,Q (.panic c) (a.put (some d) v) w→Q (.panic c) a w := fun c a w h => H.o c a d v w h
theorem tk (i : Nat) {oi : Oper} {v : Value} {fuel : Nat} {a a' : Act} {w : World}
 (hS : S w) (h : Till P md ops Q S n fuel (l.setIfInBounds i true) a' w)
 (hi : ops[i]?=some oi := by rfl) (hb : takeB md ops n l i=true := by kernel_rfl) (hw : Region.wanted oi (yielded ops a.tmps)=true := by rfl)
 (hy : ∀ w,S w→(execOp a.eval oi).run P w=.ok (.value v) w := by (intro W hS; (try dsimp only at hS); go_split_ands; go_simp; (try with_reducible rfl)))
 (ha : a.put oi.dst v=a' := by (simp only [Act.put,zp1,zp2,zp3,zp4,zp5,zp6]; rfl))
 (hQ : ∀ c a w,Q (.panic c) (a.put oi.dst v) w→Q (.panic c) a w := by exact fun _ _ _ h => h) : Till P md ops Q S n (fuel + 1) l a w :=
 till_take hi hb hQ (Or.inl ⟨hw,hy⟩) hS (by rw [ha]; exact h)
theorem ak (i : Nat) {oi : Oper} {v : Value} {fuel : Nat} {a a' : Act} {w : World}
 (h : wpAny P md ops Q fuel (l.setIfInBounds i true) a' w)
 (hi : ops[i]?=some oi := by rfl) (hb : anyB md ops l i=true := by kernel_rfl) (hw : Region.wanted oi (yielded ops a.tmps)=true := by rfl)
 (hy : ∀ w,(execOp a.eval oi).run P w=.ok (.value v) w := by (intro W; go_simp; (try with_reducible rfl)))
 (ha : a.put oi.dst v=a' := by (simp only [Act.put,zp1,zp2,zp3,zp4,zp5,zp6]; rfl))
 (hQ : ∀ c a w,Q (.panic c) (a.put oi.dst v) w→Q (.panic c) a w := by exact fun _ _ _ h => h) : wpAny P md ops Q (fuel + 1) l a w :=
 any_take hi hb hQ (Or.inl ⟨hw,hy⟩) (by rw [ha]; exact h)
end
end Go.Proofs.YtmiinmndbkdjbaaGreat
namespace Go.Proofs.YtmiinmndbkdjbaaGreat
open Go.RowKit
inductive Ex | mk (op n : Int) (nm : ByteArray) (args : List Ex)
inductive Te | mk (op : Int) (nm : ByteArray) (exprs : List Ex) (terms : List Te)
namespace Ex
def op : Ex→Int | .mk o _ _ _ => o
def n : Ex→Int | .mk _ n _ _ => n
def nm : Ex→ByteArray | .mk _ _ s _ => s
def args : Ex→List Ex | .mk _ _ _ l => l
end Ex
namespace Te
def op : Te→Int | .mk o _ _ _ => o
def nm : Te→ByteArray | .mk _ s _ _ => s
def exprs : Te→List Ex | .mk _ _ l _ => l
def terms : Te→List Te | .mk _ _ _ l => l
end Te
def Sl (w : World) (X : List Nat) (sz : Nat) (a : Option Addr) (len cap : Nat) (vs : List (List Value)) : Prop :=
 vs.length=len∧len≤cap∧cap≤9223372036854775807∧(0 < len→∃ b o,a=some ⟨b,o,none⟩∧b < w.heap.size∧b ∉ X ∧
  ∀ i cs,vs[i]?=some cs→cs.length=sz∧∀ j c,cs[j]?=some c→w.cell? ⟨b,o + i * sz + j,none⟩=some c)
def I64 (n : Int) : Prop := -9223372036854775808≤n∧n≤9223372036854775807
inductive RepE (w : World) (X : List Nat) : Ex→List Value→Prop
 | mk {op n : Int} {nm : ByteArray} {args : List Ex} {a : Option Addr} {len cap : Nat} (vs : List (List Value)) (ho : I64 op) (hn : I64 n) (hs : nm.size≤9223372036854775807)
  (hl : vs.length=args.length) (hr : ∀ (i : Nat) (e : Ex) (cs : List Value),args[i]?=some e→vs[i]?=some cs→RepE w X e cs) (hv : Sl w X 4 a len cap vs) :
  RepE w X (.mk op n nm args) [.int .i64 op,.int .i64 n,.string nm,.slice a len cap]
def SlE (w : World) (X : List Nat) (l : List Ex) (a : Option Addr) (len cap : Nat) : Prop :=
 ∃ vs : List (List Value),vs.length=l.length∧(∀ (i : Nat) (e : Ex) (cs : List Value),l[i]?=some e→vs[i]?=some cs→RepE w X e cs)∧Sl w X 4 a len cap vs
inductive RepT (w : World) (X : List Nat) : Te→List Value→Prop
 | mk {op : Int} {nm : ByteArray} {exprs : List Ex} {terms : List Te} {a a' : Option Addr} {len cap len' cap' : Nat} (vs : List (List Value)) (ho : I64 op) (hs : nm.size≤9223372036854775807)
  (he : SlE w X exprs a len cap)
  (hl : vs.length=terms.length) (hr : ∀ (i : Nat) (e : Te) (cs : List Value),terms[i]?=some e→vs[i]?=some cs→RepT w X e cs) (hv : Sl w X 4 a' len' cap' vs) :
  RepT w X (.mk op nm exprs terms) [.int .i64 op,.string nm,.slice a len cap,.slice a' len' cap']
def SlT (w : World) (X : List Nat) (l : List Te) (a : Option Addr) (len cap : Nat) : Prop :=
 ∃ vs : List (List Value),vs.length=l.length∧(∀ (i : Nat) (e : Te) (cs : List Value),l[i]?=some e→vs[i]?=some cs→RepT w X e cs)∧Sl w X 4 a len cap vs
section
variable {w w' : World} {X X' : List Nat} {sz len cap : Nat} {a : Option Addr} {vs : List (List Value)}
def Kept (X : List Nat) (w w' : World) : Prop := w.heap.size≤w'.heap.size∧∀ b,b < w.heap.size→b ∉ X→w'.heap[b]?=w.heap[b]?
theorem Kept.of_below (h : Below w.heap.size w w') (X : List Nat) : Kept X w w' := ⟨h.size,fun b hb _ => h.block b hb⟩
theorem Kept.of_grown {g : Nat} (h : w.grownBy w' (some g)) (hg : g ∈ X) : Kept X w w' := ⟨h.size,fun b hb hx => h.block b hb (fun e => by injection e with e; subst e; exact hx hg)⟩
theorem Kept.of_grown_own {v : Value} (h : w.grownBy w' v.ownBlock) (hg : ∀ g,v.ownBlock=some g→g ∈ X) : Kept X w w' := ⟨h.size,fun b hb hx => h.block b hb (fun e => hx (hg b e.symm))⟩
theorem Kept.alloc (w : World) (o : Obj) (X : List Nat) : Kept X w (w.alloc o) := ⟨by simp,fun b hb _ => Below.heap_alloc w o b hb⟩
theorem Kept.refl (w : World) (X : List Nat) : Kept X w w := ⟨Nat.le_refl _,fun _ _ _ => rfl⟩
theorem Kept.trans {w'' : World} (h : Kept X w w') (h' : Kept X w' w'') : Kept X w w'' := ⟨Nat.le_trans h.1 h'.1,fun b hb hx => (h'.2 b (Nat.lt_of_lt_of_le hb h.1) hx).trans (h.2 b hb hx)⟩
theorem Kept.more (h : Kept X w w') (hX : ∀ b,b ∈ X→b ∈ X') : Kept X' w w' := ⟨h.1,fun b hb hx => h.2 b hb (fun hm => hx (hX b hm))⟩
theorem Kept.setCell (w : World) {p : Addr} (hp : p.block ∈ X) (v : Value) : Kept X w (w.setCell p v) :=
 ⟨by simp [World.setCell],fun b _ hx => Below.heap_setCell w p v b (fun e => hx (by rw [e]; exact hp))⟩
theorem Kept.setNew {w0 : World} (h : Kept X w0 w) {p : Addr} (hp : w0.heap.size≤p.block) (v : Value) : Kept X w0 (w.setCell p v) :=
 ⟨by simpa [World.setCell] using h.1,fun b hb hx => (Below.heap_setCell w p v b (by omega)).trans (h.2 b hb hx)⟩
theorem Sl.kept (h : Sl w X sz a len cap vs) (k : Kept X w w') : Sl w' X sz a len cap vs := by
 obtain ⟨h1,h2,h3,h4⟩ := h;refine ⟨h1,h2,h3,fun hp => ?_⟩;obtain ⟨b,o,ha,hb,hx,hc⟩ := h4 hp;exact ⟨b,o,ha,Nat.lt_of_lt_of_le hb k.1,hx,fun i cs hi => ⟨(hc i cs hi).1,fun j c hj => (World.cell?_of_block (k.2 b hb hx)).trans ((hc i cs hi).2 j c hj)⟩⟩
theorem Sl.less (h : Sl w X sz a len cap vs) (hX : ∀ b,b < w.heap.size→b ∈ X'→b ∈ X) : Sl w X' sz a len cap vs := by
 obtain ⟨h1,h2,h3,h4⟩ := h;refine ⟨h1,h2,h3,fun hp => ?_⟩;obtain ⟨b,o,ha,hb,hx,hc⟩ := h4 hp;exact ⟨b,o,ha,hb,fun hm => hx (hX b hb hm),hc⟩
theorem Sl.nil (w : World) (X : List Nat) (sz : Nat) : Sl w X sz none 0 0 [] := ⟨rfl,Nat.le_refl _,by decide,fun h => absurd h (by decide)⟩
theorem Sl.take (h : Sl w X sz a len cap vs) (k : Nat) (hk : k≤len) : Sl w X sz a k cap (vs.take k) := by
 obtain ⟨h1,h2,h3,h4⟩ := h;refine ⟨by simp; omega,by omega,h3,fun hp => ?_⟩;obtain ⟨b,o,ha,hb,hx,hc⟩ := h4 (by omega);refine ⟨b,o,ha,hb,hx,fun i cs hi => hc i cs ?_⟩;rw [List.getElem?_take] at hi
 split at hi
 · exact hi
 · cases hi
theorem RepE.kept {e : Ex} {cs : List Value} (h : RepE w X e cs) (k : Kept X w w') : RepE w' X e cs := by
 induction h with
 | mk vs ho hn hs hl hr hv ih => exact .mk vs ho hn hs hl ih (hv.kept k)
theorem RepE.less {e : Ex} {cs : List Value} (h : RepE w X e cs) (hX : ∀ b,b < w.heap.size→b ∈ X'→b ∈ X) : RepE w X' e cs := by
 induction h with
 | mk vs ho hn hs hl hr hv ih => exact .mk vs ho hn hs hl ih (hv.less hX)
theorem SlE.kept {l : List Ex} (h : SlE w X l a len cap) (k : Kept X w w') : SlE w' X l a len cap := by
 obtain ⟨vs,h1,h2,h3⟩ := h;exact ⟨vs,h1,fun i e cs he hc => (h2 i e cs he hc).kept k,h3.kept k⟩
theorem SlE.less {l : List Ex} (h : SlE w X l a len cap) (hX : ∀ b,b < w.heap.size→b ∈ X'→b ∈ X) : SlE w X' l a len cap := by
 obtain ⟨vs,h1,h2,h3⟩ := h;exact ⟨vs,h1,fun i e cs he hc => (h2 i e cs he hc).less hX,h3.less hX⟩
theorem RepT.kept {e : Te} {cs : List Value} (h : RepT w X e cs) (k : Kept X w w') : RepT w' X e cs := by
 induction h with
 | mk vs ho hs he hl hr hv ih => exact .mk vs ho hs (he.kept k) hl ih (hv.kept k)
theorem RepT.less {e : Te} {cs : List Value} (h : RepT w X e cs) (hX : ∀ b,b < w.heap.size→b ∈ X'→b ∈ X) : RepT w X' e cs := by
 induction h with
 | mk vs ho hs he hl hr hv ih => exact .mk vs ho hs (he.less hX) hl ih (hv.less hX)
theorem SlT.kept {l : List Te} (h : SlT w X l a len cap) (k : Kept X w w') : SlT w' X l a len cap := by
 obtain ⟨vs,h1,h2,h3⟩ := h;exact ⟨vs,h1,fun i e cs he hc => (h2 i e cs he hc).kept k,h3.kept k⟩
theorem RepE.inv {e : Ex} {cs : List Value} (h : RepE w X e cs) : ∃ op n nm args a len cap,e=.mk op n nm args∧cs=[.int .i64 op,.int .i64 n,.string nm,.slice a len cap]∧I64 op∧I64 n∧nm.size≤9223372036854775807∧SlE w X args a len cap := by
 cases h with
 | mk vs ho hn hs hl hr hv => exact ⟨_,_,_,_,_,_,_,rfl,rfl,ho,hn,hs,vs,hl,hr,hv⟩
theorem RepT.inv {e : Te} {cs : List Value} (h : RepT w X e cs) : ∃ op nm exprs terms a len cap a' len' cap',e=.mk op nm exprs terms∧cs=[.int .i64 op,.string nm,.slice a len cap,.slice a' len' cap']∧I64 op∧nm.size≤9223372036854775807∧SlE w X exprs a len cap∧SlT w X terms a' len' cap' := by
 cases h with
 | mk vs ho hs he hl hr hv => exact ⟨_,_,_,_,_,_,_,_,_,_,rfl,rfl,ho,hs,he,vs,hl,hr,hv⟩
theorem RepE.mk' {op n : Int} {nm : ByteArray} {args : List Ex} (ho : I64 op) (hn : I64 n) (hs : nm.size≤9223372036854775807) (h : SlE w X args a len cap) : RepE w X (.mk op n nm args) [.int .i64 op,.int .i64 n,.string nm,.slice a len cap] := by
 obtain ⟨vs,h1,h2,h3⟩ := h; exact .mk vs ho hn hs h1 h2 h3
theorem RepT.mk' {op : Int} {nm : ByteArray} {exprs : List Ex} {terms : List Te} {a' : Option Addr} {len' cap' : Nat} (ho : I64 op) (hs : nm.size≤9223372036854775807) (he : SlE w X exprs a len cap) (h : SlT w X terms a' len' cap') : RepT w X (.mk op nm exprs terms) [.int .i64 op,.string nm,.slice a len cap,.slice a' len' cap'] := by
 obtain ⟨vs,h1,h2,h3⟩ := h; exact .mk vs ho hs he h1 h2 h3
theorem SlE.facts {l : List Ex} (h : SlE w X l a len cap) : l.length=len∧len≤cap∧cap≤9223372036854775807 := by
 obtain ⟨vs,h1,_,h3⟩ := h; exact ⟨by rw [← h1]; exact h3.1,h3.2.1,h3.2.2.1⟩
theorem SlT.facts {l : List Te} (h : SlT w X l a len cap) : l.length=len∧len≤cap∧cap≤9223372036854775807 := by
 obtain ⟨vs,h1,_,h3⟩ := h; exact ⟨by rw [← h1]; exact h3.1,h3.2.1,h3.2.2.1⟩
theorem SlE.nil (w : World) (X : List Nat) : SlE w X [] none 0 0 := ⟨[],rfl,fun i e cs h _ => by simp at h,Sl.nil _ _ _⟩
theorem SlT.nil (w : World) (X : List Nat) : SlT w X [] none 0 0 := ⟨[],rfl,fun i e cs h _ => by simp at h,Sl.nil _ _ _⟩
def Four (w : World) (b o : Nat) (c0 c1 c2 c3 : Value) : Prop := w.cell? ⟨b,o,none⟩=some c0∧w.cell? ⟨b,o + 1,none⟩=some c1∧w.cell? ⟨b,o + 2,none⟩=some c2∧w.cell? ⟨b,o + 3,none⟩=some c3
theorem four_of {b o : Nat} {c0 c1 c2 c3 : Value} (h : ∀ j c,[c0,c1,c2,c3][j]?=some c→w.cell? ⟨b,o + j,none⟩=some c) : Four w b o c0 c1 c2 c3 := ⟨h 0 c0 rfl,h 1 c1 rfl,h 2 c2 rfl,h 3 c3 rfl⟩
theorem SlE.at {l : List Ex} (h : SlE w X l a len cap) (k : Nat) (hk : k < len) : ∃ b o op n nm args a' len' cap',a=some ⟨b,o,none⟩∧b < w.heap.size∧b ∉ X∧l[k]?=some (.mk op n nm args)∧I64 op∧I64 n∧nm.size≤9223372036854775807∧SlE w X args a' len' cap' ∧
 Four w b (o + k * 4) (.int .i64 op) (.int .i64 n) (.string nm) (.slice a' len' cap') := by
 have hf := h.facts;obtain ⟨vs,h1,h2,h3⟩ := h;obtain ⟨b,o,ha,hb,hx,hc⟩ := h3.2.2.2 (by omega);have hlk : l[k]?=some (l[k]'(by omega)) := List.getElem?_eq_getElem (by omega);have hvk : vs[k]?=some (vs[k]'(by omega)) := List.getElem?_eq_getElem (by omega);have hR := h2 k _ _ hlk hvk;obtain ⟨op,n,nm,args,a',len',cap',e1,e2,i1,i2,i3,i4⟩ := hR.inv;rw [e1] at hlk;rw [e2] at hvk;exact ⟨b,o,op,n,nm,args,a',len',cap',ha,hb,hx,hlk,i1,i2,i3,i4,four_of ((hc k _ hvk).2)⟩
theorem SlT.at {l : List Te} (h : SlT w X l a len cap) (k : Nat) (hk : k < len) : ∃ b o op nm exprs terms a' len' cap' a2 len2 cap2,a=some ⟨b,o,none⟩∧b < w.heap.size∧b ∉ X∧l[k]?=some (.mk op nm exprs terms)∧I64 op∧nm.size≤9223372036854775807∧SlE w X exprs a' len' cap'∧SlT w X terms a2 len2 cap2 ∧
 Four w b (o + k * 4) (.int .i64 op) (.string nm) (.slice a' len' cap') (.slice a2 len2 cap2) := by
 have hf := h.facts;obtain ⟨vs,h1,h2,h3⟩ := h;obtain ⟨b,o,ha,hb,hx,hc⟩ := h3.2.2.2 (by omega);have hlk : l[k]?=some (l[k]'(by omega)) := List.getElem?_eq_getElem (by omega);have hvk : vs[k]?=some (vs[k]'(by omega)) := List.getElem?_eq_getElem (by omega);have hR := h2 k _ _ hlk hvk;obtain ⟨op,nm,exprs,terms,a',len',cap',a2,len2,cap2,e1,e2,i1,i2,i3,i4⟩ := hR.inv;rw [e1] at hlk;rw [e2] at hvk;exact ⟨b,o,op,nm,exprs,terms,a',len',cap',a2,len2,cap2,ha,hb,hx,hlk,i1,i2,i3,i4,four_of ((hc k _ hvk).2)⟩
end
def Ex.rk : Ex→Nat
 | .mk _ _ _ l => 1 + go l
 where go : List Ex→Nat
 | [] => 0
 | e :: t => max e.rk (go t)
def Te.rk : Te→Nat
 | .mk _ _ x l => 1 + max (Ex.rk.go x) (go l)
 where go : List Te→Nat
 | [] => 0
 | e :: t => max e.rk (go t)
theorem Ex.rk_mem {l : List Ex} {e : Ex} (h : e ∈ l) : e.rk≤Ex.rk.go l := by
 induction l with
 | nil => cases h
 | cons x t ih =>
   simp only [Ex.rk.go];rcases List.mem_cons.1 h with rfl | h
   · omega
   · have := ih h; omega
theorem Te.rk_mem {l : List Te} {e : Te} (h : e ∈ l) : e.rk≤Te.rk.go l := by
 induction l with
 | nil => cases h
 | cons x t ih =>
   simp only [Te.rk.go];rcases List.mem_cons.1 h with rfl | h
   · omega
   · have := ih h; omega
theorem Ex.rk_lt {op n : Int} {nm : ByteArray} {l : List Ex} {e : Ex} {k : Nat} (h : l[k]?=some e) : e.rk < (Ex.mk op n nm l).rk := by
 have := Ex.rk_mem (List.mem_of_getElem? h);simp only [Ex.rk]; omega
theorem Te.rk_lt {op : Int} {nm : ByteArray} {x : List Ex} {l : List Te} {e : Te} {k : Nat} (h : l[k]?=some e) : e.rk < (Te.mk op nm x l).rk := by
 have := Te.rk_mem (List.mem_of_getElem? h);simp only [Te.rk]; omega
def Ex.nd : Ex→Nat
 | .mk _ _ _ l => 1 + go l
 where go : List Ex→Nat
 | [] => 0
 | e :: t => e.nd + go t
def Te.nd : Te→Nat
 | .mk _ _ x l => 1 + Ex.nd.go x + go l
 where go : List Te→Nat
 | [] => 0
 | e :: t => e.nd + go t
theorem Ex.nd_take {l : List Ex} {k : Nat} {e : Ex} (h : l[k]?=some e) : Ex.nd.go (l.take (k + 1))=Ex.nd.go (l.take k) + e.nd := by
 induction l generalizing k with
 | nil => cases h
 | cons x t ih =>
   cases k with
   | zero => simp at h; subst h; simp [Ex.nd.go]
   | succ j => simp only [List.take_succ_cons,Ex.nd.go]; rw [ih (by simpa using h)]; omega
theorem Te.nd_take {l : List Te} {k : Nat} {e : Te} (h : l[k]?=some e) : Te.nd.go (l.take (k + 1))=Te.nd.go (l.take k) + e.nd := by
 induction l generalizing k with
 | nil => cases h
 | cons x t ih =>
   cases k with
   | zero => simp at h; subst h; simp [Te.nd.go]
   | succ j => simp only [List.take_succ_cons,Te.nd.go]; rw [ih (by simpa using h)]; omega
theorem Ex.rk_take {l : List Ex} {k : Nat} {e : Ex} (h : l[k]?=some e) : Ex.rk.go (l.take (k + 1))=max (Ex.rk.go (l.take k)) e.rk := by
 induction l generalizing k with
 | nil => cases h
 | cons x t ih =>
   cases k with
   | zero => simp at h; subst h; simp [Ex.rk.go]
   | succ j => simp only [List.take_succ_cons,Ex.rk.go]; rw [ih (by simpa using h)]; omega
theorem Te.rk_take {l : List Te} {k : Nat} {e : Te} (h : l[k]?=some e) : Te.rk.go (l.take (k + 1))=max (Te.rk.go (l.take k)) e.rk := by
 induction l generalizing k with
 | nil => cases h
 | cons x t ih =>
   cases k with
   | zero => simp at h; subst h; simp [Te.rk.go]
   | succ j => simp only [List.take_succ_cons,Te.rk.go]; rw [ih (by simpa using h)]; omega
theorem Ex.nd_le (l : List Ex) (k : Nat) : Ex.nd.go (l.take k)≤Ex.nd.go l := by
 induction l generalizing k with
 | nil => simp
 | cons x t ih =>
   cases k with
   | zero => simp [Ex.nd.go]
   | succ j => simp only [List.take_succ_cons,Ex.nd.go]; have := ih j; omega
theorem Te.nd_le (l : List Te) (k : Nat) : Te.nd.go (l.take k)≤Te.nd.go l := by
 induction l generalizing k with
 | nil => simp
 | cons x t ih =>
   cases k with
   | zero => simp [Te.nd.go]
   | succ j => simp only [List.take_succ_cons,Te.nd.go]; have := ih j; omega
theorem Ex.rkx_lt {op : Int} {nm : ByteArray} {x : List Ex} {l : List Te} {e : Ex} {k : Nat} (h : x[k]?=some e) : e.rk < (Te.mk op nm x l).rk := by
 have := Ex.rk_mem (List.mem_of_getElem? h);simp only [Te.rk]; omega
end Go.Proofs.YtmiinmndbkdjbaaGreat
namespace Go.Proofs.YtmiinmndbkdjbaaGreat
open Go.RowKit
end Go.Proofs.YtmiinmndbkdjbaaGreat
namespace Go.Mem
open Go.RowKit
variable {P : Program}
theorem add0 (g j : Nat) : (⟨g,0,none⟩ : Addr).add j=⟨g,j,none⟩ := by unfold Addr.add; split <;> simp_all
theorem add_off (b o j : Nat) : (⟨b,o,none⟩ : Addr).add j=⟨b,o + j,none⟩ := by unfold Addr.add; split <;> simp_all
structure Own (w0 w : World) (e : TypeId) (size : Nat) (v : Value) (n : Nat) (xs : List Value) : Prop where
 below : Below w0.heap.size w0 w
 own : w.ownsRow w0.heap.size e size v n xs
theorem Own.nil {w0 w : World} {e : TypeId} {size : Nat} (h : Below w0.heap.size w0 w) : Own w0 w e size (.slice none 0 0) 0 [] := ⟨h,World.ownsRow_nil _ _ _ _⟩
theorem Own.lit {w0 w : World} {e : TypeId} {size : Nat} (h : Below w0.heap.size w0 w) (cs : Array Value) (n : Nat) (hm : n≤maxLen) (hs : cs.size=n * size) :
 Own w0 (w.alloc (.cells cs e)) e size (.slice (some ⟨w.heap.size,0,none⟩) n n) n cs.toList :=
 ⟨h.alloc h.size _,World.ownsRow_lit w cs n h.size hm hs⟩
theorem Own.alloc {w0 w : World} {e : TypeId} {size : Nat} {v : Value} {n : Nat} {xs : List Value} (h : Own w0 w e size v n xs) (o : Obj) : Own w0 (w.alloc o) e size v n xs :=
 ⟨h.below.alloc h.below.size _,h.own.alloc o⟩
theorem grown_of_below {w w' : World} (hb : Below w.heap.size w w') (row : Option Nat) : w.grownBy w' row := ⟨hb.os,hb.tape,hb.output,hb.size,fun i hi _ => hb.block i hi⟩
theorem Own.cell {w0 w : World} {e : TypeId} {size : Nat} {g n cap : Nat} {xs : List Value} (h : Own w0 w e size (.slice (some ⟨g,0,none⟩) n cap) n xs) (j : Nat) (hj : j < n * size) : w.cell? ⟨g,j,none⟩=xs[j]? :=
 h.own.cellAt j hj
theorem lit_cells (w : World) (cs : Array Value) (t : TypeId) : ∀ j u,cs.toList[j]?=some u→(w.alloc (.cells cs t)).cell? ((⟨w.heap.size,0,none⟩ : Addr).add j)=some u := by
 intro j u h;rw [add0,World.cell?_alloc_mark]
 simpa using h
theorem ap {w0 w : World} {ops : Array Oper} {rest : List Oper} {o : Oper} {a : Act} {Q : Exit→Act→World→Prop} {t e : TypeId} {z : Value} {size bytes : Nat}
 (hinfo : (P.info? e).map (fun i => (i.zero,i.size,i.bytes))=some (some z,size,bytes)) (ht : P.underlying t=some (.slice e)) (hzs : z.cells.size=size) (hsz : 0 < size)
 (hgd : o.guard=none) (s x : Operand) (ho : o.op=.call { callee := .builtin .append,args := #[s,x],argTypes := #[t,t] })
 {v : Value} {n : Nat} {xs : List Value} (hs : a.eval s=v) (hown : Own w0 w e size v n xs)
 (ad : Addr) (m c : Nat) (news : List Value) (hx : a.eval x=.slice (some ad) m c) (hl : news.length=m * size)
 (hnews : ∀ j u,news[j]?=some u→w.cell? (ad.add j)=some u) (h1 : ∀ u ∈ news,u.oneCell'=true)
 (h63 : n + m≤maxLen) (hbytes : (n + m) * bytes≤140737488355328)
 (h : ∀ v' w',Own w0 w' e size v' (n + m) (xs ++ news)→w.grownBy w' v.ownBlock→(v'.ownBlock=v.ownBlock∨v'.ownBlock=some w.heap.size)→(v'=.slice none 0 0 ↔ v=.slice none 0 0∧m=0)→wpList P ops Q rest (a.put o.dst v') w') :
 wpList P ops Q (o :: rest) a w := by
 obtain ⟨i,hi,hz,hsize,hby⟩ := info_parts hinfo;refine wpList_plain hgd fun _ hK => ?_
 obtain ⟨v',w',hrun,h2,h3,h4,h5⟩ := run_append_own_at (P := P) w w0.heap.size t o.type e i z size bytes ht hi hz hsize hby hzs hsz v n xs hown.own ad m c news hl hnews h1 h63 hbytes hown.below.size;unfold Oper.wp execOp;simp only [ho,resolve,invoke,builtin,Sem.run_bind,Sem.run_pure,Result.andThen_ok,List.map_toArray,List.map_cons,List.map_nil,hs,hx,hrun];exact hK _ _ (h v' w' ⟨hown.below.grown h3 hown.below.size (fun k hk => (hown.own.lt k hk).1),h2⟩ h3 h5 h4)
def Blk (w : World) (g : Nat) (t : TypeId) (cs : Array Value) : Prop := w.heap[g]?=some (.cells cs t (0,0))
section
variable {w w' : World} {g : Nat} {t : TypeId} {cs : Array Value}
theorem Blk.lt (h : Blk w g t cs) : g < w.heap.size := lt_of_block h
theorem Blk.cell (h : Blk w g t cs) (i : Nat) : w.cell? ⟨g,i,none⟩=cs[i]? := cell_of_row w g i cs t (0,0) h
theorem Blk.frozen (h : Blk w g t cs) (i : Nat) : w.frozen? ⟨g,i,none⟩=false := by
 unfold Blk at h;simp [World.frozen?,h]
theorem Blk.new (w : World) (t : TypeId) (cs : Array Value) : Blk (w.alloc (.cells cs t)) w.heap.size t cs := heap_alloc_new w _
theorem Blk.drew (h : Blk w g t cs) : Blk w.drew g t cs := h
theorem Blk.alloc (h : Blk w g t cs) (o : Obj) : Blk (w.alloc o) g t cs := (Below.heap_alloc w o g h.lt).trans h
theorem Blk.set_ (h : Blk w g t cs) (i : Nat) (u : Value) : Blk (w.setCell ⟨g,i,none⟩ u) g t (cs.setIfInBounds i u) := by
 unfold Blk at h ⊢;simp [World.setCell,Array.getElem?_modify,h]
theorem Blk.far (h : Blk w g t cs) {p : Addr} (hp : g ≠ p.block) (u : Value) : Blk (w.setCell p u) g t cs := (Below.heap_setCell w p u g hp).trans h
theorem Blk.call {B : Nat} (h : Blk w g t cs) (hb : Below B w w') (hg : g < B) : Blk w' g t cs := (hb.block g hg).trans h
theorem Blk.below (h : Blk w g t cs) (hb : Below w.heap.size w w') : Blk w' g t cs := (hb.block g h.lt).trans h
theorem Blk.two {a b : Value} (h : Blk w g t #[a,b]) : w.cell? ⟨g,0,none⟩=some a∧w.cell? ⟨g,1,none⟩=some b∧w.frozen? ⟨g,0,none⟩=false∧w.frozen? ⟨g,1,none⟩=false :=
 ⟨h.cell 0,h.cell 1,h.frozen 0,h.frozen 1⟩
end
end Go.Mem
namespace Go.Proofs.YtmiinmndbkdjbaaGreat
open Go.RowKit
section
theorem enters_of {P : Program} {g : FuncId} {f : Func} (h : P.funcs[g]? = some f) (hn : (f.name == "runtime.NumGoroutine") = false) (hb : f.body.isNone = false) : ∀ args w, (callFunc g args).run P w = .ok (.enter g args) w := by
 intro args w;unfold callFunc;rw [Sem.run_bind];show Result.andThen (Result.ok P w) _=_;rw [Result.andThen_ok];rw [h];simp only [hn,hb]
 rfl
def idxF {α : Type} (p : α→Bool) (l : List α) : Int := match l.findIdx? p with | some i => (i : Nat) | none => -1
theorem idxF_hit {α : Type} (p : α→Bool) (l : List α) (k : Nat) (x : α) (h : l[k]?=some x) (hp : p x=true) (hn : ∀ j y,j < k→l[j]?=some y→p y=false) : idxF p l=(k : Nat) := by
 unfold idxF;have : l.findIdx? p=some k := by
  rw [List.findIdx?_eq_some_iff_getElem];have hk : k < l.length := (List.getElem?_eq_some_iff.1 h).1;refine ⟨hk,?_,?_⟩
  · rw [List.getElem?_eq_getElem hk] at h; injection h with h; rw [h]; exact hp
  · intro j hj; have := hn j _ hj (List.getElem?_eq_getElem (by omega)); simp [this]
 rw [this]
theorem idxF_miss {α : Type} (p : α→Bool) (l : List α) (hn : ∀ (j : Nat) y,l[j]?=some y→p y=false) : idxF p l=-1 := by
 unfold idxF;have : l.findIdx? p=none := by
  rw [List.findIdx?_eq_none_iff];intro x hx;obtain ⟨j,hj,rfl⟩ := List.getElem_of_mem hx;exact hn j _ (List.getElem?_eq_getElem hj)
 rw [this]
theorem idxF_any {α : Type} (p : α→Bool) (l : List α) : decide (0≤idxF p l)=l.any p := by
 unfold idxF
 cases h : l.findIdx? p with
 | none =>
   rw [List.findIdx?_eq_none_iff] at h;have : l.any p=false := by rw [List.any_eq_false]; intro x hx; simp [h x hx]
   rw [this]; rfl
 | some i =>
   rw [List.findIdx?_eq_some_iff_getElem] at h;obtain ⟨hi,hp,_⟩ := h;have : l.any p=true := by rw [List.any_eq_true]; exact ⟨_,List.getElem_mem hi,hp⟩
   rw [this]; simp
theorem indexE_any (g : FuncId) (p : Ex→Bool) (l : List Ex) (a : Option Addr) (len cap : Nat) (w : World) (eg : ∀ args w,(callFunc g args).run Tryz.prog w=.ok (.enter g args) w) (hS : SlE w [] l a len cap)
 (hP : ∀ (k : Nat) (e : Ex) (cs : List Value) (W : World),l[k]?=some e→RepE W [] e cs→Calls Tryz.prog g #[.agg cs.toArray] W fun r W' => r=.returned (.bool (p e))∧Below W.heap.size W W') :
 Calls Tryz.prog 91 #[.slice a len cap,.func (.func g) #[] #[]] w fun e w' => e=.returned (.int .i64 (idxF p l))∧Below w.heap.size w w' := by
 have HF : Hid (∀ x,x=idxF p l→Ending.returned (.int .i64 x)=.returned (.int .i64 (idxF p l))) := fun x h => by rw [h]
 have HH := LH9 (fun k x => idxF_hit p l k x);have HM := LH9 (idxF_miss p l);have HS := LH9 hS;have HP := LH9 hP;obtain ⟨f1,f2,f3⟩ := hS.facts;have HL := LH9 f1;clear hS hP f1
 go_enter Tryz.func91,Tryz.ntmps91
 go_wp2_with fail
 go_loopw [8] (fun i wr => ∃ k : Nat,i=.int .i64 (k : Nat)∧k≤len∧Hid (Below w.heap.size w wr)∧Hid (∀ j y,j < k→l[j]?=some y→p y=false)) (fun i _ => len - (intOf i).toNat)
 case atStart => exact ⟨0,rfl,Nat.zero_le _,Below.refl _ _,fun j y hj => absurd hj (Nat.not_lt_zero _)⟩
 case round =>
  obtain ⟨k,rfl,hk,HW,HN⟩ := hrel;by_cases hlt : k < len
  · obtain ⟨b,o,op',n',nm',args',a',len',cap',rfl,hb,hbx,hle,j1,j2,j3,hS',g0,g1,g2,g3⟩ := (HS.o.kept (Kept.of_below HW.o [])).at k hlt;have HC := LH9 (HP.o k _ _ wr hle (RepE.mk' j1 j2 j3 hS'));have HLE := LH9 hle;clear hle hS';generalize Ex.mk op' n' nm' args'=e' at *
    cases hp : p e'
    · rw [hp] at HC;have HN2 : Hid (∀ j y,j < k + 1→l[j]?=some y→p y=false) := by
       intro j y hj hy;rcases Nat.lt_or_ge j k with h | h
       · exact HN.o j y h hy
       · obtain rfl : j=k := by omega
         rw [HLE.o] at hy; injection hy with hy; subst hy; exact hp
      clear hp
      go_wp2_with fail
      refine HC.o.mono ?_; rintro r w1 ⟨rfl,b1⟩
      go_wp2
      go_roundw
      case rel => exact ⟨k + 1,by go_num,by omega,HW.o.trans (b1.mono HW.o.size),HN2⟩
      case measure => simp [intOf]; omega
    · rw [hp] at HC;have F := LH9 (HF.o (k : Nat) (HH.o k e' HLE.o hp HN.o).symm);clear hp
      go_wp2_with fail
      refine HC.o.mono ?_; rintro r w1 ⟨rfl,b1⟩
      go_wp2
      go_ret;exact ⟨F.o,HW.o.trans (b1.mono HW.o.size)⟩
  · have F := LH9 (HF.o (-1) (HM.o (fun j y hy => HN.o j y (by have := (List.getElem?_eq_some_iff.1 hy).1; have := HL.o; omega) hy)).symm)
    go_wp2
    go_ret;exact ⟨F.o,HW.o⟩
theorem containsE_any (g : FuncId) (p : Ex→Bool) (l : List Ex) (a : Option Addr) (len cap : Nat) (w : World) (eg : ∀ args w,(callFunc g args).run Tryz.prog w=.ok (.enter g args) w) (hS : SlE w [] l a len cap)
 (hP : ∀ (k : Nat) (e : Ex) (cs : List Value) (W : World),l[k]?=some e→RepE W [] e cs→Calls Tryz.prog g #[.agg cs.toArray] W fun r W' => r=.returned (.bool (p e))∧Below W.heap.size W W') :
 Calls Tryz.prog 65 #[.slice a len cap,.func (.func g) #[] #[]] w fun e w' => e=.returned (.bool (l.any p))∧Below w.heap.size w w' := by
 have H := LH9 (indexE_any g p l a len cap w eg hS hP);have HE := LH9 (idxF_any p l);clear hS hP eg;rw [← HE.o];generalize idxF p l=x at *
 go_enter Tryz.func65,Tryz.ntmps65
 go_wp2_with fail
 refine H.o.mono ?_; rintro r w1 ⟨rfl,b1⟩
 go_wp2
 go_ret;exact ⟨rfl,b1⟩
theorem indexT_any (g : FuncId) (p : Te→Bool) (l : List Te) (a : Option Addr) (len cap : Nat) (w : World) (eg : ∀ args w,(callFunc g args).run Tryz.prog w=.ok (.enter g args) w) (hS : SlT w [] l a len cap)
 (hP : ∀ (k : Nat) (e : Te) (cs : List Value) (W : World),l[k]?=some e→RepT W [] e cs→Calls Tryz.prog g #[.agg cs.toArray] W fun r W' => r=.returned (.bool (p e))∧Below W.heap.size W W') :
 Calls Tryz.prog 133 #[.slice a len cap,.func (.func g) #[] #[]] w fun e w' => e=.returned (.int .i64 (idxF p l))∧Below w.heap.size w w' := by
 have HF : Hid (∀ x,x=idxF p l→Ending.returned (.int .i64 x)=.returned (.int .i64 (idxF p l))) := fun x h => by rw [h]
 have HH := LH9 (fun k x => idxF_hit p l k x);have HM := LH9 (idxF_miss p l);have HS := LH9 hS;have HP := LH9 hP;obtain ⟨f1,f2,f3⟩ := hS.facts;have HL := LH9 f1;clear hS hP f1
 go_enter Tryz.func133,Tryz.ntmps133
 go_wp2_with fail
 go_loopw [8] (fun i wr => ∃ k : Nat,i=.int .i64 (k : Nat)∧k≤len∧Hid (Below w.heap.size w wr)∧Hid (∀ j y,j < k→l[j]?=some y→p y=false)) (fun i _ => len - (intOf i).toNat)
 case atStart => exact ⟨0,rfl,Nat.zero_le _,Below.refl _ _,fun j y hj => absurd hj (Nat.not_lt_zero _)⟩
 case round =>
  obtain ⟨k,rfl,hk,HW,HN⟩ := hrel;by_cases hlt : k < len
  · obtain ⟨b,o,op',nm',ex',te',a',len',cap',a3,len3,cap3,rfl,hb,hbx,hle,j1,j3,hS',hS3,g0,g1,g2,g3⟩ := (HS.o.kept (Kept.of_below HW.o [])).at k hlt;have HC := LH9 (HP.o k _ _ wr hle (RepT.mk' j1 j3 hS' hS3));have HLE := LH9 hle;clear hle hS' hS3;generalize Te.mk op' nm' ex' te'=e' at *
    cases hp : p e'
    · rw [hp] at HC;have HN2 : Hid (∀ j y,j < k + 1→l[j]?=some y→p y=false) := by
       intro j y hj hy;rcases Nat.lt_or_ge j k with h | h
       · exact HN.o j y h hy
       · obtain rfl : j=k := by omega
         rw [HLE.o] at hy; injection hy with hy; subst hy; exact hp
      clear hp
      go_wp2_with fail
      refine HC.o.mono ?_; rintro r w1 ⟨rfl,b1⟩
      go_wp2
      go_roundw
      case rel => exact ⟨k + 1,by go_num,by omega,HW.o.trans (b1.mono HW.o.size),HN2⟩
      case measure => simp [intOf]; omega
    · rw [hp] at HC;have F := LH9 (HF.o (k : Nat) (HH.o k e' HLE.o hp HN.o).symm);clear hp
      go_wp2_with fail
      refine HC.o.mono ?_; rintro r w1 ⟨rfl,b1⟩
      go_wp2
      go_ret;exact ⟨F.o,HW.o.trans (b1.mono HW.o.size)⟩
  · have F := LH9 (HF.o (-1) (HM.o (fun j y hy => HN.o j y (by have := (List.getElem?_eq_some_iff.1 hy).1; have := HL.o; omega) hy)).symm)
    go_wp2
    go_ret;exact ⟨F.o,HW.o⟩
theorem containsT_any (g : FuncId) (p : Te→Bool) (l : List Te) (a : Option Addr) (len cap : Nat) (w : World) (eg : ∀ args w,(callFunc g args).run Tryz.prog w=.ok (.enter g args) w) (hS : SlT w [] l a len cap)
 (hP : ∀ (k : Nat) (e : Te) (cs : List Value) (W : World),l[k]?=some e→RepT W [] e cs→Calls Tryz.prog g #[.agg cs.toArray] W fun r W' => r=.returned (.bool (p e))∧Below W.heap.size W W') :
 Calls Tryz.prog 105 #[.slice a len cap,.func (.func g) #[] #[]] w fun e w' => e=.returned (.bool (l.any p))∧Below w.heap.size w w' := by
 have H := LH9 (indexT_any g p l a len cap w eg hS hP);have HE := LH9 (idxF_any p l);clear hS hP eg;rw [← HE.o];generalize idxF p l=x at *
 go_enter Tryz.func105,Tryz.ntmps105
 go_wp2_with fail
 refine H.o.mono ?_; rintro r w1 ⟨rfl,b1⟩
 go_wp2
 go_ret;exact ⟨rfl,b1⟩
end
section
theorem ret_bool {a b : Bool} (h : a=b) : Ending.returned (.bool a)=.returned (.bool b) := by rw [h]
def ltr (c : Int) : Bool := decide ((97≤c∧c≤122)∨(65≤c∧c≤90))
def dgt (c : Int) : Bool := decide (48≤c∧c≤57)
def prt (c : Int) : Bool := ltr c || dgt c || decide (c=95)
theorem letter_any (c : Int) (w : World) : Calls Tryz.prog 144 #[.int .u8 c] w fun e w' => e=.returned (.bool (ltr c))∧w=w' := by
 have HF : Hid (∀ b,ltr c=b→Ending.returned (.bool b)=.returned (.bool (ltr c))) := fun b h => ret_bool h.symm
 by_cases h1 : 97≤c <;> by_cases h2 : c≤122 <;> by_cases h3 : 65≤c <;> by_cases h4 : c≤90
 all_goals
  first
  | (exfalso; omega)
  | (have F := LH9 (HF.o true (by unfold ltr; simp; omega))
     go_enter Tryz.func144,Tryz.ntmps144
     go_wp2
     go_ret;exact ⟨F.o,rfl⟩)
  | (have F := LH9 (HF.o false (by unfold ltr; simp; omega))
     go_enter Tryz.func144,Tryz.ntmps144
     go_wp2
     go_ret;exact ⟨F.o,rfl⟩)
theorem rletter_any (c : Int) (w : World) : Calls Tryz.prog 108 #[.int .u8 c] w fun e w' => e=.returned (.bool (ltr c))∧w=w' := by
 have HF : Hid (∀ b,ltr c=b→Ending.returned (.bool b)=.returned (.bool (ltr c))) := fun b h => ret_bool h.symm
 by_cases h1 : 97≤c <;> by_cases h2 : c≤122 <;> by_cases h3 : 65≤c <;> by_cases h4 : c≤90
 all_goals
  first
  | (exfalso; omega)
  | (have F := LH9 (HF.o true (by unfold ltr; simp; omega))
     go_enter Tryz.func108,Tryz.ntmps108
     go_wp2
     go_ret;exact ⟨F.o,rfl⟩)
  | (have F := LH9 (HF.o false (by unfold ltr; simp; omega))
     go_enter Tryz.func108,Tryz.ntmps108
     go_wp2
     go_ret;exact ⟨F.o,rfl⟩)
theorem digit_any (c : Int) (w : World) : Calls Tryz.prog 149 #[.int .u8 c] w fun e w' => e=.returned (.bool (dgt c))∧w=w' := by
 have HF : Hid (∀ b,dgt c=b→Ending.returned (.bool b)=.returned (.bool (dgt c))) := fun b h => ret_bool h.symm
 by_cases h1 : 48≤c <;> by_cases h2 : c≤57
 all_goals
  first
  | (exfalso; omega)
  | (have F := LH9 (HF.o true (by unfold dgt; simp; omega))
     go_enter Tryz.func149,Tryz.ntmps149
     go_wp2
     go_ret;exact ⟨F.o,rfl⟩)
  | (have F := LH9 (HF.o false (by unfold dgt; simp; omega))
     go_enter Tryz.func149,Tryz.ntmps149
     go_wp2
     go_ret;exact ⟨F.o,rfl⟩)
theorem part_any (c : Int) (w : World) : Calls Tryz.prog 146 #[.int .u8 c] w fun e w' => e=.returned (.bool (prt c))∧w=w' := by
 have HF : Hid (∀ b,prt c=b→Ending.returned (.bool b)=.returned (.bool (prt c))) := fun b h => ret_bool h.symm
 have HL := LH9 (fun W => letter_any c W);have HD := LH9 (fun W => digit_any c W);have HP := LH9 (show prt c=(ltr c || dgt c || decide (c=95)) from rfl);generalize ltr c=a at *;generalize dgt c=b at *
 cases a <;> cases b
 case false.false =>
  have F := LH9 (HF.o (c == 95) (by rw [HP.o]; rfl))
  go_enter Tryz.func146,Tryz.ntmps146
  go_wp2_with fail
  refine (HL.o _).mono ?_; rintro e w' ⟨rfl,rfl⟩
  go_wp2_with fail
  refine (HD.o _).mono ?_; rintro e w' ⟨rfl,rfl⟩
  go_wp2
  go_ret;exact ⟨F.o,rfl⟩
 case false.true =>
  have F := LH9 (HF.o true (by rw [HP.o]; simp))
  go_enter Tryz.func146,Tryz.ntmps146
  go_wp2_with fail
  refine (HL.o _).mono ?_; rintro e w' ⟨rfl,rfl⟩
  go_wp2_with fail
  refine (HD.o _).mono ?_; rintro e w' ⟨rfl,rfl⟩
  go_wp2
  go_ret;exact ⟨F.o,rfl⟩
 all_goals
  have F := LH9 (HF.o true (by rw [HP.o]; simp))
  go_enter Tryz.func146,Tryz.ntmps146
  go_wp2_with fail
  refine (HL.o _).mono ?_; rintro e w' ⟨rfl,rfl⟩
  go_wp2
  go_ret;exact ⟨F.o,rfl⟩
theorem rpart_any (c : Int) (w : World) : Calls Tryz.prog 109 #[.int .u8 c] w fun e w' => e=.returned (.bool (prt c))∧w=w' := by
 have HF : Hid (∀ b,prt c=b→Ending.returned (.bool b)=.returned (.bool (prt c))) := fun b h => ret_bool h.symm
 have HL := LH9 (fun W => rletter_any c W);have HP := LH9 (show prt c=(ltr c || decide (48≤c∧c≤57) || decide (c=95)) from rfl);generalize ltr c=a at *
 cases a
 case false =>
  by_cases h1 : 48≤c
  all_goals
   go_enter Tryz.func109,Tryz.ntmps109
   go_wp2_with fail
   refine (HL.o _).mono ?_; rintro e w' ⟨rfl,rfl⟩
   go_wp2
   all_goals
    go_ret;exact ⟨HF.o _ (by rw [HP.o,Bool.eq_iff_iff]; simp; try omega),rfl⟩
 all_goals
  have F := LH9 (HF.o true (by rw [HP.o]; simp))
  go_enter Tryz.func109,Tryz.ntmps109
  go_wp2_with fail
  refine (HL.o _).mono ?_; rintro e w' ⟨rfl,rfl⟩
  go_wp2
  go_ret;exact ⟨F.o,rfl⟩
def bs (s : ByteArray) : List Int := s.data.toList.map fun c => (c.toNat : Int)
theorem bs_len (s : ByteArray) : (bs s).length=s.size := by unfold bs; simp
theorem bs_get (s : ByteArray) (k : Nat) (h : k < s.size) : (bs s)[k]?=some ((s[k].toNat : Nat) : Int) := by
 unfold bs;rw [List.getElem?_map,List.getElem?_eq_getElem (by simpa using h)]; rfl
def runN (p : Int→Bool) : List Int→Nat
 | [] => 0
 | c :: t => if p c then 1 + runN p t else 0
theorem runN_le (p : Int→Bool) (l : List Int) : runN p l≤l.length := by
 induction l with
 | nil => exact Nat.le_refl _
 | cons c t ih => simp only [runN]; split <;> simp <;> omega
theorem runN_all (p : Int→Bool) (l : List Int) : runN p l=l.length ↔ l.all p=true := by
 induction l with
 | nil => simp [runN]
 | cons c t ih =>
   have := runN_le p t;simp only [runN,List.all_cons,List.length_cons]
   cases h : p c
   · simp
   · simp only [if_true,Bool.true_and,← ih]; omega
theorem runN_at (p : Int→Bool) (l : List Int) (k : Nat) (c : Int) (h : l[k]?=some c) (hr : k≤runN p l) : (p c=true→k + 1≤runN p l)∧(p c=false→runN p l=k) := by
 induction l generalizing k with
 | nil => cases h
 | cons x t ih =>
   simp only [runN] at hr ⊢
   cases k with
   | zero =>
     simp at h; subst h
     constructor
     · intro hp; rw [if_pos hp]; omega
     · intro hp; rw [hp]; rfl
   | succ j =>
     cases hx : p x
     · rw [hx] at hr; simp at hr
     · simp only [hx,if_true] at hr ⊢;have := ih j (by simpa using h) (by omega)
       constructor
       · intro hp; have := this.1 hp; omega
       · intro hp; have := this.2 hp; omega
theorem run_any (s : ByteArray) (w : World) (hs : s.size≤9223372036854775807) :
 Calls Tryz.prog 145 #[.string s,.func (.func 146) #[] #[]] w fun e w' => e=.returned (.int .i64 (runN prt (bs s) : Nat))∧w=w' := by
 have HP := LH9 (fun c W => part_any c W);have HA := LH9 (fun k c => runN_at prt (bs s) k c);have HL := LH9 (runN_le prt (bs s));have HG := LH9 (fun k h => bs_get s k h);have HN := LH9 (bs_len s);generalize runN prt (bs s)=r at *
 go_enter Tryz.func145,Tryz.ntmps145
 go_wp2_with fail
 go_loop [5] (fun n => ∃ k : Nat,n=.int .i64 k∧k≤r∧k≤s.size) (fun n => s.size - (intOf n).toNat)
 case atStart => exact ⟨0,rfl,Nat.zero_le _,Nat.zero_le _⟩
 case round =>
  obtain ⟨k,rfl,hk,hk2⟩ := hrel;by_cases hlt : k < s.size
  · have ha := HA.o k _ (HG.o k hlt) hk;have HC := LH9 (fun W => HP.o (s[k].toNat : Nat) W)
    cases hp : prt (s[k].toNat : Nat)
    · rw [hp] at HC;have e := ha.2 hp;clear ha hp;subst e
      go_wp2_with fail
      refine (HC.o _).mono ?_; rintro e w' ⟨rfl,rfl⟩
      go_wp2
      go_ret;exact ⟨rfl,rfl⟩
    · rw [hp] at HC;have e := ha.1 hp;clear ha hp
      go_wp2_with fail
      refine (HC.o _).mono ?_; rintro e w' ⟨rfl,rfl⟩
      go_wp2
      go_round
      case rel => exact ⟨k + 1,by go_num,e,by omega⟩
      case measure => simp [intOf]; omega
  · have e : k=r := by have h1 := HL.o; have h2 := HN.o; rw [h2] at h1; omega
    subst e
    go_wp2
    go_ret;exact ⟨rfl,rfl⟩
end
section
def nmd (s : ByteArray) : Bool := decide (1≤s.size) && decide (s.size≤16) && ltr ((bs s).getD 0 0) && (bs s).all prt
theorem ne_nil_size (s : ByteArray) : (s.data.toList.isEmpty=false) ↔ 1≤s.size := by
 have e : s.data.toList.length=s.size := rfl
 cases h : s.data.toList with
 | nil => rw [h] at e; exact ⟨(fun h => by cases h),(fun h => by simp only [List.length_nil] at e; omega)⟩
 | cons a t => rw [h] at e; exact ⟨(fun _ => by simp only [List.length_cons] at e; omega),(fun _ => rfl)⟩
theorem named_any (s : ByteArray) (w : World) (hs : s.size≤9223372036854775807) : Calls Tryz.prog 129 #[.string s] w fun e w' => e=.returned (.bool (nmd s))∧w=w' := by
 have HF : Hid (∀ b,nmd s=b→Ending.returned (.bool b)=.returned (.bool (nmd s))) := fun b h => ret_bool h.symm
 have HR := LH9 (fun W => run_any s W hs);have HN := LH9 (show nmd s=(decide (1≤s.size) && decide (s.size≤16) && ltr ((bs s).getD 0 0) && (bs s).all prt) from rfl);have HE := LH9 (ne_nil_size s);have HA := LH9 (runN_all prt (bs s));have HB := LH9 (bs_len s);have HG := LH9 (fun k h => bs_get s k h);by_cases h1 : 1≤s.size
 case neg =>
  have h0 : s.toList=[] := by
   cases hh : s.toList with
   | nil => rfl
   | cons a t => exfalso; have := (HE.o).1 (by rw [← ByteArray.toList_eq,hh]; rfl); omega
  have F := LH9 (HF.o false (by rw [HN.o]; simp [h1]));clear h1
  go_enter Tryz.func129,Tryz.ntmps129
  go_wp2
  go_ret;exact ⟨F.o,rfl⟩
 have h0 : s.toList.isEmpty=false := by rw [ByteArray.toList_eq]; exact (HE.o).2 h1
 have h0' : (!s.toList.isEmpty)=true := by rw [h0]; rfl
 by_cases h2 : s.size≤16
 case neg =>
  have F := LH9 (HF.o false (by rw [HN.o]; simp [h2]))
  go_enter Tryz.func129,Tryz.ntmps129
  go_wp2
  go_ret;exact ⟨F.o,rfl⟩
 have HL := LH9 (fun W => letter_any (s[0].toNat : Nat) W);have eg : (bs s).getD 0 0=(s[0].toNat : Nat) := by rw [List.getD_eq_getElem?_getD,HG.o 0 h1]; rfl
 have HL2 := LH9 (show nmd s=(ltr (s[0].toNat : Nat) && (bs s).all prt) by rw [HN.o,eg]; simp [h1,h2]);clear eg
 cases hl : ltr (s[0].toNat : Nat)
 · rw [hl] at HL HL2;have F := LH9 (HF.o false (by rw [HL2.o]; rfl));clear hl
   go_enter Tryz.func129,Tryz.ntmps129
   go_wp2_with fail
   refine (HL.o _).mono ?_; rintro e w' ⟨rfl,rfl⟩
   go_wp2
   go_ret;exact ⟨F.o,rfl⟩
 · rw [hl] at HL HL2;have F := LH9 (HF.o (((runN prt (bs s) : Nat) : Int) == (s.size : Nat)) (by
    rw [HL2.o,Bool.eq_iff_iff,Bool.true_and,← HA.o,HB.o]; simp; omega))
   clear hl;generalize runN prt (bs s)=r at *
   go_enter Tryz.func129,Tryz.ntmps129
   go_wp2_with fail
   refine (HL.o _).mono ?_; rintro e w' ⟨rfl,rfl⟩
   go_wp2_with fail
   refine (HR.o _).mono ?_; rintro e w' ⟨rfl,rfl⟩
   go_wp2
   go_ret;exact ⟨F.o,rfl⟩
theorem rnamed_any (s : ByteArray) (w : World) (hs : s.size≤9223372036854775807) : Calls Tryz.prog 85 #[.string s] w fun e w' => e=.returned (.bool (nmd s))∧w=w' := by
 have HF : Hid (∀ b,nmd s=b→Ending.returned (.bool b)=.returned (.bool (nmd s))) := fun b h => ret_bool h.symm
 have HN := LH9 (show nmd s=(decide (1≤s.size) && decide (s.size≤16) && ltr ((bs s).getD 0 0) && (bs s).all prt) from rfl);have HB := LH9 (bs_len s);have HG := LH9 (fun k h => bs_get s k h);by_cases h1 : 1≤s.size
 case neg =>
  have F := LH9 (HF.o false (by rw [HN.o]; simp [h1]));have h0 : decide (s.size < 1)=true := decide_eq_true (by omega)
  go_enter Tryz.func85,Tryz.ntmps85
  go_wp2
  go_ret;exact ⟨F.o,rfl⟩
 by_cases h2 : s.size≤16
 case neg =>
  have F := LH9 (HF.o false (by rw [HN.o]; simp [h2]))
  go_enter Tryz.func85,Tryz.ntmps85
  go_wp2
  go_ret;exact ⟨F.o,rfl⟩
 have HL := LH9 (fun W => rletter_any (s[0].toNat : Nat) W);have eg : (bs s).getD 0 0=(s[0].toNat : Nat) := by rw [List.getD_eq_getElem?_getD,HG.o 0 h1]; rfl
 have HL2 := LH9 (show nmd s=(ltr (s[0].toNat : Nat) && (bs s).all prt) by rw [HN.o,eg]; simp [h1,h2]);clear eg
 cases hl : ltr (s[0].toNat : Nat)
 · rw [hl] at HL HL2;have F := LH9 (HF.o false (by rw [HL2.o]; rfl));clear hl
   go_enter Tryz.func85,Tryz.ntmps85
   go_wp2_with fail
   refine (HL.o _).mono ?_; rintro e w' ⟨rfl,rfl⟩
   go_wp2
   go_ret;exact ⟨F.o,rfl⟩
 · rw [hl] at HL HL2;have HA := LH9 (fun k c => runN_at prt (bs s) k c);have HT := LH9 (runN_all prt (bs s));have HQ := LH9 (runN_le prt (bs s));have FT : Hid (s.size≤runN prt (bs s)→Ending.returned (.bool true)=.returned (.bool (nmd s))) := fun h => HF.o true (by
    rw [HL2.o,Bool.true_and,← HT.o,HB.o]; have := HQ.o; have := HB.o; omega)
   have FF : Hid (runN prt (bs s) < s.size→Ending.returned (.bool false)=.returned (.bool (nmd s))) := fun h => HF.o false (by
    rw [HL2.o,Bool.true_and]
    cases hh : (bs s).all prt with
    | false => rfl
    | true => exfalso; have := HT.o.2 hh; rw [HB.o] at this; omega)
   clear hl;generalize runN prt (bs s)=r at *
   go_enter Tryz.func85,Tryz.ntmps85
   go_wp2_with fail
   refine (HL.o _).mono ?_; rintro e w' ⟨rfl,rfl⟩
   go_wp2_with fail
   go_loop [3] (fun n => ∃ k : Nat,n=.int .i64 k∧k≤r∧k≤s.size) (fun n => s.size - (intOf n).toNat)
   case atStart => exact ⟨0,rfl,Nat.zero_le _,Nat.zero_le _⟩
   case round =>
    obtain ⟨k,rfl,hk,hk2⟩ := hrel;by_cases hlt : k < s.size
    · have ha := HA.o k _ (HG.o k hlt) hk;have HC := LH9 (fun W => rpart_any (s[k].toNat : Nat) W)
      cases hp : prt (s[k].toNat : Nat)
      · rw [hp] at HC;have e := ha.2 hp;clear ha hp;have F := LH9 (FF.o (by omega));clear e
        go_wp2_with fail
        refine (HC.o _).mono ?_; rintro e w' ⟨rfl,rfl⟩
        go_wp2
        go_ret;exact ⟨F.o,rfl⟩
      · rw [hp] at HC;have e := ha.1 hp;clear ha hp
        go_wp2_with fail
        refine (HC.o _).mono ?_; rintro e w' ⟨rfl,rfl⟩
        go_wp2
        go_round
        case rel => exact ⟨k + 1,by go_num,e,by omega⟩
        case measure => simp [intOf]; omega
    · have F := LH9 (FT.o (by omega))
      go_wp2
      go_ret;exact ⟨F.o,rfl⟩
end
end Go.Proofs.YtmiinmndbkdjbaaGreat
