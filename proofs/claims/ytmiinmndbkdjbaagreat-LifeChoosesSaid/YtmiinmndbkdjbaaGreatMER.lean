/- A part of the proof: ChE, ChJ, ChG, ChB, Big, BgT, BgA, BgB, BgC, one behind another. -/
import Derived.Test.YtmiinmndbkdjbaaGreatMEA
import Derived.Test.YtmiinmndbkdjbaaGreatMEB
import Derived.Test.YtmiinmndbkdjbaaGreatMEC
import Derived.Test.YtmiinmndbkdjbaaGreatMEJ
import Derived.Test.YtmiinmndbkdjbaaGreatMEK
import Derived.Test.YtmiinmndbkdjbaaGreatMEL
import Derived.Test.YtmiinmndbkdjbaaGreatMEN
import Derived.Test.YtmiinmndbkdjbaaGreatMEO
import Derived.WalkSmall
import Derived.BigQuiet
import Derived.Deep.AppendLies
import Derived.StillTailTactics
import Derived.Lib.Hide
import Derived.WalkKit
set_option maxRecDepth 100000
set_option maxHeartbeats 16000000
set_option linter.unusedVariables false
set_option linter.unusedSimpArgs false
namespace Go.Proofs.YtmiinmndbkdjbaaGreat
open Go.RowKit
section
noncomputable def choE (day : Int) (fx : List Fx) (p : Prt) (which : Int) (turned : Bool) : Int :=
 if (p.til.any fun e => decide ((evalX day fx e).K=3))=true then 2
 else if endB day fx p.til=true\/(p.term.op ≠ 5/\p.term.op ≠ 9) then 14
 else if p.turned ≠ turned then 15
 else if which < 0\/(p.term.terms.length : Int)<=which then 1
 else if p.term.op=9 then (if (evalX day fx (x0 p.term)).K=3 then 2 else if (evalX day fx (x0 p.term)).B=true then 0 else 14)
 else 0
theorem Sep.blkTo {w w' : World} {fam : List Ob} {g : Nat} {t : TypeId} {cs cs' : Array Value} (h : Sep w fam) (i : Nat) (hi : fam[i]?=some (bx g t cs)) (k : Kept [g] w w') (hB : Mem.Blk w' g t cs') : Sep w' (fam.set i (bx g t cs')) :=
 h.set_ i hi k (fun b hb => .inl hb) (fun b hb => .inl hb) ⟨hB,(h.at i hi).2⟩
theorem ended2_any (base rb : Nat) (day : Int) (fx : List Fx) (fa : Option Addr) (fl fc : Nat) (s : RS) (vP vF : Value) (l : List Ex) (a : Option Addr) (len cap : Nat) (w : World) (hd : I64 day) (hJ : RunJ base rb day fx fa fl fc w s vP vF) (hR : SlR exK w (X3 rb vP vF) l a len cap) (hk : ∀ e ∈ l,e.rk<=1000) (hlen : len<=1000) :
 Calls Tryz.prog 48 #[.pointer (some ⟨rb,0,none⟩),.slice a len cap] w fun x w' => x=.returned (.bool (endB day fx l))/\RunTo base rb day fx fa fl fc w w' vP vF (endS day fx l s) vP vF/\Fr [rb] w w' := by
 have HJ := LH9 hJ.to;have HR := LH9 hR;have HL := LH9 hR.facts.1;have HK := LH9 hk;have HN := LH9 hlen;clear hJ hR hk hlen
 go_enter Tryz.func48,Tryz.ntmps48
 go_wp2_with fail
 go_loopw [5,10] (fun v i wr => ∃ (k : Nat),v=.bool (endB day fx (l.take k))/\i=.int .i64 (k : Nat)/\k<=len/\Hid (RunTo base rb day fx fa fl fc w wr vP vF (endS day fx (l.take k) s) vP vF)/\Hid (Fr [rb] w wr)) (fun _ i _ => len - (intOf i).toNat)
 case atStart => exact ⟨0,rfl,rfl,Nat.zero_le _,HJ.o,Fr.refl _ _⟩
 case round =>
  clear HJ;rename World => w3
  obtain ⟨k,rfl,rfl,hk,HT,HFR⟩ := hrel;by_cases hlt : k < len
  . have hlt' : (k : Int) < (len : Int) := by omega
    have k0 : (0 : Int)<=(k : Int) := by omega
    have k1 : (k : Int)<=1000 := by have := HN.o; omega
    obtain ⟨b,o,x,cs,ha,-,-,hx,hRx,-,hc⟩ := (HT.o.slr HR.o).at k hlt;have hRx' : RepE w3 (X3 rb vP vF) x cs := hRx;have hkx := HK.o x (List.mem_of_getElem? hx);have htk : l.take (k + 1)=l.take k ++ [x] := by
     obtain ⟨hk',e⟩ := List.getElem?_eq_some_iff.1 hx;rw [<- List.take_append_getElem hk',e]
    have HES : Hid (endS day fx (l.take (k + 1)) s=orB (endS day fx (l.take k) s) (evalX day fx x)) := by show _=_; rw [htk]; unfold endS; rw [List.foldl_append]; rfl
    have HEB : Hid (endB day fx (l.take (k + 1))=(endB day fx (l.take k) || (evalX day fx x).B)) := by show _=_; rw [htk]; unfold endB; rw [List.any_append]; simp
    obtain ⟨op,no,nm,args,aa,al,ac,e1,e2,-,-,-,-⟩ := hRx'.inv;subst e2;have bn := below_nT w3 (.cells #[.int .i64 op,.int .i64 no,.string nm,.slice aa al ac] 74);have BX := LH9 (Mem.Blk.new w3 74 #[.int .i64 op,.int .i64 no,.string nm,.slice aa al ac]);have HF4 := LH9 (HFR.o.trans (Fr.of_below bn _));have HT4 := LH9 (HT.o.trans (HT.o.run.below bn));have HTR := LH9 (runTruth_any base rb day fx fa fl fc (endS day fx (l.take k) s) vP vF x [.int .i64 op,.int .i64 no,.string nm,.slice aa al ac] _ hd (HT.o.run.below bn).run (hRx'.kept (Kept.of_below bn _)) hkx);obtain ⟨EB,hEB⟩ : ∃ E,E=endB day fx (l.take k) := ⟨_,rfl⟩;obtain ⟨B,hB⟩ : ∃ B,B=(evalX day fx x).B := ⟨_,rfl⟩;rw [<- hEB,<- hB] at HEB;rw [<- hB] at HTR;rw [<- hEB];have u0 : w3.cell? ⟨b,o + k * 4,none⟩=some (.int .i64 op) := hc 0 _ rfl;have u1 : w3.cell? ⟨b,o + k * 4 + 1,none⟩=some (.int .i64 no) := hc 1 _ rfl;have u2 : w3.cell? ⟨b,o + k * 4 + 2,none⟩=some (.string nm) := hc 2 _ rfl;have u3 : w3.cell? ⟨b,o + k * 4 + 3,none⟩=some (.slice aa al ac) := hc 3 _ rfl;have HA := LH9 ha;subst ha;have HLT := LH9 hlt;clear hRx hRx' hkx htk hx hc e1 hEB hB hlt bn HT;go_upto_region 5 with (fail);generalize w3.alloc (.cells _ 74)=w4 at *;generalize w3.heap.size=z at *;clear u0 u1 u2 u3;obtain ⟨c0,c1,c2,c3,-,-,-,-⟩ := blk4 BX.o;go_wp2_with fail;go_at_call 53;(with_reducible refine HTR.o.mono ?_);rintro y w5 ⟨rfl,ht,hfr⟩;have HF5 := LH9 (HF4.o.trans hfr);have HT5 : Hid (RunTo base rb day fx fa fl fc w w5 vP vF (endS day fx (l.take (k + 1)) s) vP vF) := by
     have := HT4.o.trans ht;rw [<- HES.o] at this;exact this
    clear ht hfr HTR HT4 HF4 HFR c0 c1 c2 c3 HES
    cases B
    . rw [Bool.or_false] at HEB;rw [<- HEB.o];go_wp2_with fail;go_roundw
      case rel => exact ⟨k + 1,rfl,by go_num,by have := HLT.o; omega,HT5.o,HF5.o⟩
      case measure => simp [intOf]; have := HLT.o; omega
    . rw [Bool.or_true] at HEB;go_wp2_with fail;go_roundw
      case rel => exact ⟨k + 1,by rw [HEB.o],by go_num,by have := HLT.o; omega,HT5.o,HF5.o⟩
      case measure => simp [intOf]; have := HLT.o; omega
  . have hlt' : ¬ (k : Int) < (len : Int) := by omega
    obtain rfl : k=len := by omega
    rw [List.take_of_length_le (by rw [HL.o]; omega)] at HT ⊢;clear hlt;go_wp2_with fail;go_ret;exact ⟨rfl,HT.o,HFR.o⟩
end
section
def shP (pre : List Prt) (s : RS) : RS := ⟨pre ++ s.ps,s.fs,s.bad⟩
theorem waitW_shift {A : Te->Int->Bool->List Ex->RS->RS} {v : Vl} {t : Te} {tn : Bool} {un : List Ex} {pre : List Prt} (h : (t.op=6\/t.op=7)->∀ f s,A (t0 t) f tn un (shP pre s)=shP pre (A (t0 t) f tn un s)) (f : Int) (s : RS) :
 waitW A v t f tn un (shP pre s)=shP pre (waitW A v t f tn un s) := by
 unfold waitW;by_cases h3 : v.K=3
 . rw [if_pos h3,if_pos h3]; rfl
 rw [if_neg h3,if_neg h3];by_cases h6 : t.op=6/\v.K=1
 . rw [if_pos h6,if_pos h6];exact h (.inl h6.1) _ { s with bad := !(fitB (fitI (f * v.N))) }
 rw [if_neg h6,if_neg h6];by_cases h7 : t.op=7/\v.B=true
 . rw [if_pos h7,if_pos h7];exact h (.inr h7.1) _ s
 rw [if_neg h7,if_neg h7];unfold shP;simp
theorem acq_shift (day : Int) (fx : List Fx) (pre : List Prt) : ∀ (r : Nat) (t : Te),t.rk<=r->bT t=true->∀ (f : Int) (tn : Bool) (un : List Ex) (s : RS),acq day fx t f tn un (shP pre s)=shP pre (acq day fx t f tn un s) := by
 intro r
 induction r with
 | zero =>
   intro t hr;exact Z7_100
 | succ r ih =>
   intro t hr hb f tn un s;obtain ⟨k1,k2,-⟩ := te_kids hb;have kid : ∀ u ∈ t.terms,∀ f tn un s,acq day fx u f tn un (shP pre s)=shP pre (acq day fx u f tn un s) := fun u hu => ih u (by have := rk_kid hu; omega) (bT_kid hb hu)
   have m0 : t.op=3\/t.op=4\/t.op=6\/t.op=7\/t.op=8->t0 t ∈ t.terms := fun h' => by
    by_cases h4 : t.op=4
    . rw [k2 (.inl h4)]; exact List.mem_cons_self ..
    . rw [k1 (by omega)]; exact List.mem_cons_self ..
   rw [acq_eq day fx hb,acq_eq day fx hb];unfold acqB;by_cases hs : s.bad=true
   . rw [if_pos (show (shP pre s).bad=true from hs),if_pos hs]
   rw [if_neg (show ¬ (shP pre s).bad=true from hs),if_neg hs];by_cases h2 : t.op=2
   . rw [if_pos h2,if_pos h2];by_cases hf : f=0
     . rw [if_pos hf,if_pos hf]
     . rw [if_neg hf,if_neg hf]; rfl
   rw [if_neg h2,if_neg h2];by_cases h3 : t.op=3
   . rw [if_pos h3,if_pos h3];exact kid _ (m0 (.inl h3)) _ _ _ { s with bad := !(fitB (fitI (-f))) }
   rw [if_neg h3,if_neg h3];by_cases h4 : t.op=4
   . rw [if_pos h4,if_pos h4,kid _ (m0 (by omega))];exact kid _ (by rw [k2 (.inl h4)]; exact List.mem_cons_of_mem _ (List.mem_cons_self ..)) _ _ _ _
   rw [if_neg h4,if_neg h4];by_cases h8 : t.op=8
   . rw [if_pos h8,if_pos h8];by_cases hK : (evalX day fx (x0 t)).K=3
     . rw [if_pos hK,if_pos hK]; rfl
     rw [if_neg hK,if_neg hK];by_cases hB : (evalX day fx (x0 t)).B=true
     . rw [if_pos hB,if_pos hB]
     rw [if_neg hB,if_neg hB];exact kid _ (m0 (by omega)) _ _ _ _
   rw [if_neg h8,if_neg h8];by_cases h6 : t.op=6\/t.op=7
   . rw [if_pos h6,if_pos h6];exact waitW_shift (fun _ f s => kid _ (m0 (by omega)) f tn un s) f s
   rw [if_neg h6,if_neg h6];by_cases h5 : t.op=5\/t.op=9
   . rw [if_pos h5,if_pos h5];unfold shP;simp
   rw [if_neg h5,if_neg h5]
theorem acq_pre {day : Int} {fx : List Fx} {t : Te} (hb : bT t=true) (pre : List Prt) (f : Int) (tn : Bool) (un : List Ex) : acq day fx t f tn un ⟨pre,[],false⟩=shP pre (acq day fx t f tn un s0) := by
 have h := acq_shift day fx pre t.rk t (Nat.le_refl _) hb f tn un s0;rw [<- h];unfold shP s0;simp
end
section
def chP (l : List Prt) (at_ : Int) : Option Prt := if at_ < 0 then none else l[at_.toNat]?
noncomputable def chA (day : Int) (fx : List Fx) (p : Prt) (which : Int) : RS := acq day fx (p.term.terms.getD which.toNat zT) p.factor p.turned p.til s0
noncomputable def chE (day : Int) (fx : List Fx) (l : List Prt) (at_ which : Int) (turned : Bool) : Int :=
 match chP l at_ with
 | none => 7
 | some p => if choE day fx p which turned ≠ 0 then choE day fx p which turned else if (chA day fx p which).bad=true then 2 else 0
noncomputable def chS (day : Int) (fx : List Fx) (l : List Prt) (at_ which : Int) : RS :=
 match chP l at_ with
 | none => s0
 | some p => ⟨l.take at_.toNat ++ (chA day fx p which).ps ++ l.drop (at_.toNat + 1),(chA day fx p which).fs,(chA day fx p which).bad⟩
theorem chP_out {l : List Prt} {at_ : Int} (h : at_ < 0\/(l.length : Int)<=at_) : chP l at_=none := by
 unfold chP;by_cases h0 : at_ < 0
 . rw [if_pos h0]
 . rw [if_neg h0];exact List.getElem?_eq_none (by omega)
theorem chP_in {l : List Prt} {k : Nat} {p : Prt} (h : l[k]?=some p) : chP l (k : Int)=some p := by
 unfold chP;rw [if_neg (by omega),Int.toNat_natCast,h]
end
section
theorem Ex.rk_nd (r : Nat) : ∀ e : Ex,e.rk<=r->e.rk<=e.nd := by
 induction r with
 | zero => intro e h; have := e.rk_pos; omega
 | succ r ih =>
   intro e h;obtain ⟨op,n,nm,args⟩ := e;have e1 : (Ex.mk op n nm args).rk=1 + Ex.rk.go args := rfl;have e2 : (Ex.mk op n nm args).nd=1 + Ex.nd.go args := rfl;have h3 : ∀ l : List Ex,(∀ x ∈ l,x.rk<=x.nd)->Ex.rk.go l<=Ex.nd.go l := by
    intro l
    induction l with
    | nil => intro _; simp [Ex.rk.go]
    | cons x t ih2 =>
      intro hx;simp only [Ex.rk.go,Ex.nd.go];have := hx x (List.mem_cons_self ..);have := ih2 (fun y hy => hx y (List.mem_cons_of_mem _ hy));omega
   have := h3 args (fun x hx => ih x (by have := Ex.rk_mem hx; omega));omega
def SzR (n d : Nat) : Ending := .returned (.tuple #[.int .i64 (n : Int),.int .i64 (d : Int)])
theorem rsizeE_any : ∀ (r : Nat) (e : Ex),e.rk<=r->e.nd < 1000->∀ (cs : List Value) (w : World),RepE w [] e cs ->
 Calls Tryz.prog 67 #[.agg cs.toArray] w fun x w' => x=SzR e.nd e.rk/\Below w.heap.size w w' := by
 intro r
 induction r with
 | zero => intro e h; have := e.rk_pos; omega
 | succ r ih =>
   intro e hr hn cs w hR;have IH := LH9 ih;clear ih;have hrn := Ex.rk_nd e.rk e (Nat.le_refl _);obtain ⟨op,n,nm,args,a,len,cap,rfl,rfl,i1,i2,i3,hS⟩ := hR.inv;obtain ⟨f1,f2,f3⟩ := hS.facts;have HL := LH9 f1;have HR := LH9 hr;have HND := LH9 (show (Ex.mk op n nm args).nd=1 + Ex.nd.go args from rfl);have HRK := LH9 (show (Ex.mk op n nm args).rk=1 + Ex.rk.go args from rfl);have HN : Hid (1 + Ex.nd.go args < 1000/\1 + Ex.rk.go args < 1000) := ⟨by rw [HND.o] at hn; exact hn,by rw [HRK.o] at hrn; rw [HND.o] at hrn hn; omega⟩;have HEL := LH9 (fun (k : Nat) (e : Ex) (h : args[k]?=some e) => Ex.rk_lt (op := op) (n := n) (nm := nm) h);rw [HND.o,HRK.o];have hb := below_nT w (.cells #[.int .i64 op,.int .i64 n,.string nm,.slice a len cap] 74);have HB := LH9 hb;have BX := LH9 (Mem.Blk.new w 74 #[.int .i64 op,.int .i64 n,.string nm,.slice a len cap]);have HS := LH9 (hS.kept (Kept.of_below hb []));clear i1 i2 i3 f1 hr hR hS hn hrn hb HND;generalize (Ex.mk op n nm args).rk=RK at *
   go_enter Tryz.func67,Tryz.ntmps67
   go_upto_region 1 with (fail);generalize w.alloc (.cells _ 74)=w0 at *;go_wp2_with fail
   go_loopw [4,5,6] (fun x y i wr => ∃ (k : Nat),x=.int .i64 ((1 + Ex.nd.go (args.take k) : Nat) : Int)/\y=.int .i64 ((1 + Ex.rk.go (args.take k) : Nat) : Int)/\i=.int .i64 (k : Nat)/\k<=len/\Hid (Below w0.heap.size w0 wr)) (fun _ _ i _ => len - (intOf i).toNat)
   case atStart => exact ⟨0,rfl,rfl,rfl,Nat.zero_le _,Below.refl _ _⟩
   case round =>
    rename World => wr
    obtain ⟨k,rfl,rfl,rfl,hk,HW⟩ := hrel;obtain ⟨-,-,-,c3,-,-,-,-⟩ := blk4 (BX.o.below HW.o);by_cases hlt : k < len
    . have hlt' : (k : Int) < (len : Int) := by omega
      have k0 : (0 : Int)<=(k : Int) := by omega
      obtain ⟨b,o,op',n',nm',args',a',len',cap',rfl,hb,hbx,hle,j1,j2,j3,hS',g0,g1,g2,g3⟩ := (HS.o.kept (Kept.of_below HW.o [])).at k hlt;have hT := Ex.nd_take hle;have hK := Ex.rk_take hle;have hm1 := Ex.nd_le args (k + 1);have hel := HEL.o k _ hle;have hen : (Ex.mk op' n' nm' args').nd < 1000 := by have := HN.o; omega
      have her := Ex.rk_nd _ (Ex.mk op' n' nm' args') (Nat.le_refl _);have hrt : 1 + Ex.rk.go (args.take k) < 1000 := by
       have h1 := Ex.rk_nd (1 + Ex.rk.go (args.take k)) (Ex.mk op n nm (args.take k)) (Nat.le_refl _);have h2 : (Ex.mk op n nm (args.take k)).nd=1 + Ex.nd.go (args.take k) := rfl;have h3 : (Ex.mk op n nm (args.take k)).rk=1 + Ex.rk.go (args.take k) := rfl;have := HN.o; omega
      have HIH := LH9 (IH.o (Ex.mk op' n' nm' args') (by have := HR.o; omega) hen [.int .i64 op',.int .i64 n',.string nm',.slice a' len' cap'] wr (RepE.mk' j1 j2 j3 hS'));have HT : Hid (1 + Ex.nd.go (args.take (k + 1))=1 + Ex.nd.go (args.take k) + (Ex.mk op' n' nm' args').nd) := by show _=_; omega
      have HK : Hid (1 + Ex.rk.go (args.take (k + 1))=max (1 + Ex.rk.go (args.take k)) ((Ex.mk op' n' nm' args').rk + 1)) := by show _=_; omega
      have hs0 : 1 + Ex.nd.go (args.take k) + (Ex.mk op' n' nm' args').nd < 1000 := by have := HN.o; omega
      have her2 : (Ex.mk op' n' nm' args').rk < 1000 := by omega
      generalize (Ex.mk op' n' nm' args').nd=en at *;generalize (Ex.mk op' n' nm' args').rk=er at *;generalize 1 + Ex.nd.go (args.take k)=A at *;generalize 1 + Ex.rk.go (args.take k)=D at *;have s0 : (0 : Int)<=(A : Int) + (en : Int) := by omega
      have s1 : (A : Int) + (en : Int)<=1000 := by omega
      have s2 : (er : Int) + 1<=1000 := by omega
      have HLT := LH9 hlt;clear hT hK hm1 hel hen her hrt hs0 hle j1 j2 j3 hS' hlt her2;go_wp2_with fail;go_at_call 67;exact Z7_69
    . have hlt' : ¬ (k : Int) < (len : Int) := by omega
      obtain rfl : k=len := by omega
      have e : args.take k=args := List.take_of_length_le (by rw [HL.o]; exact Nat.le_refl _);rw [e];have HF := bu9 HB HW;clear hlt;go_wp2_with fail;go_ret2;exact ⟨rfl,HF.o⟩
theorem Te.rk_nd (r : Nat) : ∀ e : Te,e.rk<=r->e.rk<=e.nd := by
 induction r with
 | zero => intro e h; have := e.rk_pos; omega
 | succ r ih =>
   intro e h;obtain ⟨op,nm,x,l⟩ := e;have e1 : (Te.mk op nm x l).rk=1 + max (Ex.rk.go x) (Te.rk.go l) := rfl;have e2 : (Te.mk op nm x l).nd=1 + Ex.nd.go x + Te.nd.go l := rfl;have h3 : ∀ l : List Te,(∀ x ∈ l,x.rk<=x.nd)->Te.rk.go l<=Te.nd.go l := by
    intro l
    induction l with
    | nil => intro _; simp [Te.rk.go]
    | cons x t ih2 =>
      intro hx;simp only [Te.rk.go,Te.nd.go];have := hx x (List.mem_cons_self ..);have := ih2 (fun y hy => hx y (List.mem_cons_of_mem _ hy));omega
   have h4 := Ex.rk_nd (1 + Ex.rk.go x) (Ex.mk 0 0 nm x) (Nat.le_refl _);have h5 : (Ex.mk 0 0 nm x).nd=1 + Ex.nd.go x := rfl;have h6 : (Ex.mk 0 0 nm x).rk=1 + Ex.rk.go x := rfl;have := h3 l (fun y hy => ih y (by obtain ⟨k,hk⟩ := List.getElem?_of_mem hy; have := Te.rk_lt (op := op) (nm := nm) (x := x) hk; omega));omega
theorem rsizeT_any : ∀ (r : Nat) (e : Te),e.rk<=r->e.nd < 1000->∀ (cs : List Value) (w : World),RepT w [] e cs ->
 Calls Tryz.prog 40 #[.agg cs.toArray] w fun x w' => x=SzR e.nd e.rk/\Below w.heap.size w w' := by
 intro r
 induction r with
 | zero => intro e h; have := e.rk_pos; omega
 | succ r ih =>
   intro e hr hn cs w hR;have IH := LH9 ih;clear ih;have hrn := Te.rk_nd e.rk e (Nat.le_refl _);obtain ⟨op,nm,exprs,terms,a,len,cap,a2,len2,cap2,rfl,rfl,i1,i3,hS,hS2⟩ := hR.inv;obtain ⟨f1,f2,f3⟩ := hS.facts;obtain ⟨f4,f5,f6⟩ := hS2.facts;have HL := LH9 f1;have HL2 := LH9 f4;have HR := LH9 hr;have HND := LH9 (show (Te.mk op nm exprs terms).nd=1 + Ex.nd.go exprs + Te.nd.go terms from rfl);have HRK := LH9 (show (Te.mk op nm exprs terms).rk=1 + max (Ex.rk.go exprs) (Te.rk.go terms) from rfl);have HN : Hid (1 + Ex.nd.go exprs + Te.nd.go terms < 1000) := by show _ < _; rw [HND.o] at hn; exact hn
   have HEL := LH9 (fun (k : Nat) (e : Te) (h : terms[k]?=some e) => Te.rk_lt (op := op) (nm := nm) (x := exprs) h);rw [HND.o,HRK.o];have hb := below_nT w (.cells #[.int .i64 op,.string nm,.slice a len cap,.slice a2 len2 cap2] 41);have HB := LH9 hb;have BX := LH9 (Mem.Blk.new w 41 #[.int .i64 op,.string nm,.slice a len cap,.slice a2 len2 cap2]);have HS := LH9 (hS.kept (Kept.of_below hb []));have HS2 := LH9 (hS2.kept (Kept.of_below hb []));clear i1 i3 f1 f4 hr hR hS hS2 hn hrn hb HND;generalize (Te.mk op nm exprs terms).rk=RK at *
   go_enter Tryz.func40,Tryz.ntmps40
   go_upto_region 1 with (fail);generalize w.alloc (.cells _ 41)=w0 at *;go_wp2_with fail
   go_loopw [4,5,6] (fun x y i wr => ∃ (k : Nat),x=.int .i64 ((1 + Ex.nd.go (exprs.take k) : Nat) : Int)/\y=.int .i64 ((1 + Ex.rk.go (exprs.take k) : Nat) : Int)/\i=.int .i64 (k : Nat)/\k<=len/\Hid (Below w0.heap.size w0 wr)) (fun _ _ i _ => len - (intOf i).toNat)
   case atStart => exact ⟨0,rfl,rfl,rfl,Nat.zero_le _,Below.refl _ _⟩
   case round =>
    rename World => wr
    obtain ⟨k,rfl,rfl,rfl,hk,HW⟩ := hrel;obtain ⟨-,-,c2,c3,-,-,-,-⟩ := blk4 (BX.o.below HW.o);by_cases hlt : k < len
    . have hlt' : (k : Int) < (len : Int) := by omega
      have k0 : (0 : Int)<=(k : Int) := by omega
      obtain ⟨b,o,op',n',nm',args',a',len',cap',rfl,hb,hbx,hle,j1,j2,j3,hS',g0,g1,g2,g3⟩ := (HS.o.kept (Kept.of_below HW.o [])).at k hlt;have hT := Ex.nd_take hle;have hK := Ex.rk_take hle;have hm1 := Ex.nd_le exprs (k + 1);have hen : (Ex.mk op' n' nm' args').nd < 1000 := by have := HN.o; omega
      have her := Ex.rk_nd _ (Ex.mk op' n' nm' args') (Nat.le_refl _);have hrt : 1 + Ex.rk.go (exprs.take k) < 1000 := by
       have h1 := Ex.rk_nd (1 + Ex.rk.go (exprs.take k)) (Ex.mk op 0 nm (exprs.take k)) (Nat.le_refl _);have h2 : (Ex.mk op 0 nm (exprs.take k)).nd=1 + Ex.nd.go (exprs.take k) := rfl;have h3 : (Ex.mk op 0 nm (exprs.take k)).rk=1 + Ex.rk.go (exprs.take k) := rfl;have := HN.o; omega
      have HIH := LH9 (rsizeE_any _ (Ex.mk op' n' nm' args') (Nat.le_refl _) hen [.int .i64 op',.int .i64 n',.string nm',.slice a' len' cap'] wr (RepE.mk' j1 j2 j3 hS'));have HT : Hid (1 + Ex.nd.go (exprs.take (k + 1))=1 + Ex.nd.go (exprs.take k) + (Ex.mk op' n' nm' args').nd) := by show _=_; omega
      have HK : Hid (1 + Ex.rk.go (exprs.take (k + 1))=max (1 + Ex.rk.go (exprs.take k)) ((Ex.mk op' n' nm' args').rk + 1)) := by show _=_; omega
      have hs0 : 1 + Ex.nd.go (exprs.take k) + (Ex.mk op' n' nm' args').nd < 1000 := by have := HN.o; omega
      have her2 : (Ex.mk op' n' nm' args').rk < 1000 := by omega
      generalize (Ex.mk op' n' nm' args').nd=en at *;generalize (Ex.mk op' n' nm' args').rk=er at *;generalize 1 + Ex.nd.go (exprs.take k)=A at *;generalize 1 + Ex.rk.go (exprs.take k)=D at *;have s0 : (0 : Int)<=(A : Int) + (en : Int) := by omega
      have s1 : (A : Int) + (en : Int)<=1000 := by omega
      have s2 : (er : Int) + 1<=1000 := by omega
      have HLT := LH9 hlt;clear hT hK hm1 hen her hrt hs0 hle j1 j2 j3 hS' hlt her2;go_wp2_with fail;go_at_call 67;exact Z7_69
    . have hlt' : ¬ (k : Int) < (len : Int) := by omega
      obtain rfl : k=len := by omega
      have e : exprs.take k=exprs := List.take_of_length_le (by rw [HL.o]; exact Nat.le_refl _);rw [e];have hrt : 1 + Ex.rk.go exprs < 1000 := by
       have h1 := Ex.rk_nd (1 + Ex.rk.go exprs) (Ex.mk op 0 nm exprs) (Nat.le_refl _);have h2 : (Ex.mk op 0 nm exprs).nd=1 + Ex.nd.go exprs := rfl;have h3 : (Ex.mk op 0 nm exprs).rk=1 + Ex.rk.go exprs := rfl;have := HN.o; omega
      have HRT := LH9 hrt;have HXW := LH9 HW.o;obtain ⟨PE,hPE⟩ : ∃ n,n=Ex.nd.go exprs := ⟨_,rfl⟩;obtain ⟨QE,hQE⟩ : ∃ n,n=Ex.rk.go exprs := ⟨_,rfl⟩;rw [<- hPE] at HN ⊢;rw [<- hQE] at HRT ⊢;have HPE := LH9 hPE;have HQE := LH9 hQE;clear hlt hrt hPE hQE e;go_wp2_with fail
      go_loopw [4,5,9] (fun x y i wr => ∃ (k : Nat),x=.int .i64 ((1 + PE + Te.nd.go (terms.take k) : Nat) : Int)/\y=.int .i64 ((1 + max QE (Te.rk.go (terms.take k)) : Nat) : Int)/\i=.int .i64 (k : Nat)/\k<=len2/\Hid (Below w0.heap.size w0 wr)) (fun _ _ i _ => len2 - (intOf i).toNat)
      case atStart => exact ⟨0,rfl,by show _=Value.int .i64 ((1 + max QE 0 : Nat) : Int); rw [Nat.max_zero]; go_num,rfl,Nat.zero_le _,HXW.o⟩
      case round =>
       clear HW HXW c2 c3;rename World => wr
       obtain ⟨k,rfl,rfl,rfl,hk,HW⟩ := hrel;obtain ⟨-,-,c2,c3,-,-,-,-⟩ := blk4 (BX.o.below HW.o);by_cases hlt : k < len2
       . have hlt' : (k : Int) < (len2 : Int) := by omega
         have k0 : (0 : Int)<=(k : Int) := by omega
         obtain ⟨b,o,e1,cs,rfl,-,-,hle,hRt,-,hct⟩ := HS2.o.slR.at k hlt;have hT := Te.nd_take hle;have hK := Te.rk_take hle;have hm1 := Te.nd_le terms (k + 1);have hel := HEL.o k _ hle;have hen : e1.nd < 1000 := by have := HN.o; omega
         have her := Te.rk_nd _ e1 (Nat.le_refl _);have hrt : 1 + max QE (Te.rk.go (terms.take k)) < 1000 := by
          have h1 := Te.rk_nd (1 + Te.rk.go (terms.take k)) (Te.mk op nm [] (terms.take k)) (by show 1 + max 0 _<=_; omega);have h2 : (Te.mk op nm [] (terms.take k)).nd=1 + 0 + Te.nd.go (terms.take k) := rfl;have h3 : (Te.mk op nm [] (terms.take k)).rk=1 + max 0 (Te.rk.go (terms.take k)) := rfl;have := HN.o;have := HRT.o;omega
         have HIH := LH9 (IH.o e1 (by have := HR.o; omega) hen cs wr (RepT.kept hRt (Kept.of_below HW.o [])));have HT : Hid (1 + PE + Te.nd.go (terms.take (k + 1))=1 + PE + Te.nd.go (terms.take k) + e1.nd) := by show _=_; omega
         have HK : Hid (1 + max QE (Te.rk.go (terms.take (k + 1)))=max (1 + max QE (Te.rk.go (terms.take k))) (e1.rk + 1)) := by show _=_; omega
         have hs0 : 1 + PE + Te.nd.go (terms.take k) + e1.nd < 1000 := by have := HN.o; omega
         have her2 : e1.rk < 1000 := by omega
         obtain ⟨op',nm',x',t',a',l',c',a'',l'',c'',-,rfl,-⟩ := hRt.inv;have g0 := cu9 (show w0.cell? ⟨b,o + k * 4,none⟩=some (.int .i64 op') from hct 0 _ rfl) HW.o;have g1 := cu9 (show w0.cell? ⟨b,o + k * 4 + 1,none⟩=some (.string nm') from hct 1 _ rfl) HW.o;have g2 := cu9 (show w0.cell? ⟨b,o + k * 4 + 2,none⟩=some (.slice a' l' c') from hct 2 _ rfl) HW.o;have g3 := cu9 (show w0.cell? ⟨b,o + k * 4 + 3,none⟩=some (.slice a'' l'' c'') from hct 3 _ rfl) HW.o;generalize e1.nd=en at *;generalize e1.rk=er at *;generalize 1 + PE + Te.nd.go (terms.take k)=A at *;generalize 1 + max QE (Te.rk.go (terms.take k))=D at *;have s0 : (0 : Int)<=(A : Int) + (en : Int) := by omega
         have s1 : (A : Int) + (en : Int)<=1000 := by omega
         have s2 : (er : Int) + 1<=1000 := by omega
         have HLT := LH9 hlt;clear hT hK hm1 hel hen her hrt hs0 hle hRt hct hlt her2;go_wp2_with fail;go_at_call 40;exact Z7_69
       . have hlt' : ¬ (k : Int) < (len2 : Int) := by omega
         obtain rfl : k=len2 := by omega
         have e : terms.take k=terms := List.take_of_length_le (by rw [HL2.o]; exact Nat.le_refl _);rw [e];have HF := bu9 HB HW;clear hlt;go_wp2_with fail;go_ret2;refine ⟨?_,HF.o⟩;show Ending.returned (.tuple #[.int .i64 (1 + (PE : Int) + ((Te.nd.go terms : Nat) : Int)),.int .i64 (1 + ((max QE (Te.rk.go terms) : Nat) : Int))])=_;unfold SzR;rw [<- HPE.o,<- HQE.o,show (1 + (PE : Int) + ((Te.nd.go terms : Nat) : Int))=((1 + PE + Te.nd.go terms : Nat) : Int) by omega,show (1 + ((max QE (Te.rk.go terms) : Nat) : Int))=((1 + max QE (Te.rk.go terms) : Nat) : Int) by omega]
end
end Go.Proofs.YtmiinmndbkdjbaaGreat
namespace Go.Big
def val : List Nat->Nat
 | [] => 0
 | d :: l => d + 65536 * val l
def Dig (l : List Nat) : Prop := ∀ d ∈ l,d < 65536
def Norm (l : List Nat) : Prop := Dig l/\(∀ d,l.getLast?=some d->d ≠ 0)
def pw (k : Nat) : Nat := 65536 ^ k
theorem pw_succ (k : Nat) : pw (k + 1)=65536 * pw k := by unfold pw; rw [Nat.pow_succ,Nat.mul_comm]
theorem pw_pos (k : Nat) : 0 < pw k := Nat.pow_pos (by omega)
theorem pw_add (a b : Nat) : pw (a + b)=pw a * pw b := Nat.pow_add _ _ _
theorem pw_mono {a b : Nat} (h : a<=b) : pw a<=pw b := Nat.pow_le_pow_right (by omega) h
theorem Dig.nil : Dig [] := by intro d h; cases h
theorem Dig.append {a b : List Nat} (ha : Dig a) (hb : Dig b) : Dig (a ++ b) := by
 intro d h; rcases List.mem_append.1 h with h | h
 . exact ha d h
 . exact hb d h
theorem Dig.take {a : List Nat} (ha : Dig a) (k : Nat) : Dig (a.take k) := fun d h => ha d (List.mem_of_mem_take h)
theorem Dig.getD {a : List Nat} (ha : Dig a) (k : Nat) : a.getD k 0 < 65536 := by
 rw [List.getD_eq_getElem?_getD]
 cases h : a[k]? with
 | none => simp
 | some d => exact ha d (List.mem_of_getElem? h)
theorem val_append (a b : List Nat) : val (a ++ b)=val a + pw a.length * val b := by
 induction a with
 | nil => simp [val,pw]
 | cons d l ih => simp only [List.cons_append,val,ih,List.length_cons,pw_succ]; rw [Nat.mul_add,Nat.mul_assoc,Nat.add_assoc]
theorem val_snoc (a : List Nat) (d : Nat) : val (a ++ [d])=val a + d * pw a.length := by
 rw [val_append]; simp [val,Nat.mul_comm]
theorem val_lt {a : List Nat} (h : Dig a) : val a < pw a.length := by
 induction a with
 | nil => simp [val,pw]
 | cons d l ih =>
   have h1 := h d (by simp);have h2 := ih (fun x hx => h x (by simp [hx]));simp only [val,List.length_cons,pw_succ]; omega
theorem val_take_succ (a : List Nat) (k : Nat) : val (a.take (k + 1))=val (a.take k) + a.getD k 0 * pw k := by
 by_cases h : k < a.length
 . rw [List.take_succ_eq_append_getElem h,val_snoc,List.length_take,Nat.min_eq_left (by omega)];simp [List.getD_eq_getElem?_getD,h]
 . rw [List.take_of_length_le (by omega),List.take_of_length_le (by omega)];simp [List.getD_eq_getElem?_getD,List.getElem?_eq_none (Nat.not_lt.1 h)]
theorem Norm.nil : Norm [] := ⟨Dig.nil,by simp⟩
theorem Norm.ne {a : List Nat} (h : Norm a) (hn : a ≠ []) : pw (a.length - 1)<=val a := by
 rcases List.eq_nil_or_concat a with rfl | ⟨l,d,rfl⟩
 . exact absurd rfl hn
 . have := h.2 d (by simp);simp only [List.concat_eq_append,val_snoc,List.length_append,List.length_singleton,Nat.add_sub_cancel];have : 1 * pw l.length<=d * pw l.length := Nat.mul_le_mul_right _ (by omega);omega
theorem Norm.nil_iff {a : List Nat} (h : Norm a) : a=[] ↔ val a=0 := by
 constructor
 . rintro rfl; rfl
 . intro h0;apply Classical.byContradiction; intro hn;have := h.ne hn;have := pw_pos (a.length - 1);omega
theorem Norm.length_le {a : List Nat} (h : Norm a) {k : Nat} (hv : val a < pw k) : a.length<=k := by
 apply Classical.byContradiction; intro hk;have hn : a ≠ [] := by rintro rfl; simp at hk
 have h1 := h.ne hn;have h2 := pw_mono (a := k) (b := a.length - 1) (by omega);omega
theorem Norm.length_lt_val {a b : List Nat} (ha : Norm a) (hb : Norm b) (h : a.length < b.length) : val a < val b := by
 have h1 := val_lt ha.1;have hn : b ≠ [] := by rintro rfl; simp at h
 have h2 := hb.ne hn;have h3 := pw_mono (a := a.length) (b := b.length - 1) (by omega);omega
def trim (l : List Nat) : List Nat := (l.reverse.dropWhile (· == 0)).reverse
theorem trim_snoc0 (l : List Nat) : trim (l ++ [0])=trim l := by simp [trim]
theorem trim_snoc (l : List Nat) (d : Nat) (h : d ≠ 0) : trim (l ++ [d])=l ++ [d] := by
 have : (d == 0)=false := by simp [h]
 simp [trim,this]
theorem trim_take_succ (l : List Nat) (k : Nat) (hk : k < l.length) (h0 : l.getD k 0=0) : trim (l.take (k + 1))=trim (l.take k) := by
 rw [List.take_succ_eq_append_getElem hk];have : l[k]=0 := by simpa [List.getD_eq_getElem?_getD,hk] using h0
 rw [this,trim_snoc0]
theorem trim_take_stop (l : List Nat) (k : Nat) (hk : k < l.length) (h0 : l.getD k 0 ≠ 0) : trim (l.take (k + 1))=l.take (k + 1) := by
 rw [List.take_succ_eq_append_getElem hk];have : l[k] ≠ 0 := by simpa [List.getD_eq_getElem?_getD,hk] using h0
 rw [trim_snoc _ _ this]
theorem trim_spec (l : List Nat) (h : Dig l) : Norm (trim l)/\val (trim l)=val l/\(trim l).length<=l.length := by
 rcases List.eq_nil_or_concat l with rfl | ⟨a,d,rfl⟩
 . exact ⟨Norm.nil,rfl,by simp [trim]⟩
 . simp only [List.concat_eq_append] at h ⊢;by_cases hd : d=0
   . subst hd;rw [trim_snoc0];have := trim_spec a (fun x hx => h x (by simp [hx]));refine ⟨this.1,by rw [this.2.1,val_snoc]; simp,?_⟩;have h3 := this.2.2;simp only [List.length_append,List.length_singleton]; omega
   . rw [trim_snoc _ _ hd];exact ⟨⟨h,fun x hx => by simp at hx; omega⟩,rfl,Nat.le_refl _⟩
termination_by l.length
theorem add_step (out a b : List Nat) (i carry : Nat) (hl : out.length=i) (hinv : val out + carry * pw i=val (a.take i) + val (b.take i)) :
 val (out ++ [(carry + a.getD i 0 + b.getD i 0) % 65536]) + (carry + a.getD i 0 + b.getD i 0) / 65536 * pw (i + 1)=val (a.take (i + 1)) + val (b.take (i + 1)) := by
 rw [val_snoc,hl,val_take_succ,val_take_succ,pw_succ];generalize a.getD i 0=x at *;generalize b.getD i 0=y at *;generalize pw i=P at *;have h1 : (carry + x + y) % 65536 * P + (carry + x + y) / 65536 * (65536 * P)=(carry + x + y) * P := by
  rw [<- Nat.mul_assoc,<- Nat.add_mul]; congr 1; omega
 have h2 : (carry + x + y) * P=carry * P + x * P + y * P := by rw [Nat.add_mul,Nat.add_mul]
 omega
theorem sub_step (out a b : List Nat) (i borrow : Nat) (hb : borrow<=1) (ha : Dig a) (hbd : Dig b) (hl : out.length=i) (hinv : val out + val (b.take i)=val (a.take i) + borrow * pw i) :
 val (out ++ [(65536 + a.getD i 0 - borrow - b.getD i 0) % 65536]) + val (b.take (i + 1))=val (a.take (i + 1)) + (1 - (65536 + a.getD i 0 - borrow - b.getD i 0) / 65536) * pw (i + 1) := by
 have hx := ha.getD i;have hy := hbd.getD i;rw [val_snoc,hl,val_take_succ,val_take_succ,pw_succ];generalize a.getD i 0=x at *;generalize b.getD i 0=y at *;generalize pw i=P at *;have hv : (65536 + x - borrow - y) / 65536<=1 := by omega
 have h1 : (65536 + x - borrow - y) % 65536 * P + y * P + borrow * P=x * P + (1 - (65536 + x - borrow - y) / 65536) * (65536 * P) := by
  rw [<- Nat.mul_assoc,<- Nat.add_mul,<- Nat.add_mul,<- Nat.add_mul]; congr 1; omega
 omega
theorem cmp_lt (a b : List Nat) (i : Nat) (ha : Dig a) (hl : a.length=b.length) (hi : i < a.length) (he : a.drop (i + 1)=b.drop (i + 1)) (hlt : a.getD i 0 < b.getD i 0) : val a < val b := by
 have e1 : val a=val (a.take (i + 1)) + pw (i + 1) * val (a.drop (i + 1)) := by
  conv => lhs; rw [<- List.take_append_drop (i + 1) a]
  rw [val_append,List.length_take,Nat.min_eq_left (by omega)]
 have e2 : val b=val (b.take (i + 1)) + pw (i + 1) * val (b.drop (i + 1)) := by
  conv => lhs; rw [<- List.take_append_drop (i + 1) b]
  rw [val_append,List.length_take,Nat.min_eq_left (by omega)]
 rw [e1,e2,he,val_take_succ,val_take_succ];have h1 := val_lt (ha.take i);rw [List.length_take,Nat.min_eq_left (by omega)] at h1;have h3 : (a.getD i 0 + 1) * pw i<=b.getD i 0 * pw i := Nat.mul_le_mul_right _ (by omega);rw [Nat.add_mul] at h3;omega
end Go.Big
namespace Go.Big
theorem val_digit (a : List Nat) (j : Nat) (ha : Dig a) : val a / pw j % 65536=a.getD j 0 := by
 induction a generalizing j with
 | nil => simp [val]
 | cons d l ih =>
   have hd := ha d (by simp);have hl : Dig l := fun x hx => ha x (by simp [hx])
   cases j with
   | zero => simp [val,pw]; omega
   | succ j =>
     rw [pw_succ,<- Nat.div_div_eq_div_mul];have : val (d :: l) / 65536=val l := by simp only [val]; omega
     rw [this,ih j hl]; simp
theorem val_bit (a : List Nat) (i : Nat) (ha : Dig a) : val a / 2 ^ i % 2=a.getD (i / 16) 0 / 2 ^ (i % 16) % 2 := by
 have e : (2 : Nat) ^ i=pw (i / 16) * 2 ^ (i % 16) := by
  unfold pw;rw [show (65536 : Nat)=2 ^ 16 from rfl,<- Nat.pow_mul,<- Nat.pow_add]; congr 1; omega
 rw [e,<- Nat.div_div_eq_div_mul,<- val_digit a (i / 16) ha];generalize val a / pw (i / 16)=n;have hk : i % 16 < 16 := Nat.mod_lt _ (by omega);generalize i % 16=k at hk;have h2 : (65536 : Nat)=2 ^ k * 2 ^ (16 - k) := by rw [<- Nat.pow_add,show k + (16 - k)=16 from by omega]
 have h3 : (2:Nat) ^ (16 - k)=2 * 2 ^ (15 - k) := by rw [show 16 - k=(15 - k) + 1 from by omega,Nat.pow_succ,Nat.mul_comm]
 have h4 : n % 65536 / 2 ^ k=n / 2 ^ k % 2 ^ (16 - k) := by rw [h2,Nat.mod_mul_right_div_self]
 rw [h4,h3,Nat.mod_mul_right_mod]
theorem val_set (q : List Nat) (j x : Nat) (hj : j < q.length) : val (q.set j (q.getD j 0 + x))=val q + x * pw j := by
 induction q generalizing j with
 | nil => simp at hj
 | cons d l ih =>
   cases j with
   | zero => simp [val,pw]; omega
   | succ j =>
     have := ih j (by simpa using hj);have e : (d :: l).getD (j + 1) 0=l.getD j 0 := by simp
     rw [e];simp only [List.set_cons_succ,val,this,pw_succ];rw [Nat.mul_add,Nat.mul_left_comm 65536 x]; omega
theorem div_step (A b i : Nat) (hb : 0 < b) (left q : Nat) (hleft : left=A / 2 ^ (i + 1) % b) (hq : q=A / 2 ^ (i + 1) / b * 2 ^ (i + 1)) :
 let l2 := 2 * left + A / 2 ^ i % 2
 (b<=l2->l2 - b=A / 2 ^ i % b/\q + 2 ^ i=A / 2 ^ i / b * 2 ^ i)/\(l2 < b->l2=A / 2 ^ i % b/\q=A / 2 ^ i / b * 2 ^ i) := by
 intro l2;have hl : l2=2 * left + A / 2 ^ i % 2 := rfl
 clear_value l2
 have e1 : A / 2 ^ (i + 1)=A / 2 ^ i / 2 := by rw [Nat.pow_succ,Nat.div_div_eq_div_mul]
 rw [e1] at hleft hq;have e2 : (2:Nat) ^ (i + 1)=2 * 2 ^ i := by rw [Nat.pow_succ,Nat.mul_comm]
 rw [e2] at hq;generalize A / 2 ^ i=N at *;generalize (2:Nat) ^ i=P at *;have hN : N=2 * (N / 2) + N % 2 := by omega
 have hd := Nat.div_add_mod (N / 2) b;have hlt := Nat.mod_lt (N / 2) hb;have hl2 : l2=2 * (N / 2 % b) + N % 2 := by rw [hl,hleft]
 generalize N / 2 / b=d at *;generalize N / 2 % b=r at *;have hNb : N=b * (2 * d) + l2 := by rw [Nat.mul_left_comm]; omega
 constructor
 . intro h;have h2 : l2 - b < b := by omega
   have hNb' : N=b * (2 * d + 1) + (l2 - b) := by rw [Nat.mul_add]; omega
   have hdiv : N / b=2 * d + 1 := by rw [hNb',Nat.mul_add_div hb,Nat.div_eq_of_lt h2]
   have hmod : N % b=l2 - b := by rw [hNb',Nat.mul_add_mod,Nat.mod_eq_of_lt h2]
   refine ⟨hmod.symm,?_⟩;rw [hdiv,hq,Nat.add_mul];have : d * (2 * P)=2 * d * P := by rw [<- Nat.mul_assoc,Nat.mul_comm d 2]
   omega
 . intro h;have hdiv : N / b=2 * d := by rw [hNb,Nat.mul_add_div hb,Nat.div_eq_of_lt h,Nat.add_zero]
   have hmod : N % b=l2 := by rw [hNb,Nat.mul_add_mod,Nat.mod_eq_of_lt h]
   refine ⟨hmod.symm,?_⟩;rw [hdiv,hq];rw [<- Nat.mul_assoc,Nat.mul_comm d 2]
def Bits (q : List Nat) (i : Nat) : Prop := Dig q/\(∀ j,j < i / 16->q.getD j 0=0)/\q.getD (i / 16) 0 % 2 ^ (i % 16)=0
theorem Bits.start (n : Nat) (i : Nat) : Bits (List.replicate n 0) i := by
 have h0 : ∀ j,(List.replicate n 0).getD j 0=0 := by
  intro j; rw [List.getD_eq_getElem?_getD,List.getElem?_replicate]; split <;> rfl
 refine ⟨fun d h => by have := List.eq_of_mem_replicate h; omega,fun j _ => h0 j,by rw [h0]; exact Nat.zero_mod _⟩
theorem getD_set (q : List Nat) (j k x : Nat) (hj : j < q.length) : (q.set j x).getD k 0=if k=j then x else q.getD k 0 := by
 rw [List.getD_eq_getElem?_getD,List.getElem?_set];by_cases h : j=k
 . subst h; simp [hj]
 . rw [if_neg h,if_neg (fun e => h e.symm),List.getD_eq_getElem?_getD]
theorem Bits.down (q : List Nat) (i : Nat) (h : Bits q (i + 1)) : Bits q i := by
 obtain ⟨h1,h2,h3⟩ := h;by_cases e : (i + 1) % 16=0
 . have e1 : (i + 1) / 16=i / 16 + 1 := by omega
   rw [e1] at h2 h3;refine ⟨h1,fun j hj => h2 j (by omega),by rw [h2 _ (by omega)]; exact Nat.zero_mod _⟩
 . have e1 : (i + 1) / 16=i / 16 := by omega
   have e2 : (i + 1) % 16=i % 16 + 1 := by omega
   rw [e1] at h2 h3;rw [e2,Nat.pow_succ] at h3;refine ⟨h1,h2,?_⟩;have := Nat.mod_mul_right_mod (q.getD (i / 16) 0) (2 ^ (i % 16)) 2;rw [h3] at this; rw [<- this]; exact Nat.zero_mod _
theorem dig_room (x k : Nat) (hk : k < 16) (hx : x < 65536) (hm : x % 2 ^ (k + 1)=0) : x + 2 ^ k < 65536/\(x + 2 ^ k) % 2 ^ k=0 := by
 have h2 : (65536 : Nat)=2 ^ (k + 1) * 2 ^ (15 - k) := by rw [<- Nat.pow_add,show k + 1 + (15 - k)=16 from by omega]
 have hp : 0 < (2:Nat) ^ k := Nat.pow_pos (by omega);have hs : (2:Nat) ^ (k + 1)=2 * 2 ^ k := by rw [Nat.pow_succ,Nat.mul_comm]
 obtain ⟨c,hc⟩ := Nat.dvd_of_mod_eq_zero hm;have hc2 : c < 2 ^ (15 - k) := by
  rw [h2,hc] at hx;exact Nat.lt_of_mul_lt_mul_left hx
 have h4 : 2 ^ (k + 1) * (c + 1)<=65536 := by rw [h2]; exact Nat.mul_le_mul_left _ (by omega)
 rw [Nat.mul_add,<- hc,hs] at h4;refine ⟨by omega,?_⟩;rw [hc,hs,Nat.mul_right_comm,Nat.mul_comm (2 * c),];rw [Nat.add_mod_right,Nat.mul_mod_right]
theorem Bits.set_ (q : List Nat) (i : Nat) (h : Bits q (i + 1)) (hi : i / 16 < q.length) :
 Bits (q.set (i / 16) (q.getD (i / 16) 0 + 2 ^ (i % 16))) i/\q.getD (i / 16) 0 + 2 ^ (i % 16) < 65536 := by
 have hz : q.getD (i / 16) 0 % 2 ^ (i % 16 + 1)=0 := by
  obtain ⟨h1,h2,h3⟩ := h;by_cases e : (i + 1) % 16=0
  . have e1 : (i + 1) / 16=i / 16 + 1 := by omega
    rw [e1] at h2;rw [h2 _ (by omega)]; exact Nat.zero_mod _
  . have e1 : (i + 1) / 16=i / 16 := by omega
    have e2 : (i + 1) % 16=i % 16 + 1 := by omega
    rw [e1,e2] at h3; exact h3
 have hd := dig_room _ _ (Nat.mod_lt i (by omega)) (h.1.getD (i / 16)) hz;have hdown := h.down;refine ⟨⟨?_,?_,?_⟩,hd.1⟩
 . intro d hm;rcases List.mem_or_eq_of_mem_set hm with hm | rfl
   . exact h.1 d hm
   . exact hd.1
 . intro j hj;rw [getD_set _ _ _ _ hi,if_neg (by omega)];exact hdown.2.1 j hj
 . rw [getD_set _ _ _ _ hi,if_pos rfl]; exact hd.2
theorem set_val (q : List Nat) (i : Nat) (hi : i / 16 < q.length) : val (q.set (i / 16) (q.getD (i / 16) 0 + 2 ^ (i % 16)))=val q + 2 ^ i := by
 rw [val_set _ _ _ hi]
 congr 1
 unfold pw;rw [show (65536 : Nat)=2 ^ 16 from rfl,<- Nat.pow_mul,<- Nat.pow_add]; congr 1; omega
theorem val_zero (n : Nat) : val (List.replicate n 0)=0 := by
 induction n with
 | zero => rfl
 | succ n ih => simp [List.replicate_succ,val,ih]
end Go.Big
namespace Go.Proofs.YtmiinmndbkdjbaaGreat
open Go.RowKit
end Go.Proofs.YtmiinmndbkdjbaaGreat
namespace Go.Big
theorem val_put (q : List Nat) (j y : Nat) (hj : j < q.length) : val (q.set j y) + q.getD j 0 * pw j=val q + y * pw j := by
 induction q generalizing j with
 | nil => simp at hj
 | cons d l ih =>
   cases j with
   | zero => simp [val,pw]; omega
   | succ j =>
     have := ih j (by simpa using hj);have e : (d :: l).getD (j + 1) 0=l.getD j 0 := by simp
     rw [e];simp only [List.set_cons_succ,val,pw_succ];have h1 : l.getD j 0 * (65536 * pw j)=65536 * (l.getD j 0 * pw j) := Nat.mul_left_comm _ _ _;have h2 : y * (65536 * pw j)=65536 * (y * pw j) := Nat.mul_left_comm _ _ _;rw [h1,h2];omega
theorem Dig.set {q : List Nat} (h : Dig q) (j y : Nat) (hy : y < 65536) : Dig (q.set j y) := by
 intro d hd;rcases List.mem_or_eq_of_mem_set hd with h1 | h1
 . exact h d h1
 . omega
structure MulIn (A B q : List Nat) (i k c : Nat) : Prop where
 len : q.length=A.length + B.length + 1
 dig : Dig q
 up : ∀ j,i + B.length<=j->q.getD j 0=0
 va : val q + c * pw (i + k)=val (A.take i) * val B + A.getD i 0 * val (B.take k) * pw i
 car : c < 65536
structure MulOut (A B q : List Nat) (i : Nat) : Prop where
 len : q.length=A.length + B.length + 1
 dig : Dig q
 up : ∀ j,i + B.length<=j->q.getD j 0=0
 va : val q=val (A.take i) * val B
variable {A B q : List Nat} {i k c : Nat}
theorem MulOut.start (h : MulOut A B q i) : MulIn A B q i 0 0 := ⟨h.len,h.dig,h.up,by simp [val,h.va],by omega⟩
theorem MulOut.zero (A B : List Nat) : MulOut A B (List.replicate (A.length + B.length + 1) 0) 0 := by
 refine ⟨by simp,(Bits.start _ 0).1,fun j _ => ?_,?_⟩
 . rw [List.getD_eq_getElem?_getD,List.getElem?_replicate]; split <;> rfl
 . have : ∀ n,val (List.replicate n 0)=0 := by
    intro n; induction n with
    | zero => rfl
    | succ n ih => rw [List.replicate_succ]; simp [val,ih]
   rw [this]; simp [val]
theorem mul_bd {x y z c : Nat} (hx : x < 65536) (hy : y < 65536) (hz : z < 65536) (hc : c < 65536) : x * y<=4294836225/\z + x * y + c < 4294967296 := by
 have : x * y<=65535 * 65535 := Nat.mul_le_mul (by omega) (by omega);omega
theorem MulIn.step (h : MulIn A B q i k c) (hA : Dig A) (hB : Dig B) (hi : i < A.length) (hk : k < B.length) :
 MulIn A B (q.set (i + k) ((q.getD (i + k) 0 + A.getD i 0 * B.getD k 0 + c) % 65536)) i (k + 1) ((q.getD (i + k) 0 + A.getD i 0 * B.getD k 0 + c) / 65536) := by
 have hx := hA.getD i;have hy := hB.getD k;have hz := h.dig.getD (i + k);have hlen := h.len;have hb := mul_bd hx hy hz h.car;refine ⟨by rw [List.length_set,h.len],h.dig.set _ _ (Nat.mod_lt _ (by decide)),fun j hj => ?_,?_,by omega⟩
 . rw [getD_set _ _ _ _ (by omega),if_neg (by omega)]; exact h.up j hj
 . have h1 := val_put q (i + k) ((q.getD (i + k) 0 + A.getD i 0 * B.getD k 0 + c) % 65536) (by omega);have h2 := h.va;rw [val_take_succ,<- Nat.add_assoc i k 1,pw_succ];have e : A.getD i 0 * (val (B.take k) + B.getD k 0 * pw k) * pw i=A.getD i 0 * val (B.take k) * pw i + A.getD i 0 * B.getD k 0 * pw (i + k) := by
    rw [pw_add,Nat.mul_add,Nat.add_mul]
    congr 1
    rw [<- Nat.mul_assoc (A.getD i 0),Nat.mul_assoc (A.getD i 0 * B.getD k 0),Nat.mul_comm (pw k)]
   rw [e];generalize val (q.set (i + k) ((q.getD (i + k) 0 + A.getD i 0 * B.getD k 0 + c) % 65536))=V' at *;generalize A.getD i 0 * val (B.take k) * pw i=M at *;generalize val (A.take i) * val B=L at *;generalize pw (i + k)=P at *;generalize A.getD i 0 * B.getD k 0=xy at *;generalize q.getD (i + k) 0=z at *;generalize val q=V at *;have h3 : (z + xy + c) % 65536 * P + (z + xy + c) / 65536 * (65536 * P)=(z + xy + c) * P := by
    rw [<- Nat.mul_assoc,<- Nat.add_mul]; congr 1; omega
   have h4 : (z + xy + c) * P=z * P + xy * P + c * P := by rw [Nat.add_mul,Nat.add_mul]
   omega
theorem MulIn.done (h : MulIn A B q i B.length c) (hi : i < A.length) :
 q.getD (i + B.length) 0=0/\MulOut A B (q.set (i + B.length) (q.getD (i + B.length) 0 + c)) (i + 1) := by
 have h0 := h.up (i + B.length) (Nat.le_refl _);have hlen := h.len;refine ⟨h0,by rw [List.length_set,h.len],h.dig.set _ _ (by have := h.car; omega),fun j hj => ?_,?_⟩
 . rw [getD_set _ _ _ _ (by omega),if_neg (by omega)]; exact h.up j (by omega)
 . have h1 := val_put q (i + B.length) (q.getD (i + B.length) 0 + c) (by omega);have h2 := h.va;rw [List.take_of_length_le (Nat.le_refl B.length)] at h2;rw [h0] at h1 ⊢;rw [val_take_succ,Nat.add_mul];have e : A.getD i 0 * pw i * val B=A.getD i 0 * val B * pw i := by rw [Nat.mul_assoc,Nat.mul_comm (pw i),<- Nat.mul_assoc]
   rw [e];simp only [Nat.zero_mul,Nat.add_zero,Nat.zero_add] at h1 ⊢;omega
theorem MulOut.all (h : MulOut A B q A.length) : val q=val A * val B := by rw [h.va,List.take_of_length_le (Nat.le_refl _)]
end Go.Big
namespace Go.Proofs.YtmiinmndbkdjbaaGreat
open Go.RowKit
section
theorem ret_int {k : IntKind} {a b : Int} (h : a=b) : Ending.returned (.int k a)=.returned (.int k b) := by rw [h]
def Nums (w : World) (a : Option Addr) (len cap : Nat) (l : List Nat) : Prop :=
 l.length=len/\len<=cap/\cap<=9223372036854775807/\(0 < len->∃ b o,a=some ⟨b,o,none⟩/\b < w.heap.size/\∀ i x,l[i]?=some x->w.cell? ⟨b,o + i,none⟩=some (.int .u64 (x : Nat)))
theorem Nums.below {w w' : World} {a : Option Addr} {len cap : Nat} {l : List Nat} (h : Nums w a len cap l) (hb : Below w.heap.size w w') : Nums w' a len cap l := by
 obtain ⟨h1,h2,h2',h3⟩ := h;refine ⟨h1,h2,h2',fun hl => ?_⟩;obtain ⟨b,o,ha,hlt,hc⟩ := h3 hl;exact ⟨b,o,ha,Nat.lt_of_lt_of_le hlt hb.size,fun i x hx => (hb.cell (p := ⟨b,o + i,none⟩) hlt).trans (hc i x hx)⟩
theorem Nums.take {w : World} {a : Option Addr} {len cap : Nat} {l : List Nat} (h : Nums w a len cap l) (k : Nat) (hk : k<=len) : Nums w a k cap (l.take k) := by
 obtain ⟨h1,h2,h2',h3⟩ := h;refine ⟨by simp; omega,by omega,h2',fun hl => ?_⟩;obtain ⟨b,o,ha,hlt,hc⟩ := h3 (by omega);refine ⟨b,o,ha,hlt,fun i x hx => hc i x ?_⟩;rw [List.getElem?_take] at hx
 split at hx
 . exact hx
 . cases hx
theorem Nums.at {w : World} {a : Option Addr} {len cap : Nat} {l : List Nat} (h : Nums w a len cap l) (k : Nat) (hk : k < len) : ∃ b o,a=some ⟨b,o,none⟩/\b < w.heap.size/\w.cell? ⟨b,o + k,none⟩=some (.int .u64 (l.getD k 0 : Nat)) := by
 obtain ⟨h1,h2,h2',h3⟩ := h;obtain ⟨b,o,ha,hlt,hc⟩ := h3 (by omega);refine ⟨b,o,ha,hlt,?_⟩;rw [hc k (l.getD k 0) (by rw [List.getD_eq_getElem?_getD,List.getElem?_eq_getElem (by omega)]; rfl)]
theorem trim_len (l : List Nat) : Big.trim l=l.take (Big.trim l).length := by
 unfold Big.trim;have h := List.dropWhile_suffix (fun x : Nat => x == 0) (l := l.reverse);have h2 : (l.reverse.dropWhile (· == 0)).reverse <+: l := by
  have := List.reverse_prefix.2 h
  rwa [List.reverse_reverse] at this
 exact List.prefix_iff_eq_take.1 h2
theorem trim_le (l : List Nat) : (Big.trim l).length<=l.length := by
 rw [trim_len l,List.length_take]; exact Nat.min_le_right _ _
def lenOf : Value->Nat | .slice _ n _ => n | _ => 0
theorem trim_any (a : Option Addr) (len cap : Nat) (l : List Nat) (w : World) (hl : Nums w a len cap l) :
 Calls Tryz.prog 76 #[.slice a len cap] w fun e w' => e=.returned (.slice a (Big.trim l).length cap)/\w=w' := by
 have HL := LH9 hl;have h1 := hl.1;have h2 := hl.2.1;have h3 := hl.2.2.1;have H1 := LH9 h1;clear hl h1
 go_enter Tryz.func76,Tryz.ntmps76
 go_wp2_with fail
 go_loop [0] (fun i => ∃ k : Nat,i=.slice a k cap/\k<=len/\Hid (Big.trim l=Big.trim (l.take k))) (fun i => lenOf i)
 case atStart => exact ⟨len,rfl,Nat.le_refl _,by show _=_; rw [List.take_of_length_le (by rw [H1.o]; exact Nat.le_refl _)]⟩
 case round =>
  obtain ⟨k,rfl,hk,HX⟩ := hrel
  cases k with
  | zero =>
    have FIN : Hid ((Big.trim l).length=0) := by show _=_; rw [HX.o]; rfl
    go_wp2
    go_ret;rw [FIN.o]; exact ⟨rfl,rfl⟩
  | succ j =>
    obtain ⟨b,o,rfl,hb,hc⟩ := HL.o.at j (by omega);have hj : j < l.length := by rw [H1.o]; omega
    have T0 := LH9 (Big.trim_take_succ l j hj);have T1 := LH9 (Big.trim_take_stop l j hj);clear hj;generalize l.getD j 0=x at *;by_cases hx : x=0
    . have HN : Hid (Big.trim l=Big.trim (l.take j)) := by show _=_; rw [HX.o,T0.o hx]
      subst hx
      go_wp2
      go_round
      case rel => exact ⟨j,by go_num,by omega,HN⟩
      case measure => simp [lenOf]
    . have hx2 : ((x : Int) == 0)=false := by simp [hx]
      have FIN : Hid ((Big.trim l).length=j + 1) := by
       show _=_;rw [HX.o,T1.o hx,List.length_take,H1.o]; omega
      clear hx
      go_wp2
      go_ret;rw [FIN.o]; exact ⟨rfl,rfl⟩
end
section
def cmpI (a b : List Nat) : Int := if Big.val a < Big.val b then -1 else if Big.val a=Big.val b then 0 else 1
theorem cmp_any (a : Option Addr) (len cap : Nat) (l : List Nat) (a' : Option Addr) (len' cap' : Nat) (l' : List Nat) (w : World) (hl : Nums w a len cap l) (hl' : Nums w a' len' cap' l') (hn : Big.Norm l) (hn' : Big.Norm l') :
 Calls Tryz.prog 74 #[.slice a len cap,.slice a' len' cap'] w fun e w' => e=.returned (.int .i64 (cmpI l l'))/\Below w.heap.size w w' := by
 have HR := LH9 (fun (x : Int) (h : cmpI l l'=x) => (ret_int h.symm : Ending.returned (.int .i64 x)=.returned (.int .i64 (cmpI l l'))));have h2 := hl.2.1;have h3 := hl.2.2.1;have h2' := hl'.2.1;have h3' := hl'.2.2.1;have HL := LH9 hl;have HL' := LH9 hl';rcases Nat.lt_trichotomy len len' with hlt | rfl | hlt
 . have FIN := LH9 (HR.o (-1) (by unfold cmpI; rw [if_pos (hn.length_lt_val hn' (by rw [hl.1,hl'.1]; exact hlt))]));have t1 : ((len : Int) == (len' : Int))=false := by simp; omega
   clear hl hl' hn hn'
   go_enter Tryz.func74,Tryz.ntmps74
   go_wp2
   go_ret;exact ⟨FIN.o,Below.refl _ _⟩
 . have HN := LH9 hn;have HN' := LH9 hn';have HE := LH9 (show l.length=l'.length by rw [hl.1,hl'.1]);have H1 := LH9 hl.1;clear hl hl' hn hn'
   go_enter Tryz.func74,Tryz.ntmps74
   go_wp2_with fail
   go_loopw [5] (fun i wr => ∃ k : Nat,i=.int .i64 ((k : Int) - 1)/\k<=len/\Hid (l.drop k=l'.drop k)/\Below w.heap.size w wr) (fun i _ => (intOf i + 1).toNat)
   case atStart => exact ⟨len,rfl,Nat.le_refl _,by show _=_; rw [List.drop_of_length_le (by rw [H1.o]; exact Nat.le_refl _),List.drop_of_length_le (by rw [<- HE.o,H1.o]; exact Nat.le_refl _)],Below.refl _ _⟩
   case round =>
    obtain ⟨k,rfl,hk,HX,hbel⟩ := hrel
    cases k with
    | zero =>
      have FIN := LH9 (HR.o 0 (by
       have e : l=l' := by simpa using HX.o
       unfold cmpI; rw [e,if_neg (Nat.lt_irrefl _),if_pos rfl]))
      go_wp2
      go_ret;exact ⟨FIN.o,hbel⟩
    | succ j =>
      obtain ⟨b,o,rfl,hb,hc⟩ := (HL.o.below hbel).at j (by omega);obtain ⟨b',o',rfl,hb',hc'⟩ := (HL'.o.below hbel).at j (by omega);have hj : j < l.length := by rw [H1.o]; omega
      have C1 := LH9 (Big.cmp_lt l l' j HN.o.1 HE.o hj HX.o);have C2 := LH9 (Big.cmp_lt l' l j HN'.o.1 HE.o.symm (by rw [<- HE.o]; exact hj) HX.o.symm);have hd : Hid (l.getD j 0=l'.getD j 0->l.drop j=l'.drop j) := by
       show _->_;intro h;have hj' : j < l'.length := by rw [<- HE.o]; exact hj
       rw [List.drop_eq_getElem_cons hj,List.drop_eq_getElem_cons hj',HX.o];rw [List.getD_eq_getElem?_getD,List.getD_eq_getElem?_getD,List.getElem?_eq_getElem hj,List.getElem?_eq_getElem hj'] at h;simp at h;rw [h]
      clear hj;generalize l.getD j 0=x at *;generalize l'.getD j 0=y at *;rcases Nat.lt_trichotomy x y with hxy | rfl | hxy
      . have FIN := LH9 (HR.o (-1) (by unfold cmpI; rw [if_pos (C1.o hxy)]));go_wp2_with fail;go_quiet (fail)
        go_wp2
        go_ret;exact ⟨FIN.o,below_drewN hbel _⟩
      . have HN2 := LH9 (hd.o rfl);go_wp2_with fail;go_quiet (fail);go_wp2_with fail;go_quiet (fail);go_wp2_with fail;go_roundw
        case rel => exact ⟨j,by go_num,by omega,HN2,below_drewN hbel _⟩
        case measure => simp [intOf]
      . have FIN := LH9 (HR.o 1 (by unfold cmpI; have := C2.o hxy; rw [if_neg (by omega),if_neg (by omega)]));go_wp2_with fail;go_quiet (fail);go_wp2_with fail;go_quiet (fail)
        go_wp2
        go_ret;exact ⟨FIN.o,below_drewN (below_drewN hbel _) _⟩
 . have hv := hn'.length_lt_val hn (by rw [hl.1,hl'.1]; exact hlt);have FIN := LH9 (HR.o 1 (by unfold cmpI; rw [if_neg (by omega),if_neg (by omega)]));have t1 : ((len : Int) == (len' : Int))=false := by simp; omega
   clear hl hl' hn hn' hv
   go_enter Tryz.func74,Tryz.ntmps74
   go_wp2
   go_ret;exact ⟨FIN.o,Below.refl _ _⟩
end
section
theorem infoU64 : (Tryz.prog.info? 141).map (fun i => (i.zero,i.size,i.bytes))=some (some (.int .u64 0),1,8) := by kernel_rfl
def dv (l : List Nat) : List Value := l.map (fun d => Value.int .u64 (d : Nat))
theorem dv_one (l : List Nat) : ∀ u ∈ dv l,u.oneCell'=true := by intro u h; unfold dv at h; simp at h; obtain ⟨_,_,rfl⟩ := h; rfl
theorem dv_app (a b : List Nat) : dv a ++ dv b=dv (a ++ b) := by simp [dv]
theorem own_nums {w0 w : World} {v : Value} {n : Nat} {l : List Nat} (h : Mem.Own w0 w 141 1 v n (dv l)) (hn : l.length=n) : ∃ a cap,v=.slice a n cap/\Nums w a n cap l := by
 have hmx : maxLen=9223372036854775807 := by decide
 rcases h.own.2 with ⟨rfl,rfl⟩ | ⟨g,cap,cur,rfl,h1,h2,h3,h4,h5,h6⟩
 . exact ⟨none,0,rfl,hn,by omega,by omega,fun h => absurd h (by omega)⟩
 . refine ⟨_,cap,rfl,hn,h3,by omega,fun hp => ⟨g,0,rfl,lt_of_block h2,fun i x hx => ?_⟩⟩;have hi : i < l.length := (List.getElem?_eq_some_iff.1 hx).1;rw [Nat.zero_add,h.cell i (by omega)];simp [dv,hx]
theorem digs_cells (w : World) (x : Nat) (z : Int) (hz : z=(x : Int)) : ∀ j u,(dv [x])[j]?=some u->(w.alloc (.cells #[.int .u64 z] 141)).cell? ((⟨w.heap.size,0,none⟩ : Addr).add j)=some u := by
 subst hz; exact Mem.lit_cells w #[.int .u64 (x : Int)] 141
theorem getD_end (l : List Nat) (k : Nat) (h : l.length<=k) : l.getD k 0=0 := by
 rw [List.getD_eq_getElem?_getD,List.getElem?_eq_none h]; rfl
theorem mlen : maxLen=9223372036854775807 := by decide
theorem sub_in (a : Option Addr) (len cap : Nat) (l : List Nat) (a' : Option Addr) (len' cap' : Nat) (l' : List Nat) (w : World) (hl : Nums w a len cap l) (hl' : Nums w a' len' cap' l') (hn : Big.Dig l) (hn' : Big.Dig l') (hm : len<=1000000) (hlen : len'<=len) :
 Calls Tryz.prog 75 #[.slice a len cap,.slice a' len' cap'] w fun e w' => (∃ out b cap2,e=.returned (.slice b (Big.trim out).length cap2)/\Nums w' b (Big.trim out).length cap2 (Big.trim out)/\Big.Dig out/\Hid (∃ c,c<=1/\Big.val out + Big.val l'=Big.val l + c * Big.pw len)/\out.length=len)/\Below w.heap.size w w' := by
 have h2 := hl.2.1;have h3 := hl.2.2.1;have h2' := hl'.2.1;have h3' := hl'.2.2.1;have HL := LH9 hl;have HL' := LH9 hl';have HD := LH9 hn;have HD' := LH9 hn';have H1 := LH9 hl.1;have H1' := LH9 hl'.1;have HS := LH9 (fun out i borrow hb hl hinv => Big.sub_step out l l' i borrow hb hn hn' hl hinv);clear hl hl' hn hn'
 go_enter Tryz.func75,Tryz.ntmps75
 go_wp2_with fail
 go_loopw [5,6,7] (fun v c i wr => ∃ (k b : Nat) (out : List Nat),i=.int .i64 (k : Nat)/\c=.int .u64 (b : Nat)/\k<=len/\b<=1/\Hid (Mem.Own w wr 141 1 v k (dv out))/\Hid (out.length=k)/\Hid (Big.Dig out)/\Hid (Big.val out + Big.val (l'.take k)=Big.val (l.take k) + b * Big.pw k)) (fun _ _ i _ => len - (intOf i).toNat)
 case atStart => exact ⟨0,0,[],rfl,rfl,Nat.zero_le _,by omega,Mem.Own.nil (Below.refl _ _),rfl,Big.Dig.nil,by show _=_; simp [Big.val]⟩
 case round =>
  obtain ⟨k,b,out,rfl,rfl,hk,hb,HO,HK,HG,HI⟩ := hrel;have hbel := HO.o.below;by_cases hlt : k < len
  . exact Z7_45
  . have FIN : Hid (∃ c,c<=1/\Big.val out + Big.val l'=Big.val l + c * Big.pw len) := by
     exact Z7_128
    obtain ⟨ao,co,rfl,hno⟩ := own_nums HO.o HK.o;have HNO := LH9 hno;have hke := LH9 (show k=len by omega);clear hno;go_wp2_with fail;refine (trim_any _ _ _ out _ HNO.o).mono ?_; rintro e w' ⟨rfl,rfl⟩
    go_wp2
    go_ret;refine ⟨⟨out,_,_,rfl,?_,HG.o,FIN,by rw [HK.o,hke.o]⟩,hbel⟩;exact Z7_116
end
end Go.Proofs.YtmiinmndbkdjbaaGreat
