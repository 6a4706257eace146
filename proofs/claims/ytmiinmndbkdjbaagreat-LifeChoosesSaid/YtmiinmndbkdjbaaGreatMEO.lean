/- A part of the proof: LiO, LiX, Grz, SameR, SameS, TkB, one behind another. -/
import Derived.Test.YtmiinmndbkdjbaaGreatMEA
import Derived.Test.YtmiinmndbkdjbaaGreatMEC
import Derived.Test.YtmiinmndbkdjbaaGreatMED
import Derived.Test.YtmiinmndbkdjbaaGreatMEL
import Derived.Test.YtmiinmndbkdjbaaGreatMEN
import Derived.Deep.QuietTactic
import Derived.StillTailTactics
import Derived.Tactics
import Derived.KernelRfl
import Derived.WalkKit
import Derived.Lib.Hide
set_option maxRecDepth 100000
set_option maxHeartbeats 16000000
set_option linter.unusedVariables false
set_option linter.unusedSimpArgs false
namespace Go.Proofs.YtmiinmndbkdjbaaGreat
open Go.RowKit
section
theorem wait_len {day : Int} {fx : List Fx} {t : Te} (hb : bT t=true) (hop : t.op=6\/t.op=7) (V : Vl) (f : Int) (tn : Bool) (un : List Ex) (s : RS) : LenB t.nd s (waitW (acq day fx) V t f tn un s) := by
 obtain ⟨k1,-⟩ := te_kids hb;obtain ⟨-,n2,n3⟩ := nd_kids hb;have hm : t0 t ∈ t.terms := by rw [k1 (by omega)]; exact List.mem_cons_self ..
 have ih : ∀ f s,LenB (t0 t).nd s (acq day fx (t0 t) f tn un s) := fun f s => acq_len day fx _ _ (Nat.le_refl _) (bT_kid hb hm) f tn un s
 unfold waitW
 split
 . exact LenB.refl t.nd s
 split
 . exact (ih _ { s with bad := _ }).up (by have := n2 (by omega); omega)
 split
 . exact (ih _ s).up (by have := n2 (by omega); omega)
 . exact LenB.part _ _ n3
theorem endS_len {day : Int} {fx : List Fx} (l : List Ex) (s : RS) (n : Nat) : LenB n s (endS day fx l s) := by rw [endS_eq]; exact LenB.refl n s
theorem stepP_len {day : Int} {fx : List Fx} {p : Prt} (hb : bT p.term=true) (s : RS) : LenB p.term.nd s (stepP day fx s p) := by
 obtain ⟨-,n2,n3⟩ := nd_kids hb;unfold stepP
 split
 . exact endS_len _ _ _
 split
 . rename_i h6
   exact (endS_len p.til s 0).trans (wait_len hb h6 _ _ _ _ _) (by omega)
 . exact (endS_len p.til s 0).trans (LenB.part (n := p.term.nd) _ p n3) (by omega)
theorem stepL_len {day : Int} {fx : List Fx} {l : List Prt} (hb : ∀ p ∈ l,bT p.term=true) (s : RS) : LenB (ndL l) s (stepL day fx l s) := by
 induction l generalizing s with
 | nil => exact LenB.refl _ _
 | cons p l ih => exact (stepP_len (hb p (List.mem_cons_self ..)) s).trans (ih (fun q hq => hb q (List.mem_cons_of_mem _ hq)) _) (by simp [ndL])
theorem stepL_take {day : Int} {fx : List Fx} {l : List Prt} {k : Nat} {p : Prt} (h : l[k]?=some p) (s : RS) : stepL day fx (l.take (k + 1)) s=stepP day fx (stepL day fx (l.take k) s) p := by
 rw [(ndL_take h).1]; unfold stepL; rw [List.foldl_append]; rfl
theorem partB_get {p : Prt} (h : partB p=true) : (p.term.op=5\/p.term.op=6\/p.term.op=7\/p.term.op=9)/\rT p.term=true/\fitT p.term=true/\p.til.length<=16/\(∀ e ∈ p.til,kI e=2) := by
 unfold partB lastB at h;rw [Bool.and_eq_true,Bool.and_eq_true,Bool.and_eq_true,decide_eq_true_eq,decide_eq_true_eq,decide_eq_true_eq,Bool.not_eq_true',List.any_eq_false] at h;obtain ⟨⟨⟨h1,h2⟩,h3⟩,h4⟩ := h;unfold fitC at h2
 split at h2
 . rename_i hr
   split at h2
   . rename_i hf
     exact ⟨h1,hr,hf,h3,fun e he => by have := h4 e he; simpa using this⟩
   . cases h2
 . cases h2
theorem rightP_get {l : List Prt} (h : rightP l=true) : (∀ p ∈ l,partB p=true)/\ndL l<=200 := by
 unfold rightP at h;rw [Bool.and_eq_true,decide_eq_true_eq,List.all_eq_true] at h;exact h
theorem kI_rk {e : Ex} (h : kI e=2) : e.rk<=16 := by
 unfold kI at h
 split at h
 . rename_i hr
   have e2 : rE e=(decide (e.nd<=200/\e.rk<=16) && bE e) := rfl;rw [e2,Bool.and_eq_true,decide_eq_true_eq] at hr;exact hr.1.2
 . cases h
def Shal (l : List Prt) : Prop := ∀ p ∈ l,p.term.rk < 1000/\p.til.length<=1000/\∀ e ∈ p.til,e.rk<=1000
theorem step_ok (day : Int) (fx : List Fx) (fa : Option Addr) (fl fc : Nat) (l : List Prt) (a : Option Addr) (len cap : Nat) (w : World) (hd : I64 day) (hF : SlR fxK w [] fx fa fl fc) (hS : SlR ptK w [] l a len cap) (hk : Shal l) (hlen : len<=1000) (hr : rightP l=true) (hbad : (stepL day fx l s0).bad=false) :
 Calls Tryz.prog 23 #[.slice a len cap,.agg #[.int .i64 day,.slice fa fl fc]] w fun x w' => OutS w' (stepL day fx l s0) x/\Below w.heap.size w w' := by
 have HR := LH9 (fun W (hW : Below w.heap.size w W) => rightL_any l a len cap W (hS.kept (Kept.of_below hW [])) hk hlen);rw [hr] at HR;have HRP := LH9 (rightP_get hr);have HBD := LH9 hbad;have HS0 := LH9 hS;have HSS := LH9 hF;have HL := LH9 hS.facts.1;have HD := LH9 hd;have HLN := LH9 hlen;have HB := LH9 (below_nT w (.cells #[.int .i64 day,.slice fa fl fc] 44));have B1 := LH9 (Mem.Blk.new w 44 #[.int .i64 day,.slice fa fl fc]);clear hS hF hk hlen hr hbad hd
 go_enter Tryz.func23,Tryz.ntmps23
 go_upto_region 1 with (fail);generalize w.alloc (.cells _ 44)=w2 at *;go_wp2_with fail;(with_reducible refine (HR.o _ HB.o).mono ?_);rintro y w3 ⟨rfl,b3⟩;have HB3 := bt9 HB b3;have B13 := LH9 (B1.o.below b3);clear b3 HB HR B1;obtain ⟨e0,e1,-,-⟩ := B13.o.two;go_upto_region 3 with (fail);have HJ4 := LH9 (RunJ.start (day := day) (base := w3.heap.size) (HSS.o.kept (Kept.of_below HB3.o [])) (Nat.le_refl _));have b4 := below_nT w3 (.cells #[.int .i64 day,.slice fa fl fc,.slice none 0 0,.slice none 0 0,.bool false] 86);have HB4 := bt9 HB3 b4;have HS4 : Hid (SlR ptK (w3.alloc (.cells #[.int .i64 day,.slice fa fl fc,.slice none 0 0,.slice none 0 0,.bool false] 86)) (X3 w3.heap.size (.slice none 0 0) (.slice none 0 0)) l a len cap) := by
  have h1 : SlR ptK w3 [w3.heap.size] l a len cap := (HS0.o.kept (Kept.of_below HB3.o [])).less (fun b hb hm => by rw [List.mem_singleton] at hm; omega);exact h1.kept (Kept.of_below b4 _)
 have HBS := LH9 HB3.o.size;clear b4;go_upto_region 4 with (fail);obtain ⟨rb,hrb⟩ : ∃ b,b=w3.heap.size := ⟨_,rfl⟩;generalize w3.alloc (.cells _ 86)=w4 at *;generalize w3.heap.size=rbQ at *;subst hrb;clear e0 e1 B13;go_wp2_with fail
 go_loopw [18] (fun i wr => ∃ (k : Nat) (vP vF : Value),i=.int .i64 (k : Nat)/\k<=len/\Hid (RunTo rb rb day fx fa fl fc w4 wr (.slice none 0 0) (.slice none 0 0) (stepL day fx (l.take k) s0) vP vF)) (fun i _ => len - (intOf i).toNat)
 case atStart => exact ⟨0,_,_,rfl,Nat.zero_le _,HJ4.o.to⟩
 case round =>
  rename World => wr
  obtain ⟨k,vP,vF,rfl,hk,HR9⟩ := hrel;by_cases hlt : k < len
  . have hlt' : (k : Int) < (len : Int) := by omega
    have k0 : (0 : Int)<=(k : Int) := by omega
    have k1 : (k : Int)<=1000 := by have := HLN.o; omega
    obtain ⟨b,o,p,ua,uc,op,nm,xa,xl,xc,ta,tl,tc,ha,-,-,hp,hop,hf,hU,hT,u0,u1,u2,u3,u4,u5,u6⟩ := pt_at (HR9.o.slr HS4.o) k hlt;obtain ⟨f,tn,un,t⟩ := p;dsimp only at hop hf hU hT u0 u1 u2;have hpb := partB_get (HRP.o.1 _ (List.mem_of_getElem? hp));dsimp only at hpb;obtain ⟨ho,hr,hfit,hul,huk⟩ := hpb;obtain ⟨hnd,hrk,hbt⟩ := rT_get hr;have hST := stepL_take (day := day) (fx := fx) hp s0;have hln := stepL_len (day := day) (fx := fx) (l := l.take k) (fun q hq => (rT_get (partB_get (HRP.o.1 q (List.mem_of_mem_take hq))).2.1).2.2) s0;have hnl := ndL_le l k;have h200 := HRP.o.2;have HLT := LH9 hlt;obtain ⟨S1,hS1⟩ : ∃ S,S=stepL day fx (l.take k) s0 := ⟨_,rfl⟩;rw [<- hS1] at HR9 hST hln;obtain ⟨SN,hSN⟩ : ∃ S,S=stepL day fx (l.take (k + 1)) s0 := ⟨_,rfl⟩;rw [<- hSN] at hST;have HSN := LH9 hSN;have hen := endS_len (day := day) (fx := fx) un S1 0;have HPT0 : ptK.R wr (X3 rb vP vF) ⟨f,tn,un,t⟩ [.int .i64 f,.bool tn,.slice ua un.length uc,.int .i64 op,.string nm,.slice xa xl xc,.slice ta tl tc] := ⟨ua,uc,_,rfl,hf,hU,hT⟩;have HPT := LH9 HPT0;have bn := below_nT wr (.cells #[.int .i64 f,.bool tn,.slice ua un.length uc,.int .i64 op,.string nm,.slice xa xl xc,.slice ta tl tc] 88);have BX := LH9 (Mem.Blk.new wr 88 #[.int .i64 f,.bool tn,.slice ua un.length uc,.int .i64 op,.string nm,.slice xa xl xc,.slice ta tl tc]);have HJ5 := LH9 (HR9.o.run.below bn);have HEN := LH9 (ended_any rb rb day fx fa fl fc S1 vP vF un ua un.length uc _ HD.o HJ5.o.run (hU.kept (Kept.of_below bn _)) (fun e he => by have := kI_rk (huk e he); omega) (by omega));obtain ⟨s,hs⟩ : ∃ s,s=endS day fx un S1 := ⟨_,rfl⟩;obtain ⟨EB,hEB⟩ : ∃ s,s=endB day fx un := ⟨_,rfl⟩;rw [<- hs,<- hEB] at HEN;rw [<- hs] at hen;have HST : Hid (SN=if EB=true\/s.bad=true then s else if t.op=6\/t.op=7 then waitW (acq day fx) (evalX day fx (x0 t)) t f tn un s else { s with ps := s.ps ++ [⟨f,tn,un,t⟩] }) := by
     show _=_;rw [hST,hs,hEB]; rfl
    have HSM : Hid (un.length + t.rk<=1000/\s.ps.length + t.nd<=100000/\s.fs.length + t.nd<=100000) := by
     obtain ⟨g1,g2⟩ := hln;obtain ⟨g3,g4⟩ := hen;have g5 : s0.ps.length=0 := rfl;have g6 : s0.fs.length=0 := rfl;exact ⟨by omega,by omega,by omega⟩
    have HU := LH9 hU;have HT := LH9 hT;have HFI := LH9 hf;have HBT := LH9 hbt;have HOP := LH9 hop;have HO := LH9 ho;have HA := LH9 ha;have HRB : Hid (wr.heap.size ∉ X3 rb vP vF) := fun hm => by have := HR9.o.run.lt _ hm; omega
    clear hp hop ho hr hfit hul huk hnd hrk hbt hST hln hnl h200 hlt hS1 hSN hen HPT0 bn hs hEB hU hT hf;subst ha;go_upto_region 7 with (fail);generalize wr.alloc (.cells _ 88)=w5 at *;obtain ⟨pb,hpb⟩ : ∃ b,b=wr.heap.size := ⟨_,rfl⟩;rw [<- hpb] at HRB BX;rw [show Value.pointer (some ⟨wr.heap.size,0,none⟩)=.pointer (some ⟨pb,0,none⟩) by rw [hpb]];clear hpb;clear u0 u1 u2 u3 u4 u5 u6;obtain ⟨c0,c1,c2,c3,c4,c5,c6⟩ := blk7 BX.o;go_wp2_with fail;go_at_call 48;(with_reducible refine HEN.o.mono ?_);rintro y w6 ⟨rfl,ht⟩;have HJ6 := LH9 (HJ5.o.trans ht);have BP6 := LH9 (ht.fr.blk BX.o HRB.o);clear ht HEN HJ5 BX c0 c1 c2 c3 c4 c5 c6;have q4 : w6.cell? ⟨rb,4,none⟩=some (.bool s.bad) := HJ6.o.run.cells.cell 4
    cases EB with
    | true =>
      have HE : Hid (SN=s) := HST.o.trans (if_pos (.inl rfl));exact Z7_131
    | false =>
      obtain ⟨bd,hbd⟩ : ∃ b,b=s.bad := ⟨_,rfl⟩;rw [<- hbd] at q4 HST
      cases bd with
      | true =>
        have HE : Hid (SN=s) := HST.o.trans (if_pos (.inr rfl));clear hbd;exact Z7_131
      | false =>
        have HST2 := LH9 (HST.o.trans (if_neg (by simp)));have HBF : Hid (s.bad=false) := hbd.symm;clear hbd HST;obtain ⟨c0,c1,c2,c3,c4,c5,c6⟩ := blk7 BP6.o;rcases HO.o with h5 | h6 | h7 | h9
        . obtain rfl : op=5 := HOP.o.trans h5;have HE : Hid (SN={ s with ps := s.ps ++ [⟨f,tn,un,t⟩] }) := by
           show SN=⟨s.ps ++ [⟨f,tn,un,t⟩],s.fs,s.bad⟩;rw [HBF.o]; exact HST2.o.trans (if_neg (by omega))
          clear h5;go_upto_region 9 with (fail);clear c0 c1 c2 c3 c4 c5 c6 q4;have d1 : w6.cell? ⟨rb,2,none⟩=some vP := HJ6.o.run.cells.cell 2;obtain ⟨c0,c1,c2,c3,c4,c5,c6⟩ := blk7 BP6.o;refine wp_region_any (by kernel_rfl) ?_;refine ak 0 ?_;refine any_of_till (n := 7) (S := fun W => W.cell? ⟨rb,2,none⟩=some vP/\W.cell? ⟨pb,0,none⟩=some (.int .i64 f)/\W.cell? ⟨pb,1,none⟩=some (.bool tn)/\W.cell? ⟨pb,2,none⟩=some (.slice ua un.length uc)/\W.cell? ⟨pb,3,none⟩=some (.int .i64 5)/\W.cell? ⟨pb,4,none⟩=some (.string nm)/\W.cell? ⟨pb,5,none⟩=some (.slice xa xl xc)/\W.cell? ⟨pb,6,none⟩=some (.slice ta tl tc)) _ _ _ _ ?_;refine tk 1 ⟨d1,c0,c1,c2,c3,c4,c5,c6⟩ ?_;refine tk 2 ⟨d1,c0,c1,c2,c3,c4,c5,c6⟩ ?_;refine tk 3 ⟨d1,c0,c1,c2,c3,c4,c5,c6⟩ ?_;refine tk 4 ⟨d1,c0,c1,c2,c3,c4,c5,c6⟩ ?_;refine tk 5 ⟨d1,c0,c1,c2,c3,c4,c5,c6⟩ ?_;refine t19 6 (fun K' hK=>?_);go_simp;have hbn : Below w6.heap.size w6 (w6.alloc (.cells #[.int .i64 f,.bool tn,.slice ua un.length uc,.int .i64 5,.string nm,.slice xa xl xc,.slice ta tl tc] 88)).drew := (below_nT w6 (.cells #[.int .i64 f,.bool tn,.slice ua un.length uc,.int .i64 5,.string nm,.slice xa xl xc,.slice ta tl tc] 88)).drew;have HB2 := LH9 (HJ6.o.trans (HJ6.o.run.below hbn));have BZ := LH9 (Mem.Blk.new w6 88 #[.int .i64 f,.bool tn,.slice ua un.length uc,.int .i64 5,.string nm,.slice xa xl xc,.slice ta tl tc]).drew;refine hK _ _ ⟨cu9 d1 hbn,cu9 c0 hbn,cu9 c1 hbn,cu9 c2 hbn,cu9 c3 hbn,cu9 c4 hbn,cu9 c5 hbn,cu9 c6 hbn⟩ ?_;clear hK K' hbn d1 c0 c1 c2 c3 c4 c5 c6;generalize (w6.alloc (.cells _ 88)).drew=w5 at *;generalize w6.heap.size=zz at *
          try simp only [Act.put,zp1,zp2,zp3,zp4,zp5,zp6]
          refine tl9 (fun K' hK=>?_);obtain ⟨csl,hGr⟩ := HB2.o.run.sep.at 0 rfl;have hRp := HB2.o.rep (K := ptK) HPT.o;refine step_ap infoPt Tryz.underlying35 rfl (by decide) rfl (.tmp 39) (.tmp 41) rfl rfl hGr.own hGr.room ⟨zz,0,none⟩ 1 1 [.int .i64 f,.bool tn,.slice ua un.length uc,.int .i64 5,.string nm,.slice xa xl xc,.slice ta tl tc] rfl rfl (fun m u hm => by rw [Mem.add0,BZ.o.cell]; simpa using hm) (by simp [Value.oneCell']) (by have := HSM.o; unfold maxLen; omega) (by have := HSM.o; omega) ?_;intro v' w6 og gg hv';obtain ⟨gP,capn,rfl,-,-,-,-⟩ := own_form og (by omega);have MB := (HB2.o.run.sep.push 0 rfl hGr (x := ⟨f,tn,un,t⟩) (c := [.int .i64 f,.bool tn,.slice ua un.length uc,.int .i64 5,.string nm,.slice xa xl xc,.slice ta tl tc]) (by rw [owns_famR]; exact hRp) og gg hv').blk 2 rfl;have m4 : w6.cell? ⟨rb,2,none⟩=some vP := MB.cell 2;have m5 : w6.frozen? ⟨rb,2,none⟩=false := MB.frozen 2;have HB3 := LH9 (HB2.o.trans (HB2.o.run.pushP hGr (x := ⟨f,tn,un,t⟩) (c := [.int .i64 f,.bool tn,.slice ua un.length uc,.int .i64 5,.string nm,.slice xa xl xc,.slice ta tl tc]) hRp og gg hv'));exact Z7_87
        . obtain rfl : op=6 := HOP.o.trans h6;have HE := LH9 (HST2.o.trans (if_pos (.inl h6)));have HOQ : Hid (t.op=6\/t.op=7) := .inl h6;have HT6 : Hid (RepT w6 (X3 rb vP vF) t [.int .i64 6,.string nm,.slice xa xl xc,.slice ta tl tc]) := HJ6.o.rep (K := teK) (x := t) HT.o;have HWT := LH9 (wait_any rb rb day fx fa fl fc t f tn un s vP vF ua uc _ w6 HD.o HFI.o HJ6.o.run HT6.o (HJ6.o.slr (K := exK) HU.o) HBT.o HOQ.o HSM.o.1 HSM.o.2.1 HSM.o.2.2 (acquire_any rb rb day fx fa fl fc HD.o _ (t0 t) (Nat.le_refl _) (by
           obtain ⟨g1,-⟩ := te_kids HBT.o;have hoo := HOQ.o;exact bT_kid HBT.o (by rw [g1 (by omega)]; exact List.mem_cons_self ..))))
          clear HT6 h6;exact Z7_92
        . obtain rfl : op=7 := HOP.o.trans h7;have HE := LH9 (HST2.o.trans (if_pos (.inr h7)));have HOQ : Hid (t.op=6\/t.op=7) := .inr h7;have HT6 : Hid (RepT w6 (X3 rb vP vF) t [.int .i64 7,.string nm,.slice xa xl xc,.slice ta tl tc]) := HJ6.o.rep (K := teK) (x := t) HT.o;have HWT := LH9 (wait_any rb rb day fx fa fl fc t f tn un s vP vF ua uc _ w6 HD.o HFI.o HJ6.o.run HT6.o (HJ6.o.slr (K := exK) HU.o) HBT.o HOQ.o HSM.o.1 HSM.o.2.1 HSM.o.2.2 (acquire_any rb rb day fx fa fl fc HD.o _ (t0 t) (Nat.le_refl _) (by
           obtain ⟨g1,-⟩ := te_kids HBT.o;have hoo := HOQ.o;exact bT_kid HBT.o (by rw [g1 (by omega)]; exact List.mem_cons_self ..))))
          clear HT6 h7;exact Z7_92
        . obtain rfl : op=9 := HOP.o.trans h9;have HE : Hid (SN={ s with ps := s.ps ++ [⟨f,tn,un,t⟩] }) := by
           show SN=⟨s.ps ++ [⟨f,tn,un,t⟩],s.fs,s.bad⟩;rw [HBF.o]; exact HST2.o.trans (if_neg (by omega))
          clear h9;go_upto_region 9 with (fail);clear c0 c1 c2 c3 c4 c5 c6 q4;have d1 : w6.cell? ⟨rb,2,none⟩=some vP := HJ6.o.run.cells.cell 2;obtain ⟨c0,c1,c2,c3,c4,c5,c6⟩ := blk7 BP6.o;refine wp_region_any (by kernel_rfl) ?_;refine ak 0 ?_;refine any_of_till (n := 7) (S := fun W => W.cell? ⟨rb,2,none⟩=some vP/\W.cell? ⟨pb,0,none⟩=some (.int .i64 f)/\W.cell? ⟨pb,1,none⟩=some (.bool tn)/\W.cell? ⟨pb,2,none⟩=some (.slice ua un.length uc)/\W.cell? ⟨pb,3,none⟩=some (.int .i64 9)/\W.cell? ⟨pb,4,none⟩=some (.string nm)/\W.cell? ⟨pb,5,none⟩=some (.slice xa xl xc)/\W.cell? ⟨pb,6,none⟩=some (.slice ta tl tc)) _ _ _ _ ?_;refine tk 1 ⟨d1,c0,c1,c2,c3,c4,c5,c6⟩ ?_;refine tk 2 ⟨d1,c0,c1,c2,c3,c4,c5,c6⟩ ?_;refine tk 3 ⟨d1,c0,c1,c2,c3,c4,c5,c6⟩ ?_;refine tk 4 ⟨d1,c0,c1,c2,c3,c4,c5,c6⟩ ?_;refine tk 5 ⟨d1,c0,c1,c2,c3,c4,c5,c6⟩ ?_;refine t19 6 (fun K' hK=>?_);go_simp;have hbn : Below w6.heap.size w6 (w6.alloc (.cells #[.int .i64 f,.bool tn,.slice ua un.length uc,.int .i64 9,.string nm,.slice xa xl xc,.slice ta tl tc] 88)).drew := (below_nT w6 (.cells #[.int .i64 f,.bool tn,.slice ua un.length uc,.int .i64 9,.string nm,.slice xa xl xc,.slice ta tl tc] 88)).drew;have HB2 := LH9 (HJ6.o.trans (HJ6.o.run.below hbn));have BZ := LH9 (Mem.Blk.new w6 88 #[.int .i64 f,.bool tn,.slice ua un.length uc,.int .i64 9,.string nm,.slice xa xl xc,.slice ta tl tc]).drew;refine hK _ _ ⟨cu9 d1 hbn,cu9 c0 hbn,cu9 c1 hbn,cu9 c2 hbn,cu9 c3 hbn,cu9 c4 hbn,cu9 c5 hbn,cu9 c6 hbn⟩ ?_;clear hK K' hbn d1 c0 c1 c2 c3 c4 c5 c6;generalize (w6.alloc (.cells _ 88)).drew=w5 at *;generalize w6.heap.size=zz at *
          try simp only [Act.put,zp1,zp2,zp3,zp4,zp5,zp6]
          refine tl9 (fun K' hK=>?_);obtain ⟨csl,hGr⟩ := HB2.o.run.sep.at 0 rfl;have hRp := HB2.o.rep (K := ptK) HPT.o;refine step_ap infoPt Tryz.underlying35 rfl (by decide) rfl (.tmp 39) (.tmp 41) rfl rfl hGr.own hGr.room ⟨zz,0,none⟩ 1 1 [.int .i64 f,.bool tn,.slice ua un.length uc,.int .i64 9,.string nm,.slice xa xl xc,.slice ta tl tc] rfl rfl (fun m u hm => by rw [Mem.add0,BZ.o.cell]; simpa using hm) (by simp [Value.oneCell']) (by have := HSM.o; unfold maxLen; omega) (by have := HSM.o; omega) ?_;intro v' w6 og gg hv';obtain ⟨gP,capn,rfl,-,-,-,-⟩ := own_form og (by omega);have MB := (HB2.o.run.sep.push 0 rfl hGr (x := ⟨f,tn,un,t⟩) (c := [.int .i64 f,.bool tn,.slice ua un.length uc,.int .i64 9,.string nm,.slice xa xl xc,.slice ta tl tc]) (by rw [owns_famR]; exact hRp) og gg hv').blk 2 rfl;have m4 : w6.cell? ⟨rb,2,none⟩=some vP := MB.cell 2;have m5 : w6.frozen? ⟨rb,2,none⟩=false := MB.frozen 2;have HB3 := LH9 (HB2.o.trans (HB2.o.run.pushP hGr (x := ⟨f,tn,un,t⟩) (c := [.int .i64 f,.bool tn,.slice ua un.length uc,.int .i64 9,.string nm,.slice xa xl xc,.slice ta tl tc]) hRp og gg hv'));exact Z7_87
  . have hlt' : ¬ (k : Int) < (len : Int) := by omega
    obtain rfl : k=len := by omega
    rw [List.take_of_length_le (by rw [HL.o]; omega)] at HR9;have HB6 : Hid (Below w.heap.size w wr) := HB4.o.trans (HR9.o.fr.below (B := w.heap.size) HB4.o.size (fun b hb => by
     rw [X3_nil,List.mem_singleton] at hb;have := HBS.o; omega))
    clear hlt;obtain ⟨S9,hS9⟩ : ∃ S,S=stepL day fx l s0 := ⟨_,rfl⟩;rw [<- hS9] at HR9 HBD;have HS9 := LH9 hS9;clear hS9;obtain ⟨pa,pc,qa,qc,rfl,rfl,hO1,hO2⟩ := HR9.o.run.o;have HO := LH9 (And.intro hO1 hO2);have HTL := LH9 (told_ok rb rb day fx fa fl fc S9 pa S9.ps.length pc qa S9.fs.length qc wr HR9.o.run HBD.o);clear hO1 hO2;go_wp2_with fail;go_at_call 28;(with_reducible refine HTL.o.mono ?_);rintro y w7 ⟨rfl,b7⟩;have HB7 := bt9 HB6 b7;have HFN : Hid (OutS w7 (stepL day fx l s0) (.returned (.tuple #[.slice pa S9.ps.length pc,.slice qa S9.fs.length qc,.int .i64 0]))) := by
     rw [<- HS9.o];exact ⟨pa,pc,qa,qc,rfl,HO.o.1.kept (Kept.of_below b7 _),HO.o.2.kept (Kept.of_below b7 _)⟩
    clear b7 HTL HO;go_wp2_with fail;go_ret3;exact ⟨HFN.o,HB7.o⟩
end
section
def usd : ByteArray := ⟨#[85,83,68]⟩
def eur : ByteArray := ⟨#[69,85,82]⟩
def dayX : Ex := .mk 15 0 ⟨#[]⟩ [.mk 4 0 ⟨#[]⟩ [],.mk 2 19723 ⟨#[]⟩ []]
def eurT : Te := .mk 2 eur [] []
def usdT : Te := .mk 2 usd [] []
def whenT : Te := .mk 7 ⟨#[]⟩ [dayX] [eurT]
def awkT : Te := .mk 4 ⟨#[]⟩ [] [usdT,whenT]
theorem dayX_built : bE dayX=true := by kernel_rfl
theorem eurT_built : bT eurT=true := by kernel_rfl
theorem usdT_built : bT usdT=true := by kernel_rfl
theorem whenT_built : bT whenT=true := by kernel_rfl
theorem awkT_built : bT awkT=true := by kernel_rfl
theorem dayX_right : rE dayX=true := by
 have h : rE dayX=(decide (dayX.nd<=200/\dayX.rk<=16) && bE dayX) := rfl;rw [h,dayX_built]; decide
theorem dayX_kE : kE dayX=2 := by kernel_rfl
theorem dayX_kind : kI dayX=2 := by
 have h : kI dayX=if rE dayX then kE dayX else 0 := rfl;rw [h,dayX_right,dayX_kE]; rfl
theorem dayX_0 : evalX 0 [] dayX=.tru false := by
 unfold evalX;rw [dayX_kind,if_neg (by decide)];simp [dayX,evalE_mk,evO,opV,seenV,seenF,twoV,cmpV,Vl.N]
theorem dayX_1 : evalX 19723 [] dayX=.tru true := by
 unfold evalX;rw [dayX_kind,if_neg (by decide)];simp [dayX,evalE_mk,evO,opV,seenV,seenF,twoV,cmpV,Vl.N]
theorem whenT_right : rT whenT=true := by
 have h : rT whenT=(decide (whenT.nd<=200/\whenT.rk<=16) && bT whenT) := rfl;rw [h,whenT_built]; decide
theorem awkT_right : rT awkT=true := by
 have h : rT awkT=(decide (awkT.nd<=200/\awkT.rk<=16) && bT awkT) := rfl;rw [h,awkT_built]; decide
theorem whenT_fit : fitT whenT=true := by
 have h : fitT whenT=((decide (kE dayX=2) && true) && (fitT eurT && true)) := rfl;rw [h,dayX_kE]; rfl
theorem awkT_fit : fitT awkT=true := by
 have h : fitT awkT=(fitT usdT && (fitT whenT && true)) := rfl;rw [h,whenT_fit]; rfl
theorem fitC_of {t : Te} (hr : rT t=true) (hf : fitT t=true) : fitC t=0 := by unfold fitC; rw [if_pos hr,if_pos hf]
def whenP : Prt := ⟨1,false,[],whenT⟩
theorem awk_start : acq 0 [] awkT 1 false [] s0=⟨[whenP],[⟨usd,1⟩],false⟩ := by
 rw [acq4 awkT_built rfl rfl];rw [show t0 awkT=usdT from rfl,show t1 awkT=whenT from rfl];rw [acq2 usdT_built rfl rfl (by decide)];rw [acq67 whenT_built rfl (.inr rfl)];rw [show x0 whenT=dayX from rfl,dayX_0];rw [waitW_part (by show (2 : Int) ≠ 3; decide) (fun h => absurd h (by decide)) (fun _ => rfl)]
 rfl
theorem awk_step : stepL 19723 [] [whenP] s0=⟨[],[⟨eur,1⟩],false⟩ := by
 show stepP 19723 [] s0 whenP=_;unfold stepP;have e : endS 19723 [] whenP.til s0=s0 := rfl;have e2 : endB 19723 [] whenP.til=false := rfl;rw [e,e2,if_neg (by decide),if_pos (.inr rfl)];rw [show x0 whenP.term=dayX from rfl,dayX_1,waitW_when (show whenP.term.op=7 from rfl)];rw [show t0 whenP.term=eurT from rfl,acq2 eurT_built rfl rfl (by decide)]
 rfl
theorem awk_right : rightP [whenP]=true := by
 have h : rightP [whenP]=((partB whenP && true) && decide (ndL [whenP]<=200)) := rfl;have h2 : partB whenP=(true && decide (fitC whenT=0) && true && true) := rfl;rw [h,h2,fitC_of whenT_right whenT_fit]
 decide
theorem lit2X {w : World} {x y : Ex} {c d : List Value} {cs : Array Value} {op n : Int} (hcs : cs.toList=c ++ d) (hx : RepE w [] x c) (hy : RepE w [] y d) (ho : I64 op) (hn : I64 n) :
 RepE ((w.alloc (.cells cs 74)).alloc (.cells #[.int .i64 op,.int .i64 n,.string ⟨#[]⟩,.slice (some ⟨w.heap.size,0,none⟩) 2 2] 74)) [] (.mk op n ⟨#[]⟩ [x,y]) [.int .i64 op,.int .i64 n,.string ⟨#[]⟩,.slice (some ⟨w.heap.size,0,none⟩) 2 2] /\
 Mem.Blk ((w.alloc (.cells cs 74)).alloc (.cells #[.int .i64 op,.int .i64 n,.string ⟨#[]⟩,.slice (some ⟨w.heap.size,0,none⟩) 2 2] 74)) (w.heap.size + 1) 74 #[.int .i64 op,.int .i64 n,.string ⟨#[]⟩,.slice (some ⟨w.heap.size,0,none⟩) 2 2] /\
 Below w.heap.size w ((w.alloc (.cells cs 74)).alloc (.cells #[.int .i64 op,.int .i64 n,.string ⟨#[]⟩,.slice (some ⟨w.heap.size,0,none⟩) 2 2] 74)) := by
 have h1 := Mem.Blk.new w 74 cs;have h2 := Mem.Blk.new (w.alloc (.cells cs 74)) 74 #[.int .i64 op,.int .i64 n,.string ⟨#[]⟩,.slice (some ⟨w.heap.size,0,none⟩) 2 2];have e1 : (w.alloc (.cells cs 74)).heap.size=w.heap.size + 1 := by simp
 have hb := ((Below.refl w.heap.size w).alloc (Nat.le_refl _) (.cells cs 74)).alloc (by rw [e1]; omega) (.cells #[.int .i64 op,.int .i64 n,.string ⟨#[]⟩,.slice (some ⟨w.heap.size,0,none⟩) 2 2] 74);rw [e1] at h2;exact ⟨RepE.mk' ho hn (by decide) (SlR.lit2 (K := exK) (h1.alloc _) hcs (by simp) (hx.kept (Kept.of_below hb [])) (hy.kept (Kept.of_below hb []))).slE,h2,hb⟩
theorem leafX {w : World} {X : List Nat} (op n : Int) (nm : ByteArray) (ho : I64 op) (hn : I64 n) (hs : nm.size<=9223372036854775807) : RepE w X (.mk op n nm []) [.int .i64 op,.int .i64 n,.string nm,.slice none 0 0] := RepE.mk' ho hn hs (SlE.nil _ _)
theorem oneT {w : World} {X : List Nat} (nm : ByteArray) (hs : nm.size<=9223372036854775807) : RepT w X (.mk 2 nm [] []) [.int .i64 2,.string nm,.slice none 0 0,.slice none 0 0] := RepT.mk' (by unfold I64; omega) hs (SlE.nil _ _) (SlT.nil _ _)
theorem whenLit {w : World} {x : Ex} {c0 c1 c2 c3 : Value} (hx : RepE w [] x [c0,c1,c2,c3]) (nm : ByteArray) (hs : nm.size<=9223372036854775807) :
 RepT (((w.alloc (.cells #[c0,c1,c2,c3] 74)).alloc (.cells #[.int .i64 2,.string nm,.slice none 0 0,.slice none 0 0] 41)).alloc (.cells #[.int .i64 7,.string ⟨#[]⟩,.slice (some ⟨w.heap.size,0,none⟩) 1 1,.slice (some ⟨w.heap.size + 1,0,none⟩) 1 1] 41)) [] (.mk 7 ⟨#[]⟩ [x] [.mk 2 nm [] []]) [.int .i64 7,.string ⟨#[]⟩,.slice (some ⟨w.heap.size,0,none⟩) 1 1,.slice (some ⟨w.heap.size + 1,0,none⟩) 1 1] /\
 Mem.Blk (((w.alloc (.cells #[c0,c1,c2,c3] 74)).alloc (.cells #[.int .i64 2,.string nm,.slice none 0 0,.slice none 0 0] 41)).alloc (.cells #[.int .i64 7,.string ⟨#[]⟩,.slice (some ⟨w.heap.size,0,none⟩) 1 1,.slice (some ⟨w.heap.size + 1,0,none⟩) 1 1] 41)) (w.heap.size + 1 + 1) 41 #[.int .i64 7,.string ⟨#[]⟩,.slice (some ⟨w.heap.size,0,none⟩) 1 1,.slice (some ⟨w.heap.size + 1,0,none⟩) 1 1] /\
 Below w.heap.size w (((w.alloc (.cells #[c0,c1,c2,c3] 74)).alloc (.cells #[.int .i64 2,.string nm,.slice none 0 0,.slice none 0 0] 41)).alloc (.cells #[.int .i64 7,.string ⟨#[]⟩,.slice (some ⟨w.heap.size,0,none⟩) 1 1,.slice (some ⟨w.heap.size + 1,0,none⟩) 1 1] 41)) := by
 have h1 := Mem.Blk.new w 74 #[c0,c1,c2,c3];have b1 := below_nT w (.cells #[c0,c1,c2,c3] 74);have e1 : (w.alloc (.cells #[c0,c1,c2,c3] 74)).heap.size=w.heap.size + 1 := by simp
 generalize w.alloc (.cells _ 74)=v1 at *;have h2 := Mem.Blk.new v1 41 #[.int .i64 2,.string nm,.slice none 0 0,.slice none 0 0];have b2 := below_nT v1 (.cells #[.int .i64 2,.string nm,.slice none 0 0,.slice none 0 0] 41);have e2 : (v1.alloc (.cells #[.int .i64 2,.string nm,.slice none 0 0,.slice none 0 0] 41)).heap.size=w.heap.size + 1 + 1 := by rw [<- e1]; simp
 rw [e1] at h2;generalize v1.alloc (.cells _ 41)=v2 at *;have h3 := Mem.Blk.new v2 41 #[.int .i64 7,.string ⟨#[]⟩,.slice (some ⟨w.heap.size,0,none⟩) 1 1,.slice (some ⟨w.heap.size + 1,0,none⟩) 1 1];have b3 := below_nT v2 (.cells #[.int .i64 7,.string ⟨#[]⟩,.slice (some ⟨w.heap.size,0,none⟩) 1 1,.slice (some ⟨w.heap.size + 1,0,none⟩) 1 1] 41);rw [e2] at h3;have hb : Below w.heap.size w (v2.alloc (.cells #[.int .i64 7,.string ⟨#[]⟩,.slice (some ⟨w.heap.size,0,none⟩) 1 1,.slice (some ⟨w.heap.size + 1,0,none⟩) 1 1] 41)) := (b1.trans (b2.mono b1.size)).trans (b3.mono (by rw [e2]; omega));refine ⟨RepT.mk' (by unfold I64; omega) (by decide) ?_ ?_,h3,hb⟩
 . exact (SlR.lit1 (K := exK) ((h1.below b2).below b3) (by simp) (hx.kept (Kept.of_below hb []))).slE
 . exact SlR.lit1 (K := teK) (h2.below b3) (by simp) (oneT nm hs)
theorem awake23_any (w : World) : Calls Tryz.prog 7 #[] w fun x w' => x=.returned (.bool true)/\Below w.heap.size w w' := by
 have L1 := LH9 (lit2X (w := w) (cs := #[.int .i64 4,.int .i64 0,.string ⟨#[]⟩,.slice none 0 0,.int .i64 2,.int .i64 19723,.string ⟨#[]⟩,.slice none 0 0]) (op := 15) (n := 0) rfl (leafX 4 0 ⟨#[]⟩ (by unfold I64; omega) (by unfold I64; omega) (by decide)) (leafX 2 19723 ⟨#[]⟩ (by unfold I64; omega) (by unfold I64; omega) (by decide)) (by unfold I64; omega) (by unfold I64; omega))
 go_enter Tryz.func7,Tryz.ntmps7
 go_upto_region 2 with (fail);generalize (w.alloc (.cells #[.int .i64 4,.int .i64 0,.string ⟨#[]⟩,.slice none 0 0,.int .i64 2,.int .i64 19723,.string ⟨#[]⟩,.slice none 0 0] 74)).alloc (.cells #[.int .i64 15,.int .i64 0,.string ⟨#[]⟩,.slice (some ⟨w.heap.size,0,none⟩) 2 2] 74)=v1 at *;obtain ⟨a0,a1,a2,a3,-,-,-,-⟩ := blk4 L1.o.2.1;have HR1 := LH9 L1.o.1;have HB1 := LH9 L1.o.2.2;clear L1;have L2 := LH9 (whenLit HR1.o ⟨#[69,85,82]⟩ (by decide));go_upto_region 3 with (fail);generalize ((v1.alloc (.cells #[.int .i64 15,.int .i64 0,.string ⟨#[]⟩,.slice (some ⟨w.heap.size,0,none⟩) 2 2] 74)).alloc (.cells #[.int .i64 2,.string ⟨#[69,85,82]⟩,.slice none 0 0,.slice none 0 0] 41)).alloc (.cells #[.int .i64 7,.string ⟨#[]⟩,.slice (some ⟨v1.heap.size,0,none⟩) 1 1,.slice (some ⟨v1.heap.size + 1,0,none⟩) 1 1] 41)=v2 at *;have HR2 := LH9 L2.o.1;have HB2 := LH9 (HB1.o.trans (L2.o.2.2.mono HB1.o.size));clear a0 a1 a2 a3;obtain ⟨a0,a1,a2,a3,-,-,-,-⟩ := blk4 L2.o.2.1;clear L2 HR1 HB1;generalize v1.heap.size=z1 at *;have h3 := Mem.Blk.new v2 41 #[.int .i64 2,.string ⟨#[85,83,68]⟩,.slice none 0 0,.slice none 0 0,.int .i64 7,.string ⟨#[]⟩,.slice (some ⟨z1,0,none⟩) 1 1,.slice (some ⟨z1 + 1,0,none⟩) 1 1];have b3 := below_nT v2 (.cells #[.int .i64 2,.string ⟨#[85,83,68]⟩,.slice none 0 0,.slice none 0 0,.int .i64 7,.string ⟨#[]⟩,.slice (some ⟨z1,0,none⟩) 1 1,.slice (some ⟨z1 + 1,0,none⟩) 1 1] 41);have HR3 : Hid (RepT (v2.alloc (.cells #[.int .i64 2,.string ⟨#[85,83,68]⟩,.slice none 0 0,.slice none 0 0,.int .i64 7,.string ⟨#[]⟩,.slice (some ⟨z1,0,none⟩) 1 1,.slice (some ⟨z1 + 1,0,none⟩) 1 1] 41)) [] awkT [.int .i64 4,.string ⟨#[]⟩,.slice none 0 0,.slice (some ⟨v2.heap.size,0,none⟩) 2 2]) :=
  RepT.mk' (by unfold I64; omega) (by decide) (SlE.nil _ _) (SlR.lit2 (K := teK) (x := usdT) (y := whenT) h3 rfl (by simp) (oneT _ (by decide)) (HR2.o.kept (Kept.of_below b3 [])))
 have HB3 := bt9 HB2 b3;have hst := start_ok 0 [] none 0 0 awkT _ _ (by unfold I64; omega) (SlR.nil _ _ _) HR3.o (fitC_of awkT_right awkT_fit) (by rw [awk_start]);rw [awk_start] at hst;have HST := LH9 hst;clear h3 b3 hst;go_wp2_with fail;(with_reducible refine HST.o.mono ?_);rintro y w4 ⟨hy,b4⟩;obtain ⟨pa,pc,qa,qc,rfl,hP,hQ⟩ := hy;have HB4 := bt9 HB3 b4;have hsp := step_ok 19723 [] none 0 0 [whenP] pa 1 pc w4 (by unfold I64; omega) (SlR.nil _ _ _) hP (fun p hp => by rw [List.mem_singleton] at hp; subst hp; exact ⟨by decide,by decide,fun e he => nomatch he⟩) (by omega) awk_right (by rw [awk_step]);rw [awk_step] at hsp;have HSP := LH9 hsp;have HQ := LH9 hQ;clear hsp hP hQ b4 HST HR3 HB3 HB2 HR2 a0 a1 a2 a3;go_wp2_with fail;go_at_call 23;(with_reducible refine HSP.o.mono ?_);rintro y w5 ⟨hy,b5⟩;obtain ⟨pa2,pc2,qa2,qc2,rfl,-,hQ2⟩ := hy;obtain ⟨b,o,x,rfl,hx,-,f0,f1⟩ := fl_at (HQ.o.kept (Kept.of_below b5 [])) 0 (by decide);obtain ⟨b',o',x',rfl,hx',-,g0,g1⟩ := fl_at hQ2 0 (by decide);injection hx with hx;injection hx' with hx';subst hx;subst hx';have HB5 := bt9 HB4 b5;clear HB4 HSP HQ hQ2 b5;rw [Nat.zero_mul,Nat.add_zero] at f0 f1 g0 g1;have y0 : w5.cell? ⟨b,o,none⟩=some (.string ⟨#[85,83,68]⟩) := f0;have y1 : w5.cell? ⟨b,o + 1,none⟩=some (.int .i64 1) := f1;have y2 : w5.cell? ⟨b',o',none⟩=some (.string ⟨#[69,85,82]⟩) := g0;have y3 : w5.cell? ⟨b',o' + 1,none⟩=some (.int .i64 1) := g1;clear f0 f1 g0 g1;go_wp2_with fail;go_ret;exact ⟨rfl,HB5.o⟩
end
section
theorem great23_any (day : Int) (a a' a2 : Option Addr) (len cap len' cap' len2 cap2 : Nat) (w : World) : Calls Tryz.prog 6 #[.slice a len cap,.slice a' len' cap',.agg #[.int .i64 day,.slice a2 len2 cap2]] w fun e w' => e=.returned (.bool (decide (60 < len\/60 < len'\/60 < len2)))/\Below w.heap.size w w' := by
 have HB := LH9 ((Below.refl w.heap.size w).alloc (Nat.le_refl _) (.cells #[.int .i64 day,.slice a2 len2 cap2] 26));have BX := LH9 (Mem.Blk.new w 26 #[.int .i64 day,.slice a2 len2 cap2]);by_cases h : 60 < len
 . have e : decide (60 < len\/60 < len'\/60 < len2)=true := decide_eq_true (.inl h);rw [e];have h' : (60 : Int) < (len : Int) := by omega
   exact Z7_78
 . have h' : ¬ (60 : Int) < (len : Int) := by omega
   by_cases h3 : 60 < len'
   . have e : decide (60 < len\/60 < len'\/60 < len2)=true := decide_eq_true (.inr (.inl h3));rw [e];have h3' : (60 : Int) < (len' : Int) := by omega
     exact Z7_78
   . have h3' : ¬ (60 : Int) < (len' : Int) := by omega
     by_cases h2 : 60 < len2
     . have e : decide (60 < len\/60 < len'\/60 < len2)=true := decide_eq_true (.inr (.inr h2));rw [e];have h2' : (60 : Int) < (len2 : Int) := by omega
       exact Z7_78
     . have e : decide (60 < len\/60 < len'\/60 < len2)=false := decide_eq_false (by omega);rw [e];have h2' : ¬ (60 : Int) < (len2 : Int) := by omega
       exact Z7_78
end
section
theorem rsameExpr_any : ∀ (r : Nat) (e : Ex),e.rk<=r->∀ (e2 : Ex) (cs cs2 : List Value) (w : World),RepE w [] e cs->RepE w [] e2 cs2 ->
 Calls Tryz.prog 34 #[.agg cs.toArray,.agg cs2.toArray] w fun x w' => x=.returned (.bool (eqv e e2))/\Below w.heap.size w w' := by
 intro r
 induction r with
 | zero => intro e h; have : 1<=e.rk := by cases e; simp only [Ex.rk]; omega
           omega
 | succ r ih =>
   intro e hr e2 cs cs2 w hR hR2;obtain ⟨op,n,nm,args,a,len,cap,rfl,rfl,i1,i2,i3,hS⟩ := hR.inv;obtain ⟨op2,n2,nm2,args2,a2,len2,cap2,rfl,rfl,i12,i22,i32,hS2⟩ := hR2.inv;have HI : Hid (∀ (k : Nat) e1 e1' cs1 cs1' W,args[k]?=some e1->RepE W [] e1 cs1->RepE W [] e1' cs1'->Calls Tryz.prog 34 #[.agg cs1.toArray,.agg cs1'.toArray] W fun x w' => x=.returned (.bool (eqv e1 e1'))/\Below W.heap.size W w') := by
    intro k e1 e1' cs1 cs1' W hk hR1 hR1';exact ih e1 (by have := Ex.rk_lt (op := op) (n := n) (nm := nm) hk; omega) e1' cs1 cs1' W hR1 hR1'
   have HF : Hid (∀ x,eqv (Ex.mk op n nm args) (Ex.mk op2 n2 nm2 args2)=x->Ending.returned (.bool x)=.returned (.bool (eqv (Ex.mk op n nm args) (Ex.mk op2 n2 nm2 args2)))) := fun x h => by rw [h]
   have HE : Hid (op=op2->n=n2->nm=nm2->eqv (Ex.mk op n nm args) (Ex.mk op2 n2 nm2 args2)=eqv args args2) := by
    intro h1 h2 h3; subst h1 h2 h3;by_cases h : args=args2
    . rw [eqv_yes h,eqv_yes (by rw [h])]
    . rw [eqv_no h,eqv_no (fun hh => h (by injection hh))]
   have HS := LH9 hS;have HS2 := LH9 hS2;obtain ⟨f1,f2,f3⟩ := hS.facts;obtain ⟨f4,f5,f6⟩ := hS2.facts;have HL := LH9 f1;have HL2 := LH9 f4;have HW0 := LH9 (((Below.refl w.heap.size w).alloc (Nat.le_refl _) (.cells #[.int .i64 op,.int .i64 n,.string nm,.slice a len cap] 74)).alloc (by simp) (.cells #[.int .i64 op2,.int .i64 n2,.string nm2,.slice a2 len2 cap2] 74));clear ih hr hR hR2 hS hS2 i1 i2 i12 i22 f1 f4;by_cases ho : op=op2
   case neg =>
    have F := LH9 (HF.o false (eqv_no (fun h => ho (by injection h))));have t1 : (op != op2)=true := by simp [ho]
    clear ho
    go_enter Tryz.func34,Tryz.ntmps34
    go_wp2
    go_ret;exact ⟨F.o,HW0.o⟩
   by_cases hn : n=n2
   case neg =>
    have F := LH9 (HF.o false (eqv_no (fun h => hn (by injection h))));have t1 : (n != n2)=true := by simp [hn]
    subst ho;clear hn
    go_enter Tryz.func34,Tryz.ntmps34
    go_wp2
    go_ret;exact ⟨F.o,HW0.o⟩
   by_cases hm : nm=nm2
   case neg =>
    have F := LH9 (HF.o false (eqv_no (fun h => hm (by injection h))));have t1 : (nm.toList == nm2.toList)=false := tl_ne hm;have t2 : (nm.toList != nm2.toList)=true := by rw [bne,t1]; rfl
    subst ho hn;clear hm
    go_enter Tryz.func34,Tryz.ntmps34
    go_wp2
    go_ret;exact ⟨F.o,HW0.o⟩
   have E := LH9 (HE.o ho hn hm);subst ho hn hm;have F : Hid (∀ b,eqv args args2=b->Ending.returned (.bool b)=.returned (.bool (eqv (Ex.mk op n nm args) (Ex.mk op n nm args2)))) := fun b hb => by rw [E.o,hb]
   clear HE HF E;generalize eqv (Ex.mk op n nm args) (Ex.mk op n nm args2)=R at *;by_cases hl : len=len2
   case neg =>
    have F := LH9 (F.o false (eqv_no (fun h => hl (by rw [<- HL.o,<- HL2.o,h]))));have t1 : ((len : Int) != (len2 : Int))=true := by rw [bne_iff_ne]; omega
    clear hl
    go_enter Tryz.func34,Tryz.ntmps34
    go_wp2
    go_ret;exact ⟨F.o,HW0.o⟩
   subst hl;have BX := LH9 ((Mem.Blk.new w 74 #[.int .i64 op,.int .i64 n,.string nm,.slice a len cap]).alloc (.cells #[.int .i64 op,.int .i64 n,.string nm,.slice a2 len cap2] 74));have BY := LH9 (Mem.Blk.new (w.alloc (.cells #[.int .i64 op,.int .i64 n,.string nm,.slice a len cap] 74)) 74 #[.int .i64 op,.int .i64 n,.string nm,.slice a2 len cap2]);rw [show (w.alloc (.cells #[.int .i64 op,.int .i64 n,.string nm,.slice a len cap] 74)).heap.size=w.heap.size + 1 by simp] at BY
   go_enter Tryz.func34,Tryz.ntmps34
   go_wp2_with fail
   go_loopw [5] (fun i wr => ∃ k : Nat,i=.int .i64 (k : Nat)/\k<=len/\Hid (Below w.heap.size w wr)/\Hid (Mem.Blk wr w.heap.size 74 #[.int .i64 op,.int .i64 n,.string nm,.slice a len cap])/\Hid (Mem.Blk wr (w.heap.size + 1) 74 #[.int .i64 op,.int .i64 n,.string nm,.slice a2 len cap2])/\Hid (∀ (j : Nat) x,j < k->args[j]?=some x->args2[j]?=some x)) (fun i _ => len - (intOf i).toNat)
   case atStart => exact ⟨0,rfl,Nat.zero_le _,HW0.o,BX.o,BY.o,fun j y hj => absurd hj (Nat.not_lt_zero _)⟩
   case round =>
    clear BX BY HW0;obtain ⟨k,rfl,hk,HW,HX,HY,HN⟩ := hrel;have x3 : wr.cell? ⟨w.heap.size,3,none⟩=some (.slice a len cap) := HX.o.cell 3;have y3 : wr.cell? ⟨w.heap.size + 1,3,none⟩=some (.slice a2 len cap2) := HY.o.cell 3;by_cases hlt : k < len
    . obtain ⟨b,o,op',n',nm',args',a',len',cap',rfl,hb,hbx,hle,j1,j2,j3,hS',g0,g1,g2,g3⟩ := (HS.o.kept (Kept.of_below HW.o [])).at k hlt;obtain ⟨b4,o4,op4,n4,nm4,args4,a4,len4,cap4,rfl,hb4,hbx4,hle4,j41,j42,j43,hS4,g40,g41,g42,g43⟩ := (HS2.o.kept (Kept.of_below HW.o [])).at k hlt;have HC := LH9 (fun W hW => HI.o k _ (Ex.mk op4 n4 nm4 args4) _ [.int .i64 op4,.int .i64 n4,.string nm4,.slice a4 len4 cap4] W hle (RepE.mk' j1 j2 j3 (hS'.kept hW)) (RepE.mk' j41 j42 j43 (hS4.kept hW)));have HK : Hid (Kept [] wr wr.drew) := ⟨Nat.le_refl _,fun _ _ _ => rfl⟩;have HWD := LH9 HW.o.drew;have HXD := LH9 HX.o.drew;have HYD := LH9 HY.o.drew;have HLE := LH9 hle;have HLE4 := LH9 hle4;have hidx : (0 : Int)<=(k : Int) := by omega
      have hidx2 : (k : Int) < (len : Int) := by omega
      clear hle hle4 hS' hS4;generalize Ex.mk op' n' nm' args'=e' at *;generalize Ex.mk op4 n4 nm4 args4=e4 at *;by_cases hp : e'=e4
      . have HN2 : Hid (∀ (j : Nat) x,j < k + 1->args[j]?=some x->args2[j]?=some x) := by
         exact Z7_133
        exact Z7_95
      . have F := LH9 (F.o false (eqv_no (list_ne HLE.o HLE4.o hp)));exact Z7_84
    . have F := LH9 (F.o true (eqv_yes (list_eq_of (by rw [HL.o,HL2.o]) (fun j x hj hx => HN.o j x (by rw [HL.o] at hj; omega) hx))))
      go_wp2
      go_ret;exact ⟨F.o,HW.o⟩
end
section
theorem rsame_any : ∀ (r : Nat) (e : Te),e.rk<=r->∀ (e2 : Te) (cs cs2 : List Value) (w : World),RepT w [] e cs->RepT w [] e2 cs2 ->
 Calls Tryz.prog 33 #[.agg cs.toArray,.agg cs2.toArray] w fun x w' => x=.returned (.bool (eqv e e2))/\Below w.heap.size w w' := by
 intro r
 induction r with
 | zero => intro e h; have := e.rk_pos'; omega
 | succ r ih =>
   intro e hr e2 cs cs2 w hR hR2;obtain ⟨op,nm,ex,te,a,len,cap,b,ben,bap,rfl,rfl,i1,i3,hS,hB⟩ := hR.inv;obtain ⟨op2,nm2,ex2,te2,a2,len2,cap2,b2,ben2,bap2,rfl,rfl,i12,i32,hS2,hB2⟩ := hR2.inv;have HI : Hid (∀ (k : Nat) e1 e1' cs1 cs1' W,te[k]?=some e1->RepT W [] e1 cs1->RepT W [] e1' cs1'->Calls Tryz.prog 33 #[.agg cs1.toArray,.agg cs1'.toArray] W fun x w' => x=.returned (.bool (eqv e1 e1'))/\Below W.heap.size W w') := by
    intro k e1 e1' cs1 cs1' W hk hR1 hR1';exact ih e1 (by have := Te.rk_lt (op := op) (nm := nm) (x := ex) hk; omega) e1' cs1 cs1' W hR1 hR1'
   have HF : Hid (∀ x,eqv (Te.mk op nm ex te) (Te.mk op2 nm2 ex2 te2)=x->Ending.returned (.bool x)=.returned (.bool (eqv (Te.mk op nm ex te) (Te.mk op2 nm2 ex2 te2)))) := fun x h => by rw [h]
   have HS := LH9 hS;have HS2 := LH9 hS2;have HB := LH9 hB;have HB2 := LH9 hB2;obtain ⟨f1,f2,f3⟩ := hS.facts;obtain ⟨f4,f5,f6⟩ := hS2.facts;obtain ⟨f1',f2',f3'⟩ := hB.facts;obtain ⟨f4',f5',f6'⟩ := hB2.facts;have HL := LH9 f1;have HL2 := LH9 f4;have HM := LH9 f1';have HM2 := LH9 f4';have HW0 := LH9 (((Below.refl w.heap.size w).alloc (Nat.le_refl _) (.cells #[.int .i64 op,.string nm,.slice a len cap,.slice b ben bap] 41)).alloc (by simp) (.cells #[.int .i64 op2,.string nm2,.slice a2 len2 cap2,.slice b2 ben2 bap2] 41));have BX := LH9 ((Mem.Blk.new w 41 #[.int .i64 op,.string nm,.slice a len cap,.slice b ben bap]).alloc (.cells #[.int .i64 op2,.string nm2,.slice a2 len2 cap2,.slice b2 ben2 bap2] 41));have BY := LH9 (Mem.Blk.new (w.alloc (.cells #[.int .i64 op,.string nm,.slice a len cap,.slice b ben bap] 41)) 41 #[.int .i64 op2,.string nm2,.slice a2 len2 cap2,.slice b2 ben2 bap2]);rw [show (w.alloc (.cells #[.int .i64 op,.string nm,.slice a len cap,.slice b ben bap] 41)).heap.size=w.heap.size + 1 by simp] at BY;clear ih hr hR hR2 hS hS2 hB hB2 i1 i12 f1 f4 f1' f4';by_cases ho : op=op2
   case neg =>
    have F := LH9 (HF.o false (eqv_no (fun h => ho (by injection h))));have t1 : (op != op2)=true := by simp [ho]
    clear ho
    go_enter Tryz.func33,Tryz.ntmps33
    go_wp2
    go_ret;exact ⟨F.o,HW0.o⟩
   by_cases hm : nm=nm2
   case neg =>
    have F := LH9 (HF.o false (eqv_no (fun h => hm (by injection h))));have t1 : (nm.toList == nm2.toList)=false := tl_ne hm;have t2 : (nm.toList != nm2.toList)=true := by rw [bne,t1]; rfl
    subst ho;clear hm
    go_enter Tryz.func33,Tryz.ntmps33
    go_wp2
    go_ret;exact ⟨F.o,HW0.o⟩
   subst ho hm;have F : Hid (∀ x,(eqv ex ex2 && eqv te te2)=x->Ending.returned (.bool x)=.returned (.bool (eqv (Te.mk op nm ex te) (Te.mk op nm ex2 te2)))) := fun x hx => by rw [eqT,hx]
   clear HF;generalize eqv (Te.mk op nm ex te) (Te.mk op nm ex2 te2)=R at *;by_cases hl : len=len2
   case neg =>
    have F := LH9 (F.o false (by rw [eqv_no (fun h => hl (by rw [<- HL.o,<- HL2.o,h]))]; rfl));have t1 : ((len : Int) != (len2 : Int))=true := by rw [bne_iff_ne]; omega
    clear hl
    go_enter Tryz.func33,Tryz.ntmps33
    go_wp2
    go_ret;exact ⟨F.o,HW0.o⟩
   by_cases hl2 : ben=ben2
   case neg =>
    have F := LH9 (F.o false (by rw [eqv_no (a := te) (fun h => hl2 (by rw [<- HM.o,<- HM2.o,h]))]; simp));have t1 : ((ben : Int) != (ben2 : Int))=true := by rw [bne_iff_ne]; omega
    subst hl;clear hl2
    go_enter Tryz.func33,Tryz.ntmps33
    go_wp2
    go_ret;exact ⟨F.o,HW0.o⟩
   subst hl hl2
   go_enter Tryz.func33,Tryz.ntmps33
   go_wp2_with fail
   go_loopw [5] (fun i wr => ∃ k : Nat,i=.int .i64 (k : Nat)/\k<=len/\Hid (Below w.heap.size w wr)/\Hid (Mem.Blk wr w.heap.size 41 #[.int .i64 op,.string nm,.slice a len cap,.slice b ben bap])/\Hid (Mem.Blk wr (w.heap.size + 1) 41 #[.int .i64 op,.string nm,.slice a2 len cap2,.slice b2 ben bap2])/\Hid (∀ (j : Nat) x,j < k->ex[j]?=some x->ex2[j]?=some x)) (fun i _ => len - (intOf i).toNat)
   case atStart => exact ⟨0,rfl,Nat.zero_le _,HW0.o,BX.o,BY.o,fun j y hj => absurd hj (Nat.not_lt_zero _)⟩
   case round =>
    clear BX BY HW0;obtain ⟨k,rfl,hk,HW,HX,HY,HN⟩ := hrel;have x2 : wr.cell? ⟨w.heap.size,2,none⟩=some (.slice a len cap) := HX.o.cell 2;have y2 : wr.cell? ⟨w.heap.size + 1,2,none⟩=some (.slice a2 len cap2) := HY.o.cell 2;by_cases hlt : k < len
    . obtain ⟨bb,o,op',n',nm',args',a',len',cap',rfl,hb,hbx,hle,j1,j2,j3,hS',g0,g1,g2,g3⟩ := (HS.o.kept (Kept.of_below HW.o [])).at k hlt;obtain ⟨b4,o4,op4,n4,nm4,args4,a4,len4,cap4,rfl,hb4,hbx4,hle4,j41,j42,j43,hS4,g40,g41,g42,g43⟩ := (HS2.o.kept (Kept.of_below HW.o [])).at k hlt;have HC := LH9 (fun W hW => rsameExpr_any (Ex.mk op' n' nm' args').rk (Ex.mk op' n' nm' args') (Nat.le_refl _) (Ex.mk op4 n4 nm4 args4) _ [.int .i64 op4,.int .i64 n4,.string nm4,.slice a4 len4 cap4] W (RepE.mk' j1 j2 j3 (hS'.kept hW)) (RepE.mk' j41 j42 j43 (hS4.kept hW)));have HK : Hid (Kept [] wr wr.drew) := ⟨Nat.le_refl _,fun _ _ _ => rfl⟩;have HWD := LH9 HW.o.drew;have HXD := LH9 HX.o.drew;have HYD := LH9 HY.o.drew;have HLE := LH9 hle;have HLE4 := LH9 hle4;have hidx : (0 : Int)<=(k : Int) := by omega
      have hidx2 : (k : Int) < (len : Int) := by omega
      clear hle hle4 hS' hS4;generalize Ex.mk op' n' nm' args'=e' at *;generalize Ex.mk op4 n4 nm4 args4=e4 at *;by_cases hp : e'=e4
      . have HN2 : Hid (∀ (j : Nat) x,j < k + 1->ex[j]?=some x->ex2[j]?=some x) := by
         exact Z7_133
        exact Z7_95
      . have F := LH9 (F.o false (by rw [eqv_no (list_ne HLE.o HLE4.o hp)]; rfl));exact Z7_84
    . have F3 : Hid (∀ x,eqv te te2=x->Ending.returned (.bool x)=.returned (.bool R)) := fun x hx => F.o x (by rw [eqv_yes (list_eq_of (by rw [HL.o,HL2.o]) (fun j x hj hx => HN.o j x (by rw [HL.o] at hj; omega) hx)),hx]; rfl)
      have W2 := HW;have X2 := HX;have Y2 := HY;clear HW HX HY HN F HS HS2 HL HL2;go_wp2_with fail;clear x2 y2
      go_loopw [6] (fun i wr => ∃ k : Nat,i=.int .i64 (k : Nat)/\k<=ben/\Hid (Below w.heap.size w wr)/\Hid (Mem.Blk wr w.heap.size 41 #[.int .i64 op,.string nm,.slice a len cap,.slice b ben bap])/\Hid (Mem.Blk wr (w.heap.size + 1) 41 #[.int .i64 op,.string nm,.slice a2 len cap2,.slice b2 ben bap2])/\Hid (∀ (j : Nat) x,j < k->te[j]?=some x->te2[j]?=some x)) (fun i _ => ben - (intOf i).toNat)
      case atStart => exact ⟨0,rfl,Nat.zero_le _,W2.o,X2.o,Y2.o,fun j y hj => absurd hj (Nat.not_lt_zero _)⟩
      case round =>
       clear X2 Y2 W2;obtain ⟨k2,rfl,hk2,HW,HX,HY,HN⟩ := hrel;have x3 : wr.cell? ⟨w.heap.size,3,none⟩=some (.slice b ben bap) := HX.o.cell 3;have y3 : wr.cell? ⟨w.heap.size + 1,3,none⟩=some (.slice b2 ben bap2) := HY.o.cell 3;by_cases hlt2 : k2 < ben
       . obtain ⟨bb,o,op',nm',ex',te',a',len',cap',a3,len3,cap3,rfl,hb,hbx,hle,j1,j3,hS',hS3,g0,g1,g2,g3⟩ := (HB.o.kept (Kept.of_below HW.o [])).at k2 hlt2;obtain ⟨b4,o4,op4,nm4,ex4,te4,a4,len4,cap4,a5,len5,cap5,rfl,hb4,hbx4,hle4,j41,j43,hS4,hS5,g40,g41,g42,g43⟩ := (HB2.o.kept (Kept.of_below HW.o [])).at k2 hlt2;have HC := LH9 (fun W hW => HI.o k2 _ (Te.mk op4 nm4 ex4 te4) _ [.int .i64 op4,.string nm4,.slice a4 len4 cap4,.slice a5 len5 cap5] W hle (RepT.mk' j1 j3 (hS'.kept hW) (hS3.kept hW)) (RepT.mk' j41 j43 (hS4.kept hW) (hS5.kept hW)));have HK : Hid (Kept [] wr wr.drew) := ⟨Nat.le_refl _,fun _ _ _ => rfl⟩;have HWD := LH9 HW.o.drew;have HXD := LH9 HX.o.drew;have HYD := LH9 HY.o.drew;have HLE := LH9 hle;have HLE4 := LH9 hle4;have hidx : (0 : Int)<=(k2 : Int) := by omega
         have hidx2 : (k2 : Int) < (ben : Int) := by omega
         clear hle hle4 hS' hS4 hS3 hS5;generalize Te.mk op' nm' ex' te'=e' at *;generalize Te.mk op4 nm4 ex4 te4=e4 at *;by_cases hp : e'=e4
         . have HN2 : Hid (∀ (j : Nat) x,j < k2 + 1->te[j]?=some x->te2[j]?=some x) := by
            intro j y hj hy;rcases Nat.lt_or_ge j k2 with h | h
            . exact HN.o j y h hy
            . obtain rfl : j=k2 := by omega
              rw [HLE.o] at hy; injection hy with hy; subst hy; rw [HLE4.o,hp]
           rw [eqv_yes hp] at HC;clear hp;go_wp2_with fail
           go_still_tail 10,(by kernel_rfl)
           change wpList _ _ _ _ _ wr.drew;go_wp2_with fail;refine (HC.o _ HK.o).mono ?_; rintro r w1 ⟨rfl,b1⟩
           go_wp2
           go_roundw
           case rel => exact ⟨k2 + 1,by go_num,by omega,HWD.o.trans (b1.mono HWD.o.size),HXD.o.below b1,HYD.o.below b1,HN2⟩
           case measure => simp [intOf]; omega
         . have F := LH9 (F3.o false (eqv_no (list_ne HLE.o HLE4.o hp)));exact Z7_84
       . have F := LH9 (F3.o true (eqv_yes (list_eq_of (by rw [HM.o,HM2.o]) (fun j x hj hx => HN.o j x (by rw [HM.o] at hj; omega) hx))))
         go_wp2
         go_ret;exact ⟨F.o,HW.o⟩
end
section
open Go Go.RowKit
theorem wp_region_tillL {P : Program} {ops : Array Oper} {Q : Exit->Act->World->Prop} {S : World->Prop} {id : Nat} {a : Act} {w : World} (n : Nat) (hm : P.follows .mixedOrders=true)
 (hp : ∀ c (a : Act) d v w,Q (.panic c) (a.put (some d) v) w->Q (.panic c) a w) (h : ∀ Q' : Exit->Act->World->Prop,Hid (∀ c (a : Act) d v w,Q' (.panic c) (a.put (some d) v) w->Q' (.panic c) a w)->Hid (Q'=Q)->Till P .any ops Q' S n ops.size (Array.replicate ops.size false) a w.drew) : (Code.region id ops true).wp P Q a w := wp_region_till n hm (h Q hp rfl)
variable {P : Program} {ops : Array Oper} {Q : Exit->Act->World->Prop} {md : Region.Mode} {S : World->Prop} {n : Nat} {l : Array Bool}
theorem hq2 {d : Tmp} {v : Value} (H : Hid (∀ c (a : Act) d v w,Q (.panic c) (a.put (some d) v) w->Q (.panic c) a w)) : ∀ c a w,Q (.panic c) (a.put (some d) v) w->Q (.panic c) a w := fun c a w h => H.o c a d v w h
theorem put_list (tl : List Value) (df : List Deferred) (d : Tmp) (v : Value) : (Act.mk tl.toArray df).put (some d) v=⟨(tl.set d v).toArray,df⟩ := by simp [Act.put]
theorem tk2 (i : Nat) {oi : Oper} {d : Tmp} {v : Value} {fuel : Nat} {tl tl' : List Value} {df : List Deferred} {w : World}
 (hS : S w) (h : Till P md ops Q S n fuel (l.setIfInBounds i true) ⟨tl'.toArray,df⟩ w)
 (hi : ops[i]?=some oi := by rfl) (hb : takeB md ops n l i=true := by kernel_rfl) (hd : oi.dst=some d := by rfl) (hw : Region.wanted oi (yielded ops tl.toArray)=true := by rfl)
 (hy : ∀ w,S w->(execOp (Act.eval ⟨tl.toArray,df⟩) oi).run P w=.ok (.value v) w := by (intro W hS; (try dsimp only at hS); go_split_ands; go_simp; (try with_reducible rfl)))
 (hl : tl.set d v=tl' := by (dsimp only [List.set_cons_zero,List.set_cons_succ]; (try rfl)))
 (hQ : ∀ c a w,Q (.panic c) (a.put (some d) v) w->Q (.panic c) a w := by exact fun _ _ _ h => h) : Till P md ops Q S n (fuel + 1) l ⟨tl.toArray,df⟩ w :=
 till_take hi hb (by rw [hd]; exact hQ) (Or.inl ⟨hw,hy⟩) hS (by rw [hd,put_list,hl]; exact h)
theorem ak2 (i : Nat) {oi : Oper} {d : Tmp} {v : Value} {fuel : Nat} {tl tl' : List Value} {df : List Deferred} {w : World}
 (h : wpAny P md ops Q fuel (l.setIfInBounds i true) ⟨tl'.toArray,df⟩ w)
 (hi : ops[i]?=some oi := by rfl) (hb : anyB md ops l i=true := by kernel_rfl) (hd : oi.dst=some d := by rfl) (hw : Region.wanted oi (yielded ops tl.toArray)=true := by rfl)
 (hy : ∀ w,(execOp (Act.eval ⟨tl.toArray,df⟩) oi).run P w=.ok (.value v) w := by (intro W; go_simp; (try with_reducible rfl)))
 (hl : tl.set d v=tl' := by (dsimp only [List.set_cons_zero,List.set_cons_succ]; (try rfl)))
 (hQ : ∀ c a w,Q (.panic c) (a.put (some d) v) w->Q (.panic c) a w := by exact fun _ _ _ h => h) : wpAny P md ops Q (fuel + 1) l ⟨tl.toArray,df⟩ w :=
 any_take hi hb (by rw [hd]; exact hQ) (Or.inl ⟨hw,hy⟩) (by rw [hd,put_list,hl]; exact h)
end
end Go.Proofs.YtmiinmndbkdjbaaGreat
