/- A part of the proof: RefT, TreeR, Knd, one behind another. -/
import Derived.Test.YtmiinmndbkdjbaaGreatMEA
import Derived.Test.YtmiinmndbkdjbaaGreatMEB
import Derived.Test.YtmiinmndbkdjbaaGreatMED
import Derived.Test.YtmiinmndbkdjbaaGreatMEE
import Derived.RegionTactic
import Derived.BigRegion
import Derived.Lib.Hide
import Derived.WalkKit
set_option maxRecDepth 100000
set_option maxHeartbeats 16000000
set_option linter.unusedVariables false
set_option linter.unusedSimpArgs false
namespace Go.Proofs.YtmiinmndbkdjbaaGreat
open Go.RowKit
section
theorem bT_all (l : List Te) (h : ∀ (j : Nat) y,l[j]?=some y->bT y=true) : bT.go l=true := by
 rw [bT_go];have : (l.any fun e => !bT e)=false := by
  exact Z7_156
 rw [this]; rfl
theorem bT_not (l : List Te) (k : Nat) (y : Te) (h : l[k]?=some y) (hy : bT y=false) : bT.go l=false := by
 rw [bT_go];have : (l.any fun e => !bT e)=true := by
  rw [List.any_eq_true]; exact ⟨y,List.mem_of_getElem? h,by rw [hy]; rfl⟩
 rw [this]; rfl
theorem rbuilt_any : ∀ (r : Nat) (e : Te),e.rk<=r->∀ (cs : List Value) (w : World),RepT w [] e cs ->
 Calls Tryz.prog 29 #[.agg cs.toArray] w fun x w' => x=.returned (.bool (bT e))/\Below w.heap.size w w' := by
 intro r
 induction r with
 | zero => intro e h; have := e.rk_pos; omega
 | succ r ih =>
   intro e hr cs w hR;obtain ⟨op,nm,exprs,terms,a,len,cap,a2,len2,cap2,rfl,rfl,i1,i3,hS,hS2⟩ := hR.inv;obtain ⟨f1,f2,f3⟩ := hS.facts;obtain ⟨f4,f5,f6⟩ := hS2.facts;have HS := LH9 hS;have HS2 := LH9 hS2;have HW0 := LH9 ((Below.refl w.heap.size w).alloc (Nat.le_refl _) (.cells #[.int .i64 op,.string nm,.slice a len cap,.slice a2 len2 cap2] 41));have BX := LH9 (Mem.Blk.new w 41 #[.int .i64 op,.string nm,.slice a len cap,.slice a2 len2 cap2]);have HI : Hid (∀ (k : Nat) e' cs' W,terms[k]?=some e'->RepT W [] e' cs'->Calls Tryz.prog 29 #[.agg cs'.toArray] W fun x w' => x=.returned (.bool (bT e'))/\Below W.heap.size W w') := by
    intro k e' cs' W hk hR';exact ih e' (by have := Te.rk_lt (op := op) (nm := nm) (x := exprs) hk; omega) cs' W hR'
   have HFR := LH9 (fun W => rfree_any nm W i3);have HL := LH9 f1;have HL2 := LH9 f4;have HB := LH9 (show bT (.mk op nm exprs terms)=((arX op == (len : Nat)) && (arT op == (len2 : Nat)) && (!(op == 2 && !fre nm) && !(op != 2 && !nm.toList.isEmpty)) && bE.go exprs && bT.go terms) by rw [bE_go,<- f1,<- f4]; rfl);have HT := LH9 (bE_all exprs);have HN := LH9 (bE_not exprs);have HT2 := LH9 (bT_all terms);have HN2 := LH9 (bT_not terms);have HF : Hid (∀ x,bT (.mk op nm exprs terms)=x->Ending.returned (.bool x)=.returned (.bool (bT (.mk op nm exprs terms)))) := fun x h => by rw [h]
   generalize bT (.mk op nm exprs terms)=R at *;generalize bE.go exprs=C at *;generalize bT.go terms=D at *;generalize fre nm=FR at *;clear ih hr hR hS hS2 f1 f4 i1;by_cases hlo : op < 1
   . exact Z7_89
   by_cases hhi : 9 < op
   . exact Z7_89
   by_cases o2 : op=2
   . subst o2;have HX : Hid (arX 2=0) := by show _=_; unfold arX; first | decide | (rw [if_neg (by omega),if_pos (by omega)])
     have HY : Hid (arT 2=0) := by show _=_; unfold arT; first | decide | (rw [if_neg (by omega),if_neg (by omega),if_neg (by omega),if_pos (by omega)])
     by_cases hL : len=0
     case neg =>
      exact Z7_56
     subst hL;by_cases hL2 : len2=0
     case neg =>
      exact Z7_110
     subst hL2
     cases FR
     . have F := LH9 (HF.o false (by rw [HB.o]; simp))
       go_enter Tryz.func29,Tryz.ntmps29
       go_wp2_with fail;refine (HFR.o _).mono ?_; rintro x B1 ⟨rfl,b1⟩
       go_wp2
       go_ret;exact ⟨F.o,HW0.o.trans (b1.mono HW0.o.size)⟩
     . have F := LH9 (HF.o (C && D) (by rw [HB.o,HX.o,HY.o]; simp))
       go_enter Tryz.func29,Tryz.ntmps29
       go_wp2_with fail;refine (HFR.o _).mono ?_; rintro x B1 ⟨rfl,b1⟩;have W1 := bt9 HW0 b1;have BX1 := LH9 (BX.o.below b1);have c0 : B1.cell? ⟨w.heap.size,0,none⟩=some (.int .i64 2) := BX1.o.cell 0;clear b1;go_wp2_with fail;clear c0
       go_loopw [5] (fun i wr => ∃ k : Nat,i=.int .i64 (k : Nat)/\k<=0/\Hid (Below w.heap.size w wr)/\Hid (Mem.Blk wr w.heap.size 41 #[.int .i64 2,.string nm,.slice a 0 cap,.slice a2 0 cap2])/\Hid (∀ (j : Nat) y,j < k->exprs[j]?=some y->bE y=true)) (fun i _ => 0 - (intOf i).toNat)
       case atStart => exact ⟨0,rfl,Nat.zero_le _,W1.o,BX1.o,fun j y hj => absurd hj (Nat.not_lt_zero _)⟩
       case round =>
        clear W1 BX1;obtain ⟨k,rfl,hk,HW,HXB,HP⟩ := hrel;have c2 : wr.cell? ⟨w.heap.size,2,none⟩=some (.slice a 0 cap) := HXB.o.cell 2;by_cases hlt : k < 0
        . exact Z7_8
        . have hC : C=true := HT.o (fun j y hy => HP.o j y (by have := (List.getElem?_eq_some_iff.1 hy).1; have := HL.o; omega) hy);have F3 : Hid (∀ b,D=b->Ending.returned (.bool b)=.returned (.bool R)) := by
           intro b hb; rw [<- F.o,hC,hb]; rfl
          have W2 := HW;have B2 := HXB;clear hC c2 HP HW HXB;go_wp2_with fail
          go_loopw [6] (fun i wr => ∃ k : Nat,i=.int .i64 (k : Nat)/\k<=0/\Hid (Below w.heap.size w wr)/\Hid (Mem.Blk wr w.heap.size 41 #[.int .i64 2,.string nm,.slice a 0 cap,.slice a2 0 cap2])/\Hid (∀ (j : Nat) y,j < k->terms[j]?=some y->bT y=true)) (fun i _ => 0 - (intOf i).toNat)
          case atStart => exact ⟨0,rfl,Nat.zero_le _,W2.o,B2.o,fun j y hj => absurd hj (Nat.not_lt_zero _)⟩
          case round =>
           clear W2 B2;obtain ⟨k2,rfl,hk2,HW,HXB,HP⟩ := hrel;have c3 : wr.cell? ⟨w.heap.size,3,none⟩=some (.slice a2 0 cap2) := HXB.o.cell 3;by_cases hlt2 : k2 < 0
           . exact Z7_11
           . exact Z7_65
   have g2 : (op == 2)=false := by simp [o2]
   have g2' : (op != 2)=true := by simp [o2]
   obtain h | h | h | h : op=1\/op=3\/(op=4\/op=5)\/6<=op := by omega
   . subst h;have HX : Hid (arX 1=0) := by show _=_; unfold arX; first | decide | (rw [if_neg (by omega),if_pos (by omega)])
     have HY : Hid (arT 1=0) := by show _=_; unfold arT; first | decide | (rw [if_neg (by omega),if_neg (by omega),if_neg (by omega),if_pos (by omega)])
     by_cases hL : len=0
     case neg =>
      exact Z7_56
     subst hL;by_cases hL2 : len2=0
     case neg =>
      exact Z7_110
     subst hL2
     cases he : nm.toList with
     | cons c0 ct =>
       exact Z7_57
     | nil =>
       have he2 : nm.toList.isEmpty=true := by rw [he]; rfl
       have F := LH9 (HF.o (C && D) (by rw [HB.o,HX.o,HY.o,he2,g2,g2']; simp));have W1 := HW0;have BX1 := BX
       go_enter Tryz.func29,Tryz.ntmps29
       go_wp2_with fail;generalize w.alloc (.cells _ 41)=B1 at *
       go_loopw [5] (fun i wr => ∃ k : Nat,i=.int .i64 (k : Nat)/\k<=0/\Hid (Below w.heap.size w wr)/\Hid (Mem.Blk wr w.heap.size 41 #[.int .i64 1,.string nm,.slice a 0 cap,.slice a2 0 cap2])/\Hid (∀ (j : Nat) y,j < k->exprs[j]?=some y->bE y=true)) (fun i _ => 0 - (intOf i).toNat)
       case atStart => exact ⟨0,rfl,Nat.zero_le _,W1.o,BX1.o,fun j y hj => absurd hj (Nat.not_lt_zero _)⟩
       case round =>
        clear W1 BX1;obtain ⟨k,rfl,hk,HW,HXB,HP⟩ := hrel;have c2 : wr.cell? ⟨w.heap.size,2,none⟩=some (.slice a 0 cap) := HXB.o.cell 2;by_cases hlt : k < 0
        . exact Z7_8
        . have hC : C=true := HT.o (fun j y hy => HP.o j y (by have := (List.getElem?_eq_some_iff.1 hy).1; have := HL.o; omega) hy);have F3 : Hid (∀ b,D=b->Ending.returned (.bool b)=.returned (.bool R)) := by
           intro b hb; rw [<- F.o,hC,hb]; rfl
          have W2 := HW;have B2 := HXB;clear hC c2 HP HW HXB;go_wp2_with fail
          go_loopw [6] (fun i wr => ∃ k : Nat,i=.int .i64 (k : Nat)/\k<=0/\Hid (Below w.heap.size w wr)/\Hid (Mem.Blk wr w.heap.size 41 #[.int .i64 1,.string nm,.slice a 0 cap,.slice a2 0 cap2])/\Hid (∀ (j : Nat) y,j < k->terms[j]?=some y->bT y=true)) (fun i _ => 0 - (intOf i).toNat)
          case atStart => exact ⟨0,rfl,Nat.zero_le _,W2.o,B2.o,fun j y hj => absurd hj (Nat.not_lt_zero _)⟩
          case round =>
           clear W2 B2;obtain ⟨k2,rfl,hk2,HW,HXB,HP⟩ := hrel;have c3 : wr.cell? ⟨w.heap.size,3,none⟩=some (.slice a2 0 cap2) := HXB.o.cell 3;by_cases hlt2 : k2 < 0
           . exact Z7_11
           . exact Z7_65
   . subst h;have HX : Hid (arX 3=0) := by show _=_; unfold arX; first | decide | (rw [if_neg (by omega),if_pos (by omega)])
     have HY : Hid (arT 3=1) := by show _=_; unfold arT; first | decide | (rw [if_neg (by omega),if_neg (by omega),if_neg (by omega),if_pos (by omega)])
     by_cases hL : len=0
     case neg =>
      exact Z7_56
     subst hL;by_cases hL2 : len2=1
     case neg =>
      exact Z7_109
     subst hL2
     cases he : nm.toList with
     | cons c0 ct =>
       exact Z7_57
     | nil =>
       have he2 : nm.toList.isEmpty=true := by rw [he]; rfl
       have F := LH9 (HF.o (C && D) (by rw [HB.o,HX.o,HY.o,he2,g2,g2']; simp));have W1 := HW0;have BX1 := BX
       go_enter Tryz.func29,Tryz.ntmps29
       go_wp2_with fail;generalize w.alloc (.cells _ 41)=B1 at *
       go_loopw [5] (fun i wr => ∃ k : Nat,i=.int .i64 (k : Nat)/\k<=0/\Hid (Below w.heap.size w wr)/\Hid (Mem.Blk wr w.heap.size 41 #[.int .i64 3,.string nm,.slice a 0 cap,.slice a2 1 cap2])/\Hid (∀ (j : Nat) y,j < k->exprs[j]?=some y->bE y=true)) (fun i _ => 0 - (intOf i).toNat)
       case atStart => exact ⟨0,rfl,Nat.zero_le _,W1.o,BX1.o,fun j y hj => absurd hj (Nat.not_lt_zero _)⟩
       case round =>
        clear W1 BX1;obtain ⟨k,rfl,hk,HW,HXB,HP⟩ := hrel;have c2 : wr.cell? ⟨w.heap.size,2,none⟩=some (.slice a 0 cap) := HXB.o.cell 2;by_cases hlt : k < 0
        . exact Z7_8
        . have hC : C=true := HT.o (fun j y hy => HP.o j y (by have := (List.getElem?_eq_some_iff.1 hy).1; have := HL.o; omega) hy);have F3 : Hid (∀ b,D=b->Ending.returned (.bool b)=.returned (.bool R)) := by
           intro b hb; rw [<- F.o,hC,hb]; rfl
          have W2 := HW;have B2 := HXB;clear hC c2 HP HW HXB;go_wp2_with fail
          go_loopw [6] (fun i wr => ∃ k : Nat,i=.int .i64 (k : Nat)/\k<=1/\Hid (Below w.heap.size w wr)/\Hid (Mem.Blk wr w.heap.size 41 #[.int .i64 3,.string nm,.slice a 0 cap,.slice a2 1 cap2])/\Hid (∀ (j : Nat) y,j < k->terms[j]?=some y->bT y=true)) (fun i _ => 1 - (intOf i).toNat)
          case atStart => exact ⟨0,rfl,Nat.zero_le _,W2.o,B2.o,fun j y hj => absurd hj (Nat.not_lt_zero _)⟩
          case round =>
           clear W2 B2;obtain ⟨k2,rfl,hk2,HW,HXB,HP⟩ := hrel;have c3 : wr.cell? ⟨w.heap.size,3,none⟩=some (.slice a2 1 cap2) := HXB.o.cell 3;by_cases hlt2 : k2 < 1
           . exact Z7_11
           . exact Z7_65
   . have g3 : (op == 3)=false := by simp; omega
     have g9 : decide (9 < op)=false := by simp; omega
     have g1 : decide (op < 1)=false := by simp; omega
     rcases h with h | h
     . subst h;have HX : Hid (arX 4=0) := by show _=_; unfold arX; first | decide | (rw [if_neg (by omega),if_pos (by omega)])
       have HY : Hid (arT 4=2) := by show _=_; unfold arT; first | decide | (rw [if_neg (by omega),if_neg (by omega),if_neg (by omega),if_pos (by omega)])
       by_cases hL : len=0
       case neg =>
        exact Z7_56
       subst hL;by_cases hL2 : len2=2
       case neg =>
        exact Z7_111
       subst hL2
       cases he : nm.toList with
       | cons c0 ct =>
         exact Z7_57
       | nil =>
         have he2 : nm.toList.isEmpty=true := by rw [he]; rfl
         have F := LH9 (HF.o (C && D) (by rw [HB.o,HX.o,HY.o,he2,g2,g2']; simp));have W1 := HW0;have BX1 := BX
         go_enter Tryz.func29,Tryz.ntmps29
         go_wp2_with fail;generalize w.alloc (.cells _ 41)=B1 at *
         go_loopw [5] (fun i wr => ∃ k : Nat,i=.int .i64 (k : Nat)/\k<=0/\Hid (Below w.heap.size w wr)/\Hid (Mem.Blk wr w.heap.size 41 #[.int .i64 4,.string nm,.slice a 0 cap,.slice a2 2 cap2])/\Hid (∀ (j : Nat) y,j < k->exprs[j]?=some y->bE y=true)) (fun i _ => 0 - (intOf i).toNat)
         case atStart => exact ⟨0,rfl,Nat.zero_le _,W1.o,BX1.o,fun j y hj => absurd hj (Nat.not_lt_zero _)⟩
         case round =>
          clear W1 BX1;obtain ⟨k,rfl,hk,HW,HXB,HP⟩ := hrel;have c2 : wr.cell? ⟨w.heap.size,2,none⟩=some (.slice a 0 cap) := HXB.o.cell 2;by_cases hlt : k < 0
          . exact Z7_8
          . have hC : C=true := HT.o (fun j y hy => HP.o j y (by have := (List.getElem?_eq_some_iff.1 hy).1; have := HL.o; omega) hy);have F3 : Hid (∀ b,D=b->Ending.returned (.bool b)=.returned (.bool R)) := by
             intro b hb; rw [<- F.o,hC,hb]; rfl
            have W2 := HW;have B2 := HXB;clear hC c2 HP HW HXB;go_wp2_with fail
            go_loopw [6] (fun i wr => ∃ k : Nat,i=.int .i64 (k : Nat)/\k<=2/\Hid (Below w.heap.size w wr)/\Hid (Mem.Blk wr w.heap.size 41 #[.int .i64 4,.string nm,.slice a 0 cap,.slice a2 2 cap2])/\Hid (∀ (j : Nat) y,j < k->terms[j]?=some y->bT y=true)) (fun i _ => 2 - (intOf i).toNat)
            case atStart => exact ⟨0,rfl,Nat.zero_le _,W2.o,B2.o,fun j y hj => absurd hj (Nat.not_lt_zero _)⟩
            case round =>
             clear W2 B2;obtain ⟨k2,rfl,hk2,HW,HXB,HP⟩ := hrel;have c3 : wr.cell? ⟨w.heap.size,3,none⟩=some (.slice a2 2 cap2) := HXB.o.cell 3;by_cases hlt2 : k2 < 2
             . exact Z7_11
             . exact Z7_65
     . subst h;have HX : Hid (arX 5=0) := by show _=_; unfold arX; first | decide | (rw [if_neg (by omega),if_pos (by omega)])
       have HY : Hid (arT 5=2) := by show _=_; unfold arT; first | decide | (rw [if_neg (by omega),if_neg (by omega),if_neg (by omega),if_pos (by omega)])
       by_cases hL : len=0
       case neg =>
        exact Z7_56
       subst hL;by_cases hL2 : len2=2
       case neg =>
        exact Z7_111
       subst hL2
       cases he : nm.toList with
       | cons c0 ct =>
         exact Z7_57
       | nil =>
         have he2 : nm.toList.isEmpty=true := by rw [he]; rfl
         have F := LH9 (HF.o (C && D) (by rw [HB.o,HX.o,HY.o,he2,g2,g2']; simp));have W1 := HW0;have BX1 := BX
         go_enter Tryz.func29,Tryz.ntmps29
         go_wp2_with fail;generalize w.alloc (.cells _ 41)=B1 at *
         go_loopw [5] (fun i wr => ∃ k : Nat,i=.int .i64 (k : Nat)/\k<=0/\Hid (Below w.heap.size w wr)/\Hid (Mem.Blk wr w.heap.size 41 #[.int .i64 5,.string nm,.slice a 0 cap,.slice a2 2 cap2])/\Hid (∀ (j : Nat) y,j < k->exprs[j]?=some y->bE y=true)) (fun i _ => 0 - (intOf i).toNat)
         case atStart => exact ⟨0,rfl,Nat.zero_le _,W1.o,BX1.o,fun j y hj => absurd hj (Nat.not_lt_zero _)⟩
         case round =>
          clear W1 BX1;obtain ⟨k,rfl,hk,HW,HXB,HP⟩ := hrel;have c2 : wr.cell? ⟨w.heap.size,2,none⟩=some (.slice a 0 cap) := HXB.o.cell 2;by_cases hlt : k < 0
          . exact Z7_8
          . have hC : C=true := HT.o (fun j y hy => HP.o j y (by have := (List.getElem?_eq_some_iff.1 hy).1; have := HL.o; omega) hy);have F3 : Hid (∀ b,D=b->Ending.returned (.bool b)=.returned (.bool R)) := by
             intro b hb; rw [<- F.o,hC,hb]; rfl
            have W2 := HW;have B2 := HXB;clear hC c2 HP HW HXB;go_wp2_with fail
            go_loopw [6] (fun i wr => ∃ k : Nat,i=.int .i64 (k : Nat)/\k<=2/\Hid (Below w.heap.size w wr)/\Hid (Mem.Blk wr w.heap.size 41 #[.int .i64 5,.string nm,.slice a 0 cap,.slice a2 2 cap2])/\Hid (∀ (j : Nat) y,j < k->terms[j]?=some y->bT y=true)) (fun i _ => 2 - (intOf i).toNat)
            case atStart => exact ⟨0,rfl,Nat.zero_le _,W2.o,B2.o,fun j y hj => absurd hj (Nat.not_lt_zero _)⟩
            case round =>
             clear W2 B2;obtain ⟨k2,rfl,hk2,HW,HXB,HP⟩ := hrel;have c3 : wr.cell? ⟨w.heap.size,3,none⟩=some (.slice a2 2 cap2) := HXB.o.cell 3;by_cases hlt2 : k2 < 2
             . exact Z7_11
             . exact Z7_65
   . have g3 : (op == 3)=false := by simp; omega
     have g4 : (op == 4)=false := by simp; omega
     have g5 : (op == 5)=false := by simp; omega
     have HX : Hid (arX op=1) := by show _=_; unfold arX; first | decide | (rw [if_neg (by omega),if_pos (by omega)])
     have HY : Hid (arT op=1) := by show _=_; unfold arT; first | decide | (rw [if_neg (by omega),if_neg (by omega),if_neg (by omega),if_pos (by omega)])
     by_cases hL : len=1
     case neg =>
      have F := LH9 (HF.o false (by rw [HB.o,HX.o,show ((1 : Int) == (len : Nat))=false by rw [beq_eq_false_iff_ne]; omega]; rfl));have t1 : ((len : Int) != 1)=true := by rw [bne_iff_ne]; omega
      clear hL
      go_enter Tryz.func29,Tryz.ntmps29
      go_wp2
      go_ret;exact ⟨F.o,HW0.o⟩
     subst hL;by_cases hL2 : len2=1
     case neg =>
      exact Z7_109
     subst hL2
     cases he : nm.toList with
     | cons c0 ct =>
       exact Z7_57
     | nil =>
       have he2 : nm.toList.isEmpty=true := by rw [he]; rfl
       have F := LH9 (HF.o (C && D) (by rw [HB.o,HX.o,HY.o,he2,g2,g2']; simp));have W1 := HW0;have BX1 := BX
       go_enter Tryz.func29,Tryz.ntmps29
       go_wp2_with fail;generalize w.alloc (.cells _ 41)=B1 at *
       go_loopw [5] (fun i wr => ∃ k : Nat,i=.int .i64 (k : Nat)/\k<=1/\Hid (Below w.heap.size w wr)/\Hid (Mem.Blk wr w.heap.size 41 #[.int .i64 op,.string nm,.slice a 1 cap,.slice a2 1 cap2])/\Hid (∀ (j : Nat) y,j < k->exprs[j]?=some y->bE y=true)) (fun i _ => 1 - (intOf i).toNat)
       case atStart => exact ⟨0,rfl,Nat.zero_le _,W1.o,BX1.o,fun j y hj => absurd hj (Nat.not_lt_zero _)⟩
       case round =>
        clear W1 BX1;obtain ⟨k,rfl,hk,HW,HXB,HP⟩ := hrel;have c2 : wr.cell? ⟨w.heap.size,2,none⟩=some (.slice a 1 cap) := HXB.o.cell 2;by_cases hlt : k < 1
        . exact Z7_8
        . have hC : C=true := HT.o (fun j y hy => HP.o j y (by have := (List.getElem?_eq_some_iff.1 hy).1; have := HL.o; omega) hy);have F3 : Hid (∀ b,D=b->Ending.returned (.bool b)=.returned (.bool R)) := by
           intro b hb; rw [<- F.o,hC,hb]; rfl
          have W2 := HW;have B2 := HXB;clear hC c2 HP HW HXB;go_wp2_with fail
          go_loopw [6] (fun i wr => ∃ k : Nat,i=.int .i64 (k : Nat)/\k<=1/\Hid (Below w.heap.size w wr)/\Hid (Mem.Blk wr w.heap.size 41 #[.int .i64 op,.string nm,.slice a 1 cap,.slice a2 1 cap2])/\Hid (∀ (j : Nat) y,j < k->terms[j]?=some y->bT y=true)) (fun i _ => 1 - (intOf i).toNat)
          case atStart => exact ⟨0,rfl,Nat.zero_le _,W2.o,B2.o,fun j y hj => absurd hj (Nat.not_lt_zero _)⟩
          case round =>
           clear W2 B2;obtain ⟨k2,rfl,hk2,HW,HXB,HP⟩ := hrel;have c3 : wr.cell? ⟨w.heap.size,3,none⟩=some (.slice a2 1 cap2) := HXB.o.cell 3;by_cases hlt2 : k2 < 1
           . exact Z7_11
           . exact Z7_65
end
section
theorem rT_parts (t : Te) (hr : t.rk < 1000) : rT t=(decide (ndI t.nd<=200) && decide (rkI t.nd t.rk<=16) && bT t) := by
 have : rT t=(decide (t.nd<=200/\t.rk<=16) && bT t) := rfl;exact Z7_126
theorem treeRight_any {w : World} {es : List Ex} {ts : List Te} {cs : List Value} (h : TreeIs w [] es ts cs) (i : Nat) {t : Te} (ht : ts[i]?=some t) (hr : t.rk < 1000) :
 Calls Tryz.prog 11 #[.agg cs.toArray,.int .i64 (i : Nat)] w fun x w' => x=.returned (.bool (rT t))/\Below w.heap.size w w' := by
 have hit : i < ts.length := (List.getElem?_eq_some_iff.1 ht).1;obtain ⟨aE,cE,aN,cN,aD,cD,aT,cT,aM,cM,aP,cP,rfl,h1,h2,h3,h4,h5,h6⟩ := h;have hlM : (ndsT ts).length=ts.length := by unfold ndsT; rw [List.length_map]
 have hlP : (rksT ts).length=ts.length := by unfold rksT; rw [List.length_map]
 obtain ⟨bm,om,xm,cm,rfl,hbm,-,hxm,⟨rfl,-⟩,-,hcm⟩ := h5.at i (by omega);obtain ⟨bp,op,xp,cp,rfl,hbp,-,hxp,⟨rfl,-⟩,-,hcp⟩ := h6.at i (by omega);obtain ⟨bt,ot,xt,ct,rfl,hbt,-,hxt,hRt,-,hct⟩ := h4.at i hit;obtain rfl : xm=ndI t.nd := by
  unfold ndsT at hxm;rw [List.getElem?_map,ht] at hxm;injection hxm with h; exact h.symm
 obtain rfl : xp=rkI t.nd t.rk := by
  unfold rksT at hxp;rw [List.getElem?_map,ht] at hxp;injection hxp with h; exact h.symm
 obtain rfl : t=xt := by rw [ht] at hxt; injection hxt
 have HRT := LH9 (rT_parts t hr);have HW0 := LH9 ((Below.refl w.heap.size w).alloc (Nat.le_refl _) (.cells #[.slice aE es.length cE,.slice aN (nds es).length cN,.slice aD (rks es).length cD,.slice (some ⟨bt,ot,none⟩) ts.length cT,.slice (some ⟨bm,om,none⟩) (ndsT ts).length cM,.slice (some ⟨bp,op,none⟩) (rksT ts).length cP] 33));have BX := Mem.Blk.new w 33 #[.slice aE es.length cE,.slice aN (nds es).length cN,.slice aD (rks es).length cD,.slice (some ⟨bt,ot,none⟩) ts.length cT,.slice (some ⟨bm,om,none⟩) (ndsT ts).length cM,.slice (some ⟨bp,op,none⟩) (rksT ts).length cP];have HC : Hid (∀ W,Below w.heap.size w W->Calls Tryz.prog 29 #[.agg ct.toArray] W fun x w' => x=.returned (.bool (bT t))/\Below W.heap.size W w') := fun W hW => rbuilt_any t.rk t (Nat.le_refl _) ct W (RepT.kept hRt (Kept.of_below hW []))
 obtain ⟨o5,e5,x5,t5,p5,l5,r5,p6,l6,r6,-,rfl,-⟩ := hRt.inv;have s3 := LH9 (BX.cell 3);have s4 := LH9 (BX.cell 4);have s5 := LH9 (BX.cell 5);have g0 := LH9 (cu9 (show w.cell? ⟨bm,om + i,none⟩=some (.int .i64 (ndI t.nd)) by have := hcm 0 _ rfl; simpa [i64K] using this) HW0.o);have g1 := LH9 (cu9 (show w.cell? ⟨bp,op + i,none⟩=some (.int .i64 (rkI t.nd t.rk)) by have := hcp 0 _ rfl; simpa [i64K] using this) HW0.o);have v0 := LH9 (cu9 (show w.cell? ⟨bt,ot + i * 4,none⟩=some (.int .i64 o5) from hct 0 _ rfl) HW0.o);have v1 := LH9 (cu9 (show w.cell? ⟨bt,ot + i * 4 + 1,none⟩=some (.string e5) from hct 1 _ rfl) HW0.o);have v2 := LH9 (cu9 (show w.cell? ⟨bt,ot + i * 4 + 2,none⟩=some (.slice p5 l5 r5) from hct 2 _ rfl) HW0.o);have v3 := LH9 (cu9 (show w.cell? ⟨bt,ot + i * 4 + 3,none⟩=some (.slice p6 l6 r6) from hct 3 _ rfl) HW0.o);have i0 : (0 : Int)<=(i : Int) := by omega
 have i1 : (i : Int) < (ts.length : Int) := by omega
 have i2 : (i : Int) < ((ndsT ts).length : Int) := by omega
 have i3 : (i : Int) < ((rksT ts).length : Int) := by omega
 have n1 := ndI_bd t.nd;have n2 := rkI_bd t.nd t.rk hr;clear hcm hcp hct hRt BX h1 h2 h3 h4 h5 h6 hxm hxp ht hr hlM hlP hxt hbm hbp hbt hit;generalize ndI t.nd=a at *;generalize rkI t.nd t.rk=b at *;rw [HRT.o];generalize (ndsT ts).length=lM at *;generalize (rksT ts).length=lP at *;by_cases ha : a<=200
 . by_cases hb : b<=16
   . have e1 : (decide (a<=200) && decide (b<=16) && bT t)=bT t := by simp [ha,hb]
     rw [e1]
     go_enter Tryz.func11,Tryz.ntmps11
     go_upto_region 1 with (fail);generalize w.alloc (.cells _ 33)=v at *;have s3' := s3.o;have s4' := s4.o;have s5' := s5.o;have g0' := g0.o;have g1' := g1.o;have v0' := v0.o;have v1' := v1.o;have v2' := v2.o;have v3' := v3.o;simp only [List.getElem?_toArray,List.getElem?_cons_zero,List.getElem?_cons_succ] at s3' s4' s5';clear s3 s4 s5 g0 g1 v0 v1 v2 v3;go_wp2_with fail;go_at_call 29;exact Z7_145
   . have e1 : (decide (a<=200) && decide (b<=16) && bT t)=false := by simp [hb]
     rw [e1]
     go_enter Tryz.func11,Tryz.ntmps11
     exact Z7_52
 . have e1 : (decide (a<=200) && decide (b<=16) && bT t)=false := by simp [ha]
   rw [e1]
   go_enter Tryz.func11,Tryz.ntmps11
   exact Z7_52
end
section
theorem all_no {l : List Int} {j : Nat} {x k : Int} (hx : l[j]?=some x) (hne : x ≠ k) : l.all (fun x => decide (x=k))=false := by
 rw [List.all_eq_false];exact ⟨x,List.mem_of_getElem? hx,by simpa using hne⟩
theorem all_yes {l : List Int} {k : Int} (h : ∀ (j : Nat) x,l[j]?=some x->x=k) : l.all (fun x => decide (x=k))=true := by
 rw [List.all_eq_true];intro x hx;obtain ⟨j,hj⟩ := List.getElem?_of_mem hx
 simpa using h j x hj
theorem all_any (l : List Int) (a : Option Addr) (len cap : Nat) (q : Int) (w : World) (hS : SlR i64K w [] l a len cap) :
 Calls Tryz.prog 57 #[.slice a len cap,.int .i64 q] w fun e w' => e=.returned (.bool (l.all (fun x => decide (x=q))))/\w=w' := by
 obtain ⟨f1,f2,f3⟩ := hS.facts;have HNO := LH9 (fun (j : Nat) x (hx : l[j]?=some x) (hne : x ≠ q) => all_no hx hne);have HYES := LH9 (fun (h : ∀ (j : Nat) x,l[j]?=some x->x=q) => all_yes h);generalize l.all (fun x => decide (x=q))=R at *;have HSS := LH9 hS;have HL := LH9 f1;clear hS f1
 go_enter Tryz.func57,Tryz.ntmps57
 go_wp2_with fail
 go_loopw [5] (fun i wr => ∃ k : Nat,i=.int .i64 (k : Nat)/\k<=len/\Hid (w=wr)/\Hid (∀ (j : Nat) x,j < k->l[j]?=some x->x=q)) (fun i _ => len - (intOf i).toNat)
 case atStart => exact ⟨0,rfl,Nat.zero_le _,by first | exact LH9 trivial | exact LH9 rfl,fun j x h => by omega⟩
 case round =>
  obtain ⟨k,rfl,hk,HW,HP⟩ := hrel;obtain rfl := HW.o;clear HW;by_cases hlt : k < len
  . obtain ⟨b,o,x,cs,rfl,-,-,hx,⟨rfl,-⟩,-,hc⟩ := HSS.o.at k hlt;have c0 : w.cell? ⟨b,o + k,none⟩=some (.int .i64 x) := by have := hc 0 _ rfl; simpa [i64K] using this
    have j1' : (k : Int) < (len : Int) := by omega
    have j0' : (0 : Int)<=(k : Int) := by omega
    have HX := LH9 hx;clear hc hx;by_cases hxq : x=q
    . subst hxq;have FIN : Hid (∀ (j : Nat) y,j < k + 1->l[j]?=some y->y=x) := fun j y hj hy => by
       rcases Nat.eq_or_lt_of_le (Nat.le_of_lt_succ hj) with rfl | h
       . rw [HX.o] at hy; injection hy with hy; exact hy.symm
       . exact HP.o j y h hy
      clear HP HNO HYES HX;go_wp2_with fail;go_roundw
      case rel => exact ⟨k + 1,by go_num,by omega,by first | exact LH9 trivial | exact LH9 rfl,FIN⟩
      case measure => simp [intOf]; omega
    . have hR := HNO.o k x HX.o hxq;have hxq' : (x == q)=false := beq_eq_false_iff_ne.2 hxq;clear HP HNO HYES HX;subst hR;go_wp2_with fail;go_ret;exact ⟨rfl,rfl⟩
  . have hk' : ¬ (k : Int) < (len : Int) := by omega
    have hR := HYES.o (fun j x hx => HP.o j x (by have h1 := (List.getElem?_eq_some_iff.1 hx).1; have h2 := HL.o; omega) hx);clear HP HNO HYES;subst hR;go_wp2_with fail;go_ret;exact ⟨rfl,rfl⟩
def kI (e : Ex) : Int := if rE e then kE e else 0
theorem kindX_any (e : Ex) (cs : List Value) (w : World) (hR : RepE w [] e cs) (hk : e.rk<=1000) :
 Calls Tryz.prog 63 #[.agg cs.toArray] w fun x w' => x=.returned (.tuple #[.int .i64 (kI e),.bool (kI e != 0)])/\Below w.heap.size w w' := by
 have HI : Hid (kI e=if rE e then kE e else 0) := rfl;have HB := LH9 (show rE e=true->bE e=true from fun h => by unfold rE at h; rw [Bool.and_eq_true] at h; exact h.2);have HC := LH9 (fun W (hW : Below w.heap.size w W) => rightExpr_any e cs W (hR.kept (Kept.of_below hW [])) hk);have HK := LH9 (fun W (hW : Below w.heap.size w W) (hb : bE e=true) => kind_any e.rk e (Nat.le_refl _) hb cs W (hR.kept (Kept.of_below hW [])));obtain ⟨op,no,nm,args,a,len,cap,rfl,rfl,i1,i2,i3,hS⟩ := hR.inv;have HB0 := LH9 ((Below.refl w.heap.size w).alloc (Nat.le_refl _) (.cells #[.int .i64 op,.int .i64 no,.string nm,.slice a len cap] 74));have BX := LH9 (Mem.Blk.new w 74 #[.int .i64 op,.int .i64 no,.string nm,.slice a len cap]);clear i1 i2 i3 hS hR hk;generalize (Ex.mk op no nm args)=e at *;by_cases hr : rE e=true
 . have hK := HK;rw [hr,if_pos rfl] at HI;have hb := HB.o hr;have HK := LH9 (fun W hW => hK.o W hW hb);rw [hr] at HC;rw [HI.o];clear hK hr hb HB HI;generalize kE e=ke at *
   go_enter Tryz.func63,Tryz.ntmps63
   go_upto_region 1 with (fail);generalize w.alloc (.cells _ 74)=v at *;obtain ⟨c0,c1,c2,c3,-,-,-,-⟩ := blk4 BX.o;go_wp2_with fail;go_at_call 90;(with_reducible refine (HC.o _ HB0.o).mono ?_);rintro y w1 ⟨rfl,b1⟩;have HB1 := bt9 HB0 b1;have c0' := cu9 c0 b1;have c1' := cu9 c1 b1;have c2' := cu9 c2 b1;have c3' := cu9 c3 b1;clear c0 c1 c2 c3;go_wp2_with fail;go_at_call 83;(with_reducible refine (HK.o _ HB1.o).mono ?_);rintro y w2 ⟨rfl,b2⟩;have HB2 := bt9 HB1 b2;clear c0' c1' c2' c3' b1 b2;go_wp2_with fail;go_ret2;exact ⟨rfl,HB2.o⟩
 . have hr' : rE e=false := by simpa using hr
   rw [hr'] at HC HI;rw [if_neg (by decide)] at HI;rw [HI.o];clear hr hr' HB HI HK
   go_enter Tryz.func63,Tryz.ntmps63
   go_upto_region 1 with (fail);generalize w.alloc (.cells _ 74)=v at *;obtain ⟨c0,c1,c2,c3,-,-,-,-⟩ := blk4 BX.o;go_wp2_with fail;go_at_call 90;(with_reducible refine (HC.o _ HB0.o).mono ?_);rintro y w1 ⟨rfl,b1⟩;have HB1 := bt9 HB0 b1;clear c0 c1 c2 c3;go_wp2_with fail;go_ret2;exact ⟨rfl,HB1.o⟩
end
end Go.Proofs.YtmiinmndbkdjbaaGreat
