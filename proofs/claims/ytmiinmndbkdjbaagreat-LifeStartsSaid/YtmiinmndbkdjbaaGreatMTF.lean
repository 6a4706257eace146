/- A part of the proof: RefB, one behind another. -/
import Derived.Test.YtmiinmndbkdjbaaGreatMTA
import Derived.Test.YtmiinmndbkdjbaaGreatMTB
import Derived.Lib.Hide
import Derived.WalkKit
set_option maxRecDepth 100000
set_option maxHeartbeats 16000000
set_option linter.unusedVariables false
set_option linter.unusedSimpArgs false
namespace Go.Proofs.YtmiinmndbkdjbaaGreat
open Go.RowKit
section
theorem kids_any (op : Int) (w : World) : Calls Tryz.prog 87 #[.int .i64 op] w fun e w' => e=.returned (.int .i64 (ar op))∧w=w' := by
 by_cases h5 : op=19
 · subst h5; rw [show ar 19=1 by decide]; go_enter Tryz.func87,Tryz.ntmps87; go_wp2; go_ret; exact ⟨rfl,rfl⟩
 by_cases h6 : op=20
 · subst h6; rw [show ar 20=1 by decide]; go_enter Tryz.func87,Tryz.ntmps87; go_wp2; go_ret; exact ⟨rfl,rfl⟩
 by_cases h7 : op=21
 · subst h7; rw [show ar 21=3 by decide]; go_enter Tryz.func87,Tryz.ntmps87; go_wp2; go_ret; exact ⟨rfl,rfl⟩
 have g5 : (op == 19)=false := by simp [h5]
 have g6 : (op == 20)=false := by simp [h6]
 have g7 : (op == 21)=false := by simp [h7]
 have HF : Hid (∀ x,ar op=x→Ending.returned (.int .i64 x)=.returned (.int .i64 (ar op))) := fun x h => by rw [h]
 have HD := LH9 (show ar op=if 1≤op∧op≤4 then 0 else if 5≤op∧op≤18 then 2 else if op=19∨op=20 then 1 else if op=21 then 3 else -1 from rfl);by_cases h1 : 1≤op <;> by_cases h2 : op≤4 <;> by_cases h3 : 5≤op <;> by_cases h4 : op≤18
 all_goals
  first
  | (exfalso; omega)
  | (go_enter Tryz.func87,Tryz.ntmps87
     go_wp2
     all_goals
      go_ret;exact ⟨HF.o _ (by rw [HD.o]; repeat' split <;> omega),rfl⟩)
theorem bE_all (l : List Ex) (h : ∀ (j : Nat) y,l[j]?=some y→bE y=true) : bE.go l=true := by
 rw [bE_go];have : (l.any fun e => !bE e)=false := by
  rw [List.any_eq_false]; intro x hx;obtain ⟨j,hj,rfl⟩ := List.getElem_of_mem hx;simp [h j _ (List.getElem?_eq_getElem hj)]
 rw [this]; rfl
theorem bE_not (l : List Ex) (k : Nat) (y : Ex) (h : l[k]?=some y) (hy : bE y=false) : bE.go l=false := by
 rw [bE_go];have : (l.any fun e => !bE e)=true := by
  rw [List.any_eq_true]; exact ⟨y,List.mem_of_getElem? h,by rw [hy]; rfl⟩
 rw [this]; rfl
theorem rbuiltExpr_any : ∀ (r : Nat) (e : Ex),e.rk≤r→∀ (cs : List Value) (w : World),RepE w [] e cs →
 Calls Tryz.prog 56 #[.agg cs.toArray] w fun x w' => x=.returned (.bool (bE e))∧Below w.heap.size w w' := by
 intro r
 induction r with
 | zero => intro e h; have : 1≤e.rk := by cases e; simp only [Ex.rk]; omega
           omega
 | succ r ih =>
   intro e hr cs w hR;obtain ⟨op,n,nm,args,a,len,cap,rfl,rfl,i1,i2,i3,hS⟩ := hR.inv;obtain ⟨f1,f2,f3⟩ := hS.facts;have HS := LH9 hS;have HW0 := LH9 ((Below.refl w.heap.size w).alloc (Nat.le_refl _) (.cells #[.int .i64 op,.int .i64 n,.string nm,.slice a len cap] 74));have BX := LH9 (Mem.Blk.new w 74 #[.int .i64 op,.int .i64 n,.string nm,.slice a len cap]);have HI : Hid (∀ (k : Nat) e' cs' W,args[k]?=some e'→RepE W [] e' cs'→Calls Tryz.prog 56 #[.agg cs'.toArray] W fun x w' => x=.returned (.bool (bE e'))∧Below W.heap.size W w') := by
    intro k e' cs' W hk hR';exact ih e' (by have := Ex.rk_lt (op := op) (n := n) (nm := nm) hk; omega) cs' W hR'
   have HAR := LH9 (fun W => kids_any op W);have HFR := LH9 (fun W => rfree_any nm W i3);have HL := LH9 f1;have HB := LH9 (show bE (.mk op n nm args)=((ar op == (len : Nat)) && okE op n nm && bE.go args) by rw [← f1]; rfl);have HO := LH9 (show okE op n nm=((n == 0 || op == 1 || op == 2) && (nm.toList.isEmpty || op == 3) && decide (0≤n) && !(op == 2 && decide (2932896 < n)) && !(op == 3 && !fre nm)) from rfl);have HT := LH9 (bE_all args);have HN := LH9 (bE_not args);have HF : Hid (∀ x,bE (.mk op n nm args)=x→Ending.returned (.bool x)=.returned (.bool (bE (.mk op n nm args)))) := fun x h => by rw [h]
   generalize bE (.mk op n nm args)=R at *;generalize bE.go args=C at *;generalize ar op=A at *;generalize fre nm=FR at *;generalize okE op n nm=OK at *;clear ih hr hR hS f1 i1 i2;by_cases hA : A=(len : Int)
   case neg =>
    have F := LH9 (HF.o false (by rw [HB.o]; simp [hA]));have t1 : ((len : Int) != A)=true := by simp; exact fun h => hA h.symm
    clear hA
    go_enter Tryz.func56,Tryz.ntmps56
    go_wp2_with fail
    go_quiet ((go_at_call 87; exact quiet_left (HAR.o _)))
    go_wp2
    go_ret;exact ⟨F.o,below_drewN HW0.o _⟩
   subst hA;have HB2 := LH9 (show R=(((n == 0 || op == 1 || op == 2) && (nm.toList.isEmpty || op == 3) && decide (0≤n) && !(op == 2 && decide (2932896 < n)) && !(op == 3 && !FR)) && C) by rw [HB.o,HO.o]; simp);clear HB HO;by_cases o1 : op=1
   · subst o1;by_cases hneg : n < 0
     · have F := LH9 (HF.o false (by rw [HB2.o]; simp; omega))
       go_enter Tryz.func56,Tryz.ntmps56
       go_wp2_with fail
       go_quiet ((go_at_call 87; exact quiet_left (HAR.o _)))
       go_wp2
       go_ret;exact ⟨F.o,below_drewN HW0.o _⟩
     cases he : nm.toList with
     | cons c0 ct =>
       have he2 : nm.toList.isEmpty=false := by rw [he]; rfl
       have he3 : (!nm.toList.isEmpty)=true := by rw [he2]; rfl
       have F := LH9 (HF.o false (by rw [HB2.o,he2]; simp));clear he
       go_enter Tryz.func56,Tryz.ntmps56
       go_wp2_with fail
       go_quiet ((go_at_call 87; exact quiet_left (HAR.o _)))
       go_wp2
       go_ret;exact ⟨F.o,below_drewN HW0.o _⟩
     | nil =>
       have he2 : nm.toList.isEmpty=true := by rw [he]; rfl
       have F := LH9 (HF.o C (by rw [HB2.o,he2,decide_eq_true (show 0≤n by omega)]; simp))
       go_enter Tryz.func56,Tryz.ntmps56
       go_wp2_with fail
       go_quiet ((go_at_call 87; exact quiet_left (HAR.o _)))
       go_wp2_with fail
       have W1 := LH9 (below_drewN HW0.o nq);obtain ⟨B1,hB1⟩ : ∃ W,W=(w.alloc (.cells #[.int .i64 1,.int .i64 n,.string nm,.slice a len cap] 74)).drewN nq := ⟨_,rfl⟩;have BX1 : Hid (Mem.Blk B1 w.heap.size 74 #[.int .i64 1,.int .i64 n,.string nm,.slice a len cap]) := by rw [hB1]; exact BX.o
       rw [← hB1] at W1 ⊢;clear hB1
       go_loopw [3] (fun i wr => ∃ k : Nat,i=.int .i64 (k : Nat)∧k≤len∧Hid (Below w.heap.size w wr)∧Hid (Mem.Blk wr w.heap.size 74 #[.int .i64 1,.int .i64 n,.string nm,.slice a len cap])∧Hid (∀ (j : Nat) y,j < k→args[j]?=some y→bE y=true)) (fun i _ => len - (intOf i).toNat)
       case atStart => exact ⟨0,rfl,Nat.zero_le _,W1.o,BX1.o,fun j y hj => absurd hj (Nat.not_lt_zero _)⟩
       case round =>
        obtain ⟨k,rfl,hk,HW,HX,HP⟩ := hrel;have c3 := HX.o.cell 3;rw [show (#[.int .i64 1,.int .i64 n,.string nm,.slice a len cap] : Array Value)[3]?=some (.slice a len cap) from rfl] at c3;by_cases hlt : k < len
        · obtain ⟨b,o,op',n',nm',args',a',len',cap',rfl,hb,hbx,hle,j1,j2,j3,hS',g0,g1,g2,g3⟩ := (HS.o.kept (Kept.of_below HW.o [])).at k hlt;have HC := LH9 (HI.o k _ _ wr hle (RepE.mk' j1 j2 j3 hS'));have HLE := LH9 hle;clear hle hS' j1 j2 j3;generalize Ex.mk op' n' nm' args'=e' at *
          cases hp : bE e'
          · rw [hp] at HC;have hC : C=false := HN.o k e' HLE.o hp;have F2 : Hid (Ending.returned (.bool false)=.returned (.bool R)) := by show _=_; rw [← F.o,hC]
            clear hp hC
            go_wp2_with fail
            refine HC.o.mono ?_; rintro r w1 ⟨rfl,b1⟩
            go_wp2
            go_ret;exact ⟨F2.o,HW.o.trans (b1.mono HW.o.size)⟩
          · rw [hp] at HC;have HP2 : Hid (∀ (j : Nat) y,j < k + 1→args[j]?=some y→bE y=true) := by
             intro j y hj hy;rcases Nat.lt_or_ge j k with h | h
             · exact HP.o j y h hy
             · obtain rfl : j=k := by omega
               rw [HLE.o] at hy; injection hy with hy; subst hy; exact hp
            clear hp
            go_wp2_with fail
            refine HC.o.mono ?_; rintro r w1 ⟨rfl,b1⟩
            go_wp2
            go_roundw
            case rel => exact ⟨k + 1,by go_num,by omega,HW.o.trans (b1.mono HW.o.size),HX.o.below b1,HP2⟩
            case measure => simp [intOf]; omega
        · have hC : C=true := HT.o (fun j y hy => HP.o j y (by have := (List.getElem?_eq_some_iff.1 hy).1; have := HL.o; omega) hy);have F2 : Hid (Ending.returned (.bool true)=.returned (.bool R)) := by show _=_; rw [← F.o,hC]
          clear hC
          go_wp2
          go_ret;exact ⟨F2.o,HW.o⟩
   by_cases o2 : op=2
   · subst o2;by_cases hneg : n < 0
     · have F := LH9 (HF.o false (by rw [HB2.o]; simp; omega))
       go_enter Tryz.func56,Tryz.ntmps56
       go_wp2_with fail
       go_quiet ((go_at_call 87; exact quiet_left (HAR.o _)))
       go_wp2
       go_ret;exact ⟨F.o,below_drewN HW0.o _⟩
     by_cases hbig : 2932896 < n
     · have F := LH9 (HF.o false (by rw [HB2.o]; simp [hbig]))
       go_enter Tryz.func56,Tryz.ntmps56
       go_wp2_with fail
       go_quiet ((go_at_call 87; exact quiet_left (HAR.o _)))
       go_wp2
       go_ret;exact ⟨F.o,below_drewN HW0.o _⟩
     cases he : nm.toList with
     | cons c0 ct =>
       have he2 : nm.toList.isEmpty=false := by rw [he]; rfl
       have he3 : (!nm.toList.isEmpty)=true := by rw [he2]; rfl
       have F := LH9 (HF.o false (by rw [HB2.o,he2]; simp));clear he
       go_enter Tryz.func56,Tryz.ntmps56
       go_wp2_with fail
       go_quiet ((go_at_call 87; exact quiet_left (HAR.o _)))
       go_wp2
       go_ret;exact ⟨F.o,below_drewN HW0.o _⟩
     | nil =>
       have he2 : nm.toList.isEmpty=true := by rw [he]; rfl
       have F := LH9 (HF.o C (by rw [HB2.o,he2,decide_eq_true (show 0≤n by omega),decide_eq_false hbig]; simp))
       go_enter Tryz.func56,Tryz.ntmps56
       go_wp2_with fail
       go_quiet ((go_at_call 87; exact quiet_left (HAR.o _)))
       go_wp2_with fail
       have W1 := LH9 (below_drewN HW0.o nq);obtain ⟨B1,hB1⟩ : ∃ W,W=(w.alloc (.cells #[.int .i64 2,.int .i64 n,.string nm,.slice a len cap] 74)).drewN nq := ⟨_,rfl⟩;have BX1 : Hid (Mem.Blk B1 w.heap.size 74 #[.int .i64 2,.int .i64 n,.string nm,.slice a len cap]) := by rw [hB1]; exact BX.o
       rw [← hB1] at W1 ⊢;clear hB1
       go_loopw [3] (fun i wr => ∃ k : Nat,i=.int .i64 (k : Nat)∧k≤len∧Hid (Below w.heap.size w wr)∧Hid (Mem.Blk wr w.heap.size 74 #[.int .i64 2,.int .i64 n,.string nm,.slice a len cap])∧Hid (∀ (j : Nat) y,j < k→args[j]?=some y→bE y=true)) (fun i _ => len - (intOf i).toNat)
       case atStart => exact ⟨0,rfl,Nat.zero_le _,W1.o,BX1.o,fun j y hj => absurd hj (Nat.not_lt_zero _)⟩
       case round =>
        obtain ⟨k,rfl,hk,HW,HX,HP⟩ := hrel;have c3 := HX.o.cell 3;rw [show (#[.int .i64 2,.int .i64 n,.string nm,.slice a len cap] : Array Value)[3]?=some (.slice a len cap) from rfl] at c3;by_cases hlt : k < len
        · obtain ⟨b,o,op',n',nm',args',a',len',cap',rfl,hb,hbx,hle,j1,j2,j3,hS',g0,g1,g2,g3⟩ := (HS.o.kept (Kept.of_below HW.o [])).at k hlt;have HC := LH9 (HI.o k _ _ wr hle (RepE.mk' j1 j2 j3 hS'));have HLE := LH9 hle;clear hle hS' j1 j2 j3;generalize Ex.mk op' n' nm' args'=e' at *
          cases hp : bE e'
          · rw [hp] at HC;have hC : C=false := HN.o k e' HLE.o hp;have F2 : Hid (Ending.returned (.bool false)=.returned (.bool R)) := by show _=_; rw [← F.o,hC]
            clear hp hC
            go_wp2_with fail
            refine HC.o.mono ?_; rintro r w1 ⟨rfl,b1⟩
            go_wp2
            go_ret;exact ⟨F2.o,HW.o.trans (b1.mono HW.o.size)⟩
          · rw [hp] at HC;have HP2 : Hid (∀ (j : Nat) y,j < k + 1→args[j]?=some y→bE y=true) := by
             intro j y hj hy;rcases Nat.lt_or_ge j k with h | h
             · exact HP.o j y h hy
             · obtain rfl : j=k := by omega
               rw [HLE.o] at hy; injection hy with hy; subst hy; exact hp
            clear hp
            go_wp2_with fail
            refine HC.o.mono ?_; rintro r w1 ⟨rfl,b1⟩
            go_wp2
            go_roundw
            case rel => exact ⟨k + 1,by go_num,by omega,HW.o.trans (b1.mono HW.o.size),HX.o.below b1,HP2⟩
            case measure => simp [intOf]; omega
        · have hC : C=true := HT.o (fun j y hy => HP.o j y (by have := (List.getElem?_eq_some_iff.1 hy).1; have := HL.o; omega) hy);have F2 : Hid (Ending.returned (.bool true)=.returned (.bool R)) := by show _=_; rw [← F.o,hC]
          clear hC
          go_wp2
          go_ret;exact ⟨F2.o,HW.o⟩
   by_cases o3 : op=3
   · subst o3;by_cases hn : n=0
     case neg =>
      have F := LH9 (HF.o false (by rw [HB2.o]; simp [hn]));have tn : (n != 0)=true := by simp [hn]
      clear hn
      go_enter Tryz.func56,Tryz.ntmps56
      go_wp2_with fail
      go_quiet ((go_at_call 87; exact quiet_left (HAR.o _)))
      go_wp2
      go_ret;exact ⟨F.o,below_drewN HW0.o _⟩
     subst hn
     cases FR
     · have F := LH9 (HF.o false (by rw [HB2.o]; simp))
       go_enter Tryz.func56,Tryz.ntmps56
       go_wp2_with fail
       go_quiet ((go_at_call 87; exact quiet_left (HAR.o _)))
       go_wp2_with fail
       refine (HFR.o _).mono ?_; rintro x w1 ⟨rfl,b1⟩
       go_wp2
       go_ret;exact ⟨F.o,(below_drewN HW0.o _).trans (b1.mono (below_drewN HW0.o _).size)⟩
     · have F := LH9 (HF.o C (by rw [HB2.o]; simp))
       go_enter Tryz.func56,Tryz.ntmps56
       go_wp2_with fail
       go_quiet ((go_at_call 87; exact quiet_left (HAR.o _)))
       go_wp2_with fail
       refine (HFR.o _).mono ?_; rintro x B1 ⟨rfl,b1⟩;have W1 := LH9 ((below_drewN HW0.o _).trans (b1.mono (below_drewN HW0.o _).size));have BX1 := LH9 ((show Mem.Blk ((w.alloc (.cells #[.int .i64 3,.int .i64 0,.string nm,.slice a len cap] 74)).drewN nq) w.heap.size 74 #[.int .i64 3,.int .i64 0,.string nm,.slice a len cap] from BX.o).below b1);clear b1
       go_wp2_with fail
       go_loopw [3] (fun i wr => ∃ k : Nat,i=.int .i64 (k : Nat)∧k≤len∧Hid (Below w.heap.size w wr)∧Hid (Mem.Blk wr w.heap.size 74 #[.int .i64 3,.int .i64 0,.string nm,.slice a len cap])∧Hid (∀ (j : Nat) y,j < k→args[j]?=some y→bE y=true)) (fun i _ => len - (intOf i).toNat)
       case atStart => exact ⟨0,rfl,Nat.zero_le _,W1.o,BX1.o,fun j y hj => absurd hj (Nat.not_lt_zero _)⟩
       case round =>
        obtain ⟨k,rfl,hk,HW,HX,HP⟩ := hrel;have c3 := HX.o.cell 3;rw [show (#[.int .i64 3,.int .i64 0,.string nm,.slice a len cap] : Array Value)[3]?=some (.slice a len cap) from rfl] at c3;by_cases hlt : k < len
        · obtain ⟨b,o,op',n',nm',args',a',len',cap',rfl,hb,hbx,hle,j1,j2,j3,hS',g0,g1,g2,g3⟩ := (HS.o.kept (Kept.of_below HW.o [])).at k hlt;have HC := LH9 (HI.o k _ _ wr hle (RepE.mk' j1 j2 j3 hS'));have HLE := LH9 hle;clear hle hS' j1 j2 j3;generalize Ex.mk op' n' nm' args'=e' at *
          cases hp : bE e'
          · rw [hp] at HC;have hC : C=false := HN.o k e' HLE.o hp;have F2 : Hid (Ending.returned (.bool false)=.returned (.bool R)) := by show _=_; rw [← F.o,hC]
            clear hp hC
            go_wp2_with fail
            refine HC.o.mono ?_; rintro r w1 ⟨rfl,b1⟩
            go_wp2
            go_ret;exact ⟨F2.o,HW.o.trans (b1.mono HW.o.size)⟩
          · rw [hp] at HC;have HP2 : Hid (∀ (j : Nat) y,j < k + 1→args[j]?=some y→bE y=true) := by
             intro j y hj hy;rcases Nat.lt_or_ge j k with h | h
             · exact HP.o j y h hy
             · obtain rfl : j=k := by omega
               rw [HLE.o] at hy; injection hy with hy; subst hy; exact hp
            clear hp
            go_wp2_with fail
            refine HC.o.mono ?_; rintro r w1 ⟨rfl,b1⟩
            go_wp2
            go_roundw
            case rel => exact ⟨k + 1,by go_num,by omega,HW.o.trans (b1.mono HW.o.size),HX.o.below b1,HP2⟩
            case measure => simp [intOf]; omega
        · have hC : C=true := HT.o (fun j y hy => HP.o j y (by have := (List.getElem?_eq_some_iff.1 hy).1; have := HL.o; omega) hy);have F2 : Hid (Ending.returned (.bool true)=.returned (.bool R)) := by show _=_; rw [← F.o,hC]
          clear hC
          go_wp2
          go_ret;exact ⟨F2.o,HW.o⟩
   have g1 : (op == 1)=false := by simp [o1]
   have g2 : (op == 2)=false := by simp [o2]
   have g3 : (op == 3)=false := by simp [o3]
   by_cases hn : n=0
   case neg =>
    have F := LH9 (HF.o false (by rw [HB2.o]; simp [hn,o1,o2]));have tn : (n != 0)=true := by simp [hn]
    clear hn o1 o2 o3
    go_enter Tryz.func56,Tryz.ntmps56
    go_wp2_with fail
    go_quiet ((go_at_call 87; exact quiet_left (HAR.o _)))
    go_wp2
    go_ret;exact ⟨F.o,below_drewN HW0.o _⟩
   subst hn
   cases he : nm.toList with
   | cons c0 ct =>
     have he2 : nm.toList.isEmpty=false := by rw [he]; rfl
     have he3 : (!nm.toList.isEmpty)=true := by rw [he2]; rfl
     have F := LH9 (HF.o false (by rw [HB2.o,he2]; simp [o3]));clear he o1 o2 o3
     go_enter Tryz.func56,Tryz.ntmps56
     go_wp2_with fail
     go_quiet ((go_at_call 87; exact quiet_left (HAR.o _)))
     go_wp2
     go_ret;exact ⟨F.o,below_drewN HW0.o _⟩
   | nil =>
     have he2 : nm.toList.isEmpty=true := by rw [he]; rfl
     have F := LH9 (HF.o C (by rw [HB2.o,he2]; simp [o2,o3]));clear o1 o2 o3
     go_enter Tryz.func56,Tryz.ntmps56
     go_wp2_with fail
     go_quiet ((go_at_call 87; exact quiet_left (HAR.o _)))
     go_wp2_with fail
     have W1 := LH9 (below_drewN HW0.o nq);obtain ⟨B1,hB1⟩ : ∃ W,W=(w.alloc (.cells #[.int .i64 op,.int .i64 0,.string nm,.slice a len cap] 74)).drewN nq := ⟨_,rfl⟩;have BX1 : Hid (Mem.Blk B1 w.heap.size 74 #[.int .i64 op,.int .i64 0,.string nm,.slice a len cap]) := by rw [hB1]; exact BX.o
     rw [← hB1] at W1 ⊢;clear hB1
     go_loopw [3] (fun i wr => ∃ k : Nat,i=.int .i64 (k : Nat)∧k≤len∧Hid (Below w.heap.size w wr)∧Hid (Mem.Blk wr w.heap.size 74 #[.int .i64 op,.int .i64 0,.string nm,.slice a len cap])∧Hid (∀ (j : Nat) y,j < k→args[j]?=some y→bE y=true)) (fun i _ => len - (intOf i).toNat)
     case atStart => exact ⟨0,rfl,Nat.zero_le _,W1.o,BX1.o,fun j y hj => absurd hj (Nat.not_lt_zero _)⟩
     case round =>
      obtain ⟨k,rfl,hk,HW,HX,HP⟩ := hrel;have c3 := HX.o.cell 3;rw [show (#[.int .i64 op,.int .i64 0,.string nm,.slice a len cap] : Array Value)[3]?=some (.slice a len cap) from rfl] at c3;by_cases hlt : k < len
      · obtain ⟨b,o,op',n',nm',args',a',len',cap',rfl,hb,hbx,hle,j1,j2,j3,hS',g0,g1,g2,g3⟩ := (HS.o.kept (Kept.of_below HW.o [])).at k hlt;have HC := LH9 (HI.o k _ _ wr hle (RepE.mk' j1 j2 j3 hS'));have HLE := LH9 hle;clear hle hS' j1 j2 j3;generalize Ex.mk op' n' nm' args'=e' at *
        cases hp : bE e'
        · rw [hp] at HC;have hC : C=false := HN.o k e' HLE.o hp;have F2 : Hid (Ending.returned (.bool false)=.returned (.bool R)) := by show _=_; rw [← F.o,hC]
          clear hp hC
          go_wp2_with fail
          refine HC.o.mono ?_; rintro r w1 ⟨rfl,b1⟩
          go_wp2
          go_ret;exact ⟨F2.o,HW.o.trans (b1.mono HW.o.size)⟩
        · rw [hp] at HC;have HP2 : Hid (∀ (j : Nat) y,j < k + 1→args[j]?=some y→bE y=true) := by
           intro j y hj hy;rcases Nat.lt_or_ge j k with h | h
           · exact HP.o j y h hy
           · obtain rfl : j=k := by omega
             rw [HLE.o] at hy; injection hy with hy; subst hy; exact hp
          clear hp
          go_wp2_with fail
          refine HC.o.mono ?_; rintro r w1 ⟨rfl,b1⟩
          go_wp2
          go_roundw
          case rel => exact ⟨k + 1,by go_num,by omega,HW.o.trans (b1.mono HW.o.size),HX.o.below b1,HP2⟩
          case measure => simp [intOf]; omega
      · have hC : C=true := HT.o (fun j y hy => HP.o j y (by have := (List.getElem?_eq_some_iff.1 hy).1; have := HL.o; omega) hy);have F2 : Hid (Ending.returned (.bool true)=.returned (.bool R)) := by show _=_; rw [← F.o,hC]
        clear hC
        go_wp2
        go_ret;exact ⟨F2.o,HW.o⟩
end
end Go.Proofs.YtmiinmndbkdjbaaGreat
