/- A part of the proof: StrC, Built, Size, SizeE, SizeT, BuiltT, Row, Ap, one behind another. -/
import Derived.Test.YtmiinmndbkdjbaaGreatMEA
import Derived.Deep.QuietTactic
import Derived.Test.YtmiinmndbkdjbaaGreatProg
import Derived.Test.YtmiinmndbkdjbaaGreatChecked
import Derived.LoopTactic
import Derived.WalkLawsBesides
import Derived.BigQuiet
import Derived.Deep.RegionWith
import Derived.IntWalk
import Derived.WalkSpells
import Derived.Deep.RegionHeld3
import Derived.Lib.Hide
import Derived.WalkKit
set_option maxRecDepth 100000
set_option maxHeartbeats 16000000
set_option linter.unusedVariables false
set_option linter.unusedSimpArgs false
namespace Go.Proofs.YtmiinmndbkdjbaaGreat
open Go.RowKit
section
def words : List ByteArray := [⟨#[122,101,114,111]⟩,⟨#[111,110,101]⟩,⟨#[103,105,118,101]⟩,⟨#[97,110,100]⟩,⟨#[111,114]⟩,⟨#[115,99,97,108,101]⟩,⟨#[119,104,101,110]⟩,⟨#[117,110,116,105,108]⟩,⟨#[97,110,121,116,105,109,101]⟩,⟨#[100,97,121]⟩,⟨#[109,105,110]⟩,⟨#[109,97,120]⟩,⟨#[105,102]⟩]
def rsv (s : ByteArray) : Bool := words.any fun k => s.toList == k.toList
theorem rsv_eq (s : ByteArray) : rsv s=(s.toList == [122,101,114,111] || s.toList == [111,110,101] || s.toList == [103,105,118,101] || s.toList == [97,110,100] || s.toList == [111,114] || s.toList == [115,99,97,108,101] || s.toList == [119,104,101,110] || s.toList == [117,110,116,105,108] || s.toList == [97,110,121,116,105,109,101] || s.toList == [100,97,121] || s.toList == [109,105,110] || s.toList == [109,97,120] || s.toList == [105,102]) := by
 unfold rsv words;simp only [List.any_cons,List.any_nil,ByteArray.toList_eq,Bool.or_false,Bool.or_assoc]
theorem reserved_any (s : ByteArray) (w : World) : Calls Tryz.prog 130 #[.string s] w fun e w' => e=.returned (.bool (rsv s))/\w=w' := by
 have HF : Hid (∀ b,rsv s=b->Ending.returned (.bool b)=.returned (.bool (rsv s))) := fun b h => ret_bool h.symm
 have HR := LH9 (rsv_eq s)
 go_enter Tryz.func130,Tryz.ntmps130
 go_wp2
 all_goals
  go_ret;exact ⟨HF.o _ (by rw [HR.o]; simp_all),rfl⟩
theorem words_len : words.length=13 := rfl
theorem rsv_at (s : ByteArray) (k : Nat) (h : k < 13) (he : ((words.getD k ByteArray.empty).toList == s.toList)=true) : rsv s=true := by
 unfold rsv;rw [List.any_eq_true];refine ⟨words.getD k ByteArray.empty,?_,?_⟩
 . rw [List.getD_eq_getElem?_getD,List.getElem?_eq_getElem (by rw [words_len]; exact h)]; exact List.getElem_mem _
 . have := eq_of_beq he; rw [this]; exact beq_self_eq_true _
theorem rsv_none (s : ByteArray) (h : ∀ k,k < 13->((words.getD k ByteArray.empty).toList == s.toList)=false) : rsv s=false := by
 unfold rsv;rw [List.any_eq_false];intro x hx;obtain ⟨k,hk,rfl⟩ := List.getElem_of_mem hx;have := h k (by rw [words_len] at hk; exact hk);rw [List.getD_eq_getElem?_getD,List.getElem?_eq_getElem hk] at this;intro he;have e := eq_of_beq he;simp only [Option.getD_some] at this;rw [e,beq_self_eq_true] at this; cases this
theorem rreserved_any (s : ByteArray) (w : World) : Calls Tryz.prog 86 #[.string s] w fun e w' => e=.returned (.bool (rsv s))/\Below w.heap.size w w' := by
 have HT : Hid (∀ k,k < 13->((words.getD k ByteArray.empty).toList == s.toList)=true->Ending.returned (.bool true)=.returned (.bool (rsv s))) := fun k h he => ret_bool (rsv_at s k h he).symm
 have HF : Hid ((∀ k,k < 13->((words.getD k ByteArray.empty).toList == s.toList)=false)->Ending.returned (.bool false)=.returned (.bool (rsv s))) := fun h => ret_bool (rsv_none s h).symm
 have HC : Hid (∀ k,k < 13->(w.alloc (.cells (words.map Value.string).toArray 9)).cell? ⟨w.heap.size,k,none⟩=some (.string (words.getD k ByteArray.empty))) := by
  intro k hk;have B : Mem.Blk _ w.heap.size 9 (words.map Value.string).toArray := Mem.Blk.new w 9 _;rw [B.cell]
  match k,hk with
  | 0,_ => rfl
  | 1,_ => rfl
  | 2,_ => rfl
  | 3,_ => rfl
  | 4,_ => rfl
  | 5,_ => rfl
  | 6,_ => rfl
  | 7,_ => rfl
  | 8,_ => rfl
  | 9,_ => rfl
  | 10,_ => rfl
  | 11,_ => rfl
  | 12,_ => rfl
  | n + 13,h => omega
 have HB := LH9 ((Below.refl w.heap.size w).alloc (Nat.le_refl _) (.cells (words.map Value.string).toArray 9))
 go_enter Tryz.func86,Tryz.ntmps86
 go_wp2_with fail;have HE : Hid (∀ W,W=w.alloc (.cells (words.map Value.string).toArray 9)->Below w.heap.size w W/\∀ k,k < 13->W.cell? ⟨w.heap.size,k,none⟩=some (.string (words.getD k ByteArray.empty))) := fun W h => by subst h; exact ⟨HB.o,HC.o⟩
 generalize hW : w.alloc _=v;obtain ⟨HB,HC⟩ := HE.o v (by rw [<- hW]; rfl);have HC2 := LH9 HC;clear HE hW HC
 go_loop [4] (fun n => ∃ k : Nat,n=.int .i64 k/\k<=13/\Hid (∀ j,j < k->((words.getD j ByteArray.empty).toList == s.toList)=false)) (fun n => 13 - (intOf n).toNat)
 case atStart => exact ⟨0,rfl,Nat.zero_le _,fun j hj => absurd hj (Nat.not_lt_zero _)⟩
 case round =>
  obtain ⟨k,rfl,hk,HP⟩ := hrel;by_cases hlt : k < 13
  . have hc := HC2.o k hlt;have F := HT.o k hlt;have HN : Hid (((words.getD k ByteArray.empty).toList == s.toList)=false->∀ j,j < k + 1->((words.getD j ByteArray.empty).toList == s.toList)=false) := by
     intro h j hj;rcases Nat.lt_or_ge j k with h1 | h1
     . exact HP.o j h1
     . obtain rfl : j=k := by omega
       exact h
    have F2 := LH9 F;clear F;generalize words.getD k ByteArray.empty=x at *
    cases hx : (x.toList == s.toList)
    . have HN2 := LH9 (HN.o hx)
      go_wp2
      go_round
      case rel => exact ⟨k + 1,by go_num,by omega,HN2.o⟩
      case measure => simp [intOf]; omega
    . have F3 := LH9 (F2.o hx)
      go_wp2
      go_ret;exact ⟨F3.o,HB⟩
  . have F := LH9 (HF.o (fun j hj => HP.o j (by omega)))
    go_wp2
    go_ret;exact ⟨F.o,HB⟩
def fre (s : ByteArray) : Bool := nmd s && !rsv s
theorem free_any (s : ByteArray) (w : World) (hs : s.size<=9223372036854775807) : Calls Tryz.prog 102 #[.string s] w fun e w' => e=.returned (.bool (fre s))/\w=w' := by
 have HF : Hid (∀ b,fre s=b->Ending.returned (.bool b)=.returned (.bool (fre s))) := fun b h => ret_bool h.symm
 have HD := LH9 (show fre s=(nmd s && !rsv s) from rfl);have H1 := LH9 (fun W => named_any s W hs);have H2 := LH9 (fun W => reserved_any s W);generalize nmd s=a at *;generalize rsv s=b at *
 cases a
 . have F := LH9 (HF.o false (by rw [HD.o]; rfl))
   go_enter Tryz.func102,Tryz.ntmps102
   go_wp2_with fail;refine (H1.o _).mono ?_; rintro e w' ⟨rfl,rfl⟩
   go_wp2
   go_ret;exact ⟨F.o,rfl⟩
 . have F := LH9 (HF.o (!b) (by rw [HD.o]; rfl))
   go_enter Tryz.func102,Tryz.ntmps102
   go_wp2_with fail;refine (H1.o _).mono ?_; rintro e w' ⟨rfl,rfl⟩;go_wp2_with fail;refine (H2.o _).mono ?_; rintro e w' ⟨rfl,rfl⟩
   go_wp2
   go_ret;exact ⟨F.o,rfl⟩
theorem rfree_any (s : ByteArray) (w : World) (hs : s.size<=9223372036854775807) : Calls Tryz.prog 55 #[.string s] w fun e w' => e=.returned (.bool (fre s))/\Below w.heap.size w w' := by
 have HF : Hid (∀ b,fre s=b->Ending.returned (.bool b)=.returned (.bool (fre s))) := fun b h => ret_bool h.symm
 have HD := LH9 (show fre s=(nmd s && !rsv s) from rfl);have H1 := LH9 (fun W => rnamed_any s W hs);have H2 := LH9 (fun W => rreserved_any s W);generalize nmd s=a at *;generalize rsv s=b at *
 cases a
 . have F := LH9 (HF.o false (by rw [HD.o]; rfl))
   go_enter Tryz.func55,Tryz.ntmps55
   go_wp2_with fail;refine (H1.o _).mono ?_; rintro e w' ⟨rfl,rfl⟩
   go_wp2
   go_ret;exact ⟨F.o,Below.refl _ _⟩
 . have F := LH9 (HF.o (!b) (by rw [HD.o]; rfl))
   go_enter Tryz.func55,Tryz.ntmps55
   go_wp2_with fail;refine (H1.o _).mono ?_; rintro e w' ⟨rfl,rfl⟩;go_wp2_with fail;refine (H2.o _).mono ?_; rintro e w1 ⟨rfl,b1⟩
   go_wp2
   go_ret;exact ⟨F.o,b1⟩
end
section
theorem quiet_left {P : Program} {f : FuncId} {args : Array Value} {w : World} {n : Nat} {v : Value}
 (h : Calls P f args (w.drewN n) fun e w' => e=.returned v/\w.drewN n=w') : Calls P f args (w.drewN n) fun e w'' => e=.returned v/\∃ m,w''=w.drewN m :=
 h.mono fun _ _ ⟨he,hm⟩ => ⟨he,n,hm.symm⟩
def ar (op : Int) : Int := if 1<=op/\op<=4 then 0 else if 5<=op/\op<=18 then 2 else if op=19\/op=20 then 1 else if op=21 then 3 else -1
theorem arity_any (op : Int) (w : World) : Calls Tryz.prog 131 #[.int .i64 op] w fun e w' => e=.returned (.int .i64 (ar op))/\w=w' := by
 by_cases h5 : op=19
 . subst h5; rw [show ar 19=1 by decide]; go_enter Tryz.func131,Tryz.ntmps131; go_wp2; go_ret; exact ⟨rfl,rfl⟩
 by_cases h6 : op=20
 . subst h6; rw [show ar 20=1 by decide]; go_enter Tryz.func131,Tryz.ntmps131; go_wp2; go_ret; exact ⟨rfl,rfl⟩
 by_cases h7 : op=21
 . subst h7; rw [show ar 21=3 by decide]; go_enter Tryz.func131,Tryz.ntmps131; go_wp2; go_ret; exact ⟨rfl,rfl⟩
 have g5 : (op == 19)=false := by simp [h5]
 have g6 : (op == 20)=false := by simp [h6]
 have g7 : (op == 21)=false := by simp [h7]
 have HF : Hid (∀ x,ar op=x->Ending.returned (.int .i64 x)=.returned (.int .i64 (ar op))) := fun x h => by rw [h]
 have HD := LH9 (show ar op=if 1<=op/\op<=4 then 0 else if 5<=op/\op<=18 then 2 else if op=19\/op=20 then 1 else if op=21 then 3 else -1 from rfl);by_cases h1 : 1<=op <;> by_cases h2 : op<=4 <;> by_cases h3 : 5<=op <;> by_cases h4 : op<=18
 all_goals
  first
  | (exfalso; omega)
  | (go_enter Tryz.func131,Tryz.ntmps131
     go_wp2
     all_goals
      go_ret;exact ⟨HF.o _ (by rw [HD.o]; repeat' split <;> omega),rfl⟩)
def arX (op : Int) : Int := if op=1\/op=2\/op=3\/op=4\/op=5 then 0 else if op=6\/op=7\/op=8\/op=9 then 1 else -1
def arT (op : Int) : Int := if op=1\/op=2 then 0 else if op=3 then 1 else if op=4\/op=5 then 2 else if op=6\/op=7\/op=8\/op=9 then 1 else -1
theorem arities_any (op : Int) (w : World) : Calls Tryz.prog 101 #[.int .i64 op] w fun e w' => e=.returned (.tuple #[.int .i64 (arX op),.int .i64 (arT op)])/\w=w' := by
 have HF : Hid (∀ x y,arX op=x->arT op=y->Ending.returned (.tuple #[.int .i64 x,.int .i64 y])=.returned (.tuple #[.int .i64 (arX op),.int .i64 (arT op)])) := fun x y h h' => by rw [h,h']
 have HD := LH9 (show arX op=if op=1\/op=2\/op=3\/op=4\/op=5 then 0 else if op=6\/op=7\/op=8\/op=9 then 1 else -1 from rfl);have HE := LH9 (show arT op=if op=1\/op=2 then 0 else if op=3 then 1 else if op=4\/op=5 then 2 else if op=6\/op=7\/op=8\/op=9 then 1 else -1 from rfl)
 go_enter Tryz.func101,Tryz.ntmps101
 go_wp2
 all_goals
  go_ret2;exact ⟨HF.o _ _ (by rw [HD.o]; simp_all) (by rw [HE.o]; simp_all),rfl⟩
def okE (op n : Int) (nm : ByteArray) : Bool := (n == 0 || op == 1 || op == 2) && (nm.toList.isEmpty || op == 3) && decide (0<=n) && !(op == 2 && decide (2932896 < n)) && !(op == 3 && !fre nm)
def bE : Ex->Bool
 | .mk op n nm l => (ar op == (l.length : Nat)) && okE op n nm && go l
 where go : List Ex->Bool
 | [] => true
 | e :: t => bE e && go t
theorem bE_go (l : List Ex) : bE.go l=!l.any fun e => !bE e := by
 induction l with
 | nil => rfl
 | cons x t ih => simp only [bE.go,ih,List.any_cons,Bool.not_or,Bool.not_not]
theorem builtExpr_any : ∀ (r : Nat) (e : Ex),e.rk<=r->∀ (cs : List Value) (w : World),RepE w [] e cs ->
 Calls Tryz.prog 104 #[.agg cs.toArray] w fun x w' => x=.returned (.bool (bE e))/\Below w.heap.size w w' := by
 intro r
 induction r with
 | zero => intro e h; have : 1<=e.rk := by cases e; simp only [Ex.rk]; omega
           omega
 | succ r ih =>
   intro e hr cs w hR;obtain ⟨op,n,nm,args,a,len,cap,rfl,rfl,i1,i2,i3,hS⟩ := hR.inv;obtain ⟨f1,f2,f3⟩ := hS.facts;have HR := LH9 hr;have HW0 := LH9 ((Below.refl w.heap.size w).alloc (Nat.le_refl _) (.cells #[.int .i64 op,.int .i64 n,.string nm,.slice a len cap] 74));have HC : Hid (∀ W,Below w.heap.size w W->Calls Tryz.prog 65 #[.slice a len cap,.func (.func 132) #[] #[]] W fun e w' => e=.returned (.bool (args.any fun e => !bE e))/\Below W.heap.size W w') := by
    intro W hW;refine containsE_any 132 _ args a len cap W (enters_of Tryz.func132 (by kernel_rfl) rfl) (hS.kept (Kept.of_below hW [])) ?_;intro k e' cs' W' hk hR';have hlt := Ex.rk_lt (op := op) (n := n) (nm := nm) hk;have HI := LH9 (fun W1 hW1 => ih e' (by omega) cs' W1 (hR'.kept hW1));obtain ⟨op',n',nm',args',a',len',cap',rfl,rfl,_,_,_,_⟩ := hR'.inv;have hk0 := LH9 (Kept.alloc W' (.cells #[.int .i64 op',.int .i64 n',.string nm',.slice a' len' cap'] 74) []);generalize bE (.mk op' n' nm' args')=v at *;clear hR' hlt hR hS hW ih hk
    go_enter Tryz.func132,Tryz.ntmps132
    exact Z7_96
   have HAR := LH9 (fun W => arity_any op W);have HFR := LH9 (fun W => free_any nm W i3);have HB := LH9 (show bE (.mk op n nm args)=((ar op == (len : Nat)) && okE op n nm && !(args.any fun e => !bE e)) by rw [<- bE_go,<- f1]; rfl);have HO := LH9 (show okE op n nm=((n == 0 || op == 1 || op == 2) && (nm.toList.isEmpty || op == 3) && decide (0<=n) && !(op == 2 && decide (2932896 < n)) && !(op == 3 && !fre nm)) from rfl);have HF : Hid (∀ x,bE (.mk op n nm args)=x->Ending.returned (.bool x)=.returned (.bool (bE (.mk op n nm args)))) := fun x h => by rw [h]
   generalize bE (.mk op n nm args)=R at *;generalize hC : (args.any fun e => !bE e)=C0 at *;obtain ⟨C,rfl⟩ : ∃ C,C0=!C := ⟨!C0,by simp⟩;clear hC;generalize ar op=A at *;generalize fre nm=FR at *;generalize okE op n nm=OK at *;clear ih hr hR hS f1 i1 i2;by_cases hA : A=(len : Int)
   case neg =>
    have F := LH9 (HF.o false (by rw [HB.o]; simp [hA]));have t1 : (A != (len : Int))=true := by simp [hA]
    clear hA
    exact Z7_54
   subst hA;have HB2 := LH9 (show R=(((n == 0 || op == 1 || op == 2) && (nm.toList.isEmpty || op == 3) && decide (0<=n) && !(op == 2 && decide (2932896 < n)) && !(op == 3 && !FR)) && C) by rw [HB.o,HO.o]; simp);clear HB HO;by_cases hn : n=0
   . subst hn
     cases he : nm.toList with
     | nil =>
       have he2 : nm.toList.isEmpty=true := by rw [he]; rfl
       by_cases o3 : op=3
       . subst o3
         cases FR
         . exact Z7_107
         . have F := LH9 (HF.o C (by rw [HB2.o,he2]; simp))
           go_enter Tryz.func104,Tryz.ntmps104
           go_wp2_with fail;go_quiet ((go_at_call 131; exact quiet_left (HAR.o _)));go_wp2_with fail;refine (HFR.o _).mono ?_; rintro x w' ⟨rfl,rfl⟩;exact Z7_58
       . have F := LH9 (HF.o C (by rw [HB2.o,he2]; simp [o3]));have g3 : (op == 3)=false := by simp [o3]
         have g3' : (op != 3)=true := by simp [o3]
         clear o3;by_cases o2 : op=2
         . subst o2
           go_enter Tryz.func104,Tryz.ntmps104
           go_wp2_with fail;go_quiet ((go_at_call 131; exact quiet_left (HAR.o _)));exact Z7_58
         . have g2 : (op == 2)=false := by simp [o2]
           clear o2
           go_enter Tryz.func104,Tryz.ntmps104
           go_wp2_with fail;go_quiet ((go_at_call 131; exact quiet_left (HAR.o _)));exact Z7_58
     | cons c0 ct =>
       have he2 : nm.toList.isEmpty=false := by rw [he]; rfl
       have he3 : (!nm.toList.isEmpty)=true := by rw [he2]; rfl
       clear he;by_cases o3 : op=3
       . subst o3
         cases FR
         . exact Z7_107
         . have F := LH9 (HF.o C (by rw [HB2.o,he2]; simp))
           go_enter Tryz.func104,Tryz.ntmps104
           go_wp2_with fail;go_quiet ((go_at_call 131; exact quiet_left (HAR.o _)));go_wp2_with fail;refine (HFR.o _).mono ?_; rintro x w' ⟨rfl,rfl⟩;exact Z7_58
       . have F := LH9 (HF.o false (by rw [HB2.o,he2]; simp [o3]));have g3 : (op == 3)=false := by simp [o3]
         have g3' : (op != 3)=true := by simp [o3]
         clear o3
         exact Z7_54
   have tn : (n != 0)=true := by simp [hn]
   by_cases o1 : op=1
   . subst o1
     cases he : nm.toList with
     | cons c0 ct =>
       have he2 : nm.toList.isEmpty=false := by rw [he]; rfl
       have he3 : (!nm.toList.isEmpty)=true := by rw [he2]; rfl
       have F := LH9 (HF.o false (by rw [HB2.o,he2]; simp));clear he
       exact Z7_54
     | nil =>
       have he2 : nm.toList.isEmpty=true := by rw [he]; rfl
       by_cases hneg : n < 0
       . have F := LH9 (HF.o false (by rw [HB2.o]; simp; omega))
         exact Z7_54
       . have F := LH9 (HF.o C (by rw [HB2.o,he2]; simp; omega))
         go_enter Tryz.func104,Tryz.ntmps104
         go_wp2_with fail;go_quiet ((go_at_call 131; exact quiet_left (HAR.o _)));exact Z7_58
   by_cases o2 : op=2
   . subst o2
     cases he : nm.toList with
     | cons c0 ct =>
       have he2 : nm.toList.isEmpty=false := by rw [he]; rfl
       have he3 : (!nm.toList.isEmpty)=true := by rw [he2]; rfl
       have F := LH9 (HF.o false (by rw [HB2.o,he2]; simp));clear he
       exact Z7_54
     | nil =>
       have he2 : nm.toList.isEmpty=true := by rw [he]; rfl
       by_cases hneg : n < 0
       . have F := LH9 (HF.o false (by rw [HB2.o]; simp; omega))
         exact Z7_54
       . by_cases hbig : 2932896 < n
         . have F := LH9 (HF.o false (by rw [HB2.o]; simp [hbig]))
           exact Z7_54
         . have F := LH9 (HF.o C (by rw [HB2.o,he2,decide_eq_false hbig,decide_eq_true (show 0<=n by omega)]; simp))
           go_enter Tryz.func104,Tryz.ntmps104
           go_wp2_with fail;go_quiet ((go_at_call 131; exact quiet_left (HAR.o _)));exact Z7_58
   have F := LH9 (HF.o false (by rw [HB2.o]; simp [hn,o1,o2]));have g1 : (op != 1)=true := by simp [o1]
   have g2 : (op != 2)=true := by simp [o2]
   clear o1 o2 hn
   exact Z7_54
end
section
def sz2 (a b : Int) : Value := .agg #[.int .i64 a,.int .i64 b]
theorem with_any (a b c d : Int) (w : World) (ha : 0<=a/\a<=1000) (hb : 0<=b/\b<=1000) (hc : 0<=c/\c<=1000) (hd : 0<=d/\d<=1000) :
 Calls Tryz.prog 99 #[.agg #[.int .i64 a,.int .i64 b],.agg #[.int .i64 c,.int .i64 d]] w fun e w' => e=.returned (.agg #[.int .i64 (min (a + c) 1000),.int .i64 (min (max b (d + 1)) 1000)])/\Below w.heap.size w w' := by
 obtain ⟨a0,a1⟩ := ha;obtain ⟨b0,b1⟩ := hb;obtain ⟨c0,c1⟩ := hc;obtain ⟨d0,d1⟩ := hd
 go_enter Tryz.func99,Tryz.ntmps99
 go_wp2
 all_goals
  refine bodyPost_ret (v := .agg #[.int .i64 (min (a + c) 1000),.int .i64 (min (max b (d + 1)) 1000)]) (by simp [results,Tryz.results99,go_sem] <;> omega) rfl ⟨rfl,?_⟩;exact (((Below.refl _ _).alloc (Nat.le_refl _) _).alloc (by simp) _).alloc (by simp; omega) _
theorem small_size_any (a b : Int) (w : World) : Calls Tryz.prog 81 #[.agg #[.int .i64 a,.int .i64 b]] w fun e w' => e=.returned (.bool (decide (a<=200) && decide (b<=16)))/\Below w.heap.size w w' := by
 by_cases h : a<=200
 . go_enter Tryz.func81,Tryz.ntmps81
   go_wp2
   go_ret;exact ⟨by rw [decide_eq_true h]; rfl,(Below.refl _ _).alloc (Nat.le_refl _) _⟩
 . go_enter Tryz.func81,Tryz.ntmps81
   go_wp2
   go_ret;exact ⟨by rw [decide_eq_false (show ¬ a<=200 by omega)]; rfl,(Below.refl _ _).alloc (Nat.le_refl _) _⟩
def tld (a b : Int) : Bool := decide (a < 1000/\b < 1000)
theorem told_size_any (a b : Int) (w : World) : Calls Tryz.prog 92 #[.agg #[.int .i64 a,.int .i64 b]] w fun e w' => e=.returned (.tuple #[.int .i64 (if tld a b then a else 1000),.int .i64 (if tld a b then b else 1000)])/\Below w.heap.size w w' := by
 by_cases h : a < 1000/\b < 1000
 . have e : tld a b=true := by unfold tld; simpa using h
   rw [e];obtain ⟨h1,h2⟩ := h;clear e
   go_enter Tryz.func92,Tryz.ntmps92
   go_wp2
   all_goals
    go_quiet (fail)
    go_wp2
    go_ret2;exact ⟨rfl,below_drewN ((Below.refl _ _).alloc (Nat.le_refl _) _) _⟩
 . have e : tld a b=false := by unfold tld; simpa using h
   rw [e];clear e;have hm : (1000 : Int)<=max a b := by omega
   go_enter Tryz.func92,Tryz.ntmps92
   go_wp2
   all_goals
    go_ret2;exact ⟨rfl,(Below.refl _ _).alloc (Nat.le_refl _) _⟩
end
section
def SizeIs (nd rk : Nat) (x : Ending) : Prop := ∃ d : Int,x=.returned (.agg #[.int .i64 (min (nd : Int) 1000),.int .i64 d])/\0<=d/\d<=1000/\(nd < 1000->d=rk)
theorem Ex.rk_pos (e : Ex) : 1<=e.rk := by cases e; simp only [Ex.rk]; omega
theorem sizeExpr_any : ∀ (r : Nat) (e : Ex),e.rk<=r->∀ (cs : List Value) (at_ : Int) (w : World),RepE w [] e cs->0<=at_->at_ + e.rk<=1000 ->
 Calls Tryz.prog 100 #[.agg cs.toArray,.int .i64 at_] w fun x w' => SizeIs e.nd e.rk x/\Below w.heap.size w w' := by
 intro r
 induction r with
 | zero => intro e h; have := e.rk_pos; omega
 | succ r ih =>
   intro e hr cs at_ w hR h0 h1;have IH := LH9 ih;clear ih;obtain ⟨op,n,nm,args,a,len,cap,rfl,rfl,i1,i2,i3,hS⟩ := hR.inv;have HS := LH9 hS;obtain ⟨f1,f2,f3⟩ := hS.facts;have HL := LH9 f1;have HR := LH9 hr;have HND := LH9 (show (Ex.mk op n nm args).nd=1 + Ex.nd.go args from rfl);have HRK := LH9 (show (Ex.mk op n nm args).rk=1 + Ex.rk.go args from rfl);have HEL := LH9 (fun (k : Nat) (e : Ex) (h : args[k]?=some e) => Ex.rk_lt (op := op) (n := n) (nm := nm) h);generalize (Ex.mk op n nm args).nd=ND at *;generalize (Ex.mk op n nm args).rk=RK at *;have T := LH9 (((((Below.refl _ w).alloc (Nat.le_refl _) (.cells #[.int .i64 op,.int .i64 n,.string nm,.slice a len cap] 74)).alloc (by simp) (.cells #[.int .i64 0,.int .i64 0] 153)).alloc (by simp; omega) (.cells #[.int .i64 1,.int .i64 1] 153)) : Below w.heap.size w _);have TB := LH9 (Mem.Blk.new ((w.alloc (.cells #[.int .i64 op,.int .i64 n,.string nm,.slice a len cap] 74)).alloc (.cells #[.int .i64 0,.int .i64 0] 153)) 153 #[.int .i64 1,.int .i64 1]);have TR := LH9 ((Mem.Blk.new (w.alloc (.cells #[.int .i64 op,.int .i64 n,.string nm,.slice a len cap] 74)) 153 #[.int .i64 0,.int .i64 0]).alloc (.cells #[.int .i64 1,.int .i64 1] 153));have e1 : (w.alloc (.cells #[.int .i64 op,.int .i64 n,.string nm,.slice a len cap] 74)).heap.size=w.heap.size + 1 := by simp
   have e2 : ((w.alloc (.cells #[.int .i64 op,.int .i64 n,.string nm,.slice a len cap] 74)).alloc (.cells #[.int .i64 0,.int .i64 0] 153)).heap.size=w.heap.size + 1 + 1 := by simp
   rw [e1] at TR;rw [e2] at TB;clear i1 i2 i3 f1 hr hR hS e1 e2
   go_enter Tryz.func100,Tryz.ntmps100
   go_wp2_with fail
   go_loopw [12] (fun i wr => ∃ (k : Nat) (d : Int),i=.int .i64 (k : Nat)/\k<=len/\Hid (Below w.heap.size w wr)/\Hid (Mem.Blk wr (w.heap.size + 1) 153 #[.int .i64 0,.int .i64 0]) /\
    Hid (Mem.Blk wr (w.heap.size + 1 + 1) 153 #[.int .i64 (min ((1 + Ex.nd.go (args.take k) : Nat) : Int) 1000),.int .i64 d])/\0<=d/\d<=1000/\Hid (1 + Ex.nd.go (args.take k) < 1000->d=((1 + Ex.rk.go (args.take k) : Nat) : Int))) (fun i _ => len - (intOf i).toNat)
   case atStart => exact ⟨0,1,rfl,Nat.zero_le _,T.o,TR.o,TB.o,by omega,by omega,fun _ => rfl⟩
   case round =>
    obtain ⟨k,d,rfl,hk,HW,HA,HB,d0,d1,HD⟩ := hrel;have hBlt := HB.o.lt;have hAlt := HA.o.lt;obtain ⟨p1,p2,p3,p4⟩ := HA.o.two;obtain ⟨q1,q2,q3,q4⟩ := HB.o.two;by_cases hlt : k < len
    . obtain ⟨b,o,op',n',nm',args',a',len',cap',rfl,hb,hbx,hle,j1,j2,j3,hS',g0,g1,g2,g3⟩ := (HS.o.kept (Kept.of_below HW.o [])).at k hlt;have hel := HEL.o k _ hle;have hat : at_ < 1000 := by have := Ex.rk_pos (Ex.mk op' n' nm' args'); omega
      have hat2 : at_ + 1<=1000 := by omega
      have hN := Ex.nd_take hle;have hK := Ex.rk_take hle;have hmx := Ex.nd_le args (k + 1);have hx0 : (0 : Int)<=min ((1 + Ex.nd.go (args.take k) : Nat) : Int) 1000 := by omega
      have hx1 : min ((1 + Ex.nd.go (args.take k) : Nat) : Int) 1000<=1000 := by omega
      by_cases hbig : 1000<=1 + Ex.nd.go (args.take k)
      . have FIN : Hid (SizeIs ND RK (.returned (.agg #[.int .i64 1000,.int .i64 1000]))) := by
         have hm : 1000<=ND := by rw [HND.o]; have := Ex.nd_le args k; omega
         show SizeIs ND RK _;exact ⟨1000,by rw [show min (ND : Int) 1000=1000 by omega],by omega,by omega,fun h => by omega⟩
        have hmm : (1000 : Int)<=min ((1 + Ex.nd.go (args.take k) : Nat) : Int) 1000 := by omega
        clear hbig hN hK hmx HD hx0 hx1;generalize min ((1 + Ex.nd.go (args.take k) : Nat) : Int) 1000=x at *
        go_wp2
        refine bodyPost_ret (v := .agg #[.int .i64 1000,.int .i64 1000]) (by simp [results,Tryz.results100,go_sem,p1,p2,hAlt]) rfl ⟨FIN.o,?_⟩;exact ((HW.o.setCell (by simp) _).setCell (by simp) _).alloc (by simpa [World.setCell] using HW.o.size) _
      . have hmm : min ((1 + Ex.nd.go (args.take k) : Nat) : Int) 1000 < 1000 := by omega
        have HIH := LH9 (fun W hW => IH.o (Ex.mk op' n' nm' args') (by have := HR.o; omega) [.int .i64 op',.int .i64 n',.string nm',.slice a' len' cap'] (at_ + 1) W (RepE.mk' j1 j2 j3 (hS'.kept hW)) (by omega) (by omega));have hD := LH9 (HD.o (by omega));have HN := LH9 hN;have HK := LH9 hK;have HX : Hid ((1 + Ex.nd.go (args.take k) : Nat) < 1000) := by show _ < _; omega
        have HXE : Hid (min ((1 + Ex.nd.go (args.take k) : Nat) : Int) 1000=((1 + Ex.nd.go (args.take k) : Nat) : Int)) := by show _=_; omega
        generalize min ((1 + Ex.nd.go (args.take k) : Nat) : Int) 1000=x at *;generalize (Ex.mk op' n' nm' args').nd=en at *;generalize (Ex.mk op' n' nm' args').rk=ek at *;have hek : Hid ((ek : Int) + 1<=1000) := by show _<=_; omega
        have BX := LH9 (Mem.Blk.new wr 74 #[.int .i64 op',.int .i64 n',.string nm',.slice a' len' cap']);have BA := LH9 (HA.o.alloc (.cells #[.int .i64 op',.int .i64 n',.string nm',.slice a' len' cap'] 74));have BB := LH9 (HB.o.alloc (.cells #[.int .i64 op',.int .i64 n',.string nm',.slice a' len' cap'] 74));have hkp := LH9 (Kept.alloc wr (.cells #[.int .i64 op',.int .i64 n',.string nm',.slice a' len' cap'] 74) []);have hkd : Hid (Kept [] wr (wr.alloc (.cells #[.int .i64 op',.int .i64 n',.string nm',.slice a' len' cap'] 74)).drew) := ⟨hkp.o.1,hkp.o.2⟩;have HW2 := LH9 (HW.o.alloc HW.o.size (.cells #[.int .i64 op',.int .i64 n',.string nm',.slice a' len' cap'] 74));have hwrap : IntKind.i64.wrap (at_ + 1)=at_ + 1 := IntWalk.i64_in _ (by omega);clear hbig hN hK hmx HD HEL hel hS' HS;go_wp2_with fail
        go_region_with (first
         | (go_at_call 100
            go_loud ((refine (HIH.o _ hkd.o).mono ?_; rintro y w1 ⟨⟨d',rfl,z0,z1,hd'⟩,b1⟩; obtain ⟨r1,r2,r3,r4⟩ := (BB.o.drew.below b1).two)))
         | (go_at_call 99
            refine (with_any _ _ _ _ _ ⟨hx0,hx1⟩ ⟨d0,d1⟩ ⟨by omega,by omega⟩ ⟨z0,z1⟩).mono ?_;rintro y w2 ⟨rfl,b2⟩;obtain ⟨r5,r6,r7,r8⟩ := ((BB.o.drew.below b1).below b2).two))
        all_goals
         have W3 := LH9 ((HW2.o.drew.trans (b1.mono HW2.o.size)).trans (b2.mono (HW2.o.drew.trans (b1.mono HW2.o.size)).size));have A3 := LH9 ((BA.o.drew.below b1).below b2);have B3 := LH9 ((BB.o.drew.below b1).below b2);have hA3 := A3.o.lt;clear b1 b2 BA BB BX IH HIH;have E1 : Hid (min (x + min (en : Int) 1000) 1000=min ((1 + Ex.nd.go (args.take (k + 1)) : Nat) : Int) 1000) := by
          show _=_; rw [HN.o,HXE.o]; omega
         have E2 : Hid (1 + Ex.nd.go (args.take (k + 1)) < 1000->min (max d (d' + 1)) 1000=((1 + Ex.rk.go (args.take (k + 1)) : Nat) : Int)) := by
          intro h; rw [HK.o,hD.o]; rw [HN.o] at h; have q1 := hd' (by omega); have q2 := hek.o; have q3 := hD.o; omega
         have E3 : 0<=min (max d (d' + 1)) 1000 := by omega
         have E4 : min (max d (d' + 1)) 1000<=1000 := by omega
         rw [E1.o] at *
         go_wp2
         go_roundw
         case rel => exact ⟨k + 1,min (max d (d' + 1)) 1000,by go_num,by omega,(W3.o.setCell (by simp; omega) _).setCell (by simp; omega) _,(A3.o.far (by simp) _).far (by simp) _,(B3.o.set_ 0 _).set_ 1 _,E3,E4,E2.o⟩
         case measure => simp [intOf]; omega
    . have hke : k=len := by omega
      subst hke;have FIN : Hid (SizeIs ND RK (.returned (.agg #[.int .i64 (min ((1 + Ex.nd.go (args.take k) : Nat) : Int) 1000),.int .i64 d]))) := by
       have e : args.take k=args := List.take_of_length_le (by rw [HL.o]; exact Nat.le_refl _);have hd := HD.o;rw [e] at hd ⊢;show SizeIs ND RK _;exact ⟨d,by rw [HND.o],d0,d1,fun h => by rw [HND.o] at h; rw [HRK.o]; exact hd h⟩
      clear HD hlt;generalize min ((1 + Ex.nd.go (args.take k) : Nat) : Int) 1000=x at *
      go_wp2
      refine bodyPost_ret (v := .agg #[.int .i64 x,.int .i64 d]) (by simp [results,Tryz.results100,go_sem,p1,p2,hAlt]) rfl ⟨FIN.o,?_⟩;exact (HW.o.setCell (by simp) _).setCell (by simp) _
end
section
def St (X Y : Nat) (x d : Int) : Prop := x=min (X : Int) 1000/\0<=d/\d<=1000/\(X < 1000->d=Y)
theorem St.step {X Y en ek : Nat} {x d x' d' : Int} (h : St X Y x d) (h' : St en ek x' d') (hek : ek + 1<=1000) : St (X + en) (max Y (ek + 1)) (min (x + x') 1000) (min (max d (d' + 1)) 1000) := by
 obtain ⟨h1,h2,h3,h4⟩ := h;obtain ⟨g1,g2,g3,g4⟩ := h';subst h1 g1;refine ⟨by omega,by omega,by omega,fun hh => ?_⟩;have q1 := h4 (by omega);have q2 := g4 (by omega);omega
theorem St.bd {X Y : Nat} {x d : Int} (h : St X Y x d) : 0<=x/\x<=1000/\0<=d/\d<=1000 := by
 obtain ⟨h1,h2,h3,_⟩ := h;subst h1;omega
theorem SizeIs.st {X Y : Nat} {e : Ending} (h : SizeIs X Y e) : ∃ x d,e=.returned (.agg #[.int .i64 x,.int .i64 d])/\St X Y x d := by
 obtain ⟨d,rfl,h2,h3,h4⟩ := h;exact ⟨_,d,rfl,rfl,h2,h3,h4⟩
theorem St.is {X Y : Nat} {x d : Int} (h : St X Y x d) : SizeIs X Y (.returned (.agg #[.int .i64 x,.int .i64 d])) := by
 obtain ⟨rfl,h2,h3,h4⟩ := h;exact ⟨d,rfl,h2,h3,h4⟩
theorem Te.rk_pos (e : Te) : 1<=e.rk := by cases e; simp only [Te.rk]; omega
theorem Te.nd_pos (e : Te) : 1<=e.nd := by cases e; simp only [Te.nd]; omega
theorem sizeTerm_any : ∀ (r : Nat) (e : Te),e.rk<=r->∀ (cs : List Value) (at_ : Int) (w : World),RepT w [] e cs->0<=at_->at_ + e.rk<=1000 ->
 Calls Tryz.prog 80 #[.agg cs.toArray,.int .i64 at_] w fun x w' => SizeIs e.nd e.rk x/\Below w.heap.size w w' := by
 intro r
 induction r with
 | zero => intro e h; have := e.rk_pos; omega
 | succ r ih =>
   intro e hr cs at_ w hR h0 h1;have IH := LH9 ih;clear ih;obtain ⟨op,nm,exprs,terms,a,len,cap,a2,len2,cap2,rfl,rfl,i1,i3,hS,hS2⟩ := hR.inv;have HS := LH9 hS;have HS2 := LH9 hS2;obtain ⟨f1,f2,f3⟩ := hS.facts;obtain ⟨f4,f5,f6⟩ := hS2.facts;have HL := LH9 f1;have HL2 := LH9 f4;have HR := LH9 hr;have HND := LH9 (show (Te.mk op nm exprs terms).nd=1 + Ex.nd.go exprs + Te.nd.go terms from rfl);have HRK := LH9 (show (Te.mk op nm exprs terms).rk=1 + max (Ex.rk.go exprs) (Te.rk.go terms) from rfl);have HEL := LH9 (fun (k : Nat) (e : Ex) (h : exprs[k]?=some e) => Ex.rkx_lt (op := op) (nm := nm) (l := terms) h);have HTL := LH9 (fun (k : Nat) (e : Te) (h : terms[k]?=some e) => Te.rk_lt (op := op) (nm := nm) (x := exprs) h);generalize (Te.mk op nm exprs terms).nd=ND at *;generalize (Te.mk op nm exprs terms).rk=RK at *;have T := LH9 (((((Below.refl _ w).alloc (Nat.le_refl _) (.cells #[.int .i64 op,.string nm,.slice a len cap,.slice a2 len2 cap2] 41)).alloc (by simp) (.cells #[.int .i64 0,.int .i64 0] 153)).alloc (by simp; omega) (.cells #[.int .i64 1,.int .i64 1] 153)) : Below w.heap.size w _);have T0 := LH9 (((Mem.Blk.new w 41 #[.int .i64 op,.string nm,.slice a len cap,.slice a2 len2 cap2]).alloc (.cells #[.int .i64 0,.int .i64 0] 153)).alloc (.cells #[.int .i64 1,.int .i64 1] 153));have TB := LH9 (Mem.Blk.new ((w.alloc (.cells #[.int .i64 op,.string nm,.slice a len cap,.slice a2 len2 cap2] 41)).alloc (.cells #[.int .i64 0,.int .i64 0] 153)) 153 #[.int .i64 1,.int .i64 1]);have TR := LH9 ((Mem.Blk.new (w.alloc (.cells #[.int .i64 op,.string nm,.slice a len cap,.slice a2 len2 cap2] 41)) 153 #[.int .i64 0,.int .i64 0]).alloc (.cells #[.int .i64 1,.int .i64 1] 153));have e1 : (w.alloc (.cells #[.int .i64 op,.string nm,.slice a len cap,.slice a2 len2 cap2] 41)).heap.size=w.heap.size + 1 := by simp
   have e2 : ((w.alloc (.cells #[.int .i64 op,.string nm,.slice a len cap,.slice a2 len2 cap2] 41)).alloc (.cells #[.int .i64 0,.int .i64 0] 153)).heap.size=w.heap.size + 1 + 1 := by simp
   rw [e1] at TR;rw [e2] at TB;have hat1 := LH9 h1;clear i1 i3 f1 f4 hr hR hS hS2 e1 e2 h1
   go_enter Tryz.func80,Tryz.ntmps80
   go_wp2_with fail
   go_loopw [14] (fun i wr => ∃ (k : Nat) (x d : Int),i=.int .i64 (k : Nat)/\k<=len/\Hid (Below w.heap.size w wr)/\Hid (Mem.Blk wr w.heap.size 41 #[.int .i64 op,.string nm,.slice a len cap,.slice a2 len2 cap2])/\Hid (Mem.Blk wr (w.heap.size + 1) 153 #[.int .i64 0,.int .i64 0]) /\
    Hid (Mem.Blk wr (w.heap.size + 1 + 1) 153 #[.int .i64 x,.int .i64 d])/\Hid (St (1 + Ex.nd.go (exprs.take k)) (1 + Ex.rk.go (exprs.take k)) x d)) (fun i _ => len - (intOf i).toNat)
   case atStart => exact ⟨0,1,1,rfl,Nat.zero_le _,T.o,T0.o,TR.o,TB.o,⟨rfl,by omega,by omega,fun _ => rfl⟩⟩
   case round =>
    obtain ⟨k,x,d,rfl,hk,HW,H0,HA,HB,HD⟩ := hrel;obtain ⟨p1,p2,p3,p4⟩ := HA.o.two;obtain ⟨q1,q2,q3,q4⟩ := HB.o.two;have hBlt := HB.o.lt;have hAlt := HA.o.lt;obtain ⟨x0,x1,d0,d1⟩ := HD.o.bd;by_cases hlt : k < len
    . obtain ⟨b,o,op',n',nm',args',a',len',cap',rfl,hb,hbx,hle,j1,j2,j3,hS',g0,g1,g2,g3⟩ := (HS.o.kept (Kept.of_below HW.o [])).at k hlt;have hel := HEL.o k _ hle;have hat2 : at_ + 1 + (Ex.mk op' n' nm' args').rk<=1000 := by have := hat1.o; omega
      have HN := LH9 (Ex.nd_take hle);have HK := LH9 (Ex.rk_take hle);have HIH := LH9 (fun W hW => sizeExpr_any (Ex.mk op' n' nm' args').rk (Ex.mk op' n' nm' args') (Nat.le_refl _) [.int .i64 op',.int .i64 n',.string nm',.slice a' len' cap'] (at_ + 1) W (RepE.mk' j1 j2 j3 (hS'.kept hW)) (by omega) hat2);have hek : Hid ((Ex.mk op' n' nm' args').rk + 1<=1000) := by show _<=_; omega
      generalize (Ex.mk op' n' nm' args').nd=en at *;generalize (Ex.mk op' n' nm' args').rk=ek at *;have BA := LH9 (HA.o.alloc (.cells #[.int .i64 op',.int .i64 n',.string nm',.slice a' len' cap'] 74));have BB := LH9 (HB.o.alloc (.cells #[.int .i64 op',.int .i64 n',.string nm',.slice a' len' cap'] 74));have B0 := LH9 (H0.o.alloc (.cells #[.int .i64 op',.int .i64 n',.string nm',.slice a' len' cap'] 74));have hkp := Kept.alloc wr (.cells #[.int .i64 op',.int .i64 n',.string nm',.slice a' len' cap'] 74) [];have hkd : Hid (Kept [] wr (wr.alloc (.cells #[.int .i64 op',.int .i64 n',.string nm',.slice a' len' cap'] 74)).drew) := ⟨hkp.1,hkp.2⟩;have HW2 := LH9 (HW.o.alloc HW.o.size (.cells #[.int .i64 op',.int .i64 n',.string nm',.slice a' len' cap'] 74));have hwrap : IntKind.i64.wrap (at_ + 1)=at_ + 1 := IntWalk.i64_in _ (by omega);have HSS := LH9 (fun x' d' (h : St en ek x' d') => HD.o.step h hek.o);clear HEL hel hS' HS hkp T T0 TB TR IH HTL HS2 HND HRK HL HL2 HR;go_wp2_with fail
      go_region_with (first
       | (go_at_call 100
          refine (HIH.o _ hkd.o).mono ?_;rintro y w1 ⟨hy,b1⟩;obtain ⟨x',d',rfl,hst⟩ := hy.st;obtain ⟨y0,y1,z0,z1⟩ := hst.bd;have hst2 := LH9 hst;obtain ⟨r1,r2,r3,r4⟩ := (BB.o.drew.below b1).two)
       | (go_at_call 99
          refine (with_any _ _ _ _ _ ⟨x0,x1⟩ ⟨d0,d1⟩ ⟨y0,y1⟩ ⟨z0,z1⟩).mono ?_;rintro y w2 ⟨rfl,b2⟩;obtain ⟨r5,r6,r7,r8⟩ := ((BB.o.drew.below b1).below b2).two))
      all_goals
       have W3 := LH9 ((HW2.o.drew.trans (b1.mono HW2.o.size)).trans (b2.mono (HW2.o.drew.trans (b1.mono HW2.o.size)).size));have A3 := LH9 ((BA.o.drew.below b1).below b2);have B3 := LH9 ((BB.o.drew.below b1).below b2);have C3 := LH9 ((B0.o.drew.below b1).below b2);have S3 : Hid (St (1 + Ex.nd.go (exprs.take (k + 1))) (1 + Ex.rk.go (exprs.take (k + 1))) (min (x + x') 1000) (min (max d (d' + 1)) 1000)) := by
        have h := HSS.o _ _ hst2.o;show St _ _ _ _;rw [HN.o,HK.o,<- Nat.add_assoc,show 1 + max (Ex.rk.go (exprs.take k)) ek=max (1 + Ex.rk.go (exprs.take k)) (ek + 1) by omega];exact h
       clear b1 b2 BA BB B0 HIH hst hst2 HSS
       go_wp2
       go_roundw
       case rel => exact ⟨k + 1,_,_,by go_num,by omega,(W3.o.setCell (by simp; omega) _).setCell (by simp; omega) _,(C3.o.far (by simp; omega) _).far (by simp; omega) _,(A3.o.far (by simp) _).far (by simp) _,(B3.o.set_ 0 _).set_ 1 _,S3.o⟩
       case measure => simp [intOf]; omega
    . have hke : k=len := by omega
      subst hke;have etk : exprs.take k=exprs := List.take_of_length_le (by rw [HL.o]; exact Nat.le_refl _);have HD0 : Hid (St (1 + Ex.nd.go exprs) (1 + Ex.rk.go exprs) x d) := by have h := HD.o; rw [etk] at h; exact h
      have c3 : wr.cell? ⟨w.heap.size,3,none⟩=some (.slice a2 len2 cap2) := H0.o.cell 3;clear hlt etk HD HEL T T0 TB TR HL HS p1 p2 p3 p4 q1 q2 q3 q4 x0 x1 d0 d1;have W1 := LH9 HW.o;go_wp2_with fail;clear c3 hBlt hAlt
      go_loopw [28] (fun i wr => ∃ (k : Nat) (x d : Int),i=.int .i64 (k : Nat)/\k<=len2/\Hid (Below w.heap.size w wr)/\Hid (Mem.Blk wr (w.heap.size + 1) 153 #[.int .i64 0,.int .i64 0]) /\
       Hid (Mem.Blk wr (w.heap.size + 1 + 1) 153 #[.int .i64 x,.int .i64 d])/\Hid (St (1 + Ex.nd.go exprs + Te.nd.go (terms.take k)) (1 + max (Ex.rk.go exprs) (Te.rk.go (terms.take k))) x d)) (fun i _ => len2 - (intOf i).toNat)
      case atStart => exact ⟨0,x,d,rfl,Nat.zero_le _,W1.o,HA.o,HB.o,by have h := HD0.o; show St _ _ _ _; simpa [Te.nd.go,Te.rk.go] using h⟩
      case round =>
       clear HW HA HB HD0 H0 W1;obtain ⟨k2,x,d,rfl,hk2,HW,HA,HB,HD⟩ := hrel;obtain ⟨p1,p2,p3,p4⟩ := HA.o.two;obtain ⟨q1,q2,q3,q4⟩ := HB.o.two;have hBlt := HB.o.lt;have hAlt := HA.o.lt;obtain ⟨x0,x1,d0,d1⟩ := HD.o.bd;by_cases hlt : k2 < len2
       . obtain ⟨b,o,op',nm',ex',te',a',len',cap',a3,len3,cap3,rfl,hb,hbx,hle,j1,j3,hS',hS3,g0,g1,g2,g3⟩ := (HS2.o.kept (Kept.of_below HW.o [])).at k2 hlt;have hel := HTL.o k2 _ hle;have hat : at_ < 1000 := by have := hat1.o; have := Te.rk_pos (Te.mk op' nm' ex' te'); omega
         have hat2 : at_ + 1 + (Te.mk op' nm' ex' te').rk<=1000 := by have := hat1.o; omega
         by_cases hbig : 1000<=x
         . have FIN : Hid (SizeIs ND RK (.returned (.agg #[.int .i64 1000,.int .i64 1000]))) := by
            have hm : 1000<=ND := by rw [HND.o]; have := Te.nd_le terms k2; have := HD.o.1; omega
            show SizeIs ND RK _;exact ⟨1000,by rw [show min (ND : Int) 1000=1000 by omega],by omega,by omega,fun h => by omega⟩
           clear HD
           go_wp2
           refine bodyPost_ret (v := .agg #[.int .i64 1000,.int .i64 1000]) (by simp [results,Tryz.results80,go_sem,p1,p2,hAlt]) rfl ⟨FIN.o,?_⟩;exact ((HW.o.setCell (by simp) _).setCell (by simp) _).alloc (by simpa [World.setCell] using HW.o.size) _
         . have hmm : x < 1000 := by omega
           have HN := LH9 (Te.nd_take hle);have HK := LH9 (Te.rk_take hle);have HIH := LH9 (fun W hW => IH.o (Te.mk op' nm' ex' te') (by have := HR.o; omega) [.int .i64 op',.string nm',.slice a' len' cap',.slice a3 len3 cap3] (at_ + 1) W (RepT.mk' j1 j3 (hS'.kept hW) (hS3.kept hW)) (by omega) hat2);have hek : Hid ((Te.mk op' nm' ex' te').rk + 1<=1000) := by show _<=_; omega
           generalize (Te.mk op' nm' ex' te').nd=en at *;generalize (Te.mk op' nm' ex' te').rk=ek at *;have BA := LH9 (HA.o.alloc (.cells #[.int .i64 op',.string nm',.slice a' len' cap',.slice a3 len3 cap3] 41));have BB := LH9 (HB.o.alloc (.cells #[.int .i64 op',.string nm',.slice a' len' cap',.slice a3 len3 cap3] 41));have hkp := Kept.alloc wr (.cells #[.int .i64 op',.string nm',.slice a' len' cap',.slice a3 len3 cap3] 41) [];have hkd : Hid (Kept [] wr (wr.alloc (.cells #[.int .i64 op',.string nm',.slice a' len' cap',.slice a3 len3 cap3] 41)).drew) := ⟨hkp.1,hkp.2⟩;have HW2 := LH9 (HW.o.alloc HW.o.size (.cells #[.int .i64 op',.string nm',.slice a' len' cap',.slice a3 len3 cap3] 41));have hwrap : IntKind.i64.wrap (at_ + 1)=at_ + 1 := IntWalk.i64_in _ (by omega);have HSS := LH9 (fun x' d' (h : St en ek x' d') => HD.o.step h hek.o);clear HTL hel hS' hS3 HS2 hkp IH HND HRK HL2 HR hbig;go_wp2_with fail
           go_region_with (first
            | (go_at_call 80
               refine (HIH.o _ hkd.o).mono ?_;rintro y w1 ⟨hy,b1⟩;obtain ⟨x',d',rfl,hst⟩ := hy.st;obtain ⟨y0,y1,z0,z1⟩ := hst.bd;have hst2 := LH9 hst;obtain ⟨r1,r2,r3,r4⟩ := (BB.o.drew.below b1).two)
            | (go_at_call 99
               refine (with_any _ _ _ _ _ ⟨x0,x1⟩ ⟨d0,d1⟩ ⟨y0,y1⟩ ⟨z0,z1⟩).mono ?_;rintro y w2 ⟨rfl,b2⟩;obtain ⟨r5,r6,r7,r8⟩ := ((BB.o.drew.below b1).below b2).two))
           all_goals
            have W3 := LH9 ((HW2.o.drew.trans (b1.mono HW2.o.size)).trans (b2.mono (HW2.o.drew.trans (b1.mono HW2.o.size)).size));have A3 := LH9 ((BA.o.drew.below b1).below b2);have B3 := LH9 ((BB.o.drew.below b1).below b2);have S3 : Hid (St (1 + Ex.nd.go exprs + Te.nd.go (terms.take (k2 + 1))) (1 + max (Ex.rk.go exprs) (Te.rk.go (terms.take (k2 + 1)))) (min (x + x') 1000) (min (max d (d' + 1)) 1000)) := by
             have h := HSS.o _ _ hst2.o;show St _ _ _ _;rw [HN.o,HK.o,<- Nat.add_assoc,show 1 + max (Ex.rk.go exprs) (max (Te.rk.go (terms.take k2)) ek)=max (1 + max (Ex.rk.go exprs) (Te.rk.go (terms.take k2))) (ek + 1) by omega];exact h
            clear b1 b2 BA BB HIH hst hst2 HSS
            go_wp2
            go_roundw
            case rel => exact ⟨k2 + 1,_,_,by go_num,by omega,(W3.o.setCell (by simp; omega) _).setCell (by simp; omega) _,(A3.o.far (by simp) _).far (by simp) _,(B3.o.set_ 0 _).set_ 1 _,S3.o⟩
            case measure => simp [intOf]; omega
       . have hke : k2=len2 := by omega
         subst hke;have FIN : Hid (SizeIs ND RK (.returned (.agg #[.int .i64 x,.int .i64 d]))) := by
          have e : terms.take k2=terms := List.take_of_length_le (by rw [HL2.o]; exact Nat.le_refl _);have hd := HD.o;rw [e] at hd;show SizeIs ND RK _;rw [HND.o,HRK.o];exact hd.is
         clear HD hlt
         go_wp2
         refine bodyPost_ret (v := .agg #[.int .i64 x,.int .i64 d]) (by simp [results,Tryz.results80,go_sem,p1,p2,hAlt]) rfl ⟨FIN.o,?_⟩;exact (HW.o.setCell (by simp) _).setCell (by simp) _
end
section
def okT (op : Int) (nm : ByteArray) : Bool := !(op == 2 && !fre nm) && !(op != 2 && !nm.toList.isEmpty)
def bT : Te->Bool
 | .mk op nm x l => (arX op == (x.length : Nat)) && (arT op == (l.length : Nat)) && okT op nm && !(x.any fun e => !bE e) && go l
 where go : List Te->Bool
 | [] => true
 | e :: t => bT e && go t
theorem bT_go (l : List Te) : bT.go l=!l.any fun e => !bT e := by
 induction l with
 | nil => rfl
 | cons x t ih => simp only [bT.go,ih,List.any_cons,Bool.not_or,Bool.not_not]
theorem built_any : ∀ (r : Nat) (e : Te),e.rk<=r->∀ (cs : List Value) (w : World),RepT w [] e cs ->
 Calls Tryz.prog 82 #[.agg cs.toArray] w fun x w' => x=.returned (.bool (bT e))/\Below w.heap.size w w' := by
 intro r
 induction r with
 | zero => intro e h; have := e.rk_pos; omega
 | succ r ih =>
   intro e hr cs w hR;obtain ⟨op,nm,exprs,terms,a,len,cap,a2,len2,cap2,rfl,rfl,i1,i3,hS,hS2⟩ := hR.inv;obtain ⟨f1,f2,f3⟩ := hS.facts;obtain ⟨f4,f5,f6⟩ := hS2.facts;have HW0 := LH9 ((Below.refl w.heap.size w).alloc (Nat.le_refl _) (.cells #[.int .i64 op,.string nm,.slice a len cap,.slice a2 len2 cap2] 41));have HC : Hid (∀ W,Below w.heap.size w W->Calls Tryz.prog 65 #[.slice a len cap,.func (.func 103) #[] #[]] W fun e w' => e=.returned (.bool (exprs.any fun e => !bE e))/\Below W.heap.size W w') := by
    intro W hW;refine containsE_any 103 _ exprs a len cap W (enters_of Tryz.func103 (by kernel_rfl) rfl) (hS.kept (Kept.of_below hW [])) ?_;intro k e' cs' W' hk hR';have HI := LH9 (fun W1 hW1 => builtExpr_any e'.rk e' (Nat.le_refl _) cs' W1 (hR'.kept hW1));obtain ⟨op',n',nm',args',a',len',cap',rfl,rfl,_,_,_,_⟩ := hR'.inv;have hk0 := LH9 (Kept.alloc W' (.cells #[.int .i64 op',.int .i64 n',.string nm',.slice a' len' cap'] 74) []);generalize bE (.mk op' n' nm' args')=v at *;clear hR' hR hS hS2 hW ih hk
    go_enter Tryz.func103,Tryz.ntmps103
    exact Z7_96
   have HC2 : Hid (∀ W,Below w.heap.size w W->Calls Tryz.prog 105 #[.slice a2 len2 cap2,.func (.func 106) #[] #[]] W fun e w' => e=.returned (.bool (terms.any fun e => !bT e))/\Below W.heap.size W w') := by
    intro W hW;refine containsT_any 106 _ terms a2 len2 cap2 W (enters_of Tryz.func106 (by kernel_rfl) rfl) (hS2.kept (Kept.of_below hW [])) ?_;intro k e' cs' W' hk hR';have hlt := Te.rk_lt (op := op) (nm := nm) (x := exprs) hk;have HI := LH9 (fun W1 hW1 => ih e' (by omega) cs' W1 (hR'.kept hW1));obtain ⟨op',nm',ex',te',a',len',cap',a3,len3,cap3,rfl,rfl,_,_,_,_⟩ := hR'.inv;have hk0 := LH9 (Kept.alloc W' (.cells #[.int .i64 op',.string nm',.slice a' len' cap',.slice a3 len3 cap3] 41) []);generalize bT (.mk op' nm' ex' te')=v at *;clear hR' hlt hR hS hS2 hW ih hk
    go_enter Tryz.func106,Tryz.ntmps106
    exact Z7_96
   have HAR := LH9 (fun W => arities_any op W);have HFR := LH9 (fun W => free_any nm W i3);have HB := LH9 (show bT (.mk op nm exprs terms)=((arX op == (len : Nat)) && (arT op == (len2 : Nat)) && (!(op == 2 && !fre nm) && !(op != 2 && !nm.toList.isEmpty)) && !(exprs.any fun e => !bE e) && !(terms.any fun e => !bT e)) by rw [<- bT_go,<- f1,<- f4]; rfl);have HF : Hid (∀ x,bT (.mk op nm exprs terms)=x->Ending.returned (.bool x)=.returned (.bool (bT (.mk op nm exprs terms)))) := fun x h => by rw [h]
   generalize bT (.mk op nm exprs terms)=R at *;generalize (exprs.any fun e => !bE e)=C at *;generalize (terms.any fun e => !bT e)=D at *;generalize arX op=A at *;generalize arT op=A2 at *;generalize fre nm=FR at *;clear ih hr hR hS hS2 f1 f4 i1;by_cases hA : A=(len : Int)
   case neg =>
    have F := LH9 (HF.o false (by rw [HB.o]; simp [hA]));have t1 : (A != (len : Int))=true := by simp [hA]
    clear hA
    exact Z7_108
   subst hA;by_cases hA2 : A2=(len2 : Int)
   case neg =>
    have F := LH9 (HF.o false (by rw [HB.o]; simp [hA2]));have t1 : (A2 != (len2 : Int))=true := by simp [hA2]
    clear hA2
    exact Z7_108
   subst hA2;by_cases o2 : op=2
   . subst o2
     cases FR
     . have F := LH9 (HF.o false (by rw [HB.o]; simp))
       go_enter Tryz.func82,Tryz.ntmps82
       go_wp2_with fail;refine (HAR.o _).mono ?_; rintro x w' ⟨rfl,rfl⟩;go_wp2_with fail;refine (HFR.o _).mono ?_; rintro x w' ⟨rfl,rfl⟩
       go_wp2
       go_ret;exact ⟨F.o,HW0.o⟩
     . cases C
       . have F := LH9 (HF.o (!D) (by rw [HB.o]; simp))
         go_enter Tryz.func82,Tryz.ntmps82
         go_wp2_with fail;refine (HAR.o _).mono ?_; rintro x w' ⟨rfl,rfl⟩;go_wp2_with fail;refine (HFR.o _).mono ?_; rintro x w' ⟨rfl,rfl⟩;exact Z7_90
       . have F := LH9 (HF.o false (by rw [HB.o]; simp))
         go_enter Tryz.func82,Tryz.ntmps82
         go_wp2_with fail;refine (HAR.o _).mono ?_; rintro x w' ⟨rfl,rfl⟩;go_wp2_with fail;refine (HFR.o _).mono ?_; rintro x w' ⟨rfl,rfl⟩;exact Z7_154
   . have g2 : (op == 2)=false := by simp [o2]
     have g2' : (op != 2)=true := by simp [o2]
     cases he : nm.toList with
     | cons c0 ct =>
       have he2 : nm.toList.isEmpty=false := by rw [he]; rfl
       have he3 : (!nm.toList.isEmpty)=true := by rw [he2]; rfl
       have F := LH9 (HF.o false (by rw [HB.o,he2]; simp [o2]));clear he o2
       exact Z7_108
     | nil =>
       have he2 : nm.toList.isEmpty=true := by rw [he]; rfl
       cases C
       . have F := LH9 (HF.o (!D) (by rw [HB.o,he2]; simp [o2]));clear o2
         go_enter Tryz.func82,Tryz.ntmps82
         go_wp2_with fail;refine (HAR.o _).mono ?_; rintro x w' ⟨rfl,rfl⟩;exact Z7_90
       . have F := LH9 (HF.o false (by rw [HB.o,he2]; simp));clear o2
         go_enter Tryz.func82,Tryz.ntmps82
         go_wp2_with fail;refine (HAR.o _).mono ?_; rintro x w' ⟨rfl,rfl⟩;exact Z7_154
end
section
theorem flat_len {α : Type} (sz : Nat) : ∀ (vs : List (List α)),(∀ c ∈ vs,c.length=sz)->vs.flatten.length=vs.length * sz := by
 intro vs
 induction vs with
 | nil => intro _; simp
 | cons c t ih =>
   intro h;rw [List.flatten_cons,List.length_append,ih (fun x hx => h x (List.mem_cons_of_mem _ hx)),h c (List.mem_cons_self ..),List.length_cons,Nat.add_mul]; omega
theorem flat_get {α : Type} (sz : Nat) : ∀ (vs : List (List α)),(∀ c ∈ vs,c.length=sz)->∀ (i j : Nat) (c : List α),vs[i]?=some c->j < sz->vs.flatten[i * sz + j]?=c[j]? := by
 intro vs
 induction vs with
 | nil => intro _ i j c h; cases h
 | cons d t ih =>
   intro h i j c hc hj;have hd := h d (List.mem_cons_self ..)
   cases i with
   | zero =>
     simp at hc; subst hc;rw [List.flatten_cons,Nat.zero_mul,Nat.zero_add,List.getElem?_append_left (by omega)]
   | succ k =>
     rw [List.flatten_cons,List.getElem?_append_right (by rw [hd,Nat.add_mul]; omega),hd,show (k + 1) * sz + j - sz=k * sz + j by rw [Nat.add_mul]; omega];exact ih (fun x hx => h x (List.mem_cons_of_mem _ hx)) k j c (by simpa using hc) hj
theorem Sl.len4 {w : World} {X : List Nat} {sz len cap : Nat} {a : Option Addr} {vs : List (List Value)} (h : Sl w X sz a len cap vs) : ∀ c ∈ vs,c.length=sz := by
 intro c hc;obtain ⟨i,hi,rfl⟩ := List.getElem_of_mem hc;obtain ⟨b,o,_,_,_,hq⟩ := h.2.2.2 (by have := h.1; omega);exact (hq i _ (List.getElem?_eq_getElem hi)).1
theorem Sl.cells {w : World} {X : List Nat} {sz len cap b o : Nat} {vs : List (List Value)} (h : Sl w X sz (some ⟨b,o,none⟩) len cap vs) (hz : 0 < sz) : ∀ j u,vs.flatten[j]?=some u->w.cell? ((⟨b,o,none⟩ : Addr).add j)=some u := by
 intro j u hu;have hl := h.len4;have hlen := flat_len sz vs hl;have hj : j < vs.length * sz := by rw [<- hlen]; exact (List.getElem?_eq_some_iff.1 hu).1
 have hi : j / sz < vs.length := Nat.div_lt_of_lt_mul (by rw [Nat.mul_comm]; exact hj);have hm : j % sz < sz := Nat.mod_lt _ hz;have e : j=j / sz * sz + j % sz := by rw [Nat.mul_comm]; exact (Nat.div_add_mod j sz).symm
 obtain ⟨b',o',ha,_,_,hc⟩ := h.2.2.2 (by rw [<- h.1]; exact Nat.lt_of_le_of_lt (Nat.zero_le _) hi);injection ha with ha; injection ha with h1 h2; subst h1 h2;have hci := List.getElem?_eq_getElem hi;rw [e,flat_get sz vs hl _ _ _ hci hm] at hu;rw [Mem.add_off,e,<- Nat.add_assoc];exact (hc _ _ hci).2 _ _ hu
theorem infoE : (Tryz.prog.info? 74).map (fun i => (i.zero,i.size,i.bytes))=some (some (.agg #[.int .i64 0,.int .i64 0,.string ⟨#[]⟩,.slice none 0 0]),4,56) := by kernel_rfl
theorem infoT : (Tryz.prog.info? 41).map (fun i => (i.zero,i.size,i.bytes))=some (some (.agg #[.int .i64 0,.string ⟨#[]⟩,.slice none 0 0,.slice none 0 0]),4,72) := by kernel_rfl
theorem RepE.one {w : World} {X : List Nat} {e : Ex} {cs : List Value} (h : RepE w X e cs) : cs.length=4/\∀ u ∈ cs,u.oneCell'=true := by
 obtain ⟨op,n,nm,args,a,len,cap,rfl,rfl,_⟩ := h.inv;exact ⟨rfl,by intro u hu; simp at hu; rcases hu with rfl | rfl | rfl | rfl <;> rfl⟩
theorem RepT.one {w : World} {X : List Nat} {e : Te} {cs : List Value} (h : RepT w X e cs) : cs.length=4/\∀ u ∈ cs,u.oneCell'=true := by
 obtain ⟨op,nm,ex,te,a,len,cap,a2,len2,cap2,rfl,rfl,_⟩ := h.inv;exact ⟨rfl,by intro u hu; simp at hu; rcases hu with rfl | rfl | rfl | rfl <;> rfl⟩
theorem flat_one {vs : List (List Value)} (h : ∀ c ∈ vs,∀ u ∈ c,u.oneCell'=true) : ∀ u ∈ vs.flatten,u.oneCell'=true := by
 intro u hu;obtain ⟨c,hc,hu⟩ := List.mem_flatten.1 hu;exact h c hc u hu
end
section
theorem step_ap {P : Program} {w : World} {ops : Array Oper} {o : Oper} {a : Act} {K : Act->World->Prop} {Q : Exit->Act->World->Prop} {E : Prop} {t e : TypeId} {z : Value} {size bytes base : Nat}
 (hinfo : (P.info? e).map (fun i => (i.zero,i.size,i.bytes))=some (some z,size,bytes)) (ht : P.underlying t=some (.slice e)) (hzs : z.cells.size=size) (hsz : 0 < size)
 (hgd : o.guard=none) (s x : Operand) (ho : o.op=.call { callee := .builtin .append,args := #[s,x],argTypes := #[t,t] })
 {v : Value} {n : Nat} {xs : List Value} (hs : a.eval s=v) (hown : w.ownsRow base e size v n xs) (hbase : base<=w.heap.size)
 (ad : Addr) (m c : Nat) (news : List Value) (hx : a.eval x=.slice (some ad) m c) (hl : news.length=m * size)
 (hnews : ∀ j u,news[j]?=some u->w.cell? (ad.add j)=some u) (h1 : ∀ u ∈ news,u.oneCell'=true)
 (h63 : n + m<=maxLen) (hbytes : (n + m) * bytes<=140737488355328)
 (h : ∀ v' w',w'.ownsRow base e size v' (n + m) (xs ++ news)->w.grownBy w' v.ownBlock->(v'.ownBlock=v.ownBlock\/v'.ownBlock=some w.heap.size)->K (a.put o.dst v') w') :
 if Region.wanted o (yielded ops a.tmps)=true then Oper.wp P o a w K Q else E := by
 obtain ⟨i,hi,hz,hsize,hby⟩ := info_parts hinfo;have hw : Region.wanted o (yielded ops a.tmps)=true := by simp [Region.wanted,hgd]
 rw [if_pos hw];obtain ⟨v',w',hrun,h2,h3,h4,h5⟩ := run_append_own_at (P := P) w base t o.type e i z size bytes ht hi hz hsize hby hzs hsz v n xs hown ad m c news hl hnews h1 h63 hbytes hbase;unfold Oper.wp execOp;simp only [ho,resolve,invoke,builtin,Sem.run_bind,Sem.run_pure,Result.andThen_ok,List.map_toArray,List.map_cons,List.map_nil,hs,hx,hrun];exact h v' w' h2 h3 h5
theorem own_form {w : World} {base : Nat} {e : TypeId} {sz n : Nat} {v : Value} {xs : List Value} (h : w.ownsRow base e sz v n xs) (hn : 0 < n) : ∃ g cap,v=.slice (some ⟨g,0,none⟩) n cap/\base<=g/\g < w.heap.size/\n<=cap/\v.ownBlock=some g := by
 rcases h.2 with ⟨_,h0⟩ | ⟨g,cap,cur,rfl,h1,h2,h3,_⟩
 . omega
 . exact ⟨g,cap,rfl,h1,lt_of_block h2,h3,rfl⟩
theorem own_lt {w : World} {base : Nat} {e : TypeId} {sz n : Nat} {v : Value} {xs : List Value} (h : w.ownsRow base e sz v n xs) {g : Nat} (hg : v.ownBlock=some g) : base<=g/\g < w.heap.size := by
 rcases h.2 with ⟨rfl,_⟩ | ⟨g',cap,cur,rfl,h1,h2,_⟩
 . simp [Value.ownBlock] at hg
 . simp [Value.ownBlock] at hg; subst hg; exact ⟨h1,lt_of_block h2⟩
theorem own_slice {w : World} {base : Nat} {e : TypeId} {sz n : Nat} {v : Value} {xs : List Value} (h : w.ownsRow base e sz v n xs) : ∃ a cap,v=.slice a n cap := by
 rcases h.2 with ⟨rfl,h0⟩ | ⟨g,cap,cur,rfl,_⟩
 . subst h0; exact ⟨none,0,rfl⟩
 . exact ⟨_,cap,rfl⟩
theorem own_below {w w' : World} {base : Nat} {e : TypeId} {sz n : Nat} {v : Value} {xs : List Value} (h : w.ownsRow base e sz v n xs) (hb : Below w.heap.size w w') : w'.ownsRow base e sz v n xs :=
 h.kept (Mem.grown_of_below hb none) (by
  cases hv : v.ownBlock with
  | none => exact .inl rfl
  | some g => exact .inr (by simp))
end
end Go.Proofs.YtmiinmndbkdjbaaGreat
