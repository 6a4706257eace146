/- A part of the proof: BgF, BgI, BgJ, BgK, BgH, BgG, BgM, one behind another. -/
import Derived.Test.YtmiinmndbkdjbaaGreatMTA
import Derived.Test.YtmiinmndbkdjbaaGreatMTS
import Derived.Deep.RegionHeld3
import Derived.Deep.OwnRows
import Derived.OpenShut
import Derived.Lib.Hide
import Derived.WalkKit
set_option maxRecDepth 100000
set_option maxHeartbeats 16000000
set_option linter.unusedVariables false
set_option linter.unusedSimpArgs false
namespace Go.Proofs.YtmiinmndbkdjbaaGreat
open Go.RowKit
section
theorem three_cells {w w' : World} {x1 y1 x2 y2 x3 y3 : Value} (hb : Below (w.heap.size + 3) (((w.alloc (.cells #[x1,y1] 122)).alloc (.cells #[x2,y2] 122)).alloc (.cells #[x3,y3] 122)) w') :
 w'.cell? ⟨w.heap.size,0,none⟩=some x1∧w'.cell? ⟨w.heap.size,1,none⟩=some y1∧w'.cell? ⟨w.heap.size + 1,0,none⟩=some x2∧w'.cell? ⟨w.heap.size + 1,1,none⟩=some y2∧w'.cell? ⟨w.heap.size + 2,0,none⟩=some x3∧w'.cell? ⟨w.heap.size + 2,1,none⟩=some y3∧w'.frozen? ⟨w.heap.size + 2,0,none⟩=false∧w'.frozen? ⟨w.heap.size + 2,1,none⟩=false := by
 have e1 : (w.alloc (.cells #[x1,y1] 122)).heap.size=w.heap.size + 1 := by simp
 have e2 : ((w.alloc (.cells #[x1,y1] 122)).alloc (.cells #[x2,y2] 122)).heap.size=w.heap.size + 2 := by simp
 have B1 : Mem.Blk w' w.heap.size 122 #[x1,y1] := (((Mem.Blk.new w 122 #[x1,y1]).alloc _).alloc _).call hb (by omega);have B2 : Mem.Blk w' (w.heap.size + 1) 122 #[x2,y2] := by
  have := (Mem.Blk.new (w.alloc (.cells #[x1,y1] 122)) 122 #[x2,y2]).alloc (.cells #[x3,y3] 122);rw [e1] at this; exact this.call hb (by omega)
 have B3 : Mem.Blk w' (w.heap.size + 2) 122 #[x3,y3] := by
  have := Mem.Blk.new ((w.alloc (.cells #[x1,y1] 122)).alloc (.cells #[x2,y2] 122)) 122 #[x3,y3];rw [e2] at this; exact this.call hb (by omega)
 obtain ⟨a1,a2,_,_⟩ := B1.two;obtain ⟨a3,a4,_,_⟩ := B2.two;obtain ⟨a5,a6,a7,a8⟩ := B3.two;exact ⟨a1,a2,a3,a4,a5,a6,a7,a8⟩
theorem three_blk {w w' : World} {x1 y1 x2 y2 x3 y3 : Value} (hb : Below (w.heap.size + 3) (((w.alloc (.cells #[x1,y1] 122)).alloc (.cells #[x2,y2] 122)).alloc (.cells #[x3,y3] 122)) w') : Mem.Blk w' (w.heap.size + 2) 122 #[x3,y3] := by
 have e2 : ((w.alloc (.cells #[x1,y1] 122)).alloc (.cells #[x2,y2] 122)).heap.size=w.heap.size + 2 := by simp
 have := Mem.Blk.new ((w.alloc (.cells #[x1,y1] 122)).alloc (.cells #[x2,y2] 122)) 122 #[x3,y3];rw [e2] at this; exact this.call hb (by omega)
theorem three_bel (w : World) (x1 y1 x2 y2 x3 y3 : Value) : Below w.heap.size w (((w.alloc (.cells #[x1,y1] 122)).alloc (.cells #[x2,y2] 122)).alloc (.cells #[x3,y3] 122)) :=
 (((Below.refl _ _).alloc (Nat.le_refl _) _).alloc (by simp) _).alloc (by simp; omega) _
theorem three_size (w : World) (x1 y1 x2 y2 x3 y3 : Value) : (((w.alloc (.cells #[x1,y1] 122)).alloc (.cells #[x2,y2] 122)).alloc (.cells #[x3,y3] 122)).heap.size=w.heap.size + 3 := by simp
@[irreducible] def Sm (n : Nat) : Prop := n < Big.pw 1000000
theorem Sm.lt {n : Nat} (h : Sm n) : n < Big.pw 1000000 := by unfold Sm at h; exact h
theorem Sm.of {n : Nat} (h : n < Big.pw 1000000) : Sm n := by unfold Sm; exact h
theorem far_cell {w : World} {h g i j : Nat} {u x : Value} (hc : w.cell? ⟨h,i,none⟩=some x) (hne : h ≠ g) : (w.setCell ⟨g,j,none⟩ u).cell? ⟨h,i,none⟩=some x := by
 rw [World.cell?_of_block (w := w) (Below.heap_setCell w ⟨g,j,none⟩ u h hne)]; exact hc
theorem keep4 {w : World} {h : Nat} {a b c d u v : Value} (h1 : w.cell? ⟨h,0,none⟩=some a) (h2 : w.cell? ⟨h,1,none⟩=some b) (h3 : w.cell? ⟨h + 1,0,none⟩=some c) (h4 : w.cell? ⟨h + 1,1,none⟩=some d) :
 ((w.setCell ⟨h + 1 + 1,0,none⟩ u).setCell ⟨h + 1 + 1,1,none⟩ v).cell? ⟨h,0,none⟩=some a∧((w.setCell ⟨h + 1 + 1,0,none⟩ u).setCell ⟨h + 1 + 1,1,none⟩ v).cell? ⟨h,1,none⟩=some b∧((w.setCell ⟨h + 1 + 1,0,none⟩ u).setCell ⟨h + 1 + 1,1,none⟩ v).cell? ⟨h + 1,0,none⟩=some c∧((w.setCell ⟨h + 1 + 1,0,none⟩ u).setCell ⟨h + 1 + 1,1,none⟩ v).cell? ⟨h + 1,1,none⟩=some d :=
 ⟨far_cell (far_cell h1 (by omega)) (by omega),far_cell (far_cell h2 (by omega)) (by omega),far_cell (far_cell h3 (by omega)) (by omega),far_cell (far_cell h4 (by omega)) (by omega)⟩
theorem plus_same (s : Bool) (m m' : Value) (n n' : Nat) (w : World) (hm : MagR w m n) (hm' : MagR w m' n') (bn : Sm n) (bn' : Sm n') :
 Calls Tryz.prog 45 #[.agg #[.bool s,m],.agg #[.bool s,m']] w fun e w' => (∃ r,e=.returned r∧BigR w' r (sg s (n + n')))∧Below w.heap.size w w' := by
 have HM := LH9 hm;have HM' := LH9 hm';have BN := LH9 bn;have BN' := LH9 bn';obtain ⟨a,len,cap,l,rfl,h1,h2,h3⟩ := hm;obtain ⟨a',len',cap',l',rfl,h1',h2',h3'⟩ := hm';clear h1 h2 h3 h1' h2' h3' bn bn';obtain ⟨c1,c2,c3,c4,c5,c6,c7,c8⟩ := three_cells (w := w) (x1 := .bool s) (y1 := .slice a len cap) (x2 := .bool s) (y2 := .slice a' len' cap') (x3 := .bool false) (y3 := .slice none 0 0) (Below.refl _ _);have T := LH9 (three_bel w (.bool s) (.slice a len cap) (.bool s) (.slice a' len' cap') (.bool false) (.slice none 0 0));have TB := LH9 (fun w' hb => three_blk (w := w) (w' := w') (x1 := .bool s) (y1 := .slice a len cap) (x2 := .bool s) (y2 := .slice a' len' cap') (x3 := .bool false) (y3 := .slice none 0 0) hb);have TC := LH9 (fun w' hb => three_cells (w := w) (w' := w') (x1 := .bool s) (y1 := .slice a len cap) (x2 := .bool s) (y2 := .slice a' len' cap') (x3 := .bool false) (y3 := .slice none 0 0) hb);have TS := LH9 (three_size w (.bool s) (.slice a len cap) (.bool s) (.slice a' len' cap') (.bool false) (.slice none 0 0))
 go_enter Tryz.func45,Tryz.ntmps45
 go_wp2_with fail
 generalize ((w.alloc (.cells #[.bool s,.slice a len cap] 122)).alloc (.cells #[.bool s,.slice a' len' cap'] 122)).alloc (.cells #[.bool false,.slice none 0 0] 122)=v at *;have K0 := LH9 (Below.refl (w.heap.size + 3) v)
 go_region_held3 (fun w' => w'.cell? ⟨w.heap.size,0,none⟩=some (.bool s)∧w'.cell? ⟨w.heap.size,1,none⟩=some (.slice a len cap)∧w'.cell? ⟨w.heap.size + 1,0,none⟩=some (.bool s)∧w'.cell? ⟨w.heap.size + 1,1,none⟩=some (.slice a' len' cap')) (first | exact keep4 g1 g2 g3 g4 | go_keep)
  (first
   | (go_at_call 73
      refine (add_any _ _ n n' _ (HM.o.below T.o.drew) (HM'.o.below T.o.drew) BN.o.lt BN'.o.lt).mono ?_;rintro e w1 ⟨⟨r,rfl,hr⟩,b1⟩;have k1 : Below (w.heap.size + 3) v w1 := (K0.o.drew).trans (b1.mono (Nat.le_trans (Nat.le_of_eq TS.o.symm) K0.o.size));obtain ⟨d1,d2,d3,d4,d5,d6,d7,d8⟩ := TC.o w1 k1)
   | (go_at_call 72
      refine (sign_any _ _ _ _ hr).mono ?_;rintro e w2 ⟨⟨r2,rfl,hr2⟩,b2⟩;have k2 : Below (w.heap.size + 3) v w2 := k1.trans (b2.mono (Nat.le_trans (Nat.le_of_eq TS.o.symm) k1.size));obtain ⟨g1,g2,g3,g4,g5,g6,g7,g8⟩ := TC.o w2 k2;have hr3 := hr2;obtain ⟨m2,rfl,a2,len2,cap2,l2,rfl,q1,q2,q3⟩ := hr2))
 have HR := LH9 (fun x y => hr3.put2 (x := x) (y := y) (TB.o w2 k2));have BW := LH9 (T.o.trans (k2.mono (by omega)));clear TC TB hr hr3 q1 q2 q3 d1 d2 d3 d4 d5 d6 d7 d8 c1 c2 c3 c4 c5 c6 c7 c8 b1 b2 k1 k2
 go_wp2
 refine bodyPost_ret (v := .agg #[.bool (decide (sg s (n + n') < 0)),.slice a2 len2 cap2]) (by simp [results,Tryz.results45,go_sem,g5,g6]) rfl ⟨⟨_,rfl,HR.o _ _⟩,?_⟩;exact (BW.o.setCell (by simp; omega) _).setCell (by simp; omega) _
theorem plus_ge (s : Bool) (m m' : Value) (n n' : Nat) (w : World) (hm : MagR w m n) (hm' : MagR w m' n') (bn : Sm n) (bn' : Sm n') (hle : n'≤n) :
 Calls Tryz.prog 45 #[.agg #[.bool s,m],.agg #[.bool (!s),m']] w fun e w' => (∃ r,e=.returned r∧BigR w' r (sg s (n - n')))∧Below w.heap.size w w' := by
 have HM := LH9 hm;have HM' := LH9 hm';have BN := LH9 bn;have BN' := LH9 bn';obtain ⟨a,len,cap,l,rfl,h1,h2,h3⟩ := hm;obtain ⟨a',len',cap',l',rfl,h1',h2',h3'⟩ := hm';clear h1 h2 h3 h1' h2' h3' bn bn';obtain ⟨c1,c2,c3,c4,c5,c6,c7,c8⟩ := three_cells (w := w) (x1 := .bool s) (y1 := .slice a len cap) (x2 := .bool (!s)) (y2 := .slice a' len' cap') (x3 := .bool false) (y3 := .slice none 0 0) (Below.refl _ _);have T := LH9 (three_bel w (.bool s) (.slice a len cap) (.bool (!s)) (.slice a' len' cap') (.bool false) (.slice none 0 0));have TB := LH9 (fun w' hb => three_blk (w := w) (w' := w') (x1 := .bool s) (y1 := .slice a len cap) (x2 := .bool (!s)) (y2 := .slice a' len' cap') (x3 := .bool false) (y3 := .slice none 0 0) hb);have TC := LH9 (fun w' hb => three_cells (w := w) (w' := w') (x1 := .bool s) (y1 := .slice a len cap) (x2 := .bool (!s)) (y2 := .slice a' len' cap') (x3 := .bool false) (y3 := .slice none 0 0) hb);have TS := LH9 (three_size w (.bool s) (.slice a len cap) (.bool (!s)) (.slice a' len' cap') (.bool false) (.slice none 0 0));have HLE := LH9 hle;obtain ⟨cv,hcv,hcv0⟩ : ∃ cv,cmpN n n'=cv∧0≤cv := ⟨_,rfl,by unfold cmpN; rw [if_neg (by omega)]; split <;> decide⟩;have HCV := LH9 hcv;clear hcv hle;have hs : (s == !s)=false := by cases s <;> rfl
 go_enter Tryz.func45,Tryz.ntmps45
 go_wp2_with fail
 have hv0 : Hid (Below w.heap.size w (((w.alloc (.cells #[.bool s,.slice a len cap] 122)).alloc (.cells #[.bool (!s),.slice a' len' cap'] 122)).alloc (.cells #[.bool false,.slice none 0 0] 122))) := T;generalize ((w.alloc (.cells #[.bool s,.slice a len cap] 122)).alloc (.cells #[.bool (!s),.slice a' len' cap'] 122)).alloc (.cells #[.bool false,.slice none 0 0] 122)=v at *;refine (cmpm_any _ _ n n' _ (HM.o.below T.o) (HM'.o.below T.o)).mono ?_;rintro e w0 ⟨rfl,b0⟩;rw [HCV.o];have K0 : Hid (Below (w.heap.size + 3) v w0) := b0.mono (Nat.le_of_eq TS.o.symm);obtain ⟨p1,p2,p3,p4,p5,p6,p7,p8⟩ := TC.o w0 K0.o
 go_wp2_with fail
 go_region_held3 (fun w' => w'.cell? ⟨w.heap.size,0,none⟩=some (.bool s)∧w'.cell? ⟨w.heap.size,1,none⟩=some (.slice a len cap)∧w'.cell? ⟨w.heap.size + 1,0,none⟩=some (.bool (!s))∧w'.cell? ⟨w.heap.size + 1,1,none⟩=some (.slice a' len' cap')) (first | exact keep4 g1 g2 g3 g4 | go_keep)
  (first
   | (go_at_call 75
      refine (sub_any _ _ n n' _ (HM.o.below (T.o.trans (K0.o.mono (by omega))).drew) (HM'.o.below (T.o.trans (K0.o.mono (by omega))).drew) BN.o.lt HLE.o).mono ?_;rintro e w1 ⟨⟨r,rfl,hr⟩,b1⟩;have k1 : Below (w.heap.size + 3) v w1 := (K0.o.drew).trans (b1.mono (Nat.le_trans (Nat.le_of_eq TS.o.symm) K0.o.size));obtain ⟨d1,d2,d3,d4,d5,d6,d7,d8⟩ := TC.o w1 k1)
   | (go_at_call 72
      refine (sign_any _ _ _ _ hr).mono ?_;rintro e w2 ⟨⟨r2,rfl,hr2⟩,b2⟩;have k2 : Below (w.heap.size + 3) v w2 := k1.trans (b2.mono (Nat.le_trans (Nat.le_of_eq TS.o.symm) k1.size));obtain ⟨g1,g2,g3,g4,g5,g6,g7,g8⟩ := TC.o w2 k2;have hr3 := hr2;obtain ⟨m2,rfl,a2,len2,cap2,l2,rfl,q1,q2,q3⟩ := hr2))
 have HR := LH9 (fun x y => hr3.put2 (x := x) (y := y) (TB.o w2 k2));have BW := LH9 (T.o.trans (k2.mono (by omega)));clear TC TB hr hr3 q1 q2 q3 d1 d2 d3 d4 d5 d6 d7 d8 c1 c2 c3 c4 c5 c6 c7 c8 b1 b2 k1 k2
 go_wp2
 refine bodyPost_ret (v := .agg #[.bool (decide (sg s (n - n') < 0)),.slice a2 len2 cap2]) (by simp [results,Tryz.results45,go_sem,g5,g6]) rfl ⟨⟨_,rfl,HR.o _ _⟩,?_⟩;exact (BW.o.setCell (by simp; omega) _).setCell (by simp; omega) _
theorem plus_lt (s : Bool) (m m' : Value) (n n' : Nat) (w : World) (hm : MagR w m n) (hm' : MagR w m' n') (bn : Sm n) (bn' : Sm n') (hle : n < n') :
 Calls Tryz.prog 45 #[.agg #[.bool s,m],.agg #[.bool (!s),m']] w fun e w' => (∃ r,e=.returned r∧BigR w' r (sg (!s) (n' - n)))∧Below w.heap.size w w' := by
 have HM := LH9 hm;have HM' := LH9 hm';have BN := LH9 bn;have BN' := LH9 bn';obtain ⟨a,len,cap,l,rfl,h1,h2,h3⟩ := hm;obtain ⟨a',len',cap',l',rfl,h1',h2',h3'⟩ := hm';clear h1 h2 h3 h1' h2' h3' bn bn';obtain ⟨c1,c2,c3,c4,c5,c6,c7,c8⟩ := three_cells (w := w) (x1 := .bool s) (y1 := .slice a len cap) (x2 := .bool (!s)) (y2 := .slice a' len' cap') (x3 := .bool false) (y3 := .slice none 0 0) (Below.refl _ _);have T := LH9 (three_bel w (.bool s) (.slice a len cap) (.bool (!s)) (.slice a' len' cap') (.bool false) (.slice none 0 0));have TB := LH9 (fun w' hb => three_blk (w := w) (w' := w') (x1 := .bool s) (y1 := .slice a len cap) (x2 := .bool (!s)) (y2 := .slice a' len' cap') (x3 := .bool false) (y3 := .slice none 0 0) hb);have TC := LH9 (fun w' hb => three_cells (w := w) (w' := w') (x1 := .bool s) (y1 := .slice a len cap) (x2 := .bool (!s)) (y2 := .slice a' len' cap') (x3 := .bool false) (y3 := .slice none 0 0) hb);have TS := LH9 (three_size w (.bool s) (.slice a len cap) (.bool (!s)) (.slice a' len' cap') (.bool false) (.slice none 0 0));have HLE := LH9 hle;obtain ⟨cv,hcv,hcv0⟩ : ∃ cv,cmpN n n'=cv∧cv < 0 := ⟨_,rfl,by unfold cmpN; rw [if_pos hle]; decide⟩;have HCV := LH9 hcv;clear hcv hle;have hs : (s == !s)=false := by cases s <;> rfl
 go_enter Tryz.func45,Tryz.ntmps45
 go_wp2_with fail
 have hv0 : Hid (Below w.heap.size w (((w.alloc (.cells #[.bool s,.slice a len cap] 122)).alloc (.cells #[.bool (!s),.slice a' len' cap'] 122)).alloc (.cells #[.bool false,.slice none 0 0] 122))) := T;generalize ((w.alloc (.cells #[.bool s,.slice a len cap] 122)).alloc (.cells #[.bool (!s),.slice a' len' cap'] 122)).alloc (.cells #[.bool false,.slice none 0 0] 122)=v at *;refine (cmpm_any _ _ n n' _ (HM.o.below T.o) (HM'.o.below T.o)).mono ?_;rintro e w0 ⟨rfl,b0⟩;rw [HCV.o];have K0 : Hid (Below (w.heap.size + 3) v w0) := b0.mono (Nat.le_of_eq TS.o.symm);obtain ⟨p1,p2,p3,p4,p5,p6,p7,p8⟩ := TC.o w0 K0.o
 go_wp2_with fail
 go_region_held3 (fun w' => w'.cell? ⟨w.heap.size,0,none⟩=some (.bool s)∧w'.cell? ⟨w.heap.size,1,none⟩=some (.slice a len cap)∧w'.cell? ⟨w.heap.size + 1,0,none⟩=some (.bool (!s))∧w'.cell? ⟨w.heap.size + 1,1,none⟩=some (.slice a' len' cap')) (first | exact keep4 g1 g2 g3 g4 | go_keep)
  (first
   | (go_at_call 75
      refine (sub_any _ _ n' n _ (HM'.o.below (T.o.trans (K0.o.mono (by omega))).drew) (HM.o.below (T.o.trans (K0.o.mono (by omega))).drew) BN'.o.lt (Nat.le_of_lt HLE.o)).mono ?_;rintro e w1 ⟨⟨r,rfl,hr⟩,b1⟩;have k1 : Below (w.heap.size + 3) v w1 := (K0.o.drew).trans (b1.mono (Nat.le_trans (Nat.le_of_eq TS.o.symm) K0.o.size));obtain ⟨d1,d2,d3,d4,d5,d6,d7,d8⟩ := TC.o w1 k1)
   | (go_at_call 72
      refine (sign_any _ _ _ _ hr).mono ?_;rintro e w2 ⟨⟨r2,rfl,hr2⟩,b2⟩;have k2 : Below (w.heap.size + 3) v w2 := k1.trans (b2.mono (Nat.le_trans (Nat.le_of_eq TS.o.symm) k1.size));obtain ⟨g1,g2,g3,g4,g5,g6,g7,g8⟩ := TC.o w2 k2;have hr3 := hr2;obtain ⟨m2,rfl,a2,len2,cap2,l2,rfl,q1,q2,q3⟩ := hr2))
 have HR := LH9 (fun x y => hr3.put2 (x := x) (y := y) (TB.o w2 k2));have BW := LH9 (T.o.trans (k2.mono (by omega)));clear TC TB hr hr3 q1 q2 q3 d1 d2 d3 d4 d5 d6 d7 d8 c1 c2 c3 c4 c5 c6 c7 c8 b1 b2 k1 k2
 go_wp2
 refine bodyPost_ret (v := .agg #[.bool (decide (sg (!s) (n' - n) < 0)),.slice a2 len2 cap2]) (by simp [results,Tryz.results45,go_sem,g5,g6]) rfl ⟨⟨_,rfl,HR.o _ _⟩,?_⟩;exact (BW.o.setCell (by simp; omega) _).setCell (by simp; omega) _
theorem big_add_same (z z' : Int) (h : decide (z < 0)=decide (z' < 0)) : sg (decide (z < 0)) (z.natAbs + z'.natAbs)=z + z' := by
 unfold sg;by_cases h1 : z < 0 <;> by_cases h2 : z' < 0 <;> simp [h1,h2] at h ⊢ <;> omega
theorem big_add_ge (z z' : Int) (h : decide (z' < 0)=!decide (z < 0)) (hle : z'.natAbs≤z.natAbs) : sg (decide (z < 0)) (z.natAbs - z'.natAbs)=z + z' := by
 unfold sg;by_cases h1 : z < 0 <;> by_cases h2 : z' < 0 <;> simp [h1,h2] at h ⊢ <;> omega
theorem big_add_lt (z z' : Int) (h : decide (z' < 0)=!decide (z < 0)) (hle : z.natAbs < z'.natAbs) : sg (!decide (z < 0)) (z'.natAbs - z.natAbs)=z + z' := by
 unfold sg;by_cases h1 : z < 0 <;> by_cases h2 : z' < 0 <;> simp [h1,h2] at h ⊢ <;> omega
theorem plus_any (u v : Value) (z z' : Int) (w : World) (hu : BigR w u z) (hv : BigR w v z') (bn : Sm z.natAbs) (bn' : Sm z'.natAbs) :
 Calls Tryz.prog 45 #[u,v] w fun e w' => (∃ r,e=.returned r∧BigR w' r (z + z'))∧Below w.heap.size w w' := by
 obtain ⟨m,rfl,hm⟩ := hu;obtain ⟨m',rfl,hm'⟩ := hv;have BN := LH9 bn;have BN' := LH9 bn';clear bn bn';by_cases h : decide (z < 0)=decide (z' < 0)
 · have := plus_same (decide (z < 0)) m m' _ _ w hm hm' BN.o BN'.o;rw [big_add_same z z' h] at this;rw [← h]; exact this
 · have h2 : decide (z' < 0)=!decide (z < 0) := by
    revert h
    cases decide (z < 0) <;> cases decide (z' < 0) <;> simp
   by_cases hle : z'.natAbs≤z.natAbs
   · have := plus_ge (decide (z < 0)) m m' _ _ w hm hm' BN.o BN'.o hle;rw [big_add_ge z z' h2 hle] at this;rw [h2]; exact this
   · have := plus_lt (decide (z < 0)) m m' _ _ w hm hm' BN.o BN'.o (by omega);rw [big_add_lt z z' h2 (by omega)] at this;rw [h2]; exact this
end
section
theorem own_nums2 {w0 w : World} {v : Value} {n : Nat} {l : List Nat} (h : Mem.Own w0 w 141 1 v n (dv l)) (hn : l.length=n) : ∃ a cap,v=.slice a n cap∧Nums w a n cap l∧∀ x,a=some x→w0.heap.size≤x.block := by
 have hmx : maxLen=9223372036854775807 := by decide
 rcases h.own.2 with ⟨rfl,rfl⟩ | ⟨g,cap,cur,rfl,h1,h2,h3,h4,h5,h6⟩
 · exact ⟨none,0,rfl,⟨hn,by omega,by omega,fun h => absurd h (by omega)⟩,fun x hx => by cases hx⟩
 · refine ⟨_,cap,rfl,⟨hn,h3,by omega,fun hp => ⟨g,0,rfl,lt_of_block h2,fun i x hx => ?_⟩⟩,fun x hx => by cases hx; exact h1⟩;have hi : i < l.length := (List.getElem?_eq_some_iff.1 hx).1;rw [Nat.zero_add,h.cell i (by omega)];simp [dv,hx]
theorem sub_fresh (a : Option Addr) (len cap : Nat) (l : List Nat) (a' : Option Addr) (len' cap' : Nat) (l' : List Nat) (w : World) (hl : Nums w a len cap l) (hl' : Nums w a' len' cap' l') (hn : Big.Dig l) (hn' : Big.Dig l') (hm : len≤1000000) (hlen : len'≤len) :
 Calls Tryz.prog 75 #[.slice a len cap,.slice a' len' cap'] w fun e w' => (∃ out b cap2,e=.returned (.slice b (Big.trim out).length cap2)∧Nums w' b (Big.trim out).length cap2 (Big.trim out)∧Big.Dig out∧Hid (∃ c,c≤1∧Big.val out + Big.val l'=Big.val l + c * Big.pw len)∧out.length=len∧(∀ x,b=some x→w.heap.size≤x.block))∧Below w.heap.size w w' := by
 have h2 := hl.2.1;have h3 := hl.2.2.1;have h2' := hl'.2.1;have h3' := hl'.2.2.1;have HL := LH9 hl;have HL' := LH9 hl';have HD := LH9 hn;have HD' := LH9 hn';have H1 := LH9 hl.1;have H1' := LH9 hl'.1;have HS := LH9 (fun out i borrow hb hl hinv => Big.sub_step out l l' i borrow hb hn hn' hl hinv);clear hl hl' hn hn'
 go_enter Tryz.func75,Tryz.ntmps75
 go_wp2_with fail
 go_loopw [5,6,7] (fun v c i wr => ∃ (k b : Nat) (out : List Nat),i=.int .i64 (k : Nat)∧c=.int .u64 (b : Nat)∧k≤len∧b≤1∧Hid (Mem.Own w wr 141 1 v k (dv out))∧Hid (out.length=k)∧Hid (Big.Dig out)∧Hid (Big.val out + Big.val (l'.take k)=Big.val (l.take k) + b * Big.pw k)) (fun _ _ i _ => len - (intOf i).toNat)
 case atStart => exact ⟨0,0,[],rfl,rfl,Nat.zero_le _,by omega,Mem.Own.nil (Below.refl _ _),rfl,Big.Dig.nil,by show _=_; simp [Big.val]⟩
 case round =>
  obtain ⟨k,b,out,rfl,rfl,hk,hb,HO,HK,HG,HI⟩ := hrel;have hbel := HO.o.below;by_cases hlt : k < len
  · obtain ⟨bb,o,rfl,hbb,hc⟩ := (HL.o.below hbel).at k hlt;have hx := HD.o.getD k;have HS2 := LH9 (HS.o out k b hb HK.o HI.o);have hD : Hid (Big.Dig (out ++ [(65536 + l.getD k 0 - b - l'.getD k 0) % 65536])) := by
     refine HG.o.append ?_;intro d hd; simp at hd; subst hd; exact Nat.mod_lt _ (by decide)
    have hy := HD'.o.getD k;by_cases hlt' : k < len'
    · obtain ⟨bb',o',rfl,hbb',hc'⟩ := (HL'.o.below hbel).at k hlt';clear HS HD HD';generalize l.getD k 0=x at *;generalize l'.getD k 0=y at *
      go_wp2_with (at_builtin; refine Mem.ap infoU64 Tryz.underlying120 rfl (by decide) rfl (.tmp 32) (.tmp 35) rfl rfl (HO.o.alloc _) ⟨wr.heap.size,0,none⟩ 1 1 (dv [(65536 + x - b - y) % 65536]) rfl rfl (digs_cells _ _ _ (by omega)) (dv_one _) (by rw [mlen]; omega) (by omega) ?_; intro v' w' o' _ _ _; rw [dv_app] at o')
      go_roundw
      case rel => exact ⟨k + 1,1 - (65536 + x - b - y) / 65536,out ++ [(65536 + x - b - y) % 65536],by go_num,by congr 1; omega,by omega,by omega,o',by show _=_; rw [List.length_append,HK.o]; rfl,hD,HS2.o⟩
      case measure => simp [intOf]; omega
    · have e0 := getD_end l' k (by rw [H1'.o]; omega);rw [e0] at HS2 hD;clear HS HD HD' e0 hy;generalize l.getD k 0=x at *
      go_wp2_with (at_builtin; refine Mem.ap infoU64 Tryz.underlying120 rfl (by decide) rfl (.tmp 32) (.tmp 35) rfl rfl (HO.o.alloc _) ⟨wr.heap.size,0,none⟩ 1 1 (dv [(65536 + x - b - 0) % 65536]) rfl rfl (digs_cells _ _ _ (by omega)) (dv_one _) (by rw [mlen]; omega) (by omega) ?_; intro v' w' o' _ _ _; rw [dv_app] at o')
      go_roundw
      case rel => exact ⟨k + 1,1 - (65536 + x - b - 0) / 65536,out ++ [(65536 + x - b - 0) % 65536],by go_num,by congr 1; omega,by omega,by omega,o',by show _=_; rw [List.length_append,HK.o]; rfl,hD,HS2.o⟩
      case measure => simp [intOf]; omega
  · have FIN : Hid (∃ c,c≤1∧Big.val out + Big.val l'=Big.val l + c * Big.pw len) := by
     have : k=len := by omega
     subst this;refine ⟨b,hb,?_⟩;have h := HI.o;rw [List.take_of_length_le (by rw [H1'.o]; exact hlen),List.take_of_length_le (by rw [H1.o]; exact Nat.le_refl _)] at h;exact h
    obtain ⟨ao,co,rfl,hno,hfr⟩ := own_nums2 HO.o HK.o;have HFR := LH9 hfr;clear hfr;have HNO := LH9 hno;have hke := LH9 (show k=len by omega);clear hno
    go_wp2_with fail
    refine (trim_any _ _ _ out _ HNO.o).mono ?_; rintro e w' ⟨rfl,rfl⟩
    go_wp2
    go_ret;refine ⟨⟨out,_,_,rfl,?_,HG.o,FIN,by rw [HK.o,hke.o],HFR.o⟩,hbel⟩;have := HNO.o.take (Big.trim out).length (by rw [← HK.o]; exact trim_le out);rw [← trim_len] at this;exact this
end
section
theorem subf_any (u v : Value) (m n : Nat) (w : World) (hu : MagR w u m) (hv : MagR w v n) (bm : m < Big.pw 1000000) (hle : n≤m) :
 Calls Tryz.prog 75 #[u,v] w fun e w' => (∃ b len cap,e=.returned (.slice b len cap)∧MagR w' (.slice b len cap) (m - n)∧∀ x,b=some x→w.heap.size≤x.block)∧Below w.heap.size w w' := by
 obtain ⟨a,len,cap,l,rfl,h1,h2,rfl⟩ := hu;obtain ⟨a',len',cap',l',rfl,h1',h2',rfl⟩ := hv;have hl : len'≤len := by
  rcases Nat.lt_or_ge len len' with h | h
  · have := h2.length_lt_val h2' (by rw [h1.1,h1'.1]; exact h); omega
  · exact h
 refine (sub_fresh a len cap l a' len' cap' l' w h1 h1' h2.1 h2'.1 (MagR.small h1 h2 bm) hl).mono ?_;rintro e w' ⟨⟨out,b,cap2,rfl,hn,hd,hv,hlo,hfr⟩,hb⟩;refine ⟨⟨_,_,_,rfl,?_,hfr⟩,hb⟩;have hlt := Big.val_lt hd;obtain ⟨c,hc,hv⟩ := hv.o;rw [hlo] at hlt;have hc0 : c=0 := by
  rcases Nat.eq_zero_or_pos c with h | h
  · exact h
  · have : c=1 := by omega
    subst this; omega
 subst hc0;have e : Big.val out=Big.val l - Big.val l' := by omega
 rw [← e]; exact MagR.trim hn hd
theorem Nums.far {w : World} {a : Option Addr} {len cap g j : Nat} {l : List Nat} {u : Value} (h : Nums w a len cap l) (hne : ∀ x,a=some x→x.block ≠ g) : Nums (w.setCell ⟨g,j,none⟩ u) a len cap l := by
 obtain ⟨h1,h2,h2',h3⟩ := h;refine ⟨h1,h2,h2',fun hp => ?_⟩;obtain ⟨b,o,ha,hlt,hc⟩ := h3 hp;refine ⟨b,o,ha,by simpa [World.setCell] using hlt,fun i v hv => ?_⟩;rw [World.cell?_of_block (w := w) (Below.heap_setCell w ⟨g,j,none⟩ u b (hne _ ha))];exact hc i v hv
theorem dv_set (q : List Nat) (j n : Nat) (z : Int) (hz : z=(n : Int)) : (dv q).toArray.setIfInBounds j (.int .u64 z)=(dv (q.set j n)).toArray := by
 subst hz; simp [dv,List.map_set]
end
section
theorem mk_eq (n : Nat) : madeCells #[.int .u64 0] n=(dv (List.replicate n 0)).toArray := by
 apply Array.ext
 · simp [madeCells,dv]
 · intro i h1 h2;simp [madeCells,dv,Nat.mod_one]
theorem pw_two (n : Nat) : Big.pw n=2 ^ (16 * n) := by
 unfold Big.pw; rw [show (65536 : Nat)=2 ^ 16 from rfl,← Nat.pow_mul]
theorem sm_of (n K : Nat) (hK : K < 1000000) (h : n < 2 * Big.pw K) : Sm n := by
 refine Sm.of (Nat.lt_of_lt_of_le h ?_);refine Nat.le_trans ?_ (Big.pw_mono (show K + 1≤1000000 by omega));rw [Big.pw_succ]; exact Nat.mul_le_mul_right _ (by decide)
@[irreducible] def Md (n : Nat) : Prop := n < Big.pw 900
theorem Md.lt {n : Nat} (h : Md n) : n < Big.pw 900 := by unfold Md at h; exact h
theorem Md.of {n : Nat} (h : n < Big.pw 900) : Md n := by unfold Md; exact h
theorem div_any (u v : Value) (A B : Nat) (w : World) (hu : MagR w u A) (hv : MagR w v B) (hB : 0 < B) (hA : Md A) (hBB : Md B) :
 Calls Tryz.prog 134 #[u,v] w fun e w' => (∃ q r,e=.returned (.tuple #[q,r])∧MagR w' q (A / B)∧MagR w' r (A % B))∧Below w.heap.size w w' := by
 have HV := LH9 hv;have HU := LH9 hu;obtain ⟨a,len,cap,l,rfl,h1,h2,h3⟩ := hu;obtain ⟨a',len',cap',l',rfl,h1',h2',h3'⟩ := hv;have hl : len≤900 := MagR.small h1 h2 (by rw [h3]; exact hA.lt);have HL := LH9 h1;have HN := LH9 h2;have HX := LH9 h3;have HBB := LH9 hBB;have hc := h1.2.1;have hc2 := h1.2.2.1;clear h1 h2 h3 h1' h2' h3' hA hBB;have hmk : ∀ w,(Instr.makeSlice 120 (.int .i64 (len : Int)) (.int .i64 (len : Int))).run Tryz.prog w=.ok (.slice (some ⟨w.heap.size,0,none⟩) len len) (w.alloc (.cells (dv (List.replicate len 0)).toArray 141)) := by
  intro w; rw [← mk_eq]; exact run_make_row' 120 141 (.int .u64 0) 8 Tryz.underlying120 infoU64 rfl _ _ len (by omega) (by omega) w
 have ST : Hid (A / 2 ^ (16 * len)=0) := by
  show _=_;rw [← pw_two];have h := Big.val_lt HN.o.1;rw [HX.o,HL.o.1] at h;exact Nat.div_eq_of_lt h
 go_enter Tryz.func134,Tryz.ntmps134
 go_wp2_with fail
 go_loopw [7,8] (fun lv i wr => ∃ (k : Nat) (q : List Nat),i=.int .i64 ((k : Int) - 1)∧k≤16 * len∧Hid (MagR wr lv (A / 2 ^ k % B))∧Hid (Below w.heap.size w wr)∧Hid (Mem.Blk wr w.heap.size 141 (dv q).toArray)∧Hid (q.length=len)∧Hid (Big.Bits q k)∧Hid (Big.val q=A / 2 ^ k / B * 2 ^ k)) (fun _ i _ => (intOf i + 1).toNat)
 case atStart =>
  refine ⟨16 * len,List.replicate len 0,by go_num,Nat.le_refl _,⟨none,0,0,[],rfl,⟨rfl,Nat.le_refl _,by decide,fun h => absurd h (by decide)⟩,Big.Norm.nil,?_⟩,(Below.refl _ _).alloc (Nat.le_refl _) _,Mem.Blk.new _ _ _,by show _=_; simp,Big.Bits.start _ _,?_⟩
  · rw [ST.o]; simp [Big.val]
  · show _=_; rw [ST.o,Big.val_zero]; simp
 case round =>
  obtain ⟨k,q,rfl,hk,HM,HW,HQ,HQL,HB,HVQ⟩ := hrel
  cases k with
  | zero =>
    obtain ⟨al,ll,cl,dl,rfl,m1,m2,m3⟩ := HM.o;have hqn : Nums wr (some ⟨w.heap.size,0,none⟩) len len q := by
     refine ⟨HQL.o,Nat.le_refl _,by omega,fun hp => ⟨w.heap.size,0,rfl,HQ.o.lt,fun i x hx => ?_⟩⟩;rw [HQ.o.cell,Nat.zero_add]; simp [dv,hx]
    have HQN := LH9 hqn;have hmt := hqn.take (Big.trim q).length (by rw [← HQL.o]; exact trim_le q);rw [← trim_len] at hmt;have FQ : Hid (MagR wr (.slice (some ⟨w.heap.size,0,none⟩) (Big.trim q).length len) (A / B)) := by
     have h := MagR.trim hmt HB.o.1;rw [HVQ.o] at h;show MagR _ _ _
     simpa using h
    have FR : Hid (MagR wr (.slice al ll cl) (A % B)) := by
     have h := HM.o;show MagR _ _ _
     simpa using h
    clear hmt hqn m1 m2 m3
    go_wp2_with fail
    refine (trim_any _ _ _ q _ HQN.o).mono ?_; rintro e w' ⟨rfl,rfl⟩
    go_wp2
    go_ret2;exact ⟨⟨_,_,rfl,FQ.o,FR.o⟩,HW.o⟩
  | succ i =>
    have hbl : A / 2 ^ (i + 1) % B < Big.pw 1000000 := Nat.lt_of_lt_of_le (Nat.lt_trans (Nat.mod_lt _ hB) HBB.o.lt) (Big.pw_mono (by omega));have HBL := Sm.of hbl;clear hbl;have HB2 : Sm (A / 2 ^ (i + 1) % B + A / 2 ^ (i + 1) % B) := by
     refine sm_of _ 900 (by omega) ?_;have h1 := Nat.mod_lt (A / 2 ^ (i + 1)) hB;have h2 := HBB.o.lt;generalize Big.pw 900=p at *;omega
    have SL2 : Hid (Sm (2 * (A / 2 ^ (i + 1) % B) + A / 2 ^ i % 2)) := by
     refine sm_of _ 900 (by omega) ?_;have h1 := Nat.mod_lt (A / 2 ^ (i + 1)) hB;have h2 := HBB.o.lt;have h3 := Nat.mod_lt (A / 2 ^ i) (show 0 < 2 by decide);generalize Big.pw 900=p at *;omega
    have HB3 : Sm 1 := Sm.of (Nat.lt_of_lt_of_le (show 1 < Big.pw 1 by decide) (Big.pw_mono (by decide)))
    go_wp2_with fail
    refine (add_any _ _ _ _ _ HM.o HM.o HBL.lt HBL.lt).mono ?_;rintro e w1 ⟨⟨r,rfl,hr⟩,b1⟩;have hw1 : Below w.heap.size w w1 := HW.o.trans (b1.mono HW.o.size);have HQ1 := LH9 (HQ.o.below b1);obtain ⟨b,o,rfl,hbb,hcell⟩ := (HL.o.below hw1).at (i / 16) (by omega);have HVB := LH9 (Big.val_bit l i HN.o.1);rw [HX.o] at HVB;generalize l.getD (i / 16) 0=x at *;have DS : Hid ((B≤2 * (A / 2 ^ (i + 1) % B) + A / 2 ^ i % 2→2 * (A / 2 ^ (i + 1) % B) + A / 2 ^ i % 2 - B=A / 2 ^ i % B∧Big.val q + 2 ^ i=A / 2 ^ i / B * 2 ^ i)∧(2 * (A / 2 ^ (i + 1) % B) + A / 2 ^ i % 2 < B→2 * (A / 2 ^ (i + 1) % B) + A / 2 ^ i % 2=A / 2 ^ i % B∧Big.val q=A / 2 ^ i / B * 2 ^ i)) := (Big.div_step A B i hB (A / 2 ^ (i + 1) % B) (Big.val q) rfl HVQ.o);have TAIL : Hid (∀ (l2 : Nat) (r2 : Value) (w2 : World),l2=2 * (A / 2 ^ (i + 1) % B) + A / 2 ^ i % 2→MagR w2 r2 l2→Below w1.heap.size w1 w2→True) := fun _ _ _ _ _ _ => trivial
    have EX : (x : Int) / 2 ^ (i % 16)=((x / 2 ^ (i % 16) : Nat) : Int) := by simp
    by_cases hb1 : x / 2 ^ (i % 16) % 2=1
    · have hbi : (((x : Int) / 2 ^ (i % 16)).tmod 2 == 1)=true := by
       rw [EX,Int.tmod_eq_emod_of_nonneg (Int.natCast_nonneg _)]; generalize x / 2 ^ (i % 16)=t at hb1 ⊢; simp only [beq_iff_eq]; omega
      have HB1 : Hid (A / 2 ^ i % 2=1) := by show _=_; rw [HVB.o]; exact hb1
      clear hb1 EX
      go_wp2_with fail
      have a1 : Below w1.heap.size w1 (w1.alloc (.cells #[.int .u64 1] 141)) := (Below.refl _ _).alloc (Nat.le_refl _) _;have h1m : MagR (w1.alloc (.cells #[.int .u64 1] 141)) (.slice (some ⟨w1.heap.size,0,none⟩) 1 1) 1 := by
       refine ⟨_,_,_,[1],rfl,⟨rfl,Nat.le_refl _,by decide,fun _ => ⟨w1.heap.size,0,rfl,by simp,fun j y hy => ?_⟩⟩,⟨by intro d hd; simp at hd; omega,by intro d hd; simp at hd; omega⟩,rfl⟩;have := (Mem.Blk.new w1 141 #[.int .u64 1]).cell (0 + j);rw [this,Nat.zero_add]
       match j,hy with
       | 0,hy => simp at hy; subst hy; rfl
       | k + 1,hy => simp at hy
      refine (add_any _ _ _ 1 _ (hr.below a1) h1m HB2.lt HB3.lt).mono ?_;rintro e w2 ⟨⟨r2,rfl,hr2⟩,b2⟩;have HR2 : Hid (MagR w2 r2 (2 * (A / 2 ^ (i + 1) % B) + A / 2 ^ i % 2)) := by
       show MagR _ _ _;rw [HB1.o,show 2 * (A / 2 ^ (i + 1) % B) + 1=A / 2 ^ (i + 1) % B + A / 2 ^ (i + 1) % B + 1 by omega]; exact hr2
      have b12 : Below w1.heap.size w1 w2 := a1.trans (b2.mono a1.size)
      go_wp2_with fail
      have B12 := b12;have HWW : Hid (Below w.heap.size w w2) := hw1.trans (B12.mono hw1.size);have HQ2 := LH9 (HQ1.o.below B12);have D1 := LH9 DS.o.1;have D2 := LH9 DS.o.2;generalize 2 * (A / 2 ^ (i + 1) % B) + A / 2 ^ i % 2=L2 at *;have HV2 := LH9 (HV.o.below HWW.o);by_cases hle : B≤L2
      · obtain ⟨cv,hcv,hcv0⟩ : ∃ cv,cmpN L2 B=cv∧0≤cv := ⟨_,rfl,by unfold cmpN; rw [if_neg (by omega)]; split <;> decide⟩;have HCV := LH9 hcv;have HLE := LH9 hle;clear hcv hle;refine (cmpm_any _ _ L2 B _ HR2.o HV2.o).mono ?_;rintro e w3 ⟨rfl,b3⟩;rw [HCV.o]
        go_wp2_with fail
        refine (subf_any _ _ L2 B _ (HR2.o.below b3) (HV2.o.below b3) SL2.o.lt HLE.o).mono ?_;rintro e w4 ⟨⟨rb,rl,rc,rfl,hr4,hfr⟩,b4⟩;have hlt3 := (HQ2.o.below b3).lt;have HR4 : Hid (∀ uu,MagR (w4.setCell ⟨w.heap.size,i / 16,none⟩ uu).drew (.slice rb rl rc) (A / 2 ^ i % B)) := by
         show ∀ uu,MagR _ _ _;intro uu;obtain ⟨a5,l5,c5,d5,e5,m1,m2,m3⟩ := hr4
         cases e5
         rw [← (D1.o HLE.o).1];exact ⟨_,_,_,_,rfl,m1.far (u := uu) (j := i / 16) (fun x hx => by have := hfr x hx; omega),m2,m3⟩
        clear hr4 hfr hlt3;have HQ4 := LH9 ((HQ2.o.below b3).below b4);have hqc : w4.cell? ⟨w.heap.size,i / 16,none⟩=some (.int .u64 (q.getD (i / 16) 0 : Nat)) := by
         rw [HQ4.o.cell]; simp [dv,List.getD_eq_getElem?_getD,List.getElem?_eq_getElem (show i / 16 < q.length by rw [HQL.o]; omega)]
        have hqf := HQ4.o.frozen (i / 16)
        go_wp2_with fail
        go_region
        have hqi : i / 16 < q.length := by rw [HQL.o]; omega
        obtain ⟨hb5,hb6⟩ := Big.Bits.set_ q i HB.o hqi;have HB5 := LH9 hb5;have HB6 := LH9 hb6;have HB7 := LH9 (Big.set_val q i hqi);clear hb5 hb6 hqi
        go_wp2_with fail
        go_roundw
        case rel =>
         refine ⟨i,q.set (i / 16) (q.getD (i / 16) 0 + 2 ^ (i % 16)),by go_num,by omega,HR4.o _,?_,?_,by show _=_; rw [List.length_set]; exact HQL.o,HB5,by show _=_; rw [HB7.o]; exact (D1.o HLE.o).2⟩
         · exact (((HWW.o.trans (b3.mono HWW.o.size)).trans (b4.mono (Nat.le_trans HWW.o.size b3.size))).setCell (Nat.le_refl _) _).drew
         · show Mem.Blk _ _ _ _;have h := (HQ4.o.set_ (i / 16) (.int .u64 (IntKind.u64.wrap (↑(q[i / 16]?.getD 0) + IntKind.u64.wrap (2 ^ (i % 16)))))).drew;rw [dv_set q (i / 16) (q.getD (i / 16) 0 + 2 ^ (i % 16)) _ ?_] at h
           · exact h
           · have h6 := HB6.o;have hc : ((2 ^ (i % 16) : Nat) : Int)=2 ^ (i % 16) := by simp
             rw [← hc,List.getD_eq_getElem?_getD] at *;generalize 2 ^ (i % 16)=t at h6 ⊢;generalize q[i / 16]?.getD 0=y at h6 ⊢;simp only [IntKind.wrap_u64]; omega
        case measure => simp [intOf]
      · obtain ⟨cv,hcv,hcv0⟩ : ∃ cv,cmpN L2 B=cv∧cv < 0 := ⟨_,rfl,by unfold cmpN; rw [if_pos (by omega)]; decide⟩;have HCV := LH9 hcv;have HLE := LH9 (show L2 < B by omega);clear hcv hle;refine (cmpm_any _ _ L2 B _ HR2.o HV2.o).mono ?_;rintro e w3 ⟨rfl,b3⟩;rw [HCV.o]
        go_wp2_with fail
        go_roundw
        case rel => exact ⟨i,q,by go_num,by omega,by show MagR _ _ _; rw [← (D2.o HLE.o).1]; exact HR2.o.below b3,HWW.o.trans (b3.mono HWW.o.size),HQ2.o.below b3,HQL,HB.o.down,(D2.o HLE.o).2⟩
        case measure => simp [intOf]
    · have hbi : (((x : Int) / 2 ^ (i % 16)).tmod 2 == 1)=false := by
       rw [EX,Int.tmod_eq_emod_of_nonneg (Int.natCast_nonneg _)]; generalize x / 2 ^ (i % 16)=t at hb1 ⊢; simp only [beq_eq_false_iff_ne]; omega
      have HB1 := LH9 hb1;clear hb1 EX;have HB0 : Hid (A / 2 ^ i % 2=0) := by show _=_; have := HB1.o; rw [HVB.o]; omega
      have HR2 : Hid (MagR w1 r (2 * (A / 2 ^ (i + 1) % B) + A / 2 ^ i % 2)) := by
       show MagR _ _ _;rw [HB0.o,show 2 * (A / 2 ^ (i + 1) % B) + 0=A / 2 ^ (i + 1) % B + A / 2 ^ (i + 1) % B by omega]; exact hr
      have B12 : Below w1.heap.size w1 w1 := Below.refl _ _
      go_wp2_with fail
      have HWW : Hid (Below w.heap.size w w1) := hw1.trans (B12.mono hw1.size);have HQ2 := LH9 (HQ1.o.below B12);have D1 := LH9 DS.o.1;have D2 := LH9 DS.o.2;generalize 2 * (A / 2 ^ (i + 1) % B) + A / 2 ^ i % 2=L2 at *;have HV2 := LH9 (HV.o.below HWW.o);by_cases hle : B≤L2
      · obtain ⟨cv,hcv,hcv0⟩ : ∃ cv,cmpN L2 B=cv∧0≤cv := ⟨_,rfl,by unfold cmpN; rw [if_neg (by omega)]; split <;> decide⟩;have HCV := LH9 hcv;have HLE := LH9 hle;clear hcv hle;refine (cmpm_any _ _ L2 B _ HR2.o HV2.o).mono ?_;rintro e w3 ⟨rfl,b3⟩;rw [HCV.o]
        go_wp2_with fail
        refine (subf_any _ _ L2 B _ (HR2.o.below b3) (HV2.o.below b3) SL2.o.lt HLE.o).mono ?_;rintro e w4 ⟨⟨rb,rl,rc,rfl,hr4,hfr⟩,b4⟩;have hlt3 := (HQ2.o.below b3).lt;have HR4 : Hid (∀ uu,MagR (w4.setCell ⟨w.heap.size,i / 16,none⟩ uu).drew (.slice rb rl rc) (A / 2 ^ i % B)) := by
         show ∀ uu,MagR _ _ _;intro uu;obtain ⟨a5,l5,c5,d5,e5,m1,m2,m3⟩ := hr4
         cases e5
         rw [← (D1.o HLE.o).1];exact ⟨_,_,_,_,rfl,m1.far (u := uu) (j := i / 16) (fun x hx => by have := hfr x hx; omega),m2,m3⟩
        clear hr4 hfr hlt3;have HQ4 := LH9 ((HQ2.o.below b3).below b4);have hqc : w4.cell? ⟨w.heap.size,i / 16,none⟩=some (.int .u64 (q.getD (i / 16) 0 : Nat)) := by
         rw [HQ4.o.cell]; simp [dv,List.getD_eq_getElem?_getD,List.getElem?_eq_getElem (show i / 16 < q.length by rw [HQL.o]; omega)]
        have hqf := HQ4.o.frozen (i / 16)
        go_wp2_with fail
        go_region
        have hqi : i / 16 < q.length := by rw [HQL.o]; omega
        obtain ⟨hb5,hb6⟩ := Big.Bits.set_ q i HB.o hqi;have HB5 := LH9 hb5;have HB6 := LH9 hb6;have HB7 := LH9 (Big.set_val q i hqi);clear hb5 hb6 hqi
        go_wp2_with fail
        go_roundw
        case rel =>
         refine ⟨i,q.set (i / 16) (q.getD (i / 16) 0 + 2 ^ (i % 16)),by go_num,by omega,HR4.o _,?_,?_,by show _=_; rw [List.length_set]; exact HQL.o,HB5,by show _=_; rw [HB7.o]; exact (D1.o HLE.o).2⟩
         · exact (((HWW.o.trans (b3.mono HWW.o.size)).trans (b4.mono (Nat.le_trans HWW.o.size b3.size))).setCell (Nat.le_refl _) _).drew
         · show Mem.Blk _ _ _ _;have h := (HQ4.o.set_ (i / 16) (.int .u64 (IntKind.u64.wrap (↑(q[i / 16]?.getD 0) + IntKind.u64.wrap (2 ^ (i % 16)))))).drew;rw [dv_set q (i / 16) (q.getD (i / 16) 0 + 2 ^ (i % 16)) _ ?_] at h
           · exact h
           · have h6 := HB6.o;have hc : ((2 ^ (i % 16) : Nat) : Int)=2 ^ (i % 16) := by simp
             rw [← hc,List.getD_eq_getElem?_getD] at *;generalize 2 ^ (i % 16)=t at h6 ⊢;generalize q[i / 16]?.getD 0=y at h6 ⊢;simp only [IntKind.wrap_u64]; omega
        case measure => simp [intOf]
      · obtain ⟨cv,hcv,hcv0⟩ : ∃ cv,cmpN L2 B=cv∧cv < 0 := ⟨_,rfl,by unfold cmpN; rw [if_pos (by omega)]; decide⟩;have HCV := LH9 hcv;have HLE := LH9 (show L2 < B by omega);clear hcv hle;refine (cmpm_any _ _ L2 B _ HR2.o HV2.o).mono ?_;rintro e w3 ⟨rfl,b3⟩;rw [HCV.o]
        go_wp2_with fail
        go_roundw
        case rel => exact ⟨i,q,by go_num,by omega,by show MagR _ _ _; rw [← (D2.o HLE.o).1]; exact HR2.o.below b3,HWW.o.trans (b3.mono HWW.o.size),HQ2.o.below b3,HQL,HB.o.down,(D2.o HLE.o).2⟩
        case measure => simp [intOf]
end
section
theorem two_cells64 {w w' : World} {x1 y1 x2 y2 : Value} (hb : Below (w.heap.size + 2) ((w.alloc (.cells #[x1,y1] 122)).alloc (.cells #[x2,y2] 122)) w') :
 w'.cell? ⟨w.heap.size,0,none⟩=some x1∧w'.cell? ⟨w.heap.size,1,none⟩=some y1∧w'.cell? ⟨w.heap.size + 1,0,none⟩=some x2∧w'.cell? ⟨w.heap.size + 1,1,none⟩=some y2 := by
 have e1 : (w.alloc (.cells #[x1,y1] 122)).heap.size=w.heap.size + 1 := by simp
 have B1 : Mem.Blk w' w.heap.size 122 #[x1,y1] := (((Mem.Blk.new w 122 #[x1,y1]).alloc _)).call hb (by omega);have B2 : Mem.Blk w' (w.heap.size + 1) 122 #[x2,y2] := by
  have := (Mem.Blk.new (w.alloc (.cells #[x1,y1] 122)) 122 #[x2,y2]);rw [e1] at this; exact this.call hb (by omega)
 exact ⟨B1.two.1,B1.two.2.1,B2.two.1,B2.two.2.1⟩
theorem keep4g {w : World} {h g : Nat} {a b c d u v : Value} (hg : h + 2≤g) (h1 : w.cell? ⟨h,0,none⟩=some a) (h2 : w.cell? ⟨h,1,none⟩=some b) (h3 : w.cell? ⟨h + 1,0,none⟩=some c) (h4 : w.cell? ⟨h + 1,1,none⟩=some d) :
 ((w.setCell ⟨g,0,none⟩ u).setCell ⟨g,1,none⟩ v).cell? ⟨h,0,none⟩=some a∧((w.setCell ⟨g,0,none⟩ u).setCell ⟨g,1,none⟩ v).cell? ⟨h,1,none⟩=some b∧((w.setCell ⟨g,0,none⟩ u).setCell ⟨g,1,none⟩ v).cell? ⟨h + 1,0,none⟩=some c∧((w.setCell ⟨g,0,none⟩ u).setCell ⟨g,1,none⟩ v).cell? ⟨h + 1,1,none⟩=some d :=
 ⟨far_cell (far_cell h1 (by omega)) (by omega),far_cell (far_cell h2 (by omega)) (by omega),far_cell (far_cell h3 (by omega)) (by omega),far_cell (far_cell h4 (by omega)) (by omega)⟩
def cmpZ (z z' : Int) : Int := if z < z' then -1 else if z=z' then 0 else 1
theorem bigcmp_any (u v : Value) (z z' : Int) (w : World) (hu : BigR w u z) (hv : BigR w v z') (bn : Sm z.natAbs) (bn' : Sm (-z').natAbs) :
 Calls Tryz.prog 77 #[u,v] w fun e w' => e=.returned (.int .i64 (cmpZ z z'))∧Below w.heap.size w w' := by
 have HR := LH9 (fun (x : Int) (h : cmpZ z z'=x) => (ret_int h.symm : Ending.returned (.int .i64 x)=.returned (.int .i64 (cmpZ z z'))));have HU := LH9 hu;have HV := LH9 hv;obtain ⟨m,rfl,a,len,cap,l,rfl,h1,h2,h3⟩ := hu;obtain ⟨m',rfl,a',len',cap',l',rfl,h1',h2',h3'⟩ := hv;clear h1 h2 h3 h1' h2' h3';generalize decide (z < 0)=s at *;generalize decide (z' < 0)=s' at *;have T := LH9 ((((Below.refl _ w).alloc (Nat.le_refl _) (.cells #[.bool s,.slice a len cap] 122)).alloc (by simp) (.cells #[.bool s',.slice a' len' cap'] 122)) : Below w.heap.size w _);have TC := LH9 (fun w' hb => two_cells64 (w := w) (w' := w') (x1 := .bool s) (y1 := .slice a len cap) (x2 := .bool s') (y2 := .slice a' len' cap') hb);have TS := LH9 (show ((w.alloc (.cells #[.bool s,.slice a len cap] 122)).alloc (.cells #[.bool s',.slice a' len' cap'] 122)).heap.size=w.heap.size + 2 by simp);have TL : Hid (w.heap.size≤((w.alloc (.cells #[.bool s,.slice a len cap] 122)).alloc (.cells #[.bool s',.slice a' len' cap'] 122)).heap.size) := by show _≤_; rw [TS.o]; omega
 go_enter Tryz.func77,Tryz.ntmps77
 go_wp2_with fail
 obtain ⟨c1,c2,c3,c4⟩ := TC.o _ (Below.refl _ _);generalize (w.alloc (.cells #[.bool s,.slice a len cap] 122)).alloc (.cells #[.bool s',.slice a' len' cap'] 122)=v at *
 go_region_held3 (fun w' => w'.cell? ⟨w.heap.size,0,none⟩=some (.bool s)∧w'.cell? ⟨w.heap.size,1,none⟩=some (.slice a len cap)∧w'.cell? ⟨w.heap.size + 1,0,none⟩=some (.bool s')∧w'.cell? ⟨w.heap.size + 1,1,none⟩=some (.slice a' len' cap')) (first | exact keep4g (Nat.le_trans (Nat.le_of_eq TS.o.symm) k1.size) g1 g2 g3 g4 | exact keep4g (Nat.le_of_eq TS.o.symm) g1 g2 g3 g4 | go_keep)
  (first
   | (go_at_call 88
      refine (minus_any _ z' _ (HV.o.below (by first | exact T.o.drew | exact (T.o.alloc TL.o _).drew))).mono ?_;rintro e w1 ⟨⟨r,rfl,hr⟩,b1⟩;have k1 : Below (w.heap.size + 2) v w1 := by
       first
        | exact ((Below.refl _ v).drew).trans (b1.mono (Nat.le_of_eq TS.o.symm))
        | exact (((Below.refl (w.heap.size + 2) v).alloc (Nat.le_of_eq TS.o.symm) (.cells #[.bool false,.slice none 0 0] 122)).drew).trans (b1.mono (Nat.le_trans (Nat.le_of_eq TS.o.symm) ((Below.refl (w.heap.size + 2) v).alloc (Nat.le_of_eq TS.o.symm) (.cells #[.bool false,.slice none 0 0] 122)).size))
      have k0 : Below w.heap.size w w1 := T.o.trans (k1.mono (by omega));obtain ⟨d1,d2,d3,d4⟩ := TC.o w1 k1;have a1 : Below w1.heap.size w1 (w1.alloc (.cells #[.bool false,.slice none 0 0] 122)) := (Below.refl _ _).alloc (Nat.le_refl _) _;have a2 : Below (w.heap.size + 2) v (w1.alloc (.cells #[.bool false,.slice none 0 0] 122)) := k1.trans (a1.mono (Nat.le_trans (Nat.le_of_eq TS.o.symm) k1.size));obtain ⟨n1,n2,n3,n4⟩ := TC.o _ a2
      try (have BA := (Mem.Blk.new v 122 #[.bool false,.slice none 0 0]).drew.below b1))
   | (go_at_call 45
      refine (plus_any _ _ z (-z') _ (HU.o.below (by first | exact k0 | exact T.o.trans (a2.mono (by omega)))) (by first | exact hr | exact hr.below a1) bn bn').mono ?_;rintro e w2 ⟨⟨r2,rfl,hr2⟩,b2⟩;have k2 : Below (w.heap.size + 2) v w2 := by
       first
        | exact k1.trans (b2.mono (Nat.le_trans (Nat.le_of_eq TS.o.symm) k1.size))
        | exact a2.trans (b2.mono (Nat.le_trans (Nat.le_of_eq TS.o.symm) a2.size))
      obtain ⟨g1,g2,g3,g4⟩ := TC.o w2 k2;obtain ⟨m2,rfl,a2,len2,cap2,l2,rfl,q1,q2,q3⟩ := hr2
      try (have B3 := (Mem.Blk.new w1 122 #[.bool false,.slice none 0 0]).below b2; obtain ⟨e0,e1,f0,f1⟩ := B3.two)
      try (have B4 := BA.below b2; obtain ⟨e0,e1,f0,f1⟩ := B4.two)))
 all_goals
  have hz := MagR.zero q1 q2 q3;have K := LH9 (T.o.trans (k2.mono (by omega)));have S1 := LH9 k0.size;clear TC HU HV q1 q2 q3 hr k0 k1 k2 b1 b2 d1 d2 d3 d4 g1 g2 g3 g4 a1 n1 n2 n3 n4 c1 c2 c3 c4 bn bn';rcases Int.lt_trichotomy z z' with hlt | heq | hlt
  · have FIN := LH9 (HR.o (-1) (by unfold cmpZ; rw [if_pos hlt]));have e1 : decide (z + -z' < 0)=true := by simp; omega
    have hne : ((len2 : Int) == 0)=false := by simp; omega
    generalize decide (z + -z' < 0)=neg at *;subst e1;clear hz hlt
    go_wp2
    go_ret;exact ⟨FIN.o,by first | exact K.o.alloc K.o.size _ | exact (K.o.setCell S1.o _).setCell S1.o _ | exact (K.o.setCell TL.o _).setCell TL.o _⟩
  · have FIN := LH9 (HR.o 0 (by unfold cmpZ; rw [if_neg (by omega),if_pos heq]));have hl0 : len2=0 := by omega
    subst hl0;clear hz heq
    go_wp2
    go_ret;exact ⟨FIN.o,by first | exact K.o.alloc K.o.size _ | exact (K.o.setCell S1.o _).setCell S1.o _ | exact (K.o.setCell TL.o _).setCell TL.o _⟩
  · have FIN := LH9 (HR.o 1 (by unfold cmpZ; rw [if_neg (by omega),if_neg (by omega)]));have e1 : decide (z + -z' < 0)=false := by simp; omega
    have hne : ((len2 : Int) == 0)=false := by simp; omega
    generalize decide (z + -z' < 0)=neg at *;subst e1;clear hz hlt
    go_wp2
    go_ret;exact ⟨FIN.o,by first | exact K.o.alloc K.o.size _ | exact (K.o.setCell S1.o _).setCell S1.o _ | exact (K.o.setCell TL.o _).setCell TL.o _⟩
end
section
theorem lit4 (w : World) (g : Nat) (z1 z2 z3 z4 : Int) (n1 n2 n3 n4 : Nat) (hg : g=w.heap.size) (h1 : z1=n1) (h2 : z2=n2) (h3 : z3=n3) (h4 : z4=n4) :
 Nums (w.alloc (.cells #[.int .u64 z1,.int .u64 z2,.int .u64 z3,.int .u64 z4] 141)) (some ⟨g,0,none⟩) 4 4 [n1,n2,n3,n4] := by
 subst hg h1 h2 h3 h4;refine ⟨rfl,Nat.le_refl _,by decide,fun _ => ⟨w.heap.size,0,rfl,by simp,fun i x hx => ?_⟩⟩;have := (Mem.Blk.new w 141 #[.int .u64 (n1 : Int),.int .u64 (n2 : Int),.int .u64 (n3 : Int),.int .u64 (n4 : Int)]).cell (0 + i);rw [this,Nat.zero_add]
 match i,hx with
 | 0,hx => simp at hx; subst hx; rfl
 | 1,hx => simp at hx; subst hx; rfl
 | 2,hx => simp at hx; subst hx; rfl
 | 3,hx => simp at hx; subst hx; rfl
 | k + 4,hx => simp at hx
def ofD (n : Nat) : List Nat := [n % 65536,n / 65536 % 65536,n / 4294967296 % 65536,n / 281474976710656]
theorem ofD_dig (n : Nat) (h : n≤9223372036854775808) : Big.Dig (ofD n) := by
 intro d hd; unfold ofD at hd; simp at hd;rcases hd with rfl | rfl | rfl | rfl <;> omega
theorem ofD_val (n : Nat) : Big.val (ofD n)=n := by
 unfold ofD; simp [Big.val]; omega
theorem wrap_neg2 (n : Nat) (h : n≤9223372036854775808) : IntKind.u64.wrap (-IntKind.u64.wrap (-(n : Int)))=n := by
 simp only [IntKind.wrap_u64]; omega
theorem bigof_any (a : Int) (w : World) (h0 : -9223372036854775808≤a) (h1 : a≤9223372036854775807) :
 Calls Tryz.prog 46 #[.int .i64 a] w fun e w' => (∃ r,e=.returned r∧BigR w' r a)∧Below w.heap.size w w' := by
 have HD := LH9 (ofD_dig a.natAbs (by omega));have HV := LH9 (ofD_val a.natAbs);have BW := LH9 (fun o o2 : Obj => (((Below.refl _ w).alloc (Nat.le_refl _) o).alloc (by simp) o2 : Below w.heap.size w _));by_cases hz : a < 0
 · obtain ⟨n,hn,rfl⟩ : ∃ n : Nat,1≤n∧a=-(n : Int) := ⟨a.natAbs,by omega,by omega⟩;have e : Hid ((-(n : Int)).natAbs=n) := by show _=_; omega
   have hwr := wrap_neg2 n (by omega);rw [e.o] at HD HV
   go_enter Tryz.func46,Tryz.ntmps46
   go_wp2_with fail
   refine (trim_any _ _ _ (ofD n) _ (lit4 _ _ _ _ _ _ _ _ _ _ (by simp) (by omega) (by omega) (by omega) (by omega))).mono ?_;rintro e' w' ⟨rfl,rfl⟩;have N1 := fun o : Obj => lit4 (w.alloc o) (w.heap.size + 1) ((n : Int) % 65536) ((n : Int) / 65536 % 65536) ((n : Int) / 4294967296 % 65536) ((n : Int) / 281474976710656) (n % 65536) (n / 65536 % 65536) (n / 4294967296 % 65536) (n / 281474976710656) (by simp) (by omega) (by omega) (by omega) (by omega)
   have hb : ∀ o : Obj,BigR ((w.alloc o).alloc (.cells #[.int .u64 ((n : Int) % 65536),.int .u64 ((n : Int) / 65536 % 65536),.int .u64 ((n : Int) / 4294967296 % 65536),.int .u64 ((n : Int) / 281474976710656)] 141)) (.agg #[.bool true,.slice (some ⟨w.heap.size + 1,0,none⟩) (Big.trim (ofD n)).length 4]) (-(n : Int)) := by
    intro o;refine ⟨.slice (some ⟨w.heap.size + 1,0,none⟩) (Big.trim (ofD n)).length 4,by first | (simp; omega) | simp,?_⟩;rw [e.o];have := (N1 o).take (Big.trim (ofD n)).length (trim_le (ofD n));rw [show [n % 65536,n / 65536 % 65536,n / 4294967296 % 65536,n / 281474976710656]=ofD n from rfl,← trim_len] at this;have h := MagR.trim this HD.o;rw [HV.o] at h;exact h
   have HB := LH9 hb;clear N1 hb;generalize (Big.trim (ofD n)).length=k at *
   go_wp2
   refine bodyPost_ret (v := .agg #[.bool true,.slice (some ⟨w.heap.size + 1,0,none⟩) k 4]) (by simp [results,Tryz.results46,go_sem]) rfl ⟨⟨_,rfl,HB.o _⟩,?_⟩;exact BW.o _ _
 · obtain ⟨n,rfl⟩ : ∃ n : Nat,a=(n : Int) := ⟨a.toNat,by omega⟩;have e : Hid ((n : Int).natAbs=n) := by show _=_; omega
   rw [e.o] at HD HV
   go_enter Tryz.func46,Tryz.ntmps46
   go_wp2_with fail
   refine (trim_any _ _ _ (ofD n) _ (lit4 _ _ _ _ _ _ _ _ _ _ (by simp) (by omega) (by omega) (by omega) (by omega))).mono ?_;rintro e' w' ⟨rfl,rfl⟩;have N1 := fun o : Obj => lit4 (w.alloc o) (w.heap.size + 1) ((n : Int) % 65536) ((n : Int) / 65536 % 65536) ((n : Int) / 4294967296 % 65536) ((n : Int) / 281474976710656) (n % 65536) (n / 65536 % 65536) (n / 4294967296 % 65536) (n / 281474976710656) (by simp) (by omega) (by omega) (by omega) (by omega)
   have hb : ∀ o : Obj,BigR ((w.alloc o).alloc (.cells #[.int .u64 ((n : Int) % 65536),.int .u64 ((n : Int) / 65536 % 65536),.int .u64 ((n : Int) / 4294967296 % 65536),.int .u64 ((n : Int) / 281474976710656)] 141)) (.agg #[.bool false,.slice (some ⟨w.heap.size + 1,0,none⟩) (Big.trim (ofD n)).length 4]) ((n : Int)) := by
    intro o;refine ⟨.slice (some ⟨w.heap.size + 1,0,none⟩) (Big.trim (ofD n)).length 4,by first | (simp; omega) | simp,?_⟩;rw [e.o];have := (N1 o).take (Big.trim (ofD n)).length (trim_le (ofD n));rw [show [n % 65536,n / 65536 % 65536,n / 4294967296 % 65536,n / 281474976710656]=ofD n from rfl,← trim_len] at this;have h := MagR.trim this HD.o;rw [HV.o] at h;exact h
   have HB := LH9 hb;clear N1 hb;generalize (Big.trim (ofD n)).length=k at *
   go_wp2
   refine bodyPost_ret (v := .agg #[.bool false,.slice (some ⟨w.heap.size + 1,0,none⟩) k 4]) (by simp [results,Tryz.results46,go_sem]) rfl ⟨⟨_,rfl,HB.o _⟩,?_⟩;exact BW.o _ _
end
section
def smB (z : Int) : Bool := decide (-9223372036854775808≤z∧z≤9223372036854775807)
def smN (z : Int) : Int := if smB z then z else 0
theorem sm_no (z : Int) (h : ¬(-9223372036854775808≤z∧z≤9223372036854775807)) : Ending.returned (.tuple #[.int .i64 0,.bool false])=.returned (.tuple #[.int .i64 (smN z),.bool (smB z)]) := by
 have e : smB z=false := by unfold smB; simpa using h
 unfold smN; rw [e]; rfl
theorem sm_yes (z : Int) (h : -9223372036854775808≤z∧z≤9223372036854775807) (x : Int) (hx : x=z) : Ending.returned (.tuple #[.int .i64 x,.bool true])=.returned (.tuple #[.int .i64 (smN z),.bool (smB z)]) := by
 have e : smB z=true := by unfold smB; simpa using h
 unfold smN; rw [e,hx]; rfl
theorem cmpZ_gt (z y : Int) (h : y < z) : cmpZ z y=1 := by unfold cmpZ; rw [if_neg (by omega),if_neg (by omega)]
theorem cmpZ_lt (z y : Int) (h : z < y) : cmpZ z y=-1 := by unfold cmpZ; rw [if_pos h]
theorem cmpZ_le (z y : Int) (h : z≤y) : cmpZ z y≤0 := by unfold cmpZ; split <;> (try split) <;> omega
theorem cmpZ_ge (z y : Int) (h : y≤z) : 0≤cmpZ z y := by unfold cmpZ; split <;> (try split) <;> omega
theorem Sm.int (n : Nat) (h : n≤9223372036854775808) : Sm n := by
 refine Sm.of (Nat.lt_of_lt_of_le ?_ (Big.pw_mono (show 5≤1000000 by decide)));show n < 65536 ^ 5;omega
theorem Nums.drop_step (l : List Nat) (k : Nat) (h : k < l.length) : Big.val (l.drop k)=l.getD k 0 + 65536 * Big.val (l.drop (k + 1)) := by
 rw [List.drop_eq_getElem_cons h,List.getD_eq_getElem?_getD,List.getElem?_eq_getElem h]; rfl
theorem val_drop_le (l : List Nat) : ∀ k,Big.val (l.drop k)≤Big.val l := by
 induction l with
 | nil => intro k; simp
 | cons d t ih =>
   intro k
   cases k with
   | zero => simp
   | succ j => have := ih j; simp only [List.drop_succ_cons]; show _≤d + 65536 * Big.val t; omega
theorem one_cells64 {w w' : World} {x1 y1 : Value} (hb : Below (w.heap.size + 1) (w.alloc (.cells #[x1,y1] 122)) w') :
 w'.cell? ⟨w.heap.size,0,none⟩=some x1∧w'.cell? ⟨w.heap.size,1,none⟩=some y1 := by
 have B1 : Mem.Blk w' w.heap.size 122 #[x1,y1] := ((Mem.Blk.new w 122 #[x1,y1])).call hb (by omega);exact ⟨B1.two.1,B1.two.2.1⟩
theorem c_le (c : Int) (h : c≤0) : decide (0 < c)=false := by simp; omega
theorem c_ge (c : Int) (h : 0≤c) : decide (c < 0)=false := by simp; omega
theorem small_le (v : Value) (z : Int) (w : World) (hv : BigR w v z) (hz : Sm z.natAbs) (hle : z≤9223372036854775807) :
 Calls Tryz.prog 47 #[v] w fun e w' => e=.returned (.tuple #[.int .i64 (smN z),.bool (smB z)])∧Below w.heap.size w w' := by
 have HV := LH9 hv;have HZ := LH9 hz;have HM := LH9 (Sm.int (-9223372036854775807 : Int).natAbs (by decide));have HM2 := LH9 (Sm.int (-(-9223372036854775808) : Int).natAbs (by decide));have HLE := LH9 hle;obtain ⟨c,hc,hc0⟩ : ∃ c,cmpZ z 9223372036854775807=c∧decide (0 < c)=false := ⟨_,rfl,c_le _ (cmpZ_le _ _ hle)⟩;have HC := LH9 hc;obtain ⟨m,rfl,a,len,cap,l,rfl,h1,h2,h3⟩ := hv;have HN := LH9 h1;have HO := LH9 h2;have HL := LH9 h3;have hl2 := h1.2.1;have hl3 := h1.2.2.1;clear h1 h2 h3 hz hle hc;have HS := LH9 (rfl : decide (z < 0)=decide (z < 0));generalize hs : decide (z < 0)=s at *;have HS := LH9 hs;clear hs;have T := LH9 (((Below.refl _ w).alloc (Nat.le_refl _) (.cells #[.bool s,.slice a len cap] 122)) : Below w.heap.size w _);have TC := LH9 (fun w' hb => one_cells64 (w := w) (w' := w') (x1 := .bool s) (y1 := .slice a len cap) hb);have TS := LH9 (show (w.alloc (.cells #[.bool s,.slice a len cap] 122)).heap.size=w.heap.size + 1 by simp);by_cases hlt : z < -9223372036854775808
 · have FIN := LH9 (sm_no z (by omega));have HD := LH9 (cmpZ_lt z (-9223372036854775808) hlt);clear hlt
   go_enter Tryz.func47,Tryz.ntmps47
   go_wp2_with fail
   obtain ⟨p1,p2⟩ := TC.o _ (Below.refl _ _);generalize (w.alloc (.cells #[.bool s,.slice a len cap] 122))=v at *
   first
   | go_region_held3 (fun w' => w'.cell? ⟨w.heap.size,0,none⟩=some (.bool s)∧w'.cell? ⟨w.heap.size,1,none⟩=some (.slice a len cap)) (first | exact ⟨j1,j2⟩ | exact ⟨i1,i2⟩ | exact ⟨g1,g2⟩ | exact ⟨d1,d2⟩ | go_keep)
     (first
      | (go_at_call 46
         (with_reducible refine (bigof_any 9223372036854775807 _ (by decide) (by decide)).mono ?_);rintro e w1 ⟨⟨r,rfl,hr⟩,b1⟩;have k1 : Below (w.heap.size + 1) v w1 := ((Below.refl _ v).drew).trans (b1.mono (Nat.le_of_eq TS.o.symm));have k0 : Below w.heap.size w w1 := T.o.trans (k1.mono (by omega));obtain ⟨d1,d2⟩ := TC.o w1 k1)
      | (go_at_call 77
         (with_reducible refine (bigcmp_any _ _ z 9223372036854775807 _ (HV.o.below k0) hr HZ.o HM.o).mono ?_);rintro e w2 ⟨rfl,b2⟩;have k2 : Below (w.heap.size + 1) v w2 := k1.trans (b2.mono (Nat.le_trans (Nat.le_of_eq TS.o.symm) k1.size));obtain ⟨g1,g2⟩ := TC.o w2 k2;rw [HC.o])
      | (go_at_call 46
         (with_reducible refine (bigof_any (-9223372036854775808) _ (by decide) (by decide)).mono ?_);rintro e w3 ⟨⟨r3,rfl,hr3⟩,b3⟩;have k3 : Below (w.heap.size + 1) v w3 := k2.trans (b3.mono (Nat.le_trans (Nat.le_of_eq TS.o.symm) k2.size));have k30 : Below w.heap.size w w3 := T.o.trans (k3.mono (by omega));obtain ⟨i1,i2⟩ := TC.o w3 k3)
      | (go_at_call 77
         (with_reducible refine (bigcmp_any _ _ z (-9223372036854775808) _ (HV.o.below k30) hr3 HZ.o HM2.o).mono ?_);rintro e w4 ⟨rfl,b4⟩;have k4 : Below (w.heap.size + 1) v w4 := k3.trans (b4.mono (Nat.le_trans (Nat.le_of_eq TS.o.symm) k3.size));obtain ⟨j1,j2⟩ := TC.o w4 k4;rw [HD.o]))
   | fail "region"
   all_goals
    have K := LH9 (T.o.trans (k4.mono (by omega)));clear TC HV hr k0 k1 k2 k3 k4 b1 b2 b3 b4 d1 d2 g1 g2 i1 i2 j1 j2 p1 p2 k30
    go_wp2
    go_ret2;exact ⟨FIN.o,K.o⟩
 · have hle := HLE.o;have FIN := LH9 (sm_yes z (by omega));have hlen : len≤4 := MagR.small HN.o HO.o (by rw [HL.o]; show _ < 65536 ^ 4; omega);have HV4 := LH9 (show Big.val l≤9223372036854775808 by rw [HL.o]; omega);obtain ⟨c',hc',hc0'⟩ : ∃ c',cmpZ z (-9223372036854775808)=c'∧decide (c' < 0)=false := ⟨_,rfl,c_ge _ (cmpZ_ge _ _ (by omega))⟩;have HD := LH9 hc';have HLT := LH9 hlt;clear hlt hc' hle
   go_enter Tryz.func47,Tryz.ntmps47
   go_wp2_with fail
   obtain ⟨p1,p2⟩ := TC.o _ (Below.refl _ _);generalize (w.alloc (.cells #[.bool s,.slice a len cap] 122))=v at *
   first
   | go_region_held3 (fun w' => w'.cell? ⟨w.heap.size,0,none⟩=some (.bool s)∧w'.cell? ⟨w.heap.size,1,none⟩=some (.slice a len cap)) (first | exact ⟨j1,j2⟩ | exact ⟨i1,i2⟩ | exact ⟨g1,g2⟩ | exact ⟨d1,d2⟩ | go_keep)
     (first
      | (go_at_call 46
         (with_reducible refine (bigof_any 9223372036854775807 _ (by decide) (by decide)).mono ?_);rintro e w1 ⟨⟨r,rfl,hr⟩,b1⟩;have k1 : Below (w.heap.size + 1) v w1 := ((Below.refl _ v).drew).trans (b1.mono (Nat.le_of_eq TS.o.symm));have k0 : Below w.heap.size w w1 := T.o.trans (k1.mono (by omega));obtain ⟨d1,d2⟩ := TC.o w1 k1)
      | (go_at_call 77
         (with_reducible refine (bigcmp_any _ _ z 9223372036854775807 _ (HV.o.below k0) hr HZ.o HM.o).mono ?_);rintro e w2 ⟨rfl,b2⟩;have k2 : Below (w.heap.size + 1) v w2 := k1.trans (b2.mono (Nat.le_trans (Nat.le_of_eq TS.o.symm) k1.size));obtain ⟨g1,g2⟩ := TC.o w2 k2;rw [HC.o])
      | (go_at_call 46
         (with_reducible refine (bigof_any (-9223372036854775808) _ (by decide) (by decide)).mono ?_);rintro e w3 ⟨⟨r3,rfl,hr3⟩,b3⟩;have k3 : Below (w.heap.size + 1) v w3 := k2.trans (b3.mono (Nat.le_trans (Nat.le_of_eq TS.o.symm) k2.size));have k30 : Below w.heap.size w w3 := T.o.trans (k3.mono (by omega));obtain ⟨i1,i2⟩ := TC.o w3 k3)
      | (go_at_call 77
         (with_reducible refine (bigcmp_any _ _ z (-9223372036854775808) _ (HV.o.below k30) hr3 HZ.o HM2.o).mono ?_);rintro e w4 ⟨rfl,b4⟩;have k4 : Below (w.heap.size + 1) v w4 := k3.trans (b4.mono (Nat.le_trans (Nat.le_of_eq TS.o.symm) k3.size));obtain ⟨j1,j2⟩ := TC.o w4 k4;rw [HD.o]))
   | fail "region"
   all_goals
    have K4 := LH9 k4;have K := LH9 (T.o.trans (k4.mono (by omega)));clear HV hr k0 k1 k2 k3 k4 b1 b2 b3 b4 d1 d2 g1 g2 i1 i2 j1 j2 p1 p2 k30;have T4 : Below w.heap.size w w4 := K.o;have J1 := (TC.o w4 K4.o).1;have J2 := (TC.o w4 K4.o).2
    go_wp2_with fail
    go_loop [4,5] (fun u i => ∃ k : Nat,i=.int .i64 ((k : Int) - 1)∧k≤len∧u=.int .u64 (Big.val (l.drop k) : Nat)) (fun _ i => (intOf i + 1).toNat)
    case atStart => exact ⟨len,by go_num,Nat.le_refl _,by rw [List.drop_of_length_le (by rw [HN.o.1]; exact Nat.le_refl _)]; rfl⟩
    case round =>
     obtain ⟨k,rfl,hk,rfl⟩ := hrel;have hle1 := Nat.le_trans (val_drop_le l k) HV4.o
     cases k with
     | zero =>
       cases s with
       | false =>
         have FIN2 := LH9 (FIN.o (wrap64 (Big.val (l.drop 0) : Nat)) (by have h1 := HS.o; have h2 := HL.o; have h3 := HLE.o; simp at h1; simp only [List.drop_zero,wrap64]; omega));generalize Big.val (l.drop 0)=x at *
         go_wp2
         go_ret2;exact ⟨FIN2.o,K.o⟩
       | true =>
         have FIN2 := LH9 (FIN.o (wrap64 (IntKind.u64.wrap (-(Big.val (l.drop 0) : Nat)))) (by have h1 := HS.o; have h2 := HL.o; have h3 := HLT.o; simp at h1; simp only [List.drop_zero,wrap64,IntKind.wrap_u64]; omega));generalize Big.val (l.drop 0)=x at *
         go_wp2
         go_ret2;exact ⟨FIN2.o,K.o⟩
     | succ j =>
       obtain ⟨b,o,rfl,hb,hc⟩ := (HN.o.below T4).at j (by omega);have hst := Nums.drop_step l j (by rw [HN.o.1]; exact hk);have hle2 := Nat.le_trans (val_drop_le l j) HV4.o;have REL := LH9 hst;generalize l.getD j 0=x at *;generalize Big.val (l.drop (j + 1))=y at *;generalize hvv : Big.val (l.drop j)=vv at *;have HVV := LH9 hvv;clear hvv
       go_wp2
       go_round
       case rel => exact ⟨j,by go_num,by omega,by rw [HVV.o,REL.o]; go_num⟩
       case measure => simp [intOf]
end
end Go.Proofs.YtmiinmndbkdjbaaGreat
