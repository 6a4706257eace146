/- A part of the proof: Reg, Tk, Tree, Mem, Has, Str, StrB, one behind another. -/
import Derived.Deep.RegionHeld3
import Derived.Tactics
import Derived.KernelRfl
import Derived.WalkKit
import Derived.Lib.Hide
import Derived.WalkSpells
import Derived.Below
import Derived.Maps.AppendAt
import Derived.Test.YtmiinmndbkdjbaaGreatProg
import Derived.Test.YtmiinmndbkdjbaaGreatChecked
import Derived.LoopTactic
import Derived.WalkLawsBesides
import Derived.BigQuiet
import Derived.Deep.QuietTactic
import Derived.Deep.RegionWith
import Derived.IntWalk
import Derived.Shelf.Bits.Mul64
import Derived.BigRegion
import Derived.RegionTactic
import Derived.Deep.DeepCutAuto
import Derived.Deep.CutBlock
import Derived.Maps.OwnSet
import Derived.StillTailTactics
import Derived.WalkSmall
import Derived.Deep.AppendLies
import Derived.Deep.OwnRows
import Derived.OpenShut
import Derived.Sort.EncStr
import Derived.Deep.Draws
import Derived.Deep.Upon
import Derived.Deep.LoopGhost
import Derived.Deep.CutRange
import Derived.ProofKit
import Derived.ShutString
import Derived.ChangeOld
import Derived.Deep.Slices
import Derived.Deep.Fields
import Derived.ChangeSame
set_option maxRecDepth 100000
set_option maxHeartbeats 16000000
set_option linter.unusedVariables false
set_option linter.unusedSimpArgs false
namespace Go.RowKit
theorem Hid.o {p : Prop} (h : Hid p) : p := h.out
end Go.RowKit
namespace Go.Proofs.YtmiinmndbkdjbaaGreat
open Go Go.RowKit
theorem LH9 {p : Prop} (h : p) : Hid p := Lib.hid h
theorem zp1.{u} {α : Type u} {xs : List α} {i : Nat} (h : i < xs.toArray.size) : xs.toArray[i] = xs[i]'(by simpa using h) := List.getElem_toArray h
theorem zp2.{u} {α : Type u} {a : α} {l : List α} {h : 0 < (a :: l).length} : (a :: l)[0] = a := rfl
theorem zp3.{u} {α : Type u} {a : α} {l : List α} {i : Nat} {h : i + 1 < (a :: l).length} : (a :: l)[i+1] = l[i]'(Nat.lt_of_succ_lt_succ h) := rfl
theorem zp4.{u} {α : Type u} {l : List α} {i : Nat} {a : α} : l.toArray.setIfInBounds i a = (l.set i a).toArray := by simp
theorem zp5.{u} {α : Type u} {x : α} {xs : List α} {a : α} : (x :: xs).set 0 a = a :: xs := rfl
theorem zp6.{u} {α : Type u} {x : α} {xs : List α} {i : Nat} {a : α} : (x :: xs).set (i+1) a = x :: xs.set i a := rfl
theorem pt9 (tl : List Value) (df : List Deferred) (d : Tmp) (v : Value) : (Act.mk tl.toArray df).put (some d) v = ⟨(tl.set d v).toArray, df⟩ := by simp [Act.put]
theorem pn9 (a : Act) (v : Value) : a.put none v = a := rfl
theorem bt9 {a w w' : World} (h : Hid (Below a.heap.size a w)) (k : Below w.heap.size w w') : Hid (Below a.heap.size a w') := h.out.trans (k.mono h.out.size)
theorem bu9 {a w w' : World} (h : Hid (Below a.heap.size a w)) (k : Hid (Below w.heap.size w w')) : Hid (Below a.heap.size a w') := h.out.trans (k.out.mono h.out.size)
end Go.Proofs.YtmiinmndbkdjbaaGreat
namespace Go.Proofs.YtmiinmndbkdjbaaGreat
theorem Z7_0 {p : Prop} (h : p := by
  refine tk 0 ⟨⟨e0,e1⟩,x3,u0,u1,u2,u3⟩ ?_;refine tk 1 ⟨⟨e0,e1⟩,x3,u0,u1,u2,u3⟩ ?_;refine tk 2 ⟨⟨e0,e1⟩,x3,u0,u1,u2,u3⟩ ?_;refine tk 3 ⟨⟨e0,e1⟩,x3,u0,u1,u2,u3⟩ ?_;refine tk 4 ⟨⟨e0,e1⟩,x3,u0,u1,u2,u3⟩ ?_;refine till_two (i := 5) (j := 6) (by kernel_rfl) rfl rfl (fun K' hK => ?_) (fun K' hK => ?_)
  . go_simp;go_at_call 96;(with_reducible refine (EvC.run HCA.o _ ST.o.below.drew).mono ?_);rintro y w1 ⟨hy,b1⟩;unfold RetV at hy;subst hy;have hd := (Below.refl v.heap.size v).drew;have ST1 := LH9 ((ST.o.up hd).up b1);have bt := hd.trans (b1.mono hd.size);have GG := LH9 (True.intro);replace e0 := cu9 e0 bt;replace e1 := cu9 e1 bt;replace x3 := cu9 x3 bt;replace u0 := cu9 u0 bt;replace u1 := cu9 u1 bt;replace u2 := cu9 u2 bt;replace u3 := cu9 u3 bt;refine hK _ _ ⟨⟨e0,e1⟩,x3,u0,u1,u2,u3⟩ ?_;clear hK K' b1 hd bt
    try simp only [Act.put,zp1,zp2,zp3,zp4,zp5,zp6]
    refine t19 6 (fun K' hK=>?_);go_simp;have bn := (Below.refl w1.heap.size w1).alloc (Nat.le_refl _) (.cells #[.int .i64 0,.int .i64 0,.bool false] 150);have ST2 := LH9 (ST1.o.up bn);have BZ := LH9 (Mem.Blk.new w1 150 #[.int .i64 0,.int .i64 0,.bool false]);have HZ := LH9 ST1.o.lt;have HP := LH9 (True.intro);refine hK _ _ ⟨⟨cu9 e0 bn,cu9 e1 bn⟩,cu9 x3 bn,cu9 u0 bn,cu9 u1 bn,cu9 u2 bn,cu9 u3 bn⟩ ?_;clear hK K' bn ST1 e0 e1 x3 u0 u1 u2 u3 GG;generalize w1.alloc (.cells _ 150)=w2 at *;generalize w1.heap.size=z at *
    try simp only [Act.put,zp1,zp2,zp3,zp4,zp5,zp6]
    obtain ⟨t0,t1,t2,t3,t4,t5⟩ := blk3 BZ.o;have hm := BZ.o.lt;refine tl9 (fun K' hK=>?_);go_simp;have HS9 := LH9 (ST2.o.far3 HZ.o (.int .i64 A.K) (.int .i64 A.N) (.bool A.B));have HV9 := LH9 (EvV.mk (v := A) HZ.o (((BZ.o.set_ 0 (.int .i64 A.K)).set_ 1 (.int .i64 A.N)).set_ 2 (.bool A.B)));refine hK _ _ ?_;clear hK K'
    try simp only [Act.put,zp1,zp2,zp3,zp4,zp5,zp6]
    refine wd9 ?_;go_wp2_with fail;go_meet
    case rel => exact ⟨z,rfl,HS9.o,HV9.o⟩
  . go_simp;have bn := below_new v (.cells #[.int .i64 0,.int .i64 0,.bool false] 150);have ST1 := LH9 (ST.o.up bn);have BZ1 := LH9 (Mem.Blk.new v 150 #[.int .i64 0,.int .i64 0,.bool false]).drew;have HZ := LH9 ST.o.lt;have HQ := LH9 (True.intro);replace e0 := cu9 e0 bn;replace e1 := cu9 e1 bn;replace x3 := cu9 x3 bn;replace u0 := cu9 u0 bn;replace u1 := cu9 u1 bn;replace u2 := cu9 u2 bn;replace u3 := cu9 u3 bn;refine hK _ _ ⟨⟨e0,e1⟩,x3,u0,u1,u2,u3⟩ ?_;clear hK K' bn;generalize (v.alloc (.cells _ 150)).drew=w1 at *;generalize v.heap.size=z at *
    try simp only [Act.put,zp1,zp2,zp3,zp4,zp5,zp6]
    refine t19 5 (fun K' hK=>?_);go_simp;go_at_call 96;(with_reducible refine (EvC.run HCA.o _ ST1.o.below).mono ?_);rintro y w2 ⟨hy,b1⟩;unfold RetV at hy;subst hy;have ST2 := LH9 (ST1.o.up b1);have BZ := LH9 (BZ1.o.below b1);have HP := LH9 (True.intro);refine hK _ _ ⟨⟨cu9 e0 b1,cu9 e1 b1⟩,cu9 x3 b1,cu9 u0 b1,cu9 u1 b1,cu9 u2 b1,cu9 u3 b1⟩ ?_;clear hK K' b1 ST1 BZ1 e0 e1 x3 u0 u1 u2 u3 HQ
    try simp only [Act.put,zp1,zp2,zp3,zp4,zp5,zp6]
    obtain ⟨t0,t1,t2,t3,t4,t5⟩ := blk3 BZ.o;have hm := BZ.o.lt;refine tl9 (fun K' hK=>?_);go_simp;have HS9 := LH9 (ST2.o.far3 HZ.o (.int .i64 A.K) (.int .i64 A.N) (.bool A.B));have HV9 := LH9 (EvV.mk (v := A) HZ.o (((BZ.o.set_ 0 (.int .i64 A.K)).set_ 1 (.int .i64 A.N)).set_ 2 (.bool A.B)));refine hK _ _ ?_;clear hK K'
    try simp only [Act.put,zp1,zp2,zp3,zp4,zp5,zp6]
    refine wd9 ?_;go_wp2_with fail;go_meet
    case rel => exact ⟨z,rfl,HS9.o,HV9.o⟩
 ) : p := h
theorem Z7_1 {p : Prop} (h : p := by
  have BP4 := LH9 (BP3.o.below HW4.o);have BG4 := LH9 (BG3.o.below HW4.o);obtain ⟨y0,y1,y2,y3,-,-,-,-⟩ := blk4 BG4.o;obtain ⟨c0,c1,c2,c3,c4,c5,c6⟩ := blk7 BP4.o;go_upto_region 37 with (fail);go_upto_region 38 with (at_builtin; refine ap_rowZ infoE Tryz.underlying29 rfl (by decide) rfl (.tmp 172) (.tmp 174) rfl rfl (World.ownsRow_nil w4 w4.heap.size 74 4) (Nat.le_refl _) ua un.length uc vs.flatten rfl HVL9.o HVC.o HVO.o (by have := HUN.o; unfold maxLen; omega) (by have := HUN.o; omega) ?_; intro v5 w5 o' g' h'; have HO5 := LH9 o'; have HG5 := LH9 g'; clear o' g' h');have b5 : Below w4.heap.size w4 w5 := (Below.refl w4.heap.size w4).grown HG5.o (Nat.le_refl _) (fun b hb => by cases hb);have HB5 := LH9 b5;clear y0 y1 y2 y3 c0 c1 c2 c3 c4 c5 c6 z0' z1' HG5;have BG5 := LH9 (BG4.o.below b5);obtain ⟨y0,y1,y2,y3,-,-,-,-⟩ := blk4 BG5.o;obtain ⟨-,u0,u1,u2,u3⟩ := HXW.o;replace u0 := cu9 (cu9 u0 HW4.o) b5;replace u1 := cu9 (cu9 u1 HW4.o) b5;replace u2 := cu9 (cu9 u2 HW4.o) b5;replace u3 := cu9 (cu9 u3 HW4.o) b5;have hbn := below_nT w5 (.cells #[.int .i64 xo,.int .i64 xn,.string xs,.slice aa al ac] 74);have HO6 := LH9 (own_below HO5.o hbn);have HB6 := bt9 HB5 hbn;clear hbn b5;go_upto_region 39 with (first | (refine list_bsE rfl rfl rfl ?_; simp only [Act.put,zp1,zp2,zp3,zp4,zp5,zp6]) | (at_builtin; refine ap_row infoE Tryz.underlying29 rfl (by decide) rfl (.tmp 176) (.tmp 181) rfl rfl HO6.o HB6.o.size ⟨w5.heap.size,0,none⟩ 1 1 [.int .i64 xo,.int .i64 xn,.string xs,.slice aa al ac] rfl rfl (lit_cells_at w5 #[.int .i64 xo,.int .i64 xn,.string xs,.slice aa al ac] 74 _ rfl) (by simp [Value.oneCell']) (by have := HUN.o; unfold maxLen; omega) (by have := HUN.o; omega) ?_; intro v7 w7 o' g' h'; have HO7 := LH9 o'; have HG7 := LH9 g'; clear o' g' h'));have b7 : Below w4.heap.size w4 w7 := HB6.o.grown HG7.o HB6.o.size (fun b hb => (own_lt HO6.o hb).1);have HAJ4 := HAJ.o.up HW4.o;have hun : ∃ a9 c9,v7=.slice a9 U9.length c9/\SlR exK w7 (owns (famA w.heap.size w.heap.size day fx fa fl fc s u7 u8)) U9 a9 U9.length c9 := by
   have h1 : w7.ownsRow w4.heap.size 74 exK.sz v7 U9.length (vs ++ ([[.int .i64 xo,.int .i64 xn,.string xs,.slice aa al ac]] : List (List Value))).flatten := by
    have h2 := HO7.o;rw [List.flatten_append,List.flatten_singleton,HUL.o];rw [Nat.zero_add,List.nil_append] at h2;exact h2
   refine slR_row (K := exK) h1 (fun g hg hm => ?_) (by rw [List.length_append,List.length_singleton,HVN.o,HUL.o]) (fun i x c hx hc => ?_)
   . have h3 := (own_lt h1 hg).1;have h4 := HAJ4.sep.lt g (List.mem_append_right _ hm);omega
   . rw [HU9.o] at hx;rcases Nat.lt_or_ge i un.length with hi | hi
     . rw [List.getElem?_append_left hi] at hx;rw [List.getElem?_append_left (by rw [HVN.o]; exact hi)] at hc;exact exK.less (exK.kept (HVR.o i x c hx hc) (Kept.of_below b7 _)) (fun q _ hm => List.mem_append_right _ hm)
     . rw [List.getElem?_append_right hi] at hx;rw [List.getElem?_append_right (by rw [HVN.o]; exact hi),HVN.o] at hc;have hil : i - un.length=0 := by
        have := (List.getElem?_eq_some_iff.1 hx).1; simp at this; exact this
       rw [hil] at hx hc;injection hx with hx;injection hc with hc;subst hx;subst hc;exact exK.less (exK.kept (exK.kept (show exK.R w3 _ (x0 t) _ from HRX.o) (Kept.of_below HW4.o _)) (Kept.of_below b7 _)) (fun q _ hm => List.mem_append_right _ hm)
  obtain ⟨a9,c9,rfl,hs9⟩ := hun;have HS9 := LH9 hs9;have HW7 := bt9 HW4 b7;clear y0 y1 y2 y3 u0 u1 u2 u3 HO5 HO6 HO7 HG7 HB5 HB6 b7 HAJ4 hs9 BG4 BP4 BG5 HVC HVO HVL9 HW4 HXW HB4;have HW4 := HW7;have HAJ4 := LH9 (HAJ.o.up HW4.o);have hU4 := HU3.o.kept (Kept.of_below HW4.o _);have hT4 := HT3.o.kept (Kept.of_below HW4.o _);have hK4 := HRK.o.kept (Kept.of_below HW4.o _);have BP4 := LH9 (BP3.o.below HW4.o);have BG4 := LH9 (BG3.o.below HW4.o);obtain ⟨v0,v1,v2,v3⟩ := HWK.o;replace v0 := cu9 v0 HW4.o;replace v1 := cu9 v1 HW4.o;replace v2 := cu9 v2 HW4.o;replace v3 := cu9 v3 HW4.o;have hlk := HLK.o;obtain ⟨y0,y1,y2,y3,-,-,-,-⟩ := blk4 BG4.o;obtain ⟨c0,c1,c2,c3,c4,c5,c6⟩ := blk7 BP4.o;have hah := AhJ.lit (R := R) (n := t.nd + ndL rest) (ah := [⟨f,tn,U9,t0 t⟩]) (cs := #[.int .i64 f,.bool tn,.slice a9 U9.length c9,.int .i64 q1,.string q2,.slice q3 q4' q5,.slice q6 q7 q8]) HAJ4.o.below (HAJ4.o.sep.drop 0) [[.int .i64 f,.bool tn,.slice a9 U9.length c9,.int .i64 q1,.string q2,.slice q3 q4' q5,.slice q6 q7 q8]] rfl rfl (fun i x c hx hc => by
   match i,hx,hc with
   | 0,hx,hc =>
     simp at hx hc;subst hx;subst hc;exact ⟨_,_,_,rfl,HFI.o,HS9.o,hK4.less (fun q _ hm => List.mem_append_right _ hm)⟩
   | k + 1,hx,_ => simp at hx) HE.o HGD.o (fun p hp => by
   rcases List.mem_cons.1 hp with rfl | hp
   . exact (HTD.o.kid (List.mem_of_getElem? HKA.o) (by rw [HUL.o]; exact Nat.le_refl _))
   . exact HRO.o p hp) (kidA_nd HBT.o (.inr (.inr (.inr HH.o))) _) (by have h1 := HSM.o; have h2 : (t0 t).nd + ndL rest < t.nd + ndL rest := (kidA_nd HBT.o (.inr (.inr (.inr HH.o))) _); show _ + ((t0 t).nd + ndL rest)<=_; omega) (by have h1 := HSM.o; have h2 : (t0 t).nd + ndL rest < t.nd + ndL rest := (kidA_nd HBT.o (.inr (.inr (.inr HH.o))) _); show _ + ((t0 t).nd + ndL rest)<=_; omega) (by simp)
  have HFN := LH9 (hah.up (Below.refl _ _).drew);clear hah hU4 hT4 hK4;refine wp_region_tillQ (S := fun W => W.cell? ⟨pb,0,none⟩=some (.int .i64 f)/\W.cell? ⟨pb,1,none⟩=some (.bool tn)/\W.cell? ⟨pb,2,none⟩=some (.slice ua un.length uc)/\W.cell? ⟨gb,3,none⟩=some (.slice (some ⟨tb,hto,none⟩) kl kc)/\W.cell? ⟨tb,hto,none⟩=some (.int .i64 q1)/\W.cell? ⟨tb,hto + 1,none⟩=some (.string q2)/\W.cell? ⟨tb,hto + 2,none⟩=some (.slice q3 q4' q5)/\W.cell? ⟨tb,hto + 3,none⟩=some (.slice q6 q7 q8)) 10 (by kernel_rfl) (fun _ _ _ _ _ h => h) (fun Q9 HQP HQ9 => ?_);refine tk 0 ⟨c0,c1,c2,y3,v0,v1,v2,v3⟩ ?_ (hQ := hq HQP);refine tk 1 ⟨c0,c1,c2,y3,v0,v1,v2,v3⟩ ?_ (hQ := hq HQP);refine tk 2 ⟨c0,c1,c2,y3,v0,v1,v2,v3⟩ ?_ (hQ := hq HQP);refine tk 3 ⟨c0,c1,c2,y3,v0,v1,v2,v3⟩ ?_ (hQ := hq HQP);refine tk 4 ⟨c0,c1,c2,y3,v0,v1,v2,v3⟩ ?_ (hQ := hq HQP);refine tk 5 ⟨c0,c1,c2,y3,v0,v1,v2,v3⟩ ?_ (hQ := hq HQP);refine tk 6 ⟨c0,c1,c2,y3,v0,v1,v2,v3⟩ ?_ (hQ := hq HQP);refine tk 7 ⟨c0,c1,c2,y3,v0,v1,v2,v3⟩ ?_ (hQ := hq HQP);refine tk 8 ⟨c0,c1,c2,y3,v0,v1,v2,v3⟩ ?_ (hQ := hq HQP);refine till_take (i := 9) (v := .agg #[.int .i64 f,.bool tn,.slice a9 U9.length c9,.int .i64 q1,.string q2,.slice q3 q4' q5,.slice q6 q7 q8]) rfl (by kernel_rfl) (fun _ _ _ h => HQP.o _ _ _ _ _ h) (Or.inl ⟨by rfl,build_y rfl rfl rfl rfl rfl⟩) ⟨c0,c1,c2,y3,v0,v1,v2,v3⟩ ?_
  try simp only [Act.put,zp1,zp2,zp3,zp4,zp5,zp6]
  refine tl9 (fun K' hK=>?_);refine wp_of_run (by rfl) (bs_y rfl rfl) ?_;refine hK _ _ ?_;clear hK K' c0 c1 c2 c3 c4 c5 c6 y0 y1 y2 y3 v0 v1 v2 v3 hlk
  try simp only [Act.put,zp1,zp2,zp3,zp4,zp5,zp6]
  refine ak 11 ?_ (hQ := hq HQP);refine wd9 ?_;rw [HQ9.o];clear HQ9 HQP;go_wp2_with fail;go_meet
  case rel => exact ⟨[⟨f,tn,U9,t0 t⟩],s,_,rfl,HFN.o⟩
 ) : p := h
theorem Z7_2 {p : Prop} (h : p := by
  obtain ⟨e0,e1,-,-⟩ := ST0.o.env.two;have x3 : W0.cell? ⟨w.heap.size + 1,3,none⟩=_ := ST0.o.ex.cell 3;simp only [List.getElem?_toArray,List.getElem?_cons_zero,List.getElem?_cons_succ] at x3;obtain ⟨u0,u1,u2,u3⟩ := H1.o;replace u0 := cu9 u0 ST0.o.below;replace u1 := cu9 u1 ST0.o.below;replace u2 := cu9 u2 ST0.o.below;replace u3 := cu9 u3 ST0.o.below;refine wp_region_till (S := fun W => (W.cell? ⟨w.heap.size,0,none⟩=some (.int .i64 day)/\W.cell? ⟨w.heap.size,1,none⟩=some (.slice a len cap))/\W.cell? ⟨w.heap.size + 1,3,none⟩=some (.slice (some ⟨b,o,none⟩) 2 cap')/\W.cell? ⟨b,o + 4,none⟩=some (.int .i64 o1)/\W.cell? ⟨b,o + 4 + 1,none⟩=some (.int .i64 n1)/\W.cell? ⟨b,o + 4 + 2,none⟩=some (.string m1)/\W.cell? ⟨b,o + 4 + 3,none⟩=some (.slice a1 l1 p1)) 7 (by kernel_rfl) ?_;refine tk 0 ⟨⟨e0,e1⟩,x3,u0,u1,u2,u3⟩ ?_;refine tk 1 ⟨⟨e0,e1⟩,x3,u0,u1,u2,u3⟩ ?_;refine tk 2 ⟨⟨e0,e1⟩,x3,u0,u1,u2,u3⟩ ?_;refine tk 3 ⟨⟨e0,e1⟩,x3,u0,u1,u2,u3⟩ ?_;refine tk 4 ⟨⟨e0,e1⟩,x3,u0,u1,u2,u3⟩ ?_;refine till_two (i := 5) (j := 6) (by kernel_rfl) rfl rfl (fun K' hK => ?_) (fun K' hK => ?_)
  . go_simp;go_at_call 96;(with_reducible refine (EvC.run HCB.o _ ST0.o.below.drew).mono ?_);rintro y w1 ⟨hy,b1⟩;unfold RetV at hy;subst hy;have hd := (Below.refl W0.heap.size W0).drew;have ST1 := LH9 ((ST0.o.up hd).up b1);have bt := hd.trans (b1.mono hd.size);have GG := LH9 ((VA.o.up hd).up b1);replace e0 := cu9 e0 bt;replace e1 := cu9 e1 bt;replace x3 := cu9 x3 bt;replace u0 := cu9 u0 bt;replace u1 := cu9 u1 bt;replace u2 := cu9 u2 bt;replace u3 := cu9 u3 bt;refine hK _ _ ⟨⟨e0,e1⟩,x3,u0,u1,u2,u3⟩ ?_;clear hK K' b1 hd bt
    try simp only [Act.put,zp1,zp2,zp3,zp4,zp5,zp6]
    refine t19 6 (fun K' hK=>?_);go_simp;have bn := (Below.refl w1.heap.size w1).alloc (Nat.le_refl _) (.cells #[.int .i64 0,.int .i64 0,.bool false] 150);have ST2 := LH9 (ST1.o.up bn);have BZ := LH9 (Mem.Blk.new w1 150 #[.int .i64 0,.int .i64 0,.bool false]);have HZ := LH9 ST1.o.lt;have HP := LH9 (And.intro (GG.o.up bn) (Nat.ne_of_lt GG.o.blk.lt));refine hK _ _ ⟨⟨cu9 e0 bn,cu9 e1 bn⟩,cu9 x3 bn,cu9 u0 bn,cu9 u1 bn,cu9 u2 bn,cu9 u3 bn⟩ ?_;clear hK K' bn ST1 e0 e1 x3 u0 u1 u2 u3 GG;generalize w1.alloc (.cells _ 150)=w2 at *;generalize w1.heap.size=z at *
    try simp only [Act.put,zp1,zp2,zp3,zp4,zp5,zp6]
    obtain ⟨t0,t1,t2,t3,t4,t5⟩ := blk3 BZ.o;have hm := BZ.o.lt;refine tl9 (fun K' hK=>?_);go_simp;have HS9 := LH9 (ST2.o.far3 HZ.o (.int .i64 B.K) (.int .i64 B.N) (.bool B.B));have HV9 := LH9 (EvV.mk (v := B) HZ.o (((BZ.o.set_ 0 (.int .i64 B.K)).set_ 1 (.int .i64 B.N)).set_ 2 (.bool B.B)));refine hK _ _ ?_;clear hK K'
    try simp only [Act.put,zp1,zp2,zp3,zp4,zp5,zp6]
    refine wd9 ?_;go_wp2_with fail;go_meet
    case rel => exact ⟨z,rfl,HS9.o,HV9.o,HP.o.1.far3 HP.o.2 _ _ _⟩
  . go_simp;have bn := below_new W0 (.cells #[.int .i64 0,.int .i64 0,.bool false] 150);have ST1 := LH9 (ST0.o.up bn);have BZ1 := LH9 (Mem.Blk.new W0 150 #[.int .i64 0,.int .i64 0,.bool false]).drew;have HZ := LH9 ST0.o.lt;have HQ := LH9 (And.intro (VA.o.up bn) (Nat.ne_of_lt VA.o.blk.lt));replace e0 := cu9 e0 bn;replace e1 := cu9 e1 bn;replace x3 := cu9 x3 bn;replace u0 := cu9 u0 bn;replace u1 := cu9 u1 bn;replace u2 := cu9 u2 bn;replace u3 := cu9 u3 bn;refine hK _ _ ⟨⟨e0,e1⟩,x3,u0,u1,u2,u3⟩ ?_;clear hK K' bn;generalize (W0.alloc (.cells _ 150)).drew=w1 at *;generalize W0.heap.size=z at *
    try simp only [Act.put,zp1,zp2,zp3,zp4,zp5,zp6]
    refine t19 5 (fun K' hK=>?_);go_simp;go_at_call 96;(with_reducible refine (EvC.run HCB.o _ ST1.o.below).mono ?_);rintro y w2 ⟨hy,b1⟩;unfold RetV at hy;subst hy;have ST2 := LH9 (ST1.o.up b1);have BZ := LH9 (BZ1.o.below b1);have HP := LH9 (And.intro (HQ.o.1.up b1) HQ.o.2);refine hK _ _ ⟨⟨cu9 e0 b1,cu9 e1 b1⟩,cu9 x3 b1,cu9 u0 b1,cu9 u1 b1,cu9 u2 b1,cu9 u3 b1⟩ ?_;clear hK K' b1 ST1 BZ1 e0 e1 x3 u0 u1 u2 u3 HQ
    try simp only [Act.put,zp1,zp2,zp3,zp4,zp5,zp6]
    obtain ⟨t0,t1,t2,t3,t4,t5⟩ := blk3 BZ.o;have hm := BZ.o.lt;refine tl9 (fun K' hK=>?_);go_simp;have HS9 := LH9 (ST2.o.far3 HZ.o (.int .i64 B.K) (.int .i64 B.N) (.bool B.B));have HV9 := LH9 (EvV.mk (v := B) HZ.o (((BZ.o.set_ 0 (.int .i64 B.K)).set_ 1 (.int .i64 B.N)).set_ 2 (.bool B.B)));refine hK _ _ ?_;clear hK K'
    try simp only [Act.put,zp1,zp2,zp3,zp4,zp5,zp6]
    refine wd9 ?_;go_wp2_with fail;go_meet
    case rel => exact ⟨z,rfl,HS9.o,HV9.o,HP.o.1.far3 HP.o.2 _ _ _⟩
 ) : p := h
theorem Z7_3 {p : Prop} (h : p := by
  rintro x w2 ⟨hx,e2⟩;rw [HR.o] at hx;subst hx;have HP : Hid (RetV R (.returned (.agg #[.int .i64 R.K,.int .i64 R.N,.bool R.B]))) := rfl;have HFN := LH9 (ret3 (.int .i64 R.K) (.int .i64 R.N) (.bool R.B) (HB1.o.trans (e2.mono HB1.o.size)) (Nat.le_refl _) (BX1.o.below e2));obtain ⟨t0,t1,t2,t3,t4,t5⟩ := blk3 (BX1.o.below e2);have hm := (BX1.o.below e2).lt;generalize R.K=rk at *;generalize R.N=rn at *;generalize R.B=rb at *;clear e2;go_wp2_with fail;generalize ((w2.setCell ⟨w.heap.size,0,none⟩ (.int .i64 rk)).setCell ⟨w.heap.size,1,none⟩ (.int .i64 rn)).setCell ⟨w.heap.size,2,none⟩ (.bool rb)=W9 at *;obtain ⟨r0,r1,r2,-,-,-⟩ := blk3 HFN.o.2;refine bodyPost_ret (v := .agg #[.int .i64 rk,.int .i64 rn,.bool rb]) (by simp [results,Tryz.results126,go_sem,r0,r1,r2]) rfl ⟨HP.o,HFN.o.1⟩
 ) : p := h
theorem Z7_4 {p : Prop} (h : p := by
  as_aux_lemma =>
   refine wp_region_tillQ (S := fun W => W.cell? ⟨gb,2,none⟩=some (.slice (some ⟨xb,xo_,none⟩) 1 xc)/\W.cell? ⟨xb,xo_,none⟩=some (.int .i64 xo)/\W.cell? ⟨xb,xo_ + 1,none⟩=some (.int .i64 xn)/\W.cell? ⟨xb,xo_ + 2,none⟩=some (.string xs)/\W.cell? ⟨xb,xo_ + 3,none⟩=some (.slice aa al ac)/\W.cell? ⟨w.heap.size,0,none⟩=some (.int .i64 day)/\W.cell? ⟨w.heap.size,1,none⟩=some (.slice fa fl fc)) 7 (by kernel_rfl) (fun _ _ _ _ _ h => h) (fun Q9 HQP HQ9 => ?_);refine tk 0 ⟨y2,u0,u1,u2,u3,e0,e1⟩ ?_ (hQ := hq HQP);refine tk 1 ⟨y2,u0,u1,u2,u3,e0,e1⟩ ?_ (hQ := hq HQP);refine tk 2 ⟨y2,u0,u1,u2,u3,e0,e1⟩ ?_ (hQ := hq HQP);refine tk 3 ⟨y2,u0,u1,u2,u3,e0,e1⟩ ?_ (hQ := hq HQP);refine tk 4 ⟨y2,u0,u1,u2,u3,e0,e1⟩ ?_ (hQ := hq HQP);refine till_two (i := 5) (j := 6) (by kernel_rfl) rfl rfl (fun K' hK => ?_) (fun K' hK => ?_)
   . go_simp;go_at_call 32;have b0 : Below w3.heap.size w3 w3.drew := (Below.refl w3.heap.size w3).drew;(with_reducible refine (HQ.o _ b0).mono ?_);rintro y w5 ⟨hy,b1⟩;unfold RetW at hy;subst hy;have bt : Below w3.heap.size w3 w5 := b0.trans (b1.mono b0.size);have HB2 := LH9 bt;replace y2 := cu9 y2 bt;replace u0 := cu9 u0 bt;replace u1 := cu9 u1 bt;replace u2 := cu9 u2 bt;replace u3 := cu9 u3 bt;replace e0 := cu9 e0 bt;replace e1 := cu9 e1 bt;refine hK _ _ ⟨y2,u0,u1,u2,u3,e0,e1⟩ ?_;clear hK K' b0 b1 bt
     try simp only [Act.put,zp1,zp2,zp3,zp4,zp5,zp6]
     refine t19 6 (fun K' hK=>?_);go_simp;have bn := below_nT w5 (.cells #[.string ⟨#[]⟩,.int .i64 0] 97);have BZ := LH9 (Mem.Blk.new w5 97 #[.string ⟨#[]⟩,.int .i64 0]);have HZ : Hid (w3.heap.size<=w5.heap.size) := HB2.o.size;have HB5 := bt9 HB2 bn;replace y2 := cu9 y2 bn;replace u0 := cu9 u0 bn;replace u1 := cu9 u1 bn;replace u2 := cu9 u2 bn;replace u3 := cu9 u3 bn;replace e0 := cu9 e0 bn;replace e1 := cu9 e1 bn;refine hK _ _ ⟨y2,u0,u1,u2,u3,e0,e1⟩ ?_;clear hK K' bn HB2 y2 u0 u1 u2 u3 e0 e1;generalize w5.alloc (.cells _ 97)=w6 at *;generalize w5.heap.size=z at *
     try simp only [Act.put,zp1,zp2,zp3,zp4,zp5,zp6]
     obtain ⟨t0,t1,t2,t3⟩ := BZ.o.two;have hm9 := BZ.o.lt;refine tl9 (fun K' hK=>?_);go_simp;have HB9 := LH9 ((HB5.o.setCell (p := ⟨z,0,none⟩) HZ.o (.string (wd V))).setCell (p := ⟨z,1,none⟩) HZ.o (.int .i64 V.N));have BZ9 := LH9 ((BZ.o.set_ 0 (.string (wd V))).set_ 1 (.int .i64 V.N));refine hK _ _ ?_;clear hK K'
     try simp only [Act.put,zp1,zp2,zp3,zp4,zp5,zp6]
     refine wd9 ?_;rw [HQ9.o];clear HQ9 HQP;go_wp2_with fail;go_meet
     case rel => exact ⟨z,rfl,HB9.o,BZ9.o⟩
   . go_simp;have bn : Below w3.heap.size w3 (w3.alloc (.cells #[.string ⟨#[]⟩,.int .i64 0] 97)).drew := (below_nT w3 (.cells #[.string ⟨#[]⟩,.int .i64 0] 97)).drew;have BZ1 := LH9 (Mem.Blk.new w3 97 #[.string ⟨#[]⟩,.int .i64 0]).drew;have HB2 := LH9 bn;replace y2 := cu9 y2 bn;replace u0 := cu9 u0 bn;replace u1 := cu9 u1 bn;replace u2 := cu9 u2 bn;replace u3 := cu9 u3 bn;replace e0 := cu9 e0 bn;replace e1 := cu9 e1 bn;refine hK _ _ ⟨y2,u0,u1,u2,u3,e0,e1⟩ ?_;clear hK K' bn;obtain ⟨z,hz⟩ : ∃ z,z=w3.heap.size := ⟨_,rfl⟩;have HZ : Hid (w3.heap.size<=z) := by show _<=_; omega
     rw [<- hz] at BZ1;rw [show Value.pointer (some ⟨w3.heap.size,0,none⟩)=.pointer (some ⟨z,0,none⟩) by rw [hz]];clear hz;generalize (w3.alloc (.cells _ 97)).drew=w5 at *
     try simp only [Act.put,zp1,zp2,zp3,zp4,zp5,zp6]
     refine t19 5 (fun K' hK=>?_);go_simp;go_at_call 32;(with_reducible refine (HQ.o _ HB2.o).mono ?_);rintro y w6 ⟨hy,b1⟩;unfold RetW at hy;subst hy;have BZ := LH9 (BZ1.o.below b1);have HB5 := bt9 HB2 b1;replace y2 := cu9 y2 b1;replace u0 := cu9 u0 b1;replace u1 := cu9 u1 b1;replace u2 := cu9 u2 b1;replace u3 := cu9 u3 b1;replace e0 := cu9 e0 b1;replace e1 := cu9 e1 b1;refine hK _ _ ⟨y2,u0,u1,u2,u3,e0,e1⟩ ?_;clear hK K' b1 HB2 BZ1 y2 u0 u1 u2 u3 e0 e1
     try simp only [Act.put,zp1,zp2,zp3,zp4,zp5,zp6]
     obtain ⟨t0,t1,t2,t3⟩ := BZ.o.two;have hm9 := BZ.o.lt;refine tl9 (fun K' hK=>?_);go_simp;have HB9 := LH9 ((HB5.o.setCell (p := ⟨z,0,none⟩) HZ.o (.string (wd V))).setCell (p := ⟨z,1,none⟩) HZ.o (.int .i64 V.N));have BZ9 := LH9 ((BZ.o.set_ 0 (.string (wd V))).set_ 1 (.int .i64 V.N));refine hK _ _ ?_;clear hK K'
     try simp only [Act.put,zp1,zp2,zp3,zp4,zp5,zp6]
     refine wd9 ?_;rw [HQ9.o];clear HQ9 HQP;go_wp2_with fail;go_meet
     case rel => exact ⟨z,rfl,HB9.o,BZ9.o⟩
 ) : p := h
theorem Z7_5 {p : Prop} (h : p := by
  rintro y' w2 ⟨hy,b1⟩;rw [HB9.o] at hy;have hd := (Below.refl wr.heap.size wr).drew;have b2 := hd.trans (b1.mono hd.size);have HJ2 := LH9 (HJ.o.up b2);replace l0 := cu9 l0 b2;replace l1 := cu9 l1 b2;unfold RetW at hy;subst hy;have HP : Hid (RetW R (.returned (.agg #[.string (wd R),.int .i64 R.N]))) := rfl;refine hK _ _ ⟨l0,l1⟩ ?_;clear hK K' b1 b2 hd l0 l1 HB9 HRR HJ;generalize wd R=rk at *;generalize R.N=rn at *
  try simp only [Act.put,zp1,zp2,zp3,zp4,zp5,zp6]
  have HFN : Hid (Below w.heap.size w ((w2.setCell ⟨w.heap.size + 1 + 1,0,none⟩ (.string rk)).setCell ⟨w.heap.size + 1 + 1,1,none⟩ (.int .i64 rn))/\Mem.Blk ((w2.setCell ⟨w.heap.size + 1 + 1,0,none⟩ (.string rk)).setCell ⟨w.heap.size + 1 + 1,1,none⟩ (.int .i64 rn)) (w.heap.size + 1 + 1) 97 #[.string rk,.int .i64 rn]) := ⟨(HJ2.o.st.below.setCell (by show w.heap.size<=w.heap.size + 1 + 1; omega) _).setCell (by show w.heap.size<=w.heap.size + 1 + 1; omega) _,(HJ2.o.st.res.set_ 0 _).set_ 1 _⟩;obtain ⟨q0,q1,q2,q3⟩ := HJ2.o.st.res.two;have hm := HJ2.o.st.lt;refine tl9 (fun K' hK=>?_);go_simp;refine hK _ _ ?_;clear hK K'
  try simp only [Act.put,zp1,zp2,zp3,zp4,zp5,zp6]
  refine wd9 ?_;go_wp2_with fail;generalize (w2.setCell ⟨w.heap.size + 1 + 1,0,none⟩ (.string rk)).setCell ⟨w.heap.size + 1 + 1,1,none⟩ (.int .i64 rn)=W9 at *;obtain ⟨r0,r1,-,-⟩ := HFN.o.2.two;refine bodyPost_ret (v := .agg #[.string rk,.int .i64 rn]) (by simp [results,Tryz.results32,go_sem,r0,r1]) rfl ⟨HP.o,HFN.o.1⟩
 ) : p := h
theorem Z7_6 {p : Prop} (h : p := by
  have hpn : ∀ b,b < w0.heap.size->b ∈ [pb]->b ∈ ([] : List Nat) := fun b hb hm => by rw [List.mem_singleton] at hm; have := HPB.o; omega
  have hU3 := ((HU.o.less hpn).kept hkp).free;have hT3 : RepT w3 [] u [.int .i64 q1,.string q2,.slice q3 q4' q5,.slice q6 q7 q8] := ((HRK.o.less hpn).kept hkp).less (fun b _ hm => by cases hm);have HL3 := LH9 (((HS.o.kept (Kept.of_below HB0.o [])).less hpn).kept hkp).free;have HF3 := LH9 (((HF.o.kept (Kept.of_below HB0.o [])).less hpn).kept hkp).free;have e0 : w3.cell? ⟨w.heap.size,0,none⟩=some (.int .i64 day) := HFR.o.cell e0 (by show w.heap.size ∉ [pb]; rw [List.mem_singleton]; have := HHQ.o; omega);have e1 : w3.cell? ⟨w.heap.size,1,none⟩=some (.slice fa fl fc) := HFR.o.cell e1 (by show w.heap.size ∉ [pb]; rw [List.mem_singleton]; have := HHQ.o; omega);obtain ⟨c0,c1,c2,c3,c4,c5,c6⟩ := blk7 BS.o;have hbn := below_nT w3 (.cells #[.int .i64 f,.bool tn,.slice ua un.length uc,.int .i64 q1,.string q2,.slice q3 q4' q5,.slice q6 q7 q8] 53);have hsq : SlR ptK (w3.alloc (.cells #[.int .i64 f,.bool tn,.slice ua un.length uc,.int .i64 q1,.string q2,.slice q3 q4' q5,.slice q6 q7 q8] 53)) [] [(⟨f,tn,un,u⟩ : Prt)] (some ⟨w3.heap.size,0,none⟩) 1 1 :=
   SlR.lit1 (K := ptK) (X := []) (x := ⟨f,tn,un,u⟩) (Mem.Blk.new w3 53 _) (by simp) ⟨ua,uc,_,rfl,HFI.o,hU3.kept (Kept.of_below hbn []),hT3.kept (Kept.of_below hbn [])⟩
  have HRQ := LH9 (racq_any day fx fa fl fc [⟨f,tn,un,u⟩] (some ⟨w3.heap.size,0,none⟩) 1 1 _ HD.o (HF3.o.kept (Kept.of_below hbn [])) hsq (fun p hp => by rw [List.mem_singleton] at hp; subst hp; exact HTD.o) (by have := (rT_get HTD.o.right).1; show u.nd + 0<=_; have h : u.nd<=200 := this; omega));have HL4 := LH9 (HL3.o.kept (Kept.of_below hbn []));have HB4 := bt9 HBS hbn;rw [<- HSS.o] at HRQ;have e2 := cu9 e0 hbn;have e3 := cu9 e1 hbn;clear hkp hpn hU3 hT3 hbn hsq HFR BS HL3 HBS;go_wp2_with (first | (refine list_bs rfl rfl rfl ?_; simp only [Act.put,zp1,zp2,zp3,zp4,zp5,zp6]) | fail);go_at_call 13;(with_reducible refine HRQ.o.mono ?_);rintro y w4 ⟨hy,b4⟩;have HL5 := LH9 (HL4.o.kept (Kept.of_below b4 []));have HB5 := bt9 HB4 b4;clear b4 HL4 HB4 HRQ e0 e1 e2 e3 c0 c1 c2 c3 c4 c5 c6;generalize w3.alloc (.cells _ 53)=w3' at *
  cases hsb : S.bad with
  | true =>
    obtain rfl := aq_bad hy hsb;have HE9 : Hid (E=2) := by
     show _=_;have h1 := HEC.o;rw [hC0.o,if_neg (by decide),if_pos hsb] at h1;exact h1
    clear hy hsb;go_wp2_with fail;go_ret3;exact ⟨RcR.err HE9.o (by decide),HB5.o⟩
  | false =>
    obtain ⟨pa,pc,qa,qc,rfl,hP,hQ⟩ := aq_good hy hsb;have HE9 : Hid (E=0) := by
     show _=_;have h1 := HEC.o;rw [hC0.o,if_neg (by decide),hsb,if_neg (by decide)] at h1;exact h1
    have HP := LH9 hP;have HQ := LH9 hQ;have HPL : Hid (S.ps.length<=100000) := by
     have h := (acq_len day fx u.rk u (Nat.le_refl _) (rT_get HTD.o.right).2.2 f tn un s0).1;have h2 : u.nd<=200 := (rT_get HTD.o.right).1;have h3 : S.ps.length<=0 + u.nd := by rw [HSS.o]; exact h
     show _<=_;omega
    have hkn : k<=n := by have := HLT.o; omega
    have hkc : k<=c := by have := HL5.o.facts.2.1; omega
    have ht := HL5.o.take k hkn;obtain ⟨vs,n1,n2,n3,n4,n5⟩ := slR_news ht;have N1 := LH9 n1;have N2 := LH9 n2;have N3 := LH9 n3;have N4 := LH9 n4;have N5 := LH9 n5;have hk2 : (k : Int)<=(c : Int) := by omega
    have hk3 := k1;obtain ⟨us,m1,m2,m3,m4,m5⟩ := slR_news hP;have M1 := LH9 m1;have M2 := LH9 m2;have M3 := LH9 m3;have M4 := LH9 m4;have M5 := LH9 m5;have hfm := HL5.o.from (k + 1) (by have := HLT.o; omega);have hrr : (if c=k + 1 then some (⟨b,o,none⟩ : Addr) else Option.map (fun p => p.add ((k + 1) * ptK.sz)) (some (⟨b,o,none⟩ : Addr)))=if c=k + 1 then some ⟨b,o,none⟩ else some ⟨b,o + (k + 1) * 7,none⟩ := by
     have : (⟨b,o,none⟩ : Addr).add ((k + 1) * ptK.sz)=⟨b,o + (k + 1) * 7,none⟩ := Mem.add_off b o _;simp only [Option.map_some,this]
    rw [hrr] at hfm;obtain ⟨ra,hra⟩ : ∃ ra,ra=(if c=k + 1 then some (⟨b,o,none⟩ : Addr) else some ⟨b,o + (k + 1) * 7,none⟩) := ⟨_,rfl⟩;have HRA := LH9 hra;rw [<- hra] at hfm;obtain ⟨ts,l1,l2,l3,l4,l5⟩ := slR_news hfm;have L1 := LH9 l1;have L2 := LH9 l2;have L3 := LH9 l3;have L4 := LH9 l4;have L5 := LH9 l5;have HKN : Hid (n<=1000/\k < n/\n<=c) := ⟨HN.o,HLT.o,HL5.o.facts.2.1⟩;clear hy hsb hP hQ ht n1 n2 n3 n4 n5 m1 m2 m3 m4 m5 l1 l2 l3 l4 l5 hkn hkc hfm hrr hra;go_upto_region 24 with (fail);go_upto_region 25 with (at_builtin; refine ap_rowZ infoRP9 Tryz.underlying46 rfl (by decide) rfl (.tmp 101) (.tmp 104) rfl rfl (World.ownsRow_nil w4 w4.heap.size 53 7) (Nat.le_refl _) (some ⟨b,o,none⟩) k c vs.flatten rfl N3.o N5.o N4.o (by have := HKN.o; unfold maxLen; omega) (by have := HKN.o; omega) ?_; intro v5 w5 o' g' h'; have HO5 := LH9 o'; have HG5 := LH9 g'; clear o' g' h');have b5 : Below w4.heap.size w4 w5 := (Below.refl w4.heap.size w4).grown HG5.o (Nat.le_refl _) (fun b hb => by cases hb);have HW5 := LH9 b5;clear b5 HG5;rw [Nat.zero_add,List.nil_append] at HO5;go_upto_region 26 with (at_builtin; refine ap_rowZ infoRP9 Tryz.underlying46 rfl (by decide) rfl (.tmp 106) (.tmp 107) rfl rfl HO5.o HW5.o.size pa S.ps.length pc us.flatten rfl M3.o (cells_up M5.o HW5.o) M4.o (by have := HPL.o; have := HKN.o; unfold maxLen; omega) (by have := HPL.o; have := HKN.o; omega) ?_; intro v6 w6 o' g' h'; have HO6 := LH9 o'; have HG6 := LH9 g'; clear o' g' h');have HW6 := LH9 (HW5.o.grown HG6.o HW5.o.size (fun b hb => (own_lt HO5.o hb).1));clear HG6;have hn1 : ((k : Nat) : Int) + 1<=((n : Nat) : Int) := by omega
    have hn2 : ((n : Nat) : Int)<=((c : Nat) : Int) := by have := HKN.o; omega
    go_wp2_with (at_builtin; refine ap_rowZ infoRP9 Tryz.underlying46 rfl (by decide) rfl (.tmp 109) (.tmp 113) rfl rfl HO6.o HW6.o.size ra (n - (k + 1)) (c - (k + 1)) ts.flatten (by rw [HRA.o]; rfl) L3.o (cells_up L5.o HW6.o) L4.o (by have := HPL.o; have := HKN.o; unfold maxLen; omega) (by have := HPL.o; have := HKN.o; omega) ?_; intro v7 w7 o' g' h'; have HO7 := LH9 o'; have HG7 := LH9 g'; clear o' g' h')
    all_goals
     have HW7 := LH9 (HW6.o.grown HG7.o HW6.o.size (fun b hb => (own_lt HO6.o hb).1));have HRR : Hid (R=⟨l.take k ++ S.ps ++ l.drop (k + 1),S.fs,S.bad⟩) := HER.o;have hro := HO7.o;rw [show n - (k + 1)=(l.drop (k + 1)).length by rw [List.length_drop,HFL.o]] at hro;have hkk : (l.take k).length=k := by rw [List.length_take,HFL.o]; have := HKN.o; omega
     obtain ⟨oa,oc,rfl,hOA⟩ := three_slR (K := ptK) (w0 := w4) N1.o M1.o L1.o N2.o M2.o L2.o HW7.o (by rw [hkk]; exact hro);have HFN : Hid (RcR w7 E R (.returned (.tuple #[.slice oa (l.take k ++ S.ps ++ l.drop (k + 1)).length oc,.slice qa S.fs.length qc,.int .i64 0]))) := by
      refine .inr ⟨HE9.o,oa,oc,qa,qc,?_,?_,?_⟩
      . rw [HRR.o]
      . rw [HRR.o]; exact hOA
      . rw [HRR.o]; exact HQ.o.kept (Kept.of_below HW7.o [])
     have HBF := bu9 HB5 HW7;clear hro hOA HO7 HG7 HO6 HW6 HO5 HW5;go_ret3;exact ⟨HFN.o,HBF.o⟩
 ) : p := h
theorem Z7_7 {p : Prop} (h : p := by
  subst hop;go_upto_region 3 with (fail);clear z0 z2 y0 q4 f4;have d1 : w3.cell? ⟨rb,2,none⟩=some vP := HJ3.o.run.cells.cell 2;obtain ⟨c0,c1,c2,c3,c4,c5,c6⟩ := blk7 B3'.o;refine wp_region_any (by kernel_rfl) ?_;refine ak 0 ?_;refine any_of_till (n := 7) (S := fun W => W.cell? ⟨rb,2,none⟩=some vP/\W.cell? ⟨w.heap.size,0,none⟩=some (.int .i64 f)/\W.cell? ⟨w.heap.size,1,none⟩=some (.bool tn)/\W.cell? ⟨w.heap.size,2,none⟩=some (.slice ua un.length uc)/\W.cell? ⟨w.heap.size,3,none⟩=some (.int .i64 7)/\W.cell? ⟨w.heap.size,4,none⟩=some (.string nm)/\W.cell? ⟨w.heap.size,5,none⟩=some (.slice (some ⟨b,o,none⟩) 1 xc)/\W.cell? ⟨w.heap.size,6,none⟩=some (.slice (some ⟨tb,hto,none⟩) tl tc)) _ _ _ _ ?_;refine tk 1 ⟨d1,c0,c1,c2,c3,c4,c5,c6⟩ ?_;refine tk 2 ⟨d1,c0,c1,c2,c3,c4,c5,c6⟩ ?_;refine tk 3 ⟨d1,c0,c1,c2,c3,c4,c5,c6⟩ ?_;refine tk 4 ⟨d1,c0,c1,c2,c3,c4,c5,c6⟩ ?_;refine tk 5 ⟨d1,c0,c1,c2,c3,c4,c5,c6⟩ ?_;refine t19 6 (fun K' hK=>?_);go_simp;have hbn : Below w3.heap.size w3 (w3.alloc (.cells #[.int .i64 f,.bool tn,.slice ua un.length uc,.int .i64 7,.string nm,.slice (some ⟨b,o,none⟩) 1 xc,.slice (some ⟨tb,hto,none⟩) tl tc] 88)).drew := (below_nT w3 (.cells #[.int .i64 f,.bool tn,.slice ua un.length uc,.int .i64 7,.string nm,.slice (some ⟨b,o,none⟩) 1 xc,.slice (some ⟨tb,hto,none⟩) tl tc] 88)).drew;have HB2 := LH9 (HJ3.o.trans (HJ3.o.run.below hbn));have BZ := LH9 (Mem.Blk.new w3 88 #[.int .i64 f,.bool tn,.slice ua un.length uc,.int .i64 7,.string nm,.slice (some ⟨b,o,none⟩) 1 xc,.slice (some ⟨tb,hto,none⟩) tl tc]).drew;refine hK _ _ ⟨cu9 d1 hbn,cu9 c0 hbn,cu9 c1 hbn,cu9 c2 hbn,cu9 c3 hbn,cu9 c4 hbn,cu9 c5 hbn,cu9 c6 hbn⟩ ?_;clear hK K' hbn d1 c0 c1 c2 c3 c4 c5 c6;generalize (w3.alloc (.cells _ 88)).drew=w5 at *;generalize w3.heap.size=zz at *
  try simp only [Act.put,zp1,zp2,zp3,zp4,zp5,zp6]
  refine tl9 (fun K' hK=>?_);obtain ⟨csl,hGr⟩ := HB2.o.run.sep.at 0 rfl;have hRp := HB2.o.rep (K := ptK) HPT.o;refine step_ap infoPt Tryz.underlying35 rfl (by decide) rfl (.tmp 23) (.tmp 25) rfl rfl hGr.own hGr.room ⟨zz,0,none⟩ 1 1 [.int .i64 f,.bool tn,.slice ua un.length uc,.int .i64 7,.string nm,.slice (some ⟨b,o,none⟩) 1 xc,.slice (some ⟨tb,hto,none⟩) tl tc] rfl rfl (fun m u hm => by rw [Mem.add0,BZ.o.cell]; simpa using hm) (by simp [Value.oneCell']) (by have := HSM.o; unfold maxLen; omega) (by have := HSM.o; omega) ?_;intro v' w6 og gg hv';obtain ⟨gP,capn,rfl,-,-,-,-⟩ := own_form og (by omega);have MB := (HB2.o.run.sep.push 0 rfl hGr (x := ⟨f,tn,un,t⟩) (c := [.int .i64 f,.bool tn,.slice ua un.length uc,.int .i64 7,.string nm,.slice (some ⟨b,o,none⟩) 1 xc,.slice (some ⟨tb,hto,none⟩) tl tc]) (by rw [owns_famR]; exact hRp) og gg hv').blk 2 rfl;have m4 : w6.cell? ⟨rb,2,none⟩=some vP := MB.cell 2;have m5 : w6.frozen? ⟨rb,2,none⟩=false := MB.frozen 2;have HB3 := LH9 (HB2.o.trans (HB2.o.run.pushP hGr (x := ⟨f,tn,un,t⟩) (c := [.int .i64 f,.bool tn,.slice ua un.length uc,.int .i64 7,.string nm,.slice (some ⟨b,o,none⟩) 1 xc,.slice (some ⟨tb,hto,none⟩) tl tc]) hRp og gg hv'));clear HB2 hGr og gg hv' BZ hRp MB;refine hK _ _ ?_;clear hK K'
  try simp only [Act.put,zp1,zp2,zp3,zp4,zp5,zp6]
  refine ak 8 ?_;refine ak 9 ?_;refine any_one (i := 10) (by kernel_rfl) rfl (fun K' hK => ?_);go_simp;refine hK _ _ ?_;clear hK K' m4 m5;refine wd9 ?_;go_wp2_with fail
  go_end0
  exact ⟨rfl,_,vF,by rw [HSP.o]; exact HB3.o⟩
 ) : p := h
theorem Z7_8 {p : Prop} (h : p := by
  obtain ⟨b,o,op',n',nm',args',a',len',cap',rfl,hb,hbx,hle,j1,j2,j3,hS',g0,g1,g2,g3⟩ := (HS.o.kept (Kept.of_below HW.o [])).at k hlt;have HC := LH9 (rbuiltExpr_any (Ex.mk op' n' nm' args').rk _ (Nat.le_refl _) _ wr (RepE.mk' j1 j2 j3 hS'));have HLE := LH9 hle;clear hle hS' j1 j2 j3;generalize Ex.mk op' n' nm' args'=e' at *
  cases hp : bE e'
  . rw [hp] at HC;have hC : C=false := HN.o k e' HLE.o hp;have F2 : Hid (Ending.returned (.bool false)=.returned (.bool R)) := by show _=_; rw [<- F.o,hC]; rfl
    clear hp hC;go_wp2_with fail
    all_goals
     refine HC.o.mono ?_; rintro r w1 ⟨rfl,b1⟩
     go_wp2
     go_ret;exact ⟨F2.o,HW.o.trans (b1.mono HW.o.size)⟩
  . rw [hp] at HC;have HP2 : Hid (∀ (j : Nat) y,j < k + 1->exprs[j]?=some y->bE y=true) := by
     intro j y hj hy;rcases Nat.lt_or_ge j k with h | h
     . exact HP.o j y h hy
     . obtain rfl : j=k := by omega
       rw [HLE.o] at hy; injection hy with hy; subst hy; exact hp
    clear hp;go_wp2_with fail
    all_goals
     refine HC.o.mono ?_; rintro r w1 ⟨rfl,b1⟩
     go_wp2
     go_roundw
     case rel => exact ⟨k + 1,by go_num,by omega,HW.o.trans (b1.mono HW.o.size),HXB.o.below b1,HP2⟩
     case measure => simp [intOf]; omega
 ) : p := h
theorem Z7_9 {p : Prop} (h : p := by
  have t2 : W1.cell? ⟨g,2,none⟩=some (.bool false) := VA1.o.blk.cell 2
  cases B with
  | brk =>
    obtain rfl : R=.brk := by rw [HR1.o]; simp
    have xt0 : W1.cell? ⟨g1,0,none⟩=some (.int .i64 3) := VB.o.blk.cell 0;have xt1 : W1.cell? ⟨g1,1,none⟩=some (.int .i64 0) := VB.o.blk.cell 1;have xt2 : W1.cell? ⟨g1,2,none⟩=some (.bool false) := VB.o.blk.cell 2;have HFN := LH9 (ret3 (.int .i64 3) (.int .i64 0) (.bool false) ST1.o.below (by omega : w.heap.size<=w.heap.size + 1 + 1) ST1.o.res);obtain ⟨q0,q1,q2,q3,q4,q5⟩ := blk3 ST1.o.res;have hm := ST1.o.lt;go_wp2_with fail;generalize ((W1.setCell ⟨w.heap.size + 1 + 1,0,none⟩ (.int .i64 3)).setCell ⟨w.heap.size + 1 + 1,1,none⟩ (.int .i64 0)).setCell ⟨w.heap.size + 1 + 1,2,none⟩ (.bool false)=W9 at *;obtain ⟨r0,r1,r2,-,-,-⟩ := blk3 HFN.o.2;refine bodyPost_ret (v := .agg #[.int .i64 3,.int .i64 0,.bool false]) (by simp [results,Tryz.results124,go_sem,r0,r1,r2]) rfl ⟨rfl,HFN.o.1⟩
  | unk =>
    obtain rfl : R=.unk := by rw [HR1.o]; simp
    have xt0 : W1.cell? ⟨g1,0,none⟩=some (.int .i64 0) := VB.o.blk.cell 0;have xt1 : W1.cell? ⟨g1,1,none⟩=some (.int .i64 0) := VB.o.blk.cell 1;have xt2 : W1.cell? ⟨g1,2,none⟩=some (.bool false) := VB.o.blk.cell 2;have HFN := LH9 (ret3 (.int .i64 0) (.int .i64 0) (.bool false) ST1.o.below (by omega : w.heap.size<=w.heap.size + 1 + 1) ST1.o.res);obtain ⟨q0,q1,q2,q3,q4,q5⟩ := blk3 ST1.o.res;have hm := ST1.o.lt;go_wp2_with fail;generalize ((W1.setCell ⟨w.heap.size + 1 + 1,0,none⟩ (.int .i64 0)).setCell ⟨w.heap.size + 1 + 1,1,none⟩ (.int .i64 0)).setCell ⟨w.heap.size + 1 + 1,2,none⟩ (.bool false)=W9 at *;obtain ⟨r0,r1,r2,-,-,-⟩ := blk3 HFN.o.2;refine bodyPost_ret (v := .agg #[.int .i64 0,.int .i64 0,.bool false]) (by simp [results,Tryz.results124,go_sem,r0,r1,r2]) rfl ⟨rfl,HFN.o.1⟩
  | num nB =>
    obtain rfl : R=.unk := by rw [HR1.o]; simp
    have xt0 : W1.cell? ⟨g1,0,none⟩=some (.int .i64 1) := VB.o.blk.cell 0;have xt1 : W1.cell? ⟨g1,1,none⟩=some (.int .i64 nB) := VB.o.blk.cell 1;have xt2 : W1.cell? ⟨g1,2,none⟩=some (.bool false) := VB.o.blk.cell 2;have HFN := LH9 (ret3 (.int .i64 0) (.int .i64 0) (.bool false) ST1.o.below (by omega : w.heap.size<=w.heap.size + 1 + 1) ST1.o.res);obtain ⟨q0,q1,q2,q3,q4,q5⟩ := blk3 ST1.o.res;have hm := ST1.o.lt;go_wp2_with fail;generalize ((W1.setCell ⟨w.heap.size + 1 + 1,0,none⟩ (.int .i64 0)).setCell ⟨w.heap.size + 1 + 1,1,none⟩ (.int .i64 0)).setCell ⟨w.heap.size + 1 + 1,2,none⟩ (.bool false)=W9 at *;obtain ⟨r0,r1,r2,-,-,-⟩ := blk3 HFN.o.2;refine bodyPost_ret (v := .agg #[.int .i64 0,.int .i64 0,.bool false]) (by simp [results,Tryz.results124,go_sem,r0,r1,r2]) rfl ⟨rfl,HFN.o.1⟩
  | tru tB =>
    by_cases hts : tB=s
    . subst hts;obtain rfl : R=.tru tB := by rw [HR1.o]; simp
      have xt0 : W1.cell? ⟨g1,0,none⟩=some (.int .i64 2) := VB.o.blk.cell 0;have xt1 : W1.cell? ⟨g1,1,none⟩=some (.int .i64 0) := VB.o.blk.cell 1;have xt2 : W1.cell? ⟨g1,2,none⟩=some (.bool tB) := VB.o.blk.cell 2
      cases tB
      . have HFN := LH9 (ret3 (.int .i64 2) (.int .i64 0) (.bool false) ST1.o.below (by omega : w.heap.size<=w.heap.size + 1 + 1) ST1.o.res);obtain ⟨q0,q1,q2,q3,q4,q5⟩ := blk3 ST1.o.res;have hm := ST1.o.lt;go_wp2_with fail;generalize ((W1.setCell ⟨w.heap.size + 1 + 1,0,none⟩ (.int .i64 2)).setCell ⟨w.heap.size + 1 + 1,1,none⟩ (.int .i64 0)).setCell ⟨w.heap.size + 1 + 1,2,none⟩ (.bool false)=W9 at *;obtain ⟨r0,r1,r2,-,-,-⟩ := blk3 HFN.o.2;refine bodyPost_ret (v := .agg #[.int .i64 2,.int .i64 0,.bool false]) (by simp [results,Tryz.results124,go_sem,r0,r1,r2]) rfl ⟨rfl,HFN.o.1⟩
      . have HFN := LH9 (ret3 (.int .i64 2) (.int .i64 0) (.bool true) ST1.o.below (by omega : w.heap.size<=w.heap.size + 1 + 1) ST1.o.res);obtain ⟨q0,q1,q2,q3,q4,q5⟩ := blk3 ST1.o.res;have hm := ST1.o.lt;go_wp2_with fail;generalize ((W1.setCell ⟨w.heap.size + 1 + 1,0,none⟩ (.int .i64 2)).setCell ⟨w.heap.size + 1 + 1,1,none⟩ (.int .i64 0)).setCell ⟨w.heap.size + 1 + 1,2,none⟩ (.bool true)=W9 at *;obtain ⟨r0,r1,r2,-,-,-⟩ := blk3 HFN.o.2;refine bodyPost_ret (v := .agg #[.int .i64 2,.int .i64 0,.bool true]) (by simp [results,Tryz.results124,go_sem,r0,r1,r2]) rfl ⟨rfl,HFN.o.1⟩
    . obtain rfl : R=.unk := by rw [HR1.o]; simp [hts]
      have xt0 : W1.cell? ⟨g1,0,none⟩=some (.int .i64 2) := VB.o.blk.cell 0;have xt1 : W1.cell? ⟨g1,1,none⟩=some (.int .i64 0) := VB.o.blk.cell 1;have xt2 : W1.cell? ⟨g1,2,none⟩=some (.bool tB) := VB.o.blk.cell 2
      cases tB <;> cases s <;> first | exact absurd rfl hts | skip
      . have HFN := LH9 (ret3 (.int .i64 0) (.int .i64 0) (.bool false) ST1.o.below (by omega : w.heap.size<=w.heap.size + 1 + 1) ST1.o.res);obtain ⟨q0,q1,q2,q3,q4,q5⟩ := blk3 ST1.o.res;have hm := ST1.o.lt;go_wp2_with fail;generalize ((W1.setCell ⟨w.heap.size + 1 + 1,0,none⟩ (.int .i64 0)).setCell ⟨w.heap.size + 1 + 1,1,none⟩ (.int .i64 0)).setCell ⟨w.heap.size + 1 + 1,2,none⟩ (.bool false)=W9 at *;obtain ⟨r0,r1,r2,-,-,-⟩ := blk3 HFN.o.2;refine bodyPost_ret (v := .agg #[.int .i64 0,.int .i64 0,.bool false]) (by simp [results,Tryz.results124,go_sem,r0,r1,r2]) rfl ⟨rfl,HFN.o.1⟩
      . have HFN := LH9 (ret3 (.int .i64 0) (.int .i64 0) (.bool false) ST1.o.below (by omega : w.heap.size<=w.heap.size + 1 + 1) ST1.o.res);obtain ⟨q0,q1,q2,q3,q4,q5⟩ := blk3 ST1.o.res;have hm := ST1.o.lt;go_wp2_with fail;generalize ((W1.setCell ⟨w.heap.size + 1 + 1,0,none⟩ (.int .i64 0)).setCell ⟨w.heap.size + 1 + 1,1,none⟩ (.int .i64 0)).setCell ⟨w.heap.size + 1 + 1,2,none⟩ (.bool false)=W9 at *;obtain ⟨r0,r1,r2,-,-,-⟩ := blk3 HFN.o.2;refine bodyPost_ret (v := .agg #[.int .i64 0,.int .i64 0,.bool false]) (by simp [results,Tryz.results124,go_sem,r0,r1,r2]) rfl ⟨rfl,HFN.o.1⟩
 ) : p := h
theorem Z7_10 {p : Prop} (h : p := by
  clear hq;go_wp2_with fail;have hM : 1 + Ex.rk.go args < 1000 := by have := Ex.rk_go_le HI.o.2.2.1; omega
  go_at_call 25;(with_reducible refine (told_cnt HI.o.1 hM _).mono ?_);rintro e w' ⟨rfl,rfl⟩;obtain ⟨aA,cA,rfl,hrep⟩ := HI.o.2.2.2.box j1 j2 j3;have HX := LH9 hrep;have HRK : Hid ((Ex.mk lf.op lf.n lf.nm args).rk<=k + 1) := by show _<=_; have := Ex.rk_go_le HI.o.2.2.1; simp only [Ex.rk]; omega
  have hS := HI.o.2.2.2.sep;have ee := hS.blk 1 rfl;have s0 : wr.cell? ⟨xb + 1,0,none⟩=some (.int .i64 lf.op) := ee.cell 0;have s1 : wr.cell? ⟨xb + 1,1,none⟩=some (.int .i64 lf.n) := ee.cell 1;have s2 : wr.cell? ⟨xb + 1,2,none⟩=some (.string lf.nm) := ee.cell 2;have s3 : wr.cell? ⟨xb + 1,3,none⟩=some (.slice aA args.length cA) := ee.cell 3;have s4 : wr.cell? ⟨w.heap.size + 1,0,none⟩=some vE := (hS.blk 9 rfl).cell 0;have hbn := (Below.refl wr.heap.size wr).alloc (Nat.le_refl _) (.cells #[.int .i64 lf.op,.int .i64 lf.n,.string lf.nm,.slice aA args.length cA] 74);have HB2 := LH9 (HI.o.2.2.2.leave.up hbn);have HX2 := LH9 (HX.o.kept (Kept.of_below hbn _));have BZ := LH9 (Mem.Blk.new wr 74 #[.int .i64 lf.op,.int .i64 lf.n,.string lf.nm,.slice aA args.length cA]);clear hbn hS ee hrep x3 HX HI;obtain ⟨csl,hG⟩ := HB2.o.sep.at 0 rfl;have HG := LH9 hG;clear hG;go_upto_region 18 with (at_builtin; refine ap_row infoE Tryz.underlying29 rfl (by decide) rfl (.tmp 96) (.tmp 98) rfl rfl HG.o.own HG.o.room ⟨wr.heap.size,0,none⟩ 1 1 [.int .i64 lf.op,.int .i64 lf.n,.string lf.nm,.slice aA args.length cA] rfl rfl (lit_cells_at wr #[.int .i64 lf.op,.int .i64 lf.n,.string lf.nm,.slice aA args.length cA] 74 _ rfl) (by simp [Value.oneCell']) (by have := HP.o.1; unfold maxLen; omega) (by have := HP.o.1; omega) ?_; intro v1 w1 o1 g1 hv1; obtain ⟨g2,cap2,rfl,-,-,-,-⟩ := own_form o1 (by omega); obtain ⟨⟨m4,m5⟩,HB3⟩ := HB2.o.pushE HG.o HX2.o o1 g1 hv1; have HB3' := LH9 HB3; clear HB3 o1 g1 hv1);have HB3 := HB3';clear HB3' HB2 HG HX2 BZ m4 m5 s0 s1 s2 s3 s4;generalize w1.setCell ⟨w.heap.size + 1,0,none⟩ (.slice (some ⟨g2,0,none⟩) (es.length + 1) cap2)=w2 at *;have s1 : w2.cell? ⟨w.heap.size + 1,1,none⟩=some vN := (HB3.o.sep.blk 6 rfl).cell 1;have HB4 := LH9 (HB3.o.up ((Below.refl w2.heap.size w2).alloc (Nat.le_refl _) (.cells #[.int .i64 (ndI (1 + Ex.nd.go args))] 3)));obtain ⟨csl2,hG2⟩ := HB4.o.sep.at 1 rfl;have HG2 := LH9 hG2;have hlN : Hid ((nds es).length=k) := by show _=_; unfold nds; rw [List.length_map]; exact HP.o.1
  clear hG2 HB3;go_upto_region 19 with (at_builtin; refine ap_row infoI Tryz.underlying30 rfl (by decide) rfl (.tmp 102) (.tmp 104) rfl rfl HG2.o.own HG2.o.room ⟨w2.heap.size,0,none⟩ 1 1 [.int .i64 (ndI (1 + Ex.nd.go args))] rfl rfl (lit_cells_at w2 #[.int .i64 (ndI (1 + Ex.nd.go args))] 3 _ rfl) (by simp [Value.oneCell']) (by have := hlN.o; unfold maxLen; omega) (by have := hlN.o; omega) ?_; intro v3 w3 o1 g1 hv1; obtain ⟨g3,cap3,rfl,-,-,-,-⟩ := own_form o1 (by omega); obtain ⟨⟨m4,m5⟩,HB5⟩ := HB4.o.pushN HG2.o ⟨rfl,by have := ndI_bd (1 + Ex.nd.go args); unfold I64; omega⟩ o1 g1 hv1; have HB5' := LH9 HB5; clear HB5 o1 g1 hv1);have HB5 := HB5';clear HB5' HB4 HG2 m4 m5 s1;generalize w3.setCell ⟨w.heap.size + 1,1,none⟩ (.slice (some ⟨g3,0,none⟩) ((nds es).length + 1) cap3)=w4 at *;have s1 : w4.cell? ⟨w.heap.size + 1,2,none⟩=some vD := (HB5.o.sep.blk 6 rfl).cell 2;have HB6 := LH9 (HB5.o.up ((Below.refl w4.heap.size w4).alloc (Nat.le_refl _) (.cells #[.int .i64 (rkI (1 + Ex.nd.go args) (1 + Ex.rk.go args))] 3)));obtain ⟨csl3,hG3⟩ := HB6.o.sep.at 2 rfl;have HG3 := LH9 hG3;have hlD : Hid ((rks es).length=k) := by show _=_; unfold rks; rw [List.length_map]; exact HP.o.1
  clear hG3 HB5;go_upto_region 4 with (at_builtin; refine ap_row infoI Tryz.underlying30 rfl (by decide) rfl (.tmp 108) (.tmp 110) rfl rfl HG3.o.own HG3.o.room ⟨w4.heap.size,0,none⟩ 1 1 [.int .i64 (rkI (1 + Ex.nd.go args) (1 + Ex.rk.go args))] rfl rfl (lit_cells_at w4 #[.int .i64 (rkI (1 + Ex.nd.go args) (1 + Ex.rk.go args))] 3 _ rfl) (by simp [Value.oneCell']) (by have := hlD.o; unfold maxLen; omega) (by have := hlD.o; omega) ?_; intro v5 w5 o1 g1 hv1; obtain ⟨g4,cap4,rfl,-,-,-,-⟩ := own_form o1 (by omega); obtain ⟨⟨m4,m5⟩,HB7⟩ := HB6.o.pushD HG3.o ⟨rfl,by have := rkI_bd (1 + Ex.nd.go args) (1 + Ex.rk.go args) hM; unfold I64; omega⟩ o1 g1 hv1; have HB7' := LH9 HB7; clear HB7 o1 g1 hv1);have HB7 := HB7';clear HB7' HB6 HG3 m4 m5 s1;generalize w5.setCell ⟨w.heap.size + 1,2,none⟩ (.slice (some ⟨g4,0,none⟩) ((rks es).length + 1) cap4)=w6 at *;have HFIN : Hid ((es ++ [Ex.mk lf.op lf.n lf.nm args]).length=k + 1/\(∀ e ∈ es ++ [Ex.mk lf.op lf.n lf.nm args],e.rk<=k + 1)/\B1 w w6 (es ++ [Ex.mk lf.op lf.n lf.nm args]) [] (nds (es ++ [Ex.mk lf.op lf.n lf.nm args])) (rks (es ++ [Ex.mk lf.op lf.n lf.nm args])) [] [] (.slice (some ⟨g2,0,none⟩) (es.length + 1) cap2) (.slice (some ⟨g3,0,none⟩) ((nds es).length + 1) cap3) (.slice (some ⟨g4,0,none⟩) ((rks es).length + 1) cap4) (.slice none 0 0) (.slice none 0 0) (.slice none 0 0)) := by
   refine ⟨by rw [List.length_append,HP.o.1]; rfl,fun e he => ?_,?_⟩
   . rcases List.mem_append.1 he with he | he
     . have := HP.o.2 e he; omega
     . rw [List.mem_singleton] at he; subst he; exact HRK.o
   . have e1 : nds (es ++ [Ex.mk lf.op lf.n lf.nm args])=nds es ++ [ndI (1 + Ex.nd.go args)] := by simp [nds,Ex.nd]
     have e2 : rks (es ++ [Ex.mk lf.op lf.n lf.nm args])=rks es ++ [rkI (1 + Ex.nd.go args) (1 + Ex.rk.go args)] := by simp [rks,Ex.nd,Ex.rk]
     rw [e1,e2];exact HB7.o
  clear HB7 HRK HP hlN hlD hM;go_wp2_with fail;exact ⟨⟨k + 1,_,_,_,_,by go_num,by omega,by omega,HFIN.o⟩,by simp [intOf]; omega⟩
 ) : p := h
theorem Z7_11 {p : Prop} (h : p := by
  obtain ⟨b,o,op',nm',ex',te',a',len',cap',a3,len3,cap3,rfl,hb,hbx,hle,j1,j3,hS',hS3,g0,g1,g2,g3⟩ := (HS2.o.kept (Kept.of_below HW.o [])).at k2 hlt2;have HC := LH9 (HI.o k2 _ _ wr hle (RepT.mk' j1 j3 hS' hS3));have HLE := LH9 hle;clear hle hS' hS3 j1 j3;generalize Te.mk op' nm' ex' te'=e' at *
  cases hp : bT e'
  . rw [hp] at HC;have F4 := LH9 (F3.o false (HN2.o k2 e' HLE.o hp));clear hp;go_wp2_with fail
    all_goals
     refine HC.o.mono ?_; rintro r w1 ⟨rfl,b1⟩
     go_wp2
     go_ret;exact ⟨F4.o,HW.o.trans (b1.mono HW.o.size)⟩
  . rw [hp] at HC;have HP2 : Hid (∀ (j : Nat) y,j < k2 + 1->terms[j]?=some y->bT y=true) := by
     intro j y hj hy;rcases Nat.lt_or_ge j k2 with h | h
     . exact HP.o j y h hy
     . obtain rfl : j=k2 := by omega
       rw [HLE.o] at hy; injection hy with hy; subst hy; exact hp
    clear hp;go_wp2_with fail
    all_goals
     refine HC.o.mono ?_; rintro r w1 ⟨rfl,b1⟩
     go_wp2
     go_roundw
     case rel => exact ⟨k2 + 1,by go_num,by omega,HW.o.trans (b1.mono HW.o.size),HXB.o.below b1,HP2⟩
     case measure => simp [intOf]; omega
 ) : p := h
theorem Z7_12 {p : Prop} (h : p := by
  go_enter Tryz.func38,Tryz.ntmps38
  go_upto_region 2 with (fail);generalize ((w.alloc (.cells #[.int .i64 pf,.bool pt,.slice ua p.til.length uc,.int .i64 9,.string nm,.slice xa xl xc,.slice ta tl tc] 88)).alloc (.cells #[.int .i64 0,.string ⟨#[]⟩,.slice none 0 0,.slice none 0 0] 41)).alloc (.cells #[.int .i64 9,.string nm,.slice xa xl xc,.slice ta tl tc] 41)=w3 at *;obtain ⟨y0,y1,y2,y3,-,-,-,-⟩ := blk4 (HS1.o.blk 0 rfl);obtain ⟨c0,c1,c2,c3,c4,c5,c6⟩ := blk7 (HS1.o.blk 2 rfl);have HJ3 := LH9 (HJ.o.below HB3.o);go_wp2_with fail;go_at_call 48;(with_reducible refine (HEN.o w3 HJ3.o.run (HJ3.o.slr HU.o)).mono ?_);rintro y w5 ⟨rfl,hj5,hf5⟩;have HJ5 := LH9 (HJ3.o.trans hj5);have HF5 := LH9 hf5;clear y0 y1 y2 y3 c0 c1 c2 c3 c4 c5 c6 hj5 hf5 HEN;rw [HEB.o];rw [HES2.o] at HJ5;have HS5 : Hid (Sep w5 (famQ w p pf pt ua uc 9 nm xa ta xl xc tl tc base rb day fx fa fl fc s vP vF)) := HS1.o.blkTo 5 rfl HF5.o.kept HJ5.o.run.cells;have q4 : w5.cell? ⟨rb,4,none⟩=some (.bool s.bad) := HJ5.o.run.cells.cell 4;rw [HBD.o] at q4;have HFR := LH9 HJ5.o.fr;obtain ⟨y0,y1,y2,y3,-,-,-,-⟩ := blk4 (HS5.o.blk 0 rfl);obtain ⟨c0,c1,c2,c3,c4,c5,c6⟩ := blk7 (HS5.o.blk 2 rfl);obtain ⟨y0,y1,y2,y3,-,-,-,-⟩ := blk4 (HS5.o.blk 0 rfl);obtain ⟨z0,z1,z2,z3,f0,f1,f2,f3⟩ := blk4 (HS5.o.blk 1 rfl);have HS9 := LH9 ((((HS5.o.store 1 rfl 0 (.int .i64 9)).store 1 rfl 1 (.string nm)).store 1 rfl 2 (.slice xa xl xc)).store 1 rfl 3 (.slice ta tl tc));have HF9 := LH9 ((((HFR.o.setNew (p := ⟨w.heap.size + 1,0,none⟩) (by show w.heap.size<=w.heap.size + 1; omega) (.int .i64 9)).setNew (p := ⟨w.heap.size + 1,1,none⟩) (by show w.heap.size<=w.heap.size + 1; omega) (.string nm)).setNew (p := ⟨w.heap.size + 1,2,none⟩) (by show w.heap.size<=w.heap.size + 1; omega) (.slice xa xl xc)).setNew (p := ⟨w.heap.size + 1,3,none⟩) (by show w.heap.size<=w.heap.size + 1; omega) (.slice ta tl tc));have HE2 := LH9 hE2;clear hE2;go_wp2_with fail;clear z0 z1 z2 z3;generalize (((w5.setCell ⟨w.heap.size + 1,0,none⟩ (.int .i64 9)).setCell ⟨w.heap.size + 1,1,none⟩ (.string nm)).setCell ⟨w.heap.size + 1,2,none⟩ (.slice xa xl xc)).setCell ⟨w.heap.size + 1,3,none⟩ (.slice ta tl tc)=w9 at *;obtain ⟨r0,r1,r2,r3,-,-,-,-⟩ := blk4 (HS9.o.blk 1 rfl);refine bodyPost_ret (v := .tuple #[.agg #[.int .i64 9,.string nm,.slice xa xl xc,.slice ta tl tc],.int .i64 1]) (by simp [results,Tryz.results38,go_sem,r0,r1,r2,r3]) rfl ⟨_,_,_,_,_,_,_,_,by rw [<- HE.o,HE2.o],HF9.o,fun h0 => ?_⟩;have h1 := HE.o;have h2 := HE2.o;omega
 ) : p := h
theorem Z7_13 {p : Prop} (h : p := by
  have z1' : w4.cell? ⟨z,1,none⟩=some (.int .i64 0) := BZ.o.cell 1;have HAJ4 := LH9 (HAJ.o.up HW4.o);have hU4 := HU3.o.kept (Kept.of_below HW4.o _);have hT4 := HT3.o.kept (Kept.of_below HW4.o _);have hK4 := HRK.o.kept (Kept.of_below HW4.o _);have BP4 := LH9 (BP3.o.below HW4.o);have BG4 := LH9 (BG3.o.below HW4.o);obtain ⟨v0,v1,v2,v3⟩ := HWK.o;replace v0 := cu9 v0 HW4.o;replace v1 := cu9 v1 HW4.o;replace v2 := cu9 v2 HW4.o;replace v3 := cu9 v3 HW4.o;have hlk := HLK.o;clear v0 v1 v2 v3 hlk hK4;have HU4 := LH9 hU4;have HT4 := LH9 hT4;clear hU4 hT4;have hb4 := below_nT w4 (.cells #[.int .i64 f,.bool tn,.slice ua un.length uc,.int .i64 6,.string nm,.slice (some ⟨xb,xo_,none⟩) 1 xc,.slice (some ⟨tb,hto,none⟩) kl kc] 53);have HS4 := LH9 (HAJ4.o.sep.below hb4);have HB4 := LH9 (HAJ4.o.below.trans (hb4.mono HAJ4.o.below.size));obtain ⟨csl,hG⟩ := HS4.o.at 2 rfl;have HG := LH9 hG;have HPT := LH9 (ptK.kept (show ptK.R w4 _ (⟨f,tn,un,t⟩ : Prt) [.int .i64 f,.bool tn,.slice ua un.length uc,.int .i64 6,.string nm,.slice (some ⟨xb,xo_,none⟩) 1 xc,.slice (some ⟨tb,hto,none⟩) kl kc] from ⟨ua,uc,_,rfl,HFI.o,HU4.o,HT4.o⟩) (Kept.of_below hb4 _));clear hb4 hG;obtain ⟨y0,y1,y2,y3,-,-,-,-⟩ := blk4 BG4.o;obtain ⟨c0,c1,c2,c3,c4,c5,c6⟩ := blk7 BP4.o;go_wp2_with (first | (refine list_bs rfl rfl rfl ?_; simp only [Act.put,zp1,zp2,zp3,zp4,zp5,zp6]) | (at_builtin; refine ap_row infoRP9 Tryz.underlying46 rfl (by decide) rfl (.tmp 198) (.tmp 200) rfl rfl HG.o.own HG.o.room ⟨w4.heap.size,0,none⟩ 1 1 [.int .i64 f,.bool tn,.slice ua un.length uc,.int .i64 6,.string nm,.slice (some ⟨xb,xo_,none⟩) 1 xc,.slice (some ⟨tb,hto,none⟩) kl kc] rfl rfl (lit_cells_at w4 #[.int .i64 f,.bool tn,.slice ua un.length uc,.int .i64 6,.string nm,.slice (some ⟨xb,xo_,none⟩) 1 xc,.slice (some ⟨tb,hto,none⟩) kl kc] 53 _ rfl) (by simp [Value.oneCell']) (by have := HSM.o; unfold maxLen; omega) (by have := HSM.o; omega) ?_; intro v' w9 o' g' h'; have HO := LH9 o'; have HGG := LH9 g'; have HV9 := LH9 h'; clear o' g' h'));have hpf := AhJ.pushP (x := ⟨f,tn,un,t⟩) HB4.o HS4.o HG.o HPT.o HO.o HGG.o HV9.o;have HFN := LH9 (AhJ.of (R := R) (n := t.nd + ndL rest) hpf.1 hpf.2 HE.o HGD.o HRO.o HND.o (by have := HSM.o; have := HND.o; show (s.ps ++ [_]).length + _<=_; rw [List.length_append,List.length_singleton]; omega) (by have := HSM.o; show s.fs.length + _<=_; omega));clear hpf HO HGG HV9 HS4 HB4 HG HPT;go_meet
  case rel => exact ⟨[],_,z0,rfl,HFN.o⟩
 ) : p := h
theorem Z7_14 {p : Prop} (h : p := by
  try simp only [Act.put,zp1,zp2,zp3,zp4,zp5,zp6]
  obtain ⟨t0,t1,t2,t3⟩ := BZ.o.two;have hm9 := BZ.o.lt;refine tl9 (fun K' hK=>?_);go_simp;have HB9 := LH9 ((HB5.o.setCell (p := ⟨z,0,none⟩) HZ.o (.string (wd V))).setCell (p := ⟨z,1,none⟩) HZ.o (.int .i64 V.N));have BZ9 := LH9 ((BZ.o.set_ 0 (.string (wd V))).set_ 1 (.int .i64 V.N));refine hK _ _ ?_;clear hK K'
  try simp only [Act.put,zp1,zp2,zp3,zp4,zp5,zp6]
  refine wd9 ?_;rw [HQ9.o];clear HQ9 HQP;go_wp2_with fail;go_meet
  case rel => exact ⟨z,rfl,HB9.o,BZ9.o⟩
 ) : p := h
theorem Z7_15 {p : Prop} (h : p := by
  have HAJ4 := LH9 (HAJ.o.up HW4.o);have hU4 := HU3.o.kept (Kept.of_below HW4.o _);have hT4 := HT3.o.kept (Kept.of_below HW4.o _);have hK4 := HRK.o.kept (Kept.of_below HW4.o _);have BP4 := LH9 (BP3.o.below HW4.o);have BG4 := LH9 (BG3.o.below HW4.o);obtain ⟨v0,v1,v2,v3⟩ := HWK.o;replace v0 := cu9 v0 HW4.o;replace v1 := cu9 v1 HW4.o;replace v2 := cu9 v2 HW4.o;replace v3 := cu9 v3 HW4.o;have hlk := HLK.o;clear v0 v1 v2 v3 hlk hK4;have HU4 := LH9 hU4;have HT4 := LH9 hT4;clear hU4 hT4;have hb4 := below_nT w4 (.cells #[.int .i64 f,.bool tn,.slice ua un.length uc,.int .i64 7,.string nm,.slice (some ⟨xb,xo_,none⟩) 1 xc,.slice (some ⟨tb,hto,none⟩) kl kc] 53);have HS4 := LH9 (HAJ4.o.sep.below hb4);have HB4 := LH9 (HAJ4.o.below.trans (hb4.mono HAJ4.o.below.size));obtain ⟨csl,hG⟩ := HS4.o.at 2 rfl;have HG := LH9 hG;have HPT := LH9 (ptK.kept (show ptK.R w4 _ (⟨f,tn,un,t⟩ : Prt) [.int .i64 f,.bool tn,.slice ua un.length uc,.int .i64 7,.string nm,.slice (some ⟨xb,xo_,none⟩) 1 xc,.slice (some ⟨tb,hto,none⟩) kl kc] from ⟨ua,uc,_,rfl,HFI.o,HU4.o,HT4.o⟩) (Kept.of_below hb4 _));clear hb4 hG;obtain ⟨y0,y1,y2,y3,-,-,-,-⟩ := blk4 BG4.o;obtain ⟨c0,c1,c2,c3,c4,c5,c6⟩ := blk7 BP4.o;go_wp2_with (first | (refine list_bs rfl rfl rfl ?_; simp only [Act.put,zp1,zp2,zp3,zp4,zp5,zp6]) | (at_builtin; refine ap_row infoRP9 Tryz.underlying46 rfl (by decide) rfl (.tmp 198) (.tmp 200) rfl rfl HG.o.own HG.o.room ⟨w4.heap.size,0,none⟩ 1 1 [.int .i64 f,.bool tn,.slice ua un.length uc,.int .i64 7,.string nm,.slice (some ⟨xb,xo_,none⟩) 1 xc,.slice (some ⟨tb,hto,none⟩) kl kc] rfl rfl (lit_cells_at w4 #[.int .i64 f,.bool tn,.slice ua un.length uc,.int .i64 7,.string nm,.slice (some ⟨xb,xo_,none⟩) 1 xc,.slice (some ⟨tb,hto,none⟩) kl kc] 53 _ rfl) (by simp [Value.oneCell']) (by have := HSM.o; unfold maxLen; omega) (by have := HSM.o; omega) ?_; intro v' w9 o' g' h'; have HO := LH9 o'; have HGG := LH9 g'; have HV9 := LH9 h'; clear o' g' h'));have hpf := AhJ.pushP (x := ⟨f,tn,un,t⟩) HB4.o HS4.o HG.o HPT.o HO.o HGG.o HV9.o;have HFN := LH9 (AhJ.of (R := R) (n := t.nd + ndL rest) hpf.1 hpf.2 HE.o HGD.o HRO.o HND.o (by have := HSM.o; have := HND.o; show (s.ps ++ [_]).length + _<=_; rw [List.length_append,List.length_singleton]; omega) (by have := HSM.o; show s.fs.length + _<=_; omega));clear hpf HO HGG HV9 HS4 HB4 HG HPT;go_meet
  case rel => exact ⟨[],_,z0,rfl,HFN.o⟩
 ) : p := h
theorem Z7_16 {p : Prop} (h : p := by
  have e0 : W0.cell? ⟨w.heap.size + 1,0,none⟩=some (.int .i64 day) := ST0.o.env.cell 0;have e1 : W0.cell? ⟨w.heap.size + 1,1,none⟩=some (.slice a len cap) := ST0.o.env.cell 1;have x3 : W0.cell? ⟨w.heap.size,3,none⟩=some (.slice (some ⟨b,o,none⟩) 2 cap') := ST0.o.ex.cell 3;obtain ⟨u0,u1,u2,u3⟩ := H1.o;replace u0 := cu9 u0 ST0.o.below;replace u1 := cu9 u1 ST0.o.below;replace u2 := cu9 u2 ST0.o.below;replace u3 := cu9 u3 ST0.o.below;refine wp_region_till (S := fun W => (W.cell? ⟨w.heap.size + 1,0,none⟩=some (.int .i64 day)/\W.cell? ⟨w.heap.size + 1,1,none⟩=some (.slice a len cap))/\W.cell? ⟨w.heap.size,3,none⟩=some (.slice (some ⟨b,o,none⟩) 2 cap')/\W.cell? ⟨b,o + 4,none⟩=some (.int .i64 o1)/\W.cell? ⟨b,o + 4 + 1,none⟩=some (.int .i64 n1)/\W.cell? ⟨b,o + 4 + 2,none⟩=some (.string m1)/\W.cell? ⟨b,o + 4 + 3,none⟩=some (.slice a1 l1 p1)) 7 (by kernel_rfl) ?_;refine tk 0 ⟨⟨e0,e1⟩,x3,u0,u1,u2,u3⟩ ?_;refine tk 1 ⟨⟨e0,e1⟩,x3,u0,u1,u2,u3⟩ ?_;refine tk 2 ⟨⟨e0,e1⟩,x3,u0,u1,u2,u3⟩ ?_;refine tk 3 ⟨⟨e0,e1⟩,x3,u0,u1,u2,u3⟩ ?_;refine tk 4 ⟨⟨e0,e1⟩,x3,u0,u1,u2,u3⟩ ?_;refine till_two (i := 5) (j := 6) (by kernel_rfl) rfl rfl (fun K' hK => ?_) (fun K' hK => ?_)
  . go_simp;go_at_call 32;(with_reducible refine (RvC.run HCB.o _ ST0.o.below.drew).mono ?_);rintro y w1 ⟨hy,b1⟩;unfold RetW at hy;subst hy;have hd := (Below.refl W0.heap.size W0).drew;have ST1 := LH9 ((ST0.o.up hd).up b1);have bt := hd.trans (b1.mono hd.size);have GG := LH9 (And.intro ((VS0.o.up hd).up b1) ((VA.o.up hd).up b1));replace e0 := cu9 e0 bt;replace e1 := cu9 e1 bt;replace x3 := cu9 x3 bt;replace u0 := cu9 u0 bt;replace u1 := cu9 u1 bt;replace u2 := cu9 u2 bt;replace u3 := cu9 u3 bt;refine hK _ _ ⟨⟨e0,e1⟩,x3,u0,u1,u2,u3⟩ ?_;clear hK K' b1 hd bt
    try simp only [Act.put,zp1,zp2,zp3,zp4,zp5,zp6]
    refine t19 6 (fun K' hK=>?_);go_simp;have bn := (Below.refl w1.heap.size w1).alloc (Nat.le_refl _) (.cells #[.string ⟨#[]⟩,.int .i64 0] 97);have ST2 := LH9 (ST1.o.up bn);have BZ := LH9 (Mem.Blk.new w1 97 #[.string ⟨#[]⟩,.int .i64 0]);have HZ := LH9 ST1.o.lt;have HP := LH9 (And.intro (And.intro (GG.o.1.up bn) (Nat.ne_of_lt GG.o.1.blk.lt)) (And.intro (GG.o.2.up bn) (Nat.ne_of_lt GG.o.2.blk.lt)));refine hK _ _ ⟨⟨cu9 e0 bn,cu9 e1 bn⟩,cu9 x3 bn,cu9 u0 bn,cu9 u1 bn,cu9 u2 bn,cu9 u3 bn⟩ ?_;clear hK K' bn ST1 e0 e1 x3 u0 u1 u2 u3 GG;generalize w1.alloc (.cells _ 97)=w2 at *;generalize w1.heap.size=z at *
    try simp only [Act.put,zp1,zp2,zp3,zp4,zp5,zp6]
    obtain ⟨t0,t1,t2,t3⟩ := BZ.o.two;have hm := BZ.o.lt;refine tl9 (fun K' hK=>?_);go_simp;have HS9 := LH9 (ST2.o.far2 HZ.o (.string (wd B)) (.int .i64 B.N));have HV9 := LH9 (RvV.mk (v := B) HZ.o ((BZ.o.set_ 0 (.string (wd B))).set_ 1 (.int .i64 B.N)));refine hK _ _ ?_;clear hK K'
    try simp only [Act.put,zp1,zp2,zp3,zp4,zp5,zp6]
    refine wd9 ?_;go_wp2_with fail;go_meet
    case rel => exact ⟨z,rfl,HS9.o,HV9.o,HP.o.1.1.far2 HP.o.1.2 _ _,HP.o.2.1.far2 HP.o.2.2 _ _⟩
  . go_simp;have bn := below_new W0 (.cells #[.string ⟨#[]⟩,.int .i64 0] 97);have ST1 := LH9 (ST0.o.up bn);have BZ1 := LH9 (Mem.Blk.new W0 97 #[.string ⟨#[]⟩,.int .i64 0]).drew;have HZ := LH9 ST0.o.lt;have HQ := LH9 (And.intro (And.intro (VS0.o.up bn) (Nat.ne_of_lt VS0.o.blk.lt)) (And.intro (VA.o.up bn) (Nat.ne_of_lt VA.o.blk.lt)));replace e0 := cu9 e0 bn;replace e1 := cu9 e1 bn;replace x3 := cu9 x3 bn;replace u0 := cu9 u0 bn;replace u1 := cu9 u1 bn;replace u2 := cu9 u2 bn;replace u3 := cu9 u3 bn;refine hK _ _ ⟨⟨e0,e1⟩,x3,u0,u1,u2,u3⟩ ?_;clear hK K' bn;generalize (W0.alloc (.cells _ 97)).drew=w1 at *;generalize W0.heap.size=z at *
    try simp only [Act.put,zp1,zp2,zp3,zp4,zp5,zp6]
    refine t19 5 (fun K' hK=>?_);go_simp;go_at_call 32;(with_reducible refine (RvC.run HCB.o _ ST1.o.below).mono ?_);rintro y w2 ⟨hy,b1⟩;unfold RetW at hy;subst hy;have ST2 := LH9 (ST1.o.up b1);have BZ := LH9 (BZ1.o.below b1);have HP := LH9 (And.intro (And.intro (HQ.o.1.1.up b1) HQ.o.1.2) (And.intro (HQ.o.2.1.up b1) HQ.o.2.2));refine hK _ _ ⟨⟨cu9 e0 b1,cu9 e1 b1⟩,cu9 x3 b1,cu9 u0 b1,cu9 u1 b1,cu9 u2 b1,cu9 u3 b1⟩ ?_;clear hK K' b1 ST1 BZ1 e0 e1 x3 u0 u1 u2 u3 HQ
    try simp only [Act.put,zp1,zp2,zp3,zp4,zp5,zp6]
    obtain ⟨t0,t1,t2,t3⟩ := BZ.o.two;have hm := BZ.o.lt;refine tl9 (fun K' hK=>?_);go_simp;have HS9 := LH9 (ST2.o.far2 HZ.o (.string (wd B)) (.int .i64 B.N));have HV9 := LH9 (RvV.mk (v := B) HZ.o ((BZ.o.set_ 0 (.string (wd B))).set_ 1 (.int .i64 B.N)));refine hK _ _ ?_;clear hK K'
    try simp only [Act.put,zp1,zp2,zp3,zp4,zp5,zp6]
    refine wd9 ?_;go_wp2_with fail;go_meet
    case rel => exact ⟨z,rfl,HS9.o,HV9.o,HP.o.1.1.far2 HP.o.1.2 _ _,HP.o.2.1.far2 HP.o.2.2 _ _⟩
 ) : p := h
theorem Z7_17 {p : Prop} (h : p := by
  have e0 : W0.cell? ⟨w.heap.size + 1,0,none⟩=some (.int .i64 day) := ST0.o.env.cell 0;have e1 : W0.cell? ⟨w.heap.size + 1,1,none⟩=some (.slice a len cap) := ST0.o.env.cell 1;have x3 : W0.cell? ⟨w.heap.size,3,none⟩=some (.slice (some ⟨b,o,none⟩) 2 cap') := ST0.o.ex.cell 3;obtain ⟨u0,u1,u2,u3⟩ := H1.o;replace u0 := cu9 u0 ST0.o.below;replace u1 := cu9 u1 ST0.o.below;replace u2 := cu9 u2 ST0.o.below;replace u3 := cu9 u3 ST0.o.below;refine wp_region_till (S := fun W => (W.cell? ⟨w.heap.size + 1,0,none⟩=some (.int .i64 day)/\W.cell? ⟨w.heap.size + 1,1,none⟩=some (.slice a len cap))/\W.cell? ⟨w.heap.size,3,none⟩=some (.slice (some ⟨b,o,none⟩) 2 cap')/\W.cell? ⟨b,o + 4,none⟩=some (.int .i64 o1)/\W.cell? ⟨b,o + 4 + 1,none⟩=some (.int .i64 n1)/\W.cell? ⟨b,o + 4 + 2,none⟩=some (.string m1)/\W.cell? ⟨b,o + 4 + 3,none⟩=some (.slice a1 l1 p1)) 7 (by kernel_rfl) ?_;refine tk 0 ⟨⟨e0,e1⟩,x3,u0,u1,u2,u3⟩ ?_;refine tk 1 ⟨⟨e0,e1⟩,x3,u0,u1,u2,u3⟩ ?_;refine tk 2 ⟨⟨e0,e1⟩,x3,u0,u1,u2,u3⟩ ?_;refine tk 3 ⟨⟨e0,e1⟩,x3,u0,u1,u2,u3⟩ ?_;refine tk 4 ⟨⟨e0,e1⟩,x3,u0,u1,u2,u3⟩ ?_;refine till_two (i := 5) (j := 6) (by kernel_rfl) rfl rfl (fun K' hK => ?_) (fun K' hK => ?_)
  . go_simp;go_at_call 32;(with_reducible refine (RvC.run HCB.o _ ST0.o.below.drew).mono ?_);rintro y w1 ⟨hy,b1⟩;unfold RetW at hy;subst hy;have hd := (Below.refl W0.heap.size W0).drew;have ST1 := LH9 ((ST0.o.up hd).up b1);have bt := hd.trans (b1.mono hd.size);have GG := LH9 (And.intro ((VS0.o.up hd).up b1) ((VA.o.up hd).up b1));replace e0 := cu9 e0 bt;replace e1 := cu9 e1 bt;replace x3 := cu9 x3 bt;replace u0 := cu9 u0 bt;replace u1 := cu9 u1 bt;replace u2 := cu9 u2 bt;replace u3 := cu9 u3 bt;refine hK _ _ ⟨⟨e0,e1⟩,x3,u0,u1,u2,u3⟩ ?_;clear hK K' b1 hd bt
    try simp only [Act.put,zp1,zp2,zp3,zp4,zp5,zp6]
    refine t19 6 (fun K' hK=>?_);go_simp;have bn := (Below.refl w1.heap.size w1).alloc (Nat.le_refl _) (.cells #[.string ⟨#[]⟩,.int .i64 0] 97);have ST2 := LH9 (ST1.o.up bn);have BZ := LH9 (Mem.Blk.new w1 97 #[.string ⟨#[]⟩,.int .i64 0]);have HZ := LH9 ST1.o.lt;have HP := LH9 (And.intro (And.intro (GG.o.1.up bn) (Nat.ne_of_lt GG.o.1.blk.lt)) (And.intro (GG.o.2.up bn) (Nat.ne_of_lt GG.o.2.blk.lt)));refine hK _ _ ⟨⟨cu9 e0 bn,cu9 e1 bn⟩,cu9 x3 bn,cu9 u0 bn,cu9 u1 bn,cu9 u2 bn,cu9 u3 bn⟩ ?_;clear hK K' bn ST1 e0 e1 x3 u0 u1 u2 u3 GG;generalize w1.alloc (.cells _ 97)=w2 at *;generalize w1.heap.size=z at *
    try simp only [Act.put,zp1,zp2,zp3,zp4,zp5,zp6]
    obtain ⟨t0,t1,t2,t3⟩ := BZ.o.two;have hm := BZ.o.lt;refine tl9 (fun K' hK=>?_);go_simp;have HS9 := LH9 (ST2.o.far2 HZ.o (.string (wd R)) (.int .i64 R.N));have HV9 := LH9 (RvV.mk (v := R) HZ.o ((BZ.o.set_ 0 (.string (wd R))).set_ 1 (.int .i64 R.N)));refine hK _ _ ?_;clear hK K'
    try simp only [Act.put,zp1,zp2,zp3,zp4,zp5,zp6]
    refine wd9 ?_;go_wp2_with fail;go_meet
    case rel => exact ⟨z,rfl,HS9.o,HV9.o,HP.o.1.1.far2 HP.o.1.2 _ _,HP.o.2.1.far2 HP.o.2.2 _ _⟩
  . go_simp;have bn := below_new W0 (.cells #[.string ⟨#[]⟩,.int .i64 0] 97);have ST1 := LH9 (ST0.o.up bn);have BZ1 := LH9 (Mem.Blk.new W0 97 #[.string ⟨#[]⟩,.int .i64 0]).drew;have HZ := LH9 ST0.o.lt;have HQ := LH9 (And.intro (And.intro (VS0.o.up bn) (Nat.ne_of_lt VS0.o.blk.lt)) (And.intro (VA.o.up bn) (Nat.ne_of_lt VA.o.blk.lt)));replace e0 := cu9 e0 bn;replace e1 := cu9 e1 bn;replace x3 := cu9 x3 bn;replace u0 := cu9 u0 bn;replace u1 := cu9 u1 bn;replace u2 := cu9 u2 bn;replace u3 := cu9 u3 bn;refine hK _ _ ⟨⟨e0,e1⟩,x3,u0,u1,u2,u3⟩ ?_;clear hK K' bn;generalize (W0.alloc (.cells _ 97)).drew=w1 at *;generalize W0.heap.size=z at *
    try simp only [Act.put,zp1,zp2,zp3,zp4,zp5,zp6]
    refine t19 5 (fun K' hK=>?_);go_simp;go_at_call 32;(with_reducible refine (RvC.run HCB.o _ ST1.o.below).mono ?_);rintro y w2 ⟨hy,b1⟩;unfold RetW at hy;subst hy;have ST2 := LH9 (ST1.o.up b1);have BZ := LH9 (BZ1.o.below b1);have HP := LH9 (And.intro (And.intro (HQ.o.1.1.up b1) HQ.o.1.2) (And.intro (HQ.o.2.1.up b1) HQ.o.2.2));refine hK _ _ ⟨⟨cu9 e0 b1,cu9 e1 b1⟩,cu9 x3 b1,cu9 u0 b1,cu9 u1 b1,cu9 u2 b1,cu9 u3 b1⟩ ?_;clear hK K' b1 ST1 BZ1 e0 e1 x3 u0 u1 u2 u3 HQ
    try simp only [Act.put,zp1,zp2,zp3,zp4,zp5,zp6]
    obtain ⟨t0,t1,t2,t3⟩ := BZ.o.two;have hm := BZ.o.lt;refine tl9 (fun K' hK=>?_);go_simp;have HS9 := LH9 (ST2.o.far2 HZ.o (.string (wd R)) (.int .i64 R.N));have HV9 := LH9 (RvV.mk (v := R) HZ.o ((BZ.o.set_ 0 (.string (wd R))).set_ 1 (.int .i64 R.N)));refine hK _ _ ?_;clear hK K'
    try simp only [Act.put,zp1,zp2,zp3,zp4,zp5,zp6]
    refine wd9 ?_;go_wp2_with fail;go_meet
    case rel => exact ⟨z,rfl,HS9.o,HV9.o,HP.o.1.1.far2 HP.o.1.2 _ _,HP.o.2.1.far2 HP.o.2.2 _ _⟩
 ) : p := h
theorem Z7_18 {p : Prop} (h : p := by
  clear t0 t1 t2;obtain ⟨e0,e1,-,-⟩ := ST0.o.env.two;have x3 : W0.cell? ⟨w.heap.size + 1,3,none⟩=_ := ST0.o.ex.cell 3;simp only [List.getElem?_toArray,List.getElem?_cons_zero,List.getElem?_cons_succ] at x3;obtain ⟨u0,u1,u2,u3⟩ := H1.o;replace u0 := cu9 u0 ST0.o.below;replace u1 := cu9 u1 ST0.o.below;replace u2 := cu9 u2 ST0.o.below;replace u3 := cu9 u3 ST0.o.below;refine wp_region_till (S := fun W => (W.cell? ⟨w.heap.size,0,none⟩=some (.int .i64 day)/\W.cell? ⟨w.heap.size,1,none⟩=some (.slice a len cap))/\W.cell? ⟨w.heap.size + 1,3,none⟩=some (.slice (some ⟨b,o,none⟩) 2 cap')/\W.cell? ⟨b,o + 4,none⟩=some (.int .i64 o1)/\W.cell? ⟨b,o + 4 + 1,none⟩=some (.int .i64 n1)/\W.cell? ⟨b,o + 4 + 2,none⟩=some (.string m1)/\W.cell? ⟨b,o + 4 + 3,none⟩=some (.slice a1 l1 p1)) 7 (by kernel_rfl) ?_;refine tk 0 ⟨⟨e0,e1⟩,x3,u0,u1,u2,u3⟩ ?_;refine tk 1 ⟨⟨e0,e1⟩,x3,u0,u1,u2,u3⟩ ?_;refine tk 2 ⟨⟨e0,e1⟩,x3,u0,u1,u2,u3⟩ ?_;refine tk 3 ⟨⟨e0,e1⟩,x3,u0,u1,u2,u3⟩ ?_;refine tk 4 ⟨⟨e0,e1⟩,x3,u0,u1,u2,u3⟩ ?_;refine till_two (i := 5) (j := 6) (by kernel_rfl) rfl rfl (fun K' hK => ?_) (fun K' hK => ?_)
  . go_simp;go_at_call 96;(with_reducible refine (EvC.run HCB.o _ ST0.o.below.drew).mono ?_);rintro y w1 ⟨hy,b1⟩;unfold RetV at hy;subst hy;have hd := (Below.refl W0.heap.size W0).drew;have ST1 := LH9 ((ST0.o.up hd).up b1);have bt := hd.trans (b1.mono hd.size);have GG := LH9 ((VA.o.up hd).up b1);replace e0 := cu9 e0 bt;replace e1 := cu9 e1 bt;replace x3 := cu9 x3 bt;replace u0 := cu9 u0 bt;replace u1 := cu9 u1 bt;replace u2 := cu9 u2 bt;replace u3 := cu9 u3 bt;refine hK _ _ ⟨⟨e0,e1⟩,x3,u0,u1,u2,u3⟩ ?_;clear hK K' b1 hd bt
    try simp only [Act.put,zp1,zp2,zp3,zp4,zp5,zp6]
    refine t19 6 (fun K' hK=>?_);go_simp;have bn := (Below.refl w1.heap.size w1).alloc (Nat.le_refl _) (.cells #[.int .i64 0,.int .i64 0,.bool false] 150);have ST2 := LH9 (ST1.o.up bn);have BZ := LH9 (Mem.Blk.new w1 150 #[.int .i64 0,.int .i64 0,.bool false]);have HZ := LH9 ST1.o.lt;have HP := LH9 (And.intro (GG.o.up bn) (Nat.ne_of_lt GG.o.blk.lt));refine hK _ _ ⟨⟨cu9 e0 bn,cu9 e1 bn⟩,cu9 x3 bn,cu9 u0 bn,cu9 u1 bn,cu9 u2 bn,cu9 u3 bn⟩ ?_;clear hK K' bn ST1 e0 e1 x3 u0 u1 u2 u3 GG;generalize w1.alloc (.cells _ 150)=w2 at *;generalize w1.heap.size=z at *
    try simp only [Act.put,zp1,zp2,zp3,zp4,zp5,zp6]
    obtain ⟨t0,t1,t2,t3,t4,t5⟩ := blk3 BZ.o;have hm := BZ.o.lt;refine tl9 (fun K' hK=>?_);go_simp;have HS9 := LH9 (ST2.o.far3 HZ.o (.int .i64 R.K) (.int .i64 R.N) (.bool R.B));have HV9 := LH9 (EvV.mk (v := R) HZ.o (((BZ.o.set_ 0 (.int .i64 R.K)).set_ 1 (.int .i64 R.N)).set_ 2 (.bool R.B)));refine hK _ _ ?_;clear hK K'
    try simp only [Act.put,zp1,zp2,zp3,zp4,zp5,zp6]
    refine wd9 ?_;go_wp2_with fail;go_meet
    case rel => exact ⟨z,rfl,HS9.o,HV9.o,HP.o.1.far3 HP.o.2 _ _ _⟩
  . go_simp;have bn := below_new W0 (.cells #[.int .i64 0,.int .i64 0,.bool false] 150);have ST1 := LH9 (ST0.o.up bn);have BZ1 := LH9 (Mem.Blk.new W0 150 #[.int .i64 0,.int .i64 0,.bool false]).drew;have HZ := LH9 ST0.o.lt;have HQ := LH9 (And.intro (VA.o.up bn) (Nat.ne_of_lt VA.o.blk.lt));replace e0 := cu9 e0 bn;replace e1 := cu9 e1 bn;replace x3 := cu9 x3 bn;replace u0 := cu9 u0 bn;replace u1 := cu9 u1 bn;replace u2 := cu9 u2 bn;replace u3 := cu9 u3 bn;refine hK _ _ ⟨⟨e0,e1⟩,x3,u0,u1,u2,u3⟩ ?_;clear hK K' bn;generalize (W0.alloc (.cells _ 150)).drew=w1 at *;generalize W0.heap.size=z at *
    try simp only [Act.put,zp1,zp2,zp3,zp4,zp5,zp6]
    refine t19 5 (fun K' hK=>?_);go_simp;go_at_call 96;(with_reducible refine (EvC.run HCB.o _ ST1.o.below).mono ?_);rintro y w2 ⟨hy,b1⟩;unfold RetV at hy;subst hy;have ST2 := LH9 (ST1.o.up b1);have BZ := LH9 (BZ1.o.below b1);have HP := LH9 (And.intro (HQ.o.1.up b1) HQ.o.2);refine hK _ _ ⟨⟨cu9 e0 b1,cu9 e1 b1⟩,cu9 x3 b1,cu9 u0 b1,cu9 u1 b1,cu9 u2 b1,cu9 u3 b1⟩ ?_;clear hK K' b1 ST1 BZ1 e0 e1 x3 u0 u1 u2 u3 HQ
    try simp only [Act.put,zp1,zp2,zp3,zp4,zp5,zp6]
    obtain ⟨t0,t1,t2,t3,t4,t5⟩ := blk3 BZ.o;have hm := BZ.o.lt;refine tl9 (fun K' hK=>?_);go_simp;have HS9 := LH9 (ST2.o.far3 HZ.o (.int .i64 R.K) (.int .i64 R.N) (.bool R.B));have HV9 := LH9 (EvV.mk (v := R) HZ.o (((BZ.o.set_ 0 (.int .i64 R.K)).set_ 1 (.int .i64 R.N)).set_ 2 (.bool R.B)));refine hK _ _ ?_;clear hK K'
    try simp only [Act.put,zp1,zp2,zp3,zp4,zp5,zp6]
    refine wd9 ?_;go_wp2_with fail;go_meet
    case rel => exact ⟨z,rfl,HS9.o,HV9.o,HP.o.1.far3 HP.o.2 _ _ _⟩
 ) : p := h
theorem Z7_19 {p : Prop} (h : p := by
  have e0 : v1.cell? ⟨w.heap.size + 1,0,none⟩=some (.int .i64 day) := ST2.o.env.cell 0;have e1 : v1.cell? ⟨w.heap.size + 1,1,none⟩=some (.slice a len cap) := ST2.o.env.cell 1;have x3 : v1.cell? ⟨w.heap.size,3,none⟩=some (.slice (some ⟨b,o,none⟩) 2 cap') := ST2.o.ex.cell 3;obtain ⟨u0,u1,u2,u3⟩ := H0.o;replace u0 := cu9 u0 ST2.o.below;replace u1 := cu9 u1 ST2.o.below;replace u2 := cu9 u2 ST2.o.below;replace u3 := cu9 u3 ST2.o.below;refine wp_region_till (S := fun W => (W.cell? ⟨w.heap.size + 1,0,none⟩=some (.int .i64 day)/\W.cell? ⟨w.heap.size + 1,1,none⟩=some (.slice a len cap))/\W.cell? ⟨w.heap.size,3,none⟩=some (.slice (some ⟨b,o,none⟩) 2 cap')/\W.cell? ⟨b,o,none⟩=some (.int .i64 o0)/\W.cell? ⟨b,o + 1,none⟩=some (.int .i64 n0)/\W.cell? ⟨b,o + 2,none⟩=some (.string m0)/\W.cell? ⟨b,o + 3,none⟩=some (.slice a0 l0 p0)) 7 (by kernel_rfl) ?_;refine tk 0 ⟨⟨e0,e1⟩,x3,u0,u1,u2,u3⟩ ?_;refine tk 1 ⟨⟨e0,e1⟩,x3,u0,u1,u2,u3⟩ ?_;refine tk 2 ⟨⟨e0,e1⟩,x3,u0,u1,u2,u3⟩ ?_;refine tk 3 ⟨⟨e0,e1⟩,x3,u0,u1,u2,u3⟩ ?_;refine tk 4 ⟨⟨e0,e1⟩,x3,u0,u1,u2,u3⟩ ?_;refine till_two (i := 5) (j := 6) (by kernel_rfl) rfl rfl (fun K' hK => ?_) (fun K' hK => ?_)
  . go_simp;go_at_call 32;(with_reducible refine (RvC.run HCA.o _ ST2.o.below.drew).mono ?_);rintro y w1 ⟨hy,b1⟩;unfold RetW at hy;subst hy;have hd := (Below.refl v1.heap.size v1).drew;have ST1 := LH9 ((ST2.o.up hd).up b1);have bt := hd.trans (b1.mono hd.size);have GG := LH9 ((VS.o.up hd).up b1);replace e0 := cu9 e0 bt;replace e1 := cu9 e1 bt;replace x3 := cu9 x3 bt;replace u0 := cu9 u0 bt;replace u1 := cu9 u1 bt;replace u2 := cu9 u2 bt;replace u3 := cu9 u3 bt;refine hK _ _ ⟨⟨e0,e1⟩,x3,u0,u1,u2,u3⟩ ?_;clear hK K' b1 hd bt
    try simp only [Act.put,zp1,zp2,zp3,zp4,zp5,zp6]
    refine t19 6 (fun K' hK=>?_);go_simp;have bn := (Below.refl w1.heap.size w1).alloc (Nat.le_refl _) (.cells #[.string ⟨#[]⟩,.int .i64 0] 97);have ST2 := LH9 (ST1.o.up bn);have BZ := LH9 (Mem.Blk.new w1 97 #[.string ⟨#[]⟩,.int .i64 0]);have HZ := LH9 ST1.o.lt;have HP := LH9 (And.intro (GG.o.up bn) (Nat.ne_of_lt GG.o.blk.lt));refine hK _ _ ⟨⟨cu9 e0 bn,cu9 e1 bn⟩,cu9 x3 bn,cu9 u0 bn,cu9 u1 bn,cu9 u2 bn,cu9 u3 bn⟩ ?_;clear hK K' bn ST1 e0 e1 x3 u0 u1 u2 u3 GG;generalize w1.alloc (.cells _ 97)=w2 at *;generalize w1.heap.size=z at *
    try simp only [Act.put,zp1,zp2,zp3,zp4,zp5,zp6]
    obtain ⟨t0,t1,t2,t3⟩ := BZ.o.two;have hm := BZ.o.lt;refine tl9 (fun K' hK=>?_);go_simp;have HS9 := LH9 (ST2.o.far2 HZ.o (.string (wd A)) (.int .i64 A.N));have HV9 := LH9 (RvV.mk (v := A) HZ.o ((BZ.o.set_ 0 (.string (wd A))).set_ 1 (.int .i64 A.N)));refine hK _ _ ?_;clear hK K'
    try simp only [Act.put,zp1,zp2,zp3,zp4,zp5,zp6]
    refine wd9 ?_;go_wp2_with fail;go_meet
    case rel => exact ⟨z,rfl,HS9.o,HV9.o,HP.o.1.far2 HP.o.2 _ _⟩
  . go_simp;have bn := below_new v1 (.cells #[.string ⟨#[]⟩,.int .i64 0] 97);have ST1 := LH9 (ST2.o.up bn);have BZ1 := LH9 (Mem.Blk.new v1 97 #[.string ⟨#[]⟩,.int .i64 0]).drew;have HZ := LH9 ST2.o.lt;have HQ := LH9 (And.intro (VS.o.up bn) (Nat.ne_of_lt VS.o.blk.lt));replace e0 := cu9 e0 bn;replace e1 := cu9 e1 bn;replace x3 := cu9 x3 bn;replace u0 := cu9 u0 bn;replace u1 := cu9 u1 bn;replace u2 := cu9 u2 bn;replace u3 := cu9 u3 bn;refine hK _ _ ⟨⟨e0,e1⟩,x3,u0,u1,u2,u3⟩ ?_;clear hK K' bn;generalize (v1.alloc (.cells _ 97)).drew=w1 at *;generalize v1.heap.size=z at *
    try simp only [Act.put,zp1,zp2,zp3,zp4,zp5,zp6]
    refine t19 5 (fun K' hK=>?_);go_simp;go_at_call 32;(with_reducible refine (RvC.run HCA.o _ ST1.o.below).mono ?_);rintro y w2 ⟨hy,b1⟩;unfold RetW at hy;subst hy;have ST2 := LH9 (ST1.o.up b1);have BZ := LH9 (BZ1.o.below b1);have HP := LH9 (And.intro (HQ.o.1.up b1) HQ.o.2);refine hK _ _ ⟨⟨cu9 e0 b1,cu9 e1 b1⟩,cu9 x3 b1,cu9 u0 b1,cu9 u1 b1,cu9 u2 b1,cu9 u3 b1⟩ ?_;clear hK K' b1 ST1 BZ1 e0 e1 x3 u0 u1 u2 u3 HQ
    try simp only [Act.put,zp1,zp2,zp3,zp4,zp5,zp6]
    obtain ⟨t0,t1,t2,t3⟩ := BZ.o.two;have hm := BZ.o.lt;refine tl9 (fun K' hK=>?_);go_simp;have HS9 := LH9 (ST2.o.far2 HZ.o (.string (wd A)) (.int .i64 A.N));have HV9 := LH9 (RvV.mk (v := A) HZ.o ((BZ.o.set_ 0 (.string (wd A))).set_ 1 (.int .i64 A.N)));refine hK _ _ ?_;clear hK K'
    try simp only [Act.put,zp1,zp2,zp3,zp4,zp5,zp6]
    refine wd9 ?_;go_wp2_with fail;go_meet
    case rel => exact ⟨z,rfl,HS9.o,HV9.o,HP.o.1.far2 HP.o.2 _ _⟩
 ) : p := h
theorem Z7_20 {p : Prop} (h : p := by
  by_cases hlt : k < len
  . obtain ⟨b,o,op',n',nm',args',a',len',cap',rfl,hb,hbx,hle,j1,j2,j3,hS',g0,g1,g2,g3⟩ := (HS.o.kept (Kept.of_below HW.o [])).at k hlt;have HC := LH9 (HI.o k _ _ wr hle (RepE.mk' j1 j2 j3 hS'));have HLE := LH9 hle;clear hle hS' j1 j2 j3;generalize Ex.mk op' n' nm' args'=e' at *
    cases hp : bE e'
    . rw [hp] at HC;have hC : C=false := HN.o k e' HLE.o hp;have F2 : Hid (Ending.returned (.bool false)=.returned (.bool R)) := by show _=_; rw [<- F.o,hC]
      clear hp hC;go_wp2_with fail;refine HC.o.mono ?_; rintro r w1 ⟨rfl,b1⟩
      go_wp2
      go_ret;exact ⟨F2.o,HW.o.trans (b1.mono HW.o.size)⟩
    . rw [hp] at HC;have HP2 : Hid (∀ (j : Nat) y,j < k + 1->args[j]?=some y->bE y=true) := by
       intro j y hj hy;rcases Nat.lt_or_ge j k with h | h
       . exact HP.o j y h hy
       . obtain rfl : j=k := by omega
         rw [HLE.o] at hy; injection hy with hy; subst hy; exact hp
      clear hp;go_wp2_with fail;refine HC.o.mono ?_; rintro r w1 ⟨rfl,b1⟩
      go_wp2
      go_roundw
      case rel => exact ⟨k + 1,by go_num,by omega,HW.o.trans (b1.mono HW.o.size),HX.o.below b1,HP2⟩
      case measure => simp [intOf]; omega
  . have hC : C=true := HT.o (fun j y hy => HP.o j y (by have := (List.getElem?_eq_some_iff.1 hy).1; have := HL.o; omega) hy);have F2 : Hid (Ending.returned (.bool true)=.returned (.bool R)) := by show _=_; rw [<- F.o,hC]
    clear hC
    go_wp2
    go_ret;exact ⟨F2.o,HW.o⟩
 ) : p := h
theorem Z7_21 {p : Prop} (h : p := by
  obtain rfl : sg=true := HSG.o;clear HSG;by_cases hr0 : 0 < r
  . have e0 : (true && decide (0 < r))=true := by rw [decide_eq_true hr0]; rfl
    rw [e0] at HW;rw [e0,if_pos rfl] at hf;clear e0;by_cases h : -9223372036854775808<=z/\z<=9223372036854775807
    . have HY := LH9 (fun W => HY.o Q1 (Nat.le_refl _) true W (by rw [<- hf]; exact h.1) (by rw [<- hf]; exact h.2));rw [fitR_yes rfl h.1 h.2];rw [HX.o Q1 (Nat.le_refl _),<- hf] at HY;clear HX HN hf h
      go_enter Tryz.func148,Tryz.ntmps148
      go_upto_region 1 with (fail);generalize w.alloc (.cells _ 166)=v at *;go_wp2_with fail;go_at_call 128;(with_reducible refine (HS.o _).mono ?_);rintro y w1 ⟨rfl,rfl⟩;go_wp2_with fail;go_at_call 150;(with_reducible refine (HD.o _).mono ?_);rintro y w1 ⟨rfl,b1⟩;have c2' := cu9 c2 b1;have HB1 := bt9 HB0 b1;clear HB0 b1;go_wp2_with fail
      try rw [HCN.o]
      try simp only [Bool.not_true,Bool.not_false]
      go_at_call 151;(with_reducible refine (HW.o _ _).mono ?_);rintro y w2 ⟨rfl,rfl⟩;clear c0 c1 c2 c2';have hw2 := hw.o;go_wp2_with fail;go_at_call 98;(with_reducible refine (HY.o _).mono ?_);rintro y w3 ⟨rfl,b3⟩;go_wp2_with fail;go_ret2;exact ⟨rfl,HB1.o.trans (b3.mono HB1.o.size)⟩
    . have HN := LH9 (fun W => HN.o Q1 (Nat.le_refl _) true W (by rw [<- hf]; exact h));rw [fitR_no h];rw [HX.o Q1 (Nat.le_refl _)] at HN;clear HX HY hf h
      go_enter Tryz.func148,Tryz.ntmps148
      go_upto_region 1 with (fail);generalize w.alloc (.cells _ 166)=v at *;go_wp2_with fail;go_at_call 128;(with_reducible refine (HS.o _).mono ?_);rintro y w1 ⟨rfl,rfl⟩;go_wp2_with fail;go_at_call 150;(with_reducible refine (HD.o _).mono ?_);rintro y w1 ⟨rfl,b1⟩;have c2' := cu9 c2 b1;have HB1 := bt9 HB0 b1;clear HB0 b1;go_wp2_with fail
      try rw [HCN.o]
      try simp only [Bool.not_true,Bool.not_false]
      go_at_call 151;(with_reducible refine (HW.o _ _).mono ?_);rintro y w2 ⟨rfl,rfl⟩;clear c0 c1 c2 c2';have hw2 := hw.o;go_wp2_with fail;go_at_call 98;(with_reducible refine (HN.o _).mono ?_);rintro y w3 ⟨⟨v3,rfl⟩,b3⟩;go_wp2_with fail;go_ret2;exact ⟨rfl,HB1.o.trans (b3.mono HB1.o.size)⟩
  . have e0 : (true && decide (0 < r))=false := by rw [decide_eq_false hr0]; rfl
    rw [e0] at HW;rw [e0,if_neg (by decide)] at hf;clear e0;by_cases h : -9223372036854775808<=z/\z<=9223372036854775807
    . have HY := LH9 (fun W => HY.o q HL.o true W (by rw [<- hf]; exact h.1) (by rw [<- hf]; exact h.2));rw [fitR_yes rfl h.1 h.2];rw [HX.o q HL.o,<- hf] at HY;clear HX HN hf h
      go_enter Tryz.func148,Tryz.ntmps148
      go_upto_region 1 with (fail);generalize w.alloc (.cells _ 166)=v at *;go_wp2_with fail;go_at_call 128;(with_reducible refine (HS.o _).mono ?_);rintro y w1 ⟨rfl,rfl⟩;go_wp2_with fail;go_at_call 150;(with_reducible refine (HD.o _).mono ?_);rintro y w1 ⟨rfl,b1⟩;have c2' := cu9 c2 b1;have HB1 := bt9 HB0 b1;clear HB0 b1;go_wp2_with fail
      try rw [HCN.o]
      try simp only [Bool.not_true,Bool.not_false]
      go_at_call 151;(with_reducible refine (HW.o _ _).mono ?_);rintro y w2 ⟨rfl,rfl⟩;clear c0 c1 c2 c2';go_wp2_with fail;go_at_call 98;(with_reducible refine (HY.o _).mono ?_);rintro y w3 ⟨rfl,b3⟩;go_wp2_with fail;go_ret2;exact ⟨rfl,HB1.o.trans (b3.mono HB1.o.size)⟩
    . have HN := LH9 (fun W => HN.o q HL.o true W (by rw [<- hf]; exact h));rw [fitR_no h];rw [HX.o q HL.o] at HN;clear HX HY hf h
      go_enter Tryz.func148,Tryz.ntmps148
      go_upto_region 1 with (fail);generalize w.alloc (.cells _ 166)=v at *;go_wp2_with fail;go_at_call 128;(with_reducible refine (HS.o _).mono ?_);rintro y w1 ⟨rfl,rfl⟩;go_wp2_with fail;go_at_call 150;(with_reducible refine (HD.o _).mono ?_);rintro y w1 ⟨rfl,b1⟩;have c2' := cu9 c2 b1;have HB1 := bt9 HB0 b1;clear HB0 b1;go_wp2_with fail
      try rw [HCN.o]
      try simp only [Bool.not_true,Bool.not_false]
      go_at_call 151;(with_reducible refine (HW.o _ _).mono ?_);rintro y w2 ⟨rfl,rfl⟩;clear c0 c1 c2 c2';go_wp2_with fail;go_at_call 98;(with_reducible refine (HN.o _).mono ?_);rintro y w3 ⟨⟨v3,rfl⟩,b3⟩;go_wp2_with fail;go_ret2;exact ⟨rfl,HB1.o.trans (b3.mono HB1.o.size)⟩
 ) : p := h
theorem Z7_22 {p : Prop} (h : p := by
  go_wp2_with fail;clear c0 c1 c2 c3
  go_loopw [4] (fun i wr => ∃ k : Nat,i=.int .i64 (k : Nat)/\k<=len2/\Hid (Below v.heap.size v wr)/\Hid (∀ (j : Nat) x,j < k->terms[j]?=some x->fitT x=true)) (fun i _ => len2 - (intOf i).toNat)
  case atStart => exact ⟨0,rfl,Nat.zero_le _,HW1.o,fun j x h => by omega⟩
  case round =>
   clear HW1;obtain ⟨k,rfl,hk,HB,HP⟩ := hrel;obtain ⟨c0,c1,c2,c3,-,-,-,-⟩ := blk4 (BX.o.below HB.o);by_cases hlt : k < len2
   . obtain ⟨b3,o3,cop3,cnm3,cex3,cte3,ca3,clen3,ccap3,cb3,clen4,ccap4,rfl,-,-,hxe,j1,j2,hSc,hTc,v0,v1,v2,v3⟩ := (HST.o.kept (Kept.of_below HB.o [])).at k hlt;have j1' : (k : Int) < (len2 : Int) := by omega
     have j0' : (0 : Int)<=(k : Int) := by omega
     have HC := LH9 (HI.o k _ hxe _ wr (RepT.mk' j1 j2 hSc hTc));have HNO := LH9 (HNT.o k _ hxe);have HXE : Hid (∀ x,terms[k]?=some x->x=Te.mk cop3 cnm3 cex3 cte3) := fun x hx => by rw [hxe] at hx; injection hx with hx; exact hx.symm
     clear hxe j1 j2 hSc hTc;generalize Te.mk cop3 cnm3 cex3 cte3=c at *;go_wp2_with fail;go_at_call 12;(with_reducible refine HC.o.mono ?_);rintro y w2 ⟨rfl,b2⟩;have HB2 := bt9 HB b2;clear b2 HC v0 v1 v2 v3 c0 c1 c2 c3 HB
     cases hf : fitT c
     . have hR : R=false := HNO.o hf;have HBW := bu9 HB0 HB2;clear hf HNO HNT HY HI HP;subst hR;go_wp2_with fail;go_ret;exact ⟨rfl,HBW.o⟩
     . have FIN : Hid (∀ (j : Nat) x,j < k + 1->terms[j]?=some x->fitT x=true) := fun j x hj hx => by
        rcases Nat.eq_or_lt_of_le (Nat.le_of_lt_succ hj) with rfl | h
        . rw [HXE.o x hx]; exact hf
        . exact HP.o j x h hx
       clear hf HNO HP HXE;go_wp2_with fail;go_roundw
       case rel => exact ⟨k + 1,by go_num,by omega,HB2.o,FIN.o⟩
       case measure => simp [intOf]; omega
   . have hk9 : ¬ (k : Int) < (len2 : Int) := by omega
     have hR : R=true := HY.o HX.o (fun j x hx => HP.o j x (by have := (List.getElem?_eq_some_iff.1 hx).1; have := HL2.o; omega) hx);have HBW := bu9 HB0 HB;clear HNT HY HI HP HX HB;subst hR;go_wp2_with fail;go_ret;exact ⟨rfl,HBW.o⟩
 ) : p := h
theorem Z7_23 {p : Prop} (h : p := by
  have HP2 := LH9 h1.symm;have HQ2 := LH9 h2.symm;clear h1 h2 HP1 HQ1 HP HQQ
  cases p with
  | false =>
    cases q with
    | false =>
      go_wp2_with fail;go_roundw
      case rel => exact ⟨k + 1,_,_,rfl,rfl,by go_num,by have := HLT.o; omega,HB4.o,HP2.o,HQ2.o⟩
      case measure => simp [intOf]; have := HLT.o; omega
    | true =>
      go_wp2_with fail;go_roundw
      case rel => exact ⟨k + 1,_,_,rfl,rfl,by go_num,by have := HLT.o; omega,HB4.o,HP2.o,HQ2.o⟩
      case measure => simp [intOf]; have := HLT.o; omega
  | true =>
    cases q with
    | false =>
      go_wp2_with fail;go_roundw
      case rel => exact ⟨k + 1,_,_,rfl,rfl,by go_num,by have := HLT.o; omega,HB4.o,HP2.o,HQ2.o⟩
      case measure => simp [intOf]; have := HLT.o; omega
    | true =>
      go_wp2_with fail;go_roundw
      case rel => exact ⟨k + 1,_,_,rfl,rfl,by go_num,by have := HLT.o; omega,HB4.o,HP2.o,HQ2.o⟩
      case measure => simp [intOf]; have := HLT.o; omega
 ) : p := h
theorem Z7_24 {p : Prop} (h : p := by
  subst hop;go_upto_region 3 with (fail);clear z0 z2 y0 q4 f4;have d1 : w3.cell? ⟨rb,2,none⟩=some vP := HJ3.o.run.cells.cell 2;obtain ⟨c0,c1,c2,c3,c4,c5,c6⟩ := blk7 B3'.o;refine wp_region_any (by kernel_rfl) ?_;refine ak 0 ?_;refine any_of_till (n := 7) (S := fun W => W.cell? ⟨rb,2,none⟩=some vP/\W.cell? ⟨w.heap.size,0,none⟩=some (.int .i64 f)/\W.cell? ⟨w.heap.size,1,none⟩=some (.bool tn)/\W.cell? ⟨w.heap.size,2,none⟩=some (.slice ua un.length uc)/\W.cell? ⟨w.heap.size,3,none⟩=some (.int .i64 6)/\W.cell? ⟨w.heap.size,4,none⟩=some (.string nm)/\W.cell? ⟨w.heap.size,5,none⟩=some (.slice (some ⟨b,o,none⟩) 1 xc)/\W.cell? ⟨w.heap.size,6,none⟩=some (.slice (some ⟨tb,hto,none⟩) tl tc)) _ _ _ _ ?_;refine tk 1 ⟨d1,c0,c1,c2,c3,c4,c5,c6⟩ ?_;refine tk 2 ⟨d1,c0,c1,c2,c3,c4,c5,c6⟩ ?_;refine tk 3 ⟨d1,c0,c1,c2,c3,c4,c5,c6⟩ ?_;refine tk 4 ⟨d1,c0,c1,c2,c3,c4,c5,c6⟩ ?_;refine tk 5 ⟨d1,c0,c1,c2,c3,c4,c5,c6⟩ ?_;refine t19 6 (fun K' hK=>?_);go_simp;have hbn : Below w3.heap.size w3 (w3.alloc (.cells #[.int .i64 f,.bool tn,.slice ua un.length uc,.int .i64 6,.string nm,.slice (some ⟨b,o,none⟩) 1 xc,.slice (some ⟨tb,hto,none⟩) tl tc] 88)).drew := (below_nT w3 (.cells #[.int .i64 f,.bool tn,.slice ua un.length uc,.int .i64 6,.string nm,.slice (some ⟨b,o,none⟩) 1 xc,.slice (some ⟨tb,hto,none⟩) tl tc] 88)).drew;have HB2 := LH9 (HJ3.o.trans (HJ3.o.run.below hbn));have BZ := LH9 (Mem.Blk.new w3 88 #[.int .i64 f,.bool tn,.slice ua un.length uc,.int .i64 6,.string nm,.slice (some ⟨b,o,none⟩) 1 xc,.slice (some ⟨tb,hto,none⟩) tl tc]).drew;refine hK _ _ ⟨cu9 d1 hbn,cu9 c0 hbn,cu9 c1 hbn,cu9 c2 hbn,cu9 c3 hbn,cu9 c4 hbn,cu9 c5 hbn,cu9 c6 hbn⟩ ?_;clear hK K' hbn d1 c0 c1 c2 c3 c4 c5 c6;generalize (w3.alloc (.cells _ 88)).drew=w5 at *;generalize w3.heap.size=zz at *
  try simp only [Act.put,zp1,zp2,zp3,zp4,zp5,zp6]
  refine tl9 (fun K' hK=>?_);obtain ⟨csl,hGr⟩ := HB2.o.run.sep.at 0 rfl;have hRp := HB2.o.rep (K := ptK) HPT.o;refine step_ap infoPt Tryz.underlying35 rfl (by decide) rfl (.tmp 23) (.tmp 25) rfl rfl hGr.own hGr.room ⟨zz,0,none⟩ 1 1 [.int .i64 f,.bool tn,.slice ua un.length uc,.int .i64 6,.string nm,.slice (some ⟨b,o,none⟩) 1 xc,.slice (some ⟨tb,hto,none⟩) tl tc] rfl rfl (fun m u hm => by rw [Mem.add0,BZ.o.cell]; simpa using hm) (by simp [Value.oneCell']) (by have := HSM.o; unfold maxLen; omega) (by have := HSM.o; omega) ?_;intro v' w6 og gg hv';obtain ⟨gP,capn,rfl,-,-,-,-⟩ := own_form og (by omega);have MB := (HB2.o.run.sep.push 0 rfl hGr (x := ⟨f,tn,un,t⟩) (c := [.int .i64 f,.bool tn,.slice ua un.length uc,.int .i64 6,.string nm,.slice (some ⟨b,o,none⟩) 1 xc,.slice (some ⟨tb,hto,none⟩) tl tc]) (by rw [owns_famR]; exact hRp) og gg hv').blk 2 rfl;have m4 : w6.cell? ⟨rb,2,none⟩=some vP := MB.cell 2;have m5 : w6.frozen? ⟨rb,2,none⟩=false := MB.frozen 2;have HB3 := LH9 (HB2.o.trans (HB2.o.run.pushP hGr (x := ⟨f,tn,un,t⟩) (c := [.int .i64 f,.bool tn,.slice ua un.length uc,.int .i64 6,.string nm,.slice (some ⟨b,o,none⟩) 1 xc,.slice (some ⟨tb,hto,none⟩) tl tc]) hRp og gg hv'));clear HB2 hGr og gg hv' BZ hRp MB;refine hK _ _ ?_;clear hK K'
  try simp only [Act.put,zp1,zp2,zp3,zp4,zp5,zp6]
  refine ak 8 ?_;refine ak 9 ?_;refine any_one (i := 10) (by kernel_rfl) rfl (fun K' hK => ?_);go_simp;refine hK _ _ ?_;clear hK K' m4 m5;refine wd9 ?_;go_wp2_with fail
  go_end0
  exact ⟨rfl,_,vF,by rw [HSP.o]; exact HB3.o⟩
 ) : p := h
theorem Z7_25 {p : Prop} (h : p := by
  refine tl9 (fun K' hK=>?_);go_simp;refine hK _ _ ?_;clear hK K'
  try simp only [Act.put,zp1,zp2,zp3,zp4,zp5,zp6]
  refine wd9 ?_;go_wp2_with fail;generalize (w2.setCell ⟨w.heap.size + 1 + 1,0,none⟩ (.string rk)).setCell ⟨w.heap.size + 1 + 1,1,none⟩ (.int .i64 rn)=W9 at *;obtain ⟨r0,r1,-,-⟩ := HFN.o.2.two;refine bodyPost_ret (v := .agg #[.string rk,.int .i64 rn]) (by simp [results,Tryz.results32,go_sem,r0,r1]) rfl ⟨HP.o,HFN.o.1⟩
 ) : p := h
theorem Z7_26 {p : Prop} (h : p := by
  have hpf := AhJ.pushP (x := ⟨f,tn,un,t⟩) HB4.o HS4.o HG.o HPT.o HO.o HGG.o HV9.o;have HFN := LH9 (AhJ.of (R := R) (n := t.nd + ndL rest) hpf.1 hpf.2 HE.o HGD.o HRO.o HND.o (by have := HSM.o; have := HND.o; show (s.ps ++ [_]).length + _<=_; rw [List.length_append,List.length_singleton]; omega) (by have := HSM.o; show s.fs.length + _<=_; omega));clear hpf HO HGG HV9 HS4 HB4 HG HPT;go_meet
  case rel => exact ⟨[],_,z0,rfl,HFN.o⟩
 ) : p := h
theorem Z7_27 {p : Prop} (h : p := by
  have HQ2 := LH9 (HQ1.o.below B12);have D1 := LH9 DS.o.1;have D2 := LH9 DS.o.2;generalize 2 * (A / 2 ^ (i + 1) % B) + A / 2 ^ i % 2=L2 at *;have HV2 := LH9 (HV.o.below HWW.o);by_cases hle : B<=L2
  . obtain ⟨cv,hcv,hcv0⟩ : ∃ cv,cmpN L2 B=cv/\0<=cv := ⟨_,rfl,by unfold cmpN; rw [if_neg (by omega)]; split <;> decide⟩;have HCV := LH9 hcv;have HLE := LH9 hle;clear hcv hle;refine (cmpm_any _ _ L2 B _ HR2.o HV2.o).mono ?_;rintro e w3 ⟨rfl,b3⟩;rw [HCV.o];go_wp2_with fail;refine (subf_any _ _ L2 B _ (HR2.o.below b3) (HV2.o.below b3) SL2.o.lt HLE.o).mono ?_;rintro e w4 ⟨⟨rb,rl,rc,rfl,hr4,hfr⟩,b4⟩;have hlt3 := (HQ2.o.below b3).lt;have HR4 : Hid (∀ uu,MagR (w4.setCell ⟨w.heap.size,i / 16,none⟩ uu).drew (.slice rb rl rc) (A / 2 ^ i % B)) := by
     show ∀ uu,MagR _ _ _;intro uu;obtain ⟨a5,l5,c5,d5,e5,m1,m2,m3⟩ := hr4
     cases e5
     rw [<- (D1.o HLE.o).1];exact ⟨_,_,_,_,rfl,m1.far (u := uu) (j := i / 16) (fun x hx => by have := hfr x hx; omega),m2,m3⟩
    clear hr4 hfr hlt3;have HQ4 := LH9 ((HQ2.o.below b3).below b4);have hqc : w4.cell? ⟨w.heap.size,i / 16,none⟩=some (.int .u64 (q.getD (i / 16) 0 : Nat)) := by
     rw [HQ4.o.cell]; simp [dv,List.getD_eq_getElem?_getD,List.getElem?_eq_getElem (show i / 16 < q.length by rw [HQL.o]; omega)]
    have hqf := HQ4.o.frozen (i / 16);go_wp2_with fail
    go_region
    have hqi : i / 16 < q.length := by rw [HQL.o]; omega
    obtain ⟨hb5,hb6⟩ := Big.Bits.set_ q i HB.o hqi;have HB5 := LH9 hb5;have HB6 := LH9 hb6;have HB7 := LH9 (Big.set_val q i hqi);clear hb5 hb6 hqi;go_wp2_with fail;go_roundw
    case rel =>
     refine ⟨i,q.set (i / 16) (q.getD (i / 16) 0 + 2 ^ (i % 16)),by go_num,by omega,HR4.o _,?_,?_,by show _=_; rw [List.length_set]; exact HQL.o,HB5,by show _=_; rw [HB7.o]; exact (D1.o HLE.o).2⟩
     . exact (((HWW.o.trans (b3.mono HWW.o.size)).trans (b4.mono (Nat.le_trans HWW.o.size b3.size))).setCell (Nat.le_refl _) _).drew
     . show Mem.Blk _ _ _ _;have h := (HQ4.o.set_ (i / 16) (.int .u64 (IntKind.u64.wrap (↑(q[i / 16]?.getD 0) + IntKind.u64.wrap (2 ^ (i % 16)))))).drew;rw [dv_set q (i / 16) (q.getD (i / 16) 0 + 2 ^ (i % 16)) _ ?_] at h
       . exact h
       . have h6 := HB6.o;have hc : ((2 ^ (i % 16) : Nat) : Int)=2 ^ (i % 16) := by simp
         rw [<- hc,List.getD_eq_getElem?_getD] at *;generalize 2 ^ (i % 16)=t at h6 ⊢;generalize q[i / 16]?.getD 0=y at h6 ⊢;simp only [IntKind.wrap_u64]; omega
    case measure => simp [intOf]
  . obtain ⟨cv,hcv,hcv0⟩ : ∃ cv,cmpN L2 B=cv/\cv < 0 := ⟨_,rfl,by unfold cmpN; rw [if_pos (by omega)]; decide⟩;have HCV := LH9 hcv;have HLE := LH9 (show L2 < B by omega);clear hcv hle;refine (cmpm_any _ _ L2 B _ HR2.o HV2.o).mono ?_;rintro e w3 ⟨rfl,b3⟩;rw [HCV.o];go_wp2_with fail;go_roundw
    case rel => exact ⟨i,q,by go_num,by omega,by show MagR _ _ _; rw [<- (D2.o HLE.o).1]; exact HR2.o.below b3,HWW.o.trans (b3.mono HWW.o.size),HQ2.o.below b3,HQL,HB.o.down,(D2.o HLE.o).2⟩
    case measure => simp [intOf]
 ) : p := h
theorem Z7_28 {p : Prop} (h : p := by
  clear hta9 htl9 hte hRT htX v0 v1 v2 v3
  go_enter Tryz.func38,Tryz.ntmps38
  go_upto_region 2 with (fail);generalize ((w.alloc (.cells #[.int .i64 pf,.bool pt,.slice ua p.til.length uc,.int .i64 5,.string nm,.slice xa xl xc,.slice ta tl tc] 88)).alloc (.cells #[.int .i64 0,.string ⟨#[]⟩,.slice none 0 0,.slice none 0 0] 41)).alloc (.cells #[.int .i64 5,.string nm,.slice xa xl xc,.slice ta tl tc] 41)=w3 at *;obtain ⟨y0,y1,y2,y3,-,-,-,-⟩ := blk4 (HS1.o.blk 0 rfl);obtain ⟨c0,c1,c2,c3,c4,c5,c6⟩ := blk7 (HS1.o.blk 2 rfl);have HJ3 := LH9 (HJ.o.below HB3.o);go_wp2_with fail;go_at_call 48;(with_reducible refine (HEN.o w3 HJ3.o.run (HJ3.o.slr HU.o)).mono ?_);rintro y w5 ⟨rfl,hj5,hf5⟩;have HJ5 := LH9 (HJ3.o.trans hj5);have HF5 := LH9 hf5;clear y0 y1 y2 y3 c0 c1 c2 c3 c4 c5 c6 hj5 hf5 HEN;rw [HEB.o];rw [HES2.o] at HJ5;have HS5 : Hid (Sep w5 (famQ w p pf pt ua uc 5 nm xa ta xl xc tl tc base rb day fx fa fl fc s vP vF)) := HS1.o.blkTo 5 rfl HF5.o.kept HJ5.o.run.cells;have q4 : w5.cell? ⟨rb,4,none⟩=some (.bool s.bad) := HJ5.o.run.cells.cell 4;rw [HBD.o] at q4;have HFR := LH9 HJ5.o.fr;obtain ⟨y0,y1,y2,y3,-,-,-,-⟩ := blk4 (HS5.o.blk 0 rfl);obtain ⟨c0,c1,c2,c3,c4,c5,c6⟩ := blk7 (HS5.o.blk 2 rfl);obtain ⟨v0,v1,v2,v3⟩ := HW.o;replace v0 := HJ5.o.fr.cell v0 HNX.o;replace v1 := HJ5.o.fr.cell v1 HNX.o;replace v2 := HJ5.o.fr.cell v2 HNX.o;replace v3 := HJ5.o.fr.cell v3 HNX.o;rw [HTA.o] at y3;have hlk := HLK.o;have hlk0 : 0 < tl := by omega
  obtain ⟨z0,z1,z2,z3,f0,f1,f2,f3⟩ := blk4 (HS5.o.blk 1 rfl);have HS9 := LH9 ((((HS5.o.store 1 rfl 0 (.int .i64 q1)).store 1 rfl 1 (.string q2)).store 1 rfl 2 (.slice q3 q4' q5)).store 1 rfl 3 (.slice q6 q7 q8));have HF9 := LH9 ((((HFR.o.setNew (p := ⟨w.heap.size + 1,0,none⟩) (by show w.heap.size<=w.heap.size + 1; omega) (.int .i64 q1)).setNew (p := ⟨w.heap.size + 1,1,none⟩) (by show w.heap.size<=w.heap.size + 1; omega) (.string q2)).setNew (p := ⟨w.heap.size + 1,2,none⟩) (by show w.heap.size<=w.heap.size + 1; omega) (.slice q3 q4' q5)).setNew (p := ⟨w.heap.size + 1,3,none⟩) (by show w.heap.size<=w.heap.size + 1; omega) (.slice q6 q7 q8));have HE2 := LH9 hE2;clear hE2;go_wp2_with fail;clear z0 z1 z2 z3;generalize (((w5.setCell ⟨w.heap.size + 1,0,none⟩ (.int .i64 q1)).setCell ⟨w.heap.size + 1,1,none⟩ (.string q2)).setCell ⟨w.heap.size + 1,2,none⟩ (.slice q3 q4' q5)).setCell ⟨w.heap.size + 1,3,none⟩ (.slice q6 q7 q8)=w9 at *;obtain ⟨r0,r1,r2,r3,-,-,-,-⟩ := blk4 (HS9.o.blk 1 rfl);have hrt : RunTo base rb day fx fa fl fc w w9 vP vF s vP vF := RunTo.of HJ.o (((HS9.o.drop 0).drop 0).drop 0) HF9.o;refine bodyPost_ret (v := .tuple #[.agg #[.int .i64 q1,.string q2,.slice q3 q4' q5,.slice q6 q7 q8],.int .i64 0]) (by simp [results,Tryz.results38,go_sem,r0,r1,r2,r3]) rfl ⟨_,_,_,_,_,_,_,_,by rw [<- HE.o,HE2.o],HF9.o,fun h0 => ⟨hrt,_,HTE.o,hrt.rep (K := teK) HRK.o⟩⟩
 ) : p := h
theorem Z7_29 {p : Prop} (h : p := by
  have xt1 : W1.cell? ⟨g1,1,none⟩=some (.int .i64 0) := VB.o.blk.cell 1;obtain ⟨q0,q1,q2,q3⟩ := ST3.o.res.two;have hm := ST3.o.lt;have HFN : Hid (Below w.heap.size w ((W1.setCell ⟨w.heap.size + 1 + 1,0,none⟩ (.string ⟨#[63]⟩)).setCell ⟨w.heap.size + 1 + 1,1,none⟩ (.int .i64 0))/\Mem.Blk ((W1.setCell ⟨w.heap.size + 1 + 1,0,none⟩ (.string ⟨#[63]⟩)).setCell ⟨w.heap.size + 1 + 1,1,none⟩ (.int .i64 0)) (w.heap.size + 1 + 1) 97 #[.string ⟨#[63]⟩,.int .i64 0]) := ⟨(ST3.o.below.setCell (by show w.heap.size<=w.heap.size + 1 + 1; omega) _).setCell (by show w.heap.size<=w.heap.size + 1 + 1; omega) _,(ST3.o.res.set_ 0 _).set_ 1 _⟩;go_wp2_with fail;generalize (W1.setCell ⟨w.heap.size + 1 + 1,0,none⟩ (.string ⟨#[63]⟩)).setCell ⟨w.heap.size + 1 + 1,1,none⟩ (.int .i64 0)=W9 at *;obtain ⟨r0,r1,-,-⟩ := HFN.o.2.two;refine bodyPost_ret (v := .agg #[.string ⟨#[63]⟩,.int .i64 0]) (by simp [results,Tryz.results32,go_sem,r0,r1]) rfl ⟨rfl,HFN.o.1⟩
 ) : p := h
theorem Z7_30 {p : Prop} (h : p := by
  clear b2;generalize R.K=rk at *;generalize R.N=rn at *;generalize R.B=rb at *
  try clear e0 e1 x0 x1 x2 x3
  have HFN := LH9 (ret3 (.int .i64 rk) (.int .i64 rn) (.bool rb) ST2.o.below (by omega : w.heap.size<=w.heap.size + 1 + 1) ST2.o.res);obtain ⟨q0,q1,q2,q3,q4,q5⟩ := blk3 ST2.o.res;have hm := ST2.o.lt;go_wp2_with fail;generalize ((w2.setCell ⟨w.heap.size + 1 + 1,0,none⟩ (.int .i64 rk)).setCell ⟨w.heap.size + 1 + 1,1,none⟩ (.int .i64 rn)).setCell ⟨w.heap.size + 1 + 1,2,none⟩ (.bool rb)=W9 at *;obtain ⟨r0,r1,r2,-,-,-⟩ := blk3 HFN.o.2;refine bodyPost_ret (v := .agg #[.int .i64 rk,.int .i64 rn,.bool rb]) (by simp [results,Tryz.results96,go_sem,r0,r1,r2]) rfl ⟨HP.o,HFN.o.1⟩
 ) : p := h
theorem Z7_31 {p : Prop} (h : p := by
  go_wp2_with fail;generalize (w2.setCell ⟨w.heap.size + 1 + 1,0,none⟩ (.string rk)).setCell ⟨w.heap.size + 1 + 1,1,none⟩ (.int .i64 rn)=W9 at *;obtain ⟨r0,r1,-,-⟩ := HFN.o.2.two;refine bodyPost_ret (v := .agg #[.string rk,.int .i64 rn]) (by simp [results,Tryz.results32,go_sem,r0,r1]) rfl ⟨HP.o,HFN.o.1⟩
 ) : p := h
theorem Z7_32 {p : Prop} (h : p := by
  go_wp2_with (first | (refine list_bs rfl rfl rfl ?_; simp only [Act.put,zp1,zp2,zp3,zp4,zp5,zp6]) | (at_builtin; refine ap_row infoRP9 Tryz.underlying46 rfl (by decide) rfl (.tmp 124) (.tmp 126) rfl rfl HG.o.own HG.o.room ⟨w5.heap.size,0,none⟩ 1 1 [.int .i64 f,.bool tn,.slice pa til.length pc,.int .i64 op,.string nm,.slice xa xl xc,.slice ka kl kc] rfl rfl (lit_cells_at w5 #[.int .i64 f,.bool tn,.slice pa til.length pc,.int .i64 op,.string nm,.slice xa xl xc,.slice ka kl kc] 53 _ rfl) (by simp [Value.oneCell']) (by have := HTL.o; unfold maxLen; omega) (by have := HTL.o; omega) ?_; intro v' w7 o' g' h'; have HO := LH9 o'; have HGG := LH9 g'; have HV9 := LH9 h'; clear o' g' h'));have hpu := (HS6.o.push 1 rfl HG.o HPR.o HO.o HGG.o HV9.o).drop 0;have HS7 : Hid (Sep w7 (famO w.heap.size w.heap.size #[.slice aE es.length cE,.slice aN (nds es).length cN,.slice aD (rks es).length cD,.slice (some ⟨bT,oT,none⟩) ts.length cT,.slice aM (ndsT ts).length cM,.slice aP (rksT ts).length cP] (L.take (k + 1)) v')) := by rw [HLK2.o]; exact hpu
  have HB7 := LH9 (HB6.o.grown HGG.o HB6.o.size (fun b hb => (HG.o.blt hb).1));clear hpu HO HGG HV9 HG HS6 HB6 HPR c0 c1 c2 c3 c4 c5 c6;go_roundw
  case rel => exact ⟨k + 1,rfl,by go_num,by have := HLT.o; omega,.inr ⟨by omega,by omega⟩,HB7.o,HS7.o⟩
  case measure => simp [intOf]; have := HLT.o; omega
 ) : p := h
theorem Z7_33 {p : Prop} (h : p := by
  have t0 : W0.cell? ⟨g,0,none⟩=some (.int .i64 3) := VA.o.blk.cell 0;have t1 : W0.cell? ⟨g,1,none⟩=some (.int .i64 0) := VA.o.blk.cell 1;have t2 : W0.cell? ⟨g,2,none⟩=some (.bool false) := VA.o.blk.cell 2;obtain ⟨e0,e1,-,-⟩ := ST0.o.env.two;obtain ⟨x0,x1,x2,x3,-,-,-,-⟩ := blk4 ST0.o.ex;have HFN := LH9 (ret3 (.int .i64 3) (.int .i64 0) (.bool false) ST0.o.below (by omega : w.heap.size<=w.heap.size + 1 + 1) ST0.o.res);obtain ⟨q0,q1,q2,q3,q4,q5⟩ := blk3 ST0.o.res;have hm := ST0.o.lt;go_wp2_with fail;generalize ((W0.setCell ⟨w.heap.size + 1 + 1,0,none⟩ (.int .i64 3)).setCell ⟨w.heap.size + 1 + 1,1,none⟩ (.int .i64 0)).setCell ⟨w.heap.size + 1 + 1,2,none⟩ (.bool false)=W9 at *;obtain ⟨r0,r1,r2,-,-,-⟩ := blk3 HFN.o.2;refine bodyPost_ret (v := .agg #[.int .i64 3,.int .i64 0,.bool false]) (by simp [results,Tryz.results96,go_sem,r0,r1,r2]) rfl ⟨rfl,HFN.o.1⟩
 ) : p := h
theorem Z7_34 {p : Prop} (h : p := by
  try simp only [Act.put,zp1,zp2,zp3,zp4,zp5,zp6]
  refine tl9 (fun K' hK=>?_);refine step_ap infoE Tryz.underlying29 rfl (by decide) rfl (.tmp 106) (.tmp 111) rfl rfl HG5.o.own HG5.o.room ⟨z,0,none⟩ 1 1 [.int .i64 xo,.int .i64 xn,.string xs,.slice aa al ac] rfl rfl (fun m u hm => by rw [Mem.add0,BZ.o.cell]; simpa using hm) (by simp [Value.oneCell']) (by have := HSM.o; unfold maxLen; omega) (by have := HSM.o; omega) ?_;intro v' w6 og gg hv';have HFIN : ∃ a9 c9,v'=.slice a9 U9.length c9/\Hid (SlR exK (w6.setCell ⟨w.heap.size,2,none⟩ v') (X3 rb vP vF) U9 a9 U9.length c9)/\Hid (Sep w6 (bx g1 41 #[.int .i64 8,.string nm,.slice (some ⟨b,o,none⟩) 1 xc,.slice (some ⟨tb,hto,none⟩) tl tc] :: bx w.heap.size 88 #[.int .i64 f,.bool tn,.slice ua un.length uc,.int .i64 8,.string nm,.slice (some ⟨b,o,none⟩) 1 xc,.slice (some ⟨tb,hto,none⟩) tl tc] :: famR base rb day fx fa fl fc s vP vF))/\Hid (Fr (X3 rb vP vF) w w6) := by
   have hRb : exK.R w5 (busy v (w.heap.size :: X3 rb vP vF)) (x0 t) [.int .i64 xo,.int .i64 xn,.string xs,.slice aa al ac] := by
    have h1 : RepE w3 (busy v (w.heap.size :: X3 rb vP vF)) (x0 t) [.int .i64 xo,.int .i64 xn,.string xs,.slice aa al ac] := HX3.o.less (fun b hb hm => by
     rcases busy_mem.1 hm with h2 | h2
     . have := (HG5.o.blt h2).1; omega
     . exact h2)
    exact h1.kept (Kept.of_below HB5.o _)
   have hG6 := HG5.o.push hRb og gg hv';have hB6 : Below w3.heap.size w3 w6 := HB5.o.grown gg HB5.o.size (fun b hb => (HG5.o.blt hb).1);obtain ⟨a9,c9,rfl,hS⟩ := hG6.slR;have e9 : (un ++ [x0 t]).length=U9.length := by rw [HU9.o]
   rw [e9] at hS ⊢;rw [<- HU9.o] at hS;refine ⟨a9,c9,rfl,?_,HS3.o.below hB6,HR3.o.trans (Fr.of_below hB6 _)⟩;exact (hS.kept (Kept.setCell w6 (p := ⟨w.heap.size,2,none⟩) (List.mem_cons_self ..) _)).less (fun b _ hm => List.mem_cons_of_mem _ hm)
  obtain ⟨a9,c9,rfl,HUU,HS6,HF6⟩ := HFIN;have m4 : w6.cell? ⟨w.heap.size,2,none⟩=some (.slice ua un.length uc) := (HS6.o.blk 1 rfl).cell 2;have m5 : w6.frozen? ⟨w.heap.size,2,none⟩=false := (HS6.o.blk 1 rfl).frozen 2;have HS7 := LH9 (HS6.o.store 1 rfl 2 (.slice a9 U9.length c9));have HF7 := LH9 (HF6.o.setNew (p := ⟨w.heap.size,2,none⟩) (Nat.le_refl _) (.slice a9 U9.length c9));clear HG5 og gg hv' BZ HB5;refine hK _ _ ?_;clear hK K'
  try simp only [Act.put,zp1,zp2,zp3,zp4,zp5,zp6]
  refine ak 9 ?_;refine any_one (i := 10) (by kernel_rfl) rfl (fun K' hK => ?_);go_simp;refine hK _ _ ?_;clear hK K' m4 m5;refine wd9 ?_;go_wp2_with fail;go_meet
  case rel => exact ⟨a9,c9,rfl,HUU.o,HS7.o,HF7.o⟩
 ) : p := h
theorem Z7_35 {p : Prop} (h : p := by
  clear hr
  go_enter Tryz.func38,Tryz.ntmps38
  go_upto_region 2 with (fail);generalize ((w.alloc (.cells #[.int .i64 pf,.bool pt,.slice ua p.til.length uc,.int .i64 5,.string nm,.slice xa xl xc,.slice ta tl tc] 88)).alloc (.cells #[.int .i64 0,.string ⟨#[]⟩,.slice none 0 0,.slice none 0 0] 41)).alloc (.cells #[.int .i64 5,.string nm,.slice xa xl xc,.slice ta tl tc] 41)=w3 at *;obtain ⟨y0,y1,y2,y3,-,-,-,-⟩ := blk4 (HS1.o.blk 0 rfl);obtain ⟨c0,c1,c2,c3,c4,c5,c6⟩ := blk7 (HS1.o.blk 2 rfl);have HJ3 := LH9 (HJ.o.below HB3.o);go_wp2_with fail;go_at_call 48;(with_reducible refine (HEN.o w3 HJ3.o.run (HJ3.o.slr HU.o)).mono ?_);rintro y w5 ⟨rfl,hj5,hf5⟩;have HJ5 := LH9 (HJ3.o.trans hj5);have HF5 := LH9 hf5;clear y0 y1 y2 y3 c0 c1 c2 c3 c4 c5 c6 hj5 hf5 HEN;rw [HEB.o];rw [HES2.o] at HJ5;have HS5 : Hid (Sep w5 (famQ w p pf pt ua uc 5 nm xa ta xl xc tl tc base rb day fx fa fl fc s vP vF)) := HS1.o.blkTo 5 rfl HF5.o.kept HJ5.o.run.cells;have q4 : w5.cell? ⟨rb,4,none⟩=some (.bool s.bad) := HJ5.o.run.cells.cell 4;rw [HBD.o] at q4;have HFR := LH9 HJ5.o.fr;obtain ⟨y0,y1,y2,y3,-,-,-,-⟩ := blk4 (HS5.o.blk 0 rfl);obtain ⟨c0,c1,c2,c3,c4,c5,c6⟩ := blk7 (HS5.o.blk 2 rfl);obtain ⟨y0,y1,y2,y3,-,-,-,-⟩ := blk4 (HS5.o.blk 0 rfl);obtain ⟨z0,z1,z2,z3,f0,f1,f2,f3⟩ := blk4 (HS5.o.blk 1 rfl);have HS9 := LH9 ((((HS5.o.store 1 rfl 0 (.int .i64 5)).store 1 rfl 1 (.string nm)).store 1 rfl 2 (.slice xa xl xc)).store 1 rfl 3 (.slice ta tl tc));have HF9 := LH9 ((((HFR.o.setNew (p := ⟨w.heap.size + 1,0,none⟩) (by show w.heap.size<=w.heap.size + 1; omega) (.int .i64 5)).setNew (p := ⟨w.heap.size + 1,1,none⟩) (by show w.heap.size<=w.heap.size + 1; omega) (.string nm)).setNew (p := ⟨w.heap.size + 1,2,none⟩) (by show w.heap.size<=w.heap.size + 1; omega) (.slice xa xl xc)).setNew (p := ⟨w.heap.size + 1,3,none⟩) (by show w.heap.size<=w.heap.size + 1; omega) (.slice ta tl tc));have HE2 := LH9 hE2;clear hE2;go_wp2_with fail;clear z0 z1 z2 z3;generalize (((w5.setCell ⟨w.heap.size + 1,0,none⟩ (.int .i64 5)).setCell ⟨w.heap.size + 1,1,none⟩ (.string nm)).setCell ⟨w.heap.size + 1,2,none⟩ (.slice xa xl xc)).setCell ⟨w.heap.size + 1,3,none⟩ (.slice ta tl tc)=w9 at *;obtain ⟨r0,r1,r2,r3,-,-,-,-⟩ := blk4 (HS9.o.blk 1 rfl);refine bodyPost_ret (v := .tuple #[.agg #[.int .i64 5,.string nm,.slice xa xl xc,.slice ta tl tc],.int .i64 1]) (by simp [results,Tryz.results38,go_sem,r0,r1,r2,r3]) rfl ⟨_,_,_,_,_,_,_,_,by rw [<- HE.o,HE2.o],HF9.o,fun h0 => ?_⟩;have h1 := HE.o;have h2 := HE2.o;omega
 ) : p := h
theorem Z7_36 {p : Prop} (h : p := by
  rw [fitR_yes rfl h.1 h.2];rw [HX.o q HL.o,<- hf] at HY;clear HX HN hf h
  go_enter Tryz.func148,Tryz.ntmps148
  go_upto_region 1 with (fail);generalize w.alloc (.cells _ 166)=v at *;go_wp2_with fail;go_at_call 128;(with_reducible refine (HS.o _).mono ?_);rintro y w1 ⟨rfl,rfl⟩;go_wp2_with fail;go_at_call 150;(with_reducible refine (HD.o _).mono ?_);rintro y w1 ⟨rfl,b1⟩;have c2' := cu9 c2 b1;have HB1 := bt9 HB0 b1;clear HB0 b1;go_wp2_with fail
  try rw [HCN.o]
  try simp only [Bool.not_true,Bool.not_false]
  go_at_call 151;(with_reducible refine (HW.o _ _).mono ?_);rintro y w2 ⟨rfl,rfl⟩;clear c0 c1 c2 c2';go_wp2_with fail;go_at_call 98;(with_reducible refine (HY.o _).mono ?_);rintro y w3 ⟨rfl,b3⟩;go_wp2_with fail;go_ret2;exact ⟨rfl,HB1.o.trans (b3.mono HB1.o.size)⟩
 ) : p := h
theorem Z7_37 {p : Prop} (h : p := by
  rw [fitR_no h];rw [HX.o q HL.o] at HN;clear HX HY hf h
  go_enter Tryz.func148,Tryz.ntmps148
  go_upto_region 1 with (fail);generalize w.alloc (.cells _ 166)=v at *;go_wp2_with fail;go_at_call 128;(with_reducible refine (HS.o _).mono ?_);rintro y w1 ⟨rfl,rfl⟩;go_wp2_with fail;go_at_call 150;(with_reducible refine (HD.o _).mono ?_);rintro y w1 ⟨rfl,b1⟩;have c2' := cu9 c2 b1;have HB1 := bt9 HB0 b1;clear HB0 b1;go_wp2_with fail
  try rw [HCN.o]
  try simp only [Bool.not_true,Bool.not_false]
  go_at_call 151;(with_reducible refine (HW.o _ _).mono ?_);rintro y w2 ⟨rfl,rfl⟩;clear c0 c1 c2 c2';go_wp2_with fail;go_at_call 98;(with_reducible refine (HN.o _).mono ?_);rintro y w3 ⟨⟨v3,rfl⟩,b3⟩;go_wp2_with fail;go_ret2;exact ⟨rfl,HB1.o.trans (b3.mono HB1.o.size)⟩
 ) : p := h
theorem Z7_38 {p : Prop} (h : p := by
  go_wp2_with fail;generalize ((w2.setCell ⟨w.heap.size + 1 + 1,0,none⟩ (.int .i64 rk)).setCell ⟨w.heap.size + 1 + 1,1,none⟩ (.int .i64 rn)).setCell ⟨w.heap.size + 1 + 1,2,none⟩ (.bool rb)=W9 at *;obtain ⟨r0,r1,r2,-,-,-⟩ := blk3 HFN.o.2;refine bodyPost_ret (v := .agg #[.int .i64 rk,.int .i64 rn,.bool rb]) (by simp [results,Tryz.results96,go_sem,r0,r1,r2]) rfl ⟨HP.o,HFN.o.1⟩
 ) : p := h
theorem Z7_39 {p : Prop} (h : p := by
  have hB0 := HS7.o.blk 0 rfl;obtain ⟨r0,r1,r3,r4⟩ := hB0.two;have hrl := hB0.lt;have HRP := LH9 (HR7.o.put2 (x := .bool (decide (ZZ < 0))) (y := .slice a2 len2 cap2) (HS7.o.blk 0 rfl));have HBN := LH9 ((hB0.set_ 0 (.bool (decide (ZZ < 0)))).set_ 1 (.slice a2 len2 cap2));have hbw := T.o.trans (HB7.o.mono T.o.size);have HBW := LH9 ((hbw.setCell (p := ⟨w.heap.size + 1 + 1,0,none⟩) (by show w.heap.size<=w.heap.size + 1 + 1; omega) (.bool (decide (ZZ < 0)))).setCell (p := ⟨w.heap.size + 1 + 1,1,none⟩) (by show w.heap.size<=w.heap.size + 1 + 1; omega) (.slice a2 len2 cap2));clear hB0 hbw;go_wp2_with fail;generalize (w7.setCell ⟨w.heap.size + 1 + 1,0,none⟩ (.bool (decide (ZZ < 0)))).setCell ⟨w.heap.size + 1 + 1,1,none⟩ (.slice a2 len2 cap2)=W9 at *;obtain ⟨g5,g6,-,-⟩ := (show Mem.Blk W9 (w.heap.size + 1 + 1) 122 #[.bool (decide (ZZ < 0)),.slice a2 len2 cap2] from HBN.o).two;exact bodyPost_ret (v := .agg #[.bool (decide (ZZ < 0)),.slice a2 len2 cap2]) (by simp [results,Tryz.results110,go_sem,g5,g6]) rfl ⟨⟨_,rfl,HRP.o⟩,HBW.o⟩
 ) : p := h
theorem Z7_40 {p : Prop} (h : p := by
  refine hK _ _ ?_;clear hK K'
  try simp only [Act.put,zp1,zp2,zp3,zp4,zp5,zp6]
  refine wd9 ?_;go_wp2_with fail;go_meet
  case rel => exact ⟨z,rfl,HS9.o,HV9.o⟩
 ) : p := h
theorem Z7_41 {p : Prop} (h : p := by
  obtain rfl : R=.unk := HR.o;have t0 : W0.cell? ⟨g,0,none⟩=some (.int .i64 0) := VA.o.blk.cell 0;have t1 : W0.cell? ⟨g,1,none⟩=some (.int .i64 0) := VA.o.blk.cell 1;have t2 : W0.cell? ⟨g,2,none⟩=some (.bool false) := VA.o.blk.cell 2;obtain ⟨e0,e1,-,-⟩ := ST0.o.env.two;obtain ⟨x0,x1,x2,x3,-,-,-,-⟩ := blk4 ST0.o.ex;have HFN := LH9 (ret3 (.int .i64 0) (.int .i64 0) (.bool false) ST0.o.below (by omega : w.heap.size<=w.heap.size + 1 + 1) ST0.o.res);obtain ⟨q0,q1,q2,q3,q4,q5⟩ := blk3 ST0.o.res;have hm := ST0.o.lt;go_wp2_with fail;generalize ((W0.setCell ⟨w.heap.size + 1 + 1,0,none⟩ (.int .i64 0)).setCell ⟨w.heap.size + 1 + 1,1,none⟩ (.int .i64 0)).setCell ⟨w.heap.size + 1 + 1,2,none⟩ (.bool false)=W9 at *;obtain ⟨r0,r1,r2,-,-,-⟩ := blk3 HFN.o.2;refine bodyPost_ret (v := .agg #[.int .i64 0,.int .i64 0,.bool false]) (by simp [results,Tryz.results96,go_sem,r0,r1,r2]) rfl ⟨rfl,HFN.o.1⟩
 ) : p := h
theorem Z7_42 {p : Prop} (h : p := by
  have hbw5 := HBW.o.trans (HB5.o.mono HBW.o.size);have hrc := rchoose_any day1 fx1 f1 l1 c1 [zed ⟨f,tn,un,t⟩] (some ⟨w5.heap.size,0,none⟩) 1 1 0 0 tn _ D1.o (by unfold I64; omega) ((H3.o.kept (Kept.of_below hbw5 [])).kept (Kept.of_below hbn [])) hsq (by omega) (fun p hp => by rw [List.mem_singleton] at hp; subst hp; exact HZO.o);rw [HZE.o] at hrc;have HRC := LH9 hrc;have e2 := cu9 e0 hbn;have e3 := cu9 e1 hbn;have s1 := cu9 r1 hbn;have HB6 := bt9 HB5 hbn;clear hzt hzl hbn hsq hbw5 hrc HS5 HB5 hqn hq;go_wp2_with (first | (refine list_bs rfl rfl rfl ?_; simp only [Act.put,zp1,zp2,zp3,zp4,zp5,zp6]) | fail);go_at_call 20;(with_reducible refine HRC.o.mono ?_);rintro y w6 ⟨hy,b6⟩;obtain ⟨ta,tl9,tc,sa9,sn9,sc9,rfl⟩ := hy.three;have HB7 := bt9 HB6 b6;have HB8 := bu9 HB HB7;clear hy b6 HB6 HRC e0 e1 e2 e3 s1 r0 r1 r2 r3 r4 r5 r6 x6;by_cases hC0 : C=0
  . have hy := HYES.o hC0;obtain ⟨hl3,ob,oo,hoa,q0⟩ := i64_at (HO4.o.kept (Kept.of_below HB8.o [])) (HGET.o hC0);have hl4 : (((chC day1 fx1 L k).length : Nat) : Int) < (on : Int) := by omega
    have hl5 : (0 : Int)<=(((chC day1 fx1 L k).length : Nat) : Int) := by omega
    have hlen : (chC day1 fx1 L (k + 1)).length=(chC day1 fx1 L k).length + 1 := by rw [hy,List.length_append,List.length_singleton]
    have HLE := LH9 hlen;subst hC0;subst hoa;clear hy hlen hl3;go_wp2_with fail;go_roundw
    case rel => exact ⟨k + 1,by rw [HLE.o]; go_num,by go_num,by have := HLT.o; omega,HB8.o⟩
    case measure => simp [intOf]; have := HLT.o; omega
  . have hy := HNO.o hC0;have hn0 : (C == 0)=false := beq_eq_false_iff_ne.2 hC0;have HLE := LH9 hy;clear hC0 hy;go_wp2_with fail;go_roundw
    case rel => exact ⟨k + 1,by rw [HLE.o],by go_num,by have := HLT.o; omega,HB8.o⟩
    case measure => simp [intOf]; have := HLT.o; omega
 ) : p := h
theorem Z7_43 {p : Prop} (h : p := by
  obtain ⟨r0,r1,-,-⟩ := HFN.o.2.two;refine bodyPost_ret (v := .agg #[.string rk,.int .i64 rn]) (by simp [results,Tryz.results32,go_sem,r0,r1]) rfl ⟨HP.o,HFN.o.1⟩
 ) : p := h
theorem Z7_44 {p : Prop} (h : p := by
  obtain ⟨q0,q1,q2,q3⟩ := HJ2.o.st.res.two;have hm := HJ2.o.st.lt;have HFN : Hid (Below w.heap.size w ((w2.setCell ⟨w.heap.size + 1 + 1,0,none⟩ (.string ⟨#[110]⟩)).setCell ⟨w.heap.size + 1 + 1,1,none⟩ (.int .i64 m))/\Mem.Blk ((w2.setCell ⟨w.heap.size + 1 + 1,0,none⟩ (.string ⟨#[110]⟩)).setCell ⟨w.heap.size + 1 + 1,1,none⟩ (.int .i64 m)) (w.heap.size + 1 + 1) 97 #[.string ⟨#[110]⟩,.int .i64 m]) := ⟨(HJ2.o.st.below.setCell (by show w.heap.size<=w.heap.size + 1 + 1; omega) _).setCell (by show w.heap.size<=w.heap.size + 1 + 1; omega) _,(HJ2.o.st.res.set_ 0 _).set_ 1 _⟩;go_wp2_with fail;generalize (w2.setCell ⟨w.heap.size + 1 + 1,0,none⟩ (.string ⟨#[110]⟩)).setCell ⟨w.heap.size + 1 + 1,1,none⟩ (.int .i64 m)=W9 at *;obtain ⟨r0,r1,-,-⟩ := HFN.o.2.two;refine bodyPost_ret (v := .agg #[.string ⟨#[110]⟩,.int .i64 m]) (by simp [results,Tryz.results32,go_sem,r0,r1]) rfl ⟨rfl,HFN.o.1⟩
 ) : p := h
theorem Z7_45 {p : Prop} (h : p := by
  obtain ⟨bb,o,rfl,hbb,hc⟩ := (HL.o.below hbel).at k hlt;have hx := HD.o.getD k;have HS2 := LH9 (HS.o out k b hb HK.o HI.o);have hD : Hid (Big.Dig (out ++ [(65536 + l.getD k 0 - b - l'.getD k 0) % 65536])) := by
   refine HG.o.append ?_;intro d hd; simp at hd; subst hd; exact Nat.mod_lt _ (by decide)
  have hy := HD'.o.getD k;by_cases hlt' : k < len'
  . obtain ⟨bb',o',rfl,hbb',hc'⟩ := (HL'.o.below hbel).at k hlt';clear HS HD HD';generalize l.getD k 0=x at *;generalize l'.getD k 0=y at *;go_wp2_with (at_builtin; refine Mem.ap infoU64 Tryz.underlying120 rfl (by decide) rfl (.tmp 32) (.tmp 35) rfl rfl (HO.o.alloc _) ⟨wr.heap.size,0,none⟩ 1 1 (dv [(65536 + x - b - y) % 65536]) rfl rfl (digs_cells _ _ _ (by omega)) (dv_one _) (by rw [mlen]; omega) (by omega) ?_; intro v' w' o' _ _ _; rw [dv_app] at o');go_roundw
    case rel => exact ⟨k + 1,1 - (65536 + x - b - y) / 65536,out ++ [(65536 + x - b - y) % 65536],by go_num,by congr 1; omega,by omega,by omega,o',by show _=_; rw [List.length_append,HK.o]; rfl,hD,HS2.o⟩
    case measure => simp [intOf]; omega
  . have e0 := getD_end l' k (by rw [H1'.o]; omega);rw [e0] at HS2 hD;clear HS HD HD' e0 hy;generalize l.getD k 0=x at *;go_wp2_with (at_builtin; refine Mem.ap infoU64 Tryz.underlying120 rfl (by decide) rfl (.tmp 32) (.tmp 35) rfl rfl (HO.o.alloc _) ⟨wr.heap.size,0,none⟩ 1 1 (dv [(65536 + x - b - 0) % 65536]) rfl rfl (digs_cells _ _ _ (by omega)) (dv_one _) (by rw [mlen]; omega) (by omega) ?_; intro v' w' o' _ _ _; rw [dv_app] at o');go_roundw
    case rel => exact ⟨k + 1,1 - (65536 + x - b - 0) / 65536,out ++ [(65536 + x - b - 0) % 65536],by go_num,by congr 1; omega,by omega,by omega,o',by show _=_; rw [List.length_append,HK.o]; rfl,hD,HS2.o⟩
    case measure => simp [intOf]; omega
 ) : p := h
theorem Z7_46 {p : Prop} (h : p := by
  obtain ⟨q0,q1,q2,q3⟩ := ST0.o.res.two;have hm := ST0.o.lt;have HFN : Hid (Below w.heap.size w ((W0.setCell ⟨w.heap.size + 1 + 1,0,none⟩ (.string ⟨#[33]⟩)).setCell ⟨w.heap.size + 1 + 1,1,none⟩ (.int .i64 0))/\Mem.Blk ((W0.setCell ⟨w.heap.size + 1 + 1,0,none⟩ (.string ⟨#[33]⟩)).setCell ⟨w.heap.size + 1 + 1,1,none⟩ (.int .i64 0)) (w.heap.size + 1 + 1) 97 #[.string ⟨#[33]⟩,.int .i64 0]) := ⟨(ST0.o.below.setCell (by show w.heap.size<=w.heap.size + 1 + 1; omega) _).setCell (by show w.heap.size<=w.heap.size + 1 + 1; omega) _,(ST0.o.res.set_ 0 _).set_ 1 _⟩;go_wp2_with fail;generalize (W0.setCell ⟨w.heap.size + 1 + 1,0,none⟩ (.string ⟨#[33]⟩)).setCell ⟨w.heap.size + 1 + 1,1,none⟩ (.int .i64 0)=W9 at *;obtain ⟨r0,r1,-,-⟩ := HFN.o.2.two;refine bodyPost_ret (v := .agg #[.string ⟨#[33]⟩,.int .i64 0]) (by simp [results,Tryz.results32,go_sem,r0,r1]) rfl ⟨rfl,HFN.o.1⟩
 ) : p := h
theorem Z7_47 {p : Prop} (h : p := by
  have q4 : w5.cell? ⟨rb,4,none⟩=some (.bool s.bad) := HJ5.o.run.cells.cell 4;rw [HBD.o] at q4;have HFR := LH9 HJ5.o.fr;obtain ⟨y0,y1,y2,y3,-,-,-,-⟩ := blk4 (HS5.o.blk 0 rfl);obtain ⟨c0,c1,c2,c3,c4,c5,c6⟩ := blk7 (HS5.o.blk 2 rfl);obtain ⟨y0,y1,y2,y3,-,-,-,-⟩ := blk4 (HS5.o.blk 0 rfl);obtain ⟨z0,z1,z2,z3,f0,f1,f2,f3⟩ := blk4 (HS5.o.blk 1 rfl);have HS9 := LH9 ((((HS5.o.store 1 rfl 0 (.int .i64 9)).store 1 rfl 1 (.string nm)).store 1 rfl 2 (.slice xa xl xc)).store 1 rfl 3 (.slice ta tl tc));have HF9 := LH9 ((((HFR.o.setNew (p := ⟨w.heap.size + 1,0,none⟩) (by show w.heap.size<=w.heap.size + 1; omega) (.int .i64 9)).setNew (p := ⟨w.heap.size + 1,1,none⟩) (by show w.heap.size<=w.heap.size + 1; omega) (.string nm)).setNew (p := ⟨w.heap.size + 1,2,none⟩) (by show w.heap.size<=w.heap.size + 1; omega) (.slice xa xl xc)).setNew (p := ⟨w.heap.size + 1,3,none⟩) (by show w.heap.size<=w.heap.size + 1; omega) (.slice ta tl tc));have HE2 := LH9 hE2;clear hE2;go_wp2_with fail;clear z0 z1 z2 z3;generalize (((w5.setCell ⟨w.heap.size + 1,0,none⟩ (.int .i64 9)).setCell ⟨w.heap.size + 1,1,none⟩ (.string nm)).setCell ⟨w.heap.size + 1,2,none⟩ (.slice xa xl xc)).setCell ⟨w.heap.size + 1,3,none⟩ (.slice ta tl tc)=w9 at *;obtain ⟨r0,r1,r2,r3,-,-,-,-⟩ := blk4 (HS9.o.blk 1 rfl);refine bodyPost_ret (v := .tuple #[.agg #[.int .i64 9,.string nm,.slice xa xl xc,.slice ta tl tc],.int .i64 15]) (by simp [results,Tryz.results38,go_sem,r0,r1,r2,r3]) rfl ⟨_,_,_,_,_,_,_,_,by rw [<- HE.o,HE2.o],HF9.o,fun h0 => ?_⟩;have h1 := HE.o;have h2 := HE2.o;omega
 ) : p := h
theorem Z7_48 {p : Prop} (h : p := by
  have q4 : w5.cell? ⟨rb,4,none⟩=some (.bool s.bad) := HJ5.o.run.cells.cell 4;rw [HBD.o] at q4;have HFR := LH9 HJ5.o.fr;obtain ⟨y0,y1,y2,y3,-,-,-,-⟩ := blk4 (HS5.o.blk 0 rfl);obtain ⟨c0,c1,c2,c3,c4,c5,c6⟩ := blk7 (HS5.o.blk 2 rfl);obtain ⟨y0,y1,y2,y3,-,-,-,-⟩ := blk4 (HS5.o.blk 0 rfl);obtain ⟨z0,z1,z2,z3,f0,f1,f2,f3⟩ := blk4 (HS5.o.blk 1 rfl);have HS9 := LH9 ((((HS5.o.store 1 rfl 0 (.int .i64 5)).store 1 rfl 1 (.string nm)).store 1 rfl 2 (.slice xa xl xc)).store 1 rfl 3 (.slice ta tl tc));have HF9 := LH9 ((((HFR.o.setNew (p := ⟨w.heap.size + 1,0,none⟩) (by show w.heap.size<=w.heap.size + 1; omega) (.int .i64 5)).setNew (p := ⟨w.heap.size + 1,1,none⟩) (by show w.heap.size<=w.heap.size + 1; omega) (.string nm)).setNew (p := ⟨w.heap.size + 1,2,none⟩) (by show w.heap.size<=w.heap.size + 1; omega) (.slice xa xl xc)).setNew (p := ⟨w.heap.size + 1,3,none⟩) (by show w.heap.size<=w.heap.size + 1; omega) (.slice ta tl tc));have HE2 := LH9 hE2;clear hE2;go_wp2_with fail;clear z0 z1 z2 z3;generalize (((w5.setCell ⟨w.heap.size + 1,0,none⟩ (.int .i64 5)).setCell ⟨w.heap.size + 1,1,none⟩ (.string nm)).setCell ⟨w.heap.size + 1,2,none⟩ (.slice xa xl xc)).setCell ⟨w.heap.size + 1,3,none⟩ (.slice ta tl tc)=w9 at *;obtain ⟨r0,r1,r2,r3,-,-,-,-⟩ := blk4 (HS9.o.blk 1 rfl);refine bodyPost_ret (v := .tuple #[.agg #[.int .i64 5,.string nm,.slice xa xl xc,.slice ta tl tc],.int .i64 15]) (by simp [results,Tryz.results38,go_sem,r0,r1,r2,r3]) rfl ⟨_,_,_,_,_,_,_,_,by rw [<- HE.o,HE2.o],HF9.o,fun h0 => ?_⟩;have h1 := HE.o;have h2 := HE2.o;omega
 ) : p := h
theorem Z7_49 {p : Prop} (h : p := by
  have xt2 : W1.cell? ⟨g1,2,none⟩=some (.bool false) := VB.o.blk.cell 2;obtain ⟨e0,e1,-,-⟩ := ST1.o.env.two;obtain ⟨x0,x1,x2,x3,-,-,-,-⟩ := blk4 ST1.o.ex;have HFN := LH9 (ret3 (.int .i64 0) (.int .i64 0) (.bool false) ST1.o.below (by omega : w.heap.size<=w.heap.size + 1 + 1) ST1.o.res);obtain ⟨q0,q1,q2,q3,q4,q5⟩ := blk3 ST1.o.res;have hm := ST1.o.lt;go_wp2_with fail;generalize ((W1.setCell ⟨w.heap.size + 1 + 1,0,none⟩ (.int .i64 0)).setCell ⟨w.heap.size + 1 + 1,1,none⟩ (.int .i64 0)).setCell ⟨w.heap.size + 1 + 1,2,none⟩ (.bool false)=W9 at *;obtain ⟨r0,r1,r2,-,-,-⟩ := blk3 HFN.o.2;refine bodyPost_ret (v := .agg #[.int .i64 0,.int .i64 0,.bool false]) (by simp [results,Tryz.results96,go_sem,r0,r1,r2]) rfl ⟨rfl,HFN.o.1⟩
 ) : p := h
theorem Z7_50 {p : Prop} (h : p := by
  have HU2 : Hid (true=(VS ++ [Vl.unk]).any (fun v => decide (v=.unk))) := by
   show true=_;rw [any_snoc,<- HUU.o]; rfl
  have HN2 : Hid ((VS ++ [Vl.unk]).any (fun v => decide (v=.brk))=false) := by
   show _=false;rw [any_snoc,HNB.o]; rfl
  have t0 : W0.cell? ⟨z,0,none⟩=some (.string ⟨#[63]⟩) := (HK.o.sep.blk 0 rfl).cell 0;have t1 : W0.cell? ⟨z,1,none⟩=some (.int .i64 0) := (HK.o.sep.blk 0 rfl).cell 1;have bn := (Below.refl W0.heap.size W0).alloc (Nat.le_refl _) (.cells #[.string ⟨#[63]⟩,.int .i64 0] 97);have HK2 := LH9 (HK.o.up bn);obtain ⟨csl,hGr⟩ := (HK.o.up bn).sep.at 1 rfl;have HG := LH9 hGr;clear hGr bn HK HUU HNB;go_upto_region 21 with (at_builtin; refine ap_row infoW Tryz.underlying133 rfl (by decide) rfl (.tmp 118) (.tmp 120) rfl rfl HG.o.own HG.o.room ⟨W0.heap.size,0,none⟩ 1 1 [.string ⟨#[63]⟩,.int .i64 0] rfl rfl (lit_cells_at W0 #[.string ⟨#[63]⟩,.int .i64 0] 97 _ rfl) (by simp [Value.oneCell']) (by have := HLK.o; unfold maxLen; omega) (by have := HLK.o; omega) ?_; intro v1 w1 o1 g1 hv1; have HJ3 := LH9 (HK2.o.push (x := Vl.unk) HG.o o1 g1 hv1); clear o1 g1 hv1 HK2 HG);rw [<- HTK.o] at HU2 HN2 HJ3;clear t0 t1;go_wp2_with fail;go_roundw
  case rel => exact ⟨k + 1,true,by go_num,rfl,by omega,HU2.o,HN2.o,HJ3.o⟩
  case measure => simp [intOf]; omega
 ) : p := h
theorem Z7_51 {p : Prop} (h : p := by
  go_enter Tryz.func56,Tryz.ntmps56
  go_wp2_with fail;go_quiet ((go_at_call 87; exact quiet_left (HAR.o _)))
  go_wp2
  go_ret;exact ⟨F.o,below_drewN HW0.o _⟩
 ) : p := h
theorem Z7_52 {p : Prop} (h : p := by
  go_upto_region 1 with (fail);generalize w.alloc (.cells _ 33)=v at *;have s3' := s3.o;have s4' := s4.o;have s5' := s5.o;have g0' := g0.o;have g1' := g1.o;have v0' := v0.o;have v1' := v1.o;have v2' := v2.o;have v3' := v3.o;simp only [List.getElem?_toArray,List.getElem?_cons_zero,List.getElem?_cons_succ] at s3' s4' s5';clear s3 s4 s5 g0 g1 v0 v1 v2 v3;go_wp2_with fail;go_ret;exact ⟨rfl,HW0.o⟩
 ) : p := h
theorem Z7_53 {p : Prop} (h : p := by
  obtain ⟨r0,r1,-,-⟩ := HFN.o.2.two;refine bodyPost_ret (v := .agg #[.string ⟨#[33]⟩,.int .i64 0]) (by simp [results,Tryz.results32,go_sem,r0,r1]) rfl ⟨rfl,HFN.o.1⟩
 ) : p := h
theorem Z7_54 {p : Prop} (h : p := by
  go_enter Tryz.func104,Tryz.ntmps104
  go_wp2_with fail;go_quiet ((go_at_call 131; exact quiet_left (HAR.o _)))
  go_wp2
  go_ret;exact ⟨F.o,below_drewN HW0.o _⟩
 ) : p := h
theorem Z7_55 {p : Prop} (h : p := by
  have y0 : w5.cell? ⟨mb,0,none⟩=some (.int .i64 0) := (HS5.o.blk 0 rfl).cell 0;have y1 : w5.cell? ⟨mb,1,none⟩=some (.string ⟨#[]⟩) := (HS5.o.blk 0 rfl).cell 1;have y2 : w5.cell? ⟨mb,2,none⟩=some (.slice none 0 0) := (HS5.o.blk 0 rfl).cell 2;have y3 : w5.cell? ⟨mb,3,none⟩=some (.slice none 0 0) := (HS5.o.blk 0 rfl).cell 3;have z0 : w5.frozen? ⟨mb,0,none⟩=false := (HS5.o.blk 0 rfl).frozen 0;have z1' : w5.frozen? ⟨mb,1,none⟩=false := (HS5.o.blk 0 rfl).frozen 1;have z2 : w5.frozen? ⟨mb,2,none⟩=false := (HS5.o.blk 0 rfl).frozen 2;have z3 : w5.frozen? ⟨mb,3,none⟩=false := (HS5.o.blk 0 rfl).frozen 3;have HS9 := LH9 ((((HS5.o.store 0 rfl 0 (.int .i64 1)).store 0 rfl 1 (.string ⟨#[]⟩)).store 0 rfl 2 (.slice none 0 0)).store 0 rfl 3 (.slice none 0 0));have HB9 := LH9 ((((HB5.o.setCell (p := ⟨mb,0,none⟩) HMB.o (.int .i64 1)).setCell (p := ⟨mb,1,none⟩) HMB.o (.string ⟨#[]⟩)).setCell (p := ⟨mb,2,none⟩) HMB.o (.slice none 0 0)).setCell (p := ⟨mb,3,none⟩) HMB.o (.slice none 0 0));clear HS5 HB5;go_wp2_with fail;go_roundw
  case rel => exact ⟨0 + 1,rfl,by omega,HB9.o,HS9.o⟩
  case measure => simp [intOf]
 ) : p := h
theorem Z7_56 {p : Prop} (h : p := by
  have F := LH9 (HF.o false (by rw [HB.o,HX.o,show ((0 : Int) == (len : Nat))=false by rw [beq_eq_false_iff_ne]; omega]; rfl));have t1 : ((len : Int) != 0)=true := by rw [bne_iff_ne]; omega
  clear hL
  go_enter Tryz.func29,Tryz.ntmps29
  go_wp2
  go_ret;exact ⟨F.o,HW0.o⟩
 ) : p := h
theorem Z7_57 {p : Prop} (h : p := by
  have he2 : nm.toList.isEmpty=false := by rw [he]; rfl
  have he3 : (!nm.toList.isEmpty)=true := by rw [he2]; rfl
  have F := LH9 (HF.o false (by rw [HB.o,he2,g2,g2']; simp));clear he
  go_enter Tryz.func29,Tryz.ntmps29
  go_wp2
  go_ret;exact ⟨F.o,HW0.o⟩
 ) : p := h
theorem Z7_58 {p : Prop} (h : p := by
  go_wp2_with fail;refine (HC.o _ (below_drewN HW0.o _)).mono ?_; rintro x w1 ⟨rfl,b1⟩
  go_wp2
  go_ret;exact ⟨by rw [<- F.o]; simp,(below_drewN HW0.o _).trans (b1.mono (below_drewN HW0.o _).size)⟩
 ) : p := h
theorem Z7_59 {p : Prop} (h : p := by
  obtain ⟨r0,r1,-,-⟩ := HFN.o.2.two;refine bodyPost_ret (v := .agg #[.string ⟨#[63]⟩,.int .i64 0]) (by simp [results,Tryz.results32,go_sem,r0,r1]) rfl ⟨rfl,HFN.o.1⟩
 ) : p := h
theorem Z7_60 {p : Prop} (h : p := by
  have HP : Hid (RetV R (.returned (.agg #[.int .i64 R.K,.int .i64 R.N,.bool R.B]))) := rfl;have xt0 : W1.cell? ⟨g1,0,none⟩=some (.int .i64 R.K) := VB.o.blk.cell 0;have xt1 : W1.cell? ⟨g1,1,none⟩=some (.int .i64 R.N) := VB.o.blk.cell 1;have xt2 : W1.cell? ⟨g1,2,none⟩=some (.bool R.B) := VB.o.blk.cell 2;clear HCA HCB;generalize R.K=rk at *;generalize R.N=rn at *;generalize R.B=rb at *;have HFN := LH9 (ret3 (.int .i64 rk) (.int .i64 rn) (.bool rb) ST1.o.below (by omega : w.heap.size<=w.heap.size + 1 + 1) ST1.o.res);obtain ⟨q0,q1,q2,q3,q4,q5⟩ := blk3 ST1.o.res;have hm := ST1.o.lt;go_wp2_with fail;generalize ((W1.setCell ⟨w.heap.size + 1 + 1,0,none⟩ (.int .i64 rk)).setCell ⟨w.heap.size + 1 + 1,1,none⟩ (.int .i64 rn)).setCell ⟨w.heap.size + 1 + 1,2,none⟩ (.bool rb)=W9 at *;obtain ⟨r0,r1,r2,-,-,-⟩ := blk3 HFN.o.2;refine bodyPost_ret (v := .agg #[.int .i64 rk,.int .i64 rn,.bool rb]) (by simp [results,Tryz.results124,go_sem,r0,r1,r2]) rfl ⟨HP.o,HFN.o.1⟩
 ) : p := h
theorem Z7_61 {p : Prop} (h : p := by
  have t2 : W1.cell? ⟨g,2,none⟩=some (.bool false) := VA1.o.blk.cell 2;have xt0 : W1.cell? ⟨g1,0,none⟩=some (.int .i64 3) := VB.o.blk.cell 0;have xt1 : W1.cell? ⟨g1,1,none⟩=some (.int .i64 0) := VB.o.blk.cell 1;have xt2 : W1.cell? ⟨g1,2,none⟩=some (.bool false) := VB.o.blk.cell 2;obtain ⟨e0,e1,-,-⟩ := ST1.o.env.two;obtain ⟨x0,x1,x2,x3,-,-,-,-⟩ := blk4 ST1.o.ex;have HFN := LH9 (ret3 (.int .i64 3) (.int .i64 0) (.bool false) ST1.o.below (by omega : w.heap.size<=w.heap.size + 1 + 1) ST1.o.res);obtain ⟨q0,q1,q2,q3,q4,q5⟩ := blk3 ST1.o.res;have hm := ST1.o.lt;go_wp2_with fail;generalize ((W1.setCell ⟨w.heap.size + 1 + 1,0,none⟩ (.int .i64 3)).setCell ⟨w.heap.size + 1 + 1,1,none⟩ (.int .i64 0)).setCell ⟨w.heap.size + 1 + 1,2,none⟩ (.bool false)=W9 at *;obtain ⟨r0,r1,r2,-,-,-⟩ := blk3 HFN.o.2;refine bodyPost_ret (v := .agg #[.int .i64 3,.int .i64 0,.bool false]) (by simp [results,Tryz.results96,go_sem,r0,r1,r2]) rfl ⟨rfl,HFN.o.1⟩
 ) : p := h
theorem Z7_62 {p : Prop} (h : p := by
  obtain ⟨e0,e1,-,-⟩ := ST.o.env.two;obtain ⟨x0,x1,x2,x3,-,-,-,-⟩ := blk4 ST.o.ex;go_wp2_with fail;clear e0 e1 x0 x1 x2 x3;go_at_call 122;(with_reducible refine (number_any n true _).mono ?_);rintro y w2 ⟨hy,b2⟩;have hy' : y=.returned (.agg #[.int .i64 1,.int .i64 n,.bool false]) := hy;subst hy';have ST2 := LH9 (ST.o.up b2);clear b2 hy;have HFN := LH9 (ret3 (.int .i64 1) (.int .i64 n) (.bool false) ST2.o.below (by omega : w.heap.size<=w.heap.size + 1 + 1) ST2.o.res);obtain ⟨q0,q1,q2,q3,q4,q5⟩ := blk3 ST2.o.res;have hm := ST2.o.lt;go_wp2_with fail;generalize ((w2.setCell ⟨w.heap.size + 1 + 1,0,none⟩ (.int .i64 1)).setCell ⟨w.heap.size + 1 + 1,1,none⟩ (.int .i64 n)).setCell ⟨w.heap.size + 1 + 1,2,none⟩ (.bool false)=W9 at *;obtain ⟨r0,r1,r2,-,-,-⟩ := blk3 HFN.o.2;refine bodyPost_ret (v := .agg #[.int .i64 1,.int .i64 n,.bool false]) (by simp [results,Tryz.results96,go_sem,r0,r1,r2]) rfl ⟨rfl,HFN.o.1⟩
 ) : p := h
theorem Z7_63 {p : Prop} (h : p := by
  have t0 : w2.cell? ⟨z,0,none⟩=some (.int .i64 3) := BZ.o.cell 0;have t2 : w2.cell? ⟨z,2,none⟩=some (.bool false) := BZ.o.cell 2;have BZ3 := LH9 ((Fr.setCell w2 (X := [rb]) (p := ⟨rb,4,none⟩) (by simp) (.bool true)).blk BZ.o (by simpa using HNE.o));have HS : Hid (RunTo base rb day fx fa fl fc w (w2.setCell ⟨rb,4,none⟩ (.bool true)) vP vF (orB s .brk) vP vF) := by
   have e : orB s .brk={ s with bad := true } := by unfold orB; rw [<- HBD.o]; rfl
   rw [e];exact HJ2.o.trans (HJ2.o.run.setBad true)
  have HFR := LH9 ((Fr.of_below HB.o [rb]).trans (Fr.setCell w2 (X := [rb]) (p := ⟨rb,4,none⟩) (by simp) (.bool true)));go_upto_region 3 with (fail);generalize w2.setCell ⟨rb,4,none⟩ (.bool true)=w3 at *;clear t0 t2 q4 f4;have t0 : w3.cell? ⟨z,0,none⟩=some (.int .i64 3) := BZ3.o.cell 0;have t2 : w3.cell? ⟨z,2,none⟩=some (.bool false) := BZ3.o.cell 2;go_wp2_with fail;go_ret;exact ⟨rfl,HS.o,HFR.o⟩
 ) : p := h
theorem Z7_64 {p : Prop} (h : p := by
  obtain ⟨q0,q1,q2,q3⟩ := HJ.o.st.res.two;have hm := HJ.o.st.lt;have HFN : Hid (Below w.heap.size w ((wr.setCell ⟨w.heap.size + 1 + 1,0,none⟩ (.string ⟨#[110]⟩)).setCell ⟨w.heap.size + 1 + 1,1,none⟩ (.int .i64 n))/\Mem.Blk ((wr.setCell ⟨w.heap.size + 1 + 1,0,none⟩ (.string ⟨#[110]⟩)).setCell ⟨w.heap.size + 1 + 1,1,none⟩ (.int .i64 n)) (w.heap.size + 1 + 1) 97 #[.string ⟨#[110]⟩,.int .i64 n]) := ⟨(HJ.o.st.below.setCell (by show w.heap.size<=w.heap.size + 1 + 1; omega) _).setCell (by show w.heap.size<=w.heap.size + 1 + 1; omega) _,(HJ.o.st.res.set_ 0 _).set_ 1 _⟩;go_wp2_with fail;generalize (wr.setCell ⟨w.heap.size + 1 + 1,0,none⟩ (.string ⟨#[110]⟩)).setCell ⟨w.heap.size + 1 + 1,1,none⟩ (.int .i64 n)=W9 at *;obtain ⟨r0,r1,-,-⟩ := HFN.o.2.two;refine bodyPost_ret (v := .agg #[.string ⟨#[110]⟩,.int .i64 n]) (by simp [results,Tryz.results32,go_sem,r0,r1]) rfl ⟨rfl,HFN.o.1⟩
 ) : p := h
theorem Z7_65 {p : Prop} (h : p := by
  have F4 := LH9 (F3.o true (HT2.o (fun j y hy => HP.o j y (by have := (List.getElem?_eq_some_iff.1 hy).1; have := HL2.o; omega) hy)))
  go_wp2
  go_ret;exact ⟨F4.o,HW.o⟩
 ) : p := h
theorem Z7_66 {p : Prop} (h : p := by
  go_enter Tryz.func64,Tryz.ntmps64
  go_upto_region 1 with (fail);generalize w.alloc (.cells _ 41)=w1 at *;obtain ⟨c0,c1,c2,c3,-,-,-,-⟩ := blk4 B1.o;go_wp2_with fail;go_ret;exact ⟨rfl,HB.o⟩
 ) : p := h
theorem Z7_67 {p : Prop} (h : p := by
  rw [e1,e2];clear e1 e2 HF HN HI
  go_enter Tryz.func107,Tryz.ntmps107
  go_wp2
  go_ret2;exact ⟨rfl,rfl⟩
 ) : p := h
theorem Z7_68 {p : Prop} (h : p := by
  rw [<- HTK.o] at HU2 HN2 HJ3;clear t0 t1;go_wp2_with fail;go_roundw
  case rel => exact ⟨k + 1,true,by go_num,rfl,by omega,HU2.o,HN2.o,HJ3.o⟩
  case measure => simp [intOf]; omega
 ) : p := h
theorem Z7_69 {p : Prop} (h : p := by
  (with_reducible refine HIH.o.mono ?_);rintro y w2 ⟨rfl,b2⟩;have HW2 := bt9 HW b2;clear b2 HIH;unfold SzR;go_wp2_with fail;go_roundw
  case rel => exact ⟨k + 1,by rw [HT.o]; go_num,by rw [HK.o]; (first | go_num | (congr 1; omega) | (rw [Int.natCast_max]; go_num)),by go_num,by have := HLT.o; omega,HW2.o⟩
  case measure => simp [intOf]; have := HLT.o; omega
 ) : p := h
theorem Z7_70 {p : Prop} (h : p := by
  rw [if_neg (by decide)] at HR;obtain rfl := HR.o;clear HR;go_wp2_with fail;go_at_call 57;(with_reducible refine HA.o.mono ?_);rintro y w3 ⟨rfl,rfl⟩;go_wp2_with fail
  go_region
  go_wp2_with fail;go_ret;exact ⟨rfl,HF.o.drew⟩
 ) : p := h
theorem Z7_71 {p : Prop} (h : p := by
  rw [HVL.o] at hbad;have HFN : Hid (AqR w4 R (.returned (.tuple #[.slice none 0 0,.slice none 0 0,.bool false]))) := .inl ⟨hbad,rfl⟩;clear hbad;have z0' : w4.cell? ⟨z,0,none⟩=some (.string ⟨#[33]⟩) := BZ.o.cell 0;have z1' : w4.cell? ⟨z,1,none⟩=some (.int .i64 0) := BZ.o.cell 1;go_wp2_with fail;go_ret3;exact ⟨HFN.o,HB4.o⟩
 ) : p := h
theorem Z7_72 {p : Prop} (h : p := by
  show _=_;have h1 := HEC.o;have h2 : C=14 := HC.o.trans (by first | exact if_pos rfl | exact (if_neg (by first | (show ¬ (0 : Int)=3; omega) | (show ¬ (1 : Int)=3; omega) | (show ¬ (2 : Int)=3; omega))).trans (if_neg (by first | (show ¬ false=true; decide))));rw [h2,if_pos (by decide)] at h1;exact h1
 ) : p := h
theorem Z7_73 {p : Prop} (h : p := by
  rw [if_pos rfl] at HR;obtain rfl := HR.o;clear HR;go_wp2_with fail;go_at_call 57;(with_reducible refine HA.o.mono ?_);rintro y w3 ⟨rfl,rfl⟩;go_wp2_with fail;go_ret;exact ⟨rfl,HF.o⟩
 ) : p := h
theorem Z7_74 {p : Prop} (h : p := by
  have t2 : w3.cell? ⟨z,2,none⟩=some (.bool false) := BZ3.o.cell 2;go_wp2_with fail;go_ret;exact ⟨rfl,HS.o,HFR.o⟩
 ) : p := h
theorem Z7_75 {p : Prop} (h : p := by
  clear hf
  go_enter Tryz.func26,Tryz.ntmps26
  go_upto_region 1 with (fail);generalize w.alloc (.cells _ 41)=v at *;obtain ⟨c0,c1,c2,c3,-,-,-,-⟩ := blk4 BX.o;go_wp2_with fail;go_at_call 50;(with_reducible refine (HC.o _ HB0.o).mono ?_);rintro y w1 ⟨rfl,b1⟩;have HB1 := bt9 HB0 b1;have c0' := cu9 c0 b1;have c1' := cu9 c1 b1;have c2' := cu9 c2 b1;have c3' := cu9 c3 b1;clear c0 c1 c2 c3;go_wp2_with fail;go_at_call 51;(with_reducible refine (HK.o _ HB1.o).mono ?_);rintro y w2 ⟨rfl,b2⟩;have HB2 := bt9 HB1 b2;go_wp2_with fail;go_ret;exact ⟨rfl,HB2.o⟩
 ) : p := h
theorem Z7_76 {p : Prop} (h : p := by
  rw [e];clear e HE
  go_enter Tryz.func97,Tryz.ntmps97
  go_wp2_with fail;go_at_call 128;(with_reducible refine (HA.o _).mono ?_);rintro y w1 ⟨rfl,rfl⟩;go_wp2_with fail;go_at_call 128;(with_reducible refine (HB.o _).mono ?_);rintro y w1 ⟨rfl,rfl⟩;go_wp2_with fail;go_at_call 127;(with_reducible refine (HM.o _).mono ?_);rintro y w1 ⟨rfl,rfl⟩;go_wp2_with fail;refine bodyPost_ret (v := .agg #[.int .u64 (hi : Int),.int .u64 (lo : Int),.bool false]) (by simp [results,Tryz.results97,go_sem] <;> omega) rfl ⟨rfl,?_⟩;exact (Below.refl _ _).alloc (Nat.le_refl _) _
 ) : p := h
theorem Z7_77 {p : Prop} (h : p := by
  rw [e];clear e HE
  go_enter Tryz.func97,Tryz.ntmps97
  go_wp2_with fail;go_at_call 128;(with_reducible refine (HA.o _).mono ?_);rintro y w1 ⟨rfl,rfl⟩;go_wp2_with fail;go_at_call 128;(with_reducible refine (HB.o _).mono ?_);rintro y w1 ⟨rfl,rfl⟩;go_wp2_with fail;go_at_call 127;(with_reducible refine (HM.o _).mono ?_);rintro y w1 ⟨rfl,rfl⟩;go_wp2_with fail;refine bodyPost_ret (v := .agg #[.int .u64 (hi : Int),.int .u64 (lo : Int),.bool true]) (by simp [results,Tryz.results97,go_sem] <;> omega) rfl ⟨rfl,?_⟩;exact (Below.refl _ _).alloc (Nat.le_refl _) _
 ) : p := h
theorem Z7_78 {p : Prop} (h : p := by
  clear e
  go_enter Tryz.func6,Tryz.ntmps6
  go_upto_region 1 with (fail);generalize w.alloc (.cells _ 26)=v at *;obtain ⟨x0,x1,-,-⟩ := BX.o.two;go_wp2_with fail;go_ret;exact ⟨rfl,HB.o⟩
 ) : p := h
theorem Z7_79 {p : Prop} (h : p := by
  try simp only [Act.put,zp1,zp2,zp3,zp4,zp5,zp6]
  obtain ⟨t0,t1,t2,t3,t4,t5⟩ := blk3 BZ.o;refine tl9 (fun K' hK=>?_);go_simp;have HB9 := LH9 (((HB3.o.setCell (p := ⟨z,0,none⟩) HZ.o (.int .i64 v.K)).setCell (p := ⟨z,1,none⟩) HZ.o (.int .i64 v.N)).setCell (p := ⟨z,2,none⟩) HZ.o (.bool v.B));have BZ9 := LH9 (((BZ.o.set_ 0 (.int .i64 v.K)).set_ 1 (.int .i64 v.N)).set_ 2 (.bool v.B));refine hK _ _ ?_;clear hK K'
  try simp only [Act.put,zp1,zp2,zp3,zp4,zp5,zp6]
  refine wd9 ?_;go_wp2_with fail;go_meet
  case rel => exact ⟨z,rfl,HB9.o,HZ.o,BZ9.o⟩
 ) : p := h
theorem Z7_80 {p : Prop} (h : p := by
  try simp only [Act.put,zp1,zp2,zp3,zp4,zp5,zp6]
  obtain ⟨t0,t1,t2,t3,t4,t5⟩ := blk3 BZ.o;refine tl9 (fun K' hK=>?_);go_simp;have HB9 := LH9 (((HB3.o.setCell (p := ⟨z,0,none⟩) HZ.o (.int .i64 V.K)).setCell (p := ⟨z,1,none⟩) HZ.o (.int .i64 V.N)).setCell (p := ⟨z,2,none⟩) HZ.o (.bool V.B));have BZ9 := LH9 (((BZ.o.set_ 0 (.int .i64 V.K)).set_ 1 (.int .i64 V.N)).set_ 2 (.bool V.B));refine hK _ _ ?_;clear hK K'
  try simp only [Act.put,zp1,zp2,zp3,zp4,zp5,zp6]
  refine wd9 ?_;go_wp2_with fail;go_meet
  case rel => exact ⟨z,rfl,HB9.o,HZ.o,BZ9.o⟩
 ) : p := h
theorem Z7_81 {p : Prop} (h : p := by
  have HE9 : Hid (E=15) := by
   show _=_;have h1 := HEC.o;rw [hC,if_pos (by decide)] at h1;exact h1
  clear hC;go_wp2_with fail;go_ret3;exact ⟨RcR.err HE9.o (by decide),HB2.o⟩
 ) : p := h
theorem Z7_82 {p : Prop} (h : p := by
  have HE9 : Hid (E=1) := by
   show _=_;have h1 := HEC.o;rw [hC,if_pos (by decide)] at h1;exact h1
  clear hC;go_wp2_with fail;go_ret3;exact ⟨RcR.err HE9.o (by decide),HB2.o⟩
 ) : p := h
theorem Z7_83 {p : Prop} (h : p := by
  rcases Nat.lt_or_ge i l.length with hi | hi
  . rw [List.getElem?_append_left hi] at hy;rw [List.getElem?_append_left (by rw [h.count]; exact hi)] at hc;exact move _ _ (h.elts i y c hy hc)
  . rw [List.getElem?_append_right hi] at hy;rw [List.getElem?_append_right (by rw [h.count]; exact hi),h.count] at hc;have hil : i - l.length=0 := by
     have := (List.getElem?_eq_some_iff.1 hy).1; simp at this; exact this
    rw [hil] at hy hc;injection hy with hy; injection hc with hc;subst hy; subst hc;exact move _ _ hR
 ) : p := h
theorem Z7_84 {p : Prop} (h : p := by
  rw [eqv_no hp] at HC;clear hp;go_wp2_with fail
  go_still_tail 10,(by kernel_rfl)
  change wpList _ _ _ _ _ wr.drew;go_wp2_with fail;refine (HC.o _ HK.o).mono ?_; rintro r w1 ⟨rfl,b1⟩
  go_wp2
  go_ret;exact ⟨F.o,HWD.o.trans (b1.mono HWD.o.size)⟩
 ) : p := h
theorem Z7_85 {p : Prop} (h : p := by
  have h4' := h.len4 cs (List.mem_of_getElem? hi);have hjs : j < K.sz := by rw [<- h4']; exact (List.getElem?_eq_some_iff.1 hj).1
  have hi' : i < l.length := by rw [<- h.count]; exact (List.getElem?_eq_some_iff.1 hi).1
  rw [Nat.zero_add,h.own.cellAt (i * K.sz + j) (by calc i * K.sz + j < i * K.sz + K.sz := by omega
   _=(i + 1) * K.sz := by rw [Nat.add_mul]; omega
   _<=l.length * K.sz := Nat.mul_le_mul_right _ (by omega)),flat_get K.sz csl h.len4 i j cs hi hjs]
  exact hj
 ) : p := h
theorem Z7_86 {p : Prop} (h : p := by
  rw [hp] at HC;have HN2 : Hid (∀ j y,j < k + 1->l[j]?=some y->p y=false) := by
   intro j y hj hy;rcases Nat.lt_or_ge j k with h | h
   . exact HN.o j y h hy
   . obtain rfl : j=k := by omega
     rw [HLE.o] at hy; injection hy with hy; subst hy; exact hp
  clear hp;go_wp2_with fail;refine HC.o.mono ?_; rintro r w1 ⟨rfl,b1⟩
  go_wp2
  go_roundw
  case rel => exact ⟨k + 1,by go_num,by omega,HW.o.trans (b1.mono HW.o.size),HN2⟩
  case measure => simp [intOf]; omega
 ) : p := h
theorem Z7_87 {p : Prop} (h : p := by
  clear HB2 hGr og gg hv' BZ hRp MB;refine hK _ _ ?_;clear hK K'
  try simp only [Act.put,zp1,zp2,zp3,zp4,zp5,zp6]
  refine ak 8 ?_;refine ak 9 ?_;refine any_one (i := 10) (by kernel_rfl) rfl (fun K' hK => ?_);go_simp;refine hK _ _ ?_;clear hK K' m4 m5;refine wd9 ?_;go_wp2_with fail;go_roundw
  case rel => exact ⟨k + 1,_,vF,by go_num,by have := HLT.o; omega,by rw [<- HSN.o,HE.o]; exact HR9.o.trans HB3.o⟩
  case measure => simp [intOf]; have := HLT.o; omega
 ) : p := h
theorem Z7_88 {p : Prop} (h : p := by
  refine ⟨hj,⟨hg.os,hg.tape,hg.output,?_⟩,fun b hb => ⟨?_,hj.lt b hb⟩⟩
  . refine (Kept.trans (hk.more (X' := X3 rb vP vF) (fun b hb => by unfold X3; exact List.mem_append_left _ hb)) (Kept.setCell w1 (p := ⟨rb,2,none⟩) (by unfold X3; simp) v'))
  . unfold X3 at hb ⊢;rcases List.mem_append.1 hb with hb | hb
    . exact or_map (own_next hv b hb) (fun h => List.mem_append_left _ h) id
    . exact .inl (List.mem_append_right _ hb)
 ) : p := h
theorem Z7_89 {p : Prop} (h : p := by
  have F := LH9 (HF.o false (by rw [HB.o,show arX op=-1 by unfold arX; rw [if_neg (by omega),if_neg (by omega)]]; rw [show ((-1 : Int) == (len : Nat))=false by rw [beq_eq_false_iff_ne]; omega]; rfl));have g3 : (op == 3)=false := by simp; omega
  have g4 : (op == 4)=false := by simp; omega
  have g5 : (op == 5)=false := by simp; omega
  go_enter Tryz.func29,Tryz.ntmps29
  go_wp2
  go_ret;exact ⟨F.o,HW0.o⟩
 ) : p := h
theorem Z7_90 {p : Prop} (h : p := by
  go_wp2_with fail;refine (HC.o _ HW0.o).mono ?_; rintro x w1 ⟨rfl,b1⟩;have W1 := bt9 HW0 b1;have c3 : w1.cell? ⟨w.heap.size,3,none⟩=some (.slice a2 len2 cap2) := ((Mem.Blk.new w 41 #[.int .i64 _,.string nm,.slice a len cap,.slice a2 len2 cap2]).below b1).cell 3;go_wp2_with fail;refine (HC2.o _ W1.o).mono ?_; rintro x w2 ⟨rfl,b2⟩
  go_wp2
  go_ret;exact ⟨F.o,W1.o.trans (b2.mono W1.o.size)⟩
 ) : p := h
theorem Z7_91 {p : Prop} (h : p := by
  try simp only [Act.put,zp1,zp2,zp3,zp4,zp5,zp6]
  obtain ⟨t0,t1,t2,t3⟩ := (HK2.o.sep.blk 0 rfl).two;have hm := (HK2.o.sep.blk 0 rfl).lt;refine tl9 (fun K' hK=>?_);go_simp;have HK9 := LH9 (HK2.o.set2 (.string (wd A)) (.int .i64 A.N));refine hK _ _ ?_;clear hK K'
  try simp only [Act.put,zp1,zp2,zp3,zp4,zp5,zp6]
  refine wd9 ?_;go_wp2_with fail;go_meet
  case rel => exact ⟨z,rfl,HK9.o⟩
 ) : p := h
theorem Z7_92 {p : Prop} (h : p := by
  go_wp2_with fail;go_at_call 49;(with_reducible refine HWT.o.mono ?_);rintro y w7 ⟨rfl,vP',vF',hR9⟩;have HR7 := LH9 (HJ6.o.trans hR9);clear hR9 HWT c0 c1 c2 c3 c4 c5 c6 q4;go_wp2_with fail;go_roundw
  case rel => exact ⟨k + 1,vP',vF',by go_num,by have := HLT.o; omega,by rw [<- HSN.o,HE.o]; exact HR9.o.trans HR7.o⟩
  case measure => simp [intOf]; have := HLT.o; omega
 ) : p := h
theorem Z7_93 {p : Prop} (h : p := by
  intro o;refine ⟨.slice (some ⟨w.heap.size + 1,0,none⟩) (Big.trim (ofD n)).length 4,by first | (simp; omega) | simp,?_⟩;rw [e.o];have := (N1 o).take (Big.trim (ofD n)).length (trim_le (ofD n));rw [show [n % 65536,n / 65536 % 65536,n / 4294967296 % 65536,n / 281474976710656]=ofD n from rfl,<- trim_len] at this;have h := MagR.trim this HD.o;rw [HV.o] at h;exact h
 ) : p := h
theorem Z7_94 {p : Prop} (h : p := by
  rw [<- HTK.o] at HU2 HN2 HJ3;clear t0 t1;go_wp2_with fail;go_roundw
  case rel => exact ⟨k + 1,false,by go_num,rfl,by omega,HU2.o,HN2.o,HJ3.o⟩
  case measure => simp [intOf]; omega
 ) : p := h
theorem Z7_95 {p : Prop} (h : p := by
  rw [eqv_yes hp] at HC;clear hp;go_wp2_with fail
  go_still_tail 10,(by kernel_rfl)
  change wpList _ _ _ _ _ wr.drew;go_wp2_with fail;refine (HC.o _ HK.o).mono ?_; rintro r w1 ⟨rfl,b1⟩
  go_wp2
  go_roundw
  case rel => exact ⟨k + 1,by go_num,by omega,HWD.o.trans (b1.mono HWD.o.size),HXD.o.below b1,HYD.o.below b1,HN2⟩
  case measure => simp [intOf]; omega
 ) : p := h
theorem Z7_96 {p : Prop} (h : p := by
  go_wp2_with fail;refine (HI.o _ hk0.o).mono ?_; rintro x w1 ⟨rfl,b1⟩
  go_wp2
  go_ret;exact ⟨rfl,((Below.refl _ _).alloc (Nat.le_refl _) _).trans (b1.mono (by simp))⟩
 ) : p := h
theorem Z7_97 {p : Prop} (h : p := by
  clear HN;subst hn;go_wp2_with fail;go_roundw
  case rel => exact ⟨k + 1,true,_,_,by go_num,rfl,rfl,rfl,by omega,HX.o,HB2.o⟩
  case measure => simp [intOf]; omega
 ) : p := h
theorem Z7_98 {p : Prop} (h : p := by
  obtain ⟨r0,r1,r2,r3,-,-,-,-⟩ := blk4 (HS9.o.blk 1 rfl);refine bodyPost_ret (v := .tuple #[.agg #[.int .i64 9,.string nm,.slice xa xl xc,.slice ta tl tc],.int .i64 14]) (by simp [results,Tryz.results38,go_sem,r0,r1,r2,r3]) rfl ⟨_,_,_,_,_,_,_,_,by rw [<- HE.o,HE2.o],HF9.o,fun h0 => ?_⟩;have h1 := HE.o;have h2 := HE2.o;omega
 ) : p := h
theorem Z7_99 {p : Prop} (h : p := by
  intro j u hu;have hj : j < vs.flatten.length := (List.getElem?_eq_some_iff.1 hu).1;have hp : 0 < len := by rw [HL.o,hvl] at hj; omega
  obtain ⟨b,o,ha,hblt,_⟩ := h3.2.2.2 hp;injection ha with ha; subst ha;rw [Mem.add_off,World.cell?_alloc_lt w _ ⟨b,o + j,none⟩ hblt,<- Mem.add_off];exact h3'.cells (by decide) j u hu
 ) : p := h
theorem Z7_100 {p : Prop} (h : p := by
  obtain ⟨op,nm,x,l⟩ := t;have h2 : (Te.mk op nm x l).rk=1 + max (Ex.rk.go x) (Te.rk.go l) := rfl;omega
 ) : p := h
theorem Z7_101 {p : Prop} (h : p := by
  go_wp2
  go_ret;exact ⟨FIN.o,by first | exact K.o.alloc K.o.size _ | exact (K.o.setCell S1.o _).setCell S1.o _ | exact (K.o.setCell TL.o _).setCell TL.o _⟩
 ) : p := h
theorem Z7_102 {p : Prop} (h : p := by
  go_wp2_with fail;refine (HL.o _).mono ?_; rintro e w' ⟨rfl,rfl⟩
  go_wp2
  go_ret;exact ⟨F.o,rfl⟩
 ) : p := h
theorem Z7_103 {p : Prop} (h : p := by
  intro c hcm;obtain ⟨i,hi,rfl⟩ := List.getElem_of_mem hcm;exact (K.one (he i _ _ (List.getElem?_eq_getElem (by omega)) (List.getElem?_eq_getElem hi))).1
 ) : p := h
theorem Z7_104 {p : Prop} (h : p := by
  have hlt := Big.val_lt hd;obtain ⟨c,hc,hv⟩ := hv.o;rw [hlo] at hlt;have hc0 : c=0 := by
   rcases Nat.eq_zero_or_pos c with h | h
   . exact h
   . have : c=1 := by omega
     subst this; omega
  subst hc0;have e : Big.val out=Big.val l - Big.val l' := by omega
  rw [<- e]; exact MagR.trim hn hd
 ) : p := h
theorem Z7_105 {p : Prop} (h : p := by
  rintro y w9 ⟨rfl,vP',vF',hR9⟩;have HR9 := LH9 (HJ8.o.trans hR9);have HR98 := LH9 hR9;clear hic hrt8 huu8;refine hK _ _ ?_;clear hK K' hR9 bt
  try simp only [Act.put,zp1,zp2,zp3,zp4,zp5,zp6]
  refine wd9 ?_;go_wp2_with fail
  go_end0
  exact ⟨rfl,vP',vF',by rw [HSP.o]; exact HR9.o⟩
 ) : p := h
theorem Z7_106 {p : Prop} (h : p := by
  rintro y w9 ⟨rfl,vP',vF',hR9⟩;have HR9 := LH9 (HJ8.o.trans hR9);have HR98 := LH9 hR9;clear hic hrt8 huu8;refine hK _ _ ?_;clear hK K' hR9 bt
  try simp only [Act.put,zp1,zp2,zp3,zp4,zp5,zp6]
  refine wd9 ?_;go_wp2_with fail
  go_end0
  exact ⟨rfl,vP',vF',by rw [HE.o]; exact HR9.o⟩
 ) : p := h
theorem Z7_107 {p : Prop} (h : p := by
  have F := LH9 (HF.o false (by rw [HB2.o]; simp))
  go_enter Tryz.func104,Tryz.ntmps104
  go_wp2_with fail;go_quiet ((go_at_call 131; exact quiet_left (HAR.o _)));go_wp2_with fail;refine (HFR.o _).mono ?_; rintro x w' ⟨rfl,rfl⟩
  go_wp2
  go_ret;exact ⟨F.o,below_drewN HW0.o _⟩
 ) : p := h
theorem Z7_108 {p : Prop} (h : p := by
  go_enter Tryz.func82,Tryz.ntmps82
  go_wp2_with fail;refine (HAR.o _).mono ?_; rintro x w' ⟨rfl,rfl⟩
  go_wp2
  go_ret;exact ⟨F.o,HW0.o⟩
 ) : p := h
theorem Z7_109 {p : Prop} (h : p := by
  have F := LH9 (HF.o false (by rw [HB.o,HY.o,show ((1 : Int) == (len2 : Nat))=false by rw [beq_eq_false_iff_ne]; omega]; simp));have t1 : ((len2 : Int) != 1)=true := by rw [bne_iff_ne]; omega
  clear hL2
  go_enter Tryz.func29,Tryz.ntmps29
  go_wp2
  go_ret;exact ⟨F.o,HW0.o⟩
 ) : p := h
theorem Z7_110 {p : Prop} (h : p := by
  have F := LH9 (HF.o false (by rw [HB.o,HY.o,show ((0 : Int) == (len2 : Nat))=false by rw [beq_eq_false_iff_ne]; omega]; simp));have t1 : ((len2 : Int) != 0)=true := by rw [bne_iff_ne]; omega
  clear hL2
  go_enter Tryz.func29,Tryz.ntmps29
  go_wp2
  go_ret;exact ⟨F.o,HW0.o⟩
 ) : p := h
theorem Z7_111 {p : Prop} (h : p := by
  have F := LH9 (HF.o false (by rw [HB.o,HY.o,show ((2 : Int) == (len2 : Nat))=false by rw [beq_eq_false_iff_ne]; omega]; simp));have t1 : ((len2 : Int) != 2)=true := by rw [bne_iff_ne]; omega
  clear hL2
  go_enter Tryz.func29,Tryz.ntmps29
  go_wp2
  go_ret;exact ⟨F.o,HW0.o⟩
 ) : p := h
theorem Z7_112 {p : Prop} (h : p := by
  have z1' : we.cell? ⟨z,1,none⟩=some (.int .i64 0) := BZ.o.cell 1;go_wp2_with fail;go_ret3;exact ⟨RcR.err HE9.o (by decide),HBE.o⟩
 ) : p := h
theorem Z7_113 {p : Prop} (h : p := by
  rcases earl_bd xq k i0 with h | h
  . have hne : earl xq (k : Int) ≠ -1 := by
     unfold earl; rw [if_neg (by omega)];have := Int.emod_lt_of_pos (IntKind.u64.wrap xq) (show (0 : Int) < k by omega);omega
    exact ⟨(earl xq k).toNat,by omega,by omega⟩
  . omega
 ) : p := h
theorem Z7_114 {p : Prop} (h : p := by
  rcases List.mem_append.1 he with he | he
  . exact HP2.o.2.2 e he
  . rw [List.mem_singleton] at he; subst he; exact HRK.o
 ) : p := h
theorem Z7_115 {p : Prop} (h : p := by
  intro k x c0 c1 c2 s0 s1 s2 hx hrep W hW;exact ih x (by have := Ex.rk_lt (op := op) (n := n) (nm := nm) hx; omega) (g3 x (List.mem_of_getElem? hx)) (hkids x (List.mem_of_getElem? hx)) _ W (hrep.kept (Kept.of_below hW [])) (hS.kept (Kept.of_below hW []))
 ) : p := h
theorem Z7_116 {p : Prop} (h : p := by
  have := HNO.o.take (Big.trim out).length (by rw [<- HK.o]; exact trim_le out);rw [<- trim_len] at this;exact this
 ) : p := h
theorem Z7_117 {p : Prop} (h : p := by
  rw [List.take_zero] at HW ⊢;obtain ⟨pa,pc,rfl,hP⟩ := HW.o.still 0 rfl;have HP := LH9 hP.free;have HR0 := LH9 hR0;clear hlt hP hR0;go_wp2_with fail;go_ret2;exact ⟨⟨pa,pc,by rw [HR0.o]; rfl,by rw [HR0.o]; exact HP.o⟩,HB.o⟩
 ) : p := h
theorem Z7_118 {p : Prop} (h : p := by
  clear b1 b2
  cases S
  . go_wp2
    go_ret;exact ⟨by rw [HD.o]; rfl,W2.o⟩
  . go_wp2_with fail;refine (HB.o _ k2.o).mono ?_; rintro x w3 ⟨rfl,b3⟩
    go_wp2
    go_ret;exact ⟨by rw [HD.o]; rfl,W2.o.trans (b3.mono W2.o.size)⟩
 ) : p := h
theorem Z7_119 {p : Prop} (h : p := by
  obtain rfl := HR.o;clear HR;go_wp2_with fail
  go_region
  go_wp2_with fail;go_ret;exact ⟨rfl,HF.o.drew⟩
 ) : p := h
theorem Z7_120 {p : Prop} (h : p := by
  rw [hp] at HC;have e := ha.1 hp;clear ha hp;go_wp2_with fail;refine (HC.o _).mono ?_; rintro e w' ⟨rfl,rfl⟩
  go_wp2
  go_round
  case rel => exact ⟨k + 1,by go_num,e,by omega⟩
  case measure => simp [intOf]; omega
 ) : p := h
theorem Z7_121 {p : Prop} (h : p := by
  have h3 := runTruth_any base rb day fx fa fl fc s vP vF (x0 t) cs' W hd h1 h2 hxk;rw [ho,hv] at h3;exact h3
 ) : p := h
theorem Z7_122 {p : Prop} (h : p := by
  subst h6
  cases neg
  . go_enter Tryz.func151,Tryz.ntmps151
    clear hd0;go_wp2_with fail;go_ret;exact ⟨rfl,rfl⟩
  . go_enter Tryz.func151,Tryz.ntmps151
    clear hd0;go_wp2_with fail;go_ret;exact ⟨rfl,rfl⟩
 ) : p := h
theorem Z7_123 {p : Prop} (h : p := by
  rw [hp] at HC;have F := LH9 (HF.o (k : Nat) (HH.o k e' HLE.o hp HN.o).symm);clear hp;go_wp2_with fail;refine HC.o.mono ?_; rintro r w1 ⟨rfl,b1⟩
  go_wp2
  go_ret;exact ⟨F.o,HW.o.trans (b1.mono HW.o.size)⟩
 ) : p := h
theorem Z7_124 {p : Prop} (h : p := by
  rcases busy_mem.1 hm with h1 | h1
  . exact mem_owns.2 ⟨i,_,hi,by show b ∈ v.ownBlock.toList; rw [Option.mem_toList]; exact h1⟩
  . obtain ⟨m,om,_,hom,hbm⟩ := mem_others.1 h1;exact mem_owns.2 ⟨m,om,hom,hbm⟩
 ) : p := h
theorem Z7_125 {p : Prop} (h : p := by
  go_enter Tryz.func146,Tryz.ntmps146
  go_wp2_with fail;refine (HL.o _).mono ?_; rintro e w' ⟨rfl,rfl⟩;go_wp2_with fail;refine (HD.o _).mono ?_; rintro e w' ⟨rfl,rfl⟩
  go_wp2
  go_ret;exact ⟨F.o,rfl⟩
 ) : p := h
theorem Z7_126 {p : Prop} (h : p := by
  rw [this]
  congr 1
  rw [Bool.eq_iff_iff];simp only [Bool.and_eq_true,decide_eq_true_eq];unfold ndI rkI;by_cases h : t.nd < 1000
  . rw [if_pos h,if_pos h]; omega
  . rw [if_neg h,if_neg h]; omega
 ) : p := h
theorem Z7_127 {p : Prop} (h : p := by
  have h1 : csl=[] := List.length_eq_zero_iff.1 (by rw [h.count,h00]);subst h1;refine ⟨none,0,by rw [h00],[],by simpa using h00.symm,fun i x cs hx _ => hel i x cs hx ‹_›,?_⟩;rw [h00];exact Sl.nil _ _ _
 ) : p := h
theorem Z7_128 {p : Prop} (h : p := by
  have : k=len := by omega
  subst this;refine ⟨b,hb,?_⟩;have h := HI.o;rw [List.take_of_length_le (by rw [H1'.o]; exact hlen),List.take_of_length_le (by rw [H1.o]; exact Nat.le_refl _)] at h;exact h
 ) : p := h
theorem Z7_129 {p : Prop} (h : p := by
  clear t0 t2 q4 f4;have t0 : w3.cell? ⟨z,0,none⟩=some (.int .i64 2) := BZ3.o.cell 0;have t2 : w3.cell? ⟨z,2,none⟩=some (.bool b) := BZ3.o.cell 2;go_wp2_with fail;go_ret;exact ⟨rfl,HS.o,HFR.o⟩
 ) : p := h
theorem Z7_130 {p : Prop} (h : p := by
  show RepT w5 [] (.mk t.op t.nm t.exprs (List.replicate t.terms.length z1)) _;rw [HPN.o.1,HPN.o.2,HKL.o];exact RepT.mk' HON1.o.1 HON1.o.2 (SlR.kept (K := exK) HXE.o (Kept.of_below HB5.o [])) hzl
 ) : p := h
theorem Z7_131 {p : Prop} (h : p := by
  go_wp2_with fail;go_roundw
  case rel => exact ⟨k + 1,vP,vF,by go_num,by have := HLT.o; omega,by rw [<- HSN.o,HE.o]; exact HR9.o.trans HJ6.o⟩
  case measure => simp [intOf]; have := HLT.o; omega
 ) : p := h
theorem Z7_132 {p : Prop} (h : p := by
  go_wp2_with fail;go_at_call 7;(with_reducible refine (awake23_any w1).mono ?_);rintro y w9 ⟨rfl,b9⟩;have HB9 := bt9 HB1 b9;clear b9;go_wp2_with fail;go_ret;exact ⟨rfl,HB9.o⟩
 ) : p := h
theorem Z7_133 {p : Prop} (h : p := by
  intro j y hj hy;rcases Nat.lt_or_ge j k with h | h
  . exact HN.o j y h hy
  . obtain rfl : j=k := by omega
    rw [HLE.o] at hy; injection hy with hy; subst hy; rw [HLE4.o,hp]
 ) : p := h
theorem Z7_134 {p : Prop} (h : p := by
  have HE9 : Hid (E=14) := by
   show _=_;have h1 := HEC.o;rw [hC,if_pos (by decide)] at h1;exact h1
  clear hC;go_wp2_with fail;go_ret3;exact ⟨RcR.err HE9.o (by decide),HB2.o⟩
 ) : p := h
theorem Z7_135 {p : Prop} (h : p := by
  clear HN;subst hn;go_quiet (fail);go_wp2_with fail;go_roundw
  case rel => exact ⟨k + 1,_,by go_num,rfl,by omega,HX.o,below_drewN HB2.o _⟩
  case measure => simp [intOf]; omega
 ) : p := h
theorem Z7_136 {p : Prop} (h : p := by
  intro c hcm;obtain ⟨i,hi,rfl⟩ := List.getElem_of_mem hcm;exact (K.one (h.elts i _ _ (List.getElem?_eq_getElem (by have := h.count; omega)) (List.getElem?_eq_getElem hi))).1
 ) : p := h
theorem Z7_137 {p : Prop} (h : p := by
  rw [e1] at h2;rw [e2] at h3;exact ⟨(((Below.refl _ _).alloc (Nat.le_refl _) _).alloc (by rw [e1]; omega) _).alloc (by rw [e2]; omega) _,(h1.alloc _).alloc _,h2.alloc _,h3⟩
 ) : p := h
theorem Z7_138 {p : Prop} (h : p := by
  have F := LH9 (HF.o (-1) (HM.o (fun j y hy => HN.o j y (by have := (List.getElem?_eq_some_iff.1 hy).1; have := HL.o; omega) hy)).symm)
  go_wp2
  go_ret;exact ⟨F.o,HW.o⟩
 ) : p := h
theorem Z7_139 {p : Prop} (h : p := by
  go_wp2_with fail
  (try simp only [Exit.inBlock,Exit.then])
  refine bodyPost_ret (results_none rfl _ _ _) rfl ?_;exact ⟨rfl,vP,vF,by rw [HSS.o,HRES.o]; exact HJ3.o⟩
 ) : p := h
theorem Z7_140 {p : Prop} (h : p := by
  simp at hx hc;subst hx;subst hc;exact ⟨_,_,_,rfl,HN9.o,(hU4.less (fun q _ hm => List.mem_append_right _ hm)),hK4.less (fun q _ hm => List.mem_append_right _ hm)⟩
 ) : p := h
theorem Z7_141 {p : Prop} (h : p := by
  obtain ⟨r0,r1,-,-⟩ := HFN.o.2.two;refine bodyPost_ret (v := .agg #[.string ⟨#[116]⟩,.int .i64 0]) (by simp [results,Tryz.results32,go_sem,r0,r1]) rfl ⟨rfl,HFN.o.1⟩
 ) : p := h
theorem Z7_142 {p : Prop} (h : p := by
  obtain ⟨r0,r1,-,-⟩ := HFN.o.2.two;refine bodyPost_ret (v := .agg #[.string ⟨#[102]⟩,.int .i64 0]) (by simp [results,Tryz.results32,go_sem,r0,r1]) rfl ⟨rfl,HFN.o.1⟩
 ) : p := h
theorem Z7_143 {p : Prop} (h : p := by
  go_quiet (fail);go_wp2_with fail;go_roundw
  case rel => exact ⟨k + 1,s,by go_num,rfl,by omega,HX.o,below_drewN HB2.o _⟩
  case measure => simp [intOf]; omega
 ) : p := h
theorem Z7_144 {p : Prop} (h : p := by
  clear hq;go_wp2_with fail;go_meet
  case rel => exact ⟨xs,vX,N,D,xs.length,rfl,rfl,HFIN.o.1,by have := HFIN.o.2.1; omega,rfl,HFIN.o.2.2.1,HFIN.o.2.2.2⟩
 ) : p := h
theorem Z7_145 {p : Prop} (h : p := by
  (with_reducible refine (HC.o v HW0.o).mono ?_);rintro y w1 ⟨rfl,b1⟩;have HW1 := bt9 HW0 b1;clear b1;go_wp2_with fail;go_ret;exact ⟨rfl,HW1.o⟩
 ) : p := h
theorem Z7_146 {p : Prop} (h : p := by
  rcases hv with h1 | h1
  . exact h.apart g (by rw [<- h1]; exact hgb) hm
  . rw [h1] at hgb; injection hgb with hgb; have := h.lt g hm; omega
 ) : p := h
theorem Z7_147 {p : Prop} (h : p := by
  intro k e1 hk cs1 W hR1;exact ih e1 (by have := Te.rk_lt (op := op) (nm := nm) (x := exprs) hk; omega) (g5 e1 (List.mem_of_getElem? hk)) cs1 W hR1
 ) : p := h
theorem Z7_148 {p : Prop} (h : p := by
  have := Mem.Blk.new ((w.alloc (.cells #[x1,y1] 122)).alloc (.cells #[x2,y2] 122)) 122 #[x3,y3];rw [e2] at this; exact this.call hb (by omega)
 ) : p := h
theorem Z7_149 {p : Prop} (h : p := by
  intro k e1 hk cs1 W hR1;exact ih e1 (by have := Ex.rk_lt (op := op) (n := no) (nm := nm) hk; omega) (g3 e1 (List.mem_of_getElem? hk)) cs1 W hR1
 ) : p := h
theorem Z7_150 {p : Prop} (h : p := by
  exact or_map (own_next hv b (by rw [Option.mem_toList]; exact hm)) (fun h1 => busy_mem.2 (.inl (by rw [Option.mem_toList] at h1; exact h1))) id
 ) : p := h
theorem Z7_151 {p : Prop} (h : p := by
  clear hq;go_wp2_with fail;go_meet
  case rel => exact ⟨ys,vY,N',D',rfl,rfl,HFIN.o.1,by have := HFIN.o.2.1; omega,HFIN.o.2.2.1,HFIN.o.2.2.2⟩
 ) : p := h
theorem Z7_152 {p : Prop} (h : p := by
  go_wp2_with fail;go_roundw
  case rel => exact ⟨k + 1,b,_,_,by go_num,rfl,rfl,rfl,by omega,HX.o,HB2.o⟩
  case measure => simp [intOf]; omega
 ) : p := h
theorem Z7_153 {p : Prop} (h : p := by
  rcases hown.2 with ⟨h1,h2⟩ | ⟨g,cap',cur,h1,h2,h3,h4,h5⟩
  . injection h1 with _ h1 h3; omega
  . injection h1 with _ h1 h3; omega
 ) : p := h
theorem Z7_154 {p : Prop} (h : p := by
  go_wp2_with fail;refine (HC.o _ HW0.o).mono ?_; rintro x w1 ⟨rfl,b1⟩
  go_wp2
  go_ret;exact ⟨F.o,HW0.o.trans (b1.mono HW0.o.size)⟩
 ) : p := h
theorem Z7_155 {p : Prop} (h : p := by
  have e : rT t=(decide (t.nd<=200/\t.rk<=16) && bT t) := rfl;rw [e,Bool.and_eq_true,decide_eq_true_eq] at h;exact ⟨h.1.1,h.1.2,h.2⟩
 ) : p := h
theorem Z7_156 {p : Prop} (h : p := by
  rw [List.any_eq_false]; intro x hx;obtain ⟨j,hj,rfl⟩ := List.getElem_of_mem hx;simp [h j _ (List.getElem?_eq_getElem hj)]
 ) : p := h
theorem Z7_157 {p : Prop} (h : p := by
  rcases Nat.lt_or_ge len len' with h | h
  . have := h2.length_lt_val h2' (by rw [h1.1,h1'.1]; exact h); omega
  . exact h
 ) : p := h
theorem Z7_158 {p : Prop} (h : p := by
  clear HN
  go_enter Tryz.func84,Tryz.ntmps84
  go_wp2_with fail;go_ret;exact ⟨rfl,(Below.refl _ _).alloc (Nat.le_refl _) _⟩
 ) : p := h
theorem Z7_159 {p : Prop} (h : p := by
  have h8 : b ∈ (Value.slice (some ⟨z0,0,none⟩) 0 0).ownBlock.toList := h9;simp [Value.ownBlock] at h8;exact .inr (by omega)
 ) : p := h
theorem Z7_160 {p : Prop} (h : p := by
  have HF := LH9 hrp;clear hlt hrp h2;generalize ndL l=A at *;go_wp2_with fail;go_ret;exact ⟨by rw [HF.o]; rfl,HB.o⟩
 ) : p := h
theorem Z7_161 {p : Prop} (h : p := by
  have HBW := bu9 HB0 HW1;clear hkn hk1 h6 HX2 HX3 HND HI HY HNT;subst hR;go_wp2_with fail;go_ret;exact ⟨rfl,HBW.o⟩
 ) : p := h
end Go.Proofs.YtmiinmndbkdjbaaGreat
namespace Go.Proofs.YtmiinmndbkdjbaaGreat
open Go.RowKit
section
open Go
variable {P : Program} {ops : Array Oper} {Q : Exit->Act->World->Prop} {md : Region.Mode} {S : World->Prop} {n : Nat} {l : Array Bool}
def Till (P : Program) (md : Region.Mode) (ops : Array Oper) (Q : Exit->Act->World->Prop) (S : World->Prop) (n : Nat) : Nat->Array Bool->Act->World->Prop
 | 0,l,a,w => Region.ready md ops l=[]/\Q .normal a w
 | fuel + 1,l,a,w =>
   (Region.ready md ops l=[]->Q .normal a w) /\
   ∀ i ∈ Region.ready md ops l,wpOp P ops Q i (fun a' w' => ((l.setIfInBounds i true).getD n true=true\/S w')/\Till P md ops Q S n fuel (l.setIfInBounds i true) a' w') a w
theorem any_of_till : ∀ (fuel : Nat) (l : Array Bool) (a : Act) (w : World),Till P md ops Q S n fuel l a w->wpAny P md ops Q fuel l a w
 | 0,_,_,_,h => h
 | fuel + 1,_,_,_,h => ⟨h.1,fun i hi => wpOp_mono (fun a' w' h' => any_of_till fuel _ a' w' h'.2) (h.2 i hi)⟩
theorem listed_stays {l : Array Bool} {i : Nat} (h : l.getD n true=true) : (l.setIfInBounds i true).getD n true=true := by
 by_cases hi : i=n
 . subst hi;rcases Nat.lt_or_ge i l.size with h' | h'
   . simp [h']
   . simp [Array.getElem?_eq_none (by simpa using h')]
 . rw [getD_set_ne true hi]; exact h
theorem till_of_any : ∀ (fuel : Nat) (l : Array Bool) (a : Act) (w : World),l.getD n true=true->wpAny P md ops Q fuel l a w->Till P md ops Q S n fuel l a w
 | 0,_,_,_,_,h => h
 | fuel + 1,_,_,_,hn,h => ⟨h.1,fun i hi => wpOp_mono (fun a' w' h' => ⟨.inl (listed_stays hn),till_of_any fuel _ a' w' (listed_stays hn) h'⟩) (h.2 i hi)⟩
def Clo (md : Region.Mode) (ops : Array Oper) (l : Array Bool) : Prop := ∀ j oj,ops[j]?=some oj->l.getD j true=true->∀ e ∈ oj.after,Region.binds md e=true->l.getD e.on true=true
def cloB (md : Region.Mode) (ops : Array Oper) (l : Array Bool) : Bool := (List.range ops.size).all fun j => !l.getD j true || match ops[j]? with | some oj => oj.after.all (fun e => !Region.binds md e || l.getD e.on true) | none => true
theorem Clo.of (h : cloB md ops l=true) : Clo md ops l := by
 intro j oj hj hl e he hb;simp only [cloB,List.all_eq_true,List.mem_range] at h;have h1 := h j (Array.getElem?_eq_some_iff.1 hj).1;simp only [hj,hl,Bool.not_true,Bool.false_or,Array.all_eq_true_iff_forall_mem] at h1;have h2 := h1 e he
 simpa [hb] using h2
theorem getD_up {l : Array Bool} {j : Nat} (h : l.getD j false=true) : l.getD j true=true := by
 rcases Nat.lt_or_ge j l.size with h' | h'
 . simp [h'] at h ⊢; exact h
 . simp [Array.getElem?_eq_none h'] at h
theorem Clo.set {l : Array Bool} {i : Nat} (h : Clo md ops l) (hi : i ∈ Region.ready md ops l) : Clo md ops (l.setIfInBounds i true) := by
 obtain ⟨h0,oi,hoi,hall⟩ := mem_ready.1 hi;intro j oj hj hl e he hb;by_cases hij : i=j
 . subst hij;rw [hoi] at hj;injection hj with hj;subst hj;exact listed_stays (getD_up (hall e he hb))
 . rw [getD_set_ne true hij] at hl;exact listed_stays (h j oj hj hl e he hb)
def reach (md : Region.Mode) (ops : Array Oper) (i : Nat) : Nat->Nat->Bool
 | 0,_ => false
 | f + 1,n => match ops[n]? with | some o => o.after.any (fun e => Region.binds md e && (e.on == i || reach md ops i f e.on)) | none => false
theorem reach_spec {l : Array Bool} {i : Nat} (hc : Clo md ops l) : ∀ (f n : Nat),reach md ops i f n=true->(∀ o,ops[n]?=some o->∀ e ∈ o.after,Region.binds md e=true->l.getD e.on true=true)->l.getD i true=true
 | 0,_,h,_ => by cases h
 | f + 1,n,h,hn => by
   unfold reach at h
   cases ho : ops[n]? with
   | none => rw [ho] at h; cases h
   | some o =>
     rw [ho] at h;obtain ⟨e,he,hb⟩ := Array.any_eq_true'.1 h;simp only [Bool.and_eq_true,Bool.or_eq_true,beq_iff_eq] at hb;have hl := hn o ho e he hb.1;rcases hb.2 with h1 | h1
     . rw [<- h1]; exact hl
     . exact reach_spec hc f e.on h1 (fun o' ho' e' he' hb' => hc e.on o' ho' hl e' he' hb')
theorem till_first {i : Nat} {oi : Oper} {v : Value} (hi : ops[i]?=some oi) (hsel : ∀ (j : Nat) (o : Oper) cs b,ops[j]?=some o->o.op ≠ .select cs b)
 (hQ : ∀ c a w,Q (.panic c) (a.put oi.dst v) w->Q (.panic c) a w) (hin : i ≠ n)
 {f : Nat} (hwait : reach md ops i f n=true) :
 ∀ (fuel : Nat) (l : Array Bool) (a : Act) (w : World),Clo md ops l ->
   (∀ j oj,ops[j]?=some oj->j ≠ i->l.getD j true=false->(∀ e ∈ oj.after,Region.binds md e=true->e.on ≠ i)->oi.apart ops oj=true) ->
   i ∈ Region.ready md ops l->l.getD n true=false->YieldsIf P ops S oi v a->S w ->
   Till P md ops Q S n fuel (l.setIfInBounds i true) (a.put oi.dst v) w->Till P md ops Q S n (fuel + 1) l a w := by
 intro fuel
 induction fuel with
 | zero =>
   intro l a w _ _ hr _ hy hS H;refine ⟨fun h => (by rw [h] at hr; cases hr),fun j hj => ?_⟩;by_cases hji : j=i
   . subst hji; exact hy.wpOp hi hS ⟨.inr hS,H⟩
   . have h := ready_mono hj hji;rw [H.1] at h
     cases h
 | succ fuel ih =>
   intro l a w hclo hfree hr hnl hy hS H;refine ⟨fun h => (by rw [h] at hr; cases hr),fun j hj => ?_⟩;by_cases hji : j=i
   . subst hji; exact hy.wpOp hi hS ⟨.inr hS,H⟩
   . have h1 := H.2 j (ready_mono hj hji);obtain ⟨hjun,oj,hoj,hall⟩ := mem_ready.1 hj;have hnot : ∀ e ∈ oj.after,Region.binds md e=true->e.on ≠ i := fun e he hb heq => by
      have g1 := hall e he hb;have g0 := (mem_ready.1 hr).1;rw [heq] at g1;rcases Nat.lt_or_ge i l.size with h' | h'
      . simp [h'] at g0 g1; rw [g0] at g1; cases g1
      . simp [Array.getElem?_eq_none h'] at g1
     have hjn : j ≠ n := by
      rintro rfl;have g1 := reach_spec hclo f j hwait (fun o ho e he hb => by rw [hoj] at ho; injection ho with ho; subst ho; exact getD_up (hall e he hb));rw [(mem_ready.1 hr).1] at g1
      cases g1
     have hnl2 : (l.setIfInBounds j true).getD n true=false := by rw [getD_set_ne true hjn]; exact hnl
     have hnl3 : ((l.setIfInBounds i true).setIfInBounds j true).getD n true=false := by rw [getD_set_ne true hjn,getD_set_ne true hin]; exact hnl
     have h2 := wpOp_putIf hoj (hfree j oj hoj hji hjun hnot) (fun cs b => hsel i oi cs b hi) (fun cs b => hsel j oj cs b hoj) hQ hy h1;have hfree' : ∀ k ok,ops[k]?=some ok->k ≠ i->(l.setIfInBounds j true).getD k true=false ->
      (∀ e ∈ ok.after,Region.binds md e=true->e.on ≠ i)->oi.apart ops ok=true := fun k ok hk hki hun hno => by
      refine hfree k ok hk hki ?_ hno;by_cases hjk : j=k
      . subst hjk; exact hjun
      . rw [getD_set_ne true hjk] at hun; exact hun
     refine wpOp_mono (fun a' w' h3 => ?_) h2;have hS' : S w' := h3.2.1.resolve_left (by rw [hnl3]; simp);refine ⟨.inr hS',ih (l.setIfInBounds j true) a' w' (hclo.set hj) hfree' (ready_mono hr (Ne.symm hji)) hnl2 h3.1 hS' ?_⟩;rw [Array.setIfInBounds_comm _ _ hji];exact h3.2.2
def takeB (md : Region.Mode) (ops : Array Oper) (n : Nat) (l : Array Bool) (i : Nat) : Bool :=
 Region.noSelect ops && Region.free md ops l i && (Region.ready md ops l).contains i && !(i == n) && reach md ops i ops.size n && !l.getD n true && cloB md ops l
theorem till_take {i : Nat} {oi : Oper} {v : Value} {fuel : Nat} {l : Array Bool} {a : Act} {w : World} (hi : ops[i]?=some oi) (hb : takeB md ops n l i=true)
 (hQ : ∀ c a w,Q (.panic c) (a.put oi.dst v) w->Q (.panic c) a w) (hy : YieldsIf P ops S oi v a) (hS : S w)
 (h : Till P md ops Q S n fuel (l.setIfInBounds i true) (a.put oi.dst v) w) : Till P md ops Q S n (fuel + 1) l a w := by
 simp only [takeB,Bool.and_eq_true,Bool.not_eq_true'] at hb;obtain ⟨⟨⟨⟨⟨⟨h1,h2⟩,h3⟩,h4⟩,h5⟩,h6⟩,h7⟩ := hb;exact till_first hi (Region.noSelect_spec h1) hQ (by simpa using h4) h5 fuel l a w (Clo.of h7) (Region.free_spec hi h2) (by simpa using h3) h6 hy hS h
def anyB (md : Region.Mode) (ops : Array Oper) (l : Array Bool) (i : Nat) : Bool := Region.noSelect ops && Region.free md ops l i && (Region.ready md ops l).contains i
theorem any_take {i : Nat} {oi : Oper} {v : Value} {fuel : Nat} {l : Array Bool} {a : Act} {w : World} (hi : ops[i]?=some oi) (hb : anyB md ops l i=true)
 (hQ : ∀ c a w,Q (.panic c) (a.put oi.dst v) w->Q (.panic c) a w) (hy : Yields P ops oi v a)
 (h : wpAny P md ops Q fuel (l.setIfInBounds i true) (a.put oi.dst v) w) : wpAny P md ops Q (fuel + 1) l a w := by
 simp only [anyB,Bool.and_eq_true] at hb;exact wpAny_take hi hb.1.1 hb.1.2 hb.2 hQ hy h
theorem any_one {i : Nat} {oi : Oper} {fuel : Nat} {l : Array Bool} {a : Act} {w : World} (hr : Region.ready md ops l=[i]) (hoi : ops[i]?=some oi)
 (hi : ∀ K' : Act->World->Prop,Shut (∀ a w,wpAny P md ops Q fuel (l.setIfInBounds i true) a w->K' a w)->if Region.wanted oi (yielded ops a.tmps)=true then Oper.wp P oi a w K' Q else K' (a.put oi.dst undef) w) :
 wpAny P md ops Q (fuel + 1) l a w := by
 refine wpAny_all hr (by simp) fun k hk => ?_
 rcases List.mem_cons.1 hk with rfl | hk
 . exact wpOp_step hoi fun K' hK => hi K' hK
 . cases hk
theorem till_all {rs : List Nat} {fuel : Nat} {l : Array Bool} {a : Act} {w : World} (hr : Region.ready md ops l=rs) (hne : rs ≠ [])
 (h : ∀ i ∈ rs,wpOp P ops Q i (fun a' w' => ((l.setIfInBounds i true).getD n true=true\/S w')/\Till P md ops Q S n fuel (l.setIfInBounds i true) a' w') a w) : Till P md ops Q S n (fuel + 1) l a w :=
 ⟨fun h0 => absurd (hr ▸ h0) hne,hr ▸ h⟩
theorem wp_region_till {id : Nat} {a : Act} {w : World} (n : Nat) (hm : P.follows .mixedOrders=true)
 (h : Till P .any ops Q S n ops.size (Array.replicate ops.size false) a w.drew) : (Code.region id ops true).wp P Q a w :=
 wp_region_any hm (any_of_till _ _ _ _ h)
theorem till_two {i j : Nat} {oi oj : Oper} {fuel : Nat} {l : Array Bool} {a : Act} {w : World} (hr : Region.ready md ops l=[i,j]) (hoi : ops[i]?=some oi) (hoj : ops[j]?=some oj)
 (hi : ∀ K' : Act->World->Prop,Shut (∀ a w,S w->Till P md ops Q S n fuel (l.setIfInBounds i true) a w->K' a w)->if Region.wanted oi (yielded ops a.tmps)=true then Oper.wp P oi a w K' Q else K' (a.put oi.dst undef) w)
 (hj : ∀ K' : Act->World->Prop,Shut (∀ a w,S w->Till P md ops Q S n fuel (l.setIfInBounds j true) a w->K' a w)->if Region.wanted oj (yielded ops a.tmps)=true then Oper.wp P oj a w K' Q else K' (a.put oj.dst undef) w) :
 Till P md ops Q S n (fuel + 1) l a w := by
 refine till_all hr (by simp) fun k hk => ?_
 rcases List.mem_cons.1 hk with rfl | hk
 . exact wpOp_step hoi fun K' hK => hi K' fun a w hS hT => hK a w ⟨.inr hS,hT⟩
 . rcases List.mem_cons.1 hk with rfl | hk
   . exact wpOp_step hoj fun K' hK => hj K' fun a w hS hT => hK a w ⟨.inr hS,hT⟩
   . cases hk
theorem till_one {i : Nat} {oi : Oper} {fuel : Nat} {l : Array Bool} {a : Act} {w : World} (hr : Region.ready md ops l=[i]) (hoi : ops[i]?=some oi)
 (hi : ∀ K' : Act->World->Prop,Shut (∀ a w,S w->Till P md ops Q S n fuel (l.setIfInBounds i true) a w->K' a w)->if Region.wanted oi (yielded ops a.tmps)=true then Oper.wp P oi a w K' Q else K' (a.put oi.dst undef) w) :
 Till P md ops Q S n (fuel + 1) l a w := by
 refine till_all hr (by simp) fun k hk => ?_
 rcases List.mem_cons.1 hk with rfl | hk
 . exact wpOp_step hoi fun K' hK => hi K' fun a w hS hT => hK a w ⟨.inr hS,hT⟩
 . cases hk
theorem till_last {oi : Oper} {fuel : Nat} {l : Array Bool} {a : Act} {w : World} (hr : Region.ready md ops l=[n]) (hoi : ops[n]?=some oi) (hl : (l.setIfInBounds n true).getD n true=true)
 (hi : ∀ K' : Act->World->Prop,Shut (∀ a w,wpAny P md ops Q fuel (l.setIfInBounds n true) a w->K' a w)->if Region.wanted oi (yielded ops a.tmps)=true then Oper.wp P oi a w K' Q else K' (a.put oi.dst undef) w) :
 Till P md ops Q S n (fuel + 1) l a w := by
 refine till_all hr (by simp) fun k hk => ?_
 rcases List.mem_cons.1 hk with rfl | hk
 . exact wpOp_step hoi fun K' hK => hi K' fun a w hT => hK a w ⟨.inl hl,till_of_any _ _ _ _ hl hT⟩
 . cases hk
theorem tl9 {P : Program} {ops : Array Oper} {Q : Exit->Act->World->Prop} {md : Region.Mode} {S : World->Prop} {n : Nat} {oi : Oper} {fuel : Nat} {l : Array Bool} {a : Act} {w : World}
 (hi : ∀ K' : Act->World->Prop,Shut (∀ a w,wpAny P md ops Q fuel (l.setIfInBounds n true) a w->K' a w)->if Region.wanted oi (yielded ops a.tmps)=true then Oper.wp P oi a w K' Q else K' (a.put oi.dst undef) w)
 (hr : Region.ready md ops l=[n] := by kernel_rfl) (hoi : ops[n]?=some oi := by rfl) (hl : (l.setIfInBounds n true).getD n true=true := by kernel_rfl) : Till P md ops Q S n (fuel + 1) l a w := till_last hr hoi hl hi
theorem t19 (i : Nat) {P : Program} {ops : Array Oper} {Q : Exit->Act->World->Prop} {md : Region.Mode} {S : World->Prop} {n : Nat} {oi : Oper} {fuel : Nat} {l : Array Bool} {a : Act} {w : World}
 (hi : ∀ K' : Act->World->Prop,Shut (∀ a w,S w->Till P md ops Q S n fuel (l.setIfInBounds i true) a w->K' a w)->if Region.wanted oi (yielded ops a.tmps)=true then Oper.wp P oi a w K' Q else K' (a.put oi.dst undef) w)
 (hr : Region.ready md ops l=[i] := by kernel_rfl) (hoi : ops[i]?=some oi := by rfl) : Till P md ops Q S n (fuel + 1) l a w := till_one hr hoi hi
theorem wd9 {P : Program} {ops : Array Oper} {Q : Exit->Act->World->Prop} {md : Region.Mode} {fuel : Nat} {l : Array Bool} {a : Act} {w : World} (h : Q .normal a w) (hr : Region.ready md ops l=[] := by kernel_rfl) : wpAny P md ops Q fuel l a w := wpAny_done hr h fuel
end
section
open Go Go.RowKit
variable {P : Program} {ops : Array Oper} {Q : Exit->Act->World->Prop} {md : Region.Mode} {S : World->Prop} {n : Nat} {l : Array Bool}
theorem hq {d : Tmp} {v : Value} (H : Hid (∀ c (a : Act) d v w,Q (.panic c) (a.put (some d) v) w->Q (.panic c) a w)) : ∀ c a w,Q (.panic c) (a.put (some d) v) w->Q (.panic c) a w := fun c a w h => H.o c a d v w h
theorem tk (i : Nat) {oi : Oper} {v : Value} {fuel : Nat} {a a' : Act} {w : World}
 (hS : S w) (h : Till P md ops Q S n fuel (l.setIfInBounds i true) a' w)
 (hi : ops[i]?=some oi := by rfl) (hb : takeB md ops n l i=true := by kernel_rfl) (hw : Region.wanted oi (yielded ops a.tmps)=true := by rfl)
 (hy : ∀ w,S w->(execOp a.eval oi).run P w=.ok (.value v) w := by (intro W hS; (try dsimp only at hS); go_split_ands; go_simp; (try with_reducible rfl)))
 (ha : a.put oi.dst v=a' := by (simp only [Act.put,zp1,zp2,zp3,zp4,zp5,zp6]; rfl))
 (hQ : ∀ c a w,Q (.panic c) (a.put oi.dst v) w->Q (.panic c) a w := by exact fun _ _ _ h => h) : Till P md ops Q S n (fuel + 1) l a w :=
 till_take hi hb hQ (Or.inl ⟨hw,hy⟩) hS (by rw [ha]; exact h)
theorem ak (i : Nat) {oi : Oper} {v : Value} {fuel : Nat} {a a' : Act} {w : World}
 (h : wpAny P md ops Q fuel (l.setIfInBounds i true) a' w)
 (hi : ops[i]?=some oi := by rfl) (hb : anyB md ops l i=true := by kernel_rfl) (hw : Region.wanted oi (yielded ops a.tmps)=true := by rfl)
 (hy : ∀ w,(execOp a.eval oi).run P w=.ok (.value v) w := by (intro W; go_simp; (try with_reducible rfl)))
 (ha : a.put oi.dst v=a' := by (simp only [Act.put,zp1,zp2,zp3,zp4,zp5,zp6]; rfl))
 (hQ : ∀ c a w,Q (.panic c) (a.put oi.dst v) w->Q (.panic c) a w := by exact fun _ _ _ h => h) : wpAny P md ops Q (fuel + 1) l a w :=
 any_take hi hb hQ (Or.inl ⟨hw,hy⟩) (by rw [ha]; exact h)
end
end Go.Proofs.YtmiinmndbkdjbaaGreat
namespace Go.Proofs.YtmiinmndbkdjbaaGreat
open Go.RowKit
inductive Ex | mk (op n : Int) (nm : ByteArray) (args : List Ex)
inductive Te | mk (op : Int) (nm : ByteArray) (exprs : List Ex) (terms : List Te)
namespace Ex
def op : Ex->Int | .mk o _ _ _ => o
def n : Ex->Int | .mk _ n _ _ => n
def nm : Ex->ByteArray | .mk _ _ s _ => s
def args : Ex->List Ex | .mk _ _ _ l => l
end Ex
namespace Te
def op : Te->Int | .mk o _ _ _ => o
def nm : Te->ByteArray | .mk _ s _ _ => s
def exprs : Te->List Ex | .mk _ _ l _ => l
def terms : Te->List Te | .mk _ _ _ l => l
end Te
def Sl (w : World) (X : List Nat) (sz : Nat) (a : Option Addr) (len cap : Nat) (vs : List (List Value)) : Prop :=
 vs.length=len/\len<=cap/\cap<=9223372036854775807/\(0 < len->∃ b o,a=some ⟨b,o,none⟩/\b < w.heap.size/\b ∉ X /\
  ∀ i cs,vs[i]?=some cs->cs.length=sz/\∀ j c,cs[j]?=some c->w.cell? ⟨b,o + i * sz + j,none⟩=some c)
def I64 (n : Int) : Prop := -9223372036854775808<=n/\n<=9223372036854775807
inductive RepE (w : World) (X : List Nat) : Ex->List Value->Prop
 | mk {op n : Int} {nm : ByteArray} {args : List Ex} {a : Option Addr} {len cap : Nat} (vs : List (List Value)) (ho : I64 op) (hn : I64 n) (hs : nm.size<=9223372036854775807)
  (hl : vs.length=args.length) (hr : ∀ (i : Nat) (e : Ex) (cs : List Value),args[i]?=some e->vs[i]?=some cs->RepE w X e cs) (hv : Sl w X 4 a len cap vs) :
  RepE w X (.mk op n nm args) [.int .i64 op,.int .i64 n,.string nm,.slice a len cap]
def SlE (w : World) (X : List Nat) (l : List Ex) (a : Option Addr) (len cap : Nat) : Prop :=
 ∃ vs : List (List Value),vs.length=l.length/\(∀ (i : Nat) (e : Ex) (cs : List Value),l[i]?=some e->vs[i]?=some cs->RepE w X e cs)/\Sl w X 4 a len cap vs
inductive RepT (w : World) (X : List Nat) : Te->List Value->Prop
 | mk {op : Int} {nm : ByteArray} {exprs : List Ex} {terms : List Te} {a a' : Option Addr} {len cap len' cap' : Nat} (vs : List (List Value)) (ho : I64 op) (hs : nm.size<=9223372036854775807)
  (he : SlE w X exprs a len cap)
  (hl : vs.length=terms.length) (hr : ∀ (i : Nat) (e : Te) (cs : List Value),terms[i]?=some e->vs[i]?=some cs->RepT w X e cs) (hv : Sl w X 4 a' len' cap' vs) :
  RepT w X (.mk op nm exprs terms) [.int .i64 op,.string nm,.slice a len cap,.slice a' len' cap']
def SlT (w : World) (X : List Nat) (l : List Te) (a : Option Addr) (len cap : Nat) : Prop :=
 ∃ vs : List (List Value),vs.length=l.length/\(∀ (i : Nat) (e : Te) (cs : List Value),l[i]?=some e->vs[i]?=some cs->RepT w X e cs)/\Sl w X 4 a len cap vs
section
variable {w w' : World} {X X' : List Nat} {sz len cap : Nat} {a : Option Addr} {vs : List (List Value)}
def Kept (X : List Nat) (w w' : World) : Prop := w.heap.size<=w'.heap.size/\∀ b,b < w.heap.size->b ∉ X->w'.heap[b]?=w.heap[b]?
theorem Kept.of_below (h : Below w.heap.size w w') (X : List Nat) : Kept X w w' := ⟨h.size,fun b hb _ => h.block b hb⟩
theorem Kept.of_grown {g : Nat} (h : w.grownBy w' (some g)) (hg : g ∈ X) : Kept X w w' := ⟨h.size,fun b hb hx => h.block b hb (fun e => by injection e with e; subst e; exact hx hg)⟩
theorem Kept.of_grown_own {v : Value} (h : w.grownBy w' v.ownBlock) (hg : ∀ g,v.ownBlock=some g->g ∈ X) : Kept X w w' := ⟨h.size,fun b hb hx => h.block b hb (fun e => hx (hg b e.symm))⟩
theorem Kept.alloc (w : World) (o : Obj) (X : List Nat) : Kept X w (w.alloc o) := ⟨by simp,fun b hb _ => Below.heap_alloc w o b hb⟩
theorem Kept.refl (w : World) (X : List Nat) : Kept X w w := ⟨Nat.le_refl _,fun _ _ _ => rfl⟩
theorem Kept.trans {w'' : World} (h : Kept X w w') (h' : Kept X w' w'') : Kept X w w'' := ⟨Nat.le_trans h.1 h'.1,fun b hb hx => (h'.2 b (Nat.lt_of_lt_of_le hb h.1) hx).trans (h.2 b hb hx)⟩
theorem Kept.more (h : Kept X w w') (hX : ∀ b,b ∈ X->b ∈ X') : Kept X' w w' := ⟨h.1,fun b hb hx => h.2 b hb (fun hm => hx (hX b hm))⟩
theorem Kept.setCell (w : World) {p : Addr} (hp : p.block ∈ X) (v : Value) : Kept X w (w.setCell p v) :=
 ⟨by simp [World.setCell],fun b _ hx => Below.heap_setCell w p v b (fun e => hx (by rw [e]; exact hp))⟩
theorem Kept.setNew {w0 : World} (h : Kept X w0 w) {p : Addr} (hp : w0.heap.size<=p.block) (v : Value) : Kept X w0 (w.setCell p v) :=
 ⟨by simpa [World.setCell] using h.1,fun b hb hx => (Below.heap_setCell w p v b (by omega)).trans (h.2 b hb hx)⟩
theorem Sl.kept (h : Sl w X sz a len cap vs) (k : Kept X w w') : Sl w' X sz a len cap vs := by
 obtain ⟨h1,h2,h3,h4⟩ := h;refine ⟨h1,h2,h3,fun hp => ?_⟩;obtain ⟨b,o,ha,hb,hx,hc⟩ := h4 hp;exact ⟨b,o,ha,Nat.lt_of_lt_of_le hb k.1,hx,fun i cs hi => ⟨(hc i cs hi).1,fun j c hj => (World.cell?_of_block (k.2 b hb hx)).trans ((hc i cs hi).2 j c hj)⟩⟩
theorem Sl.less (h : Sl w X sz a len cap vs) (hX : ∀ b,b < w.heap.size->b ∈ X'->b ∈ X) : Sl w X' sz a len cap vs := by
 obtain ⟨h1,h2,h3,h4⟩ := h;refine ⟨h1,h2,h3,fun hp => ?_⟩;obtain ⟨b,o,ha,hb,hx,hc⟩ := h4 hp;exact ⟨b,o,ha,hb,fun hm => hx (hX b hb hm),hc⟩
theorem Sl.nil (w : World) (X : List Nat) (sz : Nat) : Sl w X sz none 0 0 [] := ⟨rfl,Nat.le_refl _,by decide,fun h => absurd h (by decide)⟩
theorem Sl.take (h : Sl w X sz a len cap vs) (k : Nat) (hk : k<=len) : Sl w X sz a k cap (vs.take k) := by
 obtain ⟨h1,h2,h3,h4⟩ := h;refine ⟨by simp; omega,by omega,h3,fun hp => ?_⟩;obtain ⟨b,o,ha,hb,hx,hc⟩ := h4 (by omega);refine ⟨b,o,ha,hb,hx,fun i cs hi => hc i cs ?_⟩;rw [List.getElem?_take] at hi
 split at hi
 . exact hi
 . cases hi
theorem RepE.kept {e : Ex} {cs : List Value} (h : RepE w X e cs) (k : Kept X w w') : RepE w' X e cs := by
 induction h with
 | mk vs ho hn hs hl hr hv ih => exact .mk vs ho hn hs hl ih (hv.kept k)
theorem RepE.less {e : Ex} {cs : List Value} (h : RepE w X e cs) (hX : ∀ b,b < w.heap.size->b ∈ X'->b ∈ X) : RepE w X' e cs := by
 induction h with
 | mk vs ho hn hs hl hr hv ih => exact .mk vs ho hn hs hl ih (hv.less hX)
theorem SlE.kept {l : List Ex} (h : SlE w X l a len cap) (k : Kept X w w') : SlE w' X l a len cap := by
 obtain ⟨vs,h1,h2,h3⟩ := h;exact ⟨vs,h1,fun i e cs he hc => (h2 i e cs he hc).kept k,h3.kept k⟩
theorem SlE.less {l : List Ex} (h : SlE w X l a len cap) (hX : ∀ b,b < w.heap.size->b ∈ X'->b ∈ X) : SlE w X' l a len cap := by
 obtain ⟨vs,h1,h2,h3⟩ := h;exact ⟨vs,h1,fun i e cs he hc => (h2 i e cs he hc).less hX,h3.less hX⟩
theorem RepT.kept {e : Te} {cs : List Value} (h : RepT w X e cs) (k : Kept X w w') : RepT w' X e cs := by
 induction h with
 | mk vs ho hs he hl hr hv ih => exact .mk vs ho hs (he.kept k) hl ih (hv.kept k)
theorem RepT.less {e : Te} {cs : List Value} (h : RepT w X e cs) (hX : ∀ b,b < w.heap.size->b ∈ X'->b ∈ X) : RepT w X' e cs := by
 induction h with
 | mk vs ho hs he hl hr hv ih => exact .mk vs ho hs (he.less hX) hl ih (hv.less hX)
theorem SlT.kept {l : List Te} (h : SlT w X l a len cap) (k : Kept X w w') : SlT w' X l a len cap := by
 obtain ⟨vs,h1,h2,h3⟩ := h;exact ⟨vs,h1,fun i e cs he hc => (h2 i e cs he hc).kept k,h3.kept k⟩
theorem RepE.inv {e : Ex} {cs : List Value} (h : RepE w X e cs) : ∃ op n nm args a len cap,e=.mk op n nm args/\cs=[.int .i64 op,.int .i64 n,.string nm,.slice a len cap]/\I64 op/\I64 n/\nm.size<=9223372036854775807/\SlE w X args a len cap := by
 cases h with
 | mk vs ho hn hs hl hr hv => exact ⟨_,_,_,_,_,_,_,rfl,rfl,ho,hn,hs,vs,hl,hr,hv⟩
theorem RepT.inv {e : Te} {cs : List Value} (h : RepT w X e cs) : ∃ op nm exprs terms a len cap a' len' cap',e=.mk op nm exprs terms/\cs=[.int .i64 op,.string nm,.slice a len cap,.slice a' len' cap']/\I64 op/\nm.size<=9223372036854775807/\SlE w X exprs a len cap/\SlT w X terms a' len' cap' := by
 cases h with
 | mk vs ho hs he hl hr hv => exact ⟨_,_,_,_,_,_,_,_,_,_,rfl,rfl,ho,hs,he,vs,hl,hr,hv⟩
theorem RepE.mk' {op n : Int} {nm : ByteArray} {args : List Ex} (ho : I64 op) (hn : I64 n) (hs : nm.size<=9223372036854775807) (h : SlE w X args a len cap) : RepE w X (.mk op n nm args) [.int .i64 op,.int .i64 n,.string nm,.slice a len cap] := by
 obtain ⟨vs,h1,h2,h3⟩ := h; exact .mk vs ho hn hs h1 h2 h3
theorem RepT.mk' {op : Int} {nm : ByteArray} {exprs : List Ex} {terms : List Te} {a' : Option Addr} {len' cap' : Nat} (ho : I64 op) (hs : nm.size<=9223372036854775807) (he : SlE w X exprs a len cap) (h : SlT w X terms a' len' cap') : RepT w X (.mk op nm exprs terms) [.int .i64 op,.string nm,.slice a len cap,.slice a' len' cap'] := by
 obtain ⟨vs,h1,h2,h3⟩ := h; exact .mk vs ho hs he h1 h2 h3
theorem SlE.facts {l : List Ex} (h : SlE w X l a len cap) : l.length=len/\len<=cap/\cap<=9223372036854775807 := by
 obtain ⟨vs,h1,_,h3⟩ := h; exact ⟨by rw [<- h1]; exact h3.1,h3.2.1,h3.2.2.1⟩
theorem SlT.facts {l : List Te} (h : SlT w X l a len cap) : l.length=len/\len<=cap/\cap<=9223372036854775807 := by
 obtain ⟨vs,h1,_,h3⟩ := h; exact ⟨by rw [<- h1]; exact h3.1,h3.2.1,h3.2.2.1⟩
theorem SlE.nil (w : World) (X : List Nat) : SlE w X [] none 0 0 := ⟨[],rfl,fun i e cs h _ => by simp at h,Sl.nil _ _ _⟩
theorem SlT.nil (w : World) (X : List Nat) : SlT w X [] none 0 0 := ⟨[],rfl,fun i e cs h _ => by simp at h,Sl.nil _ _ _⟩
def Four (w : World) (b o : Nat) (c0 c1 c2 c3 : Value) : Prop := w.cell? ⟨b,o,none⟩=some c0/\w.cell? ⟨b,o + 1,none⟩=some c1/\w.cell? ⟨b,o + 2,none⟩=some c2/\w.cell? ⟨b,o + 3,none⟩=some c3
theorem four_of {b o : Nat} {c0 c1 c2 c3 : Value} (h : ∀ j c,[c0,c1,c2,c3][j]?=some c->w.cell? ⟨b,o + j,none⟩=some c) : Four w b o c0 c1 c2 c3 := ⟨h 0 c0 rfl,h 1 c1 rfl,h 2 c2 rfl,h 3 c3 rfl⟩
theorem SlE.at {l : List Ex} (h : SlE w X l a len cap) (k : Nat) (hk : k < len) : ∃ b o op n nm args a' len' cap',a=some ⟨b,o,none⟩/\b < w.heap.size/\b ∉ X/\l[k]?=some (.mk op n nm args)/\I64 op/\I64 n/\nm.size<=9223372036854775807/\SlE w X args a' len' cap' /\
 Four w b (o + k * 4) (.int .i64 op) (.int .i64 n) (.string nm) (.slice a' len' cap') := by
 have hf := h.facts;obtain ⟨vs,h1,h2,h3⟩ := h;obtain ⟨b,o,ha,hb,hx,hc⟩ := h3.2.2.2 (by omega);have hlk : l[k]?=some (l[k]'(by omega)) := List.getElem?_eq_getElem (by omega);have hvk : vs[k]?=some (vs[k]'(by omega)) := List.getElem?_eq_getElem (by omega);have hR := h2 k _ _ hlk hvk;obtain ⟨op,n,nm,args,a',len',cap',e1,e2,i1,i2,i3,i4⟩ := hR.inv;rw [e1] at hlk;rw [e2] at hvk;exact ⟨b,o,op,n,nm,args,a',len',cap',ha,hb,hx,hlk,i1,i2,i3,i4,four_of ((hc k _ hvk).2)⟩
theorem SlT.at {l : List Te} (h : SlT w X l a len cap) (k : Nat) (hk : k < len) : ∃ b o op nm exprs terms a' len' cap' a2 len2 cap2,a=some ⟨b,o,none⟩/\b < w.heap.size/\b ∉ X/\l[k]?=some (.mk op nm exprs terms)/\I64 op/\nm.size<=9223372036854775807/\SlE w X exprs a' len' cap'/\SlT w X terms a2 len2 cap2 /\
 Four w b (o + k * 4) (.int .i64 op) (.string nm) (.slice a' len' cap') (.slice a2 len2 cap2) := by
 have hf := h.facts;obtain ⟨vs,h1,h2,h3⟩ := h;obtain ⟨b,o,ha,hb,hx,hc⟩ := h3.2.2.2 (by omega);have hlk : l[k]?=some (l[k]'(by omega)) := List.getElem?_eq_getElem (by omega);have hvk : vs[k]?=some (vs[k]'(by omega)) := List.getElem?_eq_getElem (by omega);have hR := h2 k _ _ hlk hvk;obtain ⟨op,nm,exprs,terms,a',len',cap',a2,len2,cap2,e1,e2,i1,i2,i3,i4⟩ := hR.inv;rw [e1] at hlk;rw [e2] at hvk;exact ⟨b,o,op,nm,exprs,terms,a',len',cap',a2,len2,cap2,ha,hb,hx,hlk,i1,i2,i3,i4,four_of ((hc k _ hvk).2)⟩
end
def Ex.rk : Ex->Nat
 | .mk _ _ _ l => 1 + go l
 where go : List Ex->Nat
 | [] => 0
 | e :: t => max e.rk (go t)
def Te.rk : Te->Nat
 | .mk _ _ x l => 1 + max (Ex.rk.go x) (go l)
 where go : List Te->Nat
 | [] => 0
 | e :: t => max e.rk (go t)
theorem Ex.rk_mem {l : List Ex} {e : Ex} (h : e ∈ l) : e.rk<=Ex.rk.go l := by
 induction l with
 | nil => cases h
 | cons x t ih =>
   simp only [Ex.rk.go];rcases List.mem_cons.1 h with rfl | h
   . omega
   . have := ih h; omega
theorem Te.rk_mem {l : List Te} {e : Te} (h : e ∈ l) : e.rk<=Te.rk.go l := by
 induction l with
 | nil => cases h
 | cons x t ih =>
   simp only [Te.rk.go];rcases List.mem_cons.1 h with rfl | h
   . omega
   . have := ih h; omega
theorem Ex.rk_lt {op n : Int} {nm : ByteArray} {l : List Ex} {e : Ex} {k : Nat} (h : l[k]?=some e) : e.rk < (Ex.mk op n nm l).rk := by
 have := Ex.rk_mem (List.mem_of_getElem? h);simp only [Ex.rk]; omega
theorem Te.rk_lt {op : Int} {nm : ByteArray} {x : List Ex} {l : List Te} {e : Te} {k : Nat} (h : l[k]?=some e) : e.rk < (Te.mk op nm x l).rk := by
 have := Te.rk_mem (List.mem_of_getElem? h);simp only [Te.rk]; omega
def Ex.nd : Ex->Nat
 | .mk _ _ _ l => 1 + go l
 where go : List Ex->Nat
 | [] => 0
 | e :: t => e.nd + go t
def Te.nd : Te->Nat
 | .mk _ _ x l => 1 + Ex.nd.go x + go l
 where go : List Te->Nat
 | [] => 0
 | e :: t => e.nd + go t
theorem Ex.nd_take {l : List Ex} {k : Nat} {e : Ex} (h : l[k]?=some e) : Ex.nd.go (l.take (k + 1))=Ex.nd.go (l.take k) + e.nd := by
 induction l generalizing k with
 | nil => cases h
 | cons x t ih =>
   cases k with
   | zero => simp at h; subst h; simp [Ex.nd.go]
   | succ j => simp only [List.take_succ_cons,Ex.nd.go]; rw [ih (by simpa using h)]; omega
theorem Te.nd_take {l : List Te} {k : Nat} {e : Te} (h : l[k]?=some e) : Te.nd.go (l.take (k + 1))=Te.nd.go (l.take k) + e.nd := by
 induction l generalizing k with
 | nil => cases h
 | cons x t ih =>
   cases k with
   | zero => simp at h; subst h; simp [Te.nd.go]
   | succ j => simp only [List.take_succ_cons,Te.nd.go]; rw [ih (by simpa using h)]; omega
theorem Ex.rk_take {l : List Ex} {k : Nat} {e : Ex} (h : l[k]?=some e) : Ex.rk.go (l.take (k + 1))=max (Ex.rk.go (l.take k)) e.rk := by
 induction l generalizing k with
 | nil => cases h
 | cons x t ih =>
   cases k with
   | zero => simp at h; subst h; simp [Ex.rk.go]
   | succ j => simp only [List.take_succ_cons,Ex.rk.go]; rw [ih (by simpa using h)]; omega
theorem Te.rk_take {l : List Te} {k : Nat} {e : Te} (h : l[k]?=some e) : Te.rk.go (l.take (k + 1))=max (Te.rk.go (l.take k)) e.rk := by
 induction l generalizing k with
 | nil => cases h
 | cons x t ih =>
   cases k with
   | zero => simp at h; subst h; simp [Te.rk.go]
   | succ j => simp only [List.take_succ_cons,Te.rk.go]; rw [ih (by simpa using h)]; omega
theorem Ex.nd_le (l : List Ex) (k : Nat) : Ex.nd.go (l.take k)<=Ex.nd.go l := by
 induction l generalizing k with
 | nil => simp
 | cons x t ih =>
   cases k with
   | zero => simp [Ex.nd.go]
   | succ j => simp only [List.take_succ_cons,Ex.nd.go]; have := ih j; omega
theorem Te.nd_le (l : List Te) (k : Nat) : Te.nd.go (l.take k)<=Te.nd.go l := by
 induction l generalizing k with
 | nil => simp
 | cons x t ih =>
   cases k with
   | zero => simp [Te.nd.go]
   | succ j => simp only [List.take_succ_cons,Te.nd.go]; have := ih j; omega
theorem Ex.rkx_lt {op : Int} {nm : ByteArray} {x : List Ex} {l : List Te} {e : Ex} {k : Nat} (h : x[k]?=some e) : e.rk < (Te.mk op nm x l).rk := by
 have := Ex.rk_mem (List.mem_of_getElem? h);simp only [Te.rk]; omega
end Go.Proofs.YtmiinmndbkdjbaaGreat
namespace Go.Proofs.YtmiinmndbkdjbaaGreat
open Go.RowKit
end Go.Proofs.YtmiinmndbkdjbaaGreat
namespace Go.Mem
open Go.RowKit
variable {P : Program}
theorem add0 (g j : Nat) : (⟨g,0,none⟩ : Addr).add j=⟨g,j,none⟩ := by unfold Addr.add; split <;> simp_all
theorem add_off (b o j : Nat) : (⟨b,o,none⟩ : Addr).add j=⟨b,o + j,none⟩ := by unfold Addr.add; split <;> simp_all
structure Own (w0 w : World) (e : TypeId) (size : Nat) (v : Value) (n : Nat) (xs : List Value) : Prop where
 below : Below w0.heap.size w0 w
 own : w.ownsRow w0.heap.size e size v n xs
theorem Own.nil {w0 w : World} {e : TypeId} {size : Nat} (h : Below w0.heap.size w0 w) : Own w0 w e size (.slice none 0 0) 0 [] := ⟨h,World.ownsRow_nil _ _ _ _⟩
theorem Own.lit {w0 w : World} {e : TypeId} {size : Nat} (h : Below w0.heap.size w0 w) (cs : Array Value) (n : Nat) (hm : n<=maxLen) (hs : cs.size=n * size) :
 Own w0 (w.alloc (.cells cs e)) e size (.slice (some ⟨w.heap.size,0,none⟩) n n) n cs.toList :=
 ⟨h.alloc h.size _,World.ownsRow_lit w cs n h.size hm hs⟩
theorem Own.alloc {w0 w : World} {e : TypeId} {size : Nat} {v : Value} {n : Nat} {xs : List Value} (h : Own w0 w e size v n xs) (o : Obj) : Own w0 (w.alloc o) e size v n xs :=
 ⟨h.below.alloc h.below.size _,h.own.alloc o⟩
theorem grown_of_below {w w' : World} (hb : Below w.heap.size w w') (row : Option Nat) : w.grownBy w' row := ⟨hb.os,hb.tape,hb.output,hb.size,fun i hi _ => hb.block i hi⟩
theorem Own.cell {w0 w : World} {e : TypeId} {size : Nat} {g n cap : Nat} {xs : List Value} (h : Own w0 w e size (.slice (some ⟨g,0,none⟩) n cap) n xs) (j : Nat) (hj : j < n * size) : w.cell? ⟨g,j,none⟩=xs[j]? :=
 h.own.cellAt j hj
theorem lit_cells (w : World) (cs : Array Value) (t : TypeId) : ∀ j u,cs.toList[j]?=some u->(w.alloc (.cells cs t)).cell? ((⟨w.heap.size,0,none⟩ : Addr).add j)=some u := by
 intro j u h;rw [add0,World.cell?_alloc_mark]
 simpa using h
theorem ap {w0 w : World} {ops : Array Oper} {rest : List Oper} {o : Oper} {a : Act} {Q : Exit->Act->World->Prop} {t e : TypeId} {z : Value} {size bytes : Nat}
 (hinfo : (P.info? e).map (fun i => (i.zero,i.size,i.bytes))=some (some z,size,bytes)) (ht : P.underlying t=some (.slice e)) (hzs : z.cells.size=size) (hsz : 0 < size)
 (hgd : o.guard=none) (s x : Operand) (ho : o.op=.call { callee := .builtin .append,args := #[s,x],argTypes := #[t,t] })
 {v : Value} {n : Nat} {xs : List Value} (hs : a.eval s=v) (hown : Own w0 w e size v n xs)
 (ad : Addr) (m c : Nat) (news : List Value) (hx : a.eval x=.slice (some ad) m c) (hl : news.length=m * size)
 (hnews : ∀ j u,news[j]?=some u->w.cell? (ad.add j)=some u) (h1 : ∀ u ∈ news,u.oneCell'=true)
 (h63 : n + m<=maxLen) (hbytes : (n + m) * bytes<=140737488355328)
 (h : ∀ v' w',Own w0 w' e size v' (n + m) (xs ++ news)->w.grownBy w' v.ownBlock->(v'.ownBlock=v.ownBlock\/v'.ownBlock=some w.heap.size)->(v'=.slice none 0 0 ↔ v=.slice none 0 0/\m=0)->wpList P ops Q rest (a.put o.dst v') w') :
 wpList P ops Q (o :: rest) a w := by
 obtain ⟨i,hi,hz,hsize,hby⟩ := info_parts hinfo;refine wpList_plain hgd fun _ hK => ?_
 obtain ⟨v',w',hrun,h2,h3,h4,h5⟩ := run_append_own_at (P := P) w w0.heap.size t o.type e i z size bytes ht hi hz hsize hby hzs hsz v n xs hown.own ad m c news hl hnews h1 h63 hbytes hown.below.size;unfold Oper.wp execOp;simp only [ho,resolve,invoke,builtin,Sem.run_bind,Sem.run_pure,Result.andThen_ok,List.map_toArray,List.map_cons,List.map_nil,hs,hx,hrun];exact hK _ _ (h v' w' ⟨hown.below.grown h3 hown.below.size (fun k hk => (hown.own.lt k hk).1),h2⟩ h3 h5 h4)
def Blk (w : World) (g : Nat) (t : TypeId) (cs : Array Value) : Prop := w.heap[g]?=some (.cells cs t (0,0))
section
variable {w w' : World} {g : Nat} {t : TypeId} {cs : Array Value}
theorem Blk.lt (h : Blk w g t cs) : g < w.heap.size := lt_of_block h
theorem Blk.cell (h : Blk w g t cs) (i : Nat) : w.cell? ⟨g,i,none⟩=cs[i]? := cell_of_row w g i cs t (0,0) h
theorem Blk.frozen (h : Blk w g t cs) (i : Nat) : w.frozen? ⟨g,i,none⟩=false := by
 unfold Blk at h;simp [World.frozen?,h]
theorem Blk.new (w : World) (t : TypeId) (cs : Array Value) : Blk (w.alloc (.cells cs t)) w.heap.size t cs := heap_alloc_new w _
theorem Blk.drew (h : Blk w g t cs) : Blk w.drew g t cs := h
theorem Blk.alloc (h : Blk w g t cs) (o : Obj) : Blk (w.alloc o) g t cs := (Below.heap_alloc w o g h.lt).trans h
theorem Blk.set_ (h : Blk w g t cs) (i : Nat) (u : Value) : Blk (w.setCell ⟨g,i,none⟩ u) g t (cs.setIfInBounds i u) := by
 unfold Blk at h ⊢;simp [World.setCell,Array.getElem?_modify,h]
theorem Blk.far (h : Blk w g t cs) {p : Addr} (hp : g ≠ p.block) (u : Value) : Blk (w.setCell p u) g t cs := (Below.heap_setCell w p u g hp).trans h
theorem Blk.call {B : Nat} (h : Blk w g t cs) (hb : Below B w w') (hg : g < B) : Blk w' g t cs := (hb.block g hg).trans h
theorem Blk.below (h : Blk w g t cs) (hb : Below w.heap.size w w') : Blk w' g t cs := (hb.block g h.lt).trans h
theorem Blk.two {a b : Value} (h : Blk w g t #[a,b]) : w.cell? ⟨g,0,none⟩=some a/\w.cell? ⟨g,1,none⟩=some b/\w.frozen? ⟨g,0,none⟩=false/\w.frozen? ⟨g,1,none⟩=false :=
 ⟨h.cell 0,h.cell 1,h.frozen 0,h.frozen 1⟩
end
end Go.Mem
namespace Go.Proofs.YtmiinmndbkdjbaaGreat
open Go.RowKit
section
theorem enters_of {P : Program} {g : FuncId} {f : Func} (h : P.funcs[g]? = some f) (hn : (f.name == "runtime.NumGoroutine") = false) (hb : f.body.isNone = false) : ∀ args w, (callFunc g args).run P w = .ok (.enter g args) w := by
 intro args w;unfold callFunc;rw [Sem.run_bind];show Result.andThen (Result.ok P w) _=_;rw [Result.andThen_ok];rw [h];simp only [hn,hb]
 rfl
def idxF {α : Type} (p : α->Bool) (l : List α) : Int := match l.findIdx? p with | some i => (i : Nat) | none => -1
theorem idxF_hit {α : Type} (p : α->Bool) (l : List α) (k : Nat) (x : α) (h : l[k]?=some x) (hp : p x=true) (hn : ∀ j y,j < k->l[j]?=some y->p y=false) : idxF p l=(k : Nat) := by
 unfold idxF;have : l.findIdx? p=some k := by
  rw [List.findIdx?_eq_some_iff_getElem];have hk : k < l.length := (List.getElem?_eq_some_iff.1 h).1;refine ⟨hk,?_,?_⟩
  . rw [List.getElem?_eq_getElem hk] at h; injection h with h; rw [h]; exact hp
  . intro j hj; have := hn j _ hj (List.getElem?_eq_getElem (by omega)); simp [this]
 rw [this]
theorem idxF_miss {α : Type} (p : α->Bool) (l : List α) (hn : ∀ (j : Nat) y,l[j]?=some y->p y=false) : idxF p l=-1 := by
 unfold idxF;have : l.findIdx? p=none := by
  rw [List.findIdx?_eq_none_iff];intro x hx;obtain ⟨j,hj,rfl⟩ := List.getElem_of_mem hx;exact hn j _ (List.getElem?_eq_getElem hj)
 rw [this]
theorem idxF_any {α : Type} (p : α->Bool) (l : List α) : decide (0<=idxF p l)=l.any p := by
 unfold idxF
 cases h : l.findIdx? p with
 | none =>
   rw [List.findIdx?_eq_none_iff] at h;have : l.any p=false := by rw [List.any_eq_false]; intro x hx; simp [h x hx]
   rw [this]; rfl
 | some i =>
   rw [List.findIdx?_eq_some_iff_getElem] at h;obtain ⟨hi,hp,_⟩ := h;have : l.any p=true := by rw [List.any_eq_true]; exact ⟨_,List.getElem_mem hi,hp⟩
   rw [this]; simp
theorem indexE_any (g : FuncId) (p : Ex->Bool) (l : List Ex) (a : Option Addr) (len cap : Nat) (w : World) (eg : ∀ args w,(callFunc g args).run Tryz.prog w=.ok (.enter g args) w) (hS : SlE w [] l a len cap)
 (hP : ∀ (k : Nat) (e : Ex) (cs : List Value) (W : World),l[k]?=some e->RepE W [] e cs->Calls Tryz.prog g #[.agg cs.toArray] W fun r W' => r=.returned (.bool (p e))/\Below W.heap.size W W') :
 Calls Tryz.prog 91 #[.slice a len cap,.func (.func g) #[] #[]] w fun e w' => e=.returned (.int .i64 (idxF p l))/\Below w.heap.size w w' := by
 have HF : Hid (∀ x,x=idxF p l->Ending.returned (.int .i64 x)=.returned (.int .i64 (idxF p l))) := fun x h => by rw [h]
 have HH := LH9 (fun k x => idxF_hit p l k x);have HM := LH9 (idxF_miss p l);have HS := LH9 hS;have HP := LH9 hP;obtain ⟨f1,f2,f3⟩ := hS.facts;have HL := LH9 f1;clear hS hP f1
 go_enter Tryz.func91,Tryz.ntmps91
 go_wp2_with fail
 go_loopw [8] (fun i wr => ∃ k : Nat,i=.int .i64 (k : Nat)/\k<=len/\Hid (Below w.heap.size w wr)/\Hid (∀ j y,j < k->l[j]?=some y->p y=false)) (fun i _ => len - (intOf i).toNat)
 case atStart => exact ⟨0,rfl,Nat.zero_le _,Below.refl _ _,fun j y hj => absurd hj (Nat.not_lt_zero _)⟩
 case round =>
  obtain ⟨k,rfl,hk,HW,HN⟩ := hrel;by_cases hlt : k < len
  . obtain ⟨b,o,op',n',nm',args',a',len',cap',rfl,hb,hbx,hle,j1,j2,j3,hS',g0,g1,g2,g3⟩ := (HS.o.kept (Kept.of_below HW.o [])).at k hlt;have HC := LH9 (HP.o k _ _ wr hle (RepE.mk' j1 j2 j3 hS'));have HLE := LH9 hle;clear hle hS';generalize Ex.mk op' n' nm' args'=e' at *
    cases hp : p e'
    . exact Z7_86
    . exact Z7_123
  . exact Z7_138
theorem containsE_any (g : FuncId) (p : Ex->Bool) (l : List Ex) (a : Option Addr) (len cap : Nat) (w : World) (eg : ∀ args w,(callFunc g args).run Tryz.prog w=.ok (.enter g args) w) (hS : SlE w [] l a len cap)
 (hP : ∀ (k : Nat) (e : Ex) (cs : List Value) (W : World),l[k]?=some e->RepE W [] e cs->Calls Tryz.prog g #[.agg cs.toArray] W fun r W' => r=.returned (.bool (p e))/\Below W.heap.size W W') :
 Calls Tryz.prog 65 #[.slice a len cap,.func (.func g) #[] #[]] w fun e w' => e=.returned (.bool (l.any p))/\Below w.heap.size w w' := by
 have H := LH9 (indexE_any g p l a len cap w eg hS hP);have HE := LH9 (idxF_any p l);clear hS hP eg;rw [<- HE.o];generalize idxF p l=x at *
 go_enter Tryz.func65,Tryz.ntmps65
 go_wp2_with fail;refine H.o.mono ?_; rintro r w1 ⟨rfl,b1⟩
 go_wp2
 go_ret;exact ⟨rfl,b1⟩
theorem indexT_any (g : FuncId) (p : Te->Bool) (l : List Te) (a : Option Addr) (len cap : Nat) (w : World) (eg : ∀ args w,(callFunc g args).run Tryz.prog w=.ok (.enter g args) w) (hS : SlT w [] l a len cap)
 (hP : ∀ (k : Nat) (e : Te) (cs : List Value) (W : World),l[k]?=some e->RepT W [] e cs->Calls Tryz.prog g #[.agg cs.toArray] W fun r W' => r=.returned (.bool (p e))/\Below W.heap.size W W') :
 Calls Tryz.prog 133 #[.slice a len cap,.func (.func g) #[] #[]] w fun e w' => e=.returned (.int .i64 (idxF p l))/\Below w.heap.size w w' := by
 have HF : Hid (∀ x,x=idxF p l->Ending.returned (.int .i64 x)=.returned (.int .i64 (idxF p l))) := fun x h => by rw [h]
 have HH := LH9 (fun k x => idxF_hit p l k x);have HM := LH9 (idxF_miss p l);have HS := LH9 hS;have HP := LH9 hP;obtain ⟨f1,f2,f3⟩ := hS.facts;have HL := LH9 f1;clear hS hP f1
 go_enter Tryz.func133,Tryz.ntmps133
 go_wp2_with fail
 go_loopw [8] (fun i wr => ∃ k : Nat,i=.int .i64 (k : Nat)/\k<=len/\Hid (Below w.heap.size w wr)/\Hid (∀ j y,j < k->l[j]?=some y->p y=false)) (fun i _ => len - (intOf i).toNat)
 case atStart => exact ⟨0,rfl,Nat.zero_le _,Below.refl _ _,fun j y hj => absurd hj (Nat.not_lt_zero _)⟩
 case round =>
  obtain ⟨k,rfl,hk,HW,HN⟩ := hrel;by_cases hlt : k < len
  . obtain ⟨b,o,op',nm',ex',te',a',len',cap',a3,len3,cap3,rfl,hb,hbx,hle,j1,j3,hS',hS3,g0,g1,g2,g3⟩ := (HS.o.kept (Kept.of_below HW.o [])).at k hlt;have HC := LH9 (HP.o k _ _ wr hle (RepT.mk' j1 j3 hS' hS3));have HLE := LH9 hle;clear hle hS' hS3;generalize Te.mk op' nm' ex' te'=e' at *
    cases hp : p e'
    . exact Z7_86
    . exact Z7_123
  . exact Z7_138
theorem containsT_any (g : FuncId) (p : Te->Bool) (l : List Te) (a : Option Addr) (len cap : Nat) (w : World) (eg : ∀ args w,(callFunc g args).run Tryz.prog w=.ok (.enter g args) w) (hS : SlT w [] l a len cap)
 (hP : ∀ (k : Nat) (e : Te) (cs : List Value) (W : World),l[k]?=some e->RepT W [] e cs->Calls Tryz.prog g #[.agg cs.toArray] W fun r W' => r=.returned (.bool (p e))/\Below W.heap.size W W') :
 Calls Tryz.prog 105 #[.slice a len cap,.func (.func g) #[] #[]] w fun e w' => e=.returned (.bool (l.any p))/\Below w.heap.size w w' := by
 have H := LH9 (indexT_any g p l a len cap w eg hS hP);have HE := LH9 (idxF_any p l);clear hS hP eg;rw [<- HE.o];generalize idxF p l=x at *
 go_enter Tryz.func105,Tryz.ntmps105
 go_wp2_with fail;refine H.o.mono ?_; rintro r w1 ⟨rfl,b1⟩
 go_wp2
 go_ret;exact ⟨rfl,b1⟩
end
section
theorem ret_bool {a b : Bool} (h : a=b) : Ending.returned (.bool a)=.returned (.bool b) := by rw [h]
def ltr (c : Int) : Bool := decide ((97<=c/\c<=122)\/(65<=c/\c<=90))
def dgt (c : Int) : Bool := decide (48<=c/\c<=57)
def prt (c : Int) : Bool := ltr c || dgt c || decide (c=95)
theorem letter_any (c : Int) (w : World) : Calls Tryz.prog 144 #[.int .u8 c] w fun e w' => e=.returned (.bool (ltr c))/\w=w' := by
 have HF : Hid (∀ b,ltr c=b->Ending.returned (.bool b)=.returned (.bool (ltr c))) := fun b h => ret_bool h.symm
 by_cases h1 : 97<=c <;> by_cases h2 : c<=122 <;> by_cases h3 : 65<=c <;> by_cases h4 : c<=90
 all_goals
  first
  | (exfalso; omega)
  | (have F := LH9 (HF.o true (by unfold ltr; simp; omega))
     go_enter Tryz.func144,Tryz.ntmps144
     go_wp2
     go_ret;exact ⟨F.o,rfl⟩)
  | (have F := LH9 (HF.o false (by unfold ltr; simp; omega))
     go_enter Tryz.func144,Tryz.ntmps144
     go_wp2
     go_ret;exact ⟨F.o,rfl⟩)
theorem rletter_any (c : Int) (w : World) : Calls Tryz.prog 108 #[.int .u8 c] w fun e w' => e=.returned (.bool (ltr c))/\w=w' := by
 have HF : Hid (∀ b,ltr c=b->Ending.returned (.bool b)=.returned (.bool (ltr c))) := fun b h => ret_bool h.symm
 by_cases h1 : 97<=c <;> by_cases h2 : c<=122 <;> by_cases h3 : 65<=c <;> by_cases h4 : c<=90
 all_goals
  first
  | (exfalso; omega)
  | (have F := LH9 (HF.o true (by unfold ltr; simp; omega))
     go_enter Tryz.func108,Tryz.ntmps108
     go_wp2
     go_ret;exact ⟨F.o,rfl⟩)
  | (have F := LH9 (HF.o false (by unfold ltr; simp; omega))
     go_enter Tryz.func108,Tryz.ntmps108
     go_wp2
     go_ret;exact ⟨F.o,rfl⟩)
theorem digit_any (c : Int) (w : World) : Calls Tryz.prog 149 #[.int .u8 c] w fun e w' => e=.returned (.bool (dgt c))/\w=w' := by
 have HF : Hid (∀ b,dgt c=b->Ending.returned (.bool b)=.returned (.bool (dgt c))) := fun b h => ret_bool h.symm
 by_cases h1 : 48<=c <;> by_cases h2 : c<=57
 all_goals
  first
  | (exfalso; omega)
  | (have F := LH9 (HF.o true (by unfold dgt; simp; omega))
     go_enter Tryz.func149,Tryz.ntmps149
     go_wp2
     go_ret;exact ⟨F.o,rfl⟩)
  | (have F := LH9 (HF.o false (by unfold dgt; simp; omega))
     go_enter Tryz.func149,Tryz.ntmps149
     go_wp2
     go_ret;exact ⟨F.o,rfl⟩)
theorem part_any (c : Int) (w : World) : Calls Tryz.prog 146 #[.int .u8 c] w fun e w' => e=.returned (.bool (prt c))/\w=w' := by
 have HF : Hid (∀ b,prt c=b->Ending.returned (.bool b)=.returned (.bool (prt c))) := fun b h => ret_bool h.symm
 have HL := LH9 (fun W => letter_any c W);have HD := LH9 (fun W => digit_any c W);have HP := LH9 (show prt c=(ltr c || dgt c || decide (c=95)) from rfl);generalize ltr c=a at *;generalize dgt c=b at *
 cases a <;> cases b
 case false.false =>
  have F := LH9 (HF.o (c == 95) (by rw [HP.o]; rfl))
  exact Z7_125
 case false.true =>
  have F := LH9 (HF.o true (by rw [HP.o]; simp))
  exact Z7_125
 all_goals
  have F := LH9 (HF.o true (by rw [HP.o]; simp))
  go_enter Tryz.func146,Tryz.ntmps146
  exact Z7_102
theorem rpart_any (c : Int) (w : World) : Calls Tryz.prog 109 #[.int .u8 c] w fun e w' => e=.returned (.bool (prt c))/\w=w' := by
 have HF : Hid (∀ b,prt c=b->Ending.returned (.bool b)=.returned (.bool (prt c))) := fun b h => ret_bool h.symm
 have HL := LH9 (fun W => rletter_any c W);have HP := LH9 (show prt c=(ltr c || decide (48<=c/\c<=57) || decide (c=95)) from rfl);generalize ltr c=a at *
 cases a
 case false =>
  by_cases h1 : 48<=c
  all_goals
   go_enter Tryz.func109,Tryz.ntmps109
   go_wp2_with fail;refine (HL.o _).mono ?_; rintro e w' ⟨rfl,rfl⟩
   go_wp2
   all_goals
    go_ret;exact ⟨HF.o _ (by rw [HP.o,Bool.eq_iff_iff]; simp; try omega),rfl⟩
 all_goals
  have F := LH9 (HF.o true (by rw [HP.o]; simp))
  go_enter Tryz.func109,Tryz.ntmps109
  exact Z7_102
def bs (s : ByteArray) : List Int := s.data.toList.map fun c => (c.toNat : Int)
theorem bs_len (s : ByteArray) : (bs s).length=s.size := by unfold bs; simp
theorem bs_get (s : ByteArray) (k : Nat) (h : k < s.size) : (bs s)[k]?=some ((s[k].toNat : Nat) : Int) := by
 unfold bs;rw [List.getElem?_map,List.getElem?_eq_getElem (by simpa using h)]; rfl
def runN (p : Int->Bool) : List Int->Nat
 | [] => 0
 | c :: t => if p c then 1 + runN p t else 0
theorem runN_le (p : Int->Bool) (l : List Int) : runN p l<=l.length := by
 induction l with
 | nil => exact Nat.le_refl _
 | cons c t ih => simp only [runN]; split <;> simp <;> omega
theorem runN_all (p : Int->Bool) (l : List Int) : runN p l=l.length ↔ l.all p=true := by
 induction l with
 | nil => simp [runN]
 | cons c t ih =>
   have := runN_le p t;simp only [runN,List.all_cons,List.length_cons]
   cases h : p c
   . simp
   . simp only [if_true,Bool.true_and,<- ih]; omega
theorem runN_at (p : Int->Bool) (l : List Int) (k : Nat) (c : Int) (h : l[k]?=some c) (hr : k<=runN p l) : (p c=true->k + 1<=runN p l)/\(p c=false->runN p l=k) := by
 induction l generalizing k with
 | nil => cases h
 | cons x t ih =>
   simp only [runN] at hr ⊢
   cases k with
   | zero =>
     simp at h; subst h
     constructor
     . intro hp; rw [if_pos hp]; omega
     . intro hp; rw [hp]; rfl
   | succ j =>
     cases hx : p x
     . rw [hx] at hr; simp at hr
     . simp only [hx,if_true] at hr ⊢;have := ih j (by simpa using h) (by omega)
       constructor
       . intro hp; have := this.1 hp; omega
       . intro hp; have := this.2 hp; omega
theorem run_any (s : ByteArray) (w : World) (hs : s.size<=9223372036854775807) :
 Calls Tryz.prog 145 #[.string s,.func (.func 146) #[] #[]] w fun e w' => e=.returned (.int .i64 (runN prt (bs s) : Nat))/\w=w' := by
 have HP := LH9 (fun c W => part_any c W);have HA := LH9 (fun k c => runN_at prt (bs s) k c);have HL := LH9 (runN_le prt (bs s));have HG := LH9 (fun k h => bs_get s k h);have HN := LH9 (bs_len s);generalize runN prt (bs s)=r at *
 go_enter Tryz.func145,Tryz.ntmps145
 go_wp2_with fail
 go_loop [5] (fun n => ∃ k : Nat,n=.int .i64 k/\k<=r/\k<=s.size) (fun n => s.size - (intOf n).toNat)
 case atStart => exact ⟨0,rfl,Nat.zero_le _,Nat.zero_le _⟩
 case round =>
  obtain ⟨k,rfl,hk,hk2⟩ := hrel;by_cases hlt : k < s.size
  . have ha := HA.o k _ (HG.o k hlt) hk;have HC := LH9 (fun W => HP.o (s[k].toNat : Nat) W)
    cases hp : prt (s[k].toNat : Nat)
    . rw [hp] at HC;have e := ha.2 hp;clear ha hp;subst e;go_wp2_with fail;refine (HC.o _).mono ?_; rintro e w' ⟨rfl,rfl⟩
      go_wp2
      go_ret;exact ⟨rfl,rfl⟩
    . exact Z7_120
  . have e : k=r := by have h1 := HL.o; have h2 := HN.o; rw [h2] at h1; omega
    subst e
    go_wp2
    go_ret;exact ⟨rfl,rfl⟩
end
section
def nmd (s : ByteArray) : Bool := decide (1<=s.size) && decide (s.size<=16) && ltr ((bs s).getD 0 0) && (bs s).all prt
theorem ne_nil_size (s : ByteArray) : (s.data.toList.isEmpty=false) ↔ 1<=s.size := by
 have e : s.data.toList.length=s.size := rfl
 cases h : s.data.toList with
 | nil => rw [h] at e; exact ⟨(fun h => by cases h),(fun h => by simp only [List.length_nil] at e; omega)⟩
 | cons a t => rw [h] at e; exact ⟨(fun _ => by simp only [List.length_cons] at e; omega),(fun _ => rfl)⟩
theorem named_any (s : ByteArray) (w : World) (hs : s.size<=9223372036854775807) : Calls Tryz.prog 129 #[.string s] w fun e w' => e=.returned (.bool (nmd s))/\w=w' := by
 have HF : Hid (∀ b,nmd s=b->Ending.returned (.bool b)=.returned (.bool (nmd s))) := fun b h => ret_bool h.symm
 have HR := LH9 (fun W => run_any s W hs);have HN := LH9 (show nmd s=(decide (1<=s.size) && decide (s.size<=16) && ltr ((bs s).getD 0 0) && (bs s).all prt) from rfl);have HE := LH9 (ne_nil_size s);have HA := LH9 (runN_all prt (bs s));have HB := LH9 (bs_len s);have HG := LH9 (fun k h => bs_get s k h);by_cases h1 : 1<=s.size
 case neg =>
  have h0 : s.toList=[] := by
   cases hh : s.toList with
   | nil => rfl
   | cons a t => exfalso; have := (HE.o).1 (by rw [<- ByteArray.toList_eq,hh]; rfl); omega
  have F := LH9 (HF.o false (by rw [HN.o]; simp [h1]));clear h1
  go_enter Tryz.func129,Tryz.ntmps129
  go_wp2
  go_ret;exact ⟨F.o,rfl⟩
 have h0 : s.toList.isEmpty=false := by rw [ByteArray.toList_eq]; exact (HE.o).2 h1
 have h0' : (!s.toList.isEmpty)=true := by rw [h0]; rfl
 by_cases h2 : s.size<=16
 case neg =>
  have F := LH9 (HF.o false (by rw [HN.o]; simp [h2]))
  go_enter Tryz.func129,Tryz.ntmps129
  go_wp2
  go_ret;exact ⟨F.o,rfl⟩
 have HL := LH9 (fun W => letter_any (s[0].toNat : Nat) W);have eg : (bs s).getD 0 0=(s[0].toNat : Nat) := by rw [List.getD_eq_getElem?_getD,HG.o 0 h1]; rfl
 have HL2 := LH9 (show nmd s=(ltr (s[0].toNat : Nat) && (bs s).all prt) by rw [HN.o,eg]; simp [h1,h2]);clear eg
 cases hl : ltr (s[0].toNat : Nat)
 . rw [hl] at HL HL2;have F := LH9 (HF.o false (by rw [HL2.o]; rfl));clear hl
   go_enter Tryz.func129,Tryz.ntmps129
   exact Z7_102
 . rw [hl] at HL HL2;have F := LH9 (HF.o (((runN prt (bs s) : Nat) : Int) == (s.size : Nat)) (by
    rw [HL2.o,Bool.eq_iff_iff,Bool.true_and,<- HA.o,HB.o]; simp; omega))
   clear hl;generalize runN prt (bs s)=r at *
   go_enter Tryz.func129,Tryz.ntmps129
   go_wp2_with fail;refine (HL.o _).mono ?_; rintro e w' ⟨rfl,rfl⟩;go_wp2_with fail;refine (HR.o _).mono ?_; rintro e w' ⟨rfl,rfl⟩
   go_wp2
   go_ret;exact ⟨F.o,rfl⟩
theorem rnamed_any (s : ByteArray) (w : World) (hs : s.size<=9223372036854775807) : Calls Tryz.prog 85 #[.string s] w fun e w' => e=.returned (.bool (nmd s))/\w=w' := by
 have HF : Hid (∀ b,nmd s=b->Ending.returned (.bool b)=.returned (.bool (nmd s))) := fun b h => ret_bool h.symm
 have HN := LH9 (show nmd s=(decide (1<=s.size) && decide (s.size<=16) && ltr ((bs s).getD 0 0) && (bs s).all prt) from rfl);have HB := LH9 (bs_len s);have HG := LH9 (fun k h => bs_get s k h);by_cases h1 : 1<=s.size
 case neg =>
  have F := LH9 (HF.o false (by rw [HN.o]; simp [h1]));have h0 : decide (s.size < 1)=true := decide_eq_true (by omega)
  go_enter Tryz.func85,Tryz.ntmps85
  go_wp2
  go_ret;exact ⟨F.o,rfl⟩
 by_cases h2 : s.size<=16
 case neg =>
  have F := LH9 (HF.o false (by rw [HN.o]; simp [h2]))
  go_enter Tryz.func85,Tryz.ntmps85
  go_wp2
  go_ret;exact ⟨F.o,rfl⟩
 have HL := LH9 (fun W => rletter_any (s[0].toNat : Nat) W);have eg : (bs s).getD 0 0=(s[0].toNat : Nat) := by rw [List.getD_eq_getElem?_getD,HG.o 0 h1]; rfl
 have HL2 := LH9 (show nmd s=(ltr (s[0].toNat : Nat) && (bs s).all prt) by rw [HN.o,eg]; simp [h1,h2]);clear eg
 cases hl : ltr (s[0].toNat : Nat)
 . rw [hl] at HL HL2;have F := LH9 (HF.o false (by rw [HL2.o]; rfl));clear hl
   go_enter Tryz.func85,Tryz.ntmps85
   exact Z7_102
 . rw [hl] at HL HL2;have HA := LH9 (fun k c => runN_at prt (bs s) k c);have HT := LH9 (runN_all prt (bs s));have HQ := LH9 (runN_le prt (bs s));have FT : Hid (s.size<=runN prt (bs s)->Ending.returned (.bool true)=.returned (.bool (nmd s))) := fun h => HF.o true (by
    rw [HL2.o,Bool.true_and,<- HT.o,HB.o]; have := HQ.o; have := HB.o; omega)
   have FF : Hid (runN prt (bs s) < s.size->Ending.returned (.bool false)=.returned (.bool (nmd s))) := fun h => HF.o false (by
    rw [HL2.o,Bool.true_and]
    cases hh : (bs s).all prt with
    | false => rfl
    | true => exfalso; have := HT.o.2 hh; rw [HB.o] at this; omega)
   clear hl;generalize runN prt (bs s)=r at *
   go_enter Tryz.func85,Tryz.ntmps85
   go_wp2_with fail;refine (HL.o _).mono ?_; rintro e w' ⟨rfl,rfl⟩;go_wp2_with fail
   go_loop [3] (fun n => ∃ k : Nat,n=.int .i64 k/\k<=r/\k<=s.size) (fun n => s.size - (intOf n).toNat)
   case atStart => exact ⟨0,rfl,Nat.zero_le _,Nat.zero_le _⟩
   case round =>
    obtain ⟨k,rfl,hk,hk2⟩ := hrel;by_cases hlt : k < s.size
    . have ha := HA.o k _ (HG.o k hlt) hk;have HC := LH9 (fun W => rpart_any (s[k].toNat : Nat) W)
      cases hp : prt (s[k].toNat : Nat)
      . rw [hp] at HC;have e := ha.2 hp;clear ha hp;have F := LH9 (FF.o (by omega));clear e;go_wp2_with fail;refine (HC.o _).mono ?_; rintro e w' ⟨rfl,rfl⟩
        go_wp2
        go_ret;exact ⟨F.o,rfl⟩
      . exact Z7_120
    . have F := LH9 (FT.o (by omega))
      go_wp2
      go_ret;exact ⟨F.o,rfl⟩
end
end Go.Proofs.YtmiinmndbkdjbaaGreat
