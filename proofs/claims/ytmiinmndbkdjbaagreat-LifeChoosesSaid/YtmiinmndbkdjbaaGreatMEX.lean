/- A part of the proof: RvJ, one behind another. -/
import Derived.Test.YtmiinmndbkdjbaaGreatMEA
import Derived.Test.YtmiinmndbkdjbaaGreatMEB
import Derived.Test.YtmiinmndbkdjbaaGreatMEE
import Derived.Test.YtmiinmndbkdjbaaGreatMEJ
import Derived.Test.YtmiinmndbkdjbaaGreatMET
import Derived.Test.YtmiinmndbkdjbaaGreatMEU
import Derived.Lib.Hide
import Derived.WalkKit
set_option maxRecDepth 100000
set_option maxHeartbeats 16000000
set_option linter.unusedVariables false
set_option linter.unusedSimpArgs false
namespace Go.Proofs.YtmiinmndbkdjbaaGreat
open Go.RowKit
section
theorem infoW : (Tryz.prog.info? 97).map (fun i => (i.zero,i.size,i.bytes))=some (some (.agg #[.string ⟨#[]⟩,.int .i64 0]),2,24) := by kernel_rfl
def vlK : Elt Vl where
 sz := 2
 pos := by decide
 R := fun _ _ v cs => cs=[.string (wd v),.int .i64 v.N]
 kept := fun h _ => h
 less := fun h _ => h
 one := fun h => by subst h; exact ⟨rfl,by simp [Value.oneCell']⟩
def famRv (h : Nat) (day : Int) (a : Option Addr) (len cap : Nat) (op n : Int) (nm : ByteArray) (a' : Option Addr) (len' cap' : Nat) (vs : List Vl) (vL : Value) : List Ob :=
 [gr vlK 97 h vs vL,bx (h + 1 + 1) 97 #[.string ⟨#[]⟩,.int .i64 0],bx (h + 1) 26 #[.int .i64 day,.slice a len cap],bx h 74 #[.int .i64 op,.int .i64 n,.string nm,.slice a' len' cap']]
structure RvJ (w W : World) (day : Int) (a : Option Addr) (len cap : Nat) (op n : Int) (nm : ByteArray) (a' : Option Addr) (len' cap' : Nat) (vs : List Vl) (vL : Value) : Prop where
 below : Below w.heap.size w W
 sep : Sep W (famRv w.heap.size day a len cap op n nm a' len' cap' vs vL)
structure RvK (w W : World) (day : Int) (a : Option Addr) (len cap : Nat) (op n : Int) (nm : ByteArray) (a' : Option Addr) (len' cap' : Nat) (vs : List Vl) (vL : Value) (z : Nat) (c0 c1 : Value) : Prop where
 below : Below w.heap.size w W
 hi : w.heap.size<=z
 sep : Sep W (bx z 97 #[c0,c1] :: famRv w.heap.size day a len cap op n nm a' len' cap' vs vL)
section
variable {w W W' : World} {day : Int} {a : Option Addr} {len cap : Nat} {op n : Int} {nm : ByteArray} {a' : Option Addr} {len' cap' : Nat} {vs : List Vl} {vL : Value} {z : Nat} {c0 c1 : Value}
theorem RvJ.st (h : RvJ w W day a len cap op n nm a' len' cap' vs vL) : RvSt w W day a len cap op n nm a' len' cap' := ⟨h.below,h.sep.blk 3 rfl,h.sep.blk 2 rfl,h.sep.blk 1 rfl⟩
theorem RvK.st (h : RvK w W day a len cap op n nm a' len' cap' vs vL z c0 c1) : RvSt w W day a len cap op n nm a' len' cap' := ⟨h.below,h.sep.blk 4 rfl,h.sep.blk 3 rfl,h.sep.blk 2 rfl⟩
theorem RvJ.up (h : RvJ w W day a len cap op n nm a' len' cap' vs vL) (hb : Below W.heap.size W W') : RvJ w W' day a len cap op n nm a' len' cap' vs vL := ⟨h.below.trans (hb.mono h.below.size),h.sep.below hb⟩
theorem RvK.up (h : RvK w W day a len cap op n nm a' len' cap' vs vL z c0 c1) (hb : Below W.heap.size W W') : RvK w W' day a len cap op n nm a' len' cap' vs vL z c0 c1 := ⟨h.below.trans (hb.mono h.below.size),h.hi,h.sep.below hb⟩
theorem RvJ.new (h : RvJ w W day a len cap op n nm a' len' cap' vs vL) (c0 c1 : Value) : RvK w (W.alloc (.cells #[c0,c1] 97)) day a len cap op n nm a' len' cap' vs vL W.heap.size c0 c1 :=
 ⟨h.below.alloc h.below.size _,h.below.size,h.sep.new 97 #[c0,c1]⟩
theorem RvK.set2 (h : RvK w W day a len cap op n nm a' len' cap' vs vL z c0 c1) (d0 d1 : Value) : RvK w ((W.setCell ⟨z,0,none⟩ d0).setCell ⟨z,1,none⟩ d1) day a len cap op n nm a' len' cap' vs vL z d0 d1 :=
 ⟨(h.below.setCell h.hi _).setCell h.hi _,h.hi,(h.sep.store 0 rfl 0 d0).store 0 rfl 1 d1⟩
theorem RvK.push {W1 : World} {csl : List (List Value)} {v' : Value} {x : Vl} (h : RvK w W day a len cap op n nm a' len' cap' vs vL z c0 c1)
 (hG : Grow vlK 97 w.heap.size W (others (bx z 97 #[c0,c1] :: famRv w.heap.size day a len cap op n nm a' len' cap' vs vL) 1) vs vL csl)
 (ho : W1.ownsRow w.heap.size 97 2 v' (vs.length + 1) (csl.flatten ++ [.string (wd x),.int .i64 x.N])) (hg : W.grownBy W1 vL.ownBlock) (hv : v'.ownBlock=vL.ownBlock\/v'.ownBlock=some W.heap.size) :
 RvJ w W1 day a len cap op n nm a' len' cap' (vs ++ [x]) v' := by
 have h1 := h.sep.push 1 rfl hG (x := x) (c := [.string (wd x),.int .i64 x.N]) rfl ho hg hv;exact ⟨h.below.grown hg h.below.size (fun b hb => (hG.blt hb).1),h1.drop 0⟩
end
theorem RvJ.start (w : World) (day : Int) (a : Option Addr) (len cap : Nat) (op n : Int) (nm : ByteArray) (a' : Option Addr) (len' cap' : Nat) :
 RvJ w (((w.alloc (.cells #[.int .i64 op,.int .i64 n,.string nm,.slice a' len' cap'] 74)).alloc (.cells #[.int .i64 day,.slice a len cap] 26)).alloc (.cells #[.string ⟨#[]⟩,.int .i64 0] 97)) day a len cap op n nm a' len' cap' [] (.slice none 0 0) := by
 have h1 := (((Sep.nil w).new 74 #[.int .i64 op,.int .i64 n,.string nm,.slice a' len' cap']).new 26 #[.int .i64 day,.slice a len cap]).new 97 #[.string ⟨#[]⟩,.int .i64 0];have e1 : (w.alloc (.cells #[.int .i64 op,.int .i64 n,.string nm,.slice a' len' cap'] 74)).heap.size=w.heap.size + 1 := by simp
 have e2 : ((w.alloc (.cells #[.int .i64 op,.int .i64 n,.string nm,.slice a' len' cap'] 74)).alloc (.cells #[.int .i64 day,.slice a len cap] 26)).heap.size=w.heap.size + 1 + 1 := by simp
 rw [e1,e2] at h1;exact ⟨(((Below.refl _ w).alloc (Nat.le_refl _) _).alloc (by simp) _).alloc (by simp; omega) _,h1.addGr vlK 97 (by simp; omega)⟩
theorem RvJ.val {w W : World} {day : Int} {a : Option Addr} {len cap : Nat} {op n : Int} {nm : ByteArray} {a' : Option Addr} {len' cap' : Nat} {vs : List Vl} {vL : Value} (h : RvJ w W day a len cap op n nm a' len' cap' vs vL) :
 ∃ p cL,vL=.slice p vs.length cL/\(0 < vs.length->∃ g,p=some ⟨g,0,none⟩/\∀ k x,vs[k]?=some x->W.cell? ⟨g,k * 2,none⟩=some (.string (wd x))/\W.cell? ⟨g,k * 2 + 1,none⟩=some (.int .i64 x.N)) := by
 obtain ⟨p,cL,hv⟩ := h.sep.form 0 rfl;refine ⟨p,cL,hv,fun hp => ?_⟩;obtain ⟨g,cL',-,-,hv',-⟩ := h.sep.elt 0 rfl 0 hp;rw [hv] at hv';injection hv' with e1 e2 e3;subst e1;refine ⟨g,rfl,fun k x hx => ?_⟩;obtain ⟨g2,c2,x2,cs2,hv2,-,hx2,hR,-,hc⟩ := h.sep.elt 0 rfl k (List.getElem?_eq_some_iff.1 hx).1;rw [hv] at hv2;injection hv2 with e1 _ _;injection e1 with e1;injection e1 with e1;subst e1;rw [hx] at hx2;injection hx2 with hx2;subst hx2;have hR' : cs2=[.string (wd x),.int .i64 x.N] := hR;subst hR';exact ⟨hc 0 _ (by decide) rfl,hc 1 _ (by decide) rfl⟩
end
end Go.Proofs.YtmiinmndbkdjbaaGreat
