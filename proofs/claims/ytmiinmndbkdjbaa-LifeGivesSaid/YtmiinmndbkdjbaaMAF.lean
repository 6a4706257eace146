/- A part of the proof: BuildA, RefB, one behind another. -/
import Derived.Test.YtmiinmndbkdjbaaMAA
import Derived.Test.YtmiinmndbkdjbaaMAB
import Derived.Test.YtmiinmndbkdjbaaMAC
import Derived.Test.YtmiinmndbkdjbaaMAD
import Derived.Test.YtmiinmndbkdjbaaMAE
import Derived.Deep.DeepCutAuto
import Derived.Deep.CutBlock
/- Build: the relations of its loops. -/
namespace Go.Proofs.Ytmiinmndbkdjbaa
set_option linter.unusedVariables false
set_option linter.unusedSimpArgs false
open Go.RowKit
def nil1 : Value := .slice none 0 0
/-- The tree so far: six slices in a block; the answer's block. -/
def famB (h : Nat) (es : List Ex) (ts : List Te) (ns ds ms ps : List Int) (vE vN vD vT vM vP : Value) : List Ob :=
  [gr exK 53 h es vE, gr i64K 3 h ns vN, gr i64K 3 h ds vD, gr teK 32 h ts vT, gr i64K 3 h ms vM, gr i64K 3 h ps vP,
    bx (h + 1) 58 #[vE, vN, vD, vT, vM, vP], bx h 58 #[.slice none 0 0, .slice none 0 0, .slice none 0 0, .slice none 0 0, .slice none 0 0, .slice none 0 0]]
structure B1 (w wr : World) (es : List Ex) (ts : List Te) (ns ds ms ps : List Int) (vE vN vD vT vM vP : Value) : Prop where
  below : Below w.heap.size w wr
  sep : Sep wr (famB w.heap.size es ts ns ds ms ps vE vN vD vT vM vP)
/-- Within an expression: the arguments so far; its own block, and the leaf's. -/
structure B2 (w wr : World) (xb : Nat) (lf : Lf) (ka : Option Addr) (kc : Nat) (args : List Ex) (vA : Value) (es : List Ex) (ts : List Te) (ns ds ms ps : List Int) (vE vN vD vT vM vP : Value) : Prop where
  below : Below w.heap.size w wr
  sep : Sep wr (gr exK 53 w.heap.size args vA :: bx (xb + 1) 53 #[.int .i64 lf.op, .int .i64 lf.n, .string lf.nm, vA] :: bx xb 83 #[.int .i64 lf.op, .int .i64 lf.n, .string lf.nm, .slice ka lf.kids.length kc] :: famB w.heap.size es ts ns ds ms ps vE vN vD vT vM vP)
/-- Within a term: its expressions and terms so far; its own block, and the knot's. -/
def famK (h xb : Nat) (kn : Kn) (ka kb : Option Addr) (kc kd : Nat) (xs : List Ex) (vX : Value) (ys : List Te) (vY : Value) (es : List Ex) (ts : List Te) (ns ds ms ps : List Int) (vE vN vD vT vM vP : Value) : List Ob :=
  gr exK 53 h xs vX :: gr teK 32 h ys vY :: bx (xb + 1) 32 #[.int .i64 kn.op, .string kn.nm, vX, vY] :: bx xb 87 #[.int .i64 kn.op, .string kn.nm, .slice ka kn.exprs.length kc, .slice kb kn.terms.length kd] :: famB h es ts ns ds ms ps vE vN vD vT vM vP
structure B3 (w wr : World) (xb : Nat) (kn : Kn) (ka kb : Option Addr) (kc kd : Nat) (xs : List Ex) (vX : Value) (ys : List Te) (vY : Value) (es : List Ex) (ts : List Te) (ns ds ms ps : List Int) (vE vN vD vT vM vP : Value) : Prop where
  below : Below w.heap.size w wr
  sep : Sep wr (famK w.heap.size xb kn ka kb kc kd xs vX ys vY es ts ns ds ms ps vE vN vD vT vM vP)
section
variable {w wr wr' : World} {es : List Ex} {ts : List Te} {ns ds ms ps : List Int} {vE vN vD vT vM vP : Value} {xb : Nat} {lf : Lf} {ka : Option Addr} {kc : Nat} {args : List Ex} {vA : Value}
theorem infoI : (Try.prog.info? 3).map (fun i => (i.zero, i.size, i.bytes)) = some (some (.int .i64 0), 1, 8) := by kernel_rfl
theorem Sep.addGr {α : Type} {fam : List Ob} (h : Sep wr fam) (K : Elt α) (e : TypeId) {base : Nat} (hb : base ≤ wr.heap.size) : Sep wr (gr K e base [] (.slice none 0 0) :: fam) :=
  h.cons (o := gr K e base [] (.slice none 0 0)) (Kept.refl wr []) (fun b hb' => by cases hb') ⟨[], Grow.start K e hb h.lt⟩
theorem B1.start (h : Sep wr [bx (w.heap.size + 1) 58 #[.slice none 0 0, .slice none 0 0, .slice none 0 0, .slice none 0 0, .slice none 0 0, .slice none 0 0], bx w.heap.size 58 #[.slice none 0 0, .slice none 0 0, .slice none 0 0, .slice none 0 0, .slice none 0 0, .slice none 0 0]])
    (hb : Below w.heap.size w wr) : B1 w wr [] [] [] [] [] [] (.slice none 0 0) (.slice none 0 0) (.slice none 0 0) (.slice none 0 0) (.slice none 0 0) (.slice none 0 0) := by
  have hs := hb.size
  exact ⟨hb, (((((h.addGr i64K 3 hs).addGr i64K 3 hs).addGr teK 32 hs).addGr i64K 3 hs).addGr i64K 3 hs).addGr exK 53 hs⟩
/-- A leaf and its expression are laid. -/
theorem B1.enter (h : B1 w wr es ts ns ds ms ps vE vN vD vT vM vP) (lf : Lf) (ka : Option Addr) (kc : Nat) :
    B2 w ((wr.alloc (.cells #[.int .i64 lf.op, .int .i64 lf.n, .string lf.nm, .slice ka lf.kids.length kc] 83)).alloc (.cells #[.int .i64 lf.op, .int .i64 lf.n, .string lf.nm, .slice none 0 0] 53)) wr.heap.size lf ka kc [] (.slice none 0 0) es ts ns ds ms ps vE vN vD vT vM vP := by
  have hs := h.below.size
  have h1 := (h.sep.new 83 #[.int .i64 lf.op, .int .i64 lf.n, .string lf.nm, .slice ka lf.kids.length kc]).new 53 #[.int .i64 lf.op, .int .i64 lf.n, .string lf.nm, .slice none 0 0]
  rw [show (wr.alloc (.cells #[.int .i64 lf.op, .int .i64 lf.n, .string lf.nm, .slice ka lf.kids.length kc] 83)).heap.size = wr.heap.size + 1 by simp] at h1
  exact ⟨(h.below.alloc hs _).alloc (by simp; omega) _, h1.addGr exK 53 (by simp; omega)⟩
/-- An argument more: appended, and stored. -/
theorem B2.push {w1 : World} {csl : List (List Value)} {v' : Value} {x : Ex} {c : List Value} (h : B2 w wr xb lf ka kc args vA es ts ns ds ms ps vE vN vD vT vM vP)
    (hG : Grow exK 53 w.heap.size wr (others (gr exK 53 w.heap.size args vA :: bx (xb + 1) 53 #[.int .i64 lf.op, .int .i64 lf.n, .string lf.nm, vA] :: bx xb 83 #[.int .i64 lf.op, .int .i64 lf.n, .string lf.nm, .slice ka lf.kids.length kc] :: famB w.heap.size es ts ns ds ms ps vE vN vD vT vM vP) 0) args vA csl)
    (hR : RepE wr (owns (gr exK 53 w.heap.size args vA :: bx (xb + 1) 53 #[.int .i64 lf.op, .int .i64 lf.n, .string lf.nm, vA] :: bx xb 83 #[.int .i64 lf.op, .int .i64 lf.n, .string lf.nm, .slice ka lf.kids.length kc] :: famB w.heap.size es ts ns ds ms ps vE vN vD vT vM vP)) x c)
    (ho : w1.ownsRow w.heap.size 53 4 v' (args.length + 1) (csl.flatten ++ c)) (hg : wr.grownBy w1 vA.ownBlock) (hv : v'.ownBlock = vA.ownBlock ∨ v'.ownBlock = some wr.heap.size) (hx : w.heap.size ≤ xb) :
    B2 w (w1.setCell ⟨xb + 1, 3, none⟩ v') xb lf ka kc (args ++ [x]) v' es ts ns ds ms ps vE vN vD vT vM vP := by
  have h1 := h.sep.push 0 rfl hG (x := x) (c := c) hR ho hg hv
  have h2 := h1.store 1 rfl 3 v'
  refine ⟨(h.below.grown hg h.below.size (fun b hb => (hG.blt hb).1)).setCell (by show w.heap.size ≤ xb + 1; omega) _, h2⟩
/-- The expression itself is appended to the tree's. -/
theorem B2.box (h : B2 w wr xb lf ka kc args vA es ts ns ds ms ps vE vN vD vT vM vP) (j1 : I64 lf.op) (j2 : I64 lf.n) (j3 : lf.nm.size ≤ 9223372036854775807) : ∃ aA cA, vA = .slice aA args.length cA ∧ RepE wr (owns (famB w.heap.size es ts ns ds ms ps vE vN vD vT vM vP)) (.mk lf.op lf.n lf.nm args) [.int .i64 lf.op, .int .i64 lf.n, .string lf.nm, .slice aA args.length cA] := by
  obtain ⟨aA, cA, hv, hS⟩ := h.sep.still 0 rfl
  refine ⟨aA, cA, hv, RepE.mk' j1 j2 j3 (hS.less (fun b hb hm => ?_))⟩
  obtain ⟨m, o, ho, hb'⟩ := mem_owns.1 hm
  exact mem_others.2 ⟨m + 3, o, by omega, by simpa using ho, hb'⟩
theorem B1.pushE {w1 : World} {csl : List (List Value)} {v' : Value} {x : Ex} {c : List Value} (h : B1 w wr es ts ns ds ms ps vE vN vD vT vM vP)
    (hG : Grow exK 53 w.heap.size wr (others (famB w.heap.size es ts ns ds ms ps vE vN vD vT vM vP) 0) es vE csl)
    (hR : RepE wr (owns (famB w.heap.size es ts ns ds ms ps vE vN vD vT vM vP)) x c)
    (ho : w1.ownsRow w.heap.size 53 4 v' (es.length + 1) (csl.flatten ++ c)) (hg : wr.grownBy w1 vE.ownBlock) (hv : v'.ownBlock = vE.ownBlock ∨ v'.ownBlock = some wr.heap.size) :
    (w1.cell? ⟨w.heap.size + 1, 0, none⟩ = some vE ∧ w1.frozen? ⟨w.heap.size + 1, 0, none⟩ = false) ∧ B1 w (w1.setCell ⟨w.heap.size + 1, 0, none⟩ v') (es ++ [x]) ts ns ds ms ps v' vN vD vT vM vP := by
  have h1 := h.sep.push 0 rfl hG (x := x) (c := c) hR ho hg hv
  have h2 := h1.store 6 rfl 0 v'
  exact ⟨⟨(h1.blk 6 rfl).cell 0, (h1.blk 6 rfl).frozen 0⟩, (h.below.grown hg h.below.size (fun b hb => (hG.blt hb).1)).setCell (by show w.heap.size ≤ w.heap.size + 1; omega) _, h2⟩
theorem B1.pushN {w1 : World} {csl : List (List Value)} {v' : Value} {x : Int} {c : List Value} (h : B1 w wr es ts ns ds ms ps vE vN vD vT vM vP)
    (hG : Grow i64K 3 w.heap.size wr (others (famB w.heap.size es ts ns ds ms ps vE vN vD vT vM vP) 1) ns vN csl)
    (hR : i64K.R wr (owns (famB w.heap.size es ts ns ds ms ps vE vN vD vT vM vP)) x c)
    (ho : w1.ownsRow w.heap.size 3 1 v' (ns.length + 1) (csl.flatten ++ c)) (hg : wr.grownBy w1 vN.ownBlock) (hv : v'.ownBlock = vN.ownBlock ∨ v'.ownBlock = some wr.heap.size) :
    (w1.cell? ⟨w.heap.size + 1, 1, none⟩ = some vN ∧ w1.frozen? ⟨w.heap.size + 1, 1, none⟩ = false) ∧ B1 w (w1.setCell ⟨w.heap.size + 1, 1, none⟩ v') es ts (ns ++ [x]) ds ms ps vE v' vD vT vM vP := by
  have h1 := h.sep.push 1 rfl hG (x := x) (c := c) hR ho hg hv
  have h2 := h1.store 6 rfl 1 v'
  exact ⟨⟨(h1.blk 6 rfl).cell 1, (h1.blk 6 rfl).frozen 1⟩, (h.below.grown hg h.below.size (fun b hb => (hG.blt hb).1)).setCell (by show w.heap.size ≤ w.heap.size + 1; omega) _, h2⟩
theorem B1.pushD {w1 : World} {csl : List (List Value)} {v' : Value} {x : Int} {c : List Value} (h : B1 w wr es ts ns ds ms ps vE vN vD vT vM vP)
    (hG : Grow i64K 3 w.heap.size wr (others (famB w.heap.size es ts ns ds ms ps vE vN vD vT vM vP) 2) ds vD csl)
    (hR : i64K.R wr (owns (famB w.heap.size es ts ns ds ms ps vE vN vD vT vM vP)) x c)
    (ho : w1.ownsRow w.heap.size 3 1 v' (ds.length + 1) (csl.flatten ++ c)) (hg : wr.grownBy w1 vD.ownBlock) (hv : v'.ownBlock = vD.ownBlock ∨ v'.ownBlock = some wr.heap.size) :
    (w1.cell? ⟨w.heap.size + 1, 2, none⟩ = some vD ∧ w1.frozen? ⟨w.heap.size + 1, 2, none⟩ = false) ∧ B1 w (w1.setCell ⟨w.heap.size + 1, 2, none⟩ v') es ts ns (ds ++ [x]) ms ps vE vN v' vT vM vP := by
  have h1 := h.sep.push 2 rfl hG (x := x) (c := c) hR ho hg hv
  have h2 := h1.store 6 rfl 2 v'
  exact ⟨⟨(h1.blk 6 rfl).cell 2, (h1.blk 6 rfl).frozen 2⟩, (h.below.grown hg h.below.size (fun b hb => (hG.blt hb).1)).setCell (by show w.heap.size ≤ w.heap.size + 1; omega) _, h2⟩
theorem B1.pushT {w1 : World} {csl : List (List Value)} {v' : Value} {x : Te} {c : List Value} (h : B1 w wr es ts ns ds ms ps vE vN vD vT vM vP)
    (hG : Grow teK 32 w.heap.size wr (others (famB w.heap.size es ts ns ds ms ps vE vN vD vT vM vP) 3) ts vT csl)
    (hR : teK.R wr (owns (famB w.heap.size es ts ns ds ms ps vE vN vD vT vM vP)) x c)
    (ho : w1.ownsRow w.heap.size 32 4 v' (ts.length + 1) (csl.flatten ++ c)) (hg : wr.grownBy w1 vT.ownBlock) (hv : v'.ownBlock = vT.ownBlock ∨ v'.ownBlock = some wr.heap.size) :
    (w1.cell? ⟨w.heap.size + 1, 3, none⟩ = some vT ∧ w1.frozen? ⟨w.heap.size + 1, 3, none⟩ = false) ∧ B1 w (w1.setCell ⟨w.heap.size + 1, 3, none⟩ v') es (ts ++ [x]) ns ds ms ps vE vN vD v' vM vP := by
  have h1 := h.sep.push 3 rfl hG (x := x) (c := c) hR ho hg hv
  have h2 := h1.store 6 rfl 3 v'
  exact ⟨⟨(h1.blk 6 rfl).cell 3, (h1.blk 6 rfl).frozen 3⟩, (h.below.grown hg h.below.size (fun b hb => (hG.blt hb).1)).setCell (by show w.heap.size ≤ w.heap.size + 1; omega) _, h2⟩
theorem B1.pushM {w1 : World} {csl : List (List Value)} {v' : Value} {x : Int} {c : List Value} (h : B1 w wr es ts ns ds ms ps vE vN vD vT vM vP)
    (hG : Grow i64K 3 w.heap.size wr (others (famB w.heap.size es ts ns ds ms ps vE vN vD vT vM vP) 4) ms vM csl)
    (hR : i64K.R wr (owns (famB w.heap.size es ts ns ds ms ps vE vN vD vT vM vP)) x c)
    (ho : w1.ownsRow w.heap.size 3 1 v' (ms.length + 1) (csl.flatten ++ c)) (hg : wr.grownBy w1 vM.ownBlock) (hv : v'.ownBlock = vM.ownBlock ∨ v'.ownBlock = some wr.heap.size) :
    (w1.cell? ⟨w.heap.size + 1, 4, none⟩ = some vM ∧ w1.frozen? ⟨w.heap.size + 1, 4, none⟩ = false) ∧ B1 w (w1.setCell ⟨w.heap.size + 1, 4, none⟩ v') es ts ns ds (ms ++ [x]) ps vE vN vD vT v' vP := by
  have h1 := h.sep.push 4 rfl hG (x := x) (c := c) hR ho hg hv
  have h2 := h1.store 6 rfl 4 v'
  exact ⟨⟨(h1.blk 6 rfl).cell 4, (h1.blk 6 rfl).frozen 4⟩, (h.below.grown hg h.below.size (fun b hb => (hG.blt hb).1)).setCell (by show w.heap.size ≤ w.heap.size + 1; omega) _, h2⟩
theorem B1.pushP {w1 : World} {csl : List (List Value)} {v' : Value} {x : Int} {c : List Value} (h : B1 w wr es ts ns ds ms ps vE vN vD vT vM vP)
    (hG : Grow i64K 3 w.heap.size wr (others (famB w.heap.size es ts ns ds ms ps vE vN vD vT vM vP) 5) ps vP csl)
    (hR : i64K.R wr (owns (famB w.heap.size es ts ns ds ms ps vE vN vD vT vM vP)) x c)
    (ho : w1.ownsRow w.heap.size 3 1 v' (ps.length + 1) (csl.flatten ++ c)) (hg : wr.grownBy w1 vP.ownBlock) (hv : v'.ownBlock = vP.ownBlock ∨ v'.ownBlock = some wr.heap.size) :
    (w1.cell? ⟨w.heap.size + 1, 5, none⟩ = some vP ∧ w1.frozen? ⟨w.heap.size + 1, 5, none⟩ = false) ∧ B1 w (w1.setCell ⟨w.heap.size + 1, 5, none⟩ v') es ts ns ds ms (ps ++ [x]) vE vN vD vT vM v' := by
  have h1 := h.sep.push 5 rfl hG (x := x) (c := c) hR ho hg hv
  have h2 := h1.store 6 rfl 5 v'
  exact ⟨⟨(h1.blk 6 rfl).cell 5, (h1.blk 6 rfl).frozen 5⟩, (h.below.grown hg h.below.size (fun b hb => (hG.blt hb).1)).setCell (by show w.heap.size ≤ w.heap.size + 1; omega) _, h2⟩
theorem B2.up (h : B2 w wr xb lf ka kc args vA es ts ns ds ms ps vE vN vD vT vM vP) (hb : Below wr.heap.size wr wr') : B2 w wr' xb lf ka kc args vA es ts ns ds ms ps vE vN vD vT vM vP :=
  ⟨h.below.trans (hb.mono h.below.size), h.sep.below hb⟩
theorem B1.up (h : B1 w wr es ts ns ds ms ps vE vN vD vT vM vP) (hb : Below wr.heap.size wr wr') : B1 w wr' es ts ns ds ms ps vE vN vD vT vM vP :=
  ⟨h.below.trans (hb.mono h.below.size), h.sep.below hb⟩
theorem B2.leave (h : B2 w wr xb lf ka kc args vA es ts ns ds ms ps vE vN vD vT vM vP) : B1 w wr es ts ns ds ms ps vE vN vD vT vM vP := ⟨h.below, ((h.sep.drop 0).drop 0).drop 0⟩
end
section
variable {w wr wr' : World} {es : List Ex} {ts : List Te} {ns ds ms ps : List Int} {vE vN vD vT vM vP : Value} {xb : Nat} {kn : Kn} {ka kb : Option Addr} {kc kd : Nat} {xs : List Ex} {ys : List Te} {vX vY : Value}
theorem B1.enterK (h : B1 w wr es ts ns ds ms ps vE vN vD vT vM vP) (kn : Kn) (ka kb : Option Addr) (kc kd : Nat) :
    B3 w ((wr.alloc (.cells #[.int .i64 kn.op, .string kn.nm, .slice ka kn.exprs.length kc, .slice kb kn.terms.length kd] 87)).alloc (.cells #[.int .i64 kn.op, .string kn.nm, .slice none 0 0, .slice none 0 0] 32)) wr.heap.size kn ka kb kc kd [] (.slice none 0 0) [] (.slice none 0 0) es ts ns ds ms ps vE vN vD vT vM vP := by
  have hs := h.below.size
  have h1 := (h.sep.new 87 #[.int .i64 kn.op, .string kn.nm, .slice ka kn.exprs.length kc, .slice kb kn.terms.length kd]).new 32 #[.int .i64 kn.op, .string kn.nm, .slice none 0 0, .slice none 0 0]
  rw [show (wr.alloc (.cells #[.int .i64 kn.op, .string kn.nm, .slice ka kn.exprs.length kc, .slice kb kn.terms.length kd] 87)).heap.size = wr.heap.size + 1 by simp] at h1
  exact ⟨(h.below.alloc hs _).alloc (by simp; omega) _, (h1.addGr teK 32 (by simp; omega)).addGr exK 53 (by simp; omega)⟩
theorem B3.pushX {w1 : World} {csl : List (List Value)} {v' : Value} {x : Ex} {c : List Value} (h : B3 w wr xb kn ka kb kc kd xs vX ys vY es ts ns ds ms ps vE vN vD vT vM vP)
    (hG : Grow exK 53 w.heap.size wr (others (famK w.heap.size xb kn ka kb kc kd xs vX ys vY es ts ns ds ms ps vE vN vD vT vM vP) 0) xs vX csl)
    (hR : RepE wr (owns (famK w.heap.size xb kn ka kb kc kd xs vX ys vY es ts ns ds ms ps vE vN vD vT vM vP)) x c)
    (ho : w1.ownsRow w.heap.size 53 4 v' (xs.length + 1) (csl.flatten ++ c)) (hg : wr.grownBy w1 vX.ownBlock) (hv : v'.ownBlock = vX.ownBlock ∨ v'.ownBlock = some wr.heap.size) (hx : w.heap.size ≤ xb) :
    (w1.cell? ⟨xb + 1, 2, none⟩ = some vX ∧ w1.frozen? ⟨xb + 1, 2, none⟩ = false) ∧ B3 w (w1.setCell ⟨xb + 1, 2, none⟩ v') xb kn ka kb kc kd (xs ++ [x]) v' ys vY es ts ns ds ms ps vE vN vD vT vM vP := by
  have h1 := h.sep.push 0 rfl hG (x := x) (c := c) hR ho hg hv
  have h2 := h1.store 2 rfl 2 v'
  exact ⟨⟨(h1.blk 2 rfl).cell 2, (h1.blk 2 rfl).frozen 2⟩, (h.below.grown hg h.below.size (fun b hb => (hG.blt hb).1)).setCell (by show w.heap.size ≤ xb + 1; omega) _, h2⟩
theorem B3.pushY {w1 : World} {csl : List (List Value)} {v' : Value} {x : Te} {c : List Value} (h : B3 w wr xb kn ka kb kc kd xs vX ys vY es ts ns ds ms ps vE vN vD vT vM vP)
    (hG : Grow teK 32 w.heap.size wr (others (famK w.heap.size xb kn ka kb kc kd xs vX ys vY es ts ns ds ms ps vE vN vD vT vM vP) 1) ys vY csl)
    (hR : RepT wr (owns (famK w.heap.size xb kn ka kb kc kd xs vX ys vY es ts ns ds ms ps vE vN vD vT vM vP)) x c)
    (ho : w1.ownsRow w.heap.size 32 4 v' (ys.length + 1) (csl.flatten ++ c)) (hg : wr.grownBy w1 vY.ownBlock) (hv : v'.ownBlock = vY.ownBlock ∨ v'.ownBlock = some wr.heap.size) (hx : w.heap.size ≤ xb) :
    (w1.cell? ⟨xb + 1, 3, none⟩ = some vY ∧ w1.frozen? ⟨xb + 1, 3, none⟩ = false) ∧ B3 w (w1.setCell ⟨xb + 1, 3, none⟩ v') xb kn ka kb kc kd xs vX (ys ++ [x]) v' es ts ns ds ms ps vE vN vD vT vM vP := by
  have h1 := h.sep.push 1 rfl hG (x := x) (c := c) hR ho hg hv
  have h2 := h1.store 2 rfl 3 v'
  exact ⟨⟨(h1.blk 2 rfl).cell 3, (h1.blk 2 rfl).frozen 3⟩, (h.below.grown hg h.below.size (fun b hb => (hG.blt hb).1)).setCell (by show w.heap.size ≤ xb + 1; omega) _, h2⟩
theorem B3.up (h : B3 w wr xb kn ka kb kc kd xs vX ys vY es ts ns ds ms ps vE vN vD vT vM vP) (hb : Below wr.heap.size wr wr') : B3 w wr' xb kn ka kb kc kd xs vX ys vY es ts ns ds ms ps vE vN vD vT vM vP :=
  ⟨h.below.trans (hb.mono h.below.size), h.sep.below hb⟩
theorem B3.leave (h : B3 w wr xb kn ka kb kc kd xs vX ys vY es ts ns ds ms ps vE vN vD vT vM vP) : B1 w wr es ts ns ds ms ps vE vN vD vT vM vP := ⟨h.below, (((h.sep.drop 0).drop 0).drop 0).drop 0⟩
theorem B3.box (h : B3 w wr xb kn ka kb kc kd xs vX ys vY es ts ns ds ms ps vE vN vD vT vM vP) (j1 : I64 kn.op) (j3 : kn.nm.size ≤ 9223372036854775807) : ∃ aA cA aB cB, vX = .slice aA xs.length cA ∧ vY = .slice aB ys.length cB ∧ RepT wr (owns (famB w.heap.size es ts ns ds ms ps vE vN vD vT vM vP)) (.mk kn.op kn.nm xs ys) [.int .i64 kn.op, .string kn.nm, .slice aA xs.length cA, .slice aB ys.length cB] := by
  obtain ⟨aA, cA, hv, hS⟩ := h.sep.still 0 rfl
  obtain ⟨aB, cB, hv2, hS2⟩ := h.sep.still 1 rfl
  have key : ∀ b, b ∈ owns (famB w.heap.size es ts ns ds ms ps vE vN vD vT vM vP) → ∀ i, i < 2 → b ∈ others (famK w.heap.size xb kn ka kb kc kd xs vX ys vY es ts ns ds ms ps vE vN vD vT vM vP) i := by
    intro b hm i hi
    obtain ⟨m, o, ho, hb'⟩ := mem_owns.1 hm
    exact mem_others.2 ⟨m + 4, o, by omega, by simpa [famK] using ho, hb'⟩
  exact ⟨aA, cA, aB, cB, hv, hv2, RepT.mk' j1 j3 (hS.less (fun b _ hm => key b hm 0 (by omega))).slE (hS2.less (fun b _ hm => key b hm 1 (by omega))).slT⟩
end
/-- The six slices of a tree that was built. -/
def TreeIs (w : World) (X : List Nat) (es : List Ex) (ts : List Te) (cs : List Value) : Prop :=
  ∃ aE cE aN cN aD cD aT cT aM cM aP cP, cs = [.slice aE es.length cE, .slice aN (nds es).length cN, .slice aD (rks es).length cD, .slice aT ts.length cT, .slice aM (ndsT ts).length cM, .slice aP (rksT ts).length cP] ∧
    SlR exK w X es aE es.length cE ∧ SlR i64K w X (nds es) aN (nds es).length cN ∧ SlR i64K w X (rks es) aD (rks es).length cD ∧ SlR teK w X ts aT ts.length cT ∧ SlR i64K w X (ndsT ts) aM (ndsT ts).length cM ∧ SlR i64K w X (rksT ts) aP (rksT ts).length cP
theorem TreeIs.kept {w w' : World} {X : List Nat} {es : List Ex} {ts : List Te} {cs : List Value} (h : TreeIs w X es ts cs) (k : Kept X w w') : TreeIs w' X es ts cs := by
  obtain ⟨aE, cE, aN, cN, aD, cD, aT, cT, aM, cM, aP, cP, e, h1, h2, h3, h4, h5, h6⟩ := h
  exact ⟨aE, cE, aN, cN, aD, cD, aT, cT, aM, cM, aP, cP, e, h1.kept k, h2.kept k, h3.kept k, h4.kept k, h5.kept k, h6.kept k⟩
theorem TreeIs.less' {w : World} {X : List Nat} {es : List Ex} {ts : List Te} {cs : List Value} (h : TreeIs w X es ts cs) : TreeIs w [] es ts cs := by
  obtain ⟨aE, cE, aN, cN, aD, cD, aT, cT, aM, cM, aP, cP, e, h1, h2, h3, h4, h5, h6⟩ := h
  have k : ∀ b, b < w.heap.size → b ∈ ([] : List Nat) → b ∈ X := fun b _ hb => absurd hb List.not_mem_nil
  exact ⟨aE, cE, aN, cN, aD, cD, aT, cT, aM, cM, aP, cP, e, h1.less k, h2.less k, h3.less k, h4.less k, h5.less k, h6.less k⟩
theorem B1.tree {w wr : World} {es : List Ex} {ts : List Te} {vE vN vD vT vM vP : Value} (h : B1 w wr es ts (nds es) (rks es) (ndsT ts) (rksT ts) vE vN vD vT vM vP) : TreeIs wr [w.heap.size] es ts [vE, vN, vD, vT, vM, vP] := by
  have key : ∀ i, i < 6 → w.heap.size ∈ others (famB w.heap.size es ts (nds es) (rks es) (ndsT ts) (rksT ts) vE vN vD vT vM vP) i := fun i hi => mem_others.2 ⟨7, _, by omega, rfl, by simp [bx]⟩
  have sub : ∀ i, i < 6 → ∀ b, b ∈ [w.heap.size] → b ∈ others (famB w.heap.size es ts (nds es) (rks es) (ndsT ts) (rksT ts) vE vN vD vT vM vP) i := fun i hi b hb => by rw [List.mem_singleton] at hb; subst hb; exact key i hi
  obtain ⟨aE, cE, rfl, hE⟩ := h.sep.still 0 rfl
  obtain ⟨aN, cN, rfl, hN⟩ := h.sep.still 1 rfl
  obtain ⟨aD, cD, rfl, hD⟩ := h.sep.still 2 rfl
  obtain ⟨aT, cT, rfl, hT⟩ := h.sep.still 3 rfl
  obtain ⟨aM, cM, rfl, hM⟩ := h.sep.still 4 rfl
  obtain ⟨aP, cP, rfl, hQ⟩ := h.sep.still 5 rfl
  exact ⟨aE, cE, aN, cN, aD, cD, aT, cT, aM, cM, aP, cP, rfl, hE.less (fun b _ hm => sub 0 (by omega) b hm), hN.less (fun b _ hm => sub 1 (by omega) b hm), hD.less (fun b _ hm => sub 2 (by omega) b hm), hT.less (fun b _ hm => sub 3 (by omega) b hm), hM.less (fun b _ hm => sub 4 (by omega) b hm), hQ.less (fun b _ hm => sub 5 (by omega) b hm)⟩
/-- The answer's block is written. -/
theorem TreeIs.fin {w wr : World} {es : List Ex} {ts : List Te} {c0 c1 c2 c3 c4 c5 : Value} (h : TreeIs wr [w.heap.size] es ts [c0, c1, c2, c3, c4, c5]) (hb : Below w.heap.size w wr) :
    TreeIs ((((((wr.setCell ⟨w.heap.size, 0, none⟩ c0).setCell ⟨w.heap.size, 1, none⟩ c1).setCell ⟨w.heap.size, 2, none⟩ c2).setCell ⟨w.heap.size, 3, none⟩ c3).setCell ⟨w.heap.size, 4, none⟩ c4).setCell ⟨w.heap.size, 5, none⟩ c5) [w.heap.size] es ts [c0, c1, c2, c3, c4, c5] ∧
    Below w.heap.size w ((((((wr.setCell ⟨w.heap.size, 0, none⟩ c0).setCell ⟨w.heap.size, 1, none⟩ c1).setCell ⟨w.heap.size, 2, none⟩ c2).setCell ⟨w.heap.size, 3, none⟩ c3).setCell ⟨w.heap.size, 4, none⟩ c4).setCell ⟨w.heap.size, 5, none⟩ c5) := by
  refine ⟨h.kept ((((((Kept.setCell wr (by simp) _).trans (Kept.setCell _ (by simp) _)).trans (Kept.setCell _ (by simp) _)).trans (Kept.setCell _ (by simp) _)).trans (Kept.setCell _ (by simp) _)).trans (Kept.setCell _ (by simp) _)), ?_⟩
  exact (((((hb.setCell (Nat.le_refl _) _).setCell (Nat.le_refl _) _).setCell (Nat.le_refl _) _).setCell (Nat.le_refl _) _).setCell (Nat.le_refl _) _).setCell (Nat.le_refl _) _
end Go.Proofs.Ytmiinmndbkdjbaa

/- The document's answer: kids, BuiltExpr. -/
namespace Go.Proofs.Ytmiinmndbkdjbaa
set_option linter.unusedVariables false
set_option linter.unusedSimpArgs false
open Go.RowKit
theorem kids_any (op : Int) (w : World) : Calls Try.prog 82 #[.int .i64 op] w fun e w' => e = .returned (.int .i64 (ar op)) ∧ w = w' := by
  by_cases h5 : op = 19
  · subst h5; rw [show ar 19 = 1 by decide]; go_enter Try.func82, Try.ntmps82; go_wp2; go_ret; exact ⟨rfl, rfl⟩
  by_cases h6 : op = 20
  · subst h6; rw [show ar 20 = 1 by decide]; go_enter Try.func82, Try.ntmps82; go_wp2; go_ret; exact ⟨rfl, rfl⟩
  by_cases h7 : op = 21
  · subst h7; rw [show ar 21 = 3 by decide]; go_enter Try.func82, Try.ntmps82; go_wp2; go_ret; exact ⟨rfl, rfl⟩
  have g5 : (op == 19) = false := by simp [h5]
  have g6 : (op == 20) = false := by simp [h6]
  have g7 : (op == 21) = false := by simp [h7]
  have HF : Hid (∀ x, ar op = x → Ending.returned (.int .i64 x) = .returned (.int .i64 (ar op))) := fun x h => by rw [h]
  have HD := Lib.hid (show ar op = if 1 ≤ op ∧ op ≤ 4 then 0 else if 5 ≤ op ∧ op ≤ 18 then 2 else if op = 19 ∨ op = 20 then 1 else if op = 21 then 3 else -1 from rfl)
  by_cases h1 : 1 ≤ op <;> by_cases h2 : op ≤ 4 <;> by_cases h3 : 5 ≤ op <;> by_cases h4 : op ≤ 18
  all_goals
    first
    | (exfalso; omega)
    | (go_enter Try.func82, Try.ntmps82
       go_wp2
       all_goals
         go_ret
         exact ⟨HF.out _ (by rw [HD.out]; repeat' split <;> omega), rfl⟩)
theorem bE_all (l : List Ex) (h : ∀ (j : Nat) y, l[j]? = some y → bE y = true) : bE.go l = true := by
  rw [bE_go]
  have : (l.any fun e => !bE e) = false := by
    rw [List.any_eq_false]; intro x hx
    obtain ⟨j, hj, rfl⟩ := List.getElem_of_mem hx
    simp [h j _ (List.getElem?_eq_getElem hj)]
  rw [this]; rfl
theorem bE_not (l : List Ex) (k : Nat) (y : Ex) (h : l[k]? = some y) (hy : bE y = false) : bE.go l = false := by
  rw [bE_go]
  have : (l.any fun e => !bE e) = true := by
    rw [List.any_eq_true]; exact ⟨y, List.mem_of_getElem? h, by rw [hy]; rfl⟩
  rw [this]; rfl
set_option maxRecDepth 100000 in
set_option maxHeartbeats 4000000 in
theorem rbuiltExpr_any : ∀ (r : Nat) (e : Ex), e.rk ≤ r → ∀ (cs : List Value) (w : World), RepE w [] e cs →
    Calls Try.prog 69 #[.agg cs.toArray] w fun x w' => x = .returned (.bool (bE e)) ∧ Below w.heap.size w w' := by
  intro r
  induction r with
  | zero => intro e h; have : 1 ≤ e.rk := by cases e; simp only [Ex.rk]; omega
            omega
  | succ r ih =>
    intro e hr cs w hR
    obtain ⟨op, n, nm, args, a, len, cap, rfl, rfl, i1, i2, i3, hS⟩ := hR.inv
    obtain ⟨f1, f2, f3⟩ := hS.facts
    have HS := Lib.hid hS
    have HW0 := Lib.hid ((Below.refl w.heap.size w).alloc (Nat.le_refl _) (.cells #[.int .i64 op, .int .i64 n, .string nm, .slice a len cap] 53))
    have BX := Lib.hid (Mem.Blk.new w 53 #[.int .i64 op, .int .i64 n, .string nm, .slice a len cap])
    have HI : Hid (∀ (k : Nat) e' cs' W, args[k]? = some e' → RepE W [] e' cs' → Calls Try.prog 69 #[.agg cs'.toArray] W fun x w' => x = .returned (.bool (bE e')) ∧ Below W.heap.size W w') := by
      intro k e' cs' W hk hR'
      exact ih e' (by have := Ex.rk_lt (op := op) (n := n) (nm := nm) hk; omega) cs' W hR'
    have HAR := Lib.hid (fun W => kids_any op W)
    have HFR := Lib.hid (fun W => rfree_any nm W i3)
    have HL := Lib.hid f1
    have HB := Lib.hid (show bE (.mk op n nm args) = ((ar op == (len : Nat)) && okE op n nm && bE.go args) by rw [← f1]; rfl)
    have HO := Lib.hid (show okE op n nm = ((n == 0 || op == 1 || op == 2) && (nm.toList.isEmpty || op == 3) && decide (0 ≤ n) && !(op == 2 && decide (2932896 < n)) && !(op == 3 && !fre nm)) from rfl)
    have HT := Lib.hid (bE_all args)
    have HN := Lib.hid (bE_not args)
    have HF : Hid (∀ x, bE (.mk op n nm args) = x → Ending.returned (.bool x) = .returned (.bool (bE (.mk op n nm args)))) := fun x h => by rw [h]
    generalize bE (.mk op n nm args) = R at *
    generalize bE.go args = C at *
    generalize ar op = A at *
    generalize fre nm = FR at *
    generalize okE op n nm = OK at *
    clear ih hr hR hS f1 i1 i2
    by_cases hA : A = (len : Int)
    case neg =>
      have F := Lib.hid (HF.out false (by rw [HB.out]; simp [hA]))
      have t1 : ((len : Int) != A) = true := by simp; exact fun h => hA h.symm
      clear hA
      go_enter Try.func69, Try.ntmps69
      go_wp2_with fail
      go_quiet ((go_at_call 82; exact quiet_left (HAR.out _)))
      go_wp2
      go_ret
      exact ⟨F.out, below_drewN HW0.out _⟩
    subst hA
    have HB2 := Lib.hid (show R = (((n == 0 || op == 1 || op == 2) && (nm.toList.isEmpty || op == 3) && decide (0 ≤ n) && !(op == 2 && decide (2932896 < n)) && !(op == 3 && !FR)) && C) by rw [HB.out, HO.out]; simp)
    clear HB HO
    by_cases o1 : op = 1
    · subst o1
      by_cases hneg : n < 0
      · have F := Lib.hid (HF.out false (by rw [HB2.out]; simp; omega))
        go_enter Try.func69, Try.ntmps69
        go_wp2_with fail
        go_quiet ((go_at_call 82; exact quiet_left (HAR.out _)))
        go_wp2
        go_ret
        exact ⟨F.out, below_drewN HW0.out _⟩
      cases he : nm.toList with
      | cons c0 ct =>
        have he2 : nm.toList.isEmpty = false := by rw [he]; rfl
        have he3 : (!nm.toList.isEmpty) = true := by rw [he2]; rfl
        have F := Lib.hid (HF.out false (by rw [HB2.out, he2]; simp))
        clear he
        go_enter Try.func69, Try.ntmps69
        go_wp2_with fail
        go_quiet ((go_at_call 82; exact quiet_left (HAR.out _)))
        go_wp2
        go_ret
        exact ⟨F.out, below_drewN HW0.out _⟩
      | nil =>
        have he2 : nm.toList.isEmpty = true := by rw [he]; rfl
        have F := Lib.hid (HF.out C (by rw [HB2.out, he2, decide_eq_true (show 0 ≤ n by omega)]; simp))
        go_enter Try.func69, Try.ntmps69
        go_wp2_with fail
        go_quiet ((go_at_call 82; exact quiet_left (HAR.out _)))
        go_wp2_with fail
        have W1 := Lib.hid (below_drewN HW0.out nq)
        obtain ⟨B1, hB1⟩ : ∃ W, W = (w.alloc (.cells #[.int .i64 1, .int .i64 n, .string nm, .slice a len cap] 53)).drewN nq := ⟨_, rfl⟩
        have BX1 : Hid (Mem.Blk B1 w.heap.size 53 #[.int .i64 1, .int .i64 n, .string nm, .slice a len cap]) := by rw [hB1]; exact BX.out
        rw [← hB1] at W1 ⊢
        clear hB1
        go_loopw [3] (fun i wr => ∃ k : Nat, i = .int .i64 (k : Nat) ∧ k ≤ len ∧ Hid (Below w.heap.size w wr) ∧ Hid (Mem.Blk wr w.heap.size 53 #[.int .i64 1, .int .i64 n, .string nm, .slice a len cap]) ∧ Hid (∀ (j : Nat) y, j < k → args[j]? = some y → bE y = true)) (fun i _ => len - (intOf i).toNat)
        case atStart => exact ⟨0, rfl, Nat.zero_le _, W1.out, BX1.out, fun j y hj => absurd hj (Nat.not_lt_zero _)⟩
        case round =>
          obtain ⟨k, rfl, hk, HW, HX, HP⟩ := hrel
          have c3 := HX.out.cell 3
          rw [show (#[.int .i64 1, .int .i64 n, .string nm, .slice a len cap] : Array Value)[3]? = some (.slice a len cap) from rfl] at c3
          by_cases hlt : k < len
          · obtain ⟨b, o, op', n', nm', args', a', len', cap', rfl, hb, hbx, hle, j1, j2, j3, hS', g0, g1, g2, g3⟩ := (HS.out.kept (Kept.of_below HW.out [])).at k hlt
            have HC := Lib.hid (HI.out k _ _ wr hle (RepE.mk' j1 j2 j3 hS'))
            have HLE := Lib.hid hle
            clear hle hS' j1 j2 j3
            generalize Ex.mk op' n' nm' args' = e' at *
            cases hp : bE e'
            · rw [hp] at HC
              have hC : C = false := HN.out k e' HLE.out hp
              have F2 : Hid (Ending.returned (.bool false) = .returned (.bool R)) := by show _ = _; rw [← F.out, hC]
              clear hp hC
              go_wp2_with fail
              refine HC.out.mono ?_; rintro r w1 ⟨rfl, b1⟩
              go_wp2
              go_ret
              exact ⟨F2.out, HW.out.trans (b1.mono HW.out.size)⟩
            · rw [hp] at HC
              have HP2 : Hid (∀ (j : Nat) y, j < k + 1 → args[j]? = some y → bE y = true) := by
                intro j y hj hy
                rcases Nat.lt_or_ge j k with h | h
                · exact HP.out j y h hy
                · obtain rfl : j = k := by omega
                  rw [HLE.out] at hy; injection hy with hy; subst hy; exact hp
              clear hp
              go_wp2_with fail
              refine HC.out.mono ?_; rintro r w1 ⟨rfl, b1⟩
              go_wp2
              go_roundw
              case rel => exact ⟨k + 1, by go_num, by omega, HW.out.trans (b1.mono HW.out.size), HX.out.below b1, HP2⟩
              case measure => simp [intOf]; omega
          · have hC : C = true := HT.out (fun j y hy => HP.out j y (by have := (List.getElem?_eq_some_iff.1 hy).1; have := HL.out; omega) hy)
            have F2 : Hid (Ending.returned (.bool true) = .returned (.bool R)) := by show _ = _; rw [← F.out, hC]
            clear hC
            go_wp2
            go_ret
            exact ⟨F2.out, HW.out⟩
    by_cases o2 : op = 2
    · subst o2
      by_cases hneg : n < 0
      · have F := Lib.hid (HF.out false (by rw [HB2.out]; simp; omega))
        go_enter Try.func69, Try.ntmps69
        go_wp2_with fail
        go_quiet ((go_at_call 82; exact quiet_left (HAR.out _)))
        go_wp2
        go_ret
        exact ⟨F.out, below_drewN HW0.out _⟩
      by_cases hbig : 2932896 < n
      · have F := Lib.hid (HF.out false (by rw [HB2.out]; simp [hbig]))
        go_enter Try.func69, Try.ntmps69
        go_wp2_with fail
        go_quiet ((go_at_call 82; exact quiet_left (HAR.out _)))
        go_wp2
        go_ret
        exact ⟨F.out, below_drewN HW0.out _⟩
      cases he : nm.toList with
      | cons c0 ct =>
        have he2 : nm.toList.isEmpty = false := by rw [he]; rfl
        have he3 : (!nm.toList.isEmpty) = true := by rw [he2]; rfl
        have F := Lib.hid (HF.out false (by rw [HB2.out, he2]; simp))
        clear he
        go_enter Try.func69, Try.ntmps69
        go_wp2_with fail
        go_quiet ((go_at_call 82; exact quiet_left (HAR.out _)))
        go_wp2
        go_ret
        exact ⟨F.out, below_drewN HW0.out _⟩
      | nil =>
        have he2 : nm.toList.isEmpty = true := by rw [he]; rfl
        have F := Lib.hid (HF.out C (by rw [HB2.out, he2, decide_eq_true (show 0 ≤ n by omega), decide_eq_false hbig]; simp))
        go_enter Try.func69, Try.ntmps69
        go_wp2_with fail
        go_quiet ((go_at_call 82; exact quiet_left (HAR.out _)))
        go_wp2_with fail
        have W1 := Lib.hid (below_drewN HW0.out nq)
        obtain ⟨B1, hB1⟩ : ∃ W, W = (w.alloc (.cells #[.int .i64 2, .int .i64 n, .string nm, .slice a len cap] 53)).drewN nq := ⟨_, rfl⟩
        have BX1 : Hid (Mem.Blk B1 w.heap.size 53 #[.int .i64 2, .int .i64 n, .string nm, .slice a len cap]) := by rw [hB1]; exact BX.out
        rw [← hB1] at W1 ⊢
        clear hB1
        go_loopw [3] (fun i wr => ∃ k : Nat, i = .int .i64 (k : Nat) ∧ k ≤ len ∧ Hid (Below w.heap.size w wr) ∧ Hid (Mem.Blk wr w.heap.size 53 #[.int .i64 2, .int .i64 n, .string nm, .slice a len cap]) ∧ Hid (∀ (j : Nat) y, j < k → args[j]? = some y → bE y = true)) (fun i _ => len - (intOf i).toNat)
        case atStart => exact ⟨0, rfl, Nat.zero_le _, W1.out, BX1.out, fun j y hj => absurd hj (Nat.not_lt_zero _)⟩
        case round =>
          obtain ⟨k, rfl, hk, HW, HX, HP⟩ := hrel
          have c3 := HX.out.cell 3
          rw [show (#[.int .i64 2, .int .i64 n, .string nm, .slice a len cap] : Array Value)[3]? = some (.slice a len cap) from rfl] at c3
          by_cases hlt : k < len
          · obtain ⟨b, o, op', n', nm', args', a', len', cap', rfl, hb, hbx, hle, j1, j2, j3, hS', g0, g1, g2, g3⟩ := (HS.out.kept (Kept.of_below HW.out [])).at k hlt
            have HC := Lib.hid (HI.out k _ _ wr hle (RepE.mk' j1 j2 j3 hS'))
            have HLE := Lib.hid hle
            clear hle hS' j1 j2 j3
            generalize Ex.mk op' n' nm' args' = e' at *
            cases hp : bE e'
            · rw [hp] at HC
              have hC : C = false := HN.out k e' HLE.out hp
              have F2 : Hid (Ending.returned (.bool false) = .returned (.bool R)) := by show _ = _; rw [← F.out, hC]
              clear hp hC
              go_wp2_with fail
              refine HC.out.mono ?_; rintro r w1 ⟨rfl, b1⟩
              go_wp2
              go_ret
              exact ⟨F2.out, HW.out.trans (b1.mono HW.out.size)⟩
            · rw [hp] at HC
              have HP2 : Hid (∀ (j : Nat) y, j < k + 1 → args[j]? = some y → bE y = true) := by
                intro j y hj hy
                rcases Nat.lt_or_ge j k with h | h
                · exact HP.out j y h hy
                · obtain rfl : j = k := by omega
                  rw [HLE.out] at hy; injection hy with hy; subst hy; exact hp
              clear hp
              go_wp2_with fail
              refine HC.out.mono ?_; rintro r w1 ⟨rfl, b1⟩
              go_wp2
              go_roundw
              case rel => exact ⟨k + 1, by go_num, by omega, HW.out.trans (b1.mono HW.out.size), HX.out.below b1, HP2⟩
              case measure => simp [intOf]; omega
          · have hC : C = true := HT.out (fun j y hy => HP.out j y (by have := (List.getElem?_eq_some_iff.1 hy).1; have := HL.out; omega) hy)
            have F2 : Hid (Ending.returned (.bool true) = .returned (.bool R)) := by show _ = _; rw [← F.out, hC]
            clear hC
            go_wp2
            go_ret
            exact ⟨F2.out, HW.out⟩
    by_cases o3 : op = 3
    · subst o3
      by_cases hn : n = 0
      case neg =>
        have F := Lib.hid (HF.out false (by rw [HB2.out]; simp [hn]))
        have tn : (n != 0) = true := by simp [hn]
        clear hn
        go_enter Try.func69, Try.ntmps69
        go_wp2_with fail
        go_quiet ((go_at_call 82; exact quiet_left (HAR.out _)))
        go_wp2
        go_ret
        exact ⟨F.out, below_drewN HW0.out _⟩
      subst hn
      cases FR
      · have F := Lib.hid (HF.out false (by rw [HB2.out]; simp))
        go_enter Try.func69, Try.ntmps69
        go_wp2_with fail
        go_quiet ((go_at_call 82; exact quiet_left (HAR.out _)))
        go_wp2_with fail
        refine (HFR.out _).mono ?_; rintro x w1 ⟨rfl, b1⟩
        go_wp2
        go_ret
        exact ⟨F.out, (below_drewN HW0.out _).trans (b1.mono (below_drewN HW0.out _).size)⟩
      · have F := Lib.hid (HF.out C (by rw [HB2.out]; simp))
        go_enter Try.func69, Try.ntmps69
        go_wp2_with fail
        go_quiet ((go_at_call 82; exact quiet_left (HAR.out _)))
        go_wp2_with fail
        refine (HFR.out _).mono ?_; rintro x B1 ⟨rfl, b1⟩
        have W1 := Lib.hid ((below_drewN HW0.out _).trans (b1.mono (below_drewN HW0.out _).size))
        have BX1 := Lib.hid ((show Mem.Blk ((w.alloc (.cells #[.int .i64 3, .int .i64 0, .string nm, .slice a len cap] 53)).drewN nq) w.heap.size 53 #[.int .i64 3, .int .i64 0, .string nm, .slice a len cap] from BX.out).below b1)
        clear b1
        go_wp2_with fail
        go_loopw [3] (fun i wr => ∃ k : Nat, i = .int .i64 (k : Nat) ∧ k ≤ len ∧ Hid (Below w.heap.size w wr) ∧ Hid (Mem.Blk wr w.heap.size 53 #[.int .i64 3, .int .i64 0, .string nm, .slice a len cap]) ∧ Hid (∀ (j : Nat) y, j < k → args[j]? = some y → bE y = true)) (fun i _ => len - (intOf i).toNat)
        case atStart => exact ⟨0, rfl, Nat.zero_le _, W1.out, BX1.out, fun j y hj => absurd hj (Nat.not_lt_zero _)⟩
        case round =>
          obtain ⟨k, rfl, hk, HW, HX, HP⟩ := hrel
          have c3 := HX.out.cell 3
          rw [show (#[.int .i64 3, .int .i64 0, .string nm, .slice a len cap] : Array Value)[3]? = some (.slice a len cap) from rfl] at c3
          by_cases hlt : k < len
          · obtain ⟨b, o, op', n', nm', args', a', len', cap', rfl, hb, hbx, hle, j1, j2, j3, hS', g0, g1, g2, g3⟩ := (HS.out.kept (Kept.of_below HW.out [])).at k hlt
            have HC := Lib.hid (HI.out k _ _ wr hle (RepE.mk' j1 j2 j3 hS'))
            have HLE := Lib.hid hle
            clear hle hS' j1 j2 j3
            generalize Ex.mk op' n' nm' args' = e' at *
            cases hp : bE e'
            · rw [hp] at HC
              have hC : C = false := HN.out k e' HLE.out hp
              have F2 : Hid (Ending.returned (.bool false) = .returned (.bool R)) := by show _ = _; rw [← F.out, hC]
              clear hp hC
              go_wp2_with fail
              refine HC.out.mono ?_; rintro r w1 ⟨rfl, b1⟩
              go_wp2
              go_ret
              exact ⟨F2.out, HW.out.trans (b1.mono HW.out.size)⟩
            · rw [hp] at HC
              have HP2 : Hid (∀ (j : Nat) y, j < k + 1 → args[j]? = some y → bE y = true) := by
                intro j y hj hy
                rcases Nat.lt_or_ge j k with h | h
                · exact HP.out j y h hy
                · obtain rfl : j = k := by omega
                  rw [HLE.out] at hy; injection hy with hy; subst hy; exact hp
              clear hp
              go_wp2_with fail
              refine HC.out.mono ?_; rintro r w1 ⟨rfl, b1⟩
              go_wp2
              go_roundw
              case rel => exact ⟨k + 1, by go_num, by omega, HW.out.trans (b1.mono HW.out.size), HX.out.below b1, HP2⟩
              case measure => simp [intOf]; omega
          · have hC : C = true := HT.out (fun j y hy => HP.out j y (by have := (List.getElem?_eq_some_iff.1 hy).1; have := HL.out; omega) hy)
            have F2 : Hid (Ending.returned (.bool true) = .returned (.bool R)) := by show _ = _; rw [← F.out, hC]
            clear hC
            go_wp2
            go_ret
            exact ⟨F2.out, HW.out⟩
    have g1 : (op == 1) = false := by simp [o1]
    have g2 : (op == 2) = false := by simp [o2]
    have g3 : (op == 3) = false := by simp [o3]
    by_cases hn : n = 0
    case neg =>
      have F := Lib.hid (HF.out false (by rw [HB2.out]; simp [hn, o1, o2]))
      have tn : (n != 0) = true := by simp [hn]
      clear hn o1 o2 o3
      go_enter Try.func69, Try.ntmps69
      go_wp2_with fail
      go_quiet ((go_at_call 82; exact quiet_left (HAR.out _)))
      go_wp2
      go_ret
      exact ⟨F.out, below_drewN HW0.out _⟩
    subst hn
    cases he : nm.toList with
    | cons c0 ct =>
      have he2 : nm.toList.isEmpty = false := by rw [he]; rfl
      have he3 : (!nm.toList.isEmpty) = true := by rw [he2]; rfl
      have F := Lib.hid (HF.out false (by rw [HB2.out, he2]; simp [o3]))
      clear he o1 o2 o3
      go_enter Try.func69, Try.ntmps69
      go_wp2_with fail
      go_quiet ((go_at_call 82; exact quiet_left (HAR.out _)))
      go_wp2
      go_ret
      exact ⟨F.out, below_drewN HW0.out _⟩
    | nil =>
      have he2 : nm.toList.isEmpty = true := by rw [he]; rfl
      have F := Lib.hid (HF.out C (by rw [HB2.out, he2]; simp [o2, o3]))
      clear o1 o2 o3
      go_enter Try.func69, Try.ntmps69
      go_wp2_with fail
      go_quiet ((go_at_call 82; exact quiet_left (HAR.out _)))
      go_wp2_with fail
      have W1 := Lib.hid (below_drewN HW0.out nq)
      obtain ⟨B1, hB1⟩ : ∃ W, W = (w.alloc (.cells #[.int .i64 op, .int .i64 0, .string nm, .slice a len cap] 53)).drewN nq := ⟨_, rfl⟩
      have BX1 : Hid (Mem.Blk B1 w.heap.size 53 #[.int .i64 op, .int .i64 0, .string nm, .slice a len cap]) := by rw [hB1]; exact BX.out
      rw [← hB1] at W1 ⊢
      clear hB1
      go_loopw [3] (fun i wr => ∃ k : Nat, i = .int .i64 (k : Nat) ∧ k ≤ len ∧ Hid (Below w.heap.size w wr) ∧ Hid (Mem.Blk wr w.heap.size 53 #[.int .i64 op, .int .i64 0, .string nm, .slice a len cap]) ∧ Hid (∀ (j : Nat) y, j < k → args[j]? = some y → bE y = true)) (fun i _ => len - (intOf i).toNat)
      case atStart => exact ⟨0, rfl, Nat.zero_le _, W1.out, BX1.out, fun j y hj => absurd hj (Nat.not_lt_zero _)⟩
      case round =>
        obtain ⟨k, rfl, hk, HW, HX, HP⟩ := hrel
        have c3 := HX.out.cell 3
        rw [show (#[.int .i64 op, .int .i64 0, .string nm, .slice a len cap] : Array Value)[3]? = some (.slice a len cap) from rfl] at c3
        by_cases hlt : k < len
        · obtain ⟨b, o, op', n', nm', args', a', len', cap', rfl, hb, hbx, hle, j1, j2, j3, hS', g0, g1, g2, g3⟩ := (HS.out.kept (Kept.of_below HW.out [])).at k hlt
          have HC := Lib.hid (HI.out k _ _ wr hle (RepE.mk' j1 j2 j3 hS'))
          have HLE := Lib.hid hle
          clear hle hS' j1 j2 j3
          generalize Ex.mk op' n' nm' args' = e' at *
          cases hp : bE e'
          · rw [hp] at HC
            have hC : C = false := HN.out k e' HLE.out hp
            have F2 : Hid (Ending.returned (.bool false) = .returned (.bool R)) := by show _ = _; rw [← F.out, hC]
            clear hp hC
            go_wp2_with fail
            refine HC.out.mono ?_; rintro r w1 ⟨rfl, b1⟩
            go_wp2
            go_ret
            exact ⟨F2.out, HW.out.trans (b1.mono HW.out.size)⟩
          · rw [hp] at HC
            have HP2 : Hid (∀ (j : Nat) y, j < k + 1 → args[j]? = some y → bE y = true) := by
              intro j y hj hy
              rcases Nat.lt_or_ge j k with h | h
              · exact HP.out j y h hy
              · obtain rfl : j = k := by omega
                rw [HLE.out] at hy; injection hy with hy; subst hy; exact hp
            clear hp
            go_wp2_with fail
            refine HC.out.mono ?_; rintro r w1 ⟨rfl, b1⟩
            go_wp2
            go_roundw
            case rel => exact ⟨k + 1, by go_num, by omega, HW.out.trans (b1.mono HW.out.size), HX.out.below b1, HP2⟩
            case measure => simp [intOf]; omega
        · have hC : C = true := HT.out (fun j y hy => HP.out j y (by have := (List.getElem?_eq_some_iff.1 hy).1; have := HL.out; omega) hy)
          have F2 : Hid (Ending.returned (.bool true) = .returned (.bool R)) := by show _ = _; rw [← F.out, hC]
          clear hC
          go_wp2
          go_ret
          exact ⟨F2.out, HW.out⟩
end Go.Proofs.Ytmiinmndbkdjbaa
