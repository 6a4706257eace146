/- A part of the proof: BuildA, Path, Val, FldA, EvalP, Fld, one behind another. -/
import Derived.Test.YtppnmeobnilojaaMAA
import Derived.Test.YtppnmeobnilojaaMAB
import Derived.Test.YtppnmeobnilojaaMAC
import Derived.Deep.DeepCutAuto
import Derived.Deep.CutBlock
import Derived.Deep.Upon
import Derived.StillTailTactics
import Derived.WalkLawsBesides
/- Build: the relations of its loops. -/
namespace Go.Proofs.Ytppnmeobnilojaa
set_option linter.unusedVariables false
set_option linter.unusedSimpArgs false
open Go.RowKit
def nil1 : Value := .slice none 0 0
/-- The tree so far: six slices in a block; the answer's block. -/
def famB (h : Nat) (es : List Ex) (ts : List Te) (ns ds ms ps : List Int) (vE vN vD vT vM vP : Value) : List Ob :=
  [gr exK 46 h es vE, gr i64K 3 h ns vN, gr i64K 3 h ds vD, gr teK 35 h ts vT, gr i64K 3 h ms vM, gr i64K 3 h ps vP,
    bx (h + 1) 30 #[vE, vN, vD, vT, vM, vP], bx h 30 #[.slice none 0 0, .slice none 0 0, .slice none 0 0, .slice none 0 0, .slice none 0 0, .slice none 0 0]]
structure B1 (w wr : World) (es : List Ex) (ts : List Te) (ns ds ms ps : List Int) (vE vN vD vT vM vP : Value) : Prop where
  below : Below w.heap.size w wr
  sep : Sep wr (famB w.heap.size es ts ns ds ms ps vE vN vD vT vM vP)
/-- Within an expression: the arguments so far; its own block, and the leaf's. -/
structure B2 (w wr : World) (xb : Nat) (lf : Lf) (ka : Option Addr) (kc : Nat) (args : List Ex) (vA : Value) (es : List Ex) (ts : List Te) (ns ds ms ps : List Int) (vE vN vD vT vM vP : Value) : Prop where
  below : Below w.heap.size w wr
  sep : Sep wr (gr exK 46 w.heap.size args vA :: bx (xb + 1) 46 #[.int .i64 lf.op, .int .i64 lf.n, .string lf.nm, vA] :: bx xb 86 #[.int .i64 lf.op, .int .i64 lf.n, .string lf.nm, .slice ka lf.kids.length kc] :: famB w.heap.size es ts ns ds ms ps vE vN vD vT vM vP)
/-- Within a term: its expressions and terms so far; its own block, and the knot's. -/
def famK (h xb : Nat) (kn : Kn) (ka kb : Option Addr) (kc kd : Nat) (xs : List Ex) (vX : Value) (ys : List Te) (vY : Value) (es : List Ex) (ts : List Te) (ns ds ms ps : List Int) (vE vN vD vT vM vP : Value) : List Ob :=
  gr exK 46 h xs vX :: gr teK 35 h ys vY :: bx (xb + 1) 35 #[.int .i64 kn.op, .string kn.nm, vX, vY] :: bx xb 90 #[.int .i64 kn.op, .string kn.nm, .slice ka kn.exprs.length kc, .slice kb kn.terms.length kd] :: famB h es ts ns ds ms ps vE vN vD vT vM vP
structure B3 (w wr : World) (xb : Nat) (kn : Kn) (ka kb : Option Addr) (kc kd : Nat) (xs : List Ex) (vX : Value) (ys : List Te) (vY : Value) (es : List Ex) (ts : List Te) (ns ds ms ps : List Int) (vE vN vD vT vM vP : Value) : Prop where
  below : Below w.heap.size w wr
  sep : Sep wr (famK w.heap.size xb kn ka kb kc kd xs vX ys vY es ts ns ds ms ps vE vN vD vT vM vP)
section
variable {w wr wr' : World} {es : List Ex} {ts : List Te} {ns ds ms ps : List Int} {vE vN vD vT vM vP : Value} {xb : Nat} {lf : Lf} {ka : Option Addr} {kc : Nat} {args : List Ex} {vA : Value}
theorem infoI : (Try.prog.info? 3).map (fun i => (i.zero, i.size, i.bytes)) = some (some (.int .i64 0), 1, 8) := by kernel_rfl
theorem Sep.addGr {α : Type} {fam : List Ob} (h : Sep wr fam) (K : Elt α) (e : TypeId) {base : Nat} (hb : base ≤ wr.heap.size) : Sep wr (gr K e base [] (.slice none 0 0) :: fam) :=
  h.cons (o := gr K e base [] (.slice none 0 0)) (Kept.refl wr []) (fun b hb' => by cases hb') ⟨[], Grow.start K e hb h.lt⟩
theorem B1.start (h : Sep wr [bx (w.heap.size + 1) 30 #[.slice none 0 0, .slice none 0 0, .slice none 0 0, .slice none 0 0, .slice none 0 0, .slice none 0 0], bx w.heap.size 30 #[.slice none 0 0, .slice none 0 0, .slice none 0 0, .slice none 0 0, .slice none 0 0, .slice none 0 0]])
    (hb : Below w.heap.size w wr) : B1 w wr [] [] [] [] [] [] (.slice none 0 0) (.slice none 0 0) (.slice none 0 0) (.slice none 0 0) (.slice none 0 0) (.slice none 0 0) := by
  have hs := hb.size
  exact ⟨hb, (((((h.addGr i64K 3 hs).addGr i64K 3 hs).addGr teK 35 hs).addGr i64K 3 hs).addGr i64K 3 hs).addGr exK 46 hs⟩
/-- A leaf and its expression are laid. -/
theorem B1.enter (h : B1 w wr es ts ns ds ms ps vE vN vD vT vM vP) (lf : Lf) (ka : Option Addr) (kc : Nat) :
    B2 w ((wr.alloc (.cells #[.int .i64 lf.op, .int .i64 lf.n, .string lf.nm, .slice ka lf.kids.length kc] 86)).alloc (.cells #[.int .i64 lf.op, .int .i64 lf.n, .string lf.nm, .slice none 0 0] 46)) wr.heap.size lf ka kc [] (.slice none 0 0) es ts ns ds ms ps vE vN vD vT vM vP := by
  have hs := h.below.size
  have h1 := (h.sep.new 86 #[.int .i64 lf.op, .int .i64 lf.n, .string lf.nm, .slice ka lf.kids.length kc]).new 46 #[.int .i64 lf.op, .int .i64 lf.n, .string lf.nm, .slice none 0 0]
  rw [show (wr.alloc (.cells #[.int .i64 lf.op, .int .i64 lf.n, .string lf.nm, .slice ka lf.kids.length kc] 86)).heap.size = wr.heap.size + 1 by simp] at h1
  exact ⟨(h.below.alloc hs _).alloc (by simp; omega) _, h1.addGr exK 46 (by simp; omega)⟩
/-- An argument more: appended, and stored. -/
theorem B2.push {w1 : World} {csl : List (List Value)} {v' : Value} {x : Ex} {c : List Value} (h : B2 w wr xb lf ka kc args vA es ts ns ds ms ps vE vN vD vT vM vP)
    (hG : Grow exK 46 w.heap.size wr (others (gr exK 46 w.heap.size args vA :: bx (xb + 1) 46 #[.int .i64 lf.op, .int .i64 lf.n, .string lf.nm, vA] :: bx xb 86 #[.int .i64 lf.op, .int .i64 lf.n, .string lf.nm, .slice ka lf.kids.length kc] :: famB w.heap.size es ts ns ds ms ps vE vN vD vT vM vP) 0) args vA csl)
    (hR : RepE wr (owns (gr exK 46 w.heap.size args vA :: bx (xb + 1) 46 #[.int .i64 lf.op, .int .i64 lf.n, .string lf.nm, vA] :: bx xb 86 #[.int .i64 lf.op, .int .i64 lf.n, .string lf.nm, .slice ka lf.kids.length kc] :: famB w.heap.size es ts ns ds ms ps vE vN vD vT vM vP)) x c)
    (ho : w1.ownsRow w.heap.size 46 4 v' (args.length + 1) (csl.flatten ++ c)) (hg : wr.grownBy w1 vA.ownBlock) (hv : v'.ownBlock = vA.ownBlock ∨ v'.ownBlock = some wr.heap.size) (hx : w.heap.size ≤ xb) :
    B2 w (w1.setCell ⟨xb + 1, 3, none⟩ v') xb lf ka kc (args ++ [x]) v' es ts ns ds ms ps vE vN vD vT vM vP := by
  have h1 := h.sep.push 0 rfl hG (x := x) (c := c) hR ho hg hv
  have h2 := h1.store 1 rfl 3 v'
  refine ⟨(h.below.grown hg h.below.size (fun b hb => (hG.blt hb).1)).setCell (by show w.heap.size ≤ xb + 1; omega) _, h2⟩
/-- The expression itself is appended to the tree's. -/
theorem B2.box (h : B2 w wr xb lf ka kc args vA es ts ns ds ms ps vE vN vD vT vM vP) (j1 : I64 lf.op) (j2 : I64 lf.n) (j3 : lf.nm.size ≤ 9223372036854775807) : ∃ aA cA, vA = .slice aA args.length cA ∧ RepE wr (owns (famB w.heap.size es ts ns ds ms ps vE vN vD vT vM vP)) (.mk lf.op lf.n lf.nm args) [.int .i64 lf.op, .int .i64 lf.n, .string lf.nm, .slice aA args.length cA] := by
  obtain ⟨aA, cA, hv, hS⟩ := h.sep.still 0 rfl
  refine ⟨aA, cA, hv, RepE.mk' j1 j2 j3 (hS.less (fun b hb hm => ?_))⟩
  obtain ⟨m, o, ho, hb'⟩ := mem_owns.1 hm
  exact mem_others.2 ⟨m + 3, o, by omega, by simpa using ho, hb'⟩
theorem B1.pushE {w1 : World} {csl : List (List Value)} {v' : Value} {x : Ex} {c : List Value} (h : B1 w wr es ts ns ds ms ps vE vN vD vT vM vP)
    (hG : Grow exK 46 w.heap.size wr (others (famB w.heap.size es ts ns ds ms ps vE vN vD vT vM vP) 0) es vE csl)
    (hR : RepE wr (owns (famB w.heap.size es ts ns ds ms ps vE vN vD vT vM vP)) x c)
    (ho : w1.ownsRow w.heap.size 46 4 v' (es.length + 1) (csl.flatten ++ c)) (hg : wr.grownBy w1 vE.ownBlock) (hv : v'.ownBlock = vE.ownBlock ∨ v'.ownBlock = some wr.heap.size) :
    (w1.cell? ⟨w.heap.size + 1, 0, none⟩ = some vE ∧ w1.frozen? ⟨w.heap.size + 1, 0, none⟩ = false) ∧ B1 w (w1.setCell ⟨w.heap.size + 1, 0, none⟩ v') (es ++ [x]) ts ns ds ms ps v' vN vD vT vM vP := by
  have h1 := h.sep.push 0 rfl hG (x := x) (c := c) hR ho hg hv
  have h2 := h1.store 6 rfl 0 v'
  exact ⟨⟨(h1.blk 6 rfl).cell 0, (h1.blk 6 rfl).frozen 0⟩, (h.below.grown hg h.below.size (fun b hb => (hG.blt hb).1)).setCell (by show w.heap.size ≤ w.heap.size + 1; omega) _, h2⟩
theorem B1.pushN {w1 : World} {csl : List (List Value)} {v' : Value} {x : Int} {c : List Value} (h : B1 w wr es ts ns ds ms ps vE vN vD vT vM vP)
    (hG : Grow i64K 3 w.heap.size wr (others (famB w.heap.size es ts ns ds ms ps vE vN vD vT vM vP) 1) ns vN csl)
    (hR : i64K.R wr (owns (famB w.heap.size es ts ns ds ms ps vE vN vD vT vM vP)) x c)
    (ho : w1.ownsRow w.heap.size 3 1 v' (ns.length + 1) (csl.flatten ++ c)) (hg : wr.grownBy w1 vN.ownBlock) (hv : v'.ownBlock = vN.ownBlock ∨ v'.ownBlock = some wr.heap.size) :
    (w1.cell? ⟨w.heap.size + 1, 1, none⟩ = some vN ∧ w1.frozen? ⟨w.heap.size + 1, 1, none⟩ = false) ∧ B1 w (w1.setCell ⟨w.heap.size + 1, 1, none⟩ v') es ts (ns ++ [x]) ds ms ps vE v' vD vT vM vP := by
  have h1 := h.sep.push 1 rfl hG (x := x) (c := c) hR ho hg hv
  have h2 := h1.store 6 rfl 1 v'
  exact ⟨⟨(h1.blk 6 rfl).cell 1, (h1.blk 6 rfl).frozen 1⟩, (h.below.grown hg h.below.size (fun b hb => (hG.blt hb).1)).setCell (by show w.heap.size ≤ w.heap.size + 1; omega) _, h2⟩
theorem B1.pushD {w1 : World} {csl : List (List Value)} {v' : Value} {x : Int} {c : List Value} (h : B1 w wr es ts ns ds ms ps vE vN vD vT vM vP)
    (hG : Grow i64K 3 w.heap.size wr (others (famB w.heap.size es ts ns ds ms ps vE vN vD vT vM vP) 2) ds vD csl)
    (hR : i64K.R wr (owns (famB w.heap.size es ts ns ds ms ps vE vN vD vT vM vP)) x c)
    (ho : w1.ownsRow w.heap.size 3 1 v' (ds.length + 1) (csl.flatten ++ c)) (hg : wr.grownBy w1 vD.ownBlock) (hv : v'.ownBlock = vD.ownBlock ∨ v'.ownBlock = some wr.heap.size) :
    (w1.cell? ⟨w.heap.size + 1, 2, none⟩ = some vD ∧ w1.frozen? ⟨w.heap.size + 1, 2, none⟩ = false) ∧ B1 w (w1.setCell ⟨w.heap.size + 1, 2, none⟩ v') es ts ns (ds ++ [x]) ms ps vE vN v' vT vM vP := by
  have h1 := h.sep.push 2 rfl hG (x := x) (c := c) hR ho hg hv
  have h2 := h1.store 6 rfl 2 v'
  exact ⟨⟨(h1.blk 6 rfl).cell 2, (h1.blk 6 rfl).frozen 2⟩, (h.below.grown hg h.below.size (fun b hb => (hG.blt hb).1)).setCell (by show w.heap.size ≤ w.heap.size + 1; omega) _, h2⟩
theorem B1.pushT {w1 : World} {csl : List (List Value)} {v' : Value} {x : Te} {c : List Value} (h : B1 w wr es ts ns ds ms ps vE vN vD vT vM vP)
    (hG : Grow teK 35 w.heap.size wr (others (famB w.heap.size es ts ns ds ms ps vE vN vD vT vM vP) 3) ts vT csl)
    (hR : teK.R wr (owns (famB w.heap.size es ts ns ds ms ps vE vN vD vT vM vP)) x c)
    (ho : w1.ownsRow w.heap.size 35 4 v' (ts.length + 1) (csl.flatten ++ c)) (hg : wr.grownBy w1 vT.ownBlock) (hv : v'.ownBlock = vT.ownBlock ∨ v'.ownBlock = some wr.heap.size) :
    (w1.cell? ⟨w.heap.size + 1, 3, none⟩ = some vT ∧ w1.frozen? ⟨w.heap.size + 1, 3, none⟩ = false) ∧ B1 w (w1.setCell ⟨w.heap.size + 1, 3, none⟩ v') es (ts ++ [x]) ns ds ms ps vE vN vD v' vM vP := by
  have h1 := h.sep.push 3 rfl hG (x := x) (c := c) hR ho hg hv
  have h2 := h1.store 6 rfl 3 v'
  exact ⟨⟨(h1.blk 6 rfl).cell 3, (h1.blk 6 rfl).frozen 3⟩, (h.below.grown hg h.below.size (fun b hb => (hG.blt hb).1)).setCell (by show w.heap.size ≤ w.heap.size + 1; omega) _, h2⟩
theorem B1.pushM {w1 : World} {csl : List (List Value)} {v' : Value} {x : Int} {c : List Value} (h : B1 w wr es ts ns ds ms ps vE vN vD vT vM vP)
    (hG : Grow i64K 3 w.heap.size wr (others (famB w.heap.size es ts ns ds ms ps vE vN vD vT vM vP) 4) ms vM csl)
    (hR : i64K.R wr (owns (famB w.heap.size es ts ns ds ms ps vE vN vD vT vM vP)) x c)
    (ho : w1.ownsRow w.heap.size 3 1 v' (ms.length + 1) (csl.flatten ++ c)) (hg : wr.grownBy w1 vM.ownBlock) (hv : v'.ownBlock = vM.ownBlock ∨ v'.ownBlock = some wr.heap.size) :
    (w1.cell? ⟨w.heap.size + 1, 4, none⟩ = some vM ∧ w1.frozen? ⟨w.heap.size + 1, 4, none⟩ = false) ∧ B1 w (w1.setCell ⟨w.heap.size + 1, 4, none⟩ v') es ts ns ds (ms ++ [x]) ps vE vN vD vT v' vP := by
  have h1 := h.sep.push 4 rfl hG (x := x) (c := c) hR ho hg hv
  have h2 := h1.store 6 rfl 4 v'
  exact ⟨⟨(h1.blk 6 rfl).cell 4, (h1.blk 6 rfl).frozen 4⟩, (h.below.grown hg h.below.size (fun b hb => (hG.blt hb).1)).setCell (by show w.heap.size ≤ w.heap.size + 1; omega) _, h2⟩
theorem B1.pushP {w1 : World} {csl : List (List Value)} {v' : Value} {x : Int} {c : List Value} (h : B1 w wr es ts ns ds ms ps vE vN vD vT vM vP)
    (hG : Grow i64K 3 w.heap.size wr (others (famB w.heap.size es ts ns ds ms ps vE vN vD vT vM vP) 5) ps vP csl)
    (hR : i64K.R wr (owns (famB w.heap.size es ts ns ds ms ps vE vN vD vT vM vP)) x c)
    (ho : w1.ownsRow w.heap.size 3 1 v' (ps.length + 1) (csl.flatten ++ c)) (hg : wr.grownBy w1 vP.ownBlock) (hv : v'.ownBlock = vP.ownBlock ∨ v'.ownBlock = some wr.heap.size) :
    (w1.cell? ⟨w.heap.size + 1, 5, none⟩ = some vP ∧ w1.frozen? ⟨w.heap.size + 1, 5, none⟩ = false) ∧ B1 w (w1.setCell ⟨w.heap.size + 1, 5, none⟩ v') es ts ns ds ms (ps ++ [x]) vE vN vD vT vM v' := by
  have h1 := h.sep.push 5 rfl hG (x := x) (c := c) hR ho hg hv
  have h2 := h1.store 6 rfl 5 v'
  exact ⟨⟨(h1.blk 6 rfl).cell 5, (h1.blk 6 rfl).frozen 5⟩, (h.below.grown hg h.below.size (fun b hb => (hG.blt hb).1)).setCell (by show w.heap.size ≤ w.heap.size + 1; omega) _, h2⟩
theorem B2.up (h : B2 w wr xb lf ka kc args vA es ts ns ds ms ps vE vN vD vT vM vP) (hb : Below wr.heap.size wr wr') : B2 w wr' xb lf ka kc args vA es ts ns ds ms ps vE vN vD vT vM vP :=
  ⟨h.below.trans (hb.mono h.below.size), h.sep.below hb⟩
theorem B1.up (h : B1 w wr es ts ns ds ms ps vE vN vD vT vM vP) (hb : Below wr.heap.size wr wr') : B1 w wr' es ts ns ds ms ps vE vN vD vT vM vP :=
  ⟨h.below.trans (hb.mono h.below.size), h.sep.below hb⟩
theorem B2.leave (h : B2 w wr xb lf ka kc args vA es ts ns ds ms ps vE vN vD vT vM vP) : B1 w wr es ts ns ds ms ps vE vN vD vT vM vP := ⟨h.below, ((h.sep.drop 0).drop 0).drop 0⟩
end
section
variable {w wr wr' : World} {es : List Ex} {ts : List Te} {ns ds ms ps : List Int} {vE vN vD vT vM vP : Value} {xb : Nat} {kn : Kn} {ka kb : Option Addr} {kc kd : Nat} {xs : List Ex} {ys : List Te} {vX vY : Value}
theorem B1.enterK (h : B1 w wr es ts ns ds ms ps vE vN vD vT vM vP) (kn : Kn) (ka kb : Option Addr) (kc kd : Nat) :
    B3 w ((wr.alloc (.cells #[.int .i64 kn.op, .string kn.nm, .slice ka kn.exprs.length kc, .slice kb kn.terms.length kd] 90)).alloc (.cells #[.int .i64 kn.op, .string kn.nm, .slice none 0 0, .slice none 0 0] 35)) wr.heap.size kn ka kb kc kd [] (.slice none 0 0) [] (.slice none 0 0) es ts ns ds ms ps vE vN vD vT vM vP := by
  have hs := h.below.size
  have h1 := (h.sep.new 90 #[.int .i64 kn.op, .string kn.nm, .slice ka kn.exprs.length kc, .slice kb kn.terms.length kd]).new 35 #[.int .i64 kn.op, .string kn.nm, .slice none 0 0, .slice none 0 0]
  rw [show (wr.alloc (.cells #[.int .i64 kn.op, .string kn.nm, .slice ka kn.exprs.length kc, .slice kb kn.terms.length kd] 90)).heap.size = wr.heap.size + 1 by simp] at h1
  exact ⟨(h.below.alloc hs _).alloc (by simp; omega) _, (h1.addGr teK 35 (by simp; omega)).addGr exK 46 (by simp; omega)⟩
theorem B3.pushX {w1 : World} {csl : List (List Value)} {v' : Value} {x : Ex} {c : List Value} (h : B3 w wr xb kn ka kb kc kd xs vX ys vY es ts ns ds ms ps vE vN vD vT vM vP)
    (hG : Grow exK 46 w.heap.size wr (others (famK w.heap.size xb kn ka kb kc kd xs vX ys vY es ts ns ds ms ps vE vN vD vT vM vP) 0) xs vX csl)
    (hR : RepE wr (owns (famK w.heap.size xb kn ka kb kc kd xs vX ys vY es ts ns ds ms ps vE vN vD vT vM vP)) x c)
    (ho : w1.ownsRow w.heap.size 46 4 v' (xs.length + 1) (csl.flatten ++ c)) (hg : wr.grownBy w1 vX.ownBlock) (hv : v'.ownBlock = vX.ownBlock ∨ v'.ownBlock = some wr.heap.size) (hx : w.heap.size ≤ xb) :
    (w1.cell? ⟨xb + 1, 2, none⟩ = some vX ∧ w1.frozen? ⟨xb + 1, 2, none⟩ = false) ∧ B3 w (w1.setCell ⟨xb + 1, 2, none⟩ v') xb kn ka kb kc kd (xs ++ [x]) v' ys vY es ts ns ds ms ps vE vN vD vT vM vP := by
  have h1 := h.sep.push 0 rfl hG (x := x) (c := c) hR ho hg hv
  have h2 := h1.store 2 rfl 2 v'
  exact ⟨⟨(h1.blk 2 rfl).cell 2, (h1.blk 2 rfl).frozen 2⟩, (h.below.grown hg h.below.size (fun b hb => (hG.blt hb).1)).setCell (by show w.heap.size ≤ xb + 1; omega) _, h2⟩
theorem B3.pushY {w1 : World} {csl : List (List Value)} {v' : Value} {x : Te} {c : List Value} (h : B3 w wr xb kn ka kb kc kd xs vX ys vY es ts ns ds ms ps vE vN vD vT vM vP)
    (hG : Grow teK 35 w.heap.size wr (others (famK w.heap.size xb kn ka kb kc kd xs vX ys vY es ts ns ds ms ps vE vN vD vT vM vP) 1) ys vY csl)
    (hR : RepT wr (owns (famK w.heap.size xb kn ka kb kc kd xs vX ys vY es ts ns ds ms ps vE vN vD vT vM vP)) x c)
    (ho : w1.ownsRow w.heap.size 35 4 v' (ys.length + 1) (csl.flatten ++ c)) (hg : wr.grownBy w1 vY.ownBlock) (hv : v'.ownBlock = vY.ownBlock ∨ v'.ownBlock = some wr.heap.size) (hx : w.heap.size ≤ xb) :
    (w1.cell? ⟨xb + 1, 3, none⟩ = some vY ∧ w1.frozen? ⟨xb + 1, 3, none⟩ = false) ∧ B3 w (w1.setCell ⟨xb + 1, 3, none⟩ v') xb kn ka kb kc kd xs vX (ys ++ [x]) v' es ts ns ds ms ps vE vN vD vT vM vP := by
  have h1 := h.sep.push 1 rfl hG (x := x) (c := c) hR ho hg hv
  have h2 := h1.store 2 rfl 3 v'
  exact ⟨⟨(h1.blk 2 rfl).cell 3, (h1.blk 2 rfl).frozen 3⟩, (h.below.grown hg h.below.size (fun b hb => (hG.blt hb).1)).setCell (by show w.heap.size ≤ xb + 1; omega) _, h2⟩
theorem B3.up (h : B3 w wr xb kn ka kb kc kd xs vX ys vY es ts ns ds ms ps vE vN vD vT vM vP) (hb : Below wr.heap.size wr wr') : B3 w wr' xb kn ka kb kc kd xs vX ys vY es ts ns ds ms ps vE vN vD vT vM vP :=
  ⟨h.below.trans (hb.mono h.below.size), h.sep.below hb⟩
theorem B3.leave (h : B3 w wr xb kn ka kb kc kd xs vX ys vY es ts ns ds ms ps vE vN vD vT vM vP) : B1 w wr es ts ns ds ms ps vE vN vD vT vM vP := ⟨h.below, (((h.sep.drop 0).drop 0).drop 0).drop 0⟩
theorem B3.box (h : B3 w wr xb kn ka kb kc kd xs vX ys vY es ts ns ds ms ps vE vN vD vT vM vP) (j1 : I64 kn.op) (j3 : kn.nm.size ≤ 9223372036854775807) : ∃ aA cA aB cB, vX = .slice aA xs.length cA ∧ vY = .slice aB ys.length cB ∧ RepT wr (owns (famB w.heap.size es ts ns ds ms ps vE vN vD vT vM vP)) (.mk kn.op kn.nm xs ys) [.int .i64 kn.op, .string kn.nm, .slice aA xs.length cA, .slice aB ys.length cB] := by
  obtain ⟨aA, cA, hv, hS⟩ := h.sep.still 0 rfl
  obtain ⟨aB, cB, hv2, hS2⟩ := h.sep.still 1 rfl
  have key : ∀ b, b ∈ owns (famB w.heap.size es ts ns ds ms ps vE vN vD vT vM vP) → ∀ i, i < 2 → b ∈ others (famK w.heap.size xb kn ka kb kc kd xs vX ys vY es ts ns ds ms ps vE vN vD vT vM vP) i := by
    intro b hm i hi
    obtain ⟨m, o, ho, hb'⟩ := mem_owns.1 hm
    exact mem_others.2 ⟨m + 4, o, by omega, by simpa [famK] using ho, hb'⟩
  exact ⟨aA, cA, aB, cB, hv, hv2, RepT.mk' j1 j3 (hS.less (fun b _ hm => key b hm 0 (by omega))).slE (hS2.less (fun b _ hm => key b hm 1 (by omega))).slT⟩
end
/-- The six slices of a tree that was built. -/
def TreeIs (w : World) (X : List Nat) (es : List Ex) (ts : List Te) (cs : List Value) : Prop :=
  ∃ aE cE aN cN aD cD aT cT aM cM aP cP, cs = [.slice aE es.length cE, .slice aN (nds es).length cN, .slice aD (rks es).length cD, .slice aT ts.length cT, .slice aM (ndsT ts).length cM, .slice aP (rksT ts).length cP] ∧
    SlR exK w X es aE es.length cE ∧ SlR i64K w X (nds es) aN (nds es).length cN ∧ SlR i64K w X (rks es) aD (rks es).length cD ∧ SlR teK w X ts aT ts.length cT ∧ SlR i64K w X (ndsT ts) aM (ndsT ts).length cM ∧ SlR i64K w X (rksT ts) aP (rksT ts).length cP
theorem TreeIs.kept {w w' : World} {X : List Nat} {es : List Ex} {ts : List Te} {cs : List Value} (h : TreeIs w X es ts cs) (k : Kept X w w') : TreeIs w' X es ts cs := by
  obtain ⟨aE, cE, aN, cN, aD, cD, aT, cT, aM, cM, aP, cP, e, h1, h2, h3, h4, h5, h6⟩ := h
  exact ⟨aE, cE, aN, cN, aD, cD, aT, cT, aM, cM, aP, cP, e, h1.kept k, h2.kept k, h3.kept k, h4.kept k, h5.kept k, h6.kept k⟩
theorem TreeIs.less' {w : World} {X : List Nat} {es : List Ex} {ts : List Te} {cs : List Value} (h : TreeIs w X es ts cs) : TreeIs w [] es ts cs := by
  obtain ⟨aE, cE, aN, cN, aD, cD, aT, cT, aM, cM, aP, cP, e, h1, h2, h3, h4, h5, h6⟩ := h
  have k : ∀ b, b < w.heap.size → b ∈ ([] : List Nat) → b ∈ X := fun b _ hb => absurd hb List.not_mem_nil
  exact ⟨aE, cE, aN, cN, aD, cD, aT, cT, aM, cM, aP, cP, e, h1.less k, h2.less k, h3.less k, h4.less k, h5.less k, h6.less k⟩
theorem B1.tree {w wr : World} {es : List Ex} {ts : List Te} {vE vN vD vT vM vP : Value} (h : B1 w wr es ts (nds es) (rks es) (ndsT ts) (rksT ts) vE vN vD vT vM vP) : TreeIs wr [w.heap.size] es ts [vE, vN, vD, vT, vM, vP] := by
  have key : ∀ i, i < 6 → w.heap.size ∈ others (famB w.heap.size es ts (nds es) (rks es) (ndsT ts) (rksT ts) vE vN vD vT vM vP) i := fun i hi => mem_others.2 ⟨7, _, by omega, rfl, by simp [bx]⟩
  have sub : ∀ i, i < 6 → ∀ b, b ∈ [w.heap.size] → b ∈ others (famB w.heap.size es ts (nds es) (rks es) (ndsT ts) (rksT ts) vE vN vD vT vM vP) i := fun i hi b hb => by rw [List.mem_singleton] at hb; subst hb; exact key i hi
  obtain ⟨aE, cE, rfl, hE⟩ := h.sep.still 0 rfl
  obtain ⟨aN, cN, rfl, hN⟩ := h.sep.still 1 rfl
  obtain ⟨aD, cD, rfl, hD⟩ := h.sep.still 2 rfl
  obtain ⟨aT, cT, rfl, hT⟩ := h.sep.still 3 rfl
  obtain ⟨aM, cM, rfl, hM⟩ := h.sep.still 4 rfl
  obtain ⟨aP, cP, rfl, hQ⟩ := h.sep.still 5 rfl
  exact ⟨aE, cE, aN, cN, aD, cD, aT, cT, aM, cM, aP, cP, rfl, hE.less (fun b _ hm => sub 0 (by omega) b hm), hN.less (fun b _ hm => sub 1 (by omega) b hm), hD.less (fun b _ hm => sub 2 (by omega) b hm), hT.less (fun b _ hm => sub 3 (by omega) b hm), hM.less (fun b _ hm => sub 4 (by omega) b hm), hQ.less (fun b _ hm => sub 5 (by omega) b hm)⟩
/-- The answer's block is written. -/
theorem TreeIs.fin {w wr : World} {es : List Ex} {ts : List Te} {c0 c1 c2 c3 c4 c5 : Value} (h : TreeIs wr [w.heap.size] es ts [c0, c1, c2, c3, c4, c5]) (hb : Below w.heap.size w wr) :
    TreeIs ((((((wr.setCell ⟨w.heap.size, 0, none⟩ c0).setCell ⟨w.heap.size, 1, none⟩ c1).setCell ⟨w.heap.size, 2, none⟩ c2).setCell ⟨w.heap.size, 3, none⟩ c3).setCell ⟨w.heap.size, 4, none⟩ c4).setCell ⟨w.heap.size, 5, none⟩ c5) [w.heap.size] es ts [c0, c1, c2, c3, c4, c5] ∧
    Below w.heap.size w ((((((wr.setCell ⟨w.heap.size, 0, none⟩ c0).setCell ⟨w.heap.size, 1, none⟩ c1).setCell ⟨w.heap.size, 2, none⟩ c2).setCell ⟨w.heap.size, 3, none⟩ c3).setCell ⟨w.heap.size, 4, none⟩ c4).setCell ⟨w.heap.size, 5, none⟩ c5) := by
  refine ⟨h.kept ((((((Kept.setCell wr (by simp) _).trans (Kept.setCell _ (by simp) _)).trans (Kept.setCell _ (by simp) _)).trans (Kept.setCell _ (by simp) _)).trans (Kept.setCell _ (by simp) _)).trans (Kept.setCell _ (by simp) _)), ?_⟩
  exact (((((hb.setCell (Nat.le_refl _) _).setCell (Nat.le_refl _) _).setCell (Nat.le_refl _) _).setCell (Nat.le_refl _) _).setCell (Nat.le_refl _) _).setCell (Nat.le_refl _) _
end Go.Proofs.Ytppnmeobnilojaa

/- Slices of ints, appended to a row of the call's own. -/
namespace Go.Proofs.Ytppnmeobnilojaa
set_option linter.unusedVariables false
set_option linter.unusedSimpArgs false
open Go.RowKit
def ivs (l : List Int) : List Value := l.map (fun x => .int .i64 x)
theorem ivs_len (l : List Int) : (ivs l).length = l.length := by unfold ivs; rw [List.length_map]
theorem ivs_app (l m : List Int) : ivs l ++ ivs m = ivs (l ++ m) := by unfold ivs; rw [List.map_append]
theorem ivs_one (l : List Int) : ∀ u ∈ ivs l, u.oneCell' = true := by
  intro u hu
  unfold ivs at hu
  obtain ⟨x, -, rfl⟩ := List.mem_map.1 hu
  rfl
theorem ivs_flat (l : List Int) : (l.map (fun x => [Value.int .i64 x])).flatten = ivs l := by
  induction l with
  | nil => rfl
  | cons x t ih => rw [List.map_cons, List.flatten_cons, ih]; rfl
theorem own_ints {w : World} {base : Nat} {e : TypeId} {v : Value} {n : Nat} {l : List Int} (h : w.ownsRow base e 1 v n (ivs l)) (hb : base ≤ w.heap.size) (hl : l.length = n) (hI : ∀ x ∈ l, I64 x) :
    ∃ a cap, v = .slice a n cap ∧ SlR i64K w [] l a n cap := by
  have hg : Gro i64K e base w [] l v (l.map (fun x => [Value.int .i64 x])) := by
    refine ⟨by rw [ivs_flat, hl]; exact h, hb, (fun b hb => by cases hb), (by rw [List.length_map]), fun i x cs hx hc => ?_⟩
    rw [List.getElem?_map, hx] at hc
    injection hc with hc
    exact ⟨hc.symm, hI x (List.mem_of_getElem? hx)⟩
  obtain ⟨a, cap, rfl, h2⟩ := hg.slR
  rw [hl] at h2 ⊢
  exact ⟨a, cap, rfl, h2⟩
theorem SlR.ints {w : World} {X : List Nat} {l : List Int} {a : Option Addr} {len cap : Nat} (h : SlR i64K w X l a len cap) (hp : 0 < len) : ∃ ad, a = some ad ∧ ∀ j u, (ivs l)[j]? = some u → w.cell? (ad.add j) = some u := by
  obtain ⟨b, o, x, cs, rfl, -, -, -, -, -, -⟩ := h.at 0 hp
  refine ⟨_, rfl, fun j u hj => ?_⟩
  unfold ivs at hj
  rw [List.getElem?_map] at hj
  cases hx : l[j]? with
  | none => rw [hx] at hj; cases hj
  | some y =>
    rw [hx] at hj
    injection hj with hj
    subst hj
    have hjl : j < len := by have := (List.getElem?_eq_some_iff.1 hx).1; have := h.facts.1; omega
    obtain ⟨b', o', x', cs', e1, -, -, hx', ⟨rfl, -⟩, -, hc⟩ := h.at j hjl
    injection e1 with e1; injection e1 with e1 e2; subst e1; subst e2
    rw [hx] at hx'
    injection hx' with hx'
    subst hx'
    have := hc 0 _ rfl
    rw [Mem.add_off]
    simpa [i64K] using this
theorem SlR.i64 {w : World} {X : List Nat} {l : List Int} {a : Option Addr} {len cap : Nat} (h : SlR i64K w X l a len cap) : ∀ x ∈ l, I64 x := by
  intro x hx
  obtain ⟨j, hj⟩ := List.getElem?_of_mem hx
  have hjl : j < len := by have := (List.getElem?_eq_some_iff.1 hj).1; have := h.facts.1; omega
  obtain ⟨b', o', x', cs', e1, -, -, hx', ⟨rfl, h2⟩, -, hc⟩ := h.at j hjl
  rw [hj] at hx'
  injection hx' with hx'
  subst hx'
  exact h2
/-- append of a whole slice of ints, nil or not. -/
theorem ap_sl {P : Program} {w : World} {ops : Array Oper} {rest : List Oper} {o : Oper} {a : Act} {Q : Exit → Act → World → Prop} {t e : TypeId} {z : Value} {bytes base : Nat}
    (hinfo : (P.info? e).map (fun i => (i.zero, i.size, i.bytes)) = some (some z, 1, bytes)) (ht : P.underlying t = some (.slice e)) (hzs : z.cells.size = 1)
    (hgd : o.guard = none) (s x : Operand) (ho : o.op = .call { callee := .builtin .append, args := #[s, x], argTypes := #[t, t] })
    {v : Value} {n : Nat} {xs : List Value} (hs : a.eval s = v) (hown : w.ownsRow base e 1 v n xs) (hbase : base ≤ w.heap.size)
    {l : List Int} {ad : Option Addr} {m c : Nat} (hS : SlR i64K w [] l ad m c) (hx : a.eval x = .slice ad m c) (hnil : m = 0 → ad = none)
    (h63 : n + m ≤ maxLen) (hbytes : (n + m) * bytes ≤ 140737488355328)
    (h : ∀ v' w', w'.ownsRow base e 1 v' (n + m) (xs ++ ivs l) → w.grownBy w' v.ownBlock → (v'.ownBlock = v.ownBlock ∨ v'.ownBlock = some w.heap.size) → wpList P ops Q rest (a.put o.dst v') w') :
    wpList P ops Q (o :: rest) a w := by
  by_cases hm : m = 0
  · subst hm
    obtain ⟨i, hi, hz, hsize, hby⟩ := info_parts hinfo
    obtain ⟨av, capv, rfl⟩ := own_slice hown
    have hl0 : l = [] := List.length_eq_zero_iff.1 hS.facts.1
    have hcap : n ≤ capv := by
      rcases hown.2 with ⟨h1, h2⟩ | ⟨g, cap', cur, h1, h2, h3, h4, h5⟩
      · injection h1 with _ h1 h3; omega
      · injection h1 with _ h1 h3; omega
    have hsrc : Src P i.size t (.slice ad 0 c) 0 [] w := by
      rw [hnil rfl]
      exact Src.ofNil w ht c
    have hrun := run_append_nothing (P := P) w t t o.type e i ht hi av n capv hcap _ hsrc
    refine wpList_plain hgd fun _ hK => ?_
    unfold Oper.wp execOp
    simp only [ho, resolve, invoke, builtin, Sem.run_bind, Sem.run_pure, Result.andThen_ok, List.map_toArray, List.map_cons, List.map_nil, hs, hx, hrun]
    refine hK _ _ (h _ w ?_ (Mem.grown_of_below (Below.refl _ _) _) (.inl rfl))
    rw [hl0]
    show w.ownsRow base e 1 _ (n + 0) (xs ++ [])
    rw [List.append_nil]
    exact hown
  · obtain ⟨ad', rfl, hc⟩ := hS.ints (by omega)
    exact ap_row hinfo ht hzs (by decide) hgd s x ho hs hown hbase ad' m c (ivs l) hx (by rw [ivs_len, hS.facts.1, Nat.mul_one]) hc (ivs_one l) h63 hbytes h
end Go.Proofs.Ytppnmeobnilojaa

/- The contract of check.value; condition: as many numbers as the op takes. -/
namespace Go.Proofs.Ytppnmeobnilojaa
set_option linter.unusedVariables false
set_option linter.unusedSimpArgs false
open Go.RowKit
theorem int_at {w : World} {X : List Nat} {l : List Int} {a : Option Addr} {len cap : Nat} (h : SlR i64K w X l a len cap) (k : Nat) (hk : k < len) : ∃ b o x, a = some ⟨b, o, none⟩ ∧ l[k]? = some x ∧ I64 x ∧ w.cell? ⟨b, o + k, none⟩ = some (.int .i64 x) := by
  obtain ⟨b, o, x, cs, e, -, -, hx, ⟨rfl, hi⟩, -, hc⟩ := h.at k hk
  exact ⟨b, o, x, e, hx, hi, by have := hc 0 _ rfl; simpa [i64K] using this⟩
set_option maxRecDepth 100000 in
set_option maxHeartbeats 1000000 in
theorem value_any (op : Int) (l : List Int) (a : Option Addr) (len cap : Nat) (w : World) (hl : SlR i64K w [] l a len cap) (h2 : 5 ≤ op → op ≤ 10 → l.length = 2) (h1 : op = 20 → l.length = 1) :
    Calls Try.prog 93 #[.int .i64 op, .slice a len cap] w fun e w' => e = fitR (valueM op l) ∧ Below w.heap.size w w' := by
  obtain ⟨f1, f2, f3⟩ := hl.facts
  by_cases h510 : 5 ≤ op ∧ op ≤ 10
  · have hl2 := h2 h510.1 h510.2
    obtain ⟨x, y, rfl⟩ : ∃ x y, l = [x, y] := by
      match l, hl2 with
      | [x, y], _ => exact ⟨x, y, rfl⟩
    obtain rfl : len = 2 := by simp at f1; omega
    obtain ⟨b, o, x', rfl, hx, i0, c0⟩ := int_at hl 0 (by omega)
    obtain ⟨b', o', y', e, hy, i1, c1⟩ := int_at hl 1 (by omega)
    injection e with e; injection e with e e'; subst e; subst e'
    simp at hx hy
    subst hx; subst hy
    have g0 := Lib.hid i0
    have g1 := Lib.hid i1
    unfold I64 at i0 i1
    obtain ⟨i0, i0'⟩ := i0
    obtain ⟨i1, i1'⟩ := i1
    have HV := Lib.hid (show valueM op [x, y] = if op = 5 then fitI (x + y) else if op = 6 then fitI (x - y) else if op = 7 then fitI (x * y) else if op = 8 then (if y = 0 then none else fitI (x.fdiv y)) else if op = 9 then some (min x y) else if op = 10 then some (max x y) else if op = 20 then fitI (-x) else none from rfl)
    clear h1 h2 hl2 f1 f2 f3 hl
    rw [Nat.add_zero] at c0
    rw [HV.out]
    clear HV
    obtain ⟨h5, h10⟩ := h510
    have hop : op = 5 ∨ op = 6 ∨ op = 7 ∨ op = 8 ∨ op = 9 ∨ op = 10 := by omega
    clear h5 h10
    rcases hop with rfl | rfl | rfl | rfl | rfl | rfl
    · simp only [if_pos]
      go_enter Try.func93, Try.ntmps93
      go_wp2_with fail
      refine wp_region_till (S := fun W => W.cell? ⟨b, o, none⟩ = some (.int .i64 x) ∧ W.cell? ⟨b, o + 1, none⟩ = some (.int .i64 y)) 6 (by kernel_rfl) ?_
      refine till_take (i := 0) (v := ?_) rfl (by kernel_rfl) (fun _ _ _ h => h) (Or.inl ⟨by rfl, ?_⟩) ⟨c0,c1⟩ ?_
      rotate_left
      · intro W hS
        try dsimp only at hS
        go_split_ands
        go_simp
        try with_reducible rfl
      try simp only [Act.put, List.getElem_toArray, List.getElem_cons_zero, List.getElem_cons_succ, List.setIfInBounds_toArray, List.set_cons_zero, List.set_cons_succ]
      refine till_take (i := 1) (v := ?_) rfl (by kernel_rfl) (fun _ _ _ h => h) (Or.inl ⟨by rfl, ?_⟩) ⟨c0,c1⟩ ?_
      rotate_left
      · intro W hS
        try dsimp only at hS
        go_split_ands
        go_simp
        try with_reducible rfl
      try simp only [Act.put, List.getElem_toArray, List.getElem_cons_zero, List.getElem_cons_succ, List.setIfInBounds_toArray, List.set_cons_zero, List.set_cons_succ]
      refine till_take (i := 2) (v := ?_) rfl (by kernel_rfl) (fun _ _ _ h => h) (Or.inl ⟨by rfl, ?_⟩) ⟨c0,c1⟩ ?_
      rotate_left
      · intro W hS
        try dsimp only at hS
        go_split_ands
        go_simp
        try with_reducible rfl
      try simp only [Act.put, List.getElem_toArray, List.getElem_cons_zero, List.getElem_cons_succ, List.setIfInBounds_toArray, List.set_cons_zero, List.set_cons_succ]
      refine till_take (i := 3) (v := ?_) rfl (by kernel_rfl) (fun _ _ _ h => h) (Or.inl ⟨by rfl, ?_⟩) ⟨c0,c1⟩ ?_
      rotate_left
      · intro W hS
        try dsimp only at hS
        go_split_ands
        go_simp
        try with_reducible rfl
      try simp only [Act.put, List.getElem_toArray, List.getElem_cons_zero, List.getElem_cons_succ, List.setIfInBounds_toArray, List.set_cons_zero, List.set_cons_succ]
      refine till_take (i := 4) (v := ?_) rfl (by kernel_rfl) (fun _ _ _ h => h) (Or.inl ⟨by rfl, ?_⟩) ⟨c0,c1⟩ ?_
      rotate_left
      · intro W hS
        try dsimp only at hS
        go_split_ands
        go_simp
        try with_reducible rfl
      try simp only [Act.put, List.getElem_toArray, List.getElem_cons_zero, List.getElem_cons_succ, List.setIfInBounds_toArray, List.set_cons_zero, List.set_cons_succ]
      refine till_take (i := 5) (v := ?_) rfl (by kernel_rfl) (fun _ _ _ h => h) (Or.inl ⟨by rfl, ?_⟩) ⟨c0,c1⟩ ?_
      rotate_left
      · intro W hS
        try dsimp only at hS
        go_split_ands
        go_simp
        try with_reducible rfl
      try simp only [Act.put, List.getElem_toArray, List.getElem_cons_zero, List.getElem_cons_succ, List.setIfInBounds_toArray, List.set_cons_zero, List.set_cons_succ]
      refine till_last (by kernel_rfl) rfl (by kernel_rfl) (fun K' hK => ?_)
      go_simp
      go_at_call 118
      (with_reducible refine (numAdd_any _ _ _ g0.out g1.out).mono ?_)
      rintro r w1 ⟨rfl, rfl⟩
      unfold fitR
      refine hK _ _ ?_
      clear hK K'
      try simp only [Act.put, List.getElem_toArray, List.getElem_cons_zero, List.getElem_cons_succ, List.setIfInBounds_toArray, List.set_cons_zero, List.set_cons_succ]
      refine any_take (i := 7) (v := ?_) rfl (by kernel_rfl) (fun _ _ _ h => h) (Or.inl ⟨by rfl, ?_⟩) ?_
      rotate_left
      · intro W
        go_simp
        try with_reducible rfl
      try simp only [Act.put, List.getElem_toArray, List.getElem_cons_zero, List.getElem_cons_succ, List.setIfInBounds_toArray, List.set_cons_zero, List.set_cons_succ]
      refine any_take (i := 8) (v := ?_) rfl (by kernel_rfl) (fun _ _ _ h => h) (Or.inl ⟨by rfl, ?_⟩) ?_
      rotate_left
      · intro W
        go_simp
        try with_reducible rfl
      try simp only [Act.put, List.getElem_toArray, List.getElem_cons_zero, List.getElem_cons_succ, List.setIfInBounds_toArray, List.set_cons_zero, List.set_cons_succ]
      refine any_take (i := 9) (v := ?_) rfl (by kernel_rfl) (fun _ _ _ h => h) (Or.inl ⟨by rfl, ?_⟩) ?_
      rotate_left
      · intro W
        go_simp
        try with_reducible rfl
      try simp only [Act.put, List.getElem_toArray, List.getElem_cons_zero, List.getElem_cons_succ, List.setIfInBounds_toArray, List.set_cons_zero, List.set_cons_succ]
      refine any_take (i := 10) (v := ?_) rfl (by kernel_rfl) (fun _ _ _ h => h) (Or.inl ⟨by rfl, ?_⟩) ?_
      rotate_left
      · intro W
        go_simp
        try with_reducible rfl
      try simp only [Act.put, List.getElem_toArray, List.getElem_cons_zero, List.getElem_cons_succ, List.setIfInBounds_toArray, List.set_cons_zero, List.set_cons_succ]
      refine wpAny_done (by kernel_rfl) ?_ _
      go_wp2_with fail
      go_ret2
      exact ⟨rfl, (Below.refl _ _).drew⟩
    · rw [if_neg (by decide), if_pos rfl]
      go_enter Try.func93, Try.ntmps93
      go_wp2_with fail
      refine wp_region_till (S := fun W => W.cell? ⟨b, o, none⟩ = some (.int .i64 x) ∧ W.cell? ⟨b, o + 1, none⟩ = some (.int .i64 y)) 6 (by kernel_rfl) ?_
      refine till_take (i := 0) (v := ?_) rfl (by kernel_rfl) (fun _ _ _ h => h) (Or.inl ⟨by rfl, ?_⟩) ⟨c0,c1⟩ ?_
      rotate_left
      · intro W hS
        try dsimp only at hS
        go_split_ands
        go_simp
        try with_reducible rfl
      try simp only [Act.put, List.getElem_toArray, List.getElem_cons_zero, List.getElem_cons_succ, List.setIfInBounds_toArray, List.set_cons_zero, List.set_cons_succ]
      refine till_take (i := 1) (v := ?_) rfl (by kernel_rfl) (fun _ _ _ h => h) (Or.inl ⟨by rfl, ?_⟩) ⟨c0,c1⟩ ?_
      rotate_left
      · intro W hS
        try dsimp only at hS
        go_split_ands
        go_simp
        try with_reducible rfl
      try simp only [Act.put, List.getElem_toArray, List.getElem_cons_zero, List.getElem_cons_succ, List.setIfInBounds_toArray, List.set_cons_zero, List.set_cons_succ]
      refine till_take (i := 2) (v := ?_) rfl (by kernel_rfl) (fun _ _ _ h => h) (Or.inl ⟨by rfl, ?_⟩) ⟨c0,c1⟩ ?_
      rotate_left
      · intro W hS
        try dsimp only at hS
        go_split_ands
        go_simp
        try with_reducible rfl
      try simp only [Act.put, List.getElem_toArray, List.getElem_cons_zero, List.getElem_cons_succ, List.setIfInBounds_toArray, List.set_cons_zero, List.set_cons_succ]
      refine till_take (i := 3) (v := ?_) rfl (by kernel_rfl) (fun _ _ _ h => h) (Or.inl ⟨by rfl, ?_⟩) ⟨c0,c1⟩ ?_
      rotate_left
      · intro W hS
        try dsimp only at hS
        go_split_ands
        go_simp
        try with_reducible rfl
      try simp only [Act.put, List.getElem_toArray, List.getElem_cons_zero, List.getElem_cons_succ, List.setIfInBounds_toArray, List.set_cons_zero, List.set_cons_succ]
      refine till_take (i := 4) (v := ?_) rfl (by kernel_rfl) (fun _ _ _ h => h) (Or.inl ⟨by rfl, ?_⟩) ⟨c0,c1⟩ ?_
      rotate_left
      · intro W hS
        try dsimp only at hS
        go_split_ands
        go_simp
        try with_reducible rfl
      try simp only [Act.put, List.getElem_toArray, List.getElem_cons_zero, List.getElem_cons_succ, List.setIfInBounds_toArray, List.set_cons_zero, List.set_cons_succ]
      refine till_take (i := 5) (v := ?_) rfl (by kernel_rfl) (fun _ _ _ h => h) (Or.inl ⟨by rfl, ?_⟩) ⟨c0,c1⟩ ?_
      rotate_left
      · intro W hS
        try dsimp only at hS
        go_split_ands
        go_simp
        try with_reducible rfl
      try simp only [Act.put, List.getElem_toArray, List.getElem_cons_zero, List.getElem_cons_succ, List.setIfInBounds_toArray, List.set_cons_zero, List.set_cons_succ]
      refine till_last (by kernel_rfl) rfl (by kernel_rfl) (fun K' hK => ?_)
      go_simp
      go_at_call 119
      (with_reducible refine (numSub_any _ _ _ g0.out g1.out).mono ?_)
      rintro r w1 ⟨rfl, rfl⟩
      unfold fitR
      refine hK _ _ ?_
      clear hK K'
      try simp only [Act.put, List.getElem_toArray, List.getElem_cons_zero, List.getElem_cons_succ, List.setIfInBounds_toArray, List.set_cons_zero, List.set_cons_succ]
      refine any_take (i := 7) (v := ?_) rfl (by kernel_rfl) (fun _ _ _ h => h) (Or.inl ⟨by rfl, ?_⟩) ?_
      rotate_left
      · intro W
        go_simp
        try with_reducible rfl
      try simp only [Act.put, List.getElem_toArray, List.getElem_cons_zero, List.getElem_cons_succ, List.setIfInBounds_toArray, List.set_cons_zero, List.set_cons_succ]
      refine any_take (i := 8) (v := ?_) rfl (by kernel_rfl) (fun _ _ _ h => h) (Or.inl ⟨by rfl, ?_⟩) ?_
      rotate_left
      · intro W
        go_simp
        try with_reducible rfl
      try simp only [Act.put, List.getElem_toArray, List.getElem_cons_zero, List.getElem_cons_succ, List.setIfInBounds_toArray, List.set_cons_zero, List.set_cons_succ]
      refine any_take (i := 9) (v := ?_) rfl (by kernel_rfl) (fun _ _ _ h => h) (Or.inl ⟨by rfl, ?_⟩) ?_
      rotate_left
      · intro W
        go_simp
        try with_reducible rfl
      try simp only [Act.put, List.getElem_toArray, List.getElem_cons_zero, List.getElem_cons_succ, List.setIfInBounds_toArray, List.set_cons_zero, List.set_cons_succ]
      refine any_take (i := 10) (v := ?_) rfl (by kernel_rfl) (fun _ _ _ h => h) (Or.inl ⟨by rfl, ?_⟩) ?_
      rotate_left
      · intro W
        go_simp
        try with_reducible rfl
      try simp only [Act.put, List.getElem_toArray, List.getElem_cons_zero, List.getElem_cons_succ, List.setIfInBounds_toArray, List.set_cons_zero, List.set_cons_succ]
      refine wpAny_done (by kernel_rfl) ?_ _
      go_wp2_with fail
      go_ret2
      exact ⟨rfl, (Below.refl _ _).drew⟩
    · rw [if_neg (by decide), if_neg (by decide), if_pos rfl]
      go_enter Try.func93, Try.ntmps93
      go_wp2_with fail
      refine wp_region_till (S := fun W => W.cell? ⟨b, o, none⟩ = some (.int .i64 x) ∧ W.cell? ⟨b, o + 1, none⟩ = some (.int .i64 y)) 6 (by kernel_rfl) ?_
      refine till_take (i := 0) (v := ?_) rfl (by kernel_rfl) (fun _ _ _ h => h) (Or.inl ⟨by rfl, ?_⟩) ⟨c0,c1⟩ ?_
      rotate_left
      · intro W hS
        try dsimp only at hS
        go_split_ands
        go_simp
        try with_reducible rfl
      try simp only [Act.put, List.getElem_toArray, List.getElem_cons_zero, List.getElem_cons_succ, List.setIfInBounds_toArray, List.set_cons_zero, List.set_cons_succ]
      refine till_take (i := 1) (v := ?_) rfl (by kernel_rfl) (fun _ _ _ h => h) (Or.inl ⟨by rfl, ?_⟩) ⟨c0,c1⟩ ?_
      rotate_left
      · intro W hS
        try dsimp only at hS
        go_split_ands
        go_simp
        try with_reducible rfl
      try simp only [Act.put, List.getElem_toArray, List.getElem_cons_zero, List.getElem_cons_succ, List.setIfInBounds_toArray, List.set_cons_zero, List.set_cons_succ]
      refine till_take (i := 2) (v := ?_) rfl (by kernel_rfl) (fun _ _ _ h => h) (Or.inl ⟨by rfl, ?_⟩) ⟨c0,c1⟩ ?_
      rotate_left
      · intro W hS
        try dsimp only at hS
        go_split_ands
        go_simp
        try with_reducible rfl
      try simp only [Act.put, List.getElem_toArray, List.getElem_cons_zero, List.getElem_cons_succ, List.setIfInBounds_toArray, List.set_cons_zero, List.set_cons_succ]
      refine till_take (i := 3) (v := ?_) rfl (by kernel_rfl) (fun _ _ _ h => h) (Or.inl ⟨by rfl, ?_⟩) ⟨c0,c1⟩ ?_
      rotate_left
      · intro W hS
        try dsimp only at hS
        go_split_ands
        go_simp
        try with_reducible rfl
      try simp only [Act.put, List.getElem_toArray, List.getElem_cons_zero, List.getElem_cons_succ, List.setIfInBounds_toArray, List.set_cons_zero, List.set_cons_succ]
      refine till_take (i := 4) (v := ?_) rfl (by kernel_rfl) (fun _ _ _ h => h) (Or.inl ⟨by rfl, ?_⟩) ⟨c0,c1⟩ ?_
      rotate_left
      · intro W hS
        try dsimp only at hS
        go_split_ands
        go_simp
        try with_reducible rfl
      try simp only [Act.put, List.getElem_toArray, List.getElem_cons_zero, List.getElem_cons_succ, List.setIfInBounds_toArray, List.set_cons_zero, List.set_cons_succ]
      refine till_take (i := 5) (v := ?_) rfl (by kernel_rfl) (fun _ _ _ h => h) (Or.inl ⟨by rfl, ?_⟩) ⟨c0,c1⟩ ?_
      rotate_left
      · intro W hS
        try dsimp only at hS
        go_split_ands
        go_simp
        try with_reducible rfl
      try simp only [Act.put, List.getElem_toArray, List.getElem_cons_zero, List.getElem_cons_succ, List.setIfInBounds_toArray, List.set_cons_zero, List.set_cons_succ]
      refine till_last (by kernel_rfl) rfl (by kernel_rfl) (fun K' hK => ?_)
      go_simp
      go_at_call 120
      (with_reducible refine (numMul_any _ _ _ g0.out g1.out).mono ?_)
      rintro r w1 ⟨rfl, b1⟩
      unfold fitR
      refine hK _ _ ?_
      clear hK K'
      try simp only [Act.put, List.getElem_toArray, List.getElem_cons_zero, List.getElem_cons_succ, List.setIfInBounds_toArray, List.set_cons_zero, List.set_cons_succ]
      refine any_take (i := 7) (v := ?_) rfl (by kernel_rfl) (fun _ _ _ h => h) (Or.inl ⟨by rfl, ?_⟩) ?_
      rotate_left
      · intro W
        go_simp
        try with_reducible rfl
      try simp only [Act.put, List.getElem_toArray, List.getElem_cons_zero, List.getElem_cons_succ, List.setIfInBounds_toArray, List.set_cons_zero, List.set_cons_succ]
      refine any_take (i := 8) (v := ?_) rfl (by kernel_rfl) (fun _ _ _ h => h) (Or.inl ⟨by rfl, ?_⟩) ?_
      rotate_left
      · intro W
        go_simp
        try with_reducible rfl
      try simp only [Act.put, List.getElem_toArray, List.getElem_cons_zero, List.getElem_cons_succ, List.setIfInBounds_toArray, List.set_cons_zero, List.set_cons_succ]
      refine any_take (i := 9) (v := ?_) rfl (by kernel_rfl) (fun _ _ _ h => h) (Or.inl ⟨by rfl, ?_⟩) ?_
      rotate_left
      · intro W
        go_simp
        try with_reducible rfl
      try simp only [Act.put, List.getElem_toArray, List.getElem_cons_zero, List.getElem_cons_succ, List.setIfInBounds_toArray, List.set_cons_zero, List.set_cons_succ]
      refine any_take (i := 10) (v := ?_) rfl (by kernel_rfl) (fun _ _ _ h => h) (Or.inl ⟨by rfl, ?_⟩) ?_
      rotate_left
      · intro W
        go_simp
        try with_reducible rfl
      try simp only [Act.put, List.getElem_toArray, List.getElem_cons_zero, List.getElem_cons_succ, List.setIfInBounds_toArray, List.set_cons_zero, List.set_cons_succ]
      refine wpAny_done (by kernel_rfl) ?_ _
      go_wp2_with fail
      go_ret2
      exact ⟨rfl, (Below.refl _ _).drew.trans b1⟩
    · rw [if_neg (by decide), if_neg (by decide), if_neg (by decide), if_pos rfl]
      by_cases hy0 : y = 0
      · subst hy0
        have HM : Hid (∀ W, Calls Try.prog 121 #[.int .i64 x, .int .i64 1, .int .i64 0, .int .i64 1] W fun e w' => e = fitR none ∧ Below W.heap.size W w') := fun W => by have := numMulDiv_any x 0 W g0.out g1.out; rw [if_pos rfl] at this; exact this
        rw [if_pos rfl]
        go_enter Try.func93, Try.ntmps93
        go_wp2_with fail
        refine wp_region_till (S := fun W => W.cell? ⟨b, o, none⟩ = some (.int .i64 x) ∧ W.cell? ⟨b, o + 1, none⟩ = some (.int .i64 0)) 6 (by kernel_rfl) ?_
        refine till_take (i := 0) (v := ?_) rfl (by kernel_rfl) (fun _ _ _ h => h) (Or.inl ⟨by rfl, ?_⟩) ⟨c0,c1⟩ ?_
        rotate_left
        · intro W hS
          try dsimp only at hS
          go_split_ands
          go_simp
          try with_reducible rfl
        try simp only [Act.put, List.getElem_toArray, List.getElem_cons_zero, List.getElem_cons_succ, List.setIfInBounds_toArray, List.set_cons_zero, List.set_cons_succ]
        refine till_take (i := 1) (v := ?_) rfl (by kernel_rfl) (fun _ _ _ h => h) (Or.inl ⟨by rfl, ?_⟩) ⟨c0,c1⟩ ?_
        rotate_left
        · intro W hS
          try dsimp only at hS
          go_split_ands
          go_simp
          try with_reducible rfl
        try simp only [Act.put, List.getElem_toArray, List.getElem_cons_zero, List.getElem_cons_succ, List.setIfInBounds_toArray, List.set_cons_zero, List.set_cons_succ]
        refine till_take (i := 2) (v := ?_) rfl (by kernel_rfl) (fun _ _ _ h => h) (Or.inl ⟨by rfl, ?_⟩) ⟨c0,c1⟩ ?_
        rotate_left
        · intro W hS
          try dsimp only at hS
          go_split_ands
          go_simp
          try with_reducible rfl
        try simp only [Act.put, List.getElem_toArray, List.getElem_cons_zero, List.getElem_cons_succ, List.setIfInBounds_toArray, List.set_cons_zero, List.set_cons_succ]
        refine till_take (i := 3) (v := ?_) rfl (by kernel_rfl) (fun _ _ _ h => h) (Or.inl ⟨by rfl, ?_⟩) ⟨c0,c1⟩ ?_
        rotate_left
        · intro W hS
          try dsimp only at hS
          go_split_ands
          go_simp
          try with_reducible rfl
        try simp only [Act.put, List.getElem_toArray, List.getElem_cons_zero, List.getElem_cons_succ, List.setIfInBounds_toArray, List.set_cons_zero, List.set_cons_succ]
        refine till_take (i := 4) (v := ?_) rfl (by kernel_rfl) (fun _ _ _ h => h) (Or.inl ⟨by rfl, ?_⟩) ⟨c0,c1⟩ ?_
        rotate_left
        · intro W hS
          try dsimp only at hS
          go_split_ands
          go_simp
          try with_reducible rfl
        try simp only [Act.put, List.getElem_toArray, List.getElem_cons_zero, List.getElem_cons_succ, List.setIfInBounds_toArray, List.set_cons_zero, List.set_cons_succ]
        refine till_take (i := 5) (v := ?_) rfl (by kernel_rfl) (fun _ _ _ h => h) (Or.inl ⟨by rfl, ?_⟩) ⟨c0,c1⟩ ?_
        rotate_left
        · intro W hS
          try dsimp only at hS
          go_split_ands
          go_simp
          try with_reducible rfl
        try simp only [Act.put, List.getElem_toArray, List.getElem_cons_zero, List.getElem_cons_succ, List.setIfInBounds_toArray, List.set_cons_zero, List.set_cons_succ]
        refine till_last (by kernel_rfl) rfl (by kernel_rfl) (fun K' hK => ?_)
        go_simp
        go_at_call 121
        (with_reducible refine (HM.out _).mono ?_)
        rintro r w1 ⟨rfl, b1⟩
        unfold fitR
        refine hK _ _ ?_
        clear hK K'
        try simp only [Act.put, List.getElem_toArray, List.getElem_cons_zero, List.getElem_cons_succ, List.setIfInBounds_toArray, List.set_cons_zero, List.set_cons_succ]
        refine any_take (i := 7) (v := ?_) rfl (by kernel_rfl) (fun _ _ _ h => h) (Or.inl ⟨by rfl, ?_⟩) ?_
        rotate_left
        · intro W
          go_simp
          try with_reducible rfl
        try simp only [Act.put, List.getElem_toArray, List.getElem_cons_zero, List.getElem_cons_succ, List.setIfInBounds_toArray, List.set_cons_zero, List.set_cons_succ]
        refine any_take (i := 8) (v := ?_) rfl (by kernel_rfl) (fun _ _ _ h => h) (Or.inl ⟨by rfl, ?_⟩) ?_
        rotate_left
        · intro W
          go_simp
          try with_reducible rfl
        try simp only [Act.put, List.getElem_toArray, List.getElem_cons_zero, List.getElem_cons_succ, List.setIfInBounds_toArray, List.set_cons_zero, List.set_cons_succ]
        refine any_take (i := 9) (v := ?_) rfl (by kernel_rfl) (fun _ _ _ h => h) (Or.inl ⟨by rfl, ?_⟩) ?_
        rotate_left
        · intro W
          go_simp
          try with_reducible rfl
        try simp only [Act.put, List.getElem_toArray, List.getElem_cons_zero, List.getElem_cons_succ, List.setIfInBounds_toArray, List.set_cons_zero, List.set_cons_succ]
        refine any_take (i := 10) (v := ?_) rfl (by kernel_rfl) (fun _ _ _ h => h) (Or.inl ⟨by rfl, ?_⟩) ?_
        rotate_left
        · intro W
          go_simp
          try with_reducible rfl
        try simp only [Act.put, List.getElem_toArray, List.getElem_cons_zero, List.getElem_cons_succ, List.setIfInBounds_toArray, List.set_cons_zero, List.set_cons_succ]
        refine wpAny_done (by kernel_rfl) ?_ _
        go_wp2_with fail
        go_ret2
        exact ⟨rfl, (Below.refl _ _).drew.trans b1⟩
      · have HM := Lib.hid (fun W => numMulDiv_any x y W g0.out g1.out)
        rw [if_neg hy0]
        simp only [if_neg hy0] at HM
        clear hy0
        go_enter Try.func93, Try.ntmps93
        go_wp2_with fail
        refine wp_region_till (S := fun W => W.cell? ⟨b, o, none⟩ = some (.int .i64 x) ∧ W.cell? ⟨b, o + 1, none⟩ = some (.int .i64 y)) 6 (by kernel_rfl) ?_
        refine till_take (i := 0) (v := ?_) rfl (by kernel_rfl) (fun _ _ _ h => h) (Or.inl ⟨by rfl, ?_⟩) ⟨c0,c1⟩ ?_
        rotate_left
        · intro W hS
          try dsimp only at hS
          go_split_ands
          go_simp
          try with_reducible rfl
        try simp only [Act.put, List.getElem_toArray, List.getElem_cons_zero, List.getElem_cons_succ, List.setIfInBounds_toArray, List.set_cons_zero, List.set_cons_succ]
        refine till_take (i := 1) (v := ?_) rfl (by kernel_rfl) (fun _ _ _ h => h) (Or.inl ⟨by rfl, ?_⟩) ⟨c0,c1⟩ ?_
        rotate_left
        · intro W hS
          try dsimp only at hS
          go_split_ands
          go_simp
          try with_reducible rfl
        try simp only [Act.put, List.getElem_toArray, List.getElem_cons_zero, List.getElem_cons_succ, List.setIfInBounds_toArray, List.set_cons_zero, List.set_cons_succ]
        refine till_take (i := 2) (v := ?_) rfl (by kernel_rfl) (fun _ _ _ h => h) (Or.inl ⟨by rfl, ?_⟩) ⟨c0,c1⟩ ?_
        rotate_left
        · intro W hS
          try dsimp only at hS
          go_split_ands
          go_simp
          try with_reducible rfl
        try simp only [Act.put, List.getElem_toArray, List.getElem_cons_zero, List.getElem_cons_succ, List.setIfInBounds_toArray, List.set_cons_zero, List.set_cons_succ]
        refine till_take (i := 3) (v := ?_) rfl (by kernel_rfl) (fun _ _ _ h => h) (Or.inl ⟨by rfl, ?_⟩) ⟨c0,c1⟩ ?_
        rotate_left
        · intro W hS
          try dsimp only at hS
          go_split_ands
          go_simp
          try with_reducible rfl
        try simp only [Act.put, List.getElem_toArray, List.getElem_cons_zero, List.getElem_cons_succ, List.setIfInBounds_toArray, List.set_cons_zero, List.set_cons_succ]
        refine till_take (i := 4) (v := ?_) rfl (by kernel_rfl) (fun _ _ _ h => h) (Or.inl ⟨by rfl, ?_⟩) ⟨c0,c1⟩ ?_
        rotate_left
        · intro W hS
          try dsimp only at hS
          go_split_ands
          go_simp
          try with_reducible rfl
        try simp only [Act.put, List.getElem_toArray, List.getElem_cons_zero, List.getElem_cons_succ, List.setIfInBounds_toArray, List.set_cons_zero, List.set_cons_succ]
        refine till_take (i := 5) (v := ?_) rfl (by kernel_rfl) (fun _ _ _ h => h) (Or.inl ⟨by rfl, ?_⟩) ⟨c0,c1⟩ ?_
        rotate_left
        · intro W hS
          try dsimp only at hS
          go_split_ands
          go_simp
          try with_reducible rfl
        try simp only [Act.put, List.getElem_toArray, List.getElem_cons_zero, List.getElem_cons_succ, List.setIfInBounds_toArray, List.set_cons_zero, List.set_cons_succ]
        refine till_last (by kernel_rfl) rfl (by kernel_rfl) (fun K' hK => ?_)
        go_simp
        go_at_call 121
        (with_reducible refine (HM.out _).mono ?_)
        rintro r w1 ⟨rfl, b1⟩
        unfold fitR
        refine hK _ _ ?_
        clear hK K'
        try simp only [Act.put, List.getElem_toArray, List.getElem_cons_zero, List.getElem_cons_succ, List.setIfInBounds_toArray, List.set_cons_zero, List.set_cons_succ]
        refine any_take (i := 7) (v := ?_) rfl (by kernel_rfl) (fun _ _ _ h => h) (Or.inl ⟨by rfl, ?_⟩) ?_
        rotate_left
        · intro W
          go_simp
          try with_reducible rfl
        try simp only [Act.put, List.getElem_toArray, List.getElem_cons_zero, List.getElem_cons_succ, List.setIfInBounds_toArray, List.set_cons_zero, List.set_cons_succ]
        refine any_take (i := 8) (v := ?_) rfl (by kernel_rfl) (fun _ _ _ h => h) (Or.inl ⟨by rfl, ?_⟩) ?_
        rotate_left
        · intro W
          go_simp
          try with_reducible rfl
        try simp only [Act.put, List.getElem_toArray, List.getElem_cons_zero, List.getElem_cons_succ, List.setIfInBounds_toArray, List.set_cons_zero, List.set_cons_succ]
        refine any_take (i := 9) (v := ?_) rfl (by kernel_rfl) (fun _ _ _ h => h) (Or.inl ⟨by rfl, ?_⟩) ?_
        rotate_left
        · intro W
          go_simp
          try with_reducible rfl
        try simp only [Act.put, List.getElem_toArray, List.getElem_cons_zero, List.getElem_cons_succ, List.setIfInBounds_toArray, List.set_cons_zero, List.set_cons_succ]
        refine any_take (i := 10) (v := ?_) rfl (by kernel_rfl) (fun _ _ _ h => h) (Or.inl ⟨by rfl, ?_⟩) ?_
        rotate_left
        · intro W
          go_simp
          try with_reducible rfl
        try simp only [Act.put, List.getElem_toArray, List.getElem_cons_zero, List.getElem_cons_succ, List.setIfInBounds_toArray, List.set_cons_zero, List.set_cons_succ]
        refine wpAny_done (by kernel_rfl) ?_ _
        go_wp2_with fail
        go_ret2
        exact ⟨rfl, (Below.refl _ _).drew.trans b1⟩
    · rw [if_neg (by decide), if_neg (by decide), if_neg (by decide), if_neg (by decide), if_pos rfl]
      by_cases hxy : y < x
      · rw [show min x y = y by omega]
        go_enter Try.func93, Try.ntmps93
        go_wp2_with fail
        refine wp_region_till (S := fun W => W.cell? ⟨b, o, none⟩ = some (.int .i64 x) ∧ W.cell? ⟨b, o + 1, none⟩ = some (.int .i64 y)) 6 (by kernel_rfl) ?_
        refine till_take (i := 0) (v := ?_) rfl (by kernel_rfl) (fun _ _ _ h => h) (Or.inl ⟨by rfl, ?_⟩) ⟨c0,c1⟩ ?_
        rotate_left
        · intro W hS
          try dsimp only at hS
          go_split_ands
          go_simp
          try with_reducible rfl
        try simp only [Act.put, List.getElem_toArray, List.getElem_cons_zero, List.getElem_cons_succ, List.setIfInBounds_toArray, List.set_cons_zero, List.set_cons_succ]
        refine till_take (i := 1) (v := ?_) rfl (by kernel_rfl) (fun _ _ _ h => h) (Or.inl ⟨by rfl, ?_⟩) ⟨c0,c1⟩ ?_
        rotate_left
        · intro W hS
          try dsimp only at hS
          go_split_ands
          go_simp
          try with_reducible rfl
        try simp only [Act.put, List.getElem_toArray, List.getElem_cons_zero, List.getElem_cons_succ, List.setIfInBounds_toArray, List.set_cons_zero, List.set_cons_succ]
        refine till_take (i := 2) (v := ?_) rfl (by kernel_rfl) (fun _ _ _ h => h) (Or.inl ⟨by rfl, ?_⟩) ⟨c0,c1⟩ ?_
        rotate_left
        · intro W hS
          try dsimp only at hS
          go_split_ands
          go_simp
          try with_reducible rfl
        try simp only [Act.put, List.getElem_toArray, List.getElem_cons_zero, List.getElem_cons_succ, List.setIfInBounds_toArray, List.set_cons_zero, List.set_cons_succ]
        refine till_take (i := 3) (v := ?_) rfl (by kernel_rfl) (fun _ _ _ h => h) (Or.inl ⟨by rfl, ?_⟩) ⟨c0,c1⟩ ?_
        rotate_left
        · intro W hS
          try dsimp only at hS
          go_split_ands
          go_simp
          try with_reducible rfl
        try simp only [Act.put, List.getElem_toArray, List.getElem_cons_zero, List.getElem_cons_succ, List.setIfInBounds_toArray, List.set_cons_zero, List.set_cons_succ]
        refine till_take (i := 4) (v := ?_) rfl (by kernel_rfl) (fun _ _ _ h => h) (Or.inl ⟨by rfl, ?_⟩) ⟨c0,c1⟩ ?_
        rotate_left
        · intro W hS
          try dsimp only at hS
          go_split_ands
          go_simp
          try with_reducible rfl
        try simp only [Act.put, List.getElem_toArray, List.getElem_cons_zero, List.getElem_cons_succ, List.setIfInBounds_toArray, List.set_cons_zero, List.set_cons_succ]
        refine till_take (i := 5) (v := ?_) rfl (by kernel_rfl) (fun _ _ _ h => h) (Or.inl ⟨by rfl, ?_⟩) ⟨c0,c1⟩ ?_
        rotate_left
        · intro W hS
          try dsimp only at hS
          go_split_ands
          go_simp
          try with_reducible rfl
        try simp only [Act.put, List.getElem_toArray, List.getElem_cons_zero, List.getElem_cons_succ, List.setIfInBounds_toArray, List.set_cons_zero, List.set_cons_succ]
        refine till_last (by kernel_rfl) rfl (by kernel_rfl) (fun K' hK => ?_)
        go_simp
        refine hK _ _ ?_
        clear hK K'
        try simp only [Act.put, List.getElem_toArray, List.getElem_cons_zero, List.getElem_cons_succ, List.setIfInBounds_toArray, List.set_cons_zero, List.set_cons_succ]
        refine any_take (i := 7) (v := ?_) rfl (by kernel_rfl) (fun _ _ _ h => h) (Or.inl ⟨by rfl, ?_⟩) ?_
        rotate_left
        · intro W
          go_simp
          try with_reducible rfl
        try simp only [Act.put, List.getElem_toArray, List.getElem_cons_zero, List.getElem_cons_succ, List.setIfInBounds_toArray, List.set_cons_zero, List.set_cons_succ]
        refine any_take (i := 8) (v := ?_) rfl (by kernel_rfl) (fun _ _ _ h => h) (Or.inl ⟨by rfl, ?_⟩) ?_
        rotate_left
        · intro W
          go_simp
          try with_reducible rfl
        try simp only [Act.put, List.getElem_toArray, List.getElem_cons_zero, List.getElem_cons_succ, List.setIfInBounds_toArray, List.set_cons_zero, List.set_cons_succ]
        refine wpAny_done (by kernel_rfl) ?_ _
        go_wp2_with fail
        go_ret2
        exact ⟨rfl, (Below.refl _ _).drew⟩
      · rw [show min x y = x by omega]
        go_enter Try.func93, Try.ntmps93
        go_wp2_with fail
        refine wp_region_till (S := fun W => W.cell? ⟨b, o, none⟩ = some (.int .i64 x) ∧ W.cell? ⟨b, o + 1, none⟩ = some (.int .i64 y)) 6 (by kernel_rfl) ?_
        refine till_take (i := 0) (v := ?_) rfl (by kernel_rfl) (fun _ _ _ h => h) (Or.inl ⟨by rfl, ?_⟩) ⟨c0,c1⟩ ?_
        rotate_left
        · intro W hS
          try dsimp only at hS
          go_split_ands
          go_simp
          try with_reducible rfl
        try simp only [Act.put, List.getElem_toArray, List.getElem_cons_zero, List.getElem_cons_succ, List.setIfInBounds_toArray, List.set_cons_zero, List.set_cons_succ]
        refine till_take (i := 1) (v := ?_) rfl (by kernel_rfl) (fun _ _ _ h => h) (Or.inl ⟨by rfl, ?_⟩) ⟨c0,c1⟩ ?_
        rotate_left
        · intro W hS
          try dsimp only at hS
          go_split_ands
          go_simp
          try with_reducible rfl
        try simp only [Act.put, List.getElem_toArray, List.getElem_cons_zero, List.getElem_cons_succ, List.setIfInBounds_toArray, List.set_cons_zero, List.set_cons_succ]
        refine till_take (i := 2) (v := ?_) rfl (by kernel_rfl) (fun _ _ _ h => h) (Or.inl ⟨by rfl, ?_⟩) ⟨c0,c1⟩ ?_
        rotate_left
        · intro W hS
          try dsimp only at hS
          go_split_ands
          go_simp
          try with_reducible rfl
        try simp only [Act.put, List.getElem_toArray, List.getElem_cons_zero, List.getElem_cons_succ, List.setIfInBounds_toArray, List.set_cons_zero, List.set_cons_succ]
        refine till_take (i := 3) (v := ?_) rfl (by kernel_rfl) (fun _ _ _ h => h) (Or.inl ⟨by rfl, ?_⟩) ⟨c0,c1⟩ ?_
        rotate_left
        · intro W hS
          try dsimp only at hS
          go_split_ands
          go_simp
          try with_reducible rfl
        try simp only [Act.put, List.getElem_toArray, List.getElem_cons_zero, List.getElem_cons_succ, List.setIfInBounds_toArray, List.set_cons_zero, List.set_cons_succ]
        refine till_take (i := 4) (v := ?_) rfl (by kernel_rfl) (fun _ _ _ h => h) (Or.inl ⟨by rfl, ?_⟩) ⟨c0,c1⟩ ?_
        rotate_left
        · intro W hS
          try dsimp only at hS
          go_split_ands
          go_simp
          try with_reducible rfl
        try simp only [Act.put, List.getElem_toArray, List.getElem_cons_zero, List.getElem_cons_succ, List.setIfInBounds_toArray, List.set_cons_zero, List.set_cons_succ]
        refine till_take (i := 5) (v := ?_) rfl (by kernel_rfl) (fun _ _ _ h => h) (Or.inl ⟨by rfl, ?_⟩) ⟨c0,c1⟩ ?_
        rotate_left
        · intro W hS
          try dsimp only at hS
          go_split_ands
          go_simp
          try with_reducible rfl
        try simp only [Act.put, List.getElem_toArray, List.getElem_cons_zero, List.getElem_cons_succ, List.setIfInBounds_toArray, List.set_cons_zero, List.set_cons_succ]
        refine till_last (by kernel_rfl) rfl (by kernel_rfl) (fun K' hK => ?_)
        go_simp
        refine hK _ _ ?_
        clear hK K'
        try simp only [Act.put, List.getElem_toArray, List.getElem_cons_zero, List.getElem_cons_succ, List.setIfInBounds_toArray, List.set_cons_zero, List.set_cons_succ]
        refine any_take (i := 7) (v := ?_) rfl (by kernel_rfl) (fun _ _ _ h => h) (Or.inl ⟨by rfl, ?_⟩) ?_
        rotate_left
        · intro W
          go_simp
          try with_reducible rfl
        try simp only [Act.put, List.getElem_toArray, List.getElem_cons_zero, List.getElem_cons_succ, List.setIfInBounds_toArray, List.set_cons_zero, List.set_cons_succ]
        refine any_take (i := 8) (v := ?_) rfl (by kernel_rfl) (fun _ _ _ h => h) (Or.inl ⟨by rfl, ?_⟩) ?_
        rotate_left
        · intro W
          go_simp
          try with_reducible rfl
        try simp only [Act.put, List.getElem_toArray, List.getElem_cons_zero, List.getElem_cons_succ, List.setIfInBounds_toArray, List.set_cons_zero, List.set_cons_succ]
        refine wpAny_done (by kernel_rfl) ?_ _
        go_wp2_with fail
        go_ret2
        exact ⟨rfl, (Below.refl _ _).drew⟩
    · rw [if_neg (by decide), if_neg (by decide), if_neg (by decide), if_neg (by decide), if_neg (by decide), if_pos rfl]
      by_cases hxy : x < y
      · rw [show max x y = y by omega]
        go_enter Try.func93, Try.ntmps93
        go_wp2_with fail
        refine wp_region_till (S := fun W => W.cell? ⟨b, o, none⟩ = some (.int .i64 x) ∧ W.cell? ⟨b, o + 1, none⟩ = some (.int .i64 y)) 6 (by kernel_rfl) ?_
        refine till_take (i := 0) (v := ?_) rfl (by kernel_rfl) (fun _ _ _ h => h) (Or.inl ⟨by rfl, ?_⟩) ⟨c0,c1⟩ ?_
        rotate_left
        · intro W hS
          try dsimp only at hS
          go_split_ands
          go_simp
          try with_reducible rfl
        try simp only [Act.put, List.getElem_toArray, List.getElem_cons_zero, List.getElem_cons_succ, List.setIfInBounds_toArray, List.set_cons_zero, List.set_cons_succ]
        refine till_take (i := 1) (v := ?_) rfl (by kernel_rfl) (fun _ _ _ h => h) (Or.inl ⟨by rfl, ?_⟩) ⟨c0,c1⟩ ?_
        rotate_left
        · intro W hS
          try dsimp only at hS
          go_split_ands
          go_simp
          try with_reducible rfl
        try simp only [Act.put, List.getElem_toArray, List.getElem_cons_zero, List.getElem_cons_succ, List.setIfInBounds_toArray, List.set_cons_zero, List.set_cons_succ]
        refine till_take (i := 2) (v := ?_) rfl (by kernel_rfl) (fun _ _ _ h => h) (Or.inl ⟨by rfl, ?_⟩) ⟨c0,c1⟩ ?_
        rotate_left
        · intro W hS
          try dsimp only at hS
          go_split_ands
          go_simp
          try with_reducible rfl
        try simp only [Act.put, List.getElem_toArray, List.getElem_cons_zero, List.getElem_cons_succ, List.setIfInBounds_toArray, List.set_cons_zero, List.set_cons_succ]
        refine till_take (i := 3) (v := ?_) rfl (by kernel_rfl) (fun _ _ _ h => h) (Or.inl ⟨by rfl, ?_⟩) ⟨c0,c1⟩ ?_
        rotate_left
        · intro W hS
          try dsimp only at hS
          go_split_ands
          go_simp
          try with_reducible rfl
        try simp only [Act.put, List.getElem_toArray, List.getElem_cons_zero, List.getElem_cons_succ, List.setIfInBounds_toArray, List.set_cons_zero, List.set_cons_succ]
        refine till_take (i := 4) (v := ?_) rfl (by kernel_rfl) (fun _ _ _ h => h) (Or.inl ⟨by rfl, ?_⟩) ⟨c0,c1⟩ ?_
        rotate_left
        · intro W hS
          try dsimp only at hS
          go_split_ands
          go_simp
          try with_reducible rfl
        try simp only [Act.put, List.getElem_toArray, List.getElem_cons_zero, List.getElem_cons_succ, List.setIfInBounds_toArray, List.set_cons_zero, List.set_cons_succ]
        refine till_take (i := 5) (v := ?_) rfl (by kernel_rfl) (fun _ _ _ h => h) (Or.inl ⟨by rfl, ?_⟩) ⟨c0,c1⟩ ?_
        rotate_left
        · intro W hS
          try dsimp only at hS
          go_split_ands
          go_simp
          try with_reducible rfl
        try simp only [Act.put, List.getElem_toArray, List.getElem_cons_zero, List.getElem_cons_succ, List.setIfInBounds_toArray, List.set_cons_zero, List.set_cons_succ]
        refine till_last (by kernel_rfl) rfl (by kernel_rfl) (fun K' hK => ?_)
        go_simp
        refine hK _ _ ?_
        clear hK K'
        try simp only [Act.put, List.getElem_toArray, List.getElem_cons_zero, List.getElem_cons_succ, List.setIfInBounds_toArray, List.set_cons_zero, List.set_cons_succ]
        refine any_take (i := 7) (v := ?_) rfl (by kernel_rfl) (fun _ _ _ h => h) (Or.inl ⟨by rfl, ?_⟩) ?_
        rotate_left
        · intro W
          go_simp
          try with_reducible rfl
        try simp only [Act.put, List.getElem_toArray, List.getElem_cons_zero, List.getElem_cons_succ, List.setIfInBounds_toArray, List.set_cons_zero, List.set_cons_succ]
        refine any_take (i := 8) (v := ?_) rfl (by kernel_rfl) (fun _ _ _ h => h) (Or.inl ⟨by rfl, ?_⟩) ?_
        rotate_left
        · intro W
          go_simp
          try with_reducible rfl
        try simp only [Act.put, List.getElem_toArray, List.getElem_cons_zero, List.getElem_cons_succ, List.setIfInBounds_toArray, List.set_cons_zero, List.set_cons_succ]
        refine wpAny_done (by kernel_rfl) ?_ _
        go_wp2_with fail
        go_ret2
        exact ⟨rfl, (Below.refl _ _).drew⟩
      · rw [show max x y = x by omega]
        go_enter Try.func93, Try.ntmps93
        go_wp2_with fail
        refine wp_region_till (S := fun W => W.cell? ⟨b, o, none⟩ = some (.int .i64 x) ∧ W.cell? ⟨b, o + 1, none⟩ = some (.int .i64 y)) 6 (by kernel_rfl) ?_
        refine till_take (i := 0) (v := ?_) rfl (by kernel_rfl) (fun _ _ _ h => h) (Or.inl ⟨by rfl, ?_⟩) ⟨c0,c1⟩ ?_
        rotate_left
        · intro W hS
          try dsimp only at hS
          go_split_ands
          go_simp
          try with_reducible rfl
        try simp only [Act.put, List.getElem_toArray, List.getElem_cons_zero, List.getElem_cons_succ, List.setIfInBounds_toArray, List.set_cons_zero, List.set_cons_succ]
        refine till_take (i := 1) (v := ?_) rfl (by kernel_rfl) (fun _ _ _ h => h) (Or.inl ⟨by rfl, ?_⟩) ⟨c0,c1⟩ ?_
        rotate_left
        · intro W hS
          try dsimp only at hS
          go_split_ands
          go_simp
          try with_reducible rfl
        try simp only [Act.put, List.getElem_toArray, List.getElem_cons_zero, List.getElem_cons_succ, List.setIfInBounds_toArray, List.set_cons_zero, List.set_cons_succ]
        refine till_take (i := 2) (v := ?_) rfl (by kernel_rfl) (fun _ _ _ h => h) (Or.inl ⟨by rfl, ?_⟩) ⟨c0,c1⟩ ?_
        rotate_left
        · intro W hS
          try dsimp only at hS
          go_split_ands
          go_simp
          try with_reducible rfl
        try simp only [Act.put, List.getElem_toArray, List.getElem_cons_zero, List.getElem_cons_succ, List.setIfInBounds_toArray, List.set_cons_zero, List.set_cons_succ]
        refine till_take (i := 3) (v := ?_) rfl (by kernel_rfl) (fun _ _ _ h => h) (Or.inl ⟨by rfl, ?_⟩) ⟨c0,c1⟩ ?_
        rotate_left
        · intro W hS
          try dsimp only at hS
          go_split_ands
          go_simp
          try with_reducible rfl
        try simp only [Act.put, List.getElem_toArray, List.getElem_cons_zero, List.getElem_cons_succ, List.setIfInBounds_toArray, List.set_cons_zero, List.set_cons_succ]
        refine till_take (i := 4) (v := ?_) rfl (by kernel_rfl) (fun _ _ _ h => h) (Or.inl ⟨by rfl, ?_⟩) ⟨c0,c1⟩ ?_
        rotate_left
        · intro W hS
          try dsimp only at hS
          go_split_ands
          go_simp
          try with_reducible rfl
        try simp only [Act.put, List.getElem_toArray, List.getElem_cons_zero, List.getElem_cons_succ, List.setIfInBounds_toArray, List.set_cons_zero, List.set_cons_succ]
        refine till_take (i := 5) (v := ?_) rfl (by kernel_rfl) (fun _ _ _ h => h) (Or.inl ⟨by rfl, ?_⟩) ⟨c0,c1⟩ ?_
        rotate_left
        · intro W hS
          try dsimp only at hS
          go_split_ands
          go_simp
          try with_reducible rfl
        try simp only [Act.put, List.getElem_toArray, List.getElem_cons_zero, List.getElem_cons_succ, List.setIfInBounds_toArray, List.set_cons_zero, List.set_cons_succ]
        refine till_last (by kernel_rfl) rfl (by kernel_rfl) (fun K' hK => ?_)
        go_simp
        refine hK _ _ ?_
        clear hK K'
        try simp only [Act.put, List.getElem_toArray, List.getElem_cons_zero, List.getElem_cons_succ, List.setIfInBounds_toArray, List.set_cons_zero, List.set_cons_succ]
        refine any_take (i := 7) (v := ?_) rfl (by kernel_rfl) (fun _ _ _ h => h) (Or.inl ⟨by rfl, ?_⟩) ?_
        rotate_left
        · intro W
          go_simp
          try with_reducible rfl
        try simp only [Act.put, List.getElem_toArray, List.getElem_cons_zero, List.getElem_cons_succ, List.setIfInBounds_toArray, List.set_cons_zero, List.set_cons_succ]
        refine any_take (i := 8) (v := ?_) rfl (by kernel_rfl) (fun _ _ _ h => h) (Or.inl ⟨by rfl, ?_⟩) ?_
        rotate_left
        · intro W
          go_simp
          try with_reducible rfl
        try simp only [Act.put, List.getElem_toArray, List.getElem_cons_zero, List.getElem_cons_succ, List.setIfInBounds_toArray, List.set_cons_zero, List.set_cons_succ]
        refine wpAny_done (by kernel_rfl) ?_ _
        go_wp2_with fail
        go_ret2
        exact ⟨rfl, (Below.refl _ _).drew⟩
  · by_cases h20 : op = 20
    · subst h20
      have hl1 := h1 rfl
      obtain ⟨x, rfl⟩ : ∃ x, l = [x] := by
        match l, hl1 with
        | [x], _ => exact ⟨x, rfl⟩
      obtain rfl : len = 1 := by simp at f1; omega
      obtain ⟨b, o, x', rfl, hx, i0, c0⟩ := int_at hl 0 (by omega)
      simp at hx
      subst hx
      have g0 := Lib.hid i0
      have HV := Lib.hid (show valueM 20 [x] = fitI (-x) from rfl)
      rw [HV.out]
      clear h1 h2 hl1 f1 f2 f3 hl HV h510 i0
      rw [Nat.add_zero] at c0
      go_enter Try.func93, Try.ntmps93
      go_wp2_with fail
      go_at_call 100
      (with_reducible refine (numNeg_any _ _ g0.out).mono ?_)
      rintro r w1 ⟨rfl, rfl⟩
      unfold fitR
      go_wp2_with fail
      go_ret2
      exact ⟨rfl, Below.refl _ _⟩
    · have HV : Hid (valueM op l = none) := by
        show _ = _
        unfold valueM
        rw [if_neg (by omega), if_neg (by omega), if_neg (by omega), if_neg (by omega), if_neg (by omega), if_neg (by omega), if_neg (by omega)]
      rw [HV.out]
      have e5 : (op == 5) = false := beq_eq_false_iff_ne.2 (by omega)
      have e6 : (op == 6) = false := beq_eq_false_iff_ne.2 (by omega)
      have e7 : (op == 7) = false := beq_eq_false_iff_ne.2 (by omega)
      have e8 : (op == 8) = false := beq_eq_false_iff_ne.2 (by omega)
      have e9 : (op == 9) = false := beq_eq_false_iff_ne.2 (by omega)
      have e10 : (op == 10) = false := beq_eq_false_iff_ne.2 (by omega)
      have e20 : (op == 20) = false := beq_eq_false_iff_ne.2 h20
      clear h1 h2 f1 f2 f3 hl HV h510 h20
      go_enter Try.func93, Try.ntmps93
      go_wp2_with fail
      go_ret2
      exact ⟨rfl, Below.refl _ _⟩
end Go.Proofs.Ytppnmeobnilojaa

/- fold: what its loop keeps. -/
namespace Go.Proofs.Ytppnmeobnilojaa
set_option linter.unusedVariables false
set_option linter.unusedSimpArgs false
open Go.RowKit
/-- Blocks of others. -/
def fo (X : List Nat) : Ob where
  own := X
  P := fun w _ => ∀ b ∈ X, b < w.heap.size
  st := fun h k _ _ b hb => Nat.lt_of_lt_of_le (h b hb) k.1
  lt := fun h => h
theorem Sep.fo1 (w : World) {X : List Nat} (hX : ∀ b ∈ X, b < w.heap.size) : Sep w [fo X] := by
  intro i o hi
  match i, hi with
  | 0, hi => simp at hi; subst hi; exact hX
  | k + 1, hi => simp at hi
theorem infoI64 : (Try.prog.info? 2).map (fun i => (i.zero, i.size, i.bytes)) = some (some (.int .i64 0), 1, 8) := by kernel_rfl
theorem ar_lt4 (op : Int) : ar op ≤ 3 := by
  unfold ar
  repeat' split
  all_goals omega
def famF (h : Nat) (op n : Int) (nm : ByteArray) (a : Option Addr) (len cap : Nat) (args : List Ex) (vA : Value) (nums : List Int) (vL : Value) (X : List Nat) : List Ob :=
  [gr exK 46 h args vA, gr i64K 2 h nums vL, bx (h + 1 + 1) 46 #[.int .i64 op, .int .i64 n, .string nm, vA], bx (h + 1) 46 #[.int .i64 0, .int .i64 0, .string ⟨#[]⟩, .slice none 0 0], bx h 46 #[.int .i64 op, .int .i64 n, .string nm, .slice a len cap], fo X]
structure FoldI (w wr : World) (op n : Int) (nm : ByteArray) (a : Option Addr) (len cap : Nat) (args : List Ex) (vA : Value) (nums : List Int) (vL : Value) (X : List Nat) : Prop where
  below : Below w.heap.size w wr
  sep : Sep wr (famF w.heap.size op n nm a len cap args vA nums vL X)
section
variable {w wr wr' : World} {op n : Int} {nm : ByteArray} {a : Option Addr} {len cap : Nat} {args : List Ex} {vA : Value} {nums : List Int} {vL : Value} {X : List Nat}
theorem FoldI.up (h : FoldI w wr op n nm a len cap args vA nums vL X) (hb : Below wr.heap.size wr wr') : FoldI w wr' op n nm a len cap args vA nums vL X := ⟨h.below.trans (hb.mono h.below.size), h.sep.below hb⟩
theorem FoldI.start (hX : ∀ b ∈ X, b < w.heap.size) : FoldI w (((w.alloc (.cells #[.int .i64 op, .int .i64 n, .string nm, .slice a len cap] 46)).alloc (.cells #[.int .i64 0, .int .i64 0, .string ⟨#[]⟩, .slice none 0 0] 46)).alloc (.cells #[.int .i64 op, .int .i64 n, .string nm, .slice none 0 0] 46)) op n nm a len cap [] (.slice none 0 0) [] (.slice none 0 0) X := by
  have h1 := (((Sep.fo1 w hX).new 46 #[.int .i64 op, .int .i64 n, .string nm, .slice a len cap]).new 46 #[.int .i64 0, .int .i64 0, .string ⟨#[]⟩, .slice none 0 0]).new 46 #[.int .i64 op, .int .i64 n, .string nm, .slice none 0 0]
  have e1 : (w.alloc (.cells #[.int .i64 op, .int .i64 n, .string nm, .slice a len cap] 46)).heap.size = w.heap.size + 1 := by simp
  have e2 : ((w.alloc (.cells #[.int .i64 op, .int .i64 n, .string nm, .slice a len cap] 46)).alloc (.cells #[.int .i64 0, .int .i64 0, .string ⟨#[]⟩, .slice none 0 0] 46)).heap.size = w.heap.size + 1 + 1 := by simp
  rw [e1, e2] at h1
  refine ⟨(((Below.refl _ w).alloc (Nat.le_refl _) _).alloc (by simp) _).alloc (by simp; omega) _, (h1.addGr i64K 2 (by simp; omega)).addGr exK 46 (by simp; omega)⟩
/-- An argument more. -/
theorem FoldI.push {w1 : World} {csl : List (List Value)} {v' : Value} {x : Ex} {c : List Value} (h : FoldI w wr op n nm a len cap args vA nums vL X)
    (hG : Grow exK 46 w.heap.size wr (others (famF w.heap.size op n nm a len cap args vA nums vL X) 0) args vA csl)
    (hR : RepE wr (owns (famF w.heap.size op n nm a len cap args vA nums vL X)) x c)
    (ho : w1.ownsRow w.heap.size 46 4 v' (args.length + 1) (csl.flatten ++ c)) (hg : wr.grownBy w1 vA.ownBlock) (hv : v'.ownBlock = vA.ownBlock ∨ v'.ownBlock = some wr.heap.size) :
    (w1.cell? ⟨w.heap.size + 1 + 1, 3, none⟩ = some vA ∧ w1.frozen? ⟨w.heap.size + 1 + 1, 3, none⟩ = false) ∧ FoldI w (w1.setCell ⟨w.heap.size + 1 + 1, 3, none⟩ v') op n nm a len cap (args ++ [x]) v' nums vL X := by
  have h1 := h.sep.push 0 rfl hG (x := x) (c := c) hR ho hg hv
  have h2 := h1.store 2 rfl 3 v'
  exact ⟨⟨(h1.blk 2 rfl).cell 3, (h1.blk 2 rfl).frozen 3⟩, (h.below.grown hg h.below.size (fun b hb => (hG.blt hb).1)).setCell (by show w.heap.size ≤ w.heap.size + 1 + 1; omega) _, h2⟩
/-- A number more. -/
theorem FoldI.num {w1 : World} {csl : List (List Value)} {v' : Value} {x : Int} {c : List Value} (h : FoldI w wr op n nm a len cap args vA nums vL X)
    (hG : Grow i64K 2 w.heap.size wr (others (famF w.heap.size op n nm a len cap args vA nums vL X) 1) nums vL csl)
    (hR : i64K.R wr (owns (famF w.heap.size op n nm a len cap args vA nums vL X)) x c)
    (ho : w1.ownsRow w.heap.size 2 1 v' (nums.length + 1) (csl.flatten ++ c)) (hg : wr.grownBy w1 vL.ownBlock) (hv : v'.ownBlock = vL.ownBlock ∨ v'.ownBlock = some wr.heap.size) :
    FoldI w w1 op n nm a len cap args vA (nums ++ [x]) v' X :=
  ⟨h.below.grown hg h.below.size (fun b hb => (hG.blt hb).1), h.sep.push 1 rfl hG (x := x) (c := c) hR ho hg hv⟩
theorem FoldI.far {w1 : World} {v' : Value} {z : Nat} {t : TypeId} {cs : Array Value} (_h : FoldI w wr op n nm a len cap args vA nums vL X) (hB : Mem.Blk wr z t cs) (hz : z ∉ owns (famF w.heap.size op n nm a len cap args vA nums vL X)) (hg : wr.grownBy w1 vA.ownBlock) :
    Mem.Blk (w1.setCell ⟨w.heap.size + 1 + 1, 3, none⟩ v') z t cs := by
  have h1 : Mem.Blk w1 z t cs := (hg.block z hB.lt (fun e => hz (mem_owns.2 ⟨0, _, rfl, by show z ∈ vA.ownBlock.toList; rw [Option.mem_toList]; exact e.symm⟩))).trans hB
  refine h1.far (fun e => hz (mem_owns.2 ⟨2, _, rfl, ?_⟩)) _
  show z ∈ [w.heap.size + 1 + 1]
  rw [List.mem_singleton]; exact e
theorem FoldI.farE {w1 : World} {v' : Value} {x : Ex} {c : List Value} (_h : FoldI w wr op n nm a len cap args vA nums vL X) (hR : RepE wr (owns (famF w.heap.size op n nm a len cap args vA nums vL X)) x c) (hg : wr.grownBy w1 vA.ownBlock) :
    RepE (w1.setCell ⟨w.heap.size + 1 + 1, 3, none⟩ v') [] x c :=
  ((hR.kept (Kept.of_grown_own hg (fun g e => mem_owns.2 ⟨0, _, rfl, by show g ∈ vA.ownBlock.toList; rw [Option.mem_toList]; exact e⟩))).kept (Kept.setCell w1 (p := ⟨w.heap.size + 1 + 1, 3, none⟩) (mem_owns.2 ⟨2, _, rfl, by show w.heap.size + 1 + 1 ∈ [w.heap.size + 1 + 1]; simp⟩) v')).less (fun b _ hm => by cases hm)
theorem FoldI.form (h : FoldI w wr op n nm a len cap args vA nums vL X) : (∃ aA cA, vA = .slice aA args.length cA) ∧ ∃ aL cL, vL = .slice aL nums.length cL := ⟨h.sep.form 0 rfl, h.sep.form 1 rfl⟩
/-- What is in the call's own block, stored where the answer lies. -/
theorem FoldI.fin {aA : Option Addr} {cA : Nat} (h : FoldI w wr op n nm a len cap args (.slice aA args.length cA) nums vL X) (j1 : I64 op) (j2 : I64 n) (j3 : nm.size ≤ 9223372036854775807) :
    RepE ((((wr.setCell ⟨w.heap.size + 1, 0, none⟩ (.int .i64 op)).setCell ⟨w.heap.size + 1, 1, none⟩ (.int .i64 n)).setCell ⟨w.heap.size + 1, 2, none⟩ (.string nm)).setCell ⟨w.heap.size + 1, 3, none⟩ (.slice aA args.length cA)) X (.mk op n nm args) [.int .i64 op, .int .i64 n, .string nm, .slice aA args.length cA] ∧
    Below w.heap.size w ((((wr.setCell ⟨w.heap.size + 1, 0, none⟩ (.int .i64 op)).setCell ⟨w.heap.size + 1, 1, none⟩ (.int .i64 n)).setCell ⟨w.heap.size + 1, 2, none⟩ (.string nm)).setCell ⟨w.heap.size + 1, 3, none⟩ (.slice aA args.length cA)) ∧
    Mem.Blk ((((wr.setCell ⟨w.heap.size + 1, 0, none⟩ (.int .i64 op)).setCell ⟨w.heap.size + 1, 1, none⟩ (.int .i64 n)).setCell ⟨w.heap.size + 1, 2, none⟩ (.string nm)).setCell ⟨w.heap.size + 1, 3, none⟩ (.slice aA args.length cA)) (w.heap.size + 1) 46 #[.int .i64 op, .int .i64 n, .string nm, .slice aA args.length cA] := by
  have h1 := (((h.sep.store 3 rfl 0 (.int .i64 op)).store 3 rfl 1 (.int .i64 n)).store 3 rfl 2 (.string nm)).store 3 rfl 3 (.slice aA args.length cA)
  obtain ⟨a', c', e, hS⟩ := h1.still 0 rfl
  injection e with e1 e2 e3; subst e1; subst e3
  have hl : w.heap.size ≤ w.heap.size + 1 := by omega
  refine ⟨RepE.mk' j1 j2 j3 (hS.less (fun b hb hm => ?_)), (((h.below.setCell hl _).setCell hl _).setCell hl _).setCell hl _, h1.blk 3 rfl⟩
  exact mem_others.2 ⟨5, fo X, by decide, rfl, hm⟩
/-- A constant, stored where the answer lies. -/
theorem FoldI.cst {c0 c1 c2 c3 : Value} {x : Ex} (h : FoldI w wr op n nm a len cap args vA nums vL X) (hR : RepE wr (owns (famF w.heap.size op n nm a len cap args vA nums vL X)) x [c0, c1, c2, c3]) :
    RepE ((((wr.setCell ⟨w.heap.size + 1, 0, none⟩ c0).setCell ⟨w.heap.size + 1, 1, none⟩ c1).setCell ⟨w.heap.size + 1, 2, none⟩ c2).setCell ⟨w.heap.size + 1, 3, none⟩ c3) X x [c0, c1, c2, c3] ∧
    Below w.heap.size w ((((wr.setCell ⟨w.heap.size + 1, 0, none⟩ c0).setCell ⟨w.heap.size + 1, 1, none⟩ c1).setCell ⟨w.heap.size + 1, 2, none⟩ c2).setCell ⟨w.heap.size + 1, 3, none⟩ c3) ∧
    Mem.Blk ((((wr.setCell ⟨w.heap.size + 1, 0, none⟩ c0).setCell ⟨w.heap.size + 1, 1, none⟩ c1).setCell ⟨w.heap.size + 1, 2, none⟩ c2).setCell ⟨w.heap.size + 1, 3, none⟩ c3) (w.heap.size + 1) 46 #[c0, c1, c2, c3] := by
  have h1 := (((h.sep.store 3 rfl 0 c0).store 3 rfl 1 c1).store 3 rfl 2 c2).store 3 rfl 3 c3
  have hl : w.heap.size ≤ w.heap.size + 1 := by omega
  have hm1 : w.heap.size + 1 ∈ owns (famF w.heap.size op n nm a len cap args vA nums vL X) := mem_owns.2 ⟨3, _, rfl, by show w.heap.size + 1 ∈ [w.heap.size + 1]; simp⟩
  have k4 := (((Kept.setCell wr (p := ⟨w.heap.size + 1, 0, none⟩) hm1 c0).trans (Kept.setCell _ (p := ⟨w.heap.size + 1, 1, none⟩) hm1 c1)).trans (Kept.setCell _ (p := ⟨w.heap.size + 1, 2, none⟩) hm1 c2)).trans (Kept.setCell _ (p := ⟨w.heap.size + 1, 3, none⟩) hm1 c3)
  refine ⟨(hR.kept k4).less (fun b _ hm => mem_owns.2 ⟨5, fo X, rfl, hm⟩), (((h.below.setCell hl _).setCell hl _).setCell hl _).setCell hl _, h1.blk 3 rfl⟩
end
theorem filter_snoc (l : List Ex) (x : Ex) : (l ++ [x]).filterMap knownE = l.filterMap knownE ++ (knownE x).toList := by
  rw [List.filterMap_append]
  cases h : knownE x <;> simp [h]
theorem take_known {l : List Ex} {k : Nat} {x : Ex} (h : l[k]? = some x) : (l.take (k + 1)).map foldE = (l.take k).map foldE ++ [foldE x] := by
  obtain ⟨hk, rfl⟩ := List.getElem?_eq_some_iff.1 h
  rw [List.take_succ_eq_append_getElem hk, List.map_append]; rfl
end Go.Proofs.Ytppnmeobnilojaa

/- What an expression is, whatever is seen: plain. -/
namespace Go.Proofs.Ytppnmeobnilojaa
set_option linter.unusedVariables false
set_option linter.unusedSimpArgs false
open Go.RowKit
inductive Vl where
  | unk : Vl
  | num (n : Int) : Vl
  | tru (b : Bool) : Vl
  | brk : Vl
deriving DecidableEq
def Vl.N : Vl → Int | .num n => n | _ => 0
def Vl.B : Vl → Bool | .tru b => b | _ => false
/-- A fixing. -/
structure Fx where
  name : ByteArray
  day : Int
  val : Int
/-- The last of those that count, the first of these on a day: its day and its value. -/
noncomputable def seenF (day : Int) (nm : ByteArray) : List Fx → Option (Int × Int) → Option (Int × Int)
  | [], b => b
  | f :: t, b => seenF day nm t (if eqv f.name nm = true ∧ f.day ≤ day ∧ (∀ p, b = some p → p.1 < f.day) then some (f.day, f.val) else b)
noncomputable def seenV (day : Int) (fx : List Fx) (nm : ByteArray) : Vl := match seenF day nm fx none with | some p => .num p.2 | none => .unk
def numV : Option Int → Vl | some n => .num n | none => .brk
def cmpV (op a b : Int) : Bool := if op = 11 then decide (a < b) else if op = 12 then decide (a ≤ b) else if op = 13 then decide (a = b) else if op = 14 then decide (a ≠ b) else if op = 15 then decide (b ≤ a) else decide (b < a)
def twoV (op a b : Int) : Vl := if 5 ≤ op ∧ op ≤ 10 then numV (valueM op [a, b]) else .tru (cmpV op a b)
def bothV (s : Bool) (a b : Vl) : Vl := if a = .brk ∨ a = .tru s then a else if (∃ t, a = .tru t) ∨ b = .brk ∨ b = .tru s then b else .unk
def opV (op : Int) (vs : List Vl) : Vl :=
  if op = 17 ∨ op = 18 then bothV (decide (op = 18)) (vs.getD 0 .unk) (vs.getD 1 .unk)
  else if op = 21 then (match vs.getD 0 .unk with | .unk => .unk | .brk => .brk | .num _ => vs.getD 2 .unk | .tru t => if t = true then vs.getD 1 .unk else vs.getD 2 .unk)
  else if op = 19 then (match vs.getD 0 .unk with | .unk => .unk | .brk => .brk | .num _ => .tru true | .tru t => .tru (!t))
  else if op = 20 then (match vs.getD 0 .unk with | .unk => .unk | .brk => .brk | .num x => numV (fitI (-x)) | .tru _ => .num 0)
  else if vs.getD 0 .unk = .brk ∨ vs.getD 1 .unk = .brk then .brk else if vs.getD 0 .unk = .unk ∨ vs.getD 1 .unk = .unk then .unk else twoV op (vs.getD 0 .unk).N (vs.getD 1 .unk).N
noncomputable def evO (day : Int) (fx : List Fx) (op n : Int) (nm : ByteArray) (vs : List Vl) : Vl :=
  if op = 1 ∨ op = 2 then .num n else if op = 4 then .num day else if op = 3 then seenV day fx nm else opV op vs
noncomputable def evalE (day : Int) (fx : List Fx) : Ex → Vl
  | .mk op n nm l => evO day fx op n nm (go l)
  where go : List Ex → List Vl
  | [] => []
  | e :: t => evalE day fx e :: go t
theorem evalE_go (day : Int) (fx : List Fx) (l : List Ex) : evalE.go day fx l = l.map (evalE day fx) := by
  induction l with
  | nil => rfl
  | cons x t ih => simp only [evalE.go, ih, List.map_cons]
theorem evalE_mk (day : Int) (fx : List Fx) (op n : Int) (nm : ByteArray) (l : List Ex) : evalE day fx (.mk op n nm l) = evO day fx op n nm (l.map (evalE day fx)) := by rw [evalE, evalE_go]
/-- A constant is what it is known as. -/
theorem eval_known {day : Int} {fx : List Fx} {e : Ex} (hb : bE e = true) (hn : NumsE e) {v : Int} (h : knownE e = some v) : evalE day fx e = .num v := by
  have hbd := known_bd hb hn h
  obtain ⟨op, n, nm, l⟩ := e
  simp only [knownE] at h
  rw [evalE_mk]
  unfold evO
  by_cases ho : op = 1 ∨ op = 2
  · rw [if_pos ho] at h ⊢; injection h with h; rw [h]
  · rw [if_neg ho] at h ⊢
    by_cases h20 : op = 20
    · rw [if_pos h20] at h
      subst h20
      match l, h with
      | [], h => cases h
      | .mk o m nm' l' :: t, h =>
        by_cases ho1 : o = 1
        · simp [ho1] at h
          subst h
          rw [if_neg (by omega), if_neg (by omega), List.map_cons, evalE_mk]
          simp [evO, opV, ho1, fitI, hbd, numV]
        · simp [ho1] at h
    · rw [if_neg h20] at h; cases h
theorem eval_const {day : Int} {fx : List Fx} {v : Int} (h1 : -9223372036854775808 ≤ v) (h2 : v ≤ 9223372036854775807) : evalE day fx (constE v) = .num v := by
  unfold constE
  split
  · simp [evalE_mk, evO]
  · simp [evalE_mk, evO, opV, fitI, numV, h1, h2]
theorem ar_two {op : Int} (h : 5 ≤ op ∧ op ≤ 18) : ar op = 2 := by unfold ar; rw [if_neg (by omega), if_pos h]
/-- What is folded is what it was. -/
theorem eval_fold (day : Int) (fx : List Fx) (e : Ex) (hb : bE e = true) (hn : NumsE e) : evalE day fx (foldE e) = evalE day fx e := by
  have := (fold_ind (Q := fun e s => NumsE e → NumsE s ∧ evalE day fx s = evalE day fx e) ?_ _ e (Nat.le_refl _) hb).2 hn
  · exact this.2
  intro op n nm l hb0 hb' hq hN
  obtain ⟨m1, m2⟩ := hN
  have hl : ∀ e ∈ l, NumsE (foldE e) ∧ evalE day fx (foldE e) = evalE day fx e := fun e he => hq e he (nums_go.1 m2 e he)
  have hl' : ∀ c ∈ l.map foldE, NumsE c := fun c hc => by obtain ⟨y, hy, rfl⟩ := List.mem_map.1 hc; exact (hl y hy).1
  have hmap : (l.map foldE).map (evalE day fx) = l.map (evalE day fx) := by
    rw [List.map_map]
    exact List.map_congr_left (fun e he => (hl e he).2)
  have heq : evalE day fx (.mk op n nm (l.map foldE)) = evalE day fx (.mk op n nm l) := by rw [evalE_mk, evalE_mk, hmap]
  rcases foldO_cases op n nm (l.map foldE) with e | ⟨v, hv, hm, e, hlen, h0⟩
  · rw [e]; exact ⟨⟨m1, nums_go.2 hl'⟩, heq⟩
  · obtain ⟨g1, -, h3⟩ := bE_inv hb'
    have hbd := value_bd (fun x hx => by
      obtain ⟨c, hc, hk⟩ := List.mem_filterMap.1 hx
      exact known_bd (h3 c hc) (hl' c hc) hk) hv
    have hm' : v ≠ -9223372036854775808 := hm
    rw [e, eval_const hbd.1 hbd.2, ← heq, evalE_mk]
    refine ⟨const_nums (by omega) hbd.2, ?_⟩
    have hop := value_op hv
    have hev : ∀ c ∈ l.map foldE, ∃ u, knownE c = some u ∧ evalE day fx c = .num u := by
      intro c hc
      obtain ⟨u, hu⟩ := all_known hlen c hc
      exact ⟨u, hu, eval_known (h3 c hc) (hl' c hc) hu⟩
    generalize l.map foldE = l' at *
    unfold evO
    rw [if_neg (by omega), if_neg (by omega), if_neg (by omega)]
    rcases hop with hop | rfl
    · have h2 : l'.length = 2 := by rw [ar_two (by omega)] at g1; omega
      obtain ⟨a, b, rfl⟩ : ∃ a b, l' = [a, b] := by
        match l', h2 with
        | [a, b], _ => exact ⟨a, b, rfl⟩
      obtain ⟨u, hu, eu⟩ := hev a (by simp)
      obtain ⟨t, ht, et⟩ := hev b (by simp)
      have hks : [a, b].filterMap knownE = [u, t] := by simp [hu, ht]
      rw [hks] at hv
      unfold opV
      rw [if_neg (by omega), if_neg (by omega), if_neg (by omega), if_neg (by omega)]
      simp [eu, et, twoV, hop, Vl.N, hv, numV]
    · have h1 : l'.length = 1 := by rw [show ar 20 = 1 by decide] at g1; omega
      obtain ⟨a, rfl⟩ : ∃ a, l' = [a] := by
        match l', h1 with
        | [a], _ => exact ⟨a, rfl⟩
      obtain ⟨u, hu, eu⟩ := hev a (by simp)
      have hks : [a].filterMap knownE = [u] := by simp [hu]
      rw [hks] at hv
      have hv' : fitI (-u) = some v := by simpa [valueM] using hv
      simp [opV, eu, hv', numV]
end Go.Proofs.Ytppnmeobnilojaa

/- The contract of check.fold; condition: built as it must be. -/
namespace Go.Proofs.Ytppnmeobnilojaa
set_option linter.unusedVariables false
set_option linter.unusedSimpArgs false
open Go.RowKit
set_option maxRecDepth 100000 in
set_option maxHeartbeats 4000000 in
theorem fold_any : ∀ (r : Nat) (e : Ex), e.rk ≤ r → bE e = true → ∀ (X : List Nat) (cs : List Value) (w : World), (∀ b ∈ X, b < w.heap.size) → RepE w [] e cs →
    Calls Try.prog 62 #[.agg cs.toArray] w fun x w' => RetE w' X (foldE e) x ∧ Below w.heap.size w w' := by
  intro r
  induction r with
  | zero => intro e h; have := e.rk_pos; omega
  | succ r ih =>
    intro e hr hb X cs w hX hR
    obtain ⟨op, no, nm, args, a, len, cap, rfl, rfl, i1, i2, i3, hS⟩ := hR.inv
    obtain ⟨g1, g2, g3⟩ := bE_inv hb
    obtain ⟨f1, f2, f3⟩ := hS.facts
    have HI : Hid (∀ (k : Nat) e1, args[k]? = some e1 → ∀ Y cs1 W, (∀ b ∈ Y, b < W.heap.size) → RepE W [] e1 cs1 → Calls Try.prog 62 #[.agg cs1.toArray] W fun x w' => RetE w' Y (foldE e1) x ∧ Below W.heap.size W w') := by
      intro k e1 hk Y cs1 W hY hR1
      exact ih e1 (by have := Ex.rk_lt (op := op) (n := no) (nm := nm) hk; omega) (g3 e1 (List.mem_of_getElem? hk)) Y cs1 W hY hR1
    have HBK : Hid (∀ (k : Nat) e1, args[k]? = some e1 → bE (foldE e1) = true) := fun k e1 hk => foldE_built e1 (g3 e1 (List.mem_of_getElem? hk))
    have HKN : Hid (∀ (k : Nat) e1, args[k]? = some e1 → ∀ v, knownE (foldE e1) = some v → I64 v) := by
      intro k e1 hk v hv
      have hm := List.mem_of_getElem? hk
      obtain ⟨b, o, op', n', nm', args', a', len', cap', -, -, -, hx, j1, j2, j3, hS', -⟩ := hS.at k (by have := (List.getElem?_eq_some_iff.1 hk).1; omega)
      rw [hk] at hx
      injection hx with hx
      have hN := RepE.nums _ _ (Nat.le_refl _) _ (RepE.mk' j1 j2 j3 hS')
      rw [← hx] at hN
      exact known_bd (foldE_built e1 (g3 e1 hm)) (foldE_twice e1 (g3 e1 hm) hN).1 hv
    have HFO := Lib.hid (foldE_mk op no nm args)
    have HJ : Hid (I64 op ∧ I64 no ∧ nm.size ≤ 9223372036854775807) := ⟨i1, i2, i3⟩
    have HR0 := Lib.hid (FoldI.start (op := op) (n := no) (nm := nm) (a := a) (len := len) (cap := cap) hX)
    have HSS := Lib.hid hS
    have HL := Lib.hid f1
    have HG := Lib.hid (show ar op = (len : Int) by rw [g1, f1])
    have h3 : len ≤ 3 := by have := ar_lt4 op; omega
    clear ih hr hR hS i1 i2 i3 f1 g1 g2 g3 hb hX
    generalize foldE (.mk op no nm args) = R at *
    go_enter Try.func62, Try.ntmps62
    go_upto_region 4 with (fail)
    generalize ((w.alloc (.cells #[.int .i64 op, .int .i64 no, .string nm, .slice a len cap] 46)).alloc (.cells #[.int .i64 0, .int .i64 0, .string ⟨#[]⟩, .slice none 0 0] 46)).alloc (.cells #[.int .i64 op, .int .i64 no, .string nm, .slice none 0 0] 46) = w0 at *
    go_loopw [4, 22] (fun vl i wr => ∃ (k : Nat) (vA : Value), i = .int .i64 (k : Nat) ∧ k ≤ len ∧ Hid (FoldI w wr op no nm a len cap ((args.take k).map foldE) vA (((args.take k).map foldE).filterMap knownE) vl X)) (fun _ i _ => len - (intOf i).toNat)
    case atStart => exact ⟨0, _, rfl, Nat.zero_le _, HR0.out⟩
    case round =>
      clear HR0
      obtain ⟨k, vA, rfl, hk, HR⟩ := hrel
      by_cases hlt : k < len
      · obtain ⟨b, o, cop, cn, cnm, cargs, ca, clen, ccap, rfl, -, -, hxe, j1, j2, j3, hSc, v0, v1, v2, v3⟩ := (HSS.out.kept (Kept.of_below HR.out.below [])).at k hlt
        have j1' : (k : Int) < (len : Int) := by omega
        have j0' : (0 : Int) ≤ (k : Int) := by omega
        have HXE := Lib.hid hxe
        have HSC := Lib.hid (RepE.mk' j1 j2 j3 hSc)
        have HTK := Lib.hid (take_known hxe)
        clear hxe j1 j2 j3 hSc
        have hlk : ((args.take k).map foldE).length = k := by rw [List.length_map, List.length_take, HL.out]; omega
        have HLK := Lib.hid hlk
        have hln : (((args.take k).map foldE).filterMap knownE).length ≤ k := Nat.le_trans (List.length_filterMap_le _ _) (Nat.le_of_eq hlk)
        clear hlk
        generalize (args.take k).map foldE = AS at *
        go_upto_region 6 with (fail)
        have hfa := (Below.refl wr.heap.size wr).alloc (Nat.le_refl _) (.cells #[.int .i64 cop, .int .i64 cn, .string cnm, .slice ca clen ccap] 46)
        have BV := Lib.hid (Mem.Blk.new wr 46 #[.int .i64 cop, .int .i64 cn, .string cnm, .slice ca clen ccap])
        have HR1 := Lib.hid (HR.out.up hfa)
        have HC := Lib.hid (HI.out k _ HXE.out (owns (famF w.heap.size op no nm (some ⟨b, o, none⟩) len cap AS vA (AS.filterMap knownE) u4 X)) _ _ HR1.out.sep.lt (HSC.out.kept (Kept.of_below hfa [])))
        have HBB := Lib.hid (HBK.out k _ HXE.out)
        have HKK := Lib.hid (HKN.out k _ HXE.out)
        clear hfa HR HSC v0 v1 v2 v3 HXE
        generalize wr.alloc (.cells #[.int .i64 cop, .int .i64 cn, .string cnm, .slice ca clen ccap] 46) = v at *
        generalize wr.heap.size = z at *
        obtain ⟨y0, y1, y2, y3, -, -, -, -⟩ := blk4 BV.out
        generalize foldE (Ex.mk cop cn cnm cargs) = Y at *
        go_wp2_with fail
        go_at_call 62
        (with_reducible refine HC.out.mono ?_)
        rintro x w3 ⟨⟨cs3, rfl, hR3⟩, b3⟩
        obtain ⟨o5, n5, m5, r5, a5, l5, p5, rfl, rfl, q1, q2, q3, hS5⟩ := hR3.inv
        have HY := Lib.hid (rfl : Ex.mk o5 n5 m5 r5 = Ex.mk o5 n5 m5 r5)
        have HR3 := Lib.hid hR3
        have HR2 := Lib.hid (HR1.out.up b3)
        clear hR3 b3 HC HR1 BV y0 y1 y2 y3 q1 q2 q3 hS5
        generalize Ex.mk o5 n5 m5 r5 = Y at *
        go_upto_region 7 with (fail)
        have hfb := (Below.refl w3.heap.size w3).alloc (Nat.le_refl _) (.cells #[.int .i64 o5, .int .i64 n5, .string m5, .slice a5 l5 p5] 46)
        have HZ := Lib.hid (fun hm => (Nat.lt_irrefl _ (HR2.out.sep.lt w3.heap.size hm) : False))
        have HR4 := Lib.hid (HR2.out.up hfb)
        have HX4 := Lib.hid (HR3.out.kept (Kept.of_below hfb _))
        have BZ := Lib.hid (Mem.Blk.new w3 46 #[.int .i64 o5, .int .i64 n5, .string m5, .slice a5 l5 p5])
        clear HR2 HR3 hfb
        generalize w3.alloc (.cells #[.int .i64 o5, .int .i64 n5, .string m5, .slice a5 l5 p5] 46) = w4 at *
        generalize w3.heap.size = z3 at *
        obtain ⟨y0, y1, y2, y3, -, -, -, -⟩ := blk4 BZ.out
        have s3 : w4.cell? ⟨w.heap.size + 1 + 1, 3, none⟩ = some vA := (HR4.out.sep.blk 2 rfl).cell 3
        have hfc := (Below.refl w4.heap.size w4).alloc (Nat.le_refl _) (.cells #[.int .i64 o5, .int .i64 n5, .string m5, .slice a5 l5 p5] 46)
        have HR5 := Lib.hid (HR4.out.up hfc)
        have HX5 := Lib.hid (HX4.out.kept (Kept.of_below hfc _))
        have BZ5 := Lib.hid (BZ.out.below hfc)
        obtain ⟨csl, hGr⟩ := HR5.out.sep.at 0 rfl
        have HGr := Lib.hid hGr
        clear hGr hfc
        go_upto_region 8 with (at_builtin; refine ap_row infoE Try.underlying26 rfl (by decide) rfl (.tmp 29) (.tmp 31) rfl rfl HGr.out.own HGr.out.room ⟨w4.heap.size, 0, none⟩ 1 1 [.int .i64 o5, .int .i64 n5, .string m5, .slice a5 l5 p5] rfl rfl (lit_cells_at w4 #[.int .i64 o5, .int .i64 n5, .string m5, .slice a5 l5 p5] 46 _ rfl) (by simp [Value.oneCell']) (by have := HLK.out; unfold maxLen; omega) (by have := HLK.out; omega) ?_; intro v1 w1 o1 g1 hv1; obtain ⟨g2, cap2, rfl, -, -, -, -⟩ := own_form o1 (by omega); obtain ⟨⟨m4, m5⟩, HB3⟩ := HR5.out.push HGr.out HX5.out o1 g1 hv1; have HYE := Lib.hid (HR5.out.farE (v' := .slice (some ⟨g2, 0, none⟩) (AS.length + 1) cap2) HX5.out g1); have HBZ := Lib.hid (HR5.out.far (v' := .slice (some ⟨g2, 0, none⟩) (AS.length + 1) cap2) BZ5.out HZ.out g1); have HB3' := Lib.hid HB3; clear HB3 o1 g1 hv1)
        have HB3 := HB3'
        clear HB3' HR4 HR5 HX4 HX5 BZ5 HGr m4 m5 s3 y0 y1 y2 y3
        generalize w1.setCell ⟨w.heap.size + 1 + 1, 3, none⟩ (.slice (some ⟨g2, 0, none⟩) (AS.length + 1) cap2) = w5 at *
        obtain ⟨y0, y1, y2, y3, -, -, -, -⟩ := blk4 HBZ.out
        have HFM := Lib.hid (filter_snoc AS Y)
        go_wp2_with fail
        go_at_call 92
        (with_reducible refine (known_any Y HBB.out _ _ HYE.out).mono ?_)
        rintro x w6 ⟨rfl, b6⟩
        have HR6 := Lib.hid (HB3.out.up b6)
        clear b6 HB3 HBZ HYE y0 y1 y2 y3
        generalize knownE Y = kn at *
        unfold fitR fitN fitB
        cases kn with
        | none =>
          go_wp2_with fail
          go_roundw
          case rel => exact ⟨k + 1, _, by go_num, by omega, by rw [HTK.out, HFM.out]; show Hid _; simp only [Option.toList_none, List.append_nil]; exact HR6.out⟩
          case measure => simp [intOf]; omega
        | some n =>
          have hn := Lib.hid (HKK.out n rfl)
          have hnl : Hid ((AS.filterMap knownE).length ≤ 3) := Nat.le_trans hln (by omega)
          have hfd := (Below.refl w6.heap.size w6).alloc (Nat.le_refl _) (.cells #[.int .i64 n] 2)
          have HR7 := Lib.hid (HR6.out.up hfd)
          obtain ⟨csl2, hG2⟩ := HR7.out.sep.at 1 rfl
          have HG2 := Lib.hid hG2
          clear hG2 hfd HR6 HKK
          go_upto_region 11 with (at_builtin; refine ap_row infoI64 Try.underlying98 rfl (by decide) rfl (.tmp 40) (.tmp 42) rfl rfl HG2.out.own HG2.out.room ⟨w6.heap.size, 0, none⟩ 1 1 [.int .i64 n] rfl rfl (lit_cells_at w6 #[.int .i64 n] 2 _ rfl) (by simp [Value.oneCell']) (by have := hnl.out; unfold maxLen; omega) (by have := hnl.out; omega) ?_; intro v8 w8 o1 g1 hv1; have HB8 := Lib.hid (HR7.out.num HG2.out ⟨rfl, hn.out⟩ o1 g1 hv1); clear o1 g1 hv1)
          clear HR7 HG2
          go_wp2_with fail
          go_roundw
          case rel => exact ⟨k + 1, _, by go_num, by omega, by rw [HTK.out, HFM.out]; exact HB8.out⟩
          case measure => simp [intOf]; omega
      · have hk' : ¬ (k : Int) < (len : Int) := by omega
        obtain rfl : k = len := by omega
        have HAS : Hid ((args.take k).map foldE = args.map foldE) := by show _ = _; rw [← HL.out, List.take_length]
        rw [HAS.out] at HR
        have hla : Hid ((args.map foldE).length = k) := by show _ = _; rw [List.length_map]; exact HL.out
        have hln : ((args.map foldE).filterMap knownE).length ≤ k := by rw [← hla.out]; exact List.length_filterMap_le _ _
        obtain ⟨⟨aA, cA, rfl⟩, aL, cL, rfl⟩ := HR.out.form
        have HBL : Hid (∀ x ∈ (args.map foldE).filterMap knownE, I64 x) := by
          intro x hx
          obtain ⟨c, hc, hkn⟩ := List.mem_filterMap.1 hx
          obtain ⟨y, hy, rfl⟩ := List.mem_map.1 hc
          obtain ⟨j, hj⟩ := List.getElem?_of_mem hy
          exact HKN.out j y hj x hkn
        have HFO' : Hid (R = if ((args.map foldE).filterMap knownE).length < (args.map foldE).length ∨ ((args.map foldE).filterMap knownE).length = 0 then .mk op no nm (args.map foldE) else match valueM op ((args.map foldE).filterMap knownE) with | some v => if v = minI then .mk op no nm (args.map foldE) else constE v | none => .mk op no nm (args.map foldE)) := HFO.out
        clear HI HBK HKN HAS HSS HL hlt HFO
        generalize args.map foldE = AS at *
        generalize AS.filterMap knownE = NS at *
        have HD3 := Lib.hid ((HR.out.sep.blk 4 rfl).cell 3)
        have HD0 := Lib.hid ((HR.out.sep.blk 4 rfl).cell 0)
        have hs3 : wr.cell? ⟨w.heap.size, 3, none⟩ = some (.slice a k cap) := HD3.out
        have hs0 : wr.cell? ⟨w.heap.size, 0, none⟩ = some (.int .i64 op) := HD0.out
        clear HD3 HD0
        by_cases hq : NS.length < k ∨ NS.length = 0
        · obtain rfl : R = .mk op no nm AS := by rw [HFO'.out, if_pos (by rw [hla.out]; exact hq)]
          clear HFO'
          have hm1 : w.heap.size + 1 < wr.heap.size := (HR.out.sep.blk 3 rfl).lt
          obtain ⟨s0, s1, s2, s3, -, -, -, -⟩ := blk4 (HR.out.sep.blk 2 rfl)
          obtain ⟨t0, t1, t2, t3, t4, t5, t6, t7⟩ := blk4 (HR.out.sep.blk 3 rfl)
          have HFN := Lib.hid (HR.out.fin HJ.out.1 HJ.out.2.1 HJ.out.2.2)
          clear HR HBL HJ HG
          by_cases hq1 : NS.length < k
          · clear hq
            go_wp2_with fail
            generalize (((wr.setCell ⟨w.heap.size + 1, 0, none⟩ (.int .i64 op)).setCell ⟨w.heap.size + 1, 1, none⟩ (.int .i64 no)).setCell ⟨w.heap.size + 1, 2, none⟩ (.string nm)).setCell ⟨w.heap.size + 1, 3, none⟩ (.slice aA AS.length cA) = W9 at *
            obtain ⟨r0, r1, r2, r3, -, -, -, -⟩ := blk4 HFN.out.2.2
            refine bodyPost_ret (v := .agg #[.int .i64 op, .int .i64 no, .string nm, .slice aA AS.length cA]) (by simp [results, Try.results62, go_sem, r0, r1, r2, r3]) rfl ⟨⟨_, rfl, HFN.out.1⟩, HFN.out.2.1⟩
          · have hq2 := hq.resolve_left hq1
            clear hq
            go_wp2_with fail
            generalize (((wr.setCell ⟨w.heap.size + 1, 0, none⟩ (.int .i64 op)).setCell ⟨w.heap.size + 1, 1, none⟩ (.int .i64 no)).setCell ⟨w.heap.size + 1, 2, none⟩ (.string nm)).setCell ⟨w.heap.size + 1, 3, none⟩ (.slice aA AS.length cA) = W9 at *
            obtain ⟨r0, r1, r2, r3, -, -, -, -⟩ := blk4 HFN.out.2.2
            refine bodyPost_ret (v := .agg #[.int .i64 op, .int .i64 no, .string nm, .slice aA AS.length cA]) (by simp [results, Try.results62, go_sem, r0, r1, r2, r3]) rfl ⟨⟨_, rfl, HFN.out.1⟩, HFN.out.2.1⟩
        · have hq1 : ¬ NS.length < k := fun h => hq (.inl h)
          have hq2 : ¬ NS.length = 0 := fun h => hq (.inr h)
          clear hq
          have hNk : NS.length = k := by omega
          have HR' := Lib.hid (show R = match valueM op NS with | some v => if v = minI then .mk op no nm AS else constE v | none => .mk op no nm AS by rw [HFO'.out, if_neg (by rw [hla.out]; omega)])
          have hN2 : Hid (5 ≤ op → op ≤ 10 → NS.length = 2) := fun h5 h10 => by have h := HG.out; rw [ar_two (by omega)] at h; omega
          have hN1 : Hid (op = 20 → NS.length = 1) := fun h => by subst h; have h := HG.out; rw [show ar 20 = 1 by decide] at h; omega
          have HVB : Hid (∀ v, valueM op NS = some v → -9223372036854775808 ≤ v ∧ v ≤ 9223372036854775807) := fun v hv => value_bd HBL.out hv
          have hSl : SlR i64K wr [] NS aL NS.length cL := by
            obtain ⟨a', c', e, hS⟩ := HR.out.sep.still 1 rfl
            injection e with e1 e2 e3; subst e1; subst e3
            exact hS.less (fun b _ hm => by cases hm)
          have HV := Lib.hid (value_any op NS aL NS.length cL wr hSl hN2.out hN1.out)
          clear hSl hN2 hN1 HFO' HBL HG hln
          have hNk' := Lib.hid hNk
          clear hNk
          generalize valueM op NS = V at *
          go_wp2_with fail
          go_at_call 93
          (with_reducible refine HV.out.mono ?_)
          rintro x w5 ⟨rfl, b5⟩
          have HR5 := Lib.hid (HR.out.up b5)
          clear b5 HR HV hs0 hs3
          unfold fitR fitN fitB
          have hm1 : w.heap.size + 1 < w5.heap.size := (HR5.out.sep.blk 3 rfl).lt
          obtain ⟨s0, s1, s2, s3, -, -, -, -⟩ := blk4 (HR5.out.sep.blk 2 rfl)
          obtain ⟨t0, t1, t2, t3, t4, t5, t6, t7⟩ := blk4 (HR5.out.sep.blk 3 rfl)
          have HFN := Lib.hid (HR5.out.fin HJ.out.1 HJ.out.2.1 HJ.out.2.2)
          cases V with
          | none =>
            obtain rfl : R = .mk op no nm AS := HR'.out
            clear HR' HVB HR5 HJ
            go_wp2_with fail
            generalize (((w5.setCell ⟨w.heap.size + 1, 0, none⟩ (.int .i64 op)).setCell ⟨w.heap.size + 1, 1, none⟩ (.int .i64 no)).setCell ⟨w.heap.size + 1, 2, none⟩ (.string nm)).setCell ⟨w.heap.size + 1, 3, none⟩ (.slice aA AS.length cA) = W9 at *
            obtain ⟨r0, r1, r2, r3, -, -, -, -⟩ := blk4 HFN.out.2.2
            refine bodyPost_ret (v := .agg #[.int .i64 op, .int .i64 no, .string nm, .slice aA AS.length cA]) (by simp [results, Try.results62, go_sem, r0, r1, r2, r3]) rfl ⟨⟨_, rfl, HFN.out.1⟩, HFN.out.2.1⟩
          | some v =>
            by_cases hv : v = minI
            · have hR2 : R = .mk op no nm AS := by rw [HR'.out]; simp [hv]
              subst hR2
              unfold minI at hv
              subst hv
              clear HR' HVB HR5 HJ
              go_wp2_with fail
              generalize (((w5.setCell ⟨w.heap.size + 1, 0, none⟩ (.int .i64 op)).setCell ⟨w.heap.size + 1, 1, none⟩ (.int .i64 no)).setCell ⟨w.heap.size + 1, 2, none⟩ (.string nm)).setCell ⟨w.heap.size + 1, 3, none⟩ (.slice aA AS.length cA) = W9 at *
              obtain ⟨r0, r1, r2, r3, -, -, -, -⟩ := blk4 HFN.out.2.2
              refine bodyPost_ret (v := .agg #[.int .i64 op, .int .i64 no, .string nm, .slice aA AS.length cA]) (by simp [results, Try.results62, go_sem, r0, r1, r2, r3]) rfl ⟨⟨_, rfl, HFN.out.1⟩, HFN.out.2.1⟩
            · have hR2 : R = constE v := by rw [HR'.out]; simp [hv]
              have hvb := HVB.out v rfl
              unfold minI at hv
              have hv1 : (v == -9223372036854775808) = false := beq_eq_false_iff_ne.2 hv
              have hv2 : (v != -9223372036854775808) = true := by simp [bne, hv1]
              have HC := Lib.hid (constant_any v w5 _ HR5.out.sep.lt (by omega) hvb.2)
              subst hR2
              clear HR' HVB HFN HJ hvb hv
              go_wp2_with fail
              go_at_call 94
              (with_reducible refine HC.out.mono ?_)
              rintro x w6 ⟨⟨cs6, rfl, hR6⟩, b6⟩
              obtain ⟨o7, n7, m7, r7, a7, l7, p7, hce, rfl, -, -, -, -⟩ := hR6.inv
              have HFN := Lib.hid ((HR5.out.up b6).cst hR6)
              have t' := (HR5.out.sep.blk 3 rfl).below b6
              have hm2 : w.heap.size + 1 < w6.heap.size := t'.lt
              clear hce hR6 HC t0 t1 t2 t3 t4 t5 t6 t7 s0 s1 s2 s3 HR5 b6
              obtain ⟨t0, t1, t2, t3, t4, t5, t6, t7⟩ := blk4 t'
              clear t'
              go_wp2_with fail
              generalize (((w6.setCell ⟨w.heap.size + 1, 0, none⟩ (.int .i64 o7)).setCell ⟨w.heap.size + 1, 1, none⟩ (.int .i64 n7)).setCell ⟨w.heap.size + 1, 2, none⟩ (.string m7)).setCell ⟨w.heap.size + 1, 3, none⟩ (.slice a7 l7 p7) = W9 at *
              obtain ⟨r0, r1, r2, r3, -, -, -, -⟩ := blk4 HFN.out.2.2
              refine bodyPost_ret (v := .agg #[.int .i64 o7, .int .i64 n7, .string m7, .slice a7 l7 p7]) (by simp [results, Try.results62, go_sem, r0, r1, r2, r3]) rfl ⟨⟨_, rfl, HFN.out.1⟩, HFN.out.2.1⟩
end Go.Proofs.Ytppnmeobnilojaa
