/- A literal's block as a slice. -/
import Derived.Test.YtgbiimoednmlgaaCells
import Derived.Test.YtgbiimoednmlgaaSep
namespace Go.Proofs.Ytgbiimoednmlgaa
set_option linter.unusedVariables false
set_option linter.unusedSimpArgs false
open Go.RowKit
theorem RepE.free {w : World} {X : List Nat} {e : Ex} {cs : List Value} (h : RepE w X e cs) : RepE w [] e cs := h.less (fun _ _ hm => absurd hm List.not_mem_nil)
theorem RepT.free {w : World} {X : List Nat} {e : Te} {cs : List Value} (h : RepT w X e cs) : RepT w [] e cs := h.less (fun _ _ hm => absurd hm List.not_mem_nil)
theorem SlR.free {α : Type} {K : Elt α} {w : World} {X : List Nat} {l : List α} {a : Option Addr} {len cap : Nat} (h : SlR K w X l a len cap) : SlR K w [] l a len cap := h.less (fun _ _ hm => absurd hm List.not_mem_nil)
theorem SlR.lit {α : Type} {K : Elt α} {w : World} {X : List Nat} {g : Nat} {ty : TypeId} {cs : Array Value} {l : List α} (csl : List (List Value)) (hB : Mem.Blk w g ty cs) (hg : g ∉ X) (hf : cs.toList = csl.flatten) (hc : csl.length = l.length)
    (he : ∀ (i : Nat) x c, l[i]? = some x → csl[i]? = some c → K.R w X x c) (n : Nat) (hn : l.length = n) (hm : n ≤ 9223372036854775807) : SlR K w X l (some ⟨g, 0, none⟩) n n := by
  subst hn
  have h4 : ∀ c ∈ csl, c.length = K.sz := by
    intro c hcm
    obtain ⟨i, hi, rfl⟩ := List.getElem_of_mem hcm
    exact (K.one (he i _ _ (List.getElem?_eq_getElem (by omega)) (List.getElem?_eq_getElem hi))).1
  refine ⟨csl, hc, he, hc, Nat.le_refl _, hm, fun _ => ⟨g, 0, rfl, hB.lt, hg, fun i c hi => ?_⟩⟩
  have hl := h4 c (List.mem_of_getElem? hi)
  refine ⟨hl, fun j u hj => ?_⟩
  have hjs : j < K.sz := by rw [← hl]; exact (List.getElem?_eq_some_iff.1 hj).1
  rw [Nat.zero_add, hB.cell, ← Array.getElem?_toList, hf, flat_get K.sz csl h4 i j c hi hjs]
  exact hj
/-- One element. -/
theorem SlR.lit1 {α : Type} {K : Elt α} {w : World} {X : List Nat} {g : Nat} {ty : TypeId} {c : List Value} {x : α} (hB : Mem.Blk w g ty c.toArray) (hg : g ∉ X) (h : K.R w X x c) : SlR K w X [x] (some ⟨g, 0, none⟩) 1 1 := by
  refine SlR.lit (l := [x]) [c] hB hg (by simp) rfl (fun i y d hy hd => ?_) 1 rfl (by decide)
  match i, hy, hd with
  | 0, hy, hd => simp at hy hd; subst hy; subst hd; exact h
  | k + 1, hy, _ => simp at hy
theorem SlR.lit2 {α : Type} {K : Elt α} {w : World} {X : List Nat} {g : Nat} {ty : TypeId} {c d : List Value} {x y : α} {cs : Array Value} (hB : Mem.Blk w g ty cs) (hcs : cs.toList = c ++ d) (hg : g ∉ X) (h : K.R w X x c) (h' : K.R w X y d) : SlR K w X [x, y] (some ⟨g, 0, none⟩) 2 2 := by
  refine SlR.lit (l := [x, y]) [c, d] hB hg (by simpa using hcs) rfl (fun i z e hy hd => ?_) 2 rfl (by decide)
  match i, hy, hd with
  | 0, hy, hd => simp at hy hd; subst hy; subst hd; exact h
  | 1, hy, hd => simp at hy hd; subst hy; subst hd; exact h'
  | k + 2, hy, _ => simp at hy
/-- Four cells are stored where an answer lies; what is answered keeps out of there. -/
theorem ret4E {w w1 : World} {g : Nat} {X : List Nat} {ty : TypeId} {e : Ex} {b0 b1 b2 b3 c0 c1 c2 c3 : Value} (hb : Below w.heap.size w w1) (hg : w.heap.size ≤ g) (hB : Mem.Blk w1 g ty #[b0, b1, b2, b3]) (hR : RepE w1 (g :: X) e [c0, c1, c2, c3]) :
    RepE ((((w1.setCell ⟨g, 0, none⟩ c0).setCell ⟨g, 1, none⟩ c1).setCell ⟨g, 2, none⟩ c2).setCell ⟨g, 3, none⟩ c3) X e [c0, c1, c2, c3] ∧ Below w.heap.size w ((((w1.setCell ⟨g, 0, none⟩ c0).setCell ⟨g, 1, none⟩ c1).setCell ⟨g, 2, none⟩ c2).setCell ⟨g, 3, none⟩ c3) ∧
    Mem.Blk ((((w1.setCell ⟨g, 0, none⟩ c0).setCell ⟨g, 1, none⟩ c1).setCell ⟨g, 2, none⟩ c2).setCell ⟨g, 3, none⟩ c3) g ty #[c0, c1, c2, c3] := by
  have k4 : Kept (g :: X) w1 ((((w1.setCell ⟨g, 0, none⟩ c0).setCell ⟨g, 1, none⟩ c1).setCell ⟨g, 2, none⟩ c2).setCell ⟨g, 3, none⟩ c3) := (((Kept.setCell w1 (by simp) _).trans (Kept.setCell _ (by simp) _)).trans (Kept.setCell _ (by simp) _)).trans (Kept.setCell _ (by simp) _)
  exact ⟨(hR.kept k4).less (fun b _ hm => List.mem_cons_of_mem _ hm), (((hb.setCell hg _).setCell hg _).setCell hg _).setCell hg _, (((hB.set_ 0 _).set_ 1 _).set_ 2 _).set_ 3 _⟩
theorem ret4T {w w1 : World} {g : Nat} {X : List Nat} {ty : TypeId} {e : Te} {b0 b1 b2 b3 c0 c1 c2 c3 : Value} (hb : Below w.heap.size w w1) (hg : w.heap.size ≤ g) (hB : Mem.Blk w1 g ty #[b0, b1, b2, b3]) (hR : RepT w1 (g :: X) e [c0, c1, c2, c3]) :
    RepT ((((w1.setCell ⟨g, 0, none⟩ c0).setCell ⟨g, 1, none⟩ c1).setCell ⟨g, 2, none⟩ c2).setCell ⟨g, 3, none⟩ c3) X e [c0, c1, c2, c3] ∧ Below w.heap.size w ((((w1.setCell ⟨g, 0, none⟩ c0).setCell ⟨g, 1, none⟩ c1).setCell ⟨g, 2, none⟩ c2).setCell ⟨g, 3, none⟩ c3) ∧
    Mem.Blk ((((w1.setCell ⟨g, 0, none⟩ c0).setCell ⟨g, 1, none⟩ c1).setCell ⟨g, 2, none⟩ c2).setCell ⟨g, 3, none⟩ c3) g ty #[c0, c1, c2, c3] := by
  have k4 : Kept (g :: X) w1 ((((w1.setCell ⟨g, 0, none⟩ c0).setCell ⟨g, 1, none⟩ c1).setCell ⟨g, 2, none⟩ c2).setCell ⟨g, 3, none⟩ c3) := (((Kept.setCell w1 (by simp) _).trans (Kept.setCell _ (by simp) _)).trans (Kept.setCell _ (by simp) _)).trans (Kept.setCell _ (by simp) _)
  exact ⟨(hR.kept k4).less (fun b _ hm => List.mem_cons_of_mem _ hm), (((hb.setCell hg _).setCell hg _).setCell hg _).setCell hg _, (((hB.set_ 0 _).set_ 1 _).set_ 2 _).set_ 3 _⟩
end Go.Proofs.Ytgbiimoednmlgaa
