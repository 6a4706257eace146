/- A part of the proof: Fr, Cells, Lit, StK, DkP, DkS, NdA, DkB, DkL, DkG, DkQ, one behind another. -/
import Derived.Test.YtefpjdgfcgjbaaaMOA
import Derived.Maps.OwnSet
import Derived.Sort.EncStr
import Derived.Deep.Draws
import Derived.Sort.KeysCollected
import Derived.Test.YtefpjdgfcgjbaaaProg
import Derived.Test.YtefpjdgfcgjbaaaChecked
import Derived.Carry
import Derived.Deep.QuietTactic
import Derived.BigQuiet
import Derived.IntWalk
import Derived.Deep.DeepCutAuto
import Derived.Deep.CutBlock
import Derived.LoopTactic
/- What a call that writes the blocks of X leaves: all other blocks stay. -/
namespace Go.Proofs.Ytefpjdgfcgjbaaa
set_option linter.unusedVariables false
set_option linter.unusedSimpArgs false
open Go.RowKit
structure Fr (X : List Nat) (w w' : World) : Prop where
  os : w'.os = w.os
  tape : w'.tape = w.tape
  output : w'.output = w.output
  kept : Kept X w w'
section
variable {X X' : List Nat} {w w' w'' : World}
theorem Fr.refl (X : List Nat) (w : World) : Fr X w w := ⟨rfl, rfl, rfl, Kept.refl w X⟩
theorem Fr.trans (h : Fr X w w') (k : Fr X w' w'') : Fr X w w'' := ⟨k.os.trans h.os, k.tape.trans h.tape, k.output.trans h.output, h.kept.trans k.kept⟩
theorem Fr.more (h : Fr X w w') (hX : ∀ b, b ∈ X → b ∈ X') : Fr X' w w' := ⟨h.os, h.tape, h.output, h.kept.more hX⟩
theorem Fr.of_below (h : Below w.heap.size w w') (X : List Nat) : Fr X w w' := ⟨h.os, h.tape, h.output, Kept.of_below h X⟩
theorem Fr.alloc (w : World) (o : Obj) (X : List Nat) : Fr X w (w.alloc o) := .of_below ((Below.refl _ w).alloc (Nat.le_refl _) o) X
theorem Fr.drew (w : World) (X : List Nat) : Fr X w w.drew := .of_below (Below.refl _ w).drew X
theorem Fr.of_grown {g : Nat} (h : w.grownBy w' (some g)) (hg : g ∈ X) : Fr X w w' :=
  have b : Below 0 w w' := (Below.refl 0 w).grown h (Nat.zero_le _) (fun _ _ => Nat.zero_le _)
  ⟨b.os, b.tape, b.output, Kept.of_grown h hg⟩
theorem Fr.setCell (w : World) {p : Addr} (hp : p.block ∈ X) (v : Value) : Fr X w (w.setCell p v) :=
  have b : Below 0 w (w.setCell p v) := (Below.refl 0 w).setCell (Nat.zero_le _) v
  ⟨b.os, b.tape, b.output, Kept.setCell w hp v⟩
theorem Fr.size (h : Fr X w w') : w.heap.size ≤ w'.heap.size := h.kept.1
theorem Fr.below {B : Nat} (h : Fr X w w') (hB : B ≤ w.heap.size) (hX : ∀ b ∈ X, B ≤ b) : Below B w w' :=
  ⟨h.os, h.tape, h.output, h.kept.1, fun k hk => h.kept.2 k (by omega) (fun hm => by have := hX k hm; omega)⟩
/-- What was written in new blocks is nothing. -/
theorem Fr.fresh (h : Fr X w w') (hX : ∀ b ∈ X, b ∈ X' ∨ w.heap.size ≤ b) : Fr X' w w' :=
  ⟨h.os, h.tape, h.output, h.kept.1, fun b hb hx => h.kept.2 b hb (fun hm => (hX b hm).elim hx (fun h1 => by omega))⟩
theorem Fr.blk {g : Nat} {t : TypeId} {cs : Array Value} (h : Fr X w w') (hB : Mem.Blk w g t cs) (hg : g ∉ X) : Mem.Blk w' g t cs := (h.kept.2 g hB.lt hg).trans hB
theorem Fr.map {H : Type} {P : Program} {k : TypeId} {R : Value → Option (DataW H × List MemPlace)} {b n : Nat} {D : DataW H} (h : Fr X w w') (hM : w.ownsMap P k R b n D) (hg : b ∉ X) : w'.ownsMap P k R b n D := by
  have hlt := hM.lt
  obtain ⟨es, clock, hb, r⟩ := hM
  exact ⟨es, clock, (h.kept.2 b hlt hg).trans hb, r⟩
theorem Fr.cell {p : Addr} {v : Value} (h : Fr X w w') (hc : w.cell? p = some v) (hg : p.block ∉ X) : w'.cell? p = some v := by
  have hlt : p.block < w.heap.size := by
    rcases Nat.lt_or_ge p.block w.heap.size with h1 | h1
    · exact h1
    · have : w.heap[p.block]? = none := Array.getElem?_eq_none h1
      simp [World.cell?, this] at hc
  rw [World.cell?_of_block (w := w) (h.kept.2 p.block hlt hg)]; exact hc
end
end Go.Proofs.Ytefpjdgfcgjbaaa

/- Four cells of a block; what is stored where an answer lies. -/
namespace Go.Proofs.Ytefpjdgfcgjbaaa
set_option linter.unusedVariables false
set_option linter.unusedSimpArgs false
open Go.RowKit
theorem blk4 {w : World} {g : Nat} {t : TypeId} {a b c d : Value} (h : Mem.Blk w g t #[a, b, c, d]) : w.cell? ⟨g, 0, none⟩ = some a ∧ w.cell? ⟨g, 1, none⟩ = some b ∧ w.cell? ⟨g, 2, none⟩ = some c ∧ w.cell? ⟨g, 3, none⟩ = some d ∧
    w.frozen? ⟨g, 0, none⟩ = false ∧ w.frozen? ⟨g, 1, none⟩ = false ∧ w.frozen? ⟨g, 2, none⟩ = false ∧ w.frozen? ⟨g, 3, none⟩ = false :=
  ⟨h.cell 0, h.cell 1, h.cell 2, h.cell 3, h.frozen 0, h.frozen 1, h.frozen 2, h.frozen 3⟩
/-- What is stored where the answer lies. -/
theorem simp_fin {w wr : World} {X : List Nat} {t : Te} {ty : TypeId} {b0 b1 b2 b3 c0 c1 c2 c3 : Value} (hb : Below w.heap.size w wr) (hB : Mem.Blk wr (w.heap.size + 1) ty #[b0, b1, b2, b3]) (hR : RepT wr ((w.heap.size + 1) :: X) t [c0, c1, c2, c3]) :
    RepT ((((wr.setCell ⟨w.heap.size + 1, 0, none⟩ c0).setCell ⟨w.heap.size + 1, 1, none⟩ c1).setCell ⟨w.heap.size + 1, 2, none⟩ c2).setCell ⟨w.heap.size + 1, 3, none⟩ c3) X t [c0, c1, c2, c3] ∧
    Below w.heap.size w ((((wr.setCell ⟨w.heap.size + 1, 0, none⟩ c0).setCell ⟨w.heap.size + 1, 1, none⟩ c1).setCell ⟨w.heap.size + 1, 2, none⟩ c2).setCell ⟨w.heap.size + 1, 3, none⟩ c3) ∧
    Mem.Blk ((((wr.setCell ⟨w.heap.size + 1, 0, none⟩ c0).setCell ⟨w.heap.size + 1, 1, none⟩ c1).setCell ⟨w.heap.size + 1, 2, none⟩ c2).setCell ⟨w.heap.size + 1, 3, none⟩ c3) (w.heap.size + 1) ty #[c0, c1, c2, c3] := by
  have h1 : w.heap.size ≤ w.heap.size + 1 := by omega
  have k4 : Kept ((w.heap.size + 1) :: X) wr ((((wr.setCell ⟨w.heap.size + 1, 0, none⟩ c0).setCell ⟨w.heap.size + 1, 1, none⟩ c1).setCell ⟨w.heap.size + 1, 2, none⟩ c2).setCell ⟨w.heap.size + 1, 3, none⟩ c3) :=
    (((Kept.setCell wr (by simp) _).trans (Kept.setCell _ (by simp) _)).trans (Kept.setCell _ (by simp) _)).trans (Kept.setCell _ (by simp) _)
  exact ⟨(hR.kept k4).less (fun b _ hm => List.mem_cons_of_mem _ hm), (((hb.setCell h1 _).setCell h1 _).setCell h1 _).setCell h1 _, (((hB.set_ 0 _).set_ 1 _).set_ 2 _).set_ 3 _⟩
end Go.Proofs.Ytefpjdgfcgjbaaa

/- A literal's block as a slice. -/
namespace Go.Proofs.Ytefpjdgfcgjbaaa
set_option linter.unusedVariables false
set_option linter.unusedSimpArgs false
open Go.RowKit
theorem RepE.free {w : World} {X : List Nat} {e : Ex} {cs : List Value} (h : RepE w X e cs) : RepE w [] e cs := h.less (fun _ _ hm => absurd hm List.not_mem_nil)
theorem RepT.free {w : World} {X : List Nat} {e : Te} {cs : List Value} (h : RepT w X e cs) : RepT w [] e cs := h.less (fun _ _ hm => absurd hm List.not_mem_nil)
theorem SlR.free {α : Type} {K : Elt α} {w : World} {X : List Nat} {l : List α} {a : Option Addr} {len cap : Nat} (h : SlR K w X l a len cap) : SlR K w [] l a len cap := h.less (fun _ _ hm => absurd hm List.not_mem_nil)
theorem SlR.lit {α : Type} {K : Elt α} {w : World} {X : List Nat} {g : Nat} {ty : TypeId} {cs : Array Value} {l : List α} (csl : List (List Value)) (hB : Mem.Blk w g ty cs) (hg : g ∉ X) (hf : cs.toList = csl.flatten) (hc : csl.length = l.length)
    (he : ∀ (i : Nat) x c, l[i]? = some x → csl[i]? = some c → K.R w X x c) (n : Nat) (hn : l.length = n) (hm : n ≤ 9223372036854775807) : SlR K w X l (some ⟨g, 0, none⟩) n n := by
  subst hn
  have h4 : ∀ c ∈ csl, c.length = K.sz := by
    intro c hcm
    obtain ⟨i, hi, rfl⟩ := List.getElem_of_mem hcm
    exact (K.one (he i _ _ (List.getElem?_eq_getElem (by omega)) (List.getElem?_eq_getElem hi))).1
  refine ⟨csl, hc, he, hc, Nat.le_refl _, hm, fun _ => ⟨g, 0, rfl, hB.lt, hg, fun i c hi => ?_⟩⟩
  have hl := h4 c (List.mem_of_getElem? hi)
  refine ⟨hl, fun j u hj => ?_⟩
  have hjs : j < K.sz := by rw [← hl]; exact (List.getElem?_eq_some_iff.1 hj).1
  rw [Nat.zero_add, hB.cell, ← Array.getElem?_toList, hf, flat_get K.sz csl h4 i j c hi hjs]
  exact hj
/-- One element. -/
theorem SlR.lit1 {α : Type} {K : Elt α} {w : World} {X : List Nat} {g : Nat} {ty : TypeId} {c : List Value} {x : α} (hB : Mem.Blk w g ty c.toArray) (hg : g ∉ X) (h : K.R w X x c) : SlR K w X [x] (some ⟨g, 0, none⟩) 1 1 := by
  refine SlR.lit (l := [x]) [c] hB hg (by simp) rfl (fun i y d hy hd => ?_) 1 rfl (by decide)
  match i, hy, hd with
  | 0, hy, hd => simp at hy hd; subst hy; subst hd; exact h
  | k + 1, hy, _ => simp at hy
theorem SlR.lit2 {α : Type} {K : Elt α} {w : World} {X : List Nat} {g : Nat} {ty : TypeId} {c d : List Value} {x y : α} {cs : Array Value} (hB : Mem.Blk w g ty cs) (hcs : cs.toList = c ++ d) (hg : g ∉ X) (h : K.R w X x c) (h' : K.R w X y d) : SlR K w X [x, y] (some ⟨g, 0, none⟩) 2 2 := by
  refine SlR.lit (l := [x, y]) [c, d] hB hg (by simpa using hcs) rfl (fun i z e hy hd => ?_) 2 rfl (by decide)
  match i, hy, hd with
  | 0, hy, hd => simp at hy hd; subst hy; subst hd; exact h
  | 1, hy, hd => simp at hy hd; subst hy; subst hd; exact h'
  | k + 2, hy, _ => simp at hy
/-- Four cells are stored where an answer lies; what is answered keeps out of there. -/
theorem ret4E {w w1 : World} {g : Nat} {X : List Nat} {ty : TypeId} {e : Ex} {b0 b1 b2 b3 c0 c1 c2 c3 : Value} (hb : Below w.heap.size w w1) (hg : w.heap.size ≤ g) (hB : Mem.Blk w1 g ty #[b0, b1, b2, b3]) (hR : RepE w1 (g :: X) e [c0, c1, c2, c3]) :
    RepE ((((w1.setCell ⟨g, 0, none⟩ c0).setCell ⟨g, 1, none⟩ c1).setCell ⟨g, 2, none⟩ c2).setCell ⟨g, 3, none⟩ c3) X e [c0, c1, c2, c3] ∧ Below w.heap.size w ((((w1.setCell ⟨g, 0, none⟩ c0).setCell ⟨g, 1, none⟩ c1).setCell ⟨g, 2, none⟩ c2).setCell ⟨g, 3, none⟩ c3) ∧
    Mem.Blk ((((w1.setCell ⟨g, 0, none⟩ c0).setCell ⟨g, 1, none⟩ c1).setCell ⟨g, 2, none⟩ c2).setCell ⟨g, 3, none⟩ c3) g ty #[c0, c1, c2, c3] := by
  have k4 : Kept (g :: X) w1 ((((w1.setCell ⟨g, 0, none⟩ c0).setCell ⟨g, 1, none⟩ c1).setCell ⟨g, 2, none⟩ c2).setCell ⟨g, 3, none⟩ c3) := (((Kept.setCell w1 (by simp) _).trans (Kept.setCell _ (by simp) _)).trans (Kept.setCell _ (by simp) _)).trans (Kept.setCell _ (by simp) _)
  exact ⟨(hR.kept k4).less (fun b _ hm => List.mem_cons_of_mem _ hm), (((hb.setCell hg _).setCell hg _).setCell hg _).setCell hg _, (((hB.set_ 0 _).set_ 1 _).set_ 2 _).set_ 3 _⟩
theorem ret4T {w w1 : World} {g : Nat} {X : List Nat} {ty : TypeId} {e : Te} {b0 b1 b2 b3 c0 c1 c2 c3 : Value} (hb : Below w.heap.size w w1) (hg : w.heap.size ≤ g) (hB : Mem.Blk w1 g ty #[b0, b1, b2, b3]) (hR : RepT w1 (g :: X) e [c0, c1, c2, c3]) :
    RepT ((((w1.setCell ⟨g, 0, none⟩ c0).setCell ⟨g, 1, none⟩ c1).setCell ⟨g, 2, none⟩ c2).setCell ⟨g, 3, none⟩ c3) X e [c0, c1, c2, c3] ∧ Below w.heap.size w ((((w1.setCell ⟨g, 0, none⟩ c0).setCell ⟨g, 1, none⟩ c1).setCell ⟨g, 2, none⟩ c2).setCell ⟨g, 3, none⟩ c3) ∧
    Mem.Blk ((((w1.setCell ⟨g, 0, none⟩ c0).setCell ⟨g, 1, none⟩ c1).setCell ⟨g, 2, none⟩ c2).setCell ⟨g, 3, none⟩ c3) g ty #[c0, c1, c2, c3] := by
  have k4 : Kept (g :: X) w1 ((((w1.setCell ⟨g, 0, none⟩ c0).setCell ⟨g, 1, none⟩ c1).setCell ⟨g, 2, none⟩ c2).setCell ⟨g, 3, none⟩ c3) := (((Kept.setCell w1 (by simp) _).trans (Kept.setCell _ (by simp) _)).trans (Kept.setCell _ (by simp) _)).trans (Kept.setCell _ (by simp) _)
  exact ⟨(hR.kept k4).less (fun b _ hm => List.mem_cons_of_mem _ hm), (((hb.setCell hg _).setCell hg _).setCell hg _).setCell hg _, (((hB.set_ 0 _).set_ 1 _).set_ 2 _).set_ 3 _⟩
end Go.Proofs.Ytefpjdgfcgjbaaa

/- Slices of texts, read as bytes. -/
namespace Go.Proofs.Ytefpjdgfcgjbaaa
set_option linter.unusedVariables false
set_option linter.unusedSimpArgs false
open Go.RowKit
/-- A text as its bytes. -/
def strK : Elt (List UInt8) where
  sz := 1
  pos := by decide
  R := fun _ _ s cs => cs = [encStr s]
  kept := fun h _ => h
  less := fun h _ => h
  one := fun h => by subst h; exact ⟨rfl, by simp [encStr, Value.oneCell']⟩
theorem below_dN {B : Nat} {a w : World} (h : Below B a w) (n : Nat) : Below B a (w.drewN n) := ⟨h.os, h.tape, h.output, h.size, h.block⟩
end Go.Proofs.Ytefpjdgfcgjbaaa

/- A disk's files and the map that holds them: plain. -/
namespace Go.Proofs.Ytefpjdgfcgjbaaa
set_option linter.unusedVariables false
set_option linter.unusedSimpArgs false
open Go.RowKit
abbrev Nm := List UInt8
structure Fi where
  name : Nm
  data : ByteArray
  safe : Nat
  blk : Nat
def findF (fs : List Fi) (t : Nm) : Option Fi := fs.find? (fun f => f.name == t)
def insF (f : Fi) : List Fi → List Fi
  | [] => [f]
  | g :: t => if f.name < g.name then f :: g :: t else g :: insF f t
def delF (t : Nm) (fs : List Fi) : List Fi := fs.filter (fun f => !(f.name == t))
def updF (t : Nm) (h : Fi → Fi) (fs : List Fi) : List Fi := fs.map (fun f => if f.name == t then h f else f)
def sumD (fs : List Fi) : Nat := (fs.map (fun f => f.data.size)).sum
def UpF (fs : List Fi) : Prop := fs.Pairwise (fun f g => f.name < g.name)
theorem findF_mem {fs : List Fi} {t : Nm} {f : Fi} (h : findF fs t = some f) : f ∈ fs ∧ f.name = t := by
  unfold findF at h
  exact ⟨List.mem_of_find?_eq_some h, by have := List.find?_some h; simpa using this⟩
theorem findF_none {fs : List Fi} {t : Nm} (h : findF fs t = none) : ∀ f ∈ fs, f.name ≠ t := by
  unfold findF at h
  intro f hf
  have := List.find?_eq_none.1 h f hf
  simpa using this
theorem findF_of {fs : List Fi} (hu : UpF fs) {f : Fi} (hf : f ∈ fs) : findF fs f.name = some f := by
  cases h : findF fs f.name with
  | none => exact absurd rfl (findF_none h f hf)
  | some g =>
    obtain ⟨h1, h2⟩ := findF_mem h
    congr 1
    exact up_inj hu h1 hf h2
where
  up_inj {fs : List Fi} (hu : UpF fs) {f g : Fi} (hf : f ∈ fs) (hg : g ∈ fs) (e : f.name = g.name) : f = g := by
    induction fs with
    | nil => cases hf
    | cons x t ih =>
      unfold UpF at hu
      rw [List.pairwise_cons] at hu
      rcases List.mem_cons.1 hf with h1 | h1
      · rcases List.mem_cons.1 hg with h2 | h2
        · rw [h1, h2]
        · have h3 := hu.1 g h2
          rw [← h1, e] at h3
          exact absurd h3 (List.lt_irrefl _)
      · rcases List.mem_cons.1 hg with h2 | h2
        · have h3 := hu.1 f h1
          rw [← h2, ← e] at h3
          exact absurd h3 (List.lt_irrefl _)
        · exact ih hu.2 h1 h2
theorem insF_perm (f : Fi) : ∀ fs : List Fi, (insF f fs).Perm (f :: fs)
  | [] => .refl _
  | g :: t => by
    unfold insF
    split
    · exact .refl _
    · exact ((insF_perm f t).cons g).trans (.swap ..)
theorem mem_insF {f x : Fi} {fs : List Fi} : x ∈ insF f fs ↔ x = f ∨ x ∈ fs := by rw [(insF_perm f fs).mem_iff, List.mem_cons]
theorem insF_up {f : Fi} {fs : List Fi} (h : UpF fs) (hn : ∀ g ∈ fs, g.name ≠ f.name) : UpF (insF f fs) := by
  unfold UpF at h ⊢
  induction fs with
  | nil => exact List.pairwise_singleton ..
  | cons g t ih =>
    rw [List.pairwise_cons] at h
    unfold insF
    by_cases hlt : f.name < g.name
    · rw [if_pos hlt, List.pairwise_cons, List.pairwise_cons]
      refine ⟨fun y hy => ?_, h⟩
      rcases List.mem_cons.1 hy with rfl | hy
      · exact hlt
      · exact List.lt_trans hlt (h.1 y hy)
    · rw [if_neg hlt, List.pairwise_cons]
      have hgf : g.name < f.name := by
        by_cases h1 : g.name < f.name
        · exact h1
        · exact absurd (List.le_antisymm (List.not_lt.1 hlt) (List.not_lt.1 h1)) (hn g (List.mem_cons_self ..))
      refine ⟨fun y hy => ?_, ih h.2 (fun x hx => hn x (List.mem_cons_of_mem _ hx))⟩
      rcases mem_insF.1 hy with rfl | hy
      · exact hgf
      · exact h.1 y hy
theorem delF_up {t : Nm} {fs : List Fi} (h : UpF fs) : UpF (delF t fs) := List.Pairwise.filter _ h
theorem mem_delF {t : Nm} {fs : List Fi} {f : Fi} : f ∈ delF t fs ↔ f ∈ fs ∧ f.name ≠ t := by unfold delF; rw [List.mem_filter]; simp
theorem updF_up {t : Nm} {h : Fi → Fi} {fs : List Fi} (hu : UpF fs) (hh : ∀ f, (h f).name = f.name) : UpF (updF t h fs) := by
  unfold UpF updF at *
  rw [List.pairwise_map]
  refine hu.imp (fun {f g} hlt => ?_)
  have e : ∀ x : Fi, (if x.name == t then h x else x).name = x.name := fun x => by split <;> simp [hh]
  rw [e, e]; exact hlt
theorem findF_ins {f : Fi} {fs : List Fi} {t : Nm} (hu : UpF fs) (hn : ∀ g ∈ fs, g.name ≠ f.name) : findF (insF f fs) t = if f.name = t then some f else findF fs t := by
  by_cases h : f.name = t
  · rw [if_pos h, ← h]
    exact findF_of (insF_up hu hn) (mem_insF.2 (.inl rfl))
  · rw [if_neg h]
    cases hx : findF fs t with
    | some g =>
      obtain ⟨h1, h2⟩ := findF_mem hx
      rw [← h2]
      exact findF_of (insF_up hu hn) (mem_insF.2 (.inr h1))
    | none =>
      cases hy : findF (insF f fs) t with
      | none => rfl
      | some g =>
        obtain ⟨h1, h2⟩ := findF_mem hy
        rcases mem_insF.1 h1 with rfl | h1
        · exact absurd h2 h
        · exact absurd h2 (findF_none hx g h1)
theorem findF_del {fs : List Fi} {s t : Nm} (hu : UpF fs) : findF (delF s fs) t = if s = t then none else findF fs t := by
  by_cases h : s = t
  · subst h
    rw [if_pos rfl]
    cases hx : findF (delF s fs) s with
    | none => rfl
    | some g =>
      obtain ⟨h1, h2⟩ := findF_mem hx
      exact absurd h2 (mem_delF.1 h1).2
  · rw [if_neg h]
    cases hx : findF fs t with
    | some g =>
      obtain ⟨h1, h2⟩ := findF_mem hx
      rw [← h2]
      exact findF_of (delF_up hu) (mem_delF.2 ⟨h1, by rw [h2]; exact fun e => h e.symm⟩)
    | none =>
      cases hy : findF (delF s fs) t with
      | none => rfl
      | some g =>
        obtain ⟨h1, h2⟩ := findF_mem hy
        exact absurd h2 (findF_none hx g (mem_delF.1 h1).1)
theorem findF_upd {fs : List Fi} {s t : Nm} {h : Fi → Fi} (hh : ∀ f, (h f).name = f.name) : findF (updF s h fs) t = (findF fs t).map (fun f => if f.name == s then h f else f) := by
  unfold findF updF
  induction fs with
  | nil => rfl
  | cons f l ih =>
    rw [List.map_cons, List.find?_cons, List.find?_cons]
    have e : ((if f.name == s then h f else f).name == t) = (f.name == t) := by split <;> simp [hh]
    rw [e]
    cases f.name == t
    · exact ih
    · rfl
/-- The datum of a map reads as these files: the name, and where the file lies. -/
def litB (b : Nat) : DataW Unit := .lit (.int .i64 b)
def MapOf (fs : List Fi) (D : DataW Unit) : Prop := ∃ es, D = .map es ∧ es.Perm (fs.map (fun f => (Lit.string f.name, litB f.blk)))
theorem key_str (t : Nm) : WideAt.IsKeyLit (Lit.string t) := by simp [WideAt.IsKeyLit]
theorem same_str (s t : Nm) : (Lit.string s).sameKey (Lit.string t) = (s == t) := by
  cases h : (Lit.string s).sameKey (Lit.string t) with
  | true => have := WideAt.sameKey_eq h; injection this with this; subst this; simp
  | false =>
    cases h2 : s == t with
    | false => rfl
    | true =>
      have e : s = t := by simpa using h2
      subst e
      rw [WideAt.sameKey_self (key_str s)] at h; cases h
theorem MapOf.nil : MapOf [] (.map []) := ⟨[], rfl, .refl _⟩
theorem MapOf.has {fs : List Fi} {D : DataW Unit} (h : MapOf fs D) (t : Nm) : Maps.has D (.string t) = (findF fs t).isSome := by
  obtain ⟨es, rfl, hp⟩ := h
  show es.any (fun p => p.1.sameKey (.string t)) = _
  rw [hp.any_eq, List.any_map]
  unfold findF
  rw [List.isSome_find?]
  first | rfl | (congr 1; funext f; exact same_str _ _)
theorem MapOf.size {fs : List Fi} {D : DataW Unit} (h : MapOf fs D) : Maps.size D = fs.length := by
  obtain ⟨es, rfl, hp⟩ := h
  show es.length = _
  rw [hp.length_eq, List.length_map]
theorem MapOf.keys {fs : List Fi} {D : DataW Unit} (h : MapOf fs D) : (Go.strKeys D).Perm (fs.map (fun f => f.name)) := by
  obtain ⟨es, rfl, hp⟩ := h
  show (es.map (fun p => Go.strOf p.1)).Perm _
  refine (hp.map _).trans ?_
  rw [List.map_map]
  exact .refl _
theorem MapOf.at_some {fs : List Fi} {D : DataW Unit} (h : MapOf fs D) (hu : UpF fs) {t : Nm} {f : Fi} (hf : findF fs t = some f) (z : DataW Unit) : D.atKey (.string t) z = litB f.blk := by
  obtain ⟨es, rfl, hp⟩ := h
  obtain ⟨h1, h2⟩ := findF_mem hf
  simp only [DataW.atKey]
  have hm : (Lit.string t, litB f.blk) ∈ es := hp.mem_iff.2 (List.mem_map.2 ⟨f, h1, by rw [h2]⟩)
  cases hx : es.find? (fun p => p.1.sameKey (.string t)) with
  | none =>
    have := List.find?_eq_none.1 hx _ hm
    rw [WideAt.sameKey_self (key_str t)] at this
    exact absurd rfl this
  | some q =>
    have hq := List.mem_of_find?_eq_some hx
    have hk := List.find?_some hx
    obtain ⟨g, hg, rfl⟩ := List.mem_map.1 (hp.mem_iff.1 hq)
    rw [same_str] at hk
    have e : g.name = t := by simpa using hk
    have := findF_of hu hg
    rw [e, hf] at this
    injection this with this
    subst this; rfl
theorem MapOf.at_none {fs : List Fi} {D : DataW Unit} (h : MapOf fs D) {t : Nm} (hf : findF fs t = none) (z : DataW Unit) : D.atKey (.string t) z = z :=
  Maps.atKey_of_not_has (by rw [h.has, hf]; rfl) z
theorem MapOf.del {fs : List Fi} {D : DataW Unit} (h : MapOf fs D) (t : Nm) : MapOf (delF t fs) (D.del (.string t)) := by
  obtain ⟨es, rfl, hp⟩ := h
  refine ⟨es.filter (fun p => !p.1.sameKey (.string t)), rfl, (hp.filter _).trans ?_⟩
  rw [List.filter_map]
  unfold delF
  have e : ((fun p : Lit × DataW Unit => !p.1.sameKey (.string t)) ∘ fun f : Fi => (Lit.string f.name, litB f.blk)) = fun f : Fi => !(f.name == t) := by
    funext f
    show (!(Lit.string f.name).sameKey (.string t)) = _
    rw [same_str]
  rw [e]
theorem MapOf.put {fs fs' : List Fi} {D : DataW Unit} (h : MapOf fs D) {f : Fi} (hp' : fs'.Perm (f :: delF f.name fs)) : MapOf fs' (D.put (.string f.name) (litB f.blk)) := by
  obtain ⟨es, rfl, hp⟩ := h
  refine ⟨_, rfl, (WideShapes.insert_perm (Lit.string f.name, litB f.blk) _).trans ?_⟩
  obtain ⟨es2, he2, hq⟩ := MapOf.del ⟨es, rfl, hp⟩ f.name
  have e : es2 = es.filter (fun p => !p.1.sameKey (.string f.name)) := by
    have h2 : (DataW.map es).del (.string f.name) = .map (es.filter (fun p => !p.1.sameKey (.string f.name))) := rfl
    rw [h2] at he2
    injection he2 with he2; exact he2.symm
  rw [← e]
  refine (hq.cons _).trans ?_
  refine List.Perm.trans ?_ (hp'.map _).symm
  rw [List.map_cons]
theorem delF_none {fs : List Fi} {t : Nm} (h : findF fs t = none) : delF t fs = fs := by
  unfold delF
  refine List.filter_eq_self.2 (fun f hf => ?_)
  have := findF_none h f hf
  simpa using this
theorem delF_perm {fs : List Fi} (hu : UpF fs) {f : Fi} (hf : f ∈ fs) : fs.Perm (f :: delF f.name fs) := by
  induction fs with
  | nil => cases hf
  | cons x t ih =>
    have hu' := hu
    unfold UpF at hu
    rw [List.pairwise_cons] at hu
    by_cases hx : x.name = f.name
    · obtain rfl : x = f := findF_of.up_inj hu' (List.mem_cons_self ..) hf hx
      have e : delF x.name (x :: t) = t := by
        unfold delF
        rw [List.filter_cons]
        simp only [beq_self_eq_true, Bool.not_true, Bool.false_eq_true, if_false]
        refine List.filter_eq_self.2 (fun g hg => ?_)
        have h1 := hu.1 g hg
        have : g.name ≠ x.name := fun e => List.lt_irrefl _ (e ▸ h1)
        simpa using this
      rw [e]
    · have hft : f ∈ t := (List.mem_cons.1 hf).resolve_left (fun e => hx (by rw [e]))
      have e : delF f.name (x :: t) = x :: delF f.name t := by
        unfold delF
        rw [List.filter_cons]
        have : (x.name == f.name) = false := by simpa using hx
        rw [this]; rfl
      rw [e]
      exact ((ih hu.2 hft).cons x).trans (.swap ..)
theorem sumD_perm {a b : List Fi} (h : a.Perm b) : sumD a = sumD b := (h.map _).sum_nat
theorem sumD_cons (f : Fi) (t : List Fi) : sumD (f :: t) = f.data.size + sumD t := by unfold sumD; rw [List.map_cons, List.sum_cons]
end Go.Proofs.Ytefpjdgfcgjbaaa

/- A disk in memory; what a call leaves of it. -/
namespace Go.Proofs.Ytefpjdgfcgjbaaa
set_option linter.unusedVariables false
set_option linter.unusedSimpArgs false
open Go.RowKit
structure St where
  room : Int
  used : Int
  written : Int
  calls : Int
  left : Int
  off : Bool
  armed : Bool
  fs : List Fi
  mb : Nat
  mn : Nat
def dkC (s : St) : Array Value := #[.int .i64 s.room, .map (some s.mb), .int .i64 s.used, .int .i64 s.written, .int .i64 s.calls, .bool s.off, .bool s.armed, .int .i64 s.left]
/-- How a pointer to a file reads: as where it lies. -/
def ptrR : Value → Option (DataW Unit × List MemPlace)
  | .pointer none => some (.nil, [])
  | .pointer (some ⟨b, 0, none⟩) => some (litB b, [])
  | _ => none
theorem ptrR_inv {v : Value} {b : Nat} {ps : List MemPlace} (h : ptrR v = some (litB b, ps)) : v = .pointer (some ⟨b, 0, none⟩) := by
  unfold ptrR at h
  split at h
  · injection h with h; injection h with h _; cases h
  · injection h with h; injection h with h _
    unfold litB at h
    injection h with h; injection h with _ h
    have h2 := Int.ofNat_inj.1 h
    subst h2; rfl
  · cases h
theorem ptrR_nil {v : Value} {ps : List MemPlace} (h : ptrR v = some (.nil, ps)) : v = .pointer none := by
  unfold ptrR at h
  split at h
  · rfl
  · injection h with h; injection h with h _; cases h
  · cases h
def flC (f : Fi) : Array Value := #[.string f.data, .int .i64 (f.safe : Nat)]
def dks (p : Nat) (s : St) : List Nat := p :: s.mb :: s.fs.map (fun f => f.blk)
/-- What is right of a disk, whatever its memory. -/
structure StOk (s : St) : Prop where
  one : (s.fs.map (fun f => f.blk)).Nodup
  up : UpF s.fs
  nam : ∀ f ∈ s.fs, 1 ≤ f.name.length ∧ f.name.length ≤ 24
  siz : ∀ f ∈ s.fs, f.data.size ≤ 1048576 ∧ f.safe ≤ f.data.size
  use : s.used = (sumD s.fs : Nat)
  rm : 0 ≤ s.room ∧ s.room ≤ 16777216 ∧ s.used ≤ s.room
  lf : 0 ≤ s.left ∧ s.left ≤ 9223372036854775807
  wr : 0 ≤ s.written ∧ 0 ≤ s.calls
structure DkAt (w : World) (p : Nat) (s : St) : Prop where
  ptr : Mem.Blk w p 64 (dkC s)
  map : ∃ D, w.ownsMap Try.prog 9 ptrR s.mb s.mn D ∧ MapOf s.fs D
  fil : ∀ f ∈ s.fs, Mem.Blk w f.blk 69 (flC f)
  ok : StOk s
theorem blk_type {w : World} {g : Nat} {t t' : TypeId} {cs cs' : Array Value} (h : Mem.Blk w g t cs) (h' : Mem.Blk w g t' cs') : t = t' := by
  unfold Mem.Blk at h h'
  rw [h] at h'
  injection h' with h'; injection h'
theorem blk_map {w : World} {g n : Nat} {t : TypeId} {cs : Array Value} {P : Program} {k : TypeId} {R : Value → Option (DataW Unit × List MemPlace)} {D : DataW Unit} (h : Mem.Blk w g t cs) (h' : w.ownsMap P k R g n D) : False := by
  obtain ⟨es, clock, hb, -⟩ := h'
  unfold Mem.Blk at h
  rw [h] at hb
  cases hb
section
variable {w w' w'' : World} {p : Nat} {s s' s'' : St}
theorem DkAt.mp (h : DkAt w p s) : s.mb ≠ p := by
  intro e
  obtain ⟨D, hD, -⟩ := h.map
  rw [e] at hD
  exact blk_map h.ptr hD
theorem DkAt.fp (h : DkAt w p s) {f : Fi} (hf : f ∈ s.fs) : f.blk ≠ p := by
  intro e
  have h1 := h.fil f hf
  rw [e] at h1
  exact absurd (blk_type h1 h.ptr) (by decide)
theorem DkAt.fm (h : DkAt w p s) {f : Fi} (hf : f ∈ s.fs) : f.blk ≠ s.mb := by
  intro e
  obtain ⟨D, hD, -⟩ := h.map
  have h1 := h.fil f hf
  rw [e] at h1
  exact blk_map h1 hD
theorem DkAt.lt (h : DkAt w p s) : ∀ b ∈ dks p s, b < w.heap.size := by
  intro b hb
  rcases List.mem_cons.1 hb with rfl | hb
  · exact h.ptr.lt
  rcases List.mem_cons.1 hb with rfl | hb
  · obtain ⟨D, hD, -⟩ := h.map; exact hD.lt
  · obtain ⟨f, hf, rfl⟩ := List.mem_map.1 hb
    exact (h.fil f hf).lt
/-- What a call that works on the disk leaves: all other blocks stay, and what the disk has now it had, or it is new. -/
structure DkStep (p : Nat) (s s' : St) (w w' : World) : Prop where
  fr : Fr (dks p s) w w'
  own : ∀ b ∈ dks p s', b ∈ dks p s ∨ w.heap.size ≤ b
theorem DkStep.refl (p : Nat) (s : St) (w : World) : DkStep p s s w w := ⟨Fr.refl _ _, fun b hb => .inl hb⟩
theorem DkStep.trans (h : DkStep p s s' w w') (k : DkStep p s' s'' w' w'') : DkStep p s s'' w w'' := by
  have hz := h.fr.size
  refine ⟨((h.fr.more (X' := dks p s ++ dks p s') (fun b hb => List.mem_append.2 (.inl hb))).trans (k.fr.more (fun b hb => List.mem_append.2 (.inr hb)))).fresh (fun b hb => ?_), fun b hb => ?_⟩
  · rcases List.mem_append.1 hb with hb | hb
    · exact .inl hb
    · exact h.own b hb
  · rcases k.own b hb with hb | hb
    · exact h.own b hb
    · exact .inr (by omega)
theorem DkAt.below (h : DkAt w p s) (b : Below w.heap.size w w') : DkAt w' p s := by
  refine ⟨h.ptr.below b, ?_, fun f hf => (h.fil f hf).below b, h.ok⟩
  obtain ⟨D, hD, hM⟩ := h.map
  exact ⟨D, (Fr.of_below b []).map hD (by simp), hM⟩
/-- What else is written stays out of the disk. -/
theorem DkAt.fr {X : List Nat} (h : DkAt w p s) (b : Fr X w w') (hX : ∀ g ∈ X, g ∉ dks p s) : DkAt w' p s := by
  have hn : ∀ g ∈ dks p s, g ∉ X := fun g hg hx => hX g hx hg
  refine ⟨b.blk h.ptr (hn p (List.mem_cons_self ..)), ?_, fun f hf => b.blk (h.fil f hf) (hn f.blk (List.mem_cons_of_mem _ (List.mem_cons_of_mem _ (List.mem_map.2 ⟨f, hf, rfl⟩)))), h.ok⟩
  obtain ⟨D, hD, hM⟩ := h.map
  exact ⟨D, b.map hD (hn s.mb (List.mem_cons_of_mem _ (List.mem_cons_self ..))), hM⟩
theorem DkStep.below (b : Below w.heap.size w w') : DkStep p s s w w' := ⟨Fr.of_below b _, fun b hb => .inl hb⟩
/-- Only the disk's own cells turn. -/
theorem DkAt.turn (h : DkAt w p s) (k : Fr [p] w w') (hp : Mem.Blk w' p 64 (dkC s')) (e1 : s'.fs = s.fs) (e2 : s'.mb = s.mb) (e3 : s'.mn = s.mn) (ok : StOk s') : DkAt w' p s' ∧ DkStep p s s' w w' := by
  refine ⟨⟨hp, ?_, ?_, ok⟩, k.more (fun b hb => by rw [List.mem_singleton] at hb; subst hb; exact List.mem_cons_self ..), fun b hb => ?_⟩
  · obtain ⟨D, hD, hM⟩ := h.map
    rw [e1, e2, e3]
    exact ⟨D, k.map hD (by simpa using h.mp), hM⟩
  · rw [e1]
    exact fun f hf => k.blk (h.fil f hf) (by simpa using h.fp hf)
  · unfold dks at hb ⊢
    rw [e1, e2] at hb
    exact .inl hb
end
theorem dk8 {w : World} {p : Nat} {s : St} (h : Mem.Blk w p 64 (dkC s)) : w.cell? ⟨p, 0, none⟩ = some (.int .i64 s.room) ∧ w.cell? ⟨p, 1, none⟩ = some (.map (some s.mb)) ∧ w.cell? ⟨p, 2, none⟩ = some (.int .i64 s.used) ∧ w.cell? ⟨p, 3, none⟩ = some (.int .i64 s.written) ∧ w.cell? ⟨p, 4, none⟩ = some (.int .i64 s.calls) ∧ w.cell? ⟨p, 5, none⟩ = some (.bool s.off) ∧ w.cell? ⟨p, 6, none⟩ = some (.bool s.armed) ∧ w.cell? ⟨p, 7, none⟩ = some (.int .i64 s.left) :=
  ⟨h.cell 0, h.cell 1, h.cell 2, h.cell 3, h.cell 4, h.cell 5, h.cell 6, h.cell 7⟩
theorem dkF {w : World} {p : Nat} {t : TypeId} {cs : Array Value} (h : Mem.Blk w p t cs) : w.frozen? ⟨p, 0, none⟩ = false ∧ w.frozen? ⟨p, 1, none⟩ = false ∧ w.frozen? ⟨p, 2, none⟩ = false ∧ w.frozen? ⟨p, 3, none⟩ = false ∧ w.frozen? ⟨p, 4, none⟩ = false ∧ w.frozen? ⟨p, 5, none⟩ = false ∧ w.frozen? ⟨p, 6, none⟩ = false ∧ w.frozen? ⟨p, 7, none⟩ = false :=
  ⟨h.frozen 0, h.frozen 1, h.frozen 2, h.frozen 3, h.frozen 4, h.frozen 5, h.frozen 6, h.frozen 7⟩
/-- What an operation answers at once. -/
def badN (t : Nm) : Bool := t.isEmpty || decide (24 < t.length)
def beginS (s : St) (ns : List Nm) : Int × St :=
  if s.off then (6, s) else
  if s.armed = true ∧ s.left = 0 then (6, { s with calls := s.calls + 1, off := true }) else
  (if ns.any badN then 1 else 0, { s with calls := s.calls + 1, left := if s.armed then s.left - 1 else s.left })
end Go.Proofs.Ytefpjdgfcgjbaaa

/- A text of a slice of texts. -/
namespace Go.Proofs.Ytefpjdgfcgjbaaa
set_option linter.unusedVariables false
set_option linter.unusedSimpArgs false
open Go.RowKit
theorem str_at {w : World} {X : List Nat} {L : List (List UInt8)} {a : Option Addr} {len cap : Nat} (h : SlR strK w X L a len cap) (k : Nat) (hk : k < len) : ∃ b o s, a = some ⟨b, o, none⟩ ∧ L[k]? = some s ∧ w.cell? ⟨b, o + k, none⟩ = some (.string ⟨s.toArray⟩) := by
  obtain ⟨b, o, s, cs, ha, -, -, hs, hR, -, hc⟩ := h.at k hk
  have hR' : cs = [encStr s] := hR
  subst hR'
  refine ⟨b, o, s, ha, hs, ?_⟩
  have := hc 0 _ rfl
  simpa [strK, encStr] using this
end Go.Proofs.Ytefpjdgfcgjbaaa

/- The contract of begin. -/
namespace Go.Proofs.Ytefpjdgfcgjbaaa
set_option linter.unusedVariables false
set_option linter.unusedSimpArgs false
open Go.RowKit
set_option maxRecDepth 100000 in
set_option maxHeartbeats 4000000 in
theorem begin_any (p : Nat) (s : St) (ns : List Nm) (a : Option Addr) (n c : Nat) (w : World) (hD : DkAt w p s) (hN : SlR strK w [p] ns a n c) (hb : s.calls ≤ 4611686018427387904) (hn : n ≤ 1000) :
    Calls Try.prog 33 #[.pointer (some ⟨p, 0, none⟩), .slice a n c] w fun x w' => x = .returned (.int .i64 (beginS s ns).1) ∧ DkAt w' p (beginS s ns).2 ∧ DkStep p s (beginS s ns).2 w w' := by
  have HD := Lib.hid hD
  have HN := Lib.hid hN
  have hOK := hD.ok
  obtain ⟨c0, c1, c2, c3, c4, c5, c6, c7⟩ := dk8 hD.ptr
  obtain ⟨f0, f1, f2, f3, f4, f5, f6, f7⟩ := dkF hD.ptr
  have HO := Lib.hid hOK
  have hlf := hOK.lf
  have hwr := hOK.wr
  obtain ⟨R, hR⟩ : ∃ R, R = beginS s ns := ⟨_, rfl⟩
  have HR := Lib.hid hR
  rw [← hR]
  clear hR hD hN hOK
  obtain ⟨room, used, written, calls, left, off, armed, fs, mb, mn⟩ := s
  dsimp only at c0 c1 c2 c3 c4 c5 c6 c7 hb hlf hwr
  cases off with
  | true =>
    obtain rfl : R = (6, _) := HR.out
    have HF := Lib.hid (DkStep.refl p (⟨room, used, written, calls, left, true, armed, fs, mb, mn⟩ : St) w)
    clear HR hlf hwr hb HO
    go_enter Try.func33, Try.ntmps33
    go_wp2_with fail
    go_ret
    exact ⟨rfl, HD.out, HF.out⟩
  | false =>
    have hc1 : IntKind.i64.wrap (calls + 1) = calls + 1 := IntWalk.i64_in _ (by omega)
    cases armed with
    | true =>
      by_cases hl0 : left = 0
      · subst hl0
        obtain rfl : R = (6, { room := room, used := used, written := written, calls := calls + 1, left := 0, off := true, armed := true, fs := fs, mb := mb, mn := mn }) := HR.out
        have HT : Hid (DkAt _ p _ ∧ DkStep p _ _ w _) := HD.out.turn (s' := { room := room, used := used, written := written, calls := calls + 1, left := 0, off := true, armed := true, fs := fs, mb := mb, mn := mn }) (w' := (w.setCell ⟨p, 4, none⟩ (.int .i64 (calls + 1))).setCell ⟨p, 5, none⟩ (.bool true)) ((Fr.setCell w (by simp) _).trans (Fr.setCell _ (by simp) _)) ((HD.out.ptr.set_ 4 _).set_ 5 _) rfl rfl rfl ⟨HO.out.one, HO.out.up, HO.out.nam, HO.out.siz, HO.out.use, HO.out.rm, HO.out.lf, ⟨hwr.1, by show 0 ≤ calls + 1; omega⟩⟩
        clear HR hlf hwr hb HO HD
        go_enter Try.func33, Try.ntmps33
        go_wp2_with fail
        go_ret
        exact ⟨rfl, HT.out⟩
      · have hl0b : (left == 0) = false := beq_eq_false_iff_ne.2 hl0
        have hl1 : IntKind.i64.wrap (left - 1) = left - 1 := IntWalk.i64_in _ (by omega)
        have HR2 : Hid (R = (if ns.any badN then 1 else 0, ({ room := room, used := used, written := written, calls := calls + 1, left := left - 1, off := false, armed := true, fs := fs, mb := mb, mn := mn } : St))) := by
          show R = _
          rw [HR.out]
          unfold beginS
          simp [hl0]
        have HT : Hid (DkAt _ p _ ∧ DkStep p _ _ w _) := HD.out.turn (s' := { room := room, used := used, written := written, calls := calls + 1, left := left - 1, off := false, armed := true, fs := fs, mb := mb, mn := mn }) (w' := (w.setCell ⟨p, 4, none⟩ (.int .i64 (calls + 1))).setCell ⟨p, 7, none⟩ (.int .i64 (left - 1))) ((Fr.setCell w (by simp) _).trans (Fr.setCell _ (by simp) _)) ((HD.out.ptr.set_ 4 _).set_ 7 _) rfl rfl rfl ⟨HO.out.one, HO.out.up, HO.out.nam, HO.out.siz, HO.out.use, HO.out.rm, ⟨by show 0 ≤ left - 1; omega, by show left - 1 ≤ _; omega⟩, ⟨hwr.1, by show 0 ≤ calls + 1; omega⟩⟩
        have HN2 := Lib.hid (HN.out.kept (((Fr.setCell w (X := [p]) (p := ⟨p, 4, none⟩) (by simp) (.int .i64 (calls + 1))).trans (Fr.setCell _ (p := ⟨p, 7, none⟩) (by simp) (.int .i64 (left - 1)))).kept))
        clear HR hlf hwr hb HO HD HN
        go_enter Try.func33, Try.ntmps33
        go_upto_region 11 with (fail)
        generalize ((w.setCell ⟨p, 4, none⟩ (.int .i64 (calls + 1))).setCell ⟨p, 7, none⟩ (.int .i64 (left - 1))) = w1 at *
        clear c0 c1 c2 c3 c4 c5 c6 c7 f0 f1 f2 f3 f4 f5 f6 f7
        have hlen := HN2.out.facts.1
        have HLEN := Lib.hid hlen
        clear hlen
        go_wp2_with fail
        go_loopw [43] (fun i wr => ∃ (k : Nat), i = .int .i64 (k : Nat) ∧ k ≤ n ∧ wr = w1 ∧ Hid (∀ j t, j < k → ns[j]? = some t → badN t = false)) (fun i _ => n - (intOf i).toNat)
        case atStart => exact ⟨0, rfl, Nat.zero_le _, rfl, fun j t h => absurd h (by omega)⟩
        case round =>
          obtain ⟨k, rfl, hk, rfl, HG⟩ := hrel
          by_cases hlt : k < n
          · have hk' : (k : Int) < (n : Int) := by omega
            have i0 : (0 : Int) ≤ (k : Int) := by omega
            obtain ⟨b, o, t, rfl, ht, u0⟩ := str_at HN2.out k hlt
            have HTK := Lib.hid ht
            clear ht
            cases hbad : badN t with
            | true =>
              have HAN : Hid (ns.any badN = true) := List.any_eq_true.2 ⟨t, List.mem_of_getElem? HTK.out, hbad⟩
              have HRF := HR2.out
              rw [HAN.out] at HRF
              subst HRF
              clear HG HLEN HN2 HAN HTK
              cases t with
              | nil =>
                clear hbad
                go_wp2_with fail
                go_ret
                exact ⟨rfl, HT.out⟩
              | cons x t =>
                have hsz : (24 : Int) < ((x :: t).length : Int) := by
                  simp only [badN, List.isEmpty_cons, Bool.false_or, decide_eq_true_eq] at hbad
                  omega
                have e0 : (⟨(x :: t).toArray⟩ : ByteArray).toList.isEmpty = false := by rw [ByteArray.toList_mk]; rfl
                have e1 : (⟨(x :: t).toArray⟩ : ByteArray).size = (x :: t).length := rfl
                generalize (⟨(x :: t).toArray⟩ : ByteArray) = T at *
                generalize (x :: t).length = q at *
                clear hbad
                go_wp2_with fail
                go_ret
                exact ⟨rfl, HT.out⟩
            | false =>
              cases t with
              | nil => cases hbad
              | cons x t =>
                have hsz : ¬ (24 : Int) < ((x :: t).length : Int) := by
                  simp only [badN, List.isEmpty_cons, Bool.false_or, decide_eq_false_iff_not] at hbad
                  omega
                have HG2 : Hid (∀ j u, j < k + 1 → ns[j]? = some u → badN u = false) := by
                  intro j u hj hu
                  by_cases hjk : j < k
                  · exact HG.out j u hjk hu
                  · obtain rfl : j = k := by omega
                    rw [HTK.out] at hu; injection hu with hu; subst hu; exact hbad
                have e0 : (⟨(x :: t).toArray⟩ : ByteArray).toList.isEmpty = false := by rw [ByteArray.toList_mk]; rfl
                have e1 : (⟨(x :: t).toArray⟩ : ByteArray).size = (x :: t).length := rfl
                generalize (⟨(x :: t).toArray⟩ : ByteArray) = T at *
                generalize (x :: t).length = q at *
                clear hbad HTK HG HR2
                go_wp2_with fail
                go_roundw
                case rel => exact ⟨k + 1, by go_num, by omega, trivial, HG2.out⟩
                case measure => simp [intOf]; omega
          · have hk' : ¬ (k : Int) < (n : Int) := by omega
            have HAN : Hid (ns.any badN = false) := by
              refine List.any_eq_false.2 (fun t ht => ?_)
              obtain ⟨j, hj⟩ := List.getElem?_of_mem ht
              have := HG.out j t (by have := (List.getElem?_eq_some_iff.1 hj).1; have := HLEN.out; omega) hj
              rw [this]; simp
            have HRF := HR2.out
            rw [HAN.out] at HRF
            subst HRF
            clear HG HLEN HN2
            go_wp2_with fail
            go_ret
            exact ⟨rfl, HT.out⟩
    | false =>
      have HR2 : Hid (R = (if ns.any badN then 1 else 0, ({ room := room, used := used, written := written, calls := calls + 1, left := left, off := false, armed := false, fs := fs, mb := mb, mn := mn } : St))) := by
        show R = _
        rw [HR.out]
        unfold beginS
        simp
      have HT : Hid (DkAt _ p _ ∧ DkStep p _ _ w _) := HD.out.turn (s' := { room := room, used := used, written := written, calls := calls + 1, left := left, off := false, armed := false, fs := fs, mb := mb, mn := mn }) (w' := w.setCell ⟨p, 4, none⟩ (.int .i64 (calls + 1))) (Fr.setCell w (by simp) _) (HD.out.ptr.set_ 4 _) rfl rfl rfl ⟨HO.out.one, HO.out.up, HO.out.nam, HO.out.siz, HO.out.use, HO.out.rm, HO.out.lf, ⟨hwr.1, by show 0 ≤ calls + 1; omega⟩⟩
      have HN2 := Lib.hid (HN.out.kept ((Fr.setCell w (X := [p]) (p := ⟨p, 4, none⟩) (by simp) (.int .i64 (calls + 1))).kept))
      clear HR hlf hwr hb HO HD HN
      go_enter Try.func33, Try.ntmps33
      go_upto_region 11 with (fail)
      generalize (w.setCell ⟨p, 4, none⟩ (.int .i64 (calls + 1))) = w1 at *
      clear c0 c1 c2 c3 c4 c5 c6 c7 f0 f1 f2 f3 f4 f5 f6 f7
      have hlen := HN2.out.facts.1
      have HLEN := Lib.hid hlen
      clear hlen
      go_wp2_with fail
      go_loopw [43] (fun i wr => ∃ (k : Nat), i = .int .i64 (k : Nat) ∧ k ≤ n ∧ wr = w1 ∧ Hid (∀ j t, j < k → ns[j]? = some t → badN t = false)) (fun i _ => n - (intOf i).toNat)
      case atStart => exact ⟨0, rfl, Nat.zero_le _, rfl, fun j t h => absurd h (by omega)⟩
      case round =>
        obtain ⟨k, rfl, hk, rfl, HG⟩ := hrel
        by_cases hlt : k < n
        · have hk' : (k : Int) < (n : Int) := by omega
          have i0 : (0 : Int) ≤ (k : Int) := by omega
          obtain ⟨b, o, t, rfl, ht, u0⟩ := str_at HN2.out k hlt
          have HTK := Lib.hid ht
          clear ht
          cases hbad : badN t with
          | true =>
            have HAN : Hid (ns.any badN = true) := List.any_eq_true.2 ⟨t, List.mem_of_getElem? HTK.out, hbad⟩
            have HRF := HR2.out
            rw [HAN.out] at HRF
            subst HRF
            clear HG HLEN HN2 HAN HTK
            cases t with
            | nil =>
              clear hbad
              go_wp2_with fail
              go_ret
              exact ⟨rfl, HT.out⟩
            | cons x t =>
              have hsz : (24 : Int) < ((x :: t).length : Int) := by
                simp only [badN, List.isEmpty_cons, Bool.false_or, decide_eq_true_eq] at hbad
                omega
              have e0 : (⟨(x :: t).toArray⟩ : ByteArray).toList.isEmpty = false := by rw [ByteArray.toList_mk]; rfl
              have e1 : (⟨(x :: t).toArray⟩ : ByteArray).size = (x :: t).length := rfl
              generalize (⟨(x :: t).toArray⟩ : ByteArray) = T at *
              generalize (x :: t).length = q at *
              clear hbad
              go_wp2_with fail
              go_ret
              exact ⟨rfl, HT.out⟩
          | false =>
            cases t with
            | nil => cases hbad
            | cons x t =>
              have hsz : ¬ (24 : Int) < ((x :: t).length : Int) := by
                simp only [badN, List.isEmpty_cons, Bool.false_or, decide_eq_false_iff_not] at hbad
                omega
              have HG2 : Hid (∀ j u, j < k + 1 → ns[j]? = some u → badN u = false) := by
                intro j u hj hu
                by_cases hjk : j < k
                · exact HG.out j u hjk hu
                · obtain rfl : j = k := by omega
                  rw [HTK.out] at hu; injection hu with hu; subst hu; exact hbad
              have e0 : (⟨(x :: t).toArray⟩ : ByteArray).toList.isEmpty = false := by rw [ByteArray.toList_mk]; rfl
              have e1 : (⟨(x :: t).toArray⟩ : ByteArray).size = (x :: t).length := rfl
              generalize (⟨(x :: t).toArray⟩ : ByteArray) = T at *
              generalize (x :: t).length = q at *
              clear hbad HTK HG HR2
              go_wp2_with fail
              go_roundw
              case rel => exact ⟨k + 1, by go_num, by omega, trivial, HG2.out⟩
              case measure => simp [intOf]; omega
        · have hk' : ¬ (k : Int) < (n : Int) := by omega
          have HAN : Hid (ns.any badN = false) := by
            refine List.any_eq_false.2 (fun t ht => ?_)
            obtain ⟨j, hj⟩ := List.getElem?_of_mem ht
            have := HG.out j t (by have := (List.getElem?_eq_some_iff.1 hj).1; have := HLEN.out; omega) hj
            rw [this]; simp
          have HRF := HR2.out
          rw [HAN.out] at HRF
          subst HRF
          clear HG HLEN HN2
          go_wp2_with fail
          go_ret
          exact ⟨rfl, HT.out⟩
end Go.Proofs.Ytefpjdgfcgjbaaa

/- What a look into the disk's map gives; the contracts of Read, Used, Free, Written, Calls, On, Safe, Arm. -/
namespace Go.Proofs.Ytefpjdgfcgjbaaa
set_option linter.unusedVariables false
set_option linter.unusedSimpArgs false
open Go.RowKit
def ptrV : Option Fi → Value
  | none => .pointer none
  | some f => .pointer (some ⟨f.blk, 0, none⟩)
theorem zeroPF (w : World) : (zeroValue 66).run Try.prog w = .ok (.pointer none) w := by kernel_rfl
section
variable {w : World} {p : Nat} {s : St}
theorem look1_map {mb mn : Nat} {fs : List Fi} (h : ∃ D, w.ownsMap Try.prog 9 ptrR mb mn D ∧ MapOf fs D) (hu : UpF fs) (nm : ByteArray) (hn : nm.size ≤ maxLen) : (Instr.lookup 62 (.map (some mb)) (.string nm) true).run Try.prog w = .ok (.tuple #[ptrV (findF fs nm.data.toList), .bool (findF fs nm.data.toList).isSome]) w := by
  obtain ⟨D, hD, hM⟩ := h
  obtain ⟨v, ps, hr, hv⟩ := hD.look_ok (Maps.string_keyed Try.underlying9) Try.underlying62 (zeroPF w) (zd := .nil) (zp := []) rfl (Go.WideMaps.keyOf_string_mk Try.underlying9 hn)
  rw [hr, hM.has]
  cases hf : findF fs nm.data.toList with
  | none =>
    rw [hM.at_none hf] at hv
    rw [ptrR_nil hv]; rfl
  | some f =>
    rw [hM.at_some hu hf] at hv
    rw [ptrR_inv hv]; rfl
theorem look0_map {mb mn : Nat} {fs : List Fi} (h : ∃ D, w.ownsMap Try.prog 9 ptrR mb mn D ∧ MapOf fs D) (hu : UpF fs) (nm : ByteArray) (hn : nm.size ≤ maxLen) : (Instr.lookup 62 (.map (some mb)) (.string nm) false).run Try.prog w = .ok (ptrV (findF fs nm.data.toList)) w := by
  obtain ⟨D, hD, hM⟩ := h
  obtain ⟨v, ps, hr, hv⟩ := hD.lookup (Maps.string_keyed Try.underlying9) Try.underlying62 (zeroPF w) (zd := .nil) (zp := []) rfl (Go.WideMaps.keyOf_string_mk Try.underlying9 hn)
  rw [hr]
  cases hf : findF fs nm.data.toList with
  | none =>
    rw [hM.at_none hf] at hv
    rw [ptrR_nil hv]; rfl
  | some f =>
    rw [hM.at_some hu hf] at hv
    rw [ptrR_inv hv]; rfl
theorem DkAt.look1 (h : DkAt w p s) (nm : ByteArray) (hn : nm.size ≤ maxLen) : (Instr.lookup 62 (.map (some s.mb)) (.string nm) true).run Try.prog w = .ok (.tuple #[ptrV (findF s.fs nm.data.toList), .bool (findF s.fs nm.data.toList).isSome]) w := look1_map h.map h.ok.up nm hn
theorem DkAt.look0 (h : DkAt w p s) (nm : ByteArray) (hn : nm.size ≤ maxLen) : (Instr.lookup 62 (.map (some s.mb)) (.string nm) false).run Try.prog w = .ok (ptrV (findF s.fs nm.data.toList)) w := look0_map h.map h.ok.up nm hn
end
def readS (s : St) (t : Nm) : ByteArray × Int := if s.off then (⟨#[]⟩, 6) else match findF s.fs t with | none => (⟨#[]⟩, 7) | some f => (f.data, 0)
set_option maxRecDepth 100000 in
set_option maxHeartbeats 4000000 in
theorem read_any (p : Nat) (s : St) (nm : ByteArray) (w : World) (hD : DkAt w p s) (hn : nm.size ≤ maxLen) :
    Calls Try.prog 14 #[.pointer (some ⟨p, 0, none⟩), .string nm] w fun x w' => x = .returned (.tuple #[.string (readS s nm.data.toList).1, .int .i64 (readS s nm.data.toList).2]) ∧ w' = w := by
  obtain ⟨c0, c1, c2, c3, c4, c5, c6, c7⟩ := dk8 hD.ptr
  have hl := hD.look1 nm hn
  have HD := Lib.hid hD
  clear hD hn
  obtain ⟨R, hR⟩ : ∃ R, R = readS s nm.data.toList := ⟨_, rfl⟩
  have HR := Lib.hid hR
  rw [← hR]
  clear hR
  unfold readS at HR
  cases hoff : s.off with
  | true =>
    rw [hoff] at c5 HR
    obtain rfl : R = (⟨#[]⟩, 6) := HR.out
    clear HR hl HD
    go_enter Try.func14, Try.ntmps14
    go_wp2_with fail
    go_ret2
    exact ⟨rfl, rfl⟩
  | false =>
    rw [hoff] at c5 HR
    cases hf : findF s.fs nm.data.toList with
    | none =>
      rw [hf] at HR hl
      obtain rfl : R = (⟨#[]⟩, 7) := HR.out
      simp only [ptrV, Option.isSome_none] at hl
      clear HR HD hf
      go_enter Try.func14, Try.ntmps14
      go_wp2_with fail
      go_ret2
      exact ⟨rfl, rfl⟩
    | some f =>
      rw [hf] at HR hl
      obtain rfl : R = (f.data, 0) := HR.out
      simp only [ptrV, Option.isSome_some] at hl
      have u0 : w.cell? ⟨f.blk, 0, none⟩ = some (.string f.data) := (HD.out.fil f (findF_mem hf).1).cell 0
      clear HR HD hf
      go_enter Try.func14, Try.ntmps14
      go_wp2_with fail
      go_ret2
      exact ⟨rfl, rfl⟩
end Go.Proofs.Ytefpjdgfcgjbaaa

/- The contracts of Used, Free, Written, Calls, On, Safe, Arm. -/
namespace Go.Proofs.Ytefpjdgfcgjbaaa
set_option linter.unusedVariables false
set_option linter.unusedSimpArgs false
open Go.RowKit
section
variable (p : Nat) (s : St) (w : World)
set_option maxHeartbeats 1000000
theorem used_any (hD : DkAt w p s) : Calls Try.prog 16 #[.pointer (some ⟨p, 0, none⟩)] w fun x w' => x = .returned (.int .i64 s.used) ∧ Below w.heap.size w w' := by
  obtain ⟨c0, c1, c2, c3, c4, c5, c6, c7⟩ := dk8 hD.ptr
  clear hD
  go_enter Try.func16, Try.ntmps16
  go_wp2_with fail
  go_ret
  exact ⟨rfl, Below.refl _ _⟩
theorem written_any (hD : DkAt w p s) : Calls Try.prog 30 #[.pointer (some ⟨p, 0, none⟩)] w fun x w' => x = .returned (.int .i64 s.written) ∧ Below w.heap.size w w' := by
  obtain ⟨c0, c1, c2, c3, c4, c5, c6, c7⟩ := dk8 hD.ptr
  clear hD
  go_enter Try.func30, Try.ntmps30
  go_wp2_with fail
  go_ret
  exact ⟨rfl, Below.refl _ _⟩
theorem calls_any (hD : DkAt w p s) : Calls Try.prog 31 #[.pointer (some ⟨p, 0, none⟩)] w fun x w' => x = .returned (.int .i64 s.calls) ∧ Below w.heap.size w w' := by
  obtain ⟨c0, c1, c2, c3, c4, c5, c6, c7⟩ := dk8 hD.ptr
  clear hD
  go_enter Try.func31, Try.ntmps31
  go_wp2_with fail
  go_ret
  exact ⟨rfl, Below.refl _ _⟩
theorem on_any (hD : DkAt w p s) : Calls Try.prog 21 #[.pointer (some ⟨p, 0, none⟩)] w fun x w' => x = .returned (.bool !s.off) ∧ Below w.heap.size w w' := by
  obtain ⟨c0, c1, c2, c3, c4, c5, c6, c7⟩ := dk8 hD.ptr
  clear hD
  go_enter Try.func21, Try.ntmps21
  go_wp2_with fail
  go_ret
  exact ⟨rfl, Below.refl _ _⟩
theorem free_any (hD : DkAt w p s) : Calls Try.prog 29 #[.pointer (some ⟨p, 0, none⟩)] w fun x w' => x = .returned (.int .i64 (s.room - s.used)) ∧ Below w.heap.size w w' := by
  obtain ⟨c0, c1, c2, c3, c4, c5, c6, c7⟩ := dk8 hD.ptr
  have h1 := hD.ok.rm
  have h2 := hD.ok.use
  have hw : IntKind.i64.wrap (s.room - s.used) = s.room - s.used := IntWalk.i64_in _ (by omega)
  generalize s.room = room at *
  generalize s.used = used at *
  clear hD h1 h2
  go_enter Try.func29, Try.ntmps29
  go_wp2_with fail
  go_quiet (fail)
  go_wp2_with fail
  go_ret
  exact ⟨rfl, below_dN (Below.refl _ _) _⟩
def safeS (s : St) (t : Nm) : Int := match findF s.fs t with | none => 0 | some f => (f.safe : Nat)
theorem safe_any (nm : ByteArray) (hD : DkAt w p s) (hn : nm.size ≤ maxLen) : Calls Try.prog 32 #[.pointer (some ⟨p, 0, none⟩), .string nm] w fun x w' => x = .returned (.int .i64 (safeS s nm.data.toList)) ∧ Below w.heap.size w w' := by
  obtain ⟨c0, c1, c2, c3, c4, c5, c6, c7⟩ := dk8 hD.ptr
  have hl := hD.look0 nm hn
  unfold safeS
  cases hf : findF s.fs nm.data.toList with
  | none =>
    rw [hf] at hl
    simp only [ptrV] at hl
    clear hD hn hf
    go_enter Try.func32, Try.ntmps32
    go_wp2_with fail
    go_ret
    exact ⟨rfl, Below.refl _ _⟩
  | some f =>
    rw [hf] at hl
    simp only [ptrV] at hl
    have u1 : w.cell? ⟨f.blk, 1, none⟩ = some (.int .i64 (f.safe : Nat)) := (hD.fil f (findF_mem hf).1).cell 1
    clear hD hn hf
    go_enter Try.func32, Try.ntmps32
    go_wp2_with fail
    go_ret
    exact ⟨rfl, Below.refl _ _⟩
def armS (s : St) (n : Int) : St := { s with armed := true, left := if 0 ≤ n then n else 0 }
theorem arm_any (n : Int) (hn : I64 n) (hD : DkAt w p s) : Calls Try.prog 20 #[.pointer (some ⟨p, 0, none⟩), .int .i64 n] w fun x w' => x = .returned (.tuple #[]) ∧ DkAt w' p (armS s n) ∧ DkStep p s (armS s n) w w' := by
  obtain ⟨c0, c1, c2, c3, c4, c5, c6, c7⟩ := dk8 hD.ptr
  obtain ⟨f0, f1, f2, f3, f4, f5, f6, f7⟩ := dkF hD.ptr
  have HF : Hid (∀ m, m = (if 0 ≤ n then n else 0) → DkAt _ p (armS s n) ∧ DkStep p s (armS s n) w _) := fun m hm => hD.turn (s' := armS s n) (w' := (w.setCell ⟨p, 6, none⟩ (.bool true)).setCell ⟨p, 7, none⟩ (.int .i64 m)) ((Fr.setCell w (by simp) _).trans (Fr.setCell _ (by simp) _)) (by subst hm; exact (hD.ptr.set_ 6 _).set_ 7 _) rfl rfl rfl
    ⟨hD.ok.one, hD.ok.up, hD.ok.nam, hD.ok.siz, hD.ok.use, hD.ok.rm, (by unfold I64 at hn; show 0 ≤ (if 0 ≤ n then n else 0) ∧ (if 0 ≤ n then n else 0) ≤ _; split <;> omega), hD.ok.wr⟩
  clear hD
  by_cases h : 0 ≤ n
  · have HG := Lib.hid (HF.out n (by rw [if_pos h]))
    clear HF
    go_enter Try.func20, Try.ntmps20
    go_wp2_with fail
    all_goals first | (exfalso; omega) | skip
    go_end0
    exact ⟨rfl, HG.out⟩
  · have HG := Lib.hid (HF.out 0 (by rw [if_neg h]))
    clear HF
    go_enter Try.func20, Try.ntmps20
    go_wp2_with fail
    all_goals first | (exfalso; omega) | skip
    go_end0
    exact ⟨rfl, HG.out⟩
end
end Go.Proofs.Ytefpjdgfcgjbaaa

/- A disk's state behind an operation is right: plain. -/
namespace Go.Proofs.Ytefpjdgfcgjbaaa
set_option linter.unusedVariables false
set_option linter.unusedSimpArgs false
open Go.RowKit
theorem beginS_same (s : St) (ns : List Nm) : (beginS s ns).2.fs = s.fs ∧ (beginS s ns).2.mb = s.mb ∧ (beginS s ns).2.mn = s.mn ∧ (beginS s ns).2.used = s.used ∧ (beginS s ns).2.room = s.room ∧ (beginS s ns).2.written = s.written := by
  unfold beginS
  split
  · exact ⟨rfl, rfl, rfl, rfl, rfl, rfl⟩
  · split <;> exact ⟨rfl, rfl, rfl, rfl, rfl, rfl⟩
theorem beginS_zero {s : St} {ns : List Nm} (h : (beginS s ns).1 = 0) : ∀ t ∈ ns, badN t = false := by
  unfold beginS at h
  split at h
  · cases h
  · split at h
    · cases h
    · dsimp only at h
      split at h
      · cases h
      · rename_i hn
        intro t ht
        cases hb : badN t with
        | false => rfl
        | true => exact absurd (List.any_eq_true.2 ⟨t, ht, hb⟩) hn
theorem beginS_calls (s : St) (ns : List Nm) : (beginS s ns).2.calls ≤ s.calls + 1 := by
  unfold beginS
  split
  · dsimp only; omega
  · split <;> (dsimp only; omega)
theorem badN_len {t : Nm} (h : badN t = false) : 1 ≤ t.length ∧ t.length ≤ 24 := by
  cases t with
  | nil => cases h
  | cons x t =>
    simp only [badN, List.isEmpty_cons, Bool.false_or, decide_eq_false_iff_not] at h
    refine ⟨by simp, by omega⟩
theorem updF_map {t : Nm} {h : Fi → Fi} (hh : ∀ f, (h f).name = f.name ∧ (h f).blk = f.blk) (fs : List Fi) : (updF t h fs).map (fun f => (Lit.string f.name, litB f.blk)) = fs.map (fun f => (Lit.string f.name, litB f.blk)) := by
  unfold updF
  rw [List.map_map]
  refine List.map_congr_left (fun f _ => ?_)
  show (Lit.string (if f.name == t then h f else f).name, litB (if f.name == t then h f else f).blk) = _
  split
  · rw [(hh f).1, (hh f).2]
  · rfl
theorem updF_blk {t : Nm} {h : Fi → Fi} (hh : ∀ f, (h f).name = f.name ∧ (h f).blk = f.blk) (fs : List Fi) : (updF t h fs).map (fun f => f.blk) = fs.map (fun f => f.blk) := by
  unfold updF
  rw [List.map_map]
  refine List.map_congr_left (fun f _ => ?_)
  show (if f.name == t then h f else f).blk = f.blk
  split
  · rw [(hh f).2]
  · rfl
theorem MapOf.upd {t : Nm} {h : Fi → Fi} (hh : ∀ f, (h f).name = f.name ∧ (h f).blk = f.blk) {fs : List Fi} {D : DataW Unit} (hM : MapOf fs D) : MapOf (updF t h fs) D := by
  obtain ⟨es, he, hp⟩ := hM
  exact ⟨es, he, by rw [updF_map hh]; exact hp⟩
theorem mem_updF {t : Nm} {h : Fi → Fi} {fs : List Fi} {g : Fi} (hg : g ∈ updF t h fs) : (∃ f ∈ fs, f.name = t ∧ g = h f) ∨ (g ∈ fs ∧ g.name ≠ t) := by
  unfold updF at hg
  obtain ⟨f, hf, rfl⟩ := List.mem_map.1 hg
  by_cases e : f.name = t
  · rw [if_pos (by simpa using e)]
    exact .inl ⟨f, hf, e, rfl⟩
  · rw [if_neg (by simpa using e)]
    exact .inr ⟨hf, e⟩
theorem updF_off {t : Nm} {h : Fi → Fi} {fs : List Fi} (hn : ∀ f ∈ fs, f.name ≠ t) : updF t h fs = fs := by
  unfold updF
  conv => rhs; rw [← List.map_id fs]
  refine List.map_congr_left (fun f hf => ?_)
  rw [if_neg (by simpa using hn f hf)]; rfl
theorem sumD_upd {t : Nm} {h : Fi → Fi} : ∀ {fs : List Fi}, UpF fs → ∀ {f : Fi}, findF fs t = some f → sumD (updF t h fs) + f.data.size = sumD fs + (h f).data.size
  | [], _, f, hf => by cases hf
  | g :: l, hu, f, hf => by
    have hu' := hu
    unfold UpF at hu
    rw [List.pairwise_cons] at hu
    by_cases e : g.name = t
    · have e1 : findF (g :: l) t = some g := by rw [← e]; exact findF_of hu' (List.mem_cons_self ..)
      rw [e1] at hf
      injection hf with hf
      subst hf
      have e2 : updF t h (g :: l) = h g :: l := by
        show (if g.name == t then h g else g) :: updF t h l = _
        rw [if_pos (by simpa using e), updF_off (fun x hx e' => by have := hu.1 x hx; rw [e', e] at this; exact List.lt_irrefl _ this)]
      rw [e2, sumD_cons, sumD_cons]; omega
    · have e1 : findF (g :: l) t = findF l t := by
        unfold findF
        rw [List.find?_cons]
        have : (g.name == t) = false := by simpa using e
        rw [this]
      rw [e1] at hf
      have e2 : updF t h (g :: l) = g :: updF t h l := by
        show (if g.name == t then h g else g) :: updF t h l = _
        rw [if_neg (by simpa using e)]
      rw [e2, sumD_cons, sumD_cons]
      have := sumD_upd (h := h) hu.2 hf
      omega
theorem StOk.ins {s : St} (h : StOk s) {t : Nm} {d : ByteArray} {b : Nat} (hf : findF s.fs t = none) (ht : 1 ≤ t.length ∧ t.length ≤ 24) (hd : d.size ≤ 1048576) (hr : (d.size : Int) ≤ s.room - s.used) (hb : b ∉ s.fs.map (fun f => f.blk)) :
    StOk { s with used := s.used + (d.size : Nat), written := s.written + (d.size : Nat), fs := insF ⟨t, d, 0, b⟩ s.fs, mn := s.mn + 1 } := by
  have hm : ∀ f, f ∈ insF ⟨t, d, 0, b⟩ s.fs → f = ⟨t, d, 0, b⟩ ∨ f ∈ s.fs := fun f hf => mem_insF.1 hf
  refine ⟨?_, insF_up h.up (findF_none hf), fun f hfm => ?_, fun f hfm => ?_, ?_, ?_, h.lf, ?_⟩
  · show ((insF ⟨t, d, 0, b⟩ s.fs).map (fun f => f.blk)).Nodup
    rw [((insF_perm ⟨t, d, 0, b⟩ s.fs).map (fun f => f.blk)).nodup_iff, List.map_cons, List.nodup_cons]
    exact ⟨hb, h.one⟩
  · rcases hm f hfm with rfl | h2
    · exact ht
    · exact h.nam f h2
  · rcases hm f hfm with rfl | h2
    · exact ⟨hd, Nat.zero_le _⟩
    · exact h.siz f h2
  · show s.used + (d.size : Nat) = (sumD (insF ⟨t, d, 0, b⟩ s.fs) : Nat)
    rw [sumD_perm (insF_perm ⟨t, d, 0, b⟩ s.fs), sumD_cons, h.use]
    push_cast; omega
  · have := h.rm
    exact ⟨this.1, this.2.1, by show s.used + (d.size : Nat) ≤ s.room; omega⟩
  · have := h.wr
    exact ⟨by show 0 ≤ s.written + (d.size : Nat); omega, this.2⟩
theorem StOk.upd {s : St} (h : StOk s) {t : Nm} {d : ByteArray} {f : Fi} (hf : findF s.fs t = some f) (hd : f.data.size + d.size ≤ 1048576) (hr : (d.size : Int) ≤ s.room - s.used) :
    StOk { s with used := s.used + (d.size : Nat), written := s.written + (d.size : Nat), fs := updF t (fun g => ⟨g.name, g.data ++ d, g.safe, g.blk⟩) s.fs, mn := s.mn + 1 } := by
  have hh : ∀ f : Fi, ((fun g : Fi => (⟨g.name, g.data ++ d, g.safe, g.blk⟩ : Fi)) f).name = f.name ∧ ((fun g : Fi => (⟨g.name, g.data ++ d, g.safe, g.blk⟩ : Fi)) f).blk = f.blk := fun f => ⟨rfl, rfl⟩
  obtain ⟨hfm, hft⟩ := findF_mem hf
  refine ⟨?_, updF_up h.up (fun f => (hh f).1), fun g hg => ?_, fun g hg => ?_, ?_, ?_, h.lf, ?_⟩
  · show ((updF t _ s.fs).map (fun f => f.blk)).Nodup
    rw [updF_blk hh]; exact h.one
  · rcases mem_updF hg with ⟨g', hg', -, rfl⟩ | ⟨hg', -⟩
    · exact h.nam g' hg'
    · exact h.nam g hg'
  · rcases mem_updF hg with ⟨g', hg', e, rfl⟩ | ⟨hg', -⟩
    · have hgf : g' = f := by
        have := findF_of h.up hg'
        rw [e, hf] at this
        injection this with this; exact this.symm
      subst hgf
      have := h.siz g' hg'
      refine ⟨?_, ?_⟩
      · show (g'.data ++ d).size ≤ _
        rw [ByteArray.size_append]; exact hd
      · show g'.safe ≤ (g'.data ++ d).size
        rw [ByteArray.size_append]; omega
    · exact h.siz g hg'
  · have := sumD_upd (h := fun g : Fi => (⟨g.name, g.data ++ d, g.safe, g.blk⟩ : Fi)) h.up hf
    show s.used + (d.size : Nat) = (sumD (updF t (fun g : Fi => (⟨g.name, g.data ++ d, g.safe, g.blk⟩ : Fi)) s.fs) : Nat)
    dsimp only at this
    rw [ByteArray.size_append] at this
    rw [h.use]; omega
  · have := h.rm
    exact ⟨this.1, this.2.1, by show s.used + (d.size : Nat) ≤ s.room; omega⟩
  · have := h.wr
    exact ⟨by show 0 ≤ s.written + (d.size : Nat); omega, this.2⟩
section
variable {w w' : World} {p : Nat} {s s' : St}
theorem Fr.of_turned {b : Nat} (h : w.mapTurned w' b) : Fr [b] w w' := .of_grown h.grown (by simp)
/-- A file is laid into the map. -/
theorem store_map {mb mn : Nat} {fs : List Fi} (h : ∃ D, w.ownsMap Try.prog 9 ptrR mb mn D ∧ MapOf fs D) (nm : ByteArray) (hn : nm.size ≤ maxLen) (b : Nat) (fs' : List Fi) (hM : ∀ D, MapOf fs D → MapOf fs' (D.put (.string nm.data.toList) (litB b))) (hmn : mn < maxLen) :
    ∃ w', (Instr.mapUpdate 62 (.map (some mb)) (.string nm) (.pointer (some ⟨b, 0, none⟩))).run Try.prog w = .ok () w' ∧ Fr [mb] w w' ∧ ∃ D, w'.ownsMap Try.prog 9 ptrR mb (mn + 1) D ∧ MapOf fs' D := by
  obtain ⟨D, hD, hMD⟩ := h
  obtain ⟨w', hr, h1, h2⟩ := hD.store (Maps.string_keyed Try.underlying9) Try.underlying62 hmn (Go.WideMaps.keyOf_string_mk Try.underlying9 hn) (val := .pointer (some ⟨b, 0, none⟩)) (d := litB b) (ps := []) rfl
  exact ⟨w', hr, Fr.of_turned h2, _, h1, hM D hMD⟩
theorem DkAt.store (h : DkAt w p s) (nm : ByteArray) (hn : nm.size ≤ maxLen) (b : Nat) (fs' : List Fi) (hM : ∀ D, MapOf s.fs D → MapOf fs' (D.put (.string nm.data.toList) (litB b))) (hmn : s.mn < maxLen) :
    ∃ w', (Instr.mapUpdate 62 (.map (some s.mb)) (.string nm) (.pointer (some ⟨b, 0, none⟩))).run Try.prog w = .ok () w' ∧ Fr [s.mb] w w' ∧ ∃ D, w'.ownsMap Try.prog 9 ptrR s.mb (s.mn + 1) D ∧ MapOf fs' D := store_map h.map nm hn b fs' hM hmn
theorem blk_inj {fs : List Fi} (h : (fs.map (fun f => f.blk)).Nodup) {f g : Fi} (hf : f ∈ fs) (hg : g ∈ fs) (e : f.blk = g.blk) : f = g := by
  induction fs with
  | nil => cases hf
  | cons x t ih =>
    rw [List.map_cons, List.nodup_cons] at h
    rcases List.mem_cons.1 hf with h1 | h1
    · rcases List.mem_cons.1 hg with h2 | h2
      · rw [h1, h2]
      · exact absurd (List.mem_map.2 ⟨g, h2, by rw [← e, h1]⟩) h.1
    · rcases List.mem_cons.1 hg with h2 | h2
      · exact absurd (List.mem_map.2 ⟨f, h1, by rw [e, h2]⟩) h.1
      · exact ih h.2 h1 h2
theorem dele_map {mb mn : Nat} {fs : List Fi} (h : ∃ D, w.ownsMap Try.prog 9 ptrR mb mn D ∧ MapOf fs D) (nm : ByteArray) (hn : nm.size ≤ maxLen) :
    ∃ w', (∀ ty, (Builtin.delete_ #[62, 9] ty #[.map (some mb), .string nm]).run Try.prog w = .ok (.tuple #[]) w') ∧ Fr [mb] w w' ∧ ∃ D, w'.ownsMap Try.prog 9 ptrR mb mn D ∧ MapOf (delF nm.data.toList fs) D := by
  obtain ⟨D, hD, hMD⟩ := h
  obtain ⟨w', hr, h1, h2⟩ := hD.drop (Maps.string_keyed Try.underlying9) Try.underlying62 (Go.WideMaps.keyOf_string_mk Try.underlying9 hn) 9
  exact ⟨w', fun ty => hr, Fr.of_turned h2, _, h1, hMD.del _⟩
theorem DkAt.len (h : DkAt w p s) (ty : TypeId) : (Builtin.len_ #[62] ty #[.map (some s.mb)]).run Try.prog w = .ok (.int .i64 (s.fs.length : Nat)) w := by
  obtain ⟨D, hD, hMD⟩ := h.map
  rw [← hMD.size]
  exact hD.len Try.underlying62 ty
end
/-- One text in a new block. -/
theorem sl_one (w : World) (nm : ByteArray) (X : List Nat) (hX : ∀ b ∈ X, b < w.heap.size) : SlR strK (w.alloc (.cells #[.string nm] 9)) X [nm.data.toList] (some ⟨w.heap.size, 0, none⟩) 1 1 := by
  have BN := Mem.Blk.new w 9 #[.string nm]
  have e2 : encStr nm.data.toList = .string nm := by obtain ⟨⟨x⟩⟩ := nm; rfl
  have hmx : maxLen = 9223372036854775807 := by decide
  refine ⟨[[.string nm]], rfl, fun i x cs hx hc => ?_, rfl, Nat.le_refl _, by omega, fun _ => ⟨w.heap.size, 0, rfl, BN.lt, fun hm => ?_, fun i cs hc => ?_⟩⟩
  · cases i with
    | zero => injection hx with hx; injection hc with hc; subst hx; subst hc; show _ = _; rw [e2]
    | succ i => cases hx
  · have := hX _ hm; omega
  · cases i with
    | zero =>
      injection hc with hc; subst hc
      refine ⟨rfl, fun j u hu => ?_⟩
      have := BN.cell j
      rw [Nat.zero_mul, Nat.add_zero, Nat.zero_add, this]
      cases j with
      | zero => exact hu
      | succ j => cases hu
    | succ i => cases hc
end Go.Proofs.Ytefpjdgfcgjbaaa
