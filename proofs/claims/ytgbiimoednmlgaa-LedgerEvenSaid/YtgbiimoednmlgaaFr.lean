/- What a call that writes the blocks of X leaves: all other blocks stay. -/
import Derived.Test.YtgbiimoednmlgaaSep
import Derived.Maps.OwnSet
namespace Go.Proofs.Ytgbiimoednmlgaa
set_option linter.unusedVariables false
set_option linter.unusedSimpArgs false
open Go.RowKit
structure Fr (X : List Nat) (w w' : World) : Prop where
  os : w'.os = w.os
  tape : w'.tape = w.tape
  output : w'.output = w.output
  kept : Kept X w w'
section
variable {X X' : List Nat} {w w' w'' : World}
theorem Fr.refl (X : List Nat) (w : World) : Fr X w w := ⟨rfl, rfl, rfl, Kept.refl w X⟩
theorem Fr.trans (h : Fr X w w') (k : Fr X w' w'') : Fr X w w'' := ⟨k.os.trans h.os, k.tape.trans h.tape, k.output.trans h.output, h.kept.trans k.kept⟩
theorem Fr.more (h : Fr X w w') (hX : ∀ b, b ∈ X → b ∈ X') : Fr X' w w' := ⟨h.os, h.tape, h.output, h.kept.more hX⟩
theorem Fr.of_below (h : Below w.heap.size w w') (X : List Nat) : Fr X w w' := ⟨h.os, h.tape, h.output, Kept.of_below h X⟩
theorem Fr.alloc (w : World) (o : Obj) (X : List Nat) : Fr X w (w.alloc o) := .of_below ((Below.refl _ w).alloc (Nat.le_refl _) o) X
theorem Fr.drew (w : World) (X : List Nat) : Fr X w w.drew := .of_below (Below.refl _ w).drew X
theorem Fr.of_grown {g : Nat} (h : w.grownBy w' (some g)) (hg : g ∈ X) : Fr X w w' :=
  have b : Below 0 w w' := (Below.refl 0 w).grown h (Nat.zero_le _) (fun _ _ => Nat.zero_le _)
  ⟨b.os, b.tape, b.output, Kept.of_grown h hg⟩
theorem Fr.setCell (w : World) {p : Addr} (hp : p.block ∈ X) (v : Value) : Fr X w (w.setCell p v) :=
  have b : Below 0 w (w.setCell p v) := (Below.refl 0 w).setCell (Nat.zero_le _) v
  ⟨b.os, b.tape, b.output, Kept.setCell w hp v⟩
theorem Fr.size (h : Fr X w w') : w.heap.size ≤ w'.heap.size := h.kept.1
theorem Fr.below {B : Nat} (h : Fr X w w') (hB : B ≤ w.heap.size) (hX : ∀ b ∈ X, B ≤ b) : Below B w w' :=
  ⟨h.os, h.tape, h.output, h.kept.1, fun k hk => h.kept.2 k (by omega) (fun hm => by have := hX k hm; omega)⟩
/-- What was written in new blocks is nothing. -/
theorem Fr.fresh (h : Fr X w w') (hX : ∀ b ∈ X, b ∈ X' ∨ w.heap.size ≤ b) : Fr X' w w' :=
  ⟨h.os, h.tape, h.output, h.kept.1, fun b hb hx => h.kept.2 b hb (fun hm => (hX b hm).elim hx (fun h1 => by omega))⟩
theorem Fr.blk {g : Nat} {t : TypeId} {cs : Array Value} (h : Fr X w w') (hB : Mem.Blk w g t cs) (hg : g ∉ X) : Mem.Blk w' g t cs := (h.kept.2 g hB.lt hg).trans hB
theorem Fr.map {H : Type} {P : Program} {k : TypeId} {R : Value → Option (DataW H × List MemPlace)} {b n : Nat} {D : DataW H} (h : Fr X w w') (hM : w.ownsMap P k R b n D) (hg : b ∉ X) : w'.ownsMap P k R b n D := by
  have hlt := hM.lt
  obtain ⟨es, clock, hb, r⟩ := hM
  exact ⟨es, clock, (h.kept.2 b hlt hg).trans hb, r⟩
theorem Fr.cell {p : Addr} {v : Value} (h : Fr X w w') (hc : w.cell? p = some v) (hg : p.block ∉ X) : w'.cell? p = some v := by
  have hlt : p.block < w.heap.size := by
    rcases Nat.lt_or_ge p.block w.heap.size with h1 | h1
    · exact h1
    · have : w.heap[p.block]? = none := Array.getElem?_eq_none h1
      simp [World.cell?, this] at hc
  rw [World.cell?_of_block (w := w) (h.kept.2 p.block hlt hg)]; exact hc
end
end Go.Proofs.Ytgbiimoednmlgaa
