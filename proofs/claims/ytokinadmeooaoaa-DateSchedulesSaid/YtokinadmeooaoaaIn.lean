import Derived.Test.YtokinadmeooaoaaDn
import Derived.WalkKit
import Derived.ProofKit
import Derived.OpenShut
import Derived.ShutString
import Derived.ChangeOld
import Derived.Below
namespace Go.Proofs.Ytokinadmeooaoaa
open Go.ChangeShapes Go.WideShapes Go.ChangeAt Go.RowKit
theorem cell_lt {w : World} {a : Addr} {v : Value} (h : w.cell? a = some v) : a.block < w.heap.size := by
  rcases Nat.lt_or_ge a.block w.heap.size with h1 | h1
  · exact h1
  · have : w.heap[a.block]? = none := Array.getElem?_eq_none h1
    simp [World.cell?, this] at h
theorem ints_of {H : Type} {enc : TypeId × Value → H} {P : Program} {t e : TypeId} {W : World} {a : Option Addr} {len cap : Nat} {x : DataW H × List MemPlace} (ht : P.underlying t = some (.slice e)) (he : P.underlying e = some (.int .i64)) (hc : P.cellsOf e = 1)
    (k : ∃ fuel, DataW.trod enc P W 0 (fun _ => true) true fuel t (Value.cells (.slice a len cap)).toList = some x) : ∃ l, Ints W a len l ∧ ∀ n ∈ l, (Lit.int .i64 n).wf = true := by
  obtain ⟨fuel, hf⟩ := k
  rcases open_ints ht he hc hf with ⟨hcs, _⟩ | ⟨y, l, c, zs, hcs, _, hl, hm, hz, _, hcell, hwz⟩
  · simp [Value.cells] at hcs
    obtain ⟨rfl, rfl, rfl⟩ := hcs
    exact ⟨[], ⟨rfl, by omega, fun h => absurd h (by omega)⟩, by simp⟩
  · simp [Value.cells] at hcs
    obtain ⟨rfl, rfl, rfl⟩ := hcs
    have hz' : zs.length = cap := by simpa using hz
    have hmx : len ≤ 9223372036854775807 := by
      have : maxLen = 9223372036854775807 := by decide
      omega
    refine ⟨zs.take len, ⟨by simp; omega, hmx, fun h => ?_⟩, fun n hn => hwz n (List.mem_of_mem_take hn)⟩
    obtain ⟨b, off, spot⟩ := y
    have h0 := hcell 0 (by omega)
    obtain rfl : spot = none := by simpa [Addr.add] using World.cell?_spot h0
    refine ⟨b, off, rfl, by simpa [Addr.add] using cell_lt h0, fun i v hv => ?_⟩
    have hi : i < (zs.take len).length := (List.getElem?_eq_some_iff.1 hv).1
    have hi2 : i < zs.length := by simp at hi; omega
    have := hcell i hi2
    have e : (⟨b, off, none⟩ : Addr).add i = ⟨b, off + i, none⟩ := by
      unfold Addr.add
      split
      · simp_all
      · rfl
    rw [e] at this
    rw [List.getElem?_take] at hv
    split at hv
    · rw [this]; simp [hv]
    · exact absurd hv (by simp)
end Go.Proofs.Ytokinadmeooaoaa
