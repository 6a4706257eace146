/- slices.Sort and slices.Compact over a row of the call's own. -/
import Derived.Test.YtokinadmeooaoaaShelf
import Derived.Test.YtokinadmeooaoaaSa
import Derived.Test.YtokinadmeooaoaaDn
import Derived.Test.YtokinadmeooaoaaMem
import Derived.Sort.OwnSortedInts
namespace Go.Proofs.Ytokinadmeooaoaa
set_option linter.unusedVariables false
set_option linter.unusedSimpArgs false
open Go.RowKit
def ivs (l : List Int) : List Value := l.map (Value.int .i64)
theorem ivs_len (l : List Int) : (ivs l).length = l.length := by unfold ivs; rw [List.length_map]
theorem sort_any {w0 w : World} {g n cap : Nat} {zs : List Int} (hn : zs.length = n) (h0 : 0 < n) (hm : n ≤ 1000000) (h : Mem.Own w0 w 3 1 (.slice (some ⟨g, 0, none⟩) n cap) n (ivs zs)) :
    Calls Try.prog 48 #[.slice (some ⟨g, 0, none⟩) n cap] w fun e w' => e = .returned (.tuple #[]) ∧ Mem.Own w0 w' 3 1 (.slice (some ⟨g, 0, none⟩) n cap) n (ivs (zs.mergeSort fun x y => decide (x ≤ y))) := by
  subst hn
  rcases h.own.2 with ⟨h1, -⟩ | ⟨g', cap', cur, hv, hg, hb, hn, hcap, hsz, ht⟩
  · cases h1
  cases hv
  have hH := holds_of_blockI (e := 3) hb (by rw [← Nat.mul_one zs.length]; exact ht)
  refine (AnyM.slices_Sort_int sortI g 0 cap zs w hH (Array.getElem?_eq_some_iff.1 hb).1 (by omega)).mono ?_
  rintro e w' ⟨rfl, m, os, rfl⟩
  have hlen : (zs.mergeSort fun x y => decide (x ≤ y)).length = zs.length := List.length_mergeSort _
  have hr := ownsRow_sortedI (n := m) (os := os) hlen hg hb hn hcap hsz
  exact ⟨rfl, h.below.grown (grownBy_sortedI _) h.below.size (fun k hk => by injection hk with hk; omega), hr⟩
theorem compact_any {w0 w : World} {g n cap : Nat} {zs : List Int} (hn : zs.length = n) (h0 : 0 < n) (hm : n ≤ 1000000) (h : Mem.Own w0 w 3 1 (.slice (some ⟨g, 0, none⟩) n cap) n (ivs zs)) :
    Calls Try.prog 49 #[.slice (some ⟨g, 0, none⟩) n cap] w fun e w' => (e = .returned (.slice (some ⟨g, 0, none⟩) (Lib.compact zs).length cap) ∧ Ints w' (some ⟨g, 0, none⟩) (Lib.compact zs).length (Lib.compact zs)) ∧ Below w0.heap.size w0 w' := by
  subst hn
  rcases h.own.2 with ⟨h1, -⟩ | ⟨g', cap', cur, hv, hg, hb, hn, hcap, hsz, ht⟩
  · cases h1
  cases hv
  have hH := holds_of_blockI (e := 3) hb (by rw [← Nat.mul_one zs.length]; exact ht)
  refine (AnyG.slices_Compact_int compI g 0 cap zs w hH (by omega) hn).mono ?_
  rintro e w' ⟨rfl, q, rfl⟩
  have hle : (Lib.compact zs).length ≤ zs.length := by
    unfold Lib.compact Lib.compactUpTo
    rw [List.length_map]
    exact Nat.le_trans (List.length_filter_le _ _) (by simp)
  have hg2 : w.grownBy (Sort.putRow (Value.int .i64) (Sort.ahead w q) g 0 (Lib.compact zs ++ List.replicate (zs.length - (Lib.compact zs).length) 0).toArray) (some g) := by
    have := grownBy_sortedI (w := w) (g := g) (n := q) (os := #[]) (Lib.compact zs ++ List.replicate (zs.length - (Lib.compact zs).length) 0).toArray
    rwa [Sort.grow_empty] at this
  have hH2 := Sort.holds_putRow (Value.int .i64) (Sort.ahead w q) g 0 zs.toArray (Lib.compact zs ++ List.replicate (zs.length - (Lib.compact zs).length) 0).toArray hH (by simp; omega)
  refine ⟨⟨rfl, rfl, by omega, fun hp => ⟨g, 0, rfl, ?_, fun i x hx => ?_⟩⟩, h.below.grown hg2 h.below.size (fun k hk => by injection hk with hk; omega)⟩
  · have := hg2.size; have := (Array.getElem?_eq_some_iff.1 hb).1; omega
  · have hi : i < (Lib.compact zs).length := (List.getElem?_eq_some_iff.1 hx).1
    have h1 := (hH2 i (by simp; omega)).1
    rw [h1]
    congr 2
    have : (Lib.compact zs ++ List.replicate (zs.length - (Lib.compact zs).length) 0)[i]? = some x := by rw [List.getElem?_append_left hi]; exact hx
    simp [this]
end Go.Proofs.Ytokinadmeooaoaa
