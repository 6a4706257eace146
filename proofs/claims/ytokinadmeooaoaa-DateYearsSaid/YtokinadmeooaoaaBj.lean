import Derived.Test.YtokinadmeooaoaaBi
namespace Go.Proofs.Ytokinadmeooaoaa
open Go.RowKit
theorem subf_any (u v : Value) (m n : Nat) (w : World) (hu : MagR w u m) (hv : MagR w v n) (bm : m < Big.pw 1000000) (hle : n ≤ m) :
    Calls Try.prog 64 #[u, v] w fun e w' => (∃ b len cap, e = .returned (.slice b len cap) ∧ MagR w' (.slice b len cap) (m - n) ∧ ∀ x, b = some x → w.heap.size ≤ x.block) ∧ Below w.heap.size w w' := by
  obtain ⟨a, len, cap, l, rfl, h1, h2, rfl⟩ := hu
  obtain ⟨a', len', cap', l', rfl, h1', h2', rfl⟩ := hv
  have hl : len' ≤ len := by
    rcases Nat.lt_or_ge len len' with h | h
    · have := h2.length_lt_val h2' (by rw [h1.1, h1'.1]; exact h); omega
    · exact h
  refine (sub_fresh a len cap l a' len' cap' l' w h1 h1' h2.1 h2'.1 (MagR.small h1 h2 bm) hl).mono ?_
  rintro e w' ⟨⟨out, b, cap2, rfl, hn, hd, hv, hlo, hfr⟩, hb⟩
  refine ⟨⟨_, _, _, rfl, ?_, hfr⟩, hb⟩
  have hlt := Big.val_lt hd
  obtain ⟨c, hc, hv⟩ := hv.out
  rw [hlo] at hlt
  have hc0 : c = 0 := by
    rcases Nat.eq_zero_or_pos c with h | h
    · exact h
    · have : c = 1 := by omega
      subst this; omega
  subst hc0
  have e : Big.val out = Big.val l - Big.val l' := by omega
  rw [← e]; exact MagR.trim hn hd
/-- A store into another block. -/
theorem Nums.far {w : World} {a : Option Addr} {len cap g j : Nat} {l : List Nat} {u : Value} (h : Nums w a len cap l) (hne : ∀ x, a = some x → x.block ≠ g) : Nums (w.setCell ⟨g, j, none⟩ u) a len cap l := by
  obtain ⟨h1, h2, h2', h3⟩ := h
  refine ⟨h1, h2, h2', fun hp => ?_⟩
  obtain ⟨b, o, ha, hlt, hc⟩ := h3 hp
  refine ⟨b, o, ha, by simpa [World.setCell] using hlt, fun i v hv => ?_⟩
  rw [World.cell?_of_block (w := w) (Below.heap_setCell w ⟨g, j, none⟩ u b (hne _ ha))]
  exact hc i v hv
theorem dv_set (q : List Nat) (j n : Nat) (z : Int) (hz : z = (n : Int)) : (dv q).toArray.setIfInBounds j (.int .u64 z) = (dv (q.set j n)).toArray := by
  subst hz; simp [dv, List.map_set]
end Go.Proofs.Ytokinadmeooaoaa
