/- slices.Clone over expressions. -/
import Derived.Test.YtjpkljkmignnjaaRow
import Derived.Test.YtjpkljkmignnjaaProg
import Derived.Test.YtjpkljkmignnjaaChecked
import Derived.WalkSpells
import Derived.LoopTactic
namespace Go.Proofs.Ytjpkljkmignnjaa
set_option linter.unusedVariables false
set_option linter.unusedSimpArgs false
open Go.RowKit
set_option maxRecDepth 100000 in
set_option maxHeartbeats 1000000 in
/-- Clone; condition: not more elements than 1000000. -/
theorem cloneE_any (l : List Ex) (X : List Nat) (a : Option Addr) (len cap : Nat) (w : World) (hS : SlE w X l a len cap) (hX : ∀ b ∈ X, b < w.heap.size) (hb : len ≤ 1000000) :
    Calls Try.prog 40 #[.slice a len cap] w fun e w' => (∃ a' cap', e = .returned (.slice a' len cap') ∧ SlE w' X l a' len cap') ∧ Below w.heap.size w w' := by
  obtain ⟨f1, f2, f3⟩ := hS.facts
  have HS := Lib.hid hS
  have HXX := Lib.hid hX
  cases a with
  | none =>
    have h0 : len = 0 := by
      obtain ⟨vs, h1, _, h3⟩ := hS
      rcases Nat.eq_zero_or_pos len with h | h
      · exact h
      · obtain ⟨b, o, ha, _⟩ := h3.2.2.2 h; cases ha
    subst h0
    have hl : l = [] := List.length_eq_zero_iff.1 f1
    subst hl
    clear hS hX f1
    have hnil : ∀ W, (binOp .eql 26 (.slice none 0 cap) (.slice none 0 0)).run Try.prog W = .ok (.bool true) W := fun W => Lib.run_eql_slice_nil W _ _ none 0 cap 0 0 Try.underlying26
    go_enter Try.func40, Try.ntmps40
    go_wp2
    go_ret
    exact ⟨⟨none, 0, rfl, SlE.nil _ _⟩, Below.refl _ _⟩
  | some ad =>
    obtain ⟨vs, h1, h2, h3⟩ := hS
    have HV := Lib.hid h3
    have HL := Lib.hid (flat_len 4 vs h3.len4)
    have H1 := Lib.hid h1
    have H2 := Lib.hid h2
    have H4 := Lib.hid h3.len4
    have HO : Hid (∀ u ∈ vs.flatten, u.oneCell' = true) := flat_one (fun c hc => by
      obtain ⟨i, hi, rfl⟩ := List.getElem_of_mem hc
      exact (h2 i _ _ (List.getElem?_eq_getElem (by omega)) (List.getElem?_eq_getElem hi)).one.2)
    have hvl : vs.length = len := h3.1
    have HVL := Lib.hid hvl
    have HN := Lib.hid (Mem.Own.lit (e := 38) (size := 4) (Below.refl w.heap.size w) #[] 0 (by decide) rfl)
    have HA : Hid (∃ b o, ad = ⟨b, o, none⟩ ∨ len = 0) := by
      rcases Nat.eq_zero_or_pos len with h | h
      · exact ⟨0, 0, .inr h⟩
      · obtain ⟨b, o, ha, _⟩ := h3.2.2.2 h; injection ha with ha; exact ⟨b, o, .inl ha⟩
    have HCL : Hid (∀ j u, vs.flatten[j]? = some u → (w.alloc (.cells #[] 38)).cell? (ad.add j) = some u) := by
      intro j u hu
      have hj : j < vs.flatten.length := (List.getElem?_eq_some_iff.1 hu).1
      have hp : 0 < len := by rw [HL.out, hvl] at hj; omega
      obtain ⟨b, o, ha, hblt, _⟩ := h3.2.2.2 hp
      injection ha with ha; subst ha
      rw [Mem.add_off, World.cell?_alloc_lt w _ ⟨b, o + j, none⟩ hblt, ← Mem.add_off]
      exact h3.cells (by decide) j u hu
    clear h3 h2 h1 hX f1 hvl
    have hnil : ∀ W, (binOp .eql 26 (.slice (some ad) len cap) (.slice none 0 0)).run Try.prog W = .ok (.bool false) W := fun W => Lib.run_eql_slice_nil W _ _ (some ad) len cap 0 0 Try.underlying26
    go_enter Try.func40, Try.ntmps40
    go_wp2_with (at_builtin; refine Mem.ap infoE Try.underlying26 rfl (by decide) rfl (.tmp 5) (.tmp 6) rfl rfl HN.out ad len cap vs.flatten rfl (by rw [HL.out, HVL.out]) HCL.out HO.out (by unfold maxLen; omega) (by omega) ?_; intro v' w' o' g' _ _; rw [Nat.zero_add] at o')
    obtain ⟨a2, cap2, rfl, hsl, _⟩ := own_sl o' HVL.out H4.out HXX.out
    have R := Lib.hid (show SlE w' X l a2 len cap2 from ⟨vs, H1.out, fun i e cs he hc => (H2.out i e cs he hc).kept (Kept.of_below o'.below X), hsl⟩)
    have B := Lib.hid o'.below
    clear o' g' hsl
    go_wp2
    go_ret
    exact ⟨⟨_, _, rfl, R.out⟩, B.out⟩
end Go.Proofs.Ytjpkljkmignnjaa
