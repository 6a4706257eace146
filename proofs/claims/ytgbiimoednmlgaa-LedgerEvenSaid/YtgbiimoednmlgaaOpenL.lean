/- What came in, opened: accounts, moves. -/
import Derived.Test.YtgbiimoednmlgaaOpen
import Derived.Test.YtgbiimoednmlgaaLdM
namespace Go.Proofs.Ytgbiimoednmlgaa
set_option linter.unusedVariables false
set_option linter.unusedSimpArgs false
open Go.ChangeShapes Go.WideShapes Go.ChangeAt Go.RowKit Go.Deep
theorem three_list {α : Type} {cs : List α} (h : cs.length = 3) {a b c : α} (h0 : cs[0]? = some a) (h1 : cs[1]? = some b) (h2 : cs[2]? = some c) : cs = [a, b, c] := by
  match cs, h with
  | [p, q, r], _ => simp at h0 h1 h2; subst h0; subst h1; subst h2; rfl
theorem opens_acct : Opens Try.prog 58 acctK := by
  intro H enc W fuel cs x h
  obtain ⟨hl, hf⟩ := opens_struct Try.underlying58 (by kernel_rfl) (by kernel_rfl) h
  obtain ⟨v0, n0, y0, c0, t0⟩ := hf 0 _ rfl
  obtain ⟨v1, n1, y1, c1, t1⟩ := hf 1 _ rfl
  obtain ⟨v2, n2, y2, c2, t2⟩ := hf 2 _ rfl
  obtain ⟨a0, e0, _, w0⟩ := DataW.trod_string Try.underlying9 t0
  obtain ⟨a1, e1, _, w1⟩ := DataW.trod_string Try.underlying9 t1
  obtain ⟨a2, e2, _, w2⟩ := DataW.trod_int (k := .i64) Try.underlying2 t2
  injection e0 with e0; injection e1 with e1; injection e2 with e2
  subst e0; subst e1; subst e2
  exact ⟨⟨a0, a1, a2⟩, three_list hl c0 c1 c2, ⟨w0, w1, i64_of w2⟩⟩
theorem opens_mv : Opens Try.prog 40 mvK := by
  intro H enc W fuel cs x h
  obtain ⟨hl, hf⟩ := opens_struct Try.underlying40 (by kernel_rfl) (by kernel_rfl) h
  obtain ⟨v0, n0, y0, c0, t0⟩ := hf 0 _ rfl
  obtain ⟨v1, n1, y1, c1, t1⟩ := hf 1 _ rfl
  obtain ⟨v2, n2, y2, c2, t2⟩ := hf 2 _ rfl
  obtain ⟨v3, n3, y3, c3, t3⟩ := hf 3 _ rfl
  obtain ⟨a0, e0, _, w0⟩ := DataW.trod_string Try.underlying9 t0
  obtain ⟨a1, e1, _, w1⟩ := DataW.trod_string Try.underlying9 t1
  obtain ⟨a2, e2, _, w2⟩ := DataW.trod_string Try.underlying9 t2
  obtain ⟨a3, e3, _, w3⟩ := DataW.trod_int (k := .i64) Try.underlying2 t3
  injection e0 with e0; injection e1 with e1; injection e2 with e2; injection e3 with e3
  subst e0; subst e1; subst e2; subst e3
  exact ⟨⟨a0, a1, a2, a3⟩, four_list hl c0 c1 c2 c3, ⟨w0, w1, w2, i64_of w3⟩⟩
theorem accts_of {H : Type} {enc : TypeId × Value → H} {W : World} {a : Option Addr} {len cap : Nat} {x : DataW H × List MemPlace} (k : ∃ fuel, DataW.trod enc Try.prog W 0 (fun _ => true) true fuel 22 (Value.cells (.slice a len cap)).toList = some x) : ∃ l, SlR acctK W [] l a len cap := by
  obtain ⟨fuel, hf⟩ := k
  obtain ⟨a', len', cap', l, e, hS⟩ := opens_slice (K := acctK) Try.underlying22 (by kernel_rfl) opens_acct hf
  have e' : (Value.slice a len cap) = .slice a' len' cap' := by
    have := List.head_eq_of_cons_eq e
    exact this
  injection e' with h1 h2 h3
  subst h1; subst h2; subst h3
  exact ⟨l, hS⟩
theorem mvs_of {H : Type} {enc : TypeId × Value → H} {W : World} {a : Option Addr} {len cap : Nat} {x : DataW H × List MemPlace} (k : ∃ fuel, DataW.trod enc Try.prog W 0 (fun _ => true) true fuel 23 (Value.cells (.slice a len cap)).toList = some x) : ∃ l, SlR mvK W [] l a len cap := by
  obtain ⟨fuel, hf⟩ := k
  obtain ⟨a', len', cap', l, e, hS⟩ := opens_slice (K := mvK) Try.underlying23 (by kernel_rfl) opens_mv hf
  have e' : (Value.slice a len cap) = .slice a' len' cap' := by
    have := List.head_eq_of_cons_eq e
    exact this
  injection e' with h1 h2 h3
  subst h1; subst h2; subst h3
  exact ⟨l, hS⟩
end Go.Proofs.Ytgbiimoednmlgaa
