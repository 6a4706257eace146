/- LedgerEven, walked. -/
import Derived.Test.YtgbiimoednmlgaaLdJ
namespace Go.Proofs.Ytgbiimoednmlgaa
set_option linter.unusedVariables false
set_option linter.unusedSimpArgs false
open Go.RowKit
theorem Sl.drop {w : World} {X : List Nat} {sz len cap : Nat} {b o : Nat} {vs : List (List Value)} (h : Sl w X sz (some ⟨b, o, none⟩) len cap vs) (k : Nat) (hk : k ≤ len) : Sl w X sz (some ⟨b, o + k * sz, none⟩) (len - k) (cap - k) (vs.drop k) := by
  obtain ⟨h1, h2, h3, h4⟩ := h
  refine ⟨by simp; omega, by omega, by omega, fun hp => ?_⟩
  obtain ⟨b', o', ha, hb, hx, hc⟩ := h4 (by omega)
  injection ha with ha
  injection ha with e1 e2
  subst e1; subst e2
  refine ⟨b, o + k * sz, rfl, hb, hx, fun i cs hi => ?_⟩
  rw [List.getElem?_drop] at hi
  have := hc (k + i) cs hi
  refine ⟨this.1, fun j c hj => ?_⟩
  rw [← this.2 j c hj, show o + (k + i) * sz + j = o + k * sz + i * sz + j by rw [Nat.add_mul]; omega]
theorem SlR.dropAt {α : Type} {K : Elt α} {w : World} {X : List Nat} {l : List α} {len cap b o : Nat} (h : SlR K w X l (some ⟨b, o, none⟩) len cap) (k : Nat) (hk : k ≤ len) : SlR K w X (l.drop k) (some ⟨b, o + k * K.sz, none⟩) (len - k) (cap - k) := by
  obtain ⟨vs, h1, h2, h3⟩ := h
  refine ⟨vs.drop k, by simp [h1], fun i x cs hi hc => h2 (k + i) x cs ?_ ?_, Sl.drop h3 k hk⟩
  · rw [List.getElem?_drop] at hi; exact hi
  · rw [List.getElem?_drop] at hc; exact hc
/-- Nothing left. -/
theorem SlR.empty {α : Type} {K : Elt α} {w w' : World} {X X' : List Nat} {l : List α} {a a' : Option Addr} {cap cap' : Nat} (h : SlR K w X l a 0 cap) (hc : cap' ≤ 9223372036854775807) : SlR K w' X' [] a' 0 cap' :=
  ⟨[], rfl, fun i x cs hx => by simp at hx, rfl, Nat.zero_le _, hc, fun hp => absurd hp (Nat.lt_irrefl _)⟩
/-- What the model's slice gives from a place on. -/
theorem SlR.from {α : Type} {K : Elt α} {w : World} {X : List Nat} {l : List α} {a : Option Addr} {len cap : Nat} (h : SlR K w X l a len cap) (k : Nat) (hk : k ≤ len) : SlR K w X (l.drop k) (if cap = k then a else a.map (fun p => p.add (k * K.sz))) (len - k) (cap - k) := by
  have hf := h.facts
  by_cases hl : k = len
  · have hd : l.drop k = [] := List.drop_eq_nil_of_le (by omega)
    rw [hd, hl, Nat.sub_self]
    have h0 := h.take 0 (Nat.zero_le _)
    exact SlR.empty h0 (by omega)
  · rw [if_neg (by omega)]
    obtain ⟨b, o, x, cs, rfl, -⟩ := h.at k (by omega)
    have := SlR.dropAt h k hk
    have e : (⟨b, o, none⟩ : Addr).add (k * K.sz) = ⟨b, o + k * K.sz, none⟩ := by
      unfold Addr.add
      by_cases h0 : k * K.sz = 0
      · simp [h0]
      · simp [h0]
    show SlR K w X (l.drop k) (some ((⟨b, o, none⟩ : Addr).add (k * K.sz))) (len - k) (cap - k)
    rw [e]; exact this
/-- What even answers. -/
def EvR (w' : World) (m : List Mv) (x : Ending) : Prop := ∃ (out : List Acct) (a : Option Addr) (c : Nat) (e : Int), x = .returned (.tuple #[.slice a out.length c, .bool (decide (e = 0))]) ∧ SlR acctK w' [] out a out.length c ∧ Verd [] m out e ∧ out.length ≤ 2 * m.length
set_option maxRecDepth 100000 in
set_option maxHeartbeats 4000000 in
theorem evenl_any (m : List Mv) (ma : Option Addr) (ml mc : Nat) (w : World) (hm : SlR mvK w [] m ma ml mc) (hml : ml ≤ 1000) :
    Calls Try.prog 20 #[.slice ma ml mc] w fun x w' => EvR w' m x ∧ Below w.heap.size w w' := by
  have HMV := Lib.hid (moves_any m ma ml mc w hm (by omega))
  have HN := Lib.hid hml
  clear hm hml
  go_enter Try.func20, Try.ntmps20
  go_wp2_with fail
  go_at_call 11
  (with_reducible refine HMV.out.mono ?_)
  rintro x w1 ⟨⟨a1, c1, rfl, hs1⟩, b1⟩
  have HPO := Lib.hid (post_any [] m none 0 0 a1 ml c1 w1 (SlR.nil _ _ _) hs1 (by omega) HN.out)
  have HB1 := Lib.hid b1
  clear HMV hs1 b1
  go_wp2_with fail
  go_at_call 12
  (with_reducible refine HPO.out.mono ?_)
  rintro x w2 ⟨⟨out, a, c, e, rfl, hs, hv, hl⟩, b2⟩
  have HB2 := Lib.hid (HB1.out.trans (b2.mono HB1.out.size))
  have HR : Hid (EvR w2 m (.returned (.tuple #[.slice a out.length c, .bool (decide (e = 0))]))) := ⟨out, a, c, e, rfl, hs, hv, by simpa using hl⟩
  clear HPO hs hv b2 hl HB1
  by_cases he : e = 0
  · have he' : (e == 0) = true := by simpa using he
    rw [decide_eq_true he] at HR
    clear he
    go_wp2_with fail
    go_ret2
    exact ⟨HR.out, HB2.out⟩
  · have he' : (e == 0) = false := by simpa using he
    rw [decide_eq_false he] at HR
    clear he
    go_wp2_with fail
    go_ret2
    exact ⟨HR.out, HB2.out⟩
end Go.Proofs.Ytgbiimoednmlgaa
