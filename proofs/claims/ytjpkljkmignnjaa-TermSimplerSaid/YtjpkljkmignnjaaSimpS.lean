/- What the loop of simple leaves: each element, and the whole. -/
import Derived.Test.YtjpkljkmignnjaaSimpR
namespace Go.Proofs.Ytjpkljkmignnjaa
set_option linter.unusedVariables false
set_option linter.unusedSimpArgs false
open Go.RowKit
theorem SimpRel.elem {w : World} {base : Nat} {wr : World} {X : List Nat} {h0 : Nat} {ex : List Ex} {te : List Te} {op : Int} {nm : ByteArray} {a : Option Addr} {len cap : Nat} {a2 : Option Addr} {len2 cap2 : Nat} {a3 : Option Addr} {cap3 : Nat} {k : Nat} {v : Value} {csl : List (List Value)}
    (h : SimpRel w base wr X h0 ex te op nm a len cap a2 len2 cap2 a3 cap3 k v csl) (j : Nat) (hj : j < k) (hk : k ≤ te.length) :
    ∃ g capn t o n x y p l q p2 l2 q2, v = .slice (some ⟨g, 0, none⟩) k capn ∧ k ≤ capn ∧ te[j]? = some t ∧ sT t = .mk o n x y ∧ g ≠ w.heap.size + 1 ∧ g ≠ h0 ∧ g < wr.heap.size ∧
      Four wr g (j * 4) (.int .i64 o) (.string n) (.slice p l q) (.slice p2 l2 q2) ∧ RepT wr (h0 :: (w.heap.size + 1) :: X) (sT t) [.int .i64 o, .string n, .slice p l q, .slice p2 l2 q2] := by
  obtain ⟨g, capn, rfl, hg0, hg1, hg2, hob⟩ := own_form h.own (by omega)
  have ht : te[j]? = some (te[j]'(by omega)) := List.getElem?_eq_getElem (by omega)
  have hc : csl[j]? = some (csl[j]'(by rw [h.count]; exact hj)) := List.getElem?_eq_getElem (by rw [h.count]; exact hj)
  have hR := h.terms j _ _ ht hc
  have hlen4 : ∀ c ∈ csl, c.length = 4 := by
    intro c hcm
    obtain ⟨i, hi, rfl⟩ := List.getElem_of_mem hcm
    exact (h.terms i _ _ (List.getElem?_eq_getElem (by have := h.count; omega)) (List.getElem?_eq_getElem hi)).one.1
  have hR' : RepT wr (h0 :: (w.heap.size + 1) :: X) _ _ := hR.less (fun b _ hm => busy_mem.2 (.inr hm))
  obtain ⟨o, n, x, y, p, l, q, p2, l2, q2, e1, e2, _⟩ := hR.inv
  rw [e2] at hR' hc
  have hcell : ∀ i c, i < 4 → ([.int .i64 o, .string n, .slice p l q, .slice p2 l2 q2] : List Value)[i]? = some c → wr.cell? ⟨g, j * 4 + i, none⟩ = some c := by
    intro i c hi hci
    rw [h.own.cellAt (j * 4 + i) (by omega), flat_get 4 csl hlen4 j i _ hc hi]; exact hci
  have hlo := h.lo
  have hhi := h.hi
  exact ⟨g, capn, _, o, n, x, y, p, l, q, p2, l2, q2, rfl, hg2, ht, e1, by omega, by omega, hg1, ⟨hcell 0 _ (by omega) rfl, hcell 1 _ (by omega) rfl, hcell 2 _ (by omega) rfl, hcell 3 _ (by omega) rfl⟩, hR'⟩
theorem SimpRel.out {w : World} {base : Nat} {wr : World} {X : List Nat} {h0 : Nat} {ex : List Ex} {te : List Te} {op : Int} {nm : ByteArray} {a : Option Addr} {len cap : Nat} {a2 : Option Addr} {len2 cap2 : Nat} {a3 : Option Addr} {cap3 : Nat} {v : Value} {csl : List (List Value)} (ho : I64 op) (hs : nm.size ≤ 9223372036854775807)
    (h : SimpRel w base wr X h0 ex te op nm a len cap a2 len2 cap2 a3 cap3 te.length v csl) (hX : ∀ b ∈ X, b < w.heap.size) :
    ∃ av cv, v = .slice av te.length cv ∧ RepT wr ((w.heap.size + 1) :: X) (.mk op nm ex (te.map sT)) [.int .i64 op, .string nm, .slice a3 len cap3, .slice av te.length cv] := by
  have hlo := h.lo
  have hhi := h.hi
  have hlen4 : ∀ c ∈ csl, c.length = 4 := by
    intro c hcm
    obtain ⟨i, hi, rfl⟩ := List.getElem_of_mem hcm
    exact (h.terms i _ _ (List.getElem?_eq_getElem (by have := h.count; omega)) (List.getElem?_eq_getElem hi)).one.1
  have hmx : maxLen = 9223372036854775807 := by decide
  have hsl : ∃ av cv, v = .slice av te.length cv ∧ Sl wr ((w.heap.size + 1) :: X) 4 av te.length cv csl := by
    rcases h.own.2 with ⟨rfl, h00⟩ | ⟨g, capn, cur, rfl, h1, h2, h3, h4, h5, h6⟩
    · rw [h00]
      have : csl = [] := List.length_eq_zero_iff.1 (by rw [h.count, h00])
      subst this
      exact ⟨none, 0, rfl, Sl.nil _ _ _⟩
    · refine ⟨_, capn, rfl, h.count, h3, by omega, fun hp => ⟨g, 0, rfl, lt_of_block h2, fun hm => ?_, fun i cs hi => ⟨hlen4 cs (List.mem_of_getElem? hi), fun j c hj => ?_⟩⟩⟩
      · rcases List.mem_cons.1 hm with e | hm
        · omega
        · have := hX g hm; have := h.below.size; omega
      · have h4' := hlen4 cs (List.mem_of_getElem? hi)
        have hj4 : j < 4 := by rw [← h4']; exact (List.getElem?_eq_some_iff.1 hj).1
        have hi' : i < te.length := by rw [← h.count]; exact (List.getElem?_eq_some_iff.1 hi).1
        rw [Nat.zero_add, h.own.cellAt (i * 4 + j) (by omega), flat_get 4 csl hlen4 i j cs hi hj4]; exact hj
  obtain ⟨av, cv, rfl, hsl⟩ := hsl
  refine ⟨av, cv, rfl, RepT.mk' ho hs (h.exprs.less (fun b _ hm => busy_mem.2 (.inr (List.mem_cons_of_mem _ hm)))) ⟨csl, by rw [List.length_map, h.count], fun i t c ht hc => ?_, hsl⟩⟩
  rw [List.getElem?_map] at ht
  cases hti : te[i]? with
  | none => rw [hti] at ht; cases ht
  | some y =>
    rw [hti] at ht
    injection ht with ht
    subst ht
    exact (h.terms i y c hti hc).less (fun b _ hm => busy_mem.2 (.inr (List.mem_cons_of_mem _ hm)))
section
variable {nm n n2 : ByteArray} {ex x x2 : List Ex} {l y y2 : List Te} {o o2 : Int}
theorem rule3a (h : l.getD 0 zT = .mk 3 n x y) : ruleT 3 nm ex l = y.getD 0 zT := by unfold ruleT; rw [h]; simp [Te.op, Te.terms]
theorem rule3b (h : l.getD 0 zT = .mk 1 n x y) : ruleT 3 nm ex l = .mk 1 n x y := by unfold ruleT; rw [h]; simp [Te.op]
theorem rule3c (h : l.getD 0 zT = .mk o n x y) (h3 : o ≠ 3) (h1 : o ≠ 1) : ruleT 3 nm ex l = .mk 3 nm ex l := by unfold ruleT; rw [h]; simp [Te.op, h3, h1]
theorem rule7a {op : Int} (ho : op = 7 ∨ op = 8) (h : l.getD 0 zT = .mk 1 n x y) : ruleT op nm ex l = .mk 1 n x y := by unfold ruleT; rw [h]; rcases ho with rfl | rfl <;> simp [Te.op]
theorem rule7b {op : Int} (ho : op = 7 ∨ op = 8) (h : l.getD 0 zT = .mk o n x y) (h1 : o ≠ 1) : ruleT op nm ex l = .mk op nm ex l := by unfold ruleT; rw [h]; rcases ho with rfl | rfl <;> simp [Te.op, h1]
theorem rule6a (h : l.getD 0 zT = .mk 1 n x y) : ruleT 6 nm ex l = .mk 1 n x y := by unfold ruleT; rw [h]; simp [Te.op]
theorem rule6b (h : l.getD 0 zT = .mk o n x y) (h1 : o ≠ 1) (he : eqv (ex.getD 0 zE) oneE = true) : ruleT 6 nm ex l = .mk o n x y := by unfold ruleT; rw [h, he]; simp [Te.op, h1]
theorem rule6c (h : l.getD 0 zT = .mk o n x y) (h1 : o ≠ 1) (he : eqv (ex.getD 0 zE) oneE = false) : ruleT 6 nm ex l = .mk 6 nm ex l := by unfold ruleT; rw [h, he]; simp [Te.op, h1]
theorem rule4a (h : l.getD 0 zT = .mk 1 n x y) : ruleT 4 nm ex l = l.getD 1 zT := by unfold ruleT; rw [h]; simp [Te.op]
theorem rule4b (h : l.getD 0 zT = .mk o n x y) (h1 : o ≠ 1) (h' : l.getD 1 zT = .mk 1 n2 x2 y2) : ruleT 4 nm ex l = .mk o n x y := by unfold ruleT; rw [h, h']; simp [Te.op, h1]
theorem rule4c (h : l.getD 0 zT = .mk o n x y) (h1 : o ≠ 1) (h' : l.getD 1 zT = .mk o2 n2 x2 y2) (h2 : o2 ≠ 1) : ruleT 4 nm ex l = .mk 4 nm ex l := by unfold ruleT; rw [h, h']; simp [Te.op, h1, h2]
theorem rule0 {op : Int} (h3 : op ≠ 3) (h7 : ¬ (op = 7 ∨ op = 8)) (h6 : op ≠ 6) (h4 : op ≠ 4) : ruleT op nm ex l = .mk op nm ex l := by unfold ruleT; rw [if_neg h3, if_neg h7, if_neg h6, if_neg h4]
end
/-- What is stored where the answer lies. -/
theorem simp_fin {w wr : World} {X : List Nat} {t : Te} {ty : TypeId} {b0 b1 b2 b3 c0 c1 c2 c3 : Value} (hb : Below w.heap.size w wr) (hB : Mem.Blk wr (w.heap.size + 1) ty #[b0, b1, b2, b3]) (hR : RepT wr ((w.heap.size + 1) :: X) t [c0, c1, c2, c3]) :
    RepT ((((wr.setCell ⟨w.heap.size + 1, 0, none⟩ c0).setCell ⟨w.heap.size + 1, 1, none⟩ c1).setCell ⟨w.heap.size + 1, 2, none⟩ c2).setCell ⟨w.heap.size + 1, 3, none⟩ c3) X t [c0, c1, c2, c3] ∧
    Below w.heap.size w ((((wr.setCell ⟨w.heap.size + 1, 0, none⟩ c0).setCell ⟨w.heap.size + 1, 1, none⟩ c1).setCell ⟨w.heap.size + 1, 2, none⟩ c2).setCell ⟨w.heap.size + 1, 3, none⟩ c3) ∧
    Mem.Blk ((((wr.setCell ⟨w.heap.size + 1, 0, none⟩ c0).setCell ⟨w.heap.size + 1, 1, none⟩ c1).setCell ⟨w.heap.size + 1, 2, none⟩ c2).setCell ⟨w.heap.size + 1, 3, none⟩ c3) (w.heap.size + 1) ty #[c0, c1, c2, c3] := by
  have h1 : w.heap.size ≤ w.heap.size + 1 := by omega
  have k4 : Kept ((w.heap.size + 1) :: X) wr ((((wr.setCell ⟨w.heap.size + 1, 0, none⟩ c0).setCell ⟨w.heap.size + 1, 1, none⟩ c1).setCell ⟨w.heap.size + 1, 2, none⟩ c2).setCell ⟨w.heap.size + 1, 3, none⟩ c3) :=
    (((Kept.setCell wr (by simp) _).trans (Kept.setCell _ (by simp) _)).trans (Kept.setCell _ (by simp) _)).trans (Kept.setCell _ (by simp) _)
  exact ⟨(hR.kept k4).less (fun b _ hm => List.mem_cons_of_mem _ hm), (((hb.setCell h1 _).setCell h1 _).setCell h1 _).setCell h1 _, (((hB.set_ 0 _).set_ 1 _).set_ 2 _).set_ 3 _⟩
theorem getD_map {te : List Te} {j : Nat} {t : Te} (h : te[j]? = some t) : (te.map sT).getD j zT = sT t := by
  rw [List.getD_eq_getElem?_getD, List.getElem?_map, h]; rfl
end Go.Proofs.Ytjpkljkmignnjaa
