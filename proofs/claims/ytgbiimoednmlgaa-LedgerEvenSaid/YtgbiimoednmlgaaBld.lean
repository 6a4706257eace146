/- Build: its nodes and numbers; plain. -/
import Derived.Test.YtgbiimoednmlgaaSep
namespace Go.Proofs.Ytgbiimoednmlgaa
set_option linter.unusedVariables false
set_option linter.unusedSimpArgs false
open Go.RowKit
theorem cell_lt {w : World} {a : Addr} {v : Value} (h : w.cell? a = some v) : a.block < w.heap.size := by
  rcases Nat.lt_or_ge a.block w.heap.size with h1 | h1
  · exact h1
  · have : w.heap[a.block]? = none := Array.getElem?_eq_none h1
    simp [World.cell?, this] at h
/-- What was there is there behind what only makes memory. -/
theorem cell_up {w w' : World} {p : Addr} {v : Value} (h : w.cell? p = some v) (hb : Below w.heap.size w w') : w'.cell? p = some v := (hb.cell (cell_lt h)).trans h
theorem below_new (w : World) (o : Obj) : Below w.heap.size w (w.alloc o).drew := ((Below.refl w.heap.size w).alloc (Nat.le_refl _) o).drew
def ndI (n : Nat) : Int := if n < 1000 then (n : Int) else 1000
def rkI (n r : Nat) : Int := if n < 1000 then (r : Int) else 1000
theorem ndI_bd (n : Nat) : 0 ≤ ndI n ∧ ndI n ≤ 1000 := by unfold ndI; split <;> omega
theorem rkI_bd (n r : Nat) (h : r < 1000) : 0 ≤ rkI n r ∧ rkI n r ≤ 1000 := by unfold rkI; split <;> omega
/-- Of S nodes, M deep, with k within: what N and D are so far. -/
structure Cnt (k S M : Nat) (N D : Int) : Prop where
  n1 : 1 ≤ N
  n2 : N ≤ 1 + 1000 * (k : Int)
  d1 : 1 ≤ D
  d2 : D ≤ 1001
  yes : S < 1000 → N = (S : Int) ∧ D = (M : Int)
  no : 1000 ≤ S → 1000 ≤ N ∨ 1000 ≤ D
theorem Cnt.one : Cnt 0 1 1 1 1 := ⟨by omega, by omega, by omega, by omega, fun _ => ⟨rfl, rfl⟩, fun h => by omega⟩
theorem Cnt.step {k S M : Nat} {N D : Int} (h : Cnt k S M N D) {n r : Nat} (hn : 1 ≤ n) (hr : r < 1000) : Cnt (k + 1) (S + n) (max M (r + 1)) (N + ndI n) (max D (rkI n r + 1)) := by
  obtain ⟨h1, h2, h3, h4, h5, h6⟩ := h
  have b1 := ndI_bd n
  have b2 := rkI_bd n r hr
  refine ⟨by omega, by omega, by omega, by omega, fun hS => ?_, fun hS => ?_⟩
  · obtain ⟨e1, e2⟩ := h5 (by omega)
    have hn' : n < 1000 := by omega
    unfold ndI rkI
    rw [if_pos hn', if_pos hn']
    constructor <;> omega
  · by_cases hS' : 1000 ≤ S
    · rcases h6 hS' with h7 | h7
      · exact .inl (by omega)
      · exact .inr (by omega)
    · obtain ⟨e1, e2⟩ := h5 (by omega)
      by_cases hn' : n < 1000
      · left; unfold ndI; rw [if_pos hn']; omega
      · left; unfold ndI; rw [if_neg hn']; omega
theorem Cnt.great {k S M : Nat} {N D : Int} (h : Cnt k S M N D) (hM : M < 1000) (hg : 1000 ≤ N ∨ 1000 ≤ D) : ndI S = 1000 ∧ rkI S M = 1000 := by
  have : ¬ S < 1000 := fun hS => by obtain ⟨e1, e2⟩ := h.yes hS; omega
  unfold ndI rkI
  rw [if_neg this, if_neg this]
  exact ⟨rfl, rfl⟩
theorem Cnt.small {k S M : Nat} {N D : Int} (h : Cnt k S M N D) (h1 : N < 1000) (h2 : D < 1000) : ndI S = N ∧ rkI S M = D := by
  have hS : S < 1000 := by
    rcases Nat.lt_or_ge S 1000 with h3 | h3
    · exact h3
    · rcases h.no h3 with h4 | h4 <;> omega
  obtain ⟨e1, e2⟩ := h.yes hS
  unfold ndI rkI
  rw [if_pos hS, if_pos hS]
  exact ⟨e1.symm, e2.symm⟩
theorem Ex.nd_snoc (l : List Ex) (x : Ex) : Ex.nd.go (l ++ [x]) = Ex.nd.go l + x.nd := by
  induction l with
  | nil => simp [Ex.nd.go]
  | cons y t ih => simp only [List.cons_append, Ex.nd.go, ih]; omega
theorem Ex.rk_snoc (l : List Ex) (x : Ex) : Ex.rk.go (l ++ [x]) = max (Ex.rk.go l) x.rk := by
  induction l with
  | nil => simp [Ex.rk.go]
  | cons y t ih => simp only [List.cons_append, Ex.rk.go, ih]; omega
theorem Te.nd_snoc (l : List Te) (x : Te) : Te.nd.go (l ++ [x]) = Te.nd.go l + x.nd := by
  induction l with
  | nil => simp [Te.nd.go]
  | cons y t ih => simp only [List.cons_append, Te.nd.go, ih]; omega
theorem Te.rk_snoc (l : List Te) (x : Te) : Te.rk.go (l ++ [x]) = max (Te.rk.go l) x.rk := by
  induction l with
  | nil => simp [Te.rk.go]
  | cons y t ih => simp only [List.cons_append, Te.rk.go, ih]; omega
theorem Ex.rk_go_le {l : List Ex} {b : Nat} (h : ∀ e ∈ l, e.rk ≤ b) : Ex.rk.go l ≤ b := by
  induction l with
  | nil => simp [Ex.rk.go]
  | cons y t ih =>
    simp only [Ex.rk.go]
    have h1 := h y (by simp)
    have h2 := ih (fun e he => h e (by simp [he]))
    omega
theorem Te.rk_go_le {l : List Te} {b : Nat} (h : ∀ e ∈ l, e.rk ≤ b) : Te.rk.go l ≤ b := by
  induction l with
  | nil => simp [Te.rk.go]
  | cons y t ih =>
    simp only [Te.rk.go]
    have h1 := h y (by simp)
    have h2 := ih (fun e he => h e (by simp [he]))
    omega
theorem Ex.nd_pos' (e : Ex) : 1 ≤ e.nd := by cases e; simp only [Ex.nd]; omega
theorem Te.nd_pos' (e : Te) : 1 ≤ e.nd := by cases e; simp only [Te.nd]; omega
theorem max_if (a b : Int) : (if a < b then b else a) = max a b := by split <;> omega
theorem Cnt.push {args : List Ex} {x : Ex} {N D : Int} (h : Cnt args.length (1 + Ex.nd.go args) (1 + Ex.rk.go args) N D) (hr : x.rk < 1000) :
    Cnt (args ++ [x]).length (1 + Ex.nd.go (args ++ [x])) (1 + Ex.rk.go (args ++ [x])) (N + ndI x.nd) (if D < rkI x.nd x.rk + 1 then rkI x.nd x.rk + 1 else D) := by
  have h1 := h.step x.nd_pos' hr
  rw [max_if, Ex.nd_snoc, Ex.rk_snoc, List.length_append]
  rw [show 1 + (Ex.nd.go args + x.nd) = 1 + Ex.nd.go args + x.nd by omega, show 1 + max (Ex.rk.go args) x.rk = max (1 + Ex.rk.go args) (x.rk + 1) by omega]
  exact h1
/-- A term's: its expressions first, then its terms. -/
def Te.nds (xs : List Ex) (ts : List Te) : Nat := 1 + Ex.nd.go xs + Te.nd.go ts
def Te.rks (xs : List Ex) (ts : List Te) : Nat := 1 + max (Ex.rk.go xs) (Te.rk.go ts)
theorem Cnt.pushX {xs : List Ex} {x : Ex} {k : Nat} {N D : Int} (h : Cnt k (Te.nds xs []) (Te.rks xs []) N D) (hr : x.rk < 1000) :
    Cnt (k + 1) (Te.nds (xs ++ [x]) []) (Te.rks (xs ++ [x]) []) (N + ndI x.nd) (if D < rkI x.nd x.rk + 1 then rkI x.nd x.rk + 1 else D) := by
  have h1 := h.step x.nd_pos' hr
  unfold Te.nds Te.rks at *
  rw [max_if, Ex.nd_snoc, Ex.rk_snoc]
  simp only [Te.nd.go, Te.rk.go] at *
  rw [show 1 + (Ex.nd.go xs + x.nd) + 0 = 1 + Ex.nd.go xs + 0 + x.nd by omega, show 1 + max (max (Ex.rk.go xs) x.rk) 0 = max (1 + max (Ex.rk.go xs) 0) (x.rk + 1) by omega]
  exact h1
theorem Cnt.pushT {xs : List Ex} {ts : List Te} {x : Te} {k : Nat} {N D : Int} (h : Cnt k (Te.nds xs ts) (Te.rks xs ts) N D) (hr : x.rk < 1000) :
    Cnt (k + 1) (Te.nds xs (ts ++ [x])) (Te.rks xs (ts ++ [x])) (N + ndI x.nd) (if D < rkI x.nd x.rk + 1 then rkI x.nd x.rk + 1 else D) := by
  have h1 := h.step x.nd_pos' hr
  unfold Te.nds Te.rks at *
  rw [max_if, Te.nd_snoc, Te.rk_snoc]
  rw [show 1 + Ex.nd.go xs + (Te.nd.go ts + x.nd) = 1 + Ex.nd.go xs + Te.nd.go ts + x.nd by omega, show 1 + max (Ex.rk.go xs) (max (Te.rk.go ts) x.rk) = max (1 + max (Ex.rk.go xs) (Te.rk.go ts)) (x.rk + 1) by omega]
  exact h1
/-- The nodes that come in. -/
structure Lf where
  op : Int
  n : Int
  nm : ByteArray
  kids : List Int
structure Kn where
  op : Int
  nm : ByteArray
  exprs : List Int
  terms : List Int
def lfK : Elt Lf where
  sz := 4
  pos := by decide
  R := fun w X x cs => ∃ a cap, cs = [.int .i64 x.op, .int .i64 x.n, .string x.nm, .slice a x.kids.length cap] ∧ I64 x.op ∧ I64 x.n ∧ x.nm.size ≤ 9223372036854775807 ∧ SlR i64K w X x.kids a x.kids.length cap
  kept := fun h k => by obtain ⟨a, cap, rfl, h1, h2, h3, h4⟩ := h; exact ⟨a, cap, rfl, h1, h2, h3, h4.kept k⟩
  less := fun h k => by obtain ⟨a, cap, rfl, h1, h2, h3, h4⟩ := h; exact ⟨a, cap, rfl, h1, h2, h3, h4.less k⟩
  one := fun h => by obtain ⟨a, cap, rfl, h1, h2, h3, h4⟩ := h; exact ⟨rfl, by simp [Value.oneCell']⟩
def knK : Elt Kn where
  sz := 4
  pos := by decide
  R := fun w X x cs => ∃ a cap a' cap', cs = [.int .i64 x.op, .string x.nm, .slice a x.exprs.length cap, .slice a' x.terms.length cap'] ∧ I64 x.op ∧ x.nm.size ≤ 9223372036854775807 ∧ SlR i64K w X x.exprs a x.exprs.length cap ∧ SlR i64K w X x.terms a' x.terms.length cap'
  kept := fun h k => by obtain ⟨a, cap, a', cap', rfl, h1, h2, h3, h4⟩ := h; exact ⟨a, cap, a', cap', rfl, h1, h2, h3.kept k, h4.kept k⟩
  less := fun h k => by obtain ⟨a, cap, a', cap', rfl, h1, h2, h3, h4⟩ := h; exact ⟨a, cap, a', cap', rfl, h1, h2, h3.less k, h4.less k⟩
  one := fun h => by obtain ⟨a, cap, a', cap', rfl, h1, h2, h3, h4⟩ := h; exact ⟨rfl, by simp [Value.oneCell']⟩
def nds (es : List Ex) : List Int := es.map fun e => ndI e.nd
def rks (es : List Ex) : List Int := es.map fun e => rkI e.nd e.rk
def ndsT (ts : List Te) : List Int := ts.map fun e => ndI e.nd
def rksT (ts : List Te) : List Int := ts.map fun e => rkI e.nd e.rk
/-- The j-th element of a slice that grows: its cells, clear of all that is written. -/
theorem Sep.elt {α : Type} {K : Elt α} {e : TypeId} {base : Nat} {w : World} {fam : List Ob} {l : List α} {v : Value} (h : Sep w fam) (i : Nat) (hi : fam[i]? = some (gr K e base l v)) (j : Nat) (hj : j < l.length) :
    ∃ g cap x cs, v = .slice (some ⟨g, 0, none⟩) l.length cap ∧ l.length ≤ cap ∧ l[j]? = some x ∧ K.R w (owns fam) x cs ∧ cs.length = K.sz ∧ ∀ m c, m < K.sz → cs[m]? = some c → w.cell? ⟨g, j * K.sz + m, none⟩ = some c := by
  obtain ⟨csl, hG⟩ := h.at i hi
  obtain ⟨g, cap, rfl, hg0, hg1, hg2, hob⟩ := own_form hG.own (by omega)
  have hx : l[j]? = some (l[j]'hj) := List.getElem?_eq_getElem hj
  have hc : csl[j]? = some (csl[j]'(by rw [hG.count]; exact hj)) := List.getElem?_eq_getElem (by rw [hG.count]; exact hj)
  have hR := hG.elts j _ _ hx hc
  refine ⟨g, cap, _, _, rfl, hg2, hx, K.less hR (fun b _ hm => ?_), (K.one hR).1, fun m c hm hcm => ?_⟩
  · obtain ⟨q, o, hq, hb⟩ := mem_owns.1 hm
    by_cases hqi : q = i
    · subst hqi
      rw [hi] at hq
      injection hq with hq
      subst hq
      have hb' : b ∈ (Value.slice (some ⟨g, 0, none⟩) l.length cap).ownBlock.toList := hb
      rw [Option.mem_toList] at hb'
      exact busy_mem.2 (.inl hb')
    · exact busy_mem.2 (.inr (mem_others.2 ⟨q, o, hqi, hq, hb⟩))
  · rw [hG.own.cellAt (j * K.sz + m) (by calc j * K.sz + m < j * K.sz + K.sz := by omega
                                              _ = (j + 1) * K.sz := by rw [Nat.add_mul]; omega
                                              _ ≤ l.length * K.sz := Nat.mul_le_mul_right _ (by omega)), flat_get K.sz csl hG.len4 j m _ hc hm]
    exact hcm
/-- What a slice that grows is, as a value. -/
theorem Sep.form {α : Type} {K : Elt α} {e : TypeId} {base : Nat} {w : World} {fam : List Ob} {l : List α} {v : Value} (h : Sep w fam) (i : Nat) (hi : fam[i]? = some (gr K e base l v)) : ∃ a cap, v = .slice a l.length cap := by
  obtain ⟨a, cap, hv, _⟩ := h.still i hi
  exact ⟨a, cap, hv⟩
end Go.Proofs.Ytgbiimoednmlgaa
