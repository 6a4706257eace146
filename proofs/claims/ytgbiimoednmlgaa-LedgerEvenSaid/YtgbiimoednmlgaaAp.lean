/- append onto a row of the call's own, as a step of a region that draws, and in a plain region. -/
import Derived.Test.YtgbiimoednmlgaaMem
import Derived.Test.YtgbiimoednmlgaaRow
import Derived.Deep.RegionHeld3
namespace Go.Proofs.Ytgbiimoednmlgaa
set_option linter.unusedVariables false
set_option linter.unusedSimpArgs false
open Go.RowKit
theorem step_ap {P : Program} {w : World} {ops : Array Oper} {o : Oper} {a : Act} {K : Act → World → Prop} {Q : Exit → Act → World → Prop} {E : Prop} {t e : TypeId} {z : Value} {size bytes base : Nat}
    (hinfo : (P.info? e).map (fun i => (i.zero, i.size, i.bytes)) = some (some z, size, bytes)) (ht : P.underlying t = some (.slice e)) (hzs : z.cells.size = size) (hsz : 0 < size)
    (hgd : o.guard = none) (s x : Operand) (ho : o.op = .call { callee := .builtin .append, args := #[s, x], argTypes := #[t, t] })
    {v : Value} {n : Nat} {xs : List Value} (hs : a.eval s = v) (hown : w.ownsRow base e size v n xs) (hbase : base ≤ w.heap.size)
    (ad : Addr) (m c : Nat) (news : List Value) (hx : a.eval x = .slice (some ad) m c) (hl : news.length = m * size)
    (hnews : ∀ j u, news[j]? = some u → w.cell? (ad.add j) = some u) (h1 : ∀ u ∈ news, u.oneCell' = true)
    (h63 : n + m ≤ maxLen) (hbytes : (n + m) * bytes ≤ 140737488355328)
    (h : ∀ v' w', w'.ownsRow base e size v' (n + m) (xs ++ news) → w.grownBy w' v.ownBlock → (v'.ownBlock = v.ownBlock ∨ v'.ownBlock = some w.heap.size) → K (a.put o.dst v') w') :
    if Region.wanted o (yielded ops a.tmps) = true then Oper.wp P o a w K Q else E := by
  obtain ⟨i, hi, hz, hsize, hby⟩ := info_parts hinfo
  have hw : Region.wanted o (yielded ops a.tmps) = true := by simp [Region.wanted, hgd]
  rw [if_pos hw]
  obtain ⟨v', w', hrun, h2, h3, h4, h5⟩ := run_append_own_at (P := P) w base t o.type e i z size bytes ht hi hz hsize hby hzs hsz v n xs hown ad m c news hl hnews h1 h63 hbytes hbase
  unfold Oper.wp execOp
  simp only [ho, resolve, invoke, builtin, Sem.run_bind, Sem.run_pure, Result.andThen_ok, List.map_toArray, List.map_cons, List.map_nil, hs, hx, hrun]
  exact h v' w' h2 h3 h5
/-- The form of a row that is not empty. -/
theorem own_form {w : World} {base : Nat} {e : TypeId} {sz n : Nat} {v : Value} {xs : List Value} (h : w.ownsRow base e sz v n xs) (hn : 0 < n) : ∃ g cap, v = .slice (some ⟨g, 0, none⟩) n cap ∧ base ≤ g ∧ g < w.heap.size ∧ n ≤ cap ∧ v.ownBlock = some g := by
  rcases h.2 with ⟨_, h0⟩ | ⟨g, cap, cur, rfl, h1, h2, h3, _⟩
  · omega
  · exact ⟨g, cap, rfl, h1, lt_of_block h2, h3, rfl⟩
theorem own_lt {w : World} {base : Nat} {e : TypeId} {sz n : Nat} {v : Value} {xs : List Value} (h : w.ownsRow base e sz v n xs) {g : Nat} (hg : v.ownBlock = some g) : base ≤ g ∧ g < w.heap.size := by
  rcases h.2 with ⟨rfl, _⟩ | ⟨g', cap, cur, rfl, h1, h2, _⟩
  · simp [Value.ownBlock] at hg
  · simp [Value.ownBlock] at hg; subst hg; exact ⟨h1, lt_of_block h2⟩
/-- The last element, laid as nought, is stored anew: four cells. -/
theorem own_last4 {w : World} {base g cap n : Nat} {e : TypeId} {xs : List Value} {z0 z1 z2 z3 c0 c1 c2 c3 : Value} (h : w.ownsRow base e 4 (.slice (some ⟨g, 0, none⟩) (n + 1) cap) (n + 1) (xs ++ [z0, z1, z2, z3])) (hx : xs.length = n * 4) :
    ((((w.setCell ⟨g, n * 4, none⟩ c0).setCell ⟨g, n * 4 + 1, none⟩ c1).setCell ⟨g, n * 4 + 2, none⟩ c2).setCell ⟨g, n * 4 + 3, none⟩ c3).ownsRow base e 4 (.slice (some ⟨g, 0, none⟩) (n + 1) cap) (n + 1) (xs ++ [c0, c1, c2, c3]) := by
  have h1 := (h.stored (n * 4) c0).1
  have h2 := (h1.stored (n * 4 + 1) c1).1
  have h3 := (h2.stored (n * 4 + 2) c2).1
  have h4 := (h3.stored (n * 4 + 3) c3).1
  have e0 : ((((xs ++ [z0, z1, z2, z3]).set (n * 4) c0).set (n * 4 + 1) c1).set (n * 4 + 2) c2).set (n * 4 + 3) c3 = xs ++ [c0, c1, c2, c3] := by
    rw [← hx]
    simp [List.set_append]
  rw [e0] at h4
  exact h4
theorem own_slice {w : World} {base : Nat} {e : TypeId} {sz n : Nat} {v : Value} {xs : List Value} (h : w.ownsRow base e sz v n xs) : ∃ a cap, v = .slice a n cap := by
  rcases h.2 with ⟨rfl, h0⟩ | ⟨g, cap, cur, rfl, _⟩
  · subst h0; exact ⟨none, 0, rfl⟩
  · exact ⟨_, cap, rfl⟩
theorem own_below {w w' : World} {base : Nat} {e : TypeId} {sz n : Nat} {v : Value} {xs : List Value} (h : w.ownsRow base e sz v n xs) (hb : Below w.heap.size w w') : w'.ownsRow base e sz v n xs :=
  h.kept (Mem.grown_of_below hb none) (by
    cases hv : v.ownBlock with
    | none => exact .inl rfl
    | some g => exact .inr (by simp))
/-- The four cells of the last element of a row that has grown by noughts. -/
theorem own_tail4 {w : World} {base g cap n : Nat} {e : TypeId} {xs : List Value} {z0 z1 z2 z3 : Value} (h : w.ownsRow base e 4 (.slice (some ⟨g, 0, none⟩) (n + 1) cap) (n + 1) (xs ++ [z0, z1, z2, z3])) (hx : xs.length = n * 4) :
    w.cell? ⟨g, n * 4, none⟩ = some z0 ∧ w.cell? ⟨g, n * 4 + 1, none⟩ = some z1 ∧ w.cell? ⟨g, n * 4 + 2, none⟩ = some z2 ∧ w.cell? ⟨g, n * 4 + 3, none⟩ = some z3 ∧
    w.frozen? ⟨g, n * 4, none⟩ = false ∧ w.frozen? ⟨g, n * 4 + 1, none⟩ = false ∧ w.frozen? ⟨g, n * 4 + 2, none⟩ = false ∧ w.frozen? ⟨g, n * 4 + 3, none⟩ = false := by
  have hc : ∀ j u, j < 4 → [z0, z1, z2, z3][j]? = some u → w.cell? ⟨g, n * 4 + j, none⟩ = some u := by
    intro j u hj hu
    rw [h.cellAt (n * 4 + j) (by omega), List.getElem?_append_right (by omega), hx, Nat.add_sub_cancel_left]; exact hu
  exact ⟨hc 0 _ (by omega) rfl, hc 1 _ (by omega) rfl, hc 2 _ (by omega) rfl, hc 3 _ (by omega) rfl, h.frozenAt _, h.frozenAt _, h.frozenAt _, h.frozenAt _⟩
end Go.Proofs.Ytgbiimoednmlgaa
