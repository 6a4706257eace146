/- What is simple: right, not greater, its names among the names of what it came of, and simple itself. -/
import Derived.Test.YtjpkljkmignnjaaSimpB
import Derived.Test.YtjpkljkmignnjaaBld
import Derived.Test.YtjpkljkmignnjaaSimple
namespace Go.Proofs.Ytjpkljkmignnjaa
set_option linter.unusedVariables false
set_option linter.unusedSimpArgs false
open Go.RowKit
/-- What a rule makes is the term itself, one of its terms, or a term of such a one. -/
theorem rule_cases {op : Int} {nm : ByteArray} {x : List Ex} {l : List Te} (h : bT (.mk op nm x l) = true) :
    ruleT op nm x l = .mk op nm x l ∨ (∃ t ∈ l, ruleT op nm x l = t) ∨ ∃ t ∈ l, ∃ u ∈ t.terms, ruleT op nm x l = u := by
  obtain ⟨h1, h2, h3, h4, h5⟩ := bT_inv h
  unfold ruleT
  by_cases o3 : op = 3
  · rw [if_pos o3]
    have hl : l.length = 1 := by subst o3; rw [show arT 3 = 1 by decide] at h2; omega
    have hm0 := getD_mem (l := l) (k := 0) (d := zT) (by omega)
    have hm := h5 _ hm0
    split
    · rename_i ha
      right; right
      refine ⟨_, hm0, _, ?_, rfl⟩
      generalize l.getD 0 zT = a at *
      obtain ⟨o, n, y, m⟩ := a
      obtain ⟨_, g2, _, _, g5⟩ := bT_inv hm
      simp only [Te.op] at ha
      subst ha
      rw [show arT 3 = 1 by decide] at g2
      exact getD_mem (by show 0 < m.length; omega)
    · split
      · exact .inr (.inl ⟨_, hm0, rfl⟩)
      · exact .inl rfl
  · rw [if_neg o3]
    by_cases o7 : op = 7 ∨ op = 8
    · rw [if_pos o7]
      have hl : l.length = 1 := by rcases o7 with rfl | rfl <;> (first | rw [show arT 7 = 1 by decide] at h2 | rw [show arT 8 = 1 by decide] at h2) <;> omega
      split
      · exact .inr (.inl ⟨_, getD_mem (by omega), rfl⟩)
      · exact .inl rfl
    · rw [if_neg o7]
      by_cases o6 : op = 6
      · rw [if_pos o6]
        have hl : l.length = 1 := by subst o6; rw [show arT 6 = 1 by decide] at h2; omega
        have hm0 := getD_mem (l := l) (k := 0) (d := zT) (by omega)
        repeat' split
        all_goals first | exact .inr (.inl ⟨_, hm0, rfl⟩) | exact .inl rfl
      · rw [if_neg o6]
        by_cases o4 : op = 4
        · rw [if_pos o4]
          have hl : l.length = 2 := by subst o4; rw [show arT 4 = 2 by decide] at h2; omega
          have hm0 := getD_mem (l := l) (k := 0) (d := zT) (by omega)
          have hm1 := getD_mem (l := l) (k := 1) (d := zT) (by omega)
          repeat' split
          all_goals first | exact .inr (.inl ⟨_, hm0, rfl⟩) | exact .inr (.inl ⟨_, hm1, rfl⟩) | exact .inl rfl
        · rw [if_neg o4]; exact .inl rfl
/-- Simple: no rule can be done, here or within. -/
def Nf : Te → Prop
  | .mk op nm x l => ruleT op nm x l = .mk op nm x l ∧ go l
  where go : List Te → Prop
  | [] => True
  | e :: t => Nf e ∧ go t
theorem nf_go {l : List Te} : Nf.go l ↔ ∀ t ∈ l, Nf t := by
  induction l with
  | nil => simp [Nf.go]
  | cons x t ih => simp only [Nf.go, ih, List.mem_cons, forall_eq_or_imp]
/-- What holds of a term if it holds of its terms, of a term if of the simple ones, goes through. -/
theorem sT_ind {Q : Te → Te → Prop}
    (h : ∀ op nm x l, bT (.mk op nm x l) = true → bT (.mk op nm x (l.map sT)) = true → (∀ t ∈ l, Q t (sT t)) → Q (.mk op nm x l) (ruleT op nm x (l.map sT))) :
    ∀ (r : Nat) (e : Te), e.rk ≤ r → bT e = true → Q e (sT e) := by
  intro r
  induction r with
  | zero => intro e h; have := e.rk_pos; omega
  | succ r ih =>
    intro e hr hb
    obtain ⟨op, nm, x, l⟩ := e
    obtain ⟨h1, h2, h3, h4, h5⟩ := bT_inv hb
    rw [sT, sT_go]
    refine h op nm x l hb (bT_mk h1 (by rw [List.length_map]; exact h2) h3 h4 ?_) ?_
    · intro t ht
      obtain ⟨y, hy, rfl⟩ := List.mem_map.1 ht
      exact sT_built _ _ (Nat.le_refl _) (h5 y hy)
    · intro t ht
      obtain ⟨k, hk⟩ := List.getElem?_of_mem ht
      exact ih t (by have := Te.rk_lt (op := op) (nm := nm) (x := x) hk; omega) (h5 t ht)
theorem sT_nf (e : Te) (hb : bT e = true) : Nf (sT e) := by
  refine sT_ind (Q := fun _ s => Nf s) ?_ e.rk e (Nat.le_refl _) hb
  intro op nm x l _ hb' hq
  have hall : ∀ t ∈ l.map sT, Nf t := by
    intro t ht
    obtain ⟨y, hy, rfl⟩ := List.mem_map.1 ht
    exact hq y hy
  rcases rule_cases hb' with h | ⟨t, ht, h⟩ | ⟨t, ht, u, hu, h⟩
  · rw [h]; exact ⟨h, nf_go.2 hall⟩
  · rw [h]; exact hall t ht
  · rw [h]
    have := hall t ht
    obtain ⟨o, n, y, m⟩ := t
    exact nf_go.1 this.2 u hu
theorem nf_sT : ∀ (r : Nat) (e : Te), e.rk ≤ r → Nf e → sT e = e := by
  intro r
  induction r with
  | zero => intro e h; have := e.rk_pos; omega
  | succ r ih =>
    intro e hr hn
    obtain ⟨op, nm, x, l⟩ := e
    obtain ⟨h1, h2⟩ := hn
    have h2 := nf_go.1 h2
    rw [sT, sT_go]
    have : l.map sT = l := by
      apply List.ext_getElem?
      intro j
      rw [List.getElem?_map]
      cases hj : l[j]? with
      | none => rfl
      | some t =>
        rw [Option.map_some, ih t (by have := Te.rk_lt (op := op) (nm := nm) (x := x) hj; omega) (h2 t (List.mem_of_getElem? hj))]
    rw [this, h1]
theorem sT_twice (e : Te) (hb : bT e = true) : sT (sT e) = sT e := nf_sT _ _ (Nat.le_refl _) (sT_nf e hb)
/-- A measure that is no less at a term than at its terms, and doesn't grow where a term's terms shrink. -/
theorem sT_le (f : Te → Nat) (h1 : ∀ op nm x l, ∀ t ∈ l, f t ≤ f (.mk op nm x l)) (h2 : ∀ op nm x l, (∀ t ∈ l, f (sT t) ≤ f t) → f (.mk op nm x (l.map sT)) ≤ f (.mk op nm x l)) (e : Te) (hb : bT e = true) : f (sT e) ≤ f e := by
  refine sT_ind (Q := fun e s => f s ≤ f e) ?_ e.rk e (Nat.le_refl _) hb
  intro op nm x l _ hb' hq
  have h3 := h2 op nm x l hq
  rcases rule_cases hb' with h | ⟨t, ht, h⟩ | ⟨t, ht, u, hu, h⟩
  · rw [h]; exact h3
  · rw [h]; exact Nat.le_trans (h1 op nm x _ t ht) h3
  · rw [h]
    obtain ⟨o, n, y, m⟩ := t
    exact Nat.le_trans (h1 o n y m u hu) (Nat.le_trans (h1 op nm x _ _ ht) h3)
theorem nd_go_mem {l : List Te} {t : Te} (h : t ∈ l) : t.nd ≤ Te.nd.go l := by
  induction l with
  | nil => cases h
  | cons y s ih =>
    simp only [Te.nd.go]
    rcases List.mem_cons.1 h with rfl | h
    · omega
    · have := ih h; omega
theorem rk_go_mem {l : List Te} {t : Te} (h : t ∈ l) : t.rk ≤ Te.rk.go l := by
  induction l with
  | nil => cases h
  | cons y s ih =>
    simp only [Te.rk.go]
    rcases List.mem_cons.1 h with rfl | h
    · omega
    · have := ih h; omega
theorem nd_go_map {l : List Te} (h : ∀ t ∈ l, (sT t).nd ≤ t.nd) : Te.nd.go (l.map sT) ≤ Te.nd.go l := by
  induction l with
  | nil => exact Nat.le_refl _
  | cons y s ih =>
    simp only [List.map_cons, Te.nd.go]
    have h1 := h y (by simp)
    have h2 := ih (fun t ht => h t (by simp [ht]))
    omega
theorem rk_go_map {l : List Te} (h : ∀ t ∈ l, (sT t).rk ≤ t.rk) : Te.rk.go (l.map sT) ≤ Te.rk.go l := by
  induction l with
  | nil => exact Nat.le_refl _
  | cons y s ih =>
    simp only [List.map_cons, Te.rk.go]
    have h1 := h y (by simp)
    have h2 := ih (fun t ht => h t (by simp [ht]))
    omega
theorem sT_nd (e : Te) (hb : bT e = true) : (sT e).nd ≤ e.nd :=
  sT_le Te.nd (fun op nm x l t ht => by have := nd_go_mem ht; simp only [Te.nd]; omega) (fun op nm x l h => by have := nd_go_map h; simp only [Te.nd]; omega) e hb
theorem sT_rk (e : Te) (hb : bT e = true) : (sT e).rk ≤ e.rk :=
  sT_le Te.rk (fun op nm x l t ht => by have := rk_go_mem ht; simp only [Te.rk]; omega) (fun op nm x l h => by have := rk_go_map h; simp only [Te.rk]; omega) e hb
theorem sT_right (e : Te) (h : rT e = true) : rT (sT e) = true := by
  have hb := rT_built h
  have e1 : rT e = (decide (e.nd ≤ 200 ∧ e.rk ≤ 16) && bT e) := rfl
  have e2 : rT (sT e) = (decide ((sT e).nd ≤ 200 ∧ (sT e).rk ≤ 16) && bT (sT e)) := rfl
  rw [e1, Bool.and_eq_true, decide_eq_true_eq] at h
  rw [e2, sT_built _ _ (Nat.le_refl _) hb, Bool.and_true, decide_eq_true_eq]
  have := sT_nd e hb
  have := sT_rk e hb
  omega
/-- The currencies of a term, as they are met. -/
def coinsT : Te → List ByteArray
  | .mk op nm _ l => (if op = 2 then [nm] else []) ++ go l
  where go : List Te → List ByteArray
  | [] => []
  | e :: t => coinsT e ++ go t
theorem coins_go {l : List Te} {s : ByteArray} : s ∈ coinsT.go l ↔ ∃ t ∈ l, s ∈ coinsT t := by
  induction l with
  | nil => simp [coinsT.go]
  | cons x t ih => simp only [coinsT.go, List.mem_append, ih, List.mem_cons, exists_eq_or_imp]
theorem sT_coins (e : Te) (hb : bT e = true) : ∀ s ∈ coinsT (sT e), s ∈ coinsT e := by
  refine sT_ind (Q := fun e s => ∀ c ∈ coinsT s, c ∈ coinsT e) ?_ e.rk e (Nat.le_refl _) hb
  intro op nm x l _ hb' hq
  have hin : ∀ t ∈ l.map sT, ∀ c ∈ coinsT t, c ∈ coinsT (.mk op nm x l) := by
    intro t ht c hc
    obtain ⟨y, hy, rfl⟩ := List.mem_map.1 ht
    rw [coinsT]
    exact List.mem_append.2 (.inr (coins_go.2 ⟨y, hy, hq y hy c hc⟩))
  rcases rule_cases hb' with h | ⟨t, ht, h⟩ | ⟨t, ht, u, hu, h⟩
  · rw [h]
    intro c hc
    rw [coinsT] at hc ⊢
    rcases List.mem_append.1 hc with hc | hc
    · exact List.mem_append.2 (.inl hc)
    · obtain ⟨t, ht, hc⟩ := coins_go.1 hc
      have := hin t ht c hc
      rw [coinsT] at this
      exact this
  · rw [h]; exact hin t ht
  · rw [h]
    intro c hc
    refine hin t ht c ?_
    obtain ⟨o, n, y, m⟩ := t
    rw [coinsT]
    exact List.mem_append.2 (.inr (coins_go.2 ⟨u, hu, hc⟩))
end Go.Proofs.Ytjpkljkmignnjaa
