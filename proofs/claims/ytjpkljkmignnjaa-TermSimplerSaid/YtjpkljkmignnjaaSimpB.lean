/- What simple computes, over trees; what is built stays built. -/
import Derived.Test.YtjpkljkmignnjaaSameT
import Derived.Test.YtjpkljkmignnjaaBuiltT
namespace Go.Proofs.Ytjpkljkmignnjaa
set_option linter.unusedVariables false
set_option linter.unusedSimpArgs false
def zE : Ex := .mk 0 0 ⟨#[]⟩ []
def zT : Te := .mk 0 ⟨#[]⟩ [] []
def oneE : Ex := .mk 1 1 ⟨#[]⟩ []
/-- The rules, for a term whose own terms are l. -/
noncomputable def ruleT (op : Int) (nm : ByteArray) (x : List Ex) (l : List Te) : Te :=
  if op = 3 then (if (l.getD 0 zT).op = 3 then (l.getD 0 zT).terms.getD 0 zT else if (l.getD 0 zT).op = 1 then l.getD 0 zT else .mk op nm x l)
  else if op = 7 ∨ op = 8 then (if (l.getD 0 zT).op = 1 then l.getD 0 zT else .mk op nm x l)
  else if op = 6 then (if (l.getD 0 zT).op = 1 then l.getD 0 zT else if eqv (x.getD 0 zE) oneE = true then l.getD 0 zT else .mk op nm x l)
  else if op = 4 then (if (l.getD 0 zT).op = 1 then l.getD 1 zT else if (l.getD 1 zT).op = 1 then l.getD 0 zT else .mk op nm x l)
  else .mk op nm x l
noncomputable def sT : Te → Te
  | .mk op nm x l => ruleT op nm x (go l)
  where go : List Te → List Te
  | [] => []
  | e :: t => sT e :: go t
theorem sT_go (l : List Te) : sT.go l = l.map sT := by
  induction l with
  | nil => rfl
  | cons x t ih => simp only [sT.go, ih, List.map_cons]
theorem bT_inv {op : Int} {nm : ByteArray} {x : List Ex} {l : List Te} (h : bT (.mk op nm x l) = true) :
    arX op = (x.length : Nat) ∧ arT op = (l.length : Nat) ∧ okT op nm = true ∧ (∀ e ∈ x, bE e = true) ∧ ∀ t ∈ l, bT t = true := by
  rw [bT, bT_go] at h
  simp only [Bool.and_eq_true, beq_iff_eq, Bool.not_eq_true', List.any_eq_false, Bool.not_eq_true, Bool.not_eq_false'] at h
  obtain ⟨⟨⟨⟨h1, h2⟩, h3⟩, h4⟩, h5⟩ := h
  exact ⟨h1, h2, h3, (fun e he => by have := h4 e he; simpa using this), (fun e he => by have := h5 e he; simpa using this)⟩
theorem bT_mk {op : Int} {nm : ByteArray} {x : List Ex} {l : List Te} (h1 : arX op = (x.length : Nat)) (h2 : arT op = (l.length : Nat)) (h3 : okT op nm = true) (h4 : ∀ e ∈ x, bE e = true) (h5 : ∀ t ∈ l, bT t = true) : bT (.mk op nm x l) = true := by
  rw [bT, bT_go]
  simp only [Bool.and_eq_true, beq_iff_eq, Bool.not_eq_true', List.any_eq_false, Bool.not_eq_true, Bool.not_eq_false']
  exact ⟨⟨⟨⟨h1, h2⟩, h3⟩, (fun e he => by simp [h4 e he])⟩, (fun e he => by simp [h5 e he])⟩
theorem getD_mem {α : Type} {l : List α} {k : Nat} {d : α} (h : k < l.length) : l.getD k d ∈ l := by
  rw [List.getD_eq_getElem?_getD, List.getElem?_eq_getElem h]; exact List.getElem_mem _
theorem ruleT_built {op : Int} {nm : ByteArray} {x : List Ex} {l : List Te} (h : bT (.mk op nm x l) = true) : bT (ruleT op nm x l) = true := by
  obtain ⟨h1, h2, h3, h4, h5⟩ := bT_inv h
  unfold ruleT
  by_cases o3 : op = 3
  · rw [if_pos o3]
    have hl : l.length = 1 := by subst o3; rw [show arT 3 = 1 by decide] at h2; omega
    have hm := h5 _ (getD_mem (l := l) (k := 0) (d := zT) (by omega))
    split
    · rename_i ha
      generalize l.getD 0 zT = a at *
      obtain ⟨o, n, y, m⟩ := a
      obtain ⟨_, g2, _, _, g5⟩ := bT_inv hm
      simp only [Te.op] at ha
      subst ha
      rw [show arT 3 = 1 by decide] at g2
      exact g5 _ (getD_mem (by show 0 < m.length; omega))
    · split
      · exact hm
      · exact h
  · rw [if_neg o3]
    by_cases o7 : op = 7 ∨ op = 8
    · rw [if_pos o7]
      have hl : l.length = 1 := by rcases o7 with rfl | rfl <;> (first | rw [show arT 7 = 1 by decide] at h2 | rw [show arT 8 = 1 by decide] at h2) <;> omega
      split
      · exact h5 _ (getD_mem (by omega))
      · exact h
    · rw [if_neg o7]
      by_cases o6 : op = 6
      · rw [if_pos o6]
        have hl : l.length = 1 := by subst o6; rw [show arT 6 = 1 by decide] at h2; omega
        have hm := h5 _ (getD_mem (l := l) (k := 0) (d := zT) (by omega))
        repeat' split
        all_goals first | exact hm | exact h
      · rw [if_neg o6]
        by_cases o4 : op = 4
        · rw [if_pos o4]
          have hl : l.length = 2 := by subst o4; rw [show arT 4 = 2 by decide] at h2; omega
          have hm := h5 _ (getD_mem (l := l) (k := 0) (d := zT) (by omega))
          have hm1 := h5 _ (getD_mem (l := l) (k := 1) (d := zT) (by omega))
          repeat' split
          all_goals first | exact hm | exact hm1 | exact h
        · rw [if_neg o4]; exact h
theorem sT_built : ∀ (r : Nat) (e : Te), e.rk ≤ r → bT e = true → bT (sT e) = true := by
  intro r
  induction r with
  | zero => intro e h; have := e.rk_pos; omega
  | succ r ih =>
    intro e hr hb
    obtain ⟨op, nm, x, l⟩ := e
    obtain ⟨h1, h2, h3, h4, h5⟩ := bT_inv hb
    rw [sT, sT_go]
    refine ruleT_built (bT_mk h1 (by rw [List.length_map]; exact h2) h3 h4 ?_)
    intro t ht
    obtain ⟨y, hy, rfl⟩ := List.mem_map.1 ht
    obtain ⟨k, hk⟩ := List.getElem?_of_mem hy
    exact ih y (by have := Te.rk_lt (op := op) (nm := nm) (x := x) hk; omega) (h5 y hy)
end Go.Proofs.Ytjpkljkmignnjaa
