/- A part of the proof: Lit, Grt21, FoldP, Num, NumB, NumC, Knw, Path, one behind another. -/
import Derived.Test.YtppnmeobnilojaaMKA
import Derived.Test.YtppnmeobnilojaaMKB
import Derived.Test.YtppnmeobnilojaaMKC
import Derived.Test.YtppnmeobnilojaaMKD
import Derived.Test.YtppnmeobnilojaaMKE
import Derived.WalkKit
import Derived.Shelf.Bits.Mul64
import Derived.BigRegion
import Derived.RegionTactic
import Derived.Deep.DeepCutAuto
import Derived.Deep.Upon
/- A literal's block as a slice. -/
namespace Go.Proofs.Ytppnmeobnilojaa
set_option linter.unusedVariables false
set_option linter.unusedSimpArgs false
open Go.RowKit
theorem RepE.free {w : World} {X : List Nat} {e : Ex} {cs : List Value} (h : RepE w X e cs) : RepE w [] e cs := h.less (fun _ _ hm => absurd hm List.not_mem_nil)
theorem RepT.free {w : World} {X : List Nat} {e : Te} {cs : List Value} (h : RepT w X e cs) : RepT w [] e cs := h.less (fun _ _ hm => absurd hm List.not_mem_nil)
theorem SlR.free {α : Type} {K : Elt α} {w : World} {X : List Nat} {l : List α} {a : Option Addr} {len cap : Nat} (h : SlR K w X l a len cap) : SlR K w [] l a len cap := h.less (fun _ _ hm => absurd hm List.not_mem_nil)
theorem SlR.lit {α : Type} {K : Elt α} {w : World} {X : List Nat} {g : Nat} {ty : TypeId} {cs : Array Value} {l : List α} (csl : List (List Value)) (hB : Mem.Blk w g ty cs) (hg : g ∉ X) (hf : cs.toList = csl.flatten) (hc : csl.length = l.length)
    (he : ∀ (i : Nat) x c, l[i]? = some x → csl[i]? = some c → K.R w X x c) (n : Nat) (hn : l.length = n) (hm : n ≤ 9223372036854775807) : SlR K w X l (some ⟨g, 0, none⟩) n n := by
  subst hn
  have h4 : ∀ c ∈ csl, c.length = K.sz := by
    intro c hcm
    obtain ⟨i, hi, rfl⟩ := List.getElem_of_mem hcm
    exact (K.one (he i _ _ (List.getElem?_eq_getElem (by omega)) (List.getElem?_eq_getElem hi))).1
  refine ⟨csl, hc, he, hc, Nat.le_refl _, hm, fun _ => ⟨g, 0, rfl, hB.lt, hg, fun i c hi => ?_⟩⟩
  have hl := h4 c (List.mem_of_getElem? hi)
  refine ⟨hl, fun j u hj => ?_⟩
  have hjs : j < K.sz := by rw [← hl]; exact (List.getElem?_eq_some_iff.1 hj).1
  rw [Nat.zero_add, hB.cell, ← Array.getElem?_toList, hf, flat_get K.sz csl h4 i j c hi hjs]
  exact hj
/-- One element. -/
theorem SlR.lit1 {α : Type} {K : Elt α} {w : World} {X : List Nat} {g : Nat} {ty : TypeId} {c : List Value} {x : α} (hB : Mem.Blk w g ty c.toArray) (hg : g ∉ X) (h : K.R w X x c) : SlR K w X [x] (some ⟨g, 0, none⟩) 1 1 := by
  refine SlR.lit (l := [x]) [c] hB hg (by simp) rfl (fun i y d hy hd => ?_) 1 rfl (by decide)
  match i, hy, hd with
  | 0, hy, hd => simp at hy hd; subst hy; subst hd; exact h
  | k + 1, hy, _ => simp at hy
theorem SlR.lit2 {α : Type} {K : Elt α} {w : World} {X : List Nat} {g : Nat} {ty : TypeId} {c d : List Value} {x y : α} {cs : Array Value} (hB : Mem.Blk w g ty cs) (hcs : cs.toList = c ++ d) (hg : g ∉ X) (h : K.R w X x c) (h' : K.R w X y d) : SlR K w X [x, y] (some ⟨g, 0, none⟩) 2 2 := by
  refine SlR.lit (l := [x, y]) [c, d] hB hg (by simpa using hcs) rfl (fun i z e hy hd => ?_) 2 rfl (by decide)
  match i, hy, hd with
  | 0, hy, hd => simp at hy hd; subst hy; subst hd; exact h
  | 1, hy, hd => simp at hy hd; subst hy; subst hd; exact h'
  | k + 2, hy, _ => simp at hy
/-- Four cells are stored where an answer lies; what is answered keeps out of there. -/
theorem ret4E {w w1 : World} {g : Nat} {X : List Nat} {ty : TypeId} {e : Ex} {b0 b1 b2 b3 c0 c1 c2 c3 : Value} (hb : Below w.heap.size w w1) (hg : w.heap.size ≤ g) (hB : Mem.Blk w1 g ty #[b0, b1, b2, b3]) (hR : RepE w1 (g :: X) e [c0, c1, c2, c3]) :
    RepE ((((w1.setCell ⟨g, 0, none⟩ c0).setCell ⟨g, 1, none⟩ c1).setCell ⟨g, 2, none⟩ c2).setCell ⟨g, 3, none⟩ c3) X e [c0, c1, c2, c3] ∧ Below w.heap.size w ((((w1.setCell ⟨g, 0, none⟩ c0).setCell ⟨g, 1, none⟩ c1).setCell ⟨g, 2, none⟩ c2).setCell ⟨g, 3, none⟩ c3) ∧
    Mem.Blk ((((w1.setCell ⟨g, 0, none⟩ c0).setCell ⟨g, 1, none⟩ c1).setCell ⟨g, 2, none⟩ c2).setCell ⟨g, 3, none⟩ c3) g ty #[c0, c1, c2, c3] := by
  have k4 : Kept (g :: X) w1 ((((w1.setCell ⟨g, 0, none⟩ c0).setCell ⟨g, 1, none⟩ c1).setCell ⟨g, 2, none⟩ c2).setCell ⟨g, 3, none⟩ c3) := (((Kept.setCell w1 (by simp) _).trans (Kept.setCell _ (by simp) _)).trans (Kept.setCell _ (by simp) _)).trans (Kept.setCell _ (by simp) _)
  exact ⟨(hR.kept k4).less (fun b _ hm => List.mem_cons_of_mem _ hm), (((hb.setCell hg _).setCell hg _).setCell hg _).setCell hg _, (((hB.set_ 0 _).set_ 1 _).set_ 2 _).set_ 3 _⟩
theorem ret4T {w w1 : World} {g : Nat} {X : List Nat} {ty : TypeId} {e : Te} {b0 b1 b2 b3 c0 c1 c2 c3 : Value} (hb : Below w.heap.size w w1) (hg : w.heap.size ≤ g) (hB : Mem.Blk w1 g ty #[b0, b1, b2, b3]) (hR : RepT w1 (g :: X) e [c0, c1, c2, c3]) :
    RepT ((((w1.setCell ⟨g, 0, none⟩ c0).setCell ⟨g, 1, none⟩ c1).setCell ⟨g, 2, none⟩ c2).setCell ⟨g, 3, none⟩ c3) X e [c0, c1, c2, c3] ∧ Below w.heap.size w ((((w1.setCell ⟨g, 0, none⟩ c0).setCell ⟨g, 1, none⟩ c1).setCell ⟨g, 2, none⟩ c2).setCell ⟨g, 3, none⟩ c3) ∧
    Mem.Blk ((((w1.setCell ⟨g, 0, none⟩ c0).setCell ⟨g, 1, none⟩ c1).setCell ⟨g, 2, none⟩ c2).setCell ⟨g, 3, none⟩ c3) g ty #[c0, c1, c2, c3] := by
  have k4 : Kept (g :: X) w1 ((((w1.setCell ⟨g, 0, none⟩ c0).setCell ⟨g, 1, none⟩ c1).setCell ⟨g, 2, none⟩ c2).setCell ⟨g, 3, none⟩ c3) := (((Kept.setCell w1 (by simp) _).trans (Kept.setCell _ (by simp) _)).trans (Kept.setCell _ (by simp) _)).trans (Kept.setCell _ (by simp) _)
  exact ⟨(hR.kept k4).less (fun b _ hm => List.mem_cons_of_mem _ hm), (((hb.setCell hg _).setCell hg _).setCell hg _).setCell hg _, (((hB.set_ 0 _).set_ 1 _).set_ 2 _).set_ 3 _⟩
end Go.Proofs.Ytppnmeobnilojaa

/- Are there more nodes than are asked of? A tree that was built, in a block of its own. -/
namespace Go.Proofs.Ytppnmeobnilojaa
set_option linter.unusedVariables false
set_option linter.unusedSimpArgs false
open Go.RowKit
theorem great21_any (a a' : Option Addr) (len cap len' cap' : Nat) (w : World) : Calls Try.prog 13 #[.slice a len cap, .slice a' len' cap'] w fun e w' => e = .returned (.bool (decide (60 < len ∨ 60 < len'))) ∧ w = w' := by
  by_cases h : 60 < len
  · have e : decide (60 < len ∨ 60 < len') = true := decide_eq_true (.inl h)
    rw [e]
    have h' : (60 : Int) < (len : Int) := by omega
    clear e
    go_enter Try.func13, Try.ntmps13
    go_wp2_with fail
    go_ret
    exact ⟨rfl, rfl⟩
  · have h' : ¬ (60 : Int) < (len : Int) := by omega
    by_cases h2 : 60 < len'
    · have e : decide (60 < len ∨ 60 < len') = true := decide_eq_true (.inr h2)
      rw [e]
      have h2' : (60 : Int) < (len' : Int) := by omega
      clear e
      go_enter Try.func13, Try.ntmps13
      go_wp2_with fail
      go_ret
      exact ⟨rfl, rfl⟩
    · have e : decide (60 < len ∨ 60 < len') = false := decide_eq_false (by omega)
      rw [e]
      have h2' : ¬ (60 : Int) < (len' : Int) := by omega
      clear e
      go_enter Try.func13, Try.ntmps13
      go_wp2_with fail
      go_ret
      exact ⟨rfl, rfl⟩
end Go.Proofs.Ytppnmeobnilojaa

/- What is folded: plain. -/
namespace Go.Proofs.Ytppnmeobnilojaa
set_option linter.unusedVariables false
set_option linter.unusedSimpArgs false
open Go.RowKit
def minI : Int := -9223372036854775808
/-- A constant's value. -/
def knownE : Ex → Option Int
  | .mk op n _ l => if op = 1 ∨ op = 2 then some n else if op = 20 then (match l with | .mk o m _ _ :: _ => if o = 1 then some (-m) else none | [] => none) else none
def fitI (z : Int) : Option Int := if -9223372036854775808 ≤ z ∧ z ≤ 9223372036854775807 then some z else none
/-- What an op makes of numbers. -/
def valueM (op : Int) (l : List Int) : Option Int :=
  if op = 5 then fitI (l.getD 0 0 + l.getD 1 0) else if op = 6 then fitI (l.getD 0 0 - l.getD 1 0) else if op = 7 then fitI (l.getD 0 0 * l.getD 1 0)
  else if op = 8 then (if l.getD 1 0 = 0 then none else fitI ((l.getD 0 0).fdiv (l.getD 1 0))) else if op = 9 then some (min (l.getD 0 0) (l.getD 1 0)) else if op = 10 then some (max (l.getD 0 0) (l.getD 1 0))
  else if op = 20 then fitI (-(l.getD 0 0)) else none
def constE (n : Int) : Ex := if 0 ≤ n then .mk 1 n ⟨#[]⟩ [] else .mk 20 0 ⟨#[]⟩ [.mk 1 (-n) ⟨#[]⟩ []]
/-- The last step, when all within is folded. -/
def foldO (op n : Int) (nm : ByteArray) (l : List Ex) : Ex :=
  if (l.filterMap knownE).length < l.length ∨ (l.filterMap knownE).length = 0 then .mk op n nm l
  else match valueM op (l.filterMap knownE) with | some v => if v = minI then .mk op n nm l else constE v | none => .mk op n nm l
def foldE : Ex → Ex
  | .mk op n nm l => foldO op n nm (go l)
  where go : List Ex → List Ex
  | [] => []
  | e :: t => foldE e :: go t
theorem foldE_go (l : List Ex) : foldE.go l = l.map foldE := by
  induction l with
  | nil => rfl
  | cons x t ih => simp only [foldE.go, ih, List.map_cons]
theorem foldE_mk (op n : Int) (nm : ByteArray) (l : List Ex) : foldE (.mk op n nm l) = foldO op n nm (l.map foldE) := by rw [foldE, foldE_go]
/-- Itself, or a constant: then all within are constants, and there is something within. -/
theorem foldO_cases (op n : Int) (nm : ByteArray) (l : List Ex) :
    foldO op n nm l = .mk op n nm l ∨ ∃ v, valueM op (l.filterMap knownE) = some v ∧ v ≠ minI ∧ foldO op n nm l = constE v ∧ (l.filterMap knownE).length = l.length ∧ 0 < l.length := by
  unfold foldO
  by_cases h : (l.filterMap knownE).length < l.length ∨ (l.filterMap knownE).length = 0
  · rw [if_pos h]; exact .inl rfl
  · rw [if_neg h]
    have hle := List.length_filterMap_le knownE l
    cases hv : valueM op (l.filterMap knownE) with
    | none => exact .inl rfl
    | some v =>
      by_cases hm : v = minI
      · simp [hm]
      · simp only [hm, if_false]
        exact .inr ⟨v, rfl, hm, rfl, by omega, by omega⟩
theorem all_known : ∀ {l : List Ex}, (l.filterMap knownE).length = l.length → ∀ e ∈ l, ∃ v, knownE e = some v
  | [], _, e, he => by cases he
  | x :: t, h, e, he => by
    cases hx : knownE x with
    | none =>
      rw [List.filterMap_cons_none hx] at h
      have := List.length_filterMap_le knownE t
      simp only [List.length_cons] at h; omega
    | some v =>
      rw [List.filterMap_cons_some hx, List.length_cons, List.length_cons] at h
      rcases List.mem_cons.1 he with rfl | he
      · exact ⟨v, hx⟩
      · exact all_known (by omega) e he
theorem value_op {op : Int} {l : List Int} {v : Int} (h : valueM op l = some v) : (5 ≤ op ∧ op ≤ 10) ∨ op = 20 := by
  unfold valueM at h
  repeat' split at h
  all_goals first | omega | cases h
/-- A constant that is built is a number. -/
theorem known_kind {e : Ex} (hb : bE e = true) {v : Int} (h : knownE e = some v) : kE e = 1 := by
  obtain ⟨op, n, nm, l⟩ := e
  obtain ⟨h1, -, h3⟩ := bE_inv hb
  rw [kE_mk]
  simp only [knownE] at h
  by_cases ho : op = 1 ∨ op = 2
  · have hl : l = [] := List.length_eq_zero_iff.1 (by rw [ar_nil (by omega) (by omega)] at h1; omega)
    subst hl
    rcases ho with rfl | rfl <;> rfl
  · rw [if_neg ho] at h
    by_cases h20 : op = 20
    · rw [if_pos h20] at h
      subst h20
      match l, h1, h3, h with
      | [], _, _, h => cases h
      | .mk o m nm' l' :: t, h1, h3, h =>
        by_cases ho1 : o = 1
        · subst ho1
          have ht : t = [] := List.length_eq_zero_iff.1 (by rw [show ar 20 = 1 by decide] at h1; simp only [List.length_cons] at h1; omega)
          subst ht
          obtain ⟨g1, -, -⟩ := bE_inv (h3 (.mk 1 m nm' l') (by simp))
          have hl' : l' = [] := List.length_eq_zero_iff.1 (by rw [show ar 1 = 0 by decide] at g1; omega)
          subst hl'
          rfl
        · simp [ho1] at h
    · rw [if_neg h20] at h; cases h
theorem const_kind (v : Int) : kE (constE v) = 1 := by
  unfold constE
  split <;> rfl
theorem const_built (v : Int) : bE (constE v) = true := by
  have h1 : ∀ m : Int, 0 ≤ m → bE (.mk 1 m ⟨#[]⟩ []) = true := fun m hm => bE_of rfl (by unfold okE; simp [hm]) (by simp)
  unfold constE
  split
  · rename_i h; exact h1 v h
  · rename_i h
    refine bE_of rfl (by unfold okE; simp) (fun e he => ?_)
    rw [List.mem_singleton] at he
    subst he
    exact h1 _ (by omega)
theorem const_nd (v : Int) : (constE v).nd ≤ 2 ∧ (constE v).rk ≤ 2 := by
  unfold constE
  split <;> simp [Ex.nd, Ex.nd.go, Ex.rk, Ex.rk.go]
/-- What holds of an expression if it holds of what is within, goes through. -/
theorem fold_ind {Q : Ex → Ex → Prop}
    (h : ∀ op n nm l, bE (.mk op n nm l) = true → bE (.mk op n nm (l.map foldE)) = true → (∀ e ∈ l, Q e (foldE e)) → Q (.mk op n nm l) (foldO op n nm (l.map foldE))) :
    ∀ (r : Nat) (e : Ex), e.rk ≤ r → bE e = true → bE (foldE e) = true ∧ Q e (foldE e) := by
  intro r
  induction r with
  | zero => intro e h; have := e.rk_pos; omega
  | succ r ih =>
    intro e hr hb
    obtain ⟨op, n, nm, l⟩ := e
    obtain ⟨h1, h2, h3⟩ := bE_inv hb
    have hih : ∀ e ∈ l, bE (foldE e) = true ∧ Q e (foldE e) := by
      intro e he
      obtain ⟨k, hk⟩ := List.getElem?_of_mem he
      exact ih e (by have := Ex.rk_lt (op := op) (n := n) (nm := nm) hk; omega) (h3 e he)
    have hb' : bE (.mk op n nm (l.map foldE)) = true := bE_of (by rw [List.length_map]; exact h1) h2 (fun e he => by
      obtain ⟨y, hy, rfl⟩ := List.mem_map.1 he
      exact (hih y hy).1)
    rw [foldE_mk]
    refine ⟨?_, h op n nm l hb hb' (fun e he => (hih e he).2)⟩
    rcases foldO_cases op n nm (l.map foldE) with e | ⟨v, -, -, e, -, -⟩
    · rw [e]; exact hb'
    · rw [e]; exact const_built v
theorem foldE_built (e : Ex) (hb : bE e = true) : bE (foldE e) = true := (fold_ind (Q := fun _ _ => True) (fun _ _ _ _ _ _ _ => trivial) _ e (Nat.le_refl _) hb).1
theorem foldE_kind (e : Ex) (hb : bE e = true) : kE (foldE e) = kE e := by
  refine (fold_ind (Q := fun e s => kE s = kE e) ?_ _ e (Nat.le_refl _) hb).2
  intro op n nm l hb hb' hq
  have hk : kE (.mk op n nm (l.map foldE)) = kE (.mk op n nm l) := by
    rw [kE_mk, kE_mk, List.map_map]
    congr 1
    exact List.map_congr_left (fun e he => hq e he)
  rcases foldO_cases op n nm (l.map foldE) with e | ⟨v, hv, -, e, hl, h0⟩
  · rw [e]; exact hk
  · rw [e, const_kind, ← hk, kE_mk]
    have hop := value_op hv
    obtain ⟨-, -, h3⟩ := bE_inv hb'
    have hall : ((l.map foldE).map kE).all (fun k => decide (k = needK op)) = true := by
      rw [List.all_eq_true]
      intro k hk'
      obtain ⟨c, hc, rfl⟩ := List.mem_map.1 hk'
      obtain ⟨u, hu⟩ := all_known hl c hc
      rw [known_kind (h3 c hc) hu, decide_eq_true_eq]
      unfold needK; rw [if_pos hop]
    unfold kOf
    rw [if_neg (by omega), if_pos hall]
    unfold isK; rw [if_pos hop]
theorem ndE_map {l : List Ex} (h : ∀ e ∈ l, (foldE e).nd ≤ e.nd) : Ex.nd.go (l.map foldE) ≤ Ex.nd.go l := by
  induction l with
  | nil => exact Nat.le_refl _
  | cons y s ih =>
    simp only [List.map_cons, Ex.nd.go]
    have h1 := h y (by simp)
    have h2 := ih (fun t ht => h t (by simp [ht]))
    omega
theorem rkE_map {l : List Ex} (h : ∀ e ∈ l, (foldE e).rk ≤ e.rk) : Ex.rk.go (l.map foldE) ≤ Ex.rk.go l := by
  induction l with
  | nil => exact Nat.le_refl _
  | cons y s ih =>
    simp only [List.map_cons, Ex.rk.go]
    have h1 := h y (by simp)
    have h2 := ih (fun t ht => h t (by simp [ht]))
    omega
theorem ndE_pos {l : List Ex} (h : 0 < l.length) : 1 ≤ Ex.nd.go l ∧ 1 ≤ Ex.rk.go l := by
  cases l with
  | nil => simp at h
  | cons y s =>
    simp only [Ex.nd.go, Ex.rk.go]
    have := y.nd_pos'
    have := y.rk_pos
    omega
theorem foldE_size (e : Ex) (hb : bE e = true) : (foldE e).nd ≤ e.nd ∧ (foldE e).rk ≤ e.rk := by
  refine (fold_ind (Q := fun e s => s.nd ≤ e.nd ∧ s.rk ≤ e.rk) ?_ _ e (Nat.le_refl _) hb).2
  intro op n nm l _ _ hq
  rcases foldO_cases op n nm (l.map foldE) with e | ⟨v, -, -, e, -, h0⟩
  · rw [e]
    have h1 := ndE_map (fun e he => (hq e he).1)
    have h2 := rkE_map (fun e he => (hq e he).2)
    simp only [Ex.nd, Ex.rk]
    omega
  · rw [e]
    rw [List.length_map] at h0
    have h1 := const_nd v
    have h2 := ndE_pos h0
    simp only [Ex.nd, Ex.rk]
    omega
theorem foldE_const {v : Int} (hv : v ≠ minI) (h1 : -9223372036854775808 ≤ v) (h2 : v ≤ 9223372036854775807) : foldE (constE v) = constE v := by
  unfold constE
  split
  · rename_i h
    rw [foldE_mk]; rfl
  · rename_i h
    rw [foldE_mk]
    have e1 : foldE (.mk 1 (-v) ⟨#[]⟩ []) = .mk 1 (-v) ⟨#[]⟩ [] := by rw [foldE_mk]; rfl
    rw [List.map_singleton, e1]
    unfold foldO
    have e2 : ([Ex.mk 1 (-v) ⟨#[]⟩ []].filterMap knownE) = [-v] := by simp [knownE]
    rw [e2, if_neg (by simp)]
    have e3 : valueM 20 [-v] = some v := by
      unfold valueM fitI
      simp
      omega
    rw [e3]
    simp only [hv, if_false]
    unfold constE
    rw [if_neg h]
theorem value_bd {op : Int} {l : List Int} {v : Int} (hl : ∀ x ∈ l, -9223372036854775808 ≤ x ∧ x ≤ 9223372036854775807) (h : valueM op l = some v) : -9223372036854775808 ≤ v ∧ v ≤ 9223372036854775807 := by
  have hg : ∀ i, -9223372036854775808 ≤ l.getD i 0 ∧ l.getD i 0 ≤ 9223372036854775807 := by
    intro i
    rw [List.getD_eq_getElem?_getD]
    cases hi : l[i]? with
    | none => exact ⟨by decide, by decide⟩
    | some x => exact hl x (List.mem_of_getElem? hi)
  have hf : ∀ z, fitI z = some v → -9223372036854775808 ≤ v ∧ v ≤ 9223372036854775807 := by
    intro z hz
    unfold fitI at hz
    split at hz
    · injection hz with hz; subst hz; assumption
    · cases hz
  have g0 := hg 0
  have g1 := hg 1
  unfold valueM at h
  repeat' split at h
  all_goals first | exact hf _ h | (injection h with h; omega) | cases h
/-- All numbers lie within 64 bits. -/
def NumsE : Ex → Prop
  | .mk _ n _ l => I64 n ∧ go l
  where go : List Ex → Prop
  | [] => True
  | e :: t => NumsE e ∧ go t
theorem nums_go {l : List Ex} : NumsE.go l ↔ ∀ e ∈ l, NumsE e := by
  induction l with
  | nil => simp [NumsE.go]
  | cons x t ih => simp only [NumsE.go, ih, List.mem_cons, forall_eq_or_imp]
theorem RepE.nums {w : World} {X : List Nat} : ∀ (r : Nat) (e : Ex), e.rk ≤ r → ∀ (cs : List Value), RepE w X e cs → NumsE e := by
  intro r
  induction r with
  | zero => intro e h; have := e.rk_pos; omega
  | succ r ih =>
    intro e hr cs h
    obtain ⟨op, n, nm, l, a, len, cap, rfl, rfl, -, h2, -, hS⟩ := h.inv
    have hf := hS.facts
    refine ⟨h2, nums_go.2 (fun e he => ?_)⟩
    obtain ⟨k, hk⟩ := List.getElem?_of_mem he
    have hkl : k < l.length := (List.getElem?_eq_some_iff.1 hk).1
    obtain ⟨b, o, op', n', nm', args, a', len', cap', -, -, -, hx, j1, j2, j3, hS', -⟩ := hS.at k (by omega)
    rw [hk] at hx
    injection hx with hx
    subst hx
    exact ih _ (by have := Ex.rk_lt (op := op) (n := n) (nm := nm) hk; omega) _ (RepE.mk' j1 j2 j3 hS')
theorem known_bd {e : Ex} (hb : bE e = true) (hn : NumsE e) {v : Int} (h : knownE e = some v) : -9223372036854775808 ≤ v ∧ v ≤ 9223372036854775807 := by
  obtain ⟨op, n, nm, l⟩ := e
  obtain ⟨h1, -, h3⟩ := bE_inv hb
  obtain ⟨n1, n2⟩ := hn
  simp only [knownE] at h
  unfold I64 at n1
  by_cases ho : op = 1 ∨ op = 2
  · rw [if_pos ho] at h; injection h with h; subst h; omega
  · rw [if_neg ho] at h
    by_cases h20 : op = 20
    · rw [if_pos h20] at h
      match l, h3, n2, h with
      | [], _, _, h => cases h
      | .mk o m nm' l' :: t, h3, n2, h =>
        by_cases ho1 : o = 1
        · simp [ho1] at h
          subst h
          obtain ⟨-, g2, -⟩ := bE_inv (h3 (.mk o m nm' l') (by simp))
          have g3 : 0 ≤ m := by
            unfold okE at g2
            simp only [Bool.and_eq_true, decide_eq_true_eq] at g2
            exact g2.1.1.2
          have g4 := n2.1.1
          unfold I64 at g4
          omega
        · simp [ho1] at h
    · rw [if_neg h20] at h; cases h
theorem const_nums {v : Int} (h1 : -9223372036854775808 < v) (h2 : v ≤ 9223372036854775807) : NumsE (constE v) := by
  unfold constE
  split
  · exact ⟨⟨by omega, h2⟩, trivial⟩
  · exact ⟨⟨by omega, by omega⟩, ⟨⟨by omega, by omega⟩, trivial⟩, trivial⟩
theorem foldE_twice (e : Ex) (hb : bE e = true) (hn : NumsE e) : NumsE (foldE e) ∧ foldE (foldE e) = foldE e := by
  refine (fold_ind (Q := fun e s => NumsE e → NumsE s ∧ foldE s = s) ?_ _ e (Nat.le_refl _) hb).2 hn
  intro op n nm l _ hb' hq hN
  obtain ⟨m1, m2⟩ := hN
  have hl : ∀ e ∈ l, NumsE (foldE e) ∧ foldE (foldE e) = foldE e := fun e he => hq e he (nums_go.1 m2 e he)
  have hmap : (l.map foldE).map foldE = l.map foldE := by
    rw [List.map_map]
    exact List.map_congr_left (fun e he => (hl e he).2)
  rcases foldO_cases op n nm (l.map foldE) with e | ⟨v, hv, hm, e, -, -⟩
  · rw [e, foldE_mk, hmap, e]
    exact ⟨⟨m1, nums_go.2 (fun e he => by obtain ⟨y, hy, rfl⟩ := List.mem_map.1 he; exact (hl y hy).1)⟩, rfl⟩
  · rw [e]
    obtain ⟨-, -, h3⟩ := bE_inv hb'
    have hbd := value_bd (fun x hx => by
      obtain ⟨c, hc, hk⟩ := List.mem_filterMap.1 hx
      obtain ⟨y, hy, hyc⟩ := List.mem_map.1 hc
      exact known_bd (h3 c hc) (by rw [← hyc]; exact (hl y hy).1) hk) hv
    have hm' : v ≠ -9223372036854775808 := hm
    exact ⟨const_nums (by omega) hbd.2, foldE_const hm hbd.1 hbd.2⟩
end Go.Proofs.Ytppnmeobnilojaa

/- The contracts of num: sums, differences, opposites, products, quotients that never go beyond 64 bits. -/
namespace Go.Proofs.Ytppnmeobnilojaa
set_option linter.unusedVariables false
set_option linter.unusedSimpArgs false
open Go.RowKit
/-- A number that fits, or nought and false. -/
def fitN (o : Option Int) : Int := o.getD 0
def fitB (o : Option Int) : Bool := o.isSome
def fitR (o : Option Int) : Ending := .returned (.tuple #[.int .i64 (fitN o), .bool (fitB o)])
theorem fitI_yes {z : Int} (h1 : -9223372036854775808 ≤ z) (h2 : z ≤ 9223372036854775807) : fitI z = some z := by unfold fitI; rw [if_pos ⟨h1, h2⟩]
theorem fitI_no {z : Int} (h : ¬ (-9223372036854775808 ≤ z ∧ z ≤ 9223372036854775807)) : fitI z = none := by unfold fitI; rw [if_neg h]
theorem fitR_yes {z v : Int} (h : z = v) (h1 : -9223372036854775808 ≤ z) (h2 : z ≤ 9223372036854775807) : fitR (fitI z) = .returned (.tuple #[.int .i64 v, .bool true]) := by
  subst h; rw [fitI_yes h1 h2]; rfl
theorem fitR_no {z : Int} (h : ¬ (-9223372036854775808 ≤ z ∧ z ≤ 9223372036854775807)) : fitR (fitI z) = .returned (.tuple #[.int .i64 0, .bool false]) := by
  rw [fitI_no h]; rfl
theorem tup_eq {x s : Int} {b : Bool} (h : x = s) : Ending.returned (.tuple #[.int .i64 x, .bool b]) = Ending.returned (.tuple #[.int .i64 s, .bool b]) := by rw [h]
set_option maxRecDepth 100000 in
theorem numAdd_any (a b : Int) (w : World) (ha : I64 a) (hb : I64 b) : Calls Try.prog 118 #[.int .i64 a, .int .i64 b] w fun e w' => e = fitR (fitI (a + b)) ∧ w = w' := by
  unfold I64 at ha hb
  obtain ⟨s, hs⟩ : ∃ s, wrap64 (a + b) = s := ⟨_, rfl⟩
  have h2 : s = a + b ∨ s = a + b - 18446744073709551616 ∨ s = a + b + 18446744073709551616 := by unfold wrap64 at hs; omega
  have h3 : -9223372036854775808 ≤ s ∧ s ≤ 9223372036854775807 := by unfold wrap64 at hs; omega
  have HS := Lib.hid hs
  have HT : Hid (∀ x, a + b = x → -9223372036854775808 ≤ x → x ≤ 9223372036854775807 → x = s) := by
    intro x hx h4 h5; unfold wrap64 at hs; omega
  by_cases h : -9223372036854775808 ≤ a + b ∧ a + b ≤ 9223372036854775807
  · obtain ⟨h4, h5⟩ := h
    rw [fitR_yes rfl h4 h5]
    clear hs h2 h3 HS HT
    by_cases ca : a < 0 <;> by_cases cb : b < 0 <;> by_cases cs : a + b < 0 <;> first
      | (exfalso; omega)
      | (skip
         go_enter Try.func118, Try.ntmps118
         go_wp2_with fail
         go_ret2
         exact ⟨rfl, rfl⟩)
  · rw [fitR_no h]
    by_cases ca : a < 0 <;> by_cases cb : b < 0 <;> by_cases cs : s < 0 <;> first
      | (exfalso; omega)
      | (clear h
         go_enter Try.func118, Try.ntmps118
         go_wp2_with fail
         go_ret2
         exact ⟨rfl, rfl⟩)
set_option maxRecDepth 100000 in
theorem numSub_any (a b : Int) (w : World) (ha : I64 a) (hb : I64 b) : Calls Try.prog 119 #[.int .i64 a, .int .i64 b] w fun e w' => e = fitR (fitI (a - b)) ∧ w = w' := by
  unfold I64 at ha hb
  obtain ⟨s, hs⟩ : ∃ s, wrap64 (a - b) = s := ⟨_, rfl⟩
  have h2 : s = a - b ∨ s = a - b - 18446744073709551616 ∨ s = a - b + 18446744073709551616 := by unfold wrap64 at hs; omega
  have h3 : -9223372036854775808 ≤ s ∧ s ≤ 9223372036854775807 := by unfold wrap64 at hs; omega
  have HS := Lib.hid hs
  have HT : Hid (∀ x, a - b = x → -9223372036854775808 ≤ x → x ≤ 9223372036854775807 → x = s) := by
    intro x hx h4 h5; unfold wrap64 at hs; omega
  by_cases h : -9223372036854775808 ≤ a - b ∧ a - b ≤ 9223372036854775807
  · obtain ⟨h4, h5⟩ := h
    rw [fitR_yes rfl h4 h5]
    clear hs h2 h3 HS HT
    by_cases ca : a < 0 <;> by_cases cb : b < 0 <;> by_cases cs : a - b < 0 <;> first
      | (exfalso; omega)
      | (skip
         go_enter Try.func119, Try.ntmps119
         go_wp2_with fail
         go_ret2
         exact ⟨rfl, rfl⟩)
  · rw [fitR_no h]
    by_cases ca : a < 0 <;> by_cases cb : b < 0 <;> by_cases cs : s < 0 <;> first
      | (exfalso; omega)
      | (clear h
         go_enter Try.func119, Try.ntmps119
         go_wp2_with fail
         go_ret2
         exact ⟨rfl, rfl⟩)
theorem numNeg_any (a : Int) (w : World) (ha : I64 a) : Calls Try.prog 100 #[.int .i64 a] w fun e w' => e = fitR (fitI (-a)) ∧ w = w' := by
  unfold I64 at ha
  by_cases h : a = -9223372036854775808
  · subst h
    rw [fitR_no (by omega)]
    clear ha
    go_enter Try.func100, Try.ntmps100
    go_wp2_with fail
    go_ret2
    exact ⟨rfl, rfl⟩
  · have h' : (a == -9223372036854775808) = false := beq_eq_false_iff_ne.2 h
    have h1 : -9223372036854775808 ≤ -a := by omega
    have h2 : -a ≤ 9223372036854775807 := by omega
    rw [fitR_yes rfl h1 h2]
    go_enter Try.func100, Try.ntmps100
    go_wp2_with fail
    go_ret2
    exact ⟨rfl, rfl⟩
theorem size_u (a : Int) (ha : I64 a) (h : a < 0) : IntKind.u64.wrap (-(IntKind.u64.wrap a)) = (a.natAbs : Int) := by
  unfold I64 at ha
  rw [IntKind.wrap_u64, IntKind.wrap_u64]; omega
theorem numSize_any (a : Int) (w : World) (ha : I64 a) : Calls Try.prog 147 #[.int .i64 a] w fun e w' => e = .returned (.int .u64 (a.natAbs : Int)) ∧ w = w' := by
  have HS := Lib.hid (size_u a ha)
  have hx : Hid (¬ a < 0 → a = (a.natAbs : Int)) := fun h => by omega
  unfold I64 at ha
  by_cases h : a < 0
  · go_enter Try.func147, Try.ntmps147
    go_wp2_with fail
    go_ret
    exact ⟨congrArg (fun z => Ending.returned (.int .u64 z)) (HS.out h), rfl⟩
  · go_enter Try.func147, Try.ntmps147
    go_wp2_with fail
    go_ret
    exact ⟨congrArg (fun z => Ending.returned (.int .u64 z)) (hx.out h), rfl⟩
theorem mul64_any (x y : Nat) (hx : x < 18446744073709551616) (hy : y < 18446744073709551616) (w : World) :
    Calls Try.prog 146 #[.int .u64 x, .int .u64 y] w fun e w' => e = .returned (.tuple #[.int .u64 ((x * y / 18446744073709551616 : Nat) : Int), .int .u64 ((x * y % 18446744073709551616 : Nat) : Int)]) ∧ w = w' := by
  obtain ⟨bd, bt, bw, hhi⟩ := Lib.mul64_hi x y hx hy
  have p1 := Lib.half_mul_le (a := x / 4294967296) (b := y / 4294967296) (by omega) (by omega)
  have p2 := Lib.half_mul_le (a := x / 4294967296) (b := y % 4294967296) (by omega) (by omega)
  have p3 := Lib.half_mul_le (a := x % 4294967296) (b := y / 4294967296) (by omega) (by omega)
  have q1 : x / 4294967296 * (y / 4294967296) < 18446744073709551616 := by omega
  have q2 : x / 4294967296 * (y % 4294967296) < 18446744073709551616 := by omega
  have q3 : x % 4294967296 * (y / 4294967296) < 18446744073709551616 := by omega
  have r1 : x / 4294967296 * (y / 4294967296) + (x / 4294967296 * (y % 4294967296) + x % 4294967296 * (y % 4294967296) / 4294967296) / 4294967296 < 18446744073709551616 := by omega
  have r2 : x / 4294967296 * (y / 4294967296) + (x / 4294967296 * (y % 4294967296) + x % 4294967296 * (y % 4294967296) / 4294967296) / 4294967296 + ((x / 4294967296 * (y % 4294967296) + x % 4294967296 * (y % 4294967296) / 4294967296) % 4294967296 + x % 4294967296 * (y / 4294967296)) / 4294967296 < 18446744073709551616 := by omega
  go_enter Try.func146, Try.ntmps146
  go_wp2
  simp only [Mul64.maskN x hx, Mul64.maskN y hy, Mul64.divN, Mul64.mulN, Mul64.addN, Mul64.wrapN _ bd, Mul64.wrapN _ q2, Mul64.wrapN _ bt, Mul64.maskN _ bt, Mul64.wrapN _ q3, Mul64.wrapN _ bw, Mul64.wrapN _ q1, Mul64.wrapN _ r1, Mul64.wrapN _ r2, Mul64.wrapM (x * y)]
  rw [hhi]
  go_ret2
  exact ⟨rfl, rfl⟩
theorem fdiv_pos {m n : Nat} (hn : 0 < n) : ((m : Int)).fdiv (n : Int) = ((m / n : Nat) : Int) := by
  rw [Int.fdiv_eq_ediv_of_nonneg _ (by omega)]; rfl
theorem fdiv_neg {m n : Nat} (hn : 0 < n) : (-(m : Int)).fdiv (n : Int) = if 0 < m % n then -((m / n : Nat) : Int) - 1 else -((m / n : Nat) : Int) := by
  rw [Int.fdiv_eq_ediv_of_nonneg _ (by omega)]
  have h1 := Nat.div_add_mod m n
  have h2 := Nat.mod_lt m hn
  have h3 : (n : Int) * ((m / n : Nat) : Int) + ((m % n : Nat) : Int) = (m : Int) := by exact_mod_cast h1
  split
  · rename_i hr
    refine ((Int.ediv_emod_unique (r := (n : Int) - ((m % n : Nat) : Int)) (by omega)).2 ⟨?_, by omega, by omega⟩).1
    have : (n : Int) * (-((m / n : Nat) : Int) - 1) = -((n : Int) * ((m / n : Nat) : Int)) - n := by rw [Int.mul_sub, Int.mul_neg, Int.mul_one]
    omega
  · refine ((Int.ediv_emod_unique (r := 0) (by omega)).2 ⟨?_, by omega, by omega⟩).1
    have : (n : Int) * (-((m / n : Nat) : Int)) = -((n : Int) * ((m / n : Nat) : Int)) := by rw [Int.mul_neg]
    omega
theorem fdiv_abs (a c : Int) (hc : c ≠ 0) : a.fdiv c = if (decide (a < 0)) = (decide (c < 0)) then ((a.natAbs / c.natAbs : Nat) : Int) else if 0 < a.natAbs % c.natAbs then -((a.natAbs / c.natAbs : Nat) : Int) - 1 else -((a.natAbs / c.natAbs : Nat) : Int) := by
  have hn : 0 < c.natAbs := by omega
  by_cases ha : a < 0 <;> by_cases hcc : c < 0
  · have e1 : a = -(a.natAbs : Int) := by omega
    have e2 : c = -(c.natAbs : Int) := by omega
    rw [decide_eq_true ha, decide_eq_true hcc, if_pos rfl]
    conv => lhs; rw [e1, e2, Int.neg_fdiv_neg]
    exact fdiv_pos hn
  · have e1 : a = -(a.natAbs : Int) := by omega
    have e2 : c = (c.natAbs : Int) := by omega
    rw [decide_eq_true ha, decide_eq_false hcc, if_neg (by decide)]
    conv => lhs; rw [e1, e2]
    exact fdiv_neg hn
  · have e1 : a = (a.natAbs : Int) := by omega
    have e2 : c = -(c.natAbs : Int) := by omega
    rw [decide_eq_false ha, decide_eq_true hcc, if_neg (by decide)]
    conv => lhs; rw [e1, e2, ← Int.neg_fdiv_neg, Int.neg_neg]
    exact fdiv_neg hn
  · have e1 : a = (a.natAbs : Int) := by omega
    have e2 : c = (c.natAbs : Int) := by omega
    rw [decide_eq_false ha, decide_eq_false hcc, if_pos rfl]
    conv => lhs; rw [e1, e2]
    exact fdiv_pos hn
end Go.Proofs.Ytppnmeobnilojaa

/- The contracts of num: products and quotients. -/
namespace Go.Proofs.Ytppnmeobnilojaa
set_option linter.unusedVariables false
set_option linter.unusedSimpArgs false
open Go.RowKit
/-- The sign of a product. -/
def sgB (a b : Int) : Bool := decide (a < 0) != decide (b < 0)
def wideV (n : Nat) (s : Bool) : Array Value := #[.int .u64 ((n / 18446744073709551616 : Nat) : Int), .int .u64 ((n % 18446744073709551616 : Nat) : Int), .bool s]
def sgI (s : Bool) (n : Nat) : Int := if s then -(n : Int) else n
theorem sgI_mul (a b : Int) : sgI (sgB a b) (a.natAbs * b.natAbs) = a * b := by
  rw [← Int.natAbs_mul]
  unfold sgI sgB
  by_cases ha : a < 0 <;> by_cases hb : b < 0
  · have := Int.mul_pos_of_neg_of_neg ha hb
    simp [ha, hb]; omega
  · have := Int.mul_nonpos_of_nonpos_of_nonneg (Int.le_of_lt ha) (Int.not_lt.1 hb)
    simp [ha, hb]; omega
  · have := Int.mul_nonpos_of_nonneg_of_nonpos (Int.not_lt.1 ha) (Int.le_of_lt hb)
    simp [ha, hb]; omega
  · have := Int.mul_nonneg (Int.not_lt.1 ha) (Int.not_lt.1 hb)
    simp [ha, hb]; omega
theorem product_any (a b : Int) (w : World) (ha : I64 a) (hb : I64 b) : Calls Try.prog 131 #[.int .i64 a, .int .i64 b] w fun e w' => e = .returned (.agg (wideV (a.natAbs * b.natAbs) (sgB a b))) ∧ Below w.heap.size w w' := by
  have hA : a.natAbs < 18446744073709551616 := by unfold I64 at ha; omega
  have hB : b.natAbs < 18446744073709551616 := by unfold I64 at hb; omega
  have HM := Lib.hid (fun W => mul64_any a.natAbs b.natAbs hA hB W)
  have HA := Lib.hid (fun W => numSize_any a W ha)
  have HB := Lib.hid (fun W => numSize_any b W hb)
  have HE : Hid (∀ s, (decide (a < 0) != decide (b < 0)) = s → sgB a b = s) := fun s h => h
  unfold wideV
  generalize a.natAbs * b.natAbs / 18446744073709551616 = hi at *
  generalize a.natAbs * b.natAbs % 18446744073709551616 = lo at *
  clear ha hb hA hB
  by_cases ca : a < 0 <;> by_cases cb : b < 0
  · have e := HE.out false (by rw [decide_eq_true ca, decide_eq_true cb]; rfl)
    rw [e]
    clear e HE
    go_enter Try.func131, Try.ntmps131
    go_wp2_with fail
    go_at_call 147
    (with_reducible refine (HA.out _).mono ?_)
    rintro y w1 ⟨rfl, rfl⟩
    go_wp2_with fail
    go_at_call 147
    (with_reducible refine (HB.out _).mono ?_)
    rintro y w1 ⟨rfl, rfl⟩
    go_wp2_with fail
    go_at_call 146
    (with_reducible refine (HM.out _).mono ?_)
    rintro y w1 ⟨rfl, rfl⟩
    go_wp2_with fail
    refine bodyPost_ret (v := .agg #[.int .u64 (hi : Int), .int .u64 (lo : Int), .bool false]) (by simp [results, Try.results131, go_sem] <;> omega) rfl ⟨rfl, ?_⟩
    exact (Below.refl _ _).alloc (Nat.le_refl _) _
  · have e := HE.out true (by rw [decide_eq_true ca, decide_eq_false cb]; rfl)
    rw [e]
    clear e HE
    go_enter Try.func131, Try.ntmps131
    go_wp2_with fail
    go_at_call 147
    (with_reducible refine (HA.out _).mono ?_)
    rintro y w1 ⟨rfl, rfl⟩
    go_wp2_with fail
    go_at_call 147
    (with_reducible refine (HB.out _).mono ?_)
    rintro y w1 ⟨rfl, rfl⟩
    go_wp2_with fail
    go_at_call 146
    (with_reducible refine (HM.out _).mono ?_)
    rintro y w1 ⟨rfl, rfl⟩
    go_wp2_with fail
    refine bodyPost_ret (v := .agg #[.int .u64 (hi : Int), .int .u64 (lo : Int), .bool true]) (by simp [results, Try.results131, go_sem] <;> omega) rfl ⟨rfl, ?_⟩
    exact (Below.refl _ _).alloc (Nat.le_refl _) _
  · have e := HE.out true (by rw [decide_eq_false ca, decide_eq_true cb]; rfl)
    rw [e]
    clear e HE
    go_enter Try.func131, Try.ntmps131
    go_wp2_with fail
    go_at_call 147
    (with_reducible refine (HA.out _).mono ?_)
    rintro y w1 ⟨rfl, rfl⟩
    go_wp2_with fail
    go_at_call 147
    (with_reducible refine (HB.out _).mono ?_)
    rintro y w1 ⟨rfl, rfl⟩
    go_wp2_with fail
    go_at_call 146
    (with_reducible refine (HM.out _).mono ?_)
    rintro y w1 ⟨rfl, rfl⟩
    go_wp2_with fail
    refine bodyPost_ret (v := .agg #[.int .u64 (hi : Int), .int .u64 (lo : Int), .bool true]) (by simp [results, Try.results131, go_sem] <;> omega) rfl ⟨rfl, ?_⟩
    exact (Below.refl _ _).alloc (Nat.le_refl _) _
  · have e := HE.out false (by rw [decide_eq_false ca, decide_eq_false cb]; rfl)
    rw [e]
    clear e HE
    go_enter Try.func131, Try.ntmps131
    go_wp2_with fail
    go_at_call 147
    (with_reducible refine (HA.out _).mono ?_)
    rintro y w1 ⟨rfl, rfl⟩
    go_wp2_with fail
    go_at_call 147
    (with_reducible refine (HB.out _).mono ?_)
    rintro y w1 ⟨rfl, rfl⟩
    go_wp2_with fail
    go_at_call 146
    (with_reducible refine (HM.out _).mono ?_)
    rintro y w1 ⟨rfl, rfl⟩
    go_wp2_with fail
    refine bodyPost_ret (v := .agg #[.int .u64 (hi : Int), .int .u64 (lo : Int), .bool false]) (by simp [results, Try.results131, go_sem] <;> omega) rfl ⟨rfl, ?_⟩
    exact (Below.refl _ _).alloc (Nat.le_refl _) _
theorem tup_b {x : Value} {b c : Bool} (h : b = c) : Ending.returned (.tuple #[x, .bool b]) = Ending.returned (.tuple #[x, .bool c]) := by rw [h]
/-- A wide number that fits. -/
theorem narrow_yes (n : Nat) (s : Bool) (w : World) (hn : n < 340282366920938463463374607431768211456) (h1 : -9223372036854775808 ≤ sgI s n) (h2 : sgI s n ≤ 9223372036854775807) :
    Calls Try.prog 132 #[.agg (wideV n s)] w fun e w' => e = .returned (.tuple #[.int .i64 (sgI s n), .bool true]) ∧ Below w.heap.size w w' := by
  have hhi : n / 18446744073709551616 = 0 := by unfold sgI at h1 h2; cases s <;> simp at h1 h2 <;> omega
  have hlo : n % 18446744073709551616 = n := by omega
  unfold wideV
  rw [hhi, hlo]
  cases s
  · have e : sgI false n = (n : Int) := rfl
    rw [e] at h1 h2 ⊢
    have n1 : (n : Int) < 9223372036854775808 := by omega
    have n2 : 0 ≤ (n : Int) := by omega
    clear hhi hlo e hn
    go_enter Try.func132, Try.ntmps132
    go_wp2_with fail
    go_region
    go_wp2_with fail
    go_ret2
    exact ⟨rfl, below_drewN ((Below.refl _ _).alloc (Nat.le_refl _) _) _⟩
  · have e : sgI true n = -(n : Int) := rfl
    rw [e] at h1 h2 ⊢
    have n1 : (n : Int) ≤ 9223372036854775808 := by omega
    have n2 : 0 ≤ (n : Int) := by omega
    clear hhi hlo e hn
    go_enter Try.func132, Try.ntmps132
    go_wp2_with fail
    go_region
    go_wp2_with fail
    go_ret2
    exact ⟨tup_eq (x := wrap64 (-wrap64 (n : Int))) (by unfold wrap64; omega), below_drewN ((Below.refl _ _).alloc (Nat.le_refl _) _) _⟩
/-- A wide number that doesn't. -/
theorem narrow_no (n : Nat) (s : Bool) (w : World) (hn : n < 340282366920938463463374607431768211456) (h : ¬ (-9223372036854775808 ≤ sgI s n ∧ sgI s n ≤ 9223372036854775807)) :
    Calls Try.prog 132 #[.agg (wideV n s)] w fun e w' => (∃ v, e = .returned (.tuple #[.int .i64 v, .bool false])) ∧ Below w.heap.size w w' := by
  unfold wideV
  by_cases hh : n / 18446744073709551616 = 0
  · have hlo : n % 18446744073709551616 = n := by omega
    rw [hh, hlo]
    cases s
    · have n1 : ¬ (n : Int) < 9223372036854775808 := by unfold sgI at h; simp at h; omega
      have n2 : (n : Int) < 18446744073709551616 := by omega
      clear hh hlo hn h
      go_enter Try.func132, Try.ntmps132
      go_wp2_with fail
      go_region
      go_wp2_with fail
      go_ret2
      exact ⟨⟨_, tup_b (b := decide ((n : Int) < 9223372036854775808)) (decide_eq_false (by omega))⟩, below_drewN ((Below.refl _ _).alloc (Nat.le_refl _) _) _⟩
    · have n1 : ¬ (n : Int) ≤ 9223372036854775808 := by unfold sgI at h; simp at h; omega
      have n2 : (n : Int) < 18446744073709551616 := by omega
      clear hh hlo hn h
      go_enter Try.func132, Try.ntmps132
      go_wp2_with fail
      go_region
      go_wp2_with fail
      go_ret2
      exact ⟨⟨_, tup_b (b := decide ((n : Int) ≤ 9223372036854775808)) (decide_eq_false (by omega))⟩, below_drewN ((Below.refl _ _).alloc (Nat.le_refl _) _) _⟩
  · have h' : (((n / 18446744073709551616 : Nat) : Int) == 0) = false := beq_eq_false_iff_ne.2 (by omega)
    generalize ((n / 18446744073709551616 : Nat) : Int) = hi at *
    clear hh hn h
    go_enter Try.func132, Try.ntmps132
    go_wp2_with fail
    go_ret2
    exact ⟨⟨_, rfl⟩, (Below.refl _ _).alloc (Nat.le_refl _) _⟩
theorem mag_bd (a b : Int) (ha : I64 a) (hb : I64 b) : a.natAbs * b.natAbs < 340282366920938463463374607431768211456 := by
  unfold I64 at ha hb
  have := Nat.mul_le_mul (show a.natAbs ≤ 9223372036854775808 by omega) (show b.natAbs ≤ 9223372036854775808 by omega)
  omega
theorem numMul_any (a b : Int) (w : World) (ha : I64 a) (hb : I64 b) : Calls Try.prog 120 #[.int .i64 a, .int .i64 b] w fun e w' => e = fitR (fitI (a * b)) ∧ Below w.heap.size w w' := by
  have HP := Lib.hid (fun W => product_any a b W ha hb)
  have hn := mag_bd a b ha hb
  have E := sgI_mul a b
  generalize a.natAbs * b.natAbs = n at *
  generalize sgB a b = s at *
  by_cases h : -9223372036854775808 ≤ a * b ∧ a * b ≤ 9223372036854775807
  · have HN := Lib.hid (fun W => narrow_yes n s W hn (by rw [E]; exact h.1) (by rw [E]; exact h.2))
    rw [fitR_yes rfl h.1 h.2]
    rw [E] at HN
    generalize a * b = z at *
    clear E h hn ha hb
    go_enter Try.func120, Try.ntmps120
    go_wp2_with fail
    go_at_call 131
    (with_reducible refine (HP.out _).mono ?_)
    rintro y w1 ⟨rfl, b1⟩
    go_wp2_with fail
    go_at_call 132
    (with_reducible refine (HN.out _).mono ?_)
    rintro y w2 ⟨rfl, b2⟩
    go_wp2_with fail
    go_ret2
    exact ⟨rfl, b1.trans (b2.mono b1.size)⟩
  · have HN := Lib.hid (fun W => narrow_no n s W hn (by rw [E]; exact h))
    rw [fitR_no h]
    clear E h hn ha hb
    go_enter Try.func120, Try.ntmps120
    go_wp2_with fail
    go_at_call 131
    (with_reducible refine (HP.out _).mono ?_)
    rintro y w1 ⟨rfl, b1⟩
    go_wp2_with fail
    go_at_call 132
    (with_reducible refine (HN.out _).mono ?_)
    rintro y w2 ⟨⟨v, rfl⟩, b2⟩
    go_wp2_with fail
    go_ret2
    exact ⟨rfl, b1.trans (b2.mono b1.size)⟩
theorem div64_any (x y : Nat) (hx : x < 18446744073709551616) (hy : 0 < y) (hy' : y < 18446744073709551616) (w : World) :
    Calls Try.prog 148 #[.int .u64 0, .int .u64 x, .int .u64 y] w fun e w' => e = .returned (.tuple #[.int .u64 ((x / y : Nat) : Int), .int .u64 ((x % y : Nat) : Int)]) ∧ Below w.heap.size w w' := by
  have h1 : ((y : Int) == 0) = false := beq_eq_false_iff_ne.2 (by omega)
  have h1' : ¬ (y : Int) = 0 := by omega
  have h2 : ¬ (y : Int) ≤ 0 := by omega
  have e1 : Hid (IntKind.u64.wrap ((x : Int) / (y : Int)) = ((x / y : Nat) : Int)) := by
    have h := Nat.div_le_self x y
    have hd : (x : Int) / (y : Int) = ((x / y : Nat) : Int) := rfl
    show _ = _
    rw [hd]
    generalize x / y = q at *
    rw [IntKind.wrap_u64]; omega
  go_enter Try.func148, Try.ntmps148
  go_wp2_with fail
  go_region
  go_wp2_with fail
  go_ret2
  exact ⟨congrArg (fun z => Ending.returned (.tuple #[.int .u64 z, .int .u64 ((x % y : Nat) : Int)])) e1.out, below_drewN (Below.refl _ _) _⟩
set_option maxRecDepth 100000 in
theorem away_any (odd neg : Bool) (l y : Nat) (hl : l < y) (hy' : y < 18446744073709551616) (w : World) :
    Calls Try.prog 149 #[.int .i64 1, .bool odd, .bool neg, .int .u64 (l : Nat), .int .u64 (y : Nat)] w fun e w' => e = .returned (.bool (neg && decide (0 < l))) ∧ w = w' := by
  obtain ⟨d, hd⟩ : ∃ d : Int, (y : Int) - (l : Int) = d := ⟨_, rfl⟩
  have hw : IntKind.u64.wrap d = d := by rw [IntKind.wrap_u64]; omega
  have HY : Hid (decide (0 < l) = decide ((0 : Int) < (l : Int))) := by
    by_cases h : 0 < l
    · show _ = _; rw [decide_eq_true h, decide_eq_true (by omega)]
    · show _ = _; rw [decide_eq_false h, decide_eq_false (by omega)]
  rw [HY.out]
  have h0 : (0 : Int) ≤ (l : Int) := by omega
  clear HY hl hy'
  generalize (y : Int) = Y at *
  generalize (l : Int) = L at *
  have hd0 : Y - L - d = 0 := by omega
  by_cases h3 : 0 < L
  · rw [decide_eq_true h3]
    by_cases h4 : d < L
    · have h5 : (L == d) = false := beq_eq_false_iff_ne.2 (by omega)
      cases neg
      · go_enter Try.func149, Try.ntmps149
        clear hd0
        go_wp2_with fail
        go_ret
        exact ⟨rfl, rfl⟩
      · go_enter Try.func149, Try.ntmps149
        clear hd0
        go_wp2_with fail
        go_ret
        exact ⟨rfl, rfl⟩
    · by_cases h6 : L = d
      · subst h6
        cases neg
        · go_enter Try.func149, Try.ntmps149
          clear hd0
          go_wp2_with fail
          go_ret
          exact ⟨rfl, rfl⟩
        · go_enter Try.func149, Try.ntmps149
          clear hd0
          go_wp2_with fail
          go_ret
          exact ⟨rfl, rfl⟩
      · have h5 : (L == d) = false := beq_eq_false_iff_ne.2 h6
        cases neg
        · go_enter Try.func149, Try.ntmps149
          clear hd0
          go_wp2_with fail
          go_ret
          exact ⟨rfl, rfl⟩
        · go_enter Try.func149, Try.ntmps149
          clear hd0
          go_wp2_with fail
          go_ret
          exact ⟨rfl, rfl⟩
  · obtain rfl : L = 0 := by omega
    have h4 : ¬ d < 0 := by rw [IntKind.wrap_u64] at hw; omega
    by_cases h6 : (0 : Int) = d
    · subst h6
      cases neg
      · go_enter Try.func149, Try.ntmps149
        clear hd0
        go_wp2_with fail
        go_ret
        exact ⟨rfl, rfl⟩
      · go_enter Try.func149, Try.ntmps149
        clear hd0
        go_wp2_with fail
        go_ret
        exact ⟨rfl, rfl⟩
    · have h5 : ((0 : Int) == d) = false := beq_eq_false_iff_ne.2 h6
      cases neg
      · go_enter Try.func149, Try.ntmps149
        clear hd0
        go_wp2_with fail
        go_ret
        exact ⟨rfl, rfl⟩
      · go_enter Try.func149, Try.ntmps149
        clear hd0
        go_wp2_with fail
        go_ret
        exact ⟨rfl, rfl⟩
end Go.Proofs.Ytppnmeobnilojaa

/- The contracts of num.over and MulDiv; condition: a number over a number, rounded down. -/
namespace Go.Proofs.Ytppnmeobnilojaa
set_option linter.unusedVariables false
set_option linter.unusedSimpArgs false
open Go.RowKit
theorem ov_cases (a c : Int) (hc : c ≠ 0) : ∃ q r : Nat, q = a.natAbs / c.natAbs ∧ r = a.natAbs % c.natAbs ∧ r < c.natAbs ∧ q ≤ a.natAbs ∧ (0 < r → q + 1 ≤ a.natAbs + 0 ∨ q = 0) ∧
    a.fdiv c = sgI (sgB a c) (if (sgB a c && decide (0 < r)) = true then q + 1 else q) := by
  refine ⟨_, _, rfl, rfl, Nat.mod_lt _ (by omega), Nat.div_le_self _ _, ?_, ?_⟩
  · intro h
    by_cases h1 : c.natAbs = 1
    · rw [h1, Nat.mod_one] at h; omega
    · by_cases h0 : a.natAbs = 0
      · right; rw [h0]; exact Nat.zero_div _
      · left
        have := Nat.div_lt_self (n := a.natAbs) (k := c.natAbs) (by omega) (by omega)
        omega
  · rw [fdiv_abs a c hc]
    unfold sgI sgB
    generalize decide (a < 0) = x
    generalize decide (c < 0) = y
    by_cases hr : 0 < a.natAbs % c.natAbs
    · cases x <;> cases y <;> simp [hr] <;> omega
    · cases x <;> cases y <;> simp [hr]
set_option maxRecDepth 100000 in
set_option maxHeartbeats 1000000 in
theorem over_any (a c : Int) (w : World) (ha : I64 a) (hI : I64 c) (hc : c ≠ 0) :
    Calls Try.prog 133 #[.agg (wideV a.natAbs (decide (a < 0))), .int .i64 c, .int .i64 1] w fun e w' => e = fitR (fitI (a.fdiv c)) ∧ Below w.heap.size w w' := by
  obtain ⟨q, r, hq, hr, hrc, hqa, hq1, hf⟩ := ov_cases a c hc
  have hA : a.natAbs < 18446744073709551616 := by unfold I64 at ha; omega
  have hC : c.natAbs < 18446744073709551616 := by unfold I64 at hI; omega
  have HS := Lib.hid (fun W => numSize_any c W hI)
  have HD := Lib.hid (fun W => div64_any a.natAbs c.natAbs hA (by omega) hC W)
  rw [← hq, ← hr] at HD
  have HW := Lib.hid (fun odd W => away_any odd (sgB a c) r c.natAbs hrc hC W)
  have hQ : q + 1 < 18446744073709551616 := by unfold I64 at ha; omega
  obtain ⟨Q1, hQ1⟩ : ∃ Q1, q + 1 = Q1 := ⟨_, rfl⟩
  rw [hQ1] at hf
  have HL := Lib.hid (show q ≤ Q1 by omega)
  have hne : ((Q1 : Int) == 0) = false := beq_eq_false_iff_ne.2 (by omega)
  have HY := Lib.hid (fun m (hm : m ≤ Q1) s W => narrow_yes m s W (by omega))
  have HN := Lib.hid (fun m (hm : m ≤ Q1) s W => narrow_no m s W (by omega))
  have hg : ¬ (c.natAbs : Int) ≤ 0 := by omega
  have hwide : wideV a.natAbs (decide (a < 0)) = #[.int .u64 0, .int .u64 (a.natAbs : Int), .bool (decide (a < 0))] := by
    unfold wideV
    rw [show a.natAbs / 18446744073709551616 = 0 by omega, show a.natAbs % 18446744073709551616 = a.natAbs by omega]; rfl
  rw [hwide]
  have HX : Hid (∀ m, m ≤ Q1 → ∀ s, wideV m s = #[.int .u64 0, .int .u64 (m : Int), .bool s]) := by
    intro m hm s
    unfold wideV
    rw [show m / 18446744073709551616 = 0 by omega, show m % 18446744073709551616 = m by omega]; rfl
  have HSG : Hid (sgB a c = (decide (a < 0) != decide (c < 0))) := rfl
  have B := Mem.Blk.new w 157 #[.int .u64 0, .int .u64 (a.natAbs : Int), .bool (decide (a < 0))]
  have c0 := B.cell 0
  have c1 := B.cell 1
  have c2 := B.cell 2
  simp only [List.getElem?_toArray, List.getElem?_cons_zero, List.getElem?_cons_succ] at c0 c1 c2
  have HB0 := Lib.hid ((Below.refl w.heap.size w).alloc (Nat.le_refl _) (.cells #[.int .u64 0, .int .u64 (a.natAbs : Int), .bool (decide (a < 0))] 157))
  generalize a.fdiv c = z at *
  have hw : Hid (IntKind.u64.wrap ((q : Int) + 1) = (Q1 : Int)) := by show _ = _; rw [IntKind.wrap_u64]; omega
  generalize sgB a c = sg at *
  clear hwide hQ hQ1 hq hr hqa hq1 ha hI hA hC B hrc
  generalize (a.natAbs : Int) = A at *
  generalize (c.natAbs : Int) = C at *
  generalize hsa : decide (a < 0) = sa at *
  by_cases hcn : c < 0
  · have HCN := Lib.hid (decide_eq_true hcn)
    rw [decide_eq_true hcn] at HSG
    cases sa
    · obtain rfl : sg = true := HSG.out
      clear HSG
      by_cases hr0 : 0 < r
      · have e0 : (true && decide (0 < r)) = true := by rw [decide_eq_true hr0]; rfl
        rw [e0] at HW
        rw [e0, if_pos rfl] at hf
        clear e0
        by_cases h : -9223372036854775808 ≤ z ∧ z ≤ 9223372036854775807
        · have HY := Lib.hid (fun W => HY.out Q1 (Nat.le_refl _) true W (by rw [← hf]; exact h.1) (by rw [← hf]; exact h.2))
          rw [fitR_yes rfl h.1 h.2]
          rw [HX.out Q1 (Nat.le_refl _), ← hf] at HY
          clear HX HN hf h
          go_enter Try.func133, Try.ntmps133
          go_upto_region 1 with (fail)
          generalize w.alloc (.cells _ 157) = v at *
          go_wp2_with fail
          go_at_call 147
          (with_reducible refine (HS.out _).mono ?_)
          rintro y w1 ⟨rfl, rfl⟩
          go_wp2_with fail
          go_at_call 148
          (with_reducible refine (HD.out _).mono ?_)
          rintro y w1 ⟨rfl, b1⟩
          have c2' := cell_up c2 b1
          have HB1 := Lib.hid (HB0.out.trans (b1.mono HB0.out.size))
          clear HB0 b1
          go_wp2_with fail
          try rw [HCN.out]
          try simp only [Bool.not_true, Bool.not_false]
          go_at_call 149
          (with_reducible refine (HW.out _ _).mono ?_)
          rintro y w2 ⟨rfl, rfl⟩
          clear c0 c1 c2 c2'
          have hw2 := hw.out
          go_wp2_with fail
          go_at_call 132
          (with_reducible refine (HY.out _).mono ?_)
          rintro y w3 ⟨rfl, b3⟩
          go_wp2_with fail
          go_ret2
          exact ⟨rfl, HB1.out.trans (b3.mono HB1.out.size)⟩
        · have HN := Lib.hid (fun W => HN.out Q1 (Nat.le_refl _) true W (by rw [← hf]; exact h))
          rw [fitR_no h]
          rw [HX.out Q1 (Nat.le_refl _)] at HN
          clear HX HY hf h
          go_enter Try.func133, Try.ntmps133
          go_upto_region 1 with (fail)
          generalize w.alloc (.cells _ 157) = v at *
          go_wp2_with fail
          go_at_call 147
          (with_reducible refine (HS.out _).mono ?_)
          rintro y w1 ⟨rfl, rfl⟩
          go_wp2_with fail
          go_at_call 148
          (with_reducible refine (HD.out _).mono ?_)
          rintro y w1 ⟨rfl, b1⟩
          have c2' := cell_up c2 b1
          have HB1 := Lib.hid (HB0.out.trans (b1.mono HB0.out.size))
          clear HB0 b1
          go_wp2_with fail
          try rw [HCN.out]
          try simp only [Bool.not_true, Bool.not_false]
          go_at_call 149
          (with_reducible refine (HW.out _ _).mono ?_)
          rintro y w2 ⟨rfl, rfl⟩
          clear c0 c1 c2 c2'
          have hw2 := hw.out
          go_wp2_with fail
          go_at_call 132
          (with_reducible refine (HN.out _).mono ?_)
          rintro y w3 ⟨⟨v3, rfl⟩, b3⟩
          go_wp2_with fail
          go_ret2
          exact ⟨rfl, HB1.out.trans (b3.mono HB1.out.size)⟩
      · have e0 : (true && decide (0 < r)) = false := by rw [decide_eq_false hr0]; rfl
        rw [e0] at HW
        rw [e0, if_neg (by decide)] at hf
        clear e0
        by_cases h : -9223372036854775808 ≤ z ∧ z ≤ 9223372036854775807
        · have HY := Lib.hid (fun W => HY.out q HL.out true W (by rw [← hf]; exact h.1) (by rw [← hf]; exact h.2))
          rw [fitR_yes rfl h.1 h.2]
          rw [HX.out q HL.out, ← hf] at HY
          clear HX HN hf h
          go_enter Try.func133, Try.ntmps133
          go_upto_region 1 with (fail)
          generalize w.alloc (.cells _ 157) = v at *
          go_wp2_with fail
          go_at_call 147
          (with_reducible refine (HS.out _).mono ?_)
          rintro y w1 ⟨rfl, rfl⟩
          go_wp2_with fail
          go_at_call 148
          (with_reducible refine (HD.out _).mono ?_)
          rintro y w1 ⟨rfl, b1⟩
          have c2' := cell_up c2 b1
          have HB1 := Lib.hid (HB0.out.trans (b1.mono HB0.out.size))
          clear HB0 b1
          go_wp2_with fail
          try rw [HCN.out]
          try simp only [Bool.not_true, Bool.not_false]
          go_at_call 149
          (with_reducible refine (HW.out _ _).mono ?_)
          rintro y w2 ⟨rfl, rfl⟩
          clear c0 c1 c2 c2'
          go_wp2_with fail
          go_at_call 132
          (with_reducible refine (HY.out _).mono ?_)
          rintro y w3 ⟨rfl, b3⟩
          go_wp2_with fail
          go_ret2
          exact ⟨rfl, HB1.out.trans (b3.mono HB1.out.size)⟩
        · have HN := Lib.hid (fun W => HN.out q HL.out true W (by rw [← hf]; exact h))
          rw [fitR_no h]
          rw [HX.out q HL.out] at HN
          clear HX HY hf h
          go_enter Try.func133, Try.ntmps133
          go_upto_region 1 with (fail)
          generalize w.alloc (.cells _ 157) = v at *
          go_wp2_with fail
          go_at_call 147
          (with_reducible refine (HS.out _).mono ?_)
          rintro y w1 ⟨rfl, rfl⟩
          go_wp2_with fail
          go_at_call 148
          (with_reducible refine (HD.out _).mono ?_)
          rintro y w1 ⟨rfl, b1⟩
          have c2' := cell_up c2 b1
          have HB1 := Lib.hid (HB0.out.trans (b1.mono HB0.out.size))
          clear HB0 b1
          go_wp2_with fail
          try rw [HCN.out]
          try simp only [Bool.not_true, Bool.not_false]
          go_at_call 149
          (with_reducible refine (HW.out _ _).mono ?_)
          rintro y w2 ⟨rfl, rfl⟩
          clear c0 c1 c2 c2'
          go_wp2_with fail
          go_at_call 132
          (with_reducible refine (HN.out _).mono ?_)
          rintro y w3 ⟨⟨v3, rfl⟩, b3⟩
          go_wp2_with fail
          go_ret2
          exact ⟨rfl, HB1.out.trans (b3.mono HB1.out.size)⟩
    · obtain rfl : sg = false := HSG.out
      clear HSG
      have e0 : (false && decide (0 < r)) = false := rfl
      rw [e0] at HW
      rw [e0, if_neg (by decide)] at hf
      clear e0
      by_cases h : -9223372036854775808 ≤ z ∧ z ≤ 9223372036854775807
      · have HY := Lib.hid (fun W => HY.out q HL.out false W (by rw [← hf]; exact h.1) (by rw [← hf]; exact h.2))
        rw [fitR_yes rfl h.1 h.2]
        rw [HX.out q HL.out, ← hf] at HY
        clear HX HN hf h
        go_enter Try.func133, Try.ntmps133
        go_upto_region 1 with (fail)
        generalize w.alloc (.cells _ 157) = v at *
        go_wp2_with fail
        go_at_call 147
        (with_reducible refine (HS.out _).mono ?_)
        rintro y w1 ⟨rfl, rfl⟩
        go_wp2_with fail
        go_at_call 148
        (with_reducible refine (HD.out _).mono ?_)
        rintro y w1 ⟨rfl, b1⟩
        have c2' := cell_up c2 b1
        have HB1 := Lib.hid (HB0.out.trans (b1.mono HB0.out.size))
        clear HB0 b1
        go_wp2_with fail
        try rw [HCN.out]
        try simp only [Bool.not_true, Bool.not_false]
        go_at_call 149
        (with_reducible refine (HW.out _ _).mono ?_)
        rintro y w2 ⟨rfl, rfl⟩
        clear c0 c1 c2 c2'
        go_wp2_with fail
        go_at_call 132
        (with_reducible refine (HY.out _).mono ?_)
        rintro y w3 ⟨rfl, b3⟩
        go_wp2_with fail
        go_ret2
        exact ⟨rfl, HB1.out.trans (b3.mono HB1.out.size)⟩
      · have HN := Lib.hid (fun W => HN.out q HL.out false W (by rw [← hf]; exact h))
        rw [fitR_no h]
        rw [HX.out q HL.out] at HN
        clear HX HY hf h
        go_enter Try.func133, Try.ntmps133
        go_upto_region 1 with (fail)
        generalize w.alloc (.cells _ 157) = v at *
        go_wp2_with fail
        go_at_call 147
        (with_reducible refine (HS.out _).mono ?_)
        rintro y w1 ⟨rfl, rfl⟩
        go_wp2_with fail
        go_at_call 148
        (with_reducible refine (HD.out _).mono ?_)
        rintro y w1 ⟨rfl, b1⟩
        have c2' := cell_up c2 b1
        have HB1 := Lib.hid (HB0.out.trans (b1.mono HB0.out.size))
        clear HB0 b1
        go_wp2_with fail
        try rw [HCN.out]
        try simp only [Bool.not_true, Bool.not_false]
        go_at_call 149
        (with_reducible refine (HW.out _ _).mono ?_)
        rintro y w2 ⟨rfl, rfl⟩
        clear c0 c1 c2 c2'
        go_wp2_with fail
        go_at_call 132
        (with_reducible refine (HN.out _).mono ?_)
        rintro y w3 ⟨⟨v3, rfl⟩, b3⟩
        go_wp2_with fail
        go_ret2
        exact ⟨rfl, HB1.out.trans (b3.mono HB1.out.size)⟩
  · have HCN := Lib.hid (decide_eq_false hcn)
    rw [decide_eq_false hcn] at HSG
    cases sa
    · obtain rfl : sg = false := HSG.out
      clear HSG
      have e0 : (false && decide (0 < r)) = false := rfl
      rw [e0] at HW
      rw [e0, if_neg (by decide)] at hf
      clear e0
      by_cases h : -9223372036854775808 ≤ z ∧ z ≤ 9223372036854775807
      · have HY := Lib.hid (fun W => HY.out q HL.out false W (by rw [← hf]; exact h.1) (by rw [← hf]; exact h.2))
        rw [fitR_yes rfl h.1 h.2]
        rw [HX.out q HL.out, ← hf] at HY
        clear HX HN hf h
        go_enter Try.func133, Try.ntmps133
        go_upto_region 1 with (fail)
        generalize w.alloc (.cells _ 157) = v at *
        go_wp2_with fail
        go_at_call 147
        (with_reducible refine (HS.out _).mono ?_)
        rintro y w1 ⟨rfl, rfl⟩
        go_wp2_with fail
        go_at_call 148
        (with_reducible refine (HD.out _).mono ?_)
        rintro y w1 ⟨rfl, b1⟩
        have c2' := cell_up c2 b1
        have HB1 := Lib.hid (HB0.out.trans (b1.mono HB0.out.size))
        clear HB0 b1
        go_wp2_with fail
        try rw [HCN.out]
        try simp only [Bool.not_true, Bool.not_false]
        go_at_call 149
        (with_reducible refine (HW.out _ _).mono ?_)
        rintro y w2 ⟨rfl, rfl⟩
        clear c0 c1 c2 c2'
        go_wp2_with fail
        go_at_call 132
        (with_reducible refine (HY.out _).mono ?_)
        rintro y w3 ⟨rfl, b3⟩
        go_wp2_with fail
        go_ret2
        exact ⟨rfl, HB1.out.trans (b3.mono HB1.out.size)⟩
      · have HN := Lib.hid (fun W => HN.out q HL.out false W (by rw [← hf]; exact h))
        rw [fitR_no h]
        rw [HX.out q HL.out] at HN
        clear HX HY hf h
        go_enter Try.func133, Try.ntmps133
        go_upto_region 1 with (fail)
        generalize w.alloc (.cells _ 157) = v at *
        go_wp2_with fail
        go_at_call 147
        (with_reducible refine (HS.out _).mono ?_)
        rintro y w1 ⟨rfl, rfl⟩
        go_wp2_with fail
        go_at_call 148
        (with_reducible refine (HD.out _).mono ?_)
        rintro y w1 ⟨rfl, b1⟩
        have c2' := cell_up c2 b1
        have HB1 := Lib.hid (HB0.out.trans (b1.mono HB0.out.size))
        clear HB0 b1
        go_wp2_with fail
        try rw [HCN.out]
        try simp only [Bool.not_true, Bool.not_false]
        go_at_call 149
        (with_reducible refine (HW.out _ _).mono ?_)
        rintro y w2 ⟨rfl, rfl⟩
        clear c0 c1 c2 c2'
        go_wp2_with fail
        go_at_call 132
        (with_reducible refine (HN.out _).mono ?_)
        rintro y w3 ⟨⟨v3, rfl⟩, b3⟩
        go_wp2_with fail
        go_ret2
        exact ⟨rfl, HB1.out.trans (b3.mono HB1.out.size)⟩
    · obtain rfl : sg = true := HSG.out
      clear HSG
      by_cases hr0 : 0 < r
      · have e0 : (true && decide (0 < r)) = true := by rw [decide_eq_true hr0]; rfl
        rw [e0] at HW
        rw [e0, if_pos rfl] at hf
        clear e0
        by_cases h : -9223372036854775808 ≤ z ∧ z ≤ 9223372036854775807
        · have HY := Lib.hid (fun W => HY.out Q1 (Nat.le_refl _) true W (by rw [← hf]; exact h.1) (by rw [← hf]; exact h.2))
          rw [fitR_yes rfl h.1 h.2]
          rw [HX.out Q1 (Nat.le_refl _), ← hf] at HY
          clear HX HN hf h
          go_enter Try.func133, Try.ntmps133
          go_upto_region 1 with (fail)
          generalize w.alloc (.cells _ 157) = v at *
          go_wp2_with fail
          go_at_call 147
          (with_reducible refine (HS.out _).mono ?_)
          rintro y w1 ⟨rfl, rfl⟩
          go_wp2_with fail
          go_at_call 148
          (with_reducible refine (HD.out _).mono ?_)
          rintro y w1 ⟨rfl, b1⟩
          have c2' := cell_up c2 b1
          have HB1 := Lib.hid (HB0.out.trans (b1.mono HB0.out.size))
          clear HB0 b1
          go_wp2_with fail
          try rw [HCN.out]
          try simp only [Bool.not_true, Bool.not_false]
          go_at_call 149
          (with_reducible refine (HW.out _ _).mono ?_)
          rintro y w2 ⟨rfl, rfl⟩
          clear c0 c1 c2 c2'
          have hw2 := hw.out
          go_wp2_with fail
          go_at_call 132
          (with_reducible refine (HY.out _).mono ?_)
          rintro y w3 ⟨rfl, b3⟩
          go_wp2_with fail
          go_ret2
          exact ⟨rfl, HB1.out.trans (b3.mono HB1.out.size)⟩
        · have HN := Lib.hid (fun W => HN.out Q1 (Nat.le_refl _) true W (by rw [← hf]; exact h))
          rw [fitR_no h]
          rw [HX.out Q1 (Nat.le_refl _)] at HN
          clear HX HY hf h
          go_enter Try.func133, Try.ntmps133
          go_upto_region 1 with (fail)
          generalize w.alloc (.cells _ 157) = v at *
          go_wp2_with fail
          go_at_call 147
          (with_reducible refine (HS.out _).mono ?_)
          rintro y w1 ⟨rfl, rfl⟩
          go_wp2_with fail
          go_at_call 148
          (with_reducible refine (HD.out _).mono ?_)
          rintro y w1 ⟨rfl, b1⟩
          have c2' := cell_up c2 b1
          have HB1 := Lib.hid (HB0.out.trans (b1.mono HB0.out.size))
          clear HB0 b1
          go_wp2_with fail
          try rw [HCN.out]
          try simp only [Bool.not_true, Bool.not_false]
          go_at_call 149
          (with_reducible refine (HW.out _ _).mono ?_)
          rintro y w2 ⟨rfl, rfl⟩
          clear c0 c1 c2 c2'
          have hw2 := hw.out
          go_wp2_with fail
          go_at_call 132
          (with_reducible refine (HN.out _).mono ?_)
          rintro y w3 ⟨⟨v3, rfl⟩, b3⟩
          go_wp2_with fail
          go_ret2
          exact ⟨rfl, HB1.out.trans (b3.mono HB1.out.size)⟩
      · have e0 : (true && decide (0 < r)) = false := by rw [decide_eq_false hr0]; rfl
        rw [e0] at HW
        rw [e0, if_neg (by decide)] at hf
        clear e0
        by_cases h : -9223372036854775808 ≤ z ∧ z ≤ 9223372036854775807
        · have HY := Lib.hid (fun W => HY.out q HL.out true W (by rw [← hf]; exact h.1) (by rw [← hf]; exact h.2))
          rw [fitR_yes rfl h.1 h.2]
          rw [HX.out q HL.out, ← hf] at HY
          clear HX HN hf h
          go_enter Try.func133, Try.ntmps133
          go_upto_region 1 with (fail)
          generalize w.alloc (.cells _ 157) = v at *
          go_wp2_with fail
          go_at_call 147
          (with_reducible refine (HS.out _).mono ?_)
          rintro y w1 ⟨rfl, rfl⟩
          go_wp2_with fail
          go_at_call 148
          (with_reducible refine (HD.out _).mono ?_)
          rintro y w1 ⟨rfl, b1⟩
          have c2' := cell_up c2 b1
          have HB1 := Lib.hid (HB0.out.trans (b1.mono HB0.out.size))
          clear HB0 b1
          go_wp2_with fail
          try rw [HCN.out]
          try simp only [Bool.not_true, Bool.not_false]
          go_at_call 149
          (with_reducible refine (HW.out _ _).mono ?_)
          rintro y w2 ⟨rfl, rfl⟩
          clear c0 c1 c2 c2'
          go_wp2_with fail
          go_at_call 132
          (with_reducible refine (HY.out _).mono ?_)
          rintro y w3 ⟨rfl, b3⟩
          go_wp2_with fail
          go_ret2
          exact ⟨rfl, HB1.out.trans (b3.mono HB1.out.size)⟩
        · have HN := Lib.hid (fun W => HN.out q HL.out true W (by rw [← hf]; exact h))
          rw [fitR_no h]
          rw [HX.out q HL.out] at HN
          clear HX HY hf h
          go_enter Try.func133, Try.ntmps133
          go_upto_region 1 with (fail)
          generalize w.alloc (.cells _ 157) = v at *
          go_wp2_with fail
          go_at_call 147
          (with_reducible refine (HS.out _).mono ?_)
          rintro y w1 ⟨rfl, rfl⟩
          go_wp2_with fail
          go_at_call 148
          (with_reducible refine (HD.out _).mono ?_)
          rintro y w1 ⟨rfl, b1⟩
          have c2' := cell_up c2 b1
          have HB1 := Lib.hid (HB0.out.trans (b1.mono HB0.out.size))
          clear HB0 b1
          go_wp2_with fail
          try rw [HCN.out]
          try simp only [Bool.not_true, Bool.not_false]
          go_at_call 149
          (with_reducible refine (HW.out _ _).mono ?_)
          rintro y w2 ⟨rfl, rfl⟩
          clear c0 c1 c2 c2'
          go_wp2_with fail
          go_at_call 132
          (with_reducible refine (HN.out _).mono ?_)
          rintro y w3 ⟨⟨v3, rfl⟩, b3⟩
          go_wp2_with fail
          go_ret2
          exact ⟨rfl, HB1.out.trans (b3.mono HB1.out.size)⟩
theorem numMulDiv_any (a c : Int) (w : World) (ha : I64 a) (hI : I64 c) : Calls Try.prog 121 #[.int .i64 a, .int .i64 1, .int .i64 c, .int .i64 1] w fun e w' => e = fitR (if c = 0 then none else fitI (a.fdiv c)) ∧ Below w.heap.size w w' := by
  by_cases hc : c = 0
  · subst hc
    rw [if_pos rfl]
    have e : fitR none = .returned (.tuple #[.int .i64 0, .bool false]) := rfl
    rw [e]
    clear e ha hI
    go_enter Try.func121, Try.ntmps121
    go_wp2_with fail
    go_ret2
    exact ⟨rfl, Below.refl _ _⟩
  · rw [if_neg hc]
    have HP := Lib.hid (fun W => product_any a 1 W ha (by unfold I64; omega))
    have e1 : a.natAbs * Int.natAbs 1 = a.natAbs := Nat.mul_one _
    have e2 : sgB a 1 = decide (a < 0) := by unfold sgB; generalize decide (a < 0) = x; cases x <;> rfl
    rw [e1, e2] at HP
    have HO := Lib.hid (fun W => over_any a c W ha hI hc)
    have hc' : (c == 0) = false := beq_eq_false_iff_ne.2 hc
    generalize wideV a.natAbs (decide (a < 0)) = V at *
    obtain ⟨z1, z2, hz⟩ : ∃ z1 z2, fitR (fitI (a.fdiv c)) = .returned (.tuple #[.int .i64 z1, .bool z2]) := ⟨_, _, rfl⟩
    rw [hz] at HO ⊢
    clear e1 e2 hz
    go_enter Try.func121, Try.ntmps121
    go_wp2_with fail
    go_at_call 131
    (with_reducible refine (HP.out _).mono ?_)
    rintro y w1 ⟨rfl, b1⟩
    go_wp2_with fail
    go_at_call 133
    (with_reducible refine (HO.out _).mono ?_)
    rintro y w2 ⟨rfl, b2⟩
    go_wp2_with fail
    go_ret2
    exact ⟨rfl, b1.trans (b2.mono b1.size)⟩
end Go.Proofs.Ytppnmeobnilojaa

/- The contracts of check.known and constant; condition: the expression is built as it must be. -/
namespace Go.Proofs.Ytppnmeobnilojaa
set_option linter.unusedVariables false
set_option linter.unusedSimpArgs false
open Go.RowKit
theorem known_mk (op no : Int) (nm : ByteArray) (args : List Ex) : knownE (.mk op no nm args) = if op = 1 ∨ op = 2 then some no else if op = 20 then (match args with | .mk o m _ _ :: _ => if o = 1 then some (-m) else none | [] => none) else none := by
  simp only [knownE]
  rcases args with _ | ⟨⟨_, _, _, _⟩, _⟩ <;> rfl
set_option maxHeartbeats 1000000 in
theorem known_any (e : Ex) (hb : bE e = true) (cs : List Value) (w : World) (hR : RepE w [] e cs) :
    Calls Try.prog 92 #[.agg cs.toArray] w fun x w' => x = fitR (knownE e) ∧ Below w.heap.size w w' := by
  obtain ⟨op, no, nm, args, a, len, cap, rfl, rfl, i1, i2, i3, hS⟩ := hR.inv
  obtain ⟨g1, -, g3⟩ := bE_inv hb
  obtain ⟨f1, f2, f3⟩ := hS.facts
  have HK := Lib.hid (known_mk op no nm args)
  have HB0 := Lib.hid ((Below.refl w.heap.size w).alloc (Nat.le_refl _) (.cells #[.int .i64 op, .int .i64 no, .string nm, .slice a len cap] 46))
  have BX := Lib.hid (Mem.Blk.new w 46 #[.int .i64 op, .int .i64 no, .string nm, .slice a len cap])
  have HSS := Lib.hid hS
  have HL := Lib.hid f1
  have HG := Lib.hid g1
  have HG3 := Lib.hid g3
  generalize knownE (.mk op no nm args) = R at *
  clear hR hS i1 i2 i3 f1 g1 g3 hb
  by_cases h1 : op = 1 ∨ op = 2
  · obtain rfl : R = some no := by rw [HK.out, if_pos h1]
    clear HK
    rcases h1 with rfl | rfl
    · go_enter Try.func92, Try.ntmps92
      go_upto_region 1 with (fail)
      generalize w.alloc (.cells #[.int .i64 1, .int .i64 no, .string nm, .slice a len cap] 46) = v at *
      obtain ⟨c0, c1, c2, c3, -, -, -, -⟩ := blk4 BX.out
      go_wp2_with fail
      go_ret2
      exact ⟨rfl, HB0.out⟩
    · go_enter Try.func92, Try.ntmps92
      go_upto_region 1 with (fail)
      generalize w.alloc (.cells #[.int .i64 2, .int .i64 no, .string nm, .slice a len cap] 46) = v at *
      obtain ⟨c0, c1, c2, c3, -, -, -, -⟩ := blk4 BX.out
      go_wp2_with fail
      go_ret2
      exact ⟨rfl, HB0.out⟩
  · have hn1 : (op == 1) = false := beq_eq_false_iff_ne.2 (fun h => h1 (.inl h))
    have hn2 : (op == 2) = false := beq_eq_false_iff_ne.2 (fun h => h1 (.inr h))
    by_cases h20 : op = 20
    · subst h20
      have hl1 : args.length = 1 := by have h := HG.out; rw [show ar 20 = 1 by decide] at h; omega
      obtain ⟨x0, rfl⟩ : ∃ x0, args = [x0] := by
        match args, hl1 with
        | [x0], _ => exact ⟨x0, rfl⟩
      obtain rfl : len = 1 := by have h := HL.out; simp at h; omega
      obtain ⟨b, o, o0, n0, m0, ar0, a0, l0, p0, rfl, hbl, -, hx0, k1, k2, k3, hS0, u⟩ := (HSS.out.kept (Kept.of_below HB0.out [])).at 0 (by omega)
      simp at hx0
      subst hx0
      have hb0 := HG3.out _ (List.mem_singleton.2 rfl)
      have HO := Lib.hid ((bE_inv hb0).2.1)
      rw [Nat.zero_mul, Nat.add_zero] at u
      obtain ⟨u0, u1, u2, u3⟩ := u
      clear hb0 HG3 hl1 k1 k3 hS0 hbl
      by_cases ho : o0 = 1
      · subst ho
        obtain rfl : R = some (-n0) := by rw [HK.out, if_neg (by omega), if_pos rfl]; simp
        have hn0 : 0 ≤ n0 := by
          have g2 := HO.out
          unfold okE at g2
          simp only [Bool.and_eq_true, decide_eq_true_eq] at g2
          exact g2.1.1.2
        have hn63 : n0 ≤ 9223372036854775807 := by unfold I64 at k2; omega
        clear HK k2
        go_enter Try.func92, Try.ntmps92
        go_upto_region 1 with (fail)
        generalize w.alloc (.cells #[.int .i64 20, .int .i64 no, .string nm, .slice (some ⟨b, o, none⟩) 1 cap] 46) = v at *
        obtain ⟨c0, c1, c2, c3, -, -, -, -⟩ := blk4 BX.out
        go_wp2_with fail
        go_ret2
        exact ⟨rfl, HB0.out⟩
      · have ho' : (o0 == 1) = false := beq_eq_false_iff_ne.2 ho
        obtain rfl : R = none := by rw [HK.out, if_neg (by omega), if_pos rfl]; simp [ho]
        clear HK k2
        go_enter Try.func92, Try.ntmps92
        go_upto_region 1 with (fail)
        generalize w.alloc (.cells #[.int .i64 20, .int .i64 no, .string nm, .slice (some ⟨b, o, none⟩) 1 cap] 46) = v at *
        obtain ⟨c0, c1, c2, c3, -, -, -, -⟩ := blk4 BX.out
        go_wp2_with fail
        go_ret2
        exact ⟨rfl, HB0.out⟩
    · have hn20 : (op == 20) = false := beq_eq_false_iff_ne.2 h20
      obtain rfl : R = none := by rw [HK.out, if_neg h1, if_neg h20]
      clear HK h1 h20
      go_enter Try.func92, Try.ntmps92
      go_upto_region 1 with (fail)
      generalize w.alloc (.cells #[.int .i64 op, .int .i64 no, .string nm, .slice a len cap] 46) = v at *
      obtain ⟨c0, c1, c2, c3, -, -, -, -⟩ := blk4 BX.out
      go_wp2_with fail
      go_ret2
      exact ⟨rfl, HB0.out⟩
theorem constE_pos {n : Int} (h : 0 ≤ n) : constE n = .mk 1 n ⟨#[]⟩ [] := by unfold constE; rw [if_pos h]
theorem constE_neg {n : Int} (h : ¬ 0 ≤ n) : constE n = .mk 20 0 ⟨#[]⟩ [.mk 1 (-n) ⟨#[]⟩ []] := by unfold constE; rw [if_neg h]
/-- An expression that is answered. -/
def RetE (w : World) (X : List Nat) (e : Ex) (x : Ending) : Prop := ∃ cs, x = .returned (.agg cs.toArray) ∧ RepE w X e cs
theorem constant_any (n : Int) (w : World) (X : List Nat) (hX : ∀ b ∈ X, b < w.heap.size) (h1 : -9223372036854775808 < n) (h2 : n ≤ 9223372036854775807) :
    Calls Try.prog 94 #[.int .i64 n] w fun x w' => RetE w' X (constE n) x ∧ Below w.heap.size w w' := by
  by_cases h0 : 0 ≤ n
  · rw [constE_pos h0]
    go_enter Try.func94, Try.ntmps94
    go_wp2_with fail
    refine bodyPost_ret (v := .agg #[.int .i64 1, .int .i64 n, .string ⟨#[]⟩, .slice none 0 0]) (by simp [results, Try.results94, go_sem]) rfl ⟨⟨_, rfl, RepE.mk' (by unfold I64; omega) (by unfold I64; omega) (by decide) (SlE.nil _ _)⟩, ?_⟩
    exact (Below.refl _ _).alloc (Nat.le_refl _) _
  · rw [constE_neg h0]
    go_enter Try.func94, Try.ntmps94
    go_wp2_with fail
    have hb := ((Below.refl w.heap.size w).alloc (Nat.le_refl _) (.cells #[.int .i64 20, .int .i64 0, .string ⟨#[]⟩, .slice (some ⟨w.heap.size + 1, 0, none⟩) 1 1] 46)).alloc (by simp) (.cells #[.int .i64 1, .int .i64 (-n), .string ⟨#[]⟩, .slice none 0 0] 46)
    have hB := Mem.Blk.new (w.alloc (.cells #[.int .i64 20, .int .i64 0, .string ⟨#[]⟩, .slice (some ⟨w.heap.size + 1, 0, none⟩) 1 1] 46)) 46 #[.int .i64 1, .int .i64 (-n), .string ⟨#[]⟩, .slice none 0 0]
    rw [show (w.alloc (.cells #[.int .i64 20, .int .i64 0, .string ⟨#[]⟩, .slice (some ⟨w.heap.size + 1, 0, none⟩) 1 1] 46)).heap.size = w.heap.size + 1 by simp] at hB
    refine bodyPost_ret (v := .agg #[.int .i64 20, .int .i64 0, .string ⟨#[]⟩, .slice (some ⟨w.heap.size + 1, 0, none⟩) 1 1]) (by simp [results, Try.results94, go_sem]) rfl ⟨⟨_, rfl, RepE.mk' (by unfold I64; omega) (by unfold I64; omega) (by decide) ?_⟩, hb⟩
    exact (SlR.lit1 (K := exK) (c := [.int .i64 1, .int .i64 (-n), .string ⟨#[]⟩, .slice none 0 0]) hB (fun hm => by have := hX _ hm; omega) (RepE.mk' (by unfold I64; omega) (by unfold I64; omega) (by decide) (SlE.nil _ _))).slE
end Go.Proofs.Ytppnmeobnilojaa

/- Slices of ints, appended to a row of the call's own. -/
namespace Go.Proofs.Ytppnmeobnilojaa
set_option linter.unusedVariables false
set_option linter.unusedSimpArgs false
open Go.RowKit
def ivs (l : List Int) : List Value := l.map (fun x => .int .i64 x)
theorem ivs_len (l : List Int) : (ivs l).length = l.length := by unfold ivs; rw [List.length_map]
theorem ivs_app (l m : List Int) : ivs l ++ ivs m = ivs (l ++ m) := by unfold ivs; rw [List.map_append]
theorem ivs_one (l : List Int) : ∀ u ∈ ivs l, u.oneCell' = true := by
  intro u hu
  unfold ivs at hu
  obtain ⟨x, -, rfl⟩ := List.mem_map.1 hu
  rfl
theorem ivs_flat (l : List Int) : (l.map (fun x => [Value.int .i64 x])).flatten = ivs l := by
  induction l with
  | nil => rfl
  | cons x t ih => rw [List.map_cons, List.flatten_cons, ih]; rfl
theorem own_ints {w : World} {base : Nat} {e : TypeId} {v : Value} {n : Nat} {l : List Int} (h : w.ownsRow base e 1 v n (ivs l)) (hb : base ≤ w.heap.size) (hl : l.length = n) (hI : ∀ x ∈ l, I64 x) :
    ∃ a cap, v = .slice a n cap ∧ SlR i64K w [] l a n cap := by
  have hg : Gro i64K e base w [] l v (l.map (fun x => [Value.int .i64 x])) := by
    refine ⟨by rw [ivs_flat, hl]; exact h, hb, (fun b hb => by cases hb), (by rw [List.length_map]), fun i x cs hx hc => ?_⟩
    rw [List.getElem?_map, hx] at hc
    injection hc with hc
    exact ⟨hc.symm, hI x (List.mem_of_getElem? hx)⟩
  obtain ⟨a, cap, rfl, h2⟩ := hg.slR
  rw [hl] at h2 ⊢
  exact ⟨a, cap, rfl, h2⟩
theorem SlR.ints {w : World} {X : List Nat} {l : List Int} {a : Option Addr} {len cap : Nat} (h : SlR i64K w X l a len cap) (hp : 0 < len) : ∃ ad, a = some ad ∧ ∀ j u, (ivs l)[j]? = some u → w.cell? (ad.add j) = some u := by
  obtain ⟨b, o, x, cs, rfl, -, -, -, -, -, -⟩ := h.at 0 hp
  refine ⟨_, rfl, fun j u hj => ?_⟩
  unfold ivs at hj
  rw [List.getElem?_map] at hj
  cases hx : l[j]? with
  | none => rw [hx] at hj; cases hj
  | some y =>
    rw [hx] at hj
    injection hj with hj
    subst hj
    have hjl : j < len := by have := (List.getElem?_eq_some_iff.1 hx).1; have := h.facts.1; omega
    obtain ⟨b', o', x', cs', e1, -, -, hx', ⟨rfl, -⟩, -, hc⟩ := h.at j hjl
    injection e1 with e1; injection e1 with e1 e2; subst e1; subst e2
    rw [hx] at hx'
    injection hx' with hx'
    subst hx'
    have := hc 0 _ rfl
    rw [Mem.add_off]
    simpa [i64K] using this
theorem SlR.i64 {w : World} {X : List Nat} {l : List Int} {a : Option Addr} {len cap : Nat} (h : SlR i64K w X l a len cap) : ∀ x ∈ l, I64 x := by
  intro x hx
  obtain ⟨j, hj⟩ := List.getElem?_of_mem hx
  have hjl : j < len := by have := (List.getElem?_eq_some_iff.1 hj).1; have := h.facts.1; omega
  obtain ⟨b', o', x', cs', e1, -, -, hx', ⟨rfl, h2⟩, -, hc⟩ := h.at j hjl
  rw [hj] at hx'
  injection hx' with hx'
  subst hx'
  exact h2
/-- append of a whole slice of ints, nil or not. -/
theorem ap_sl {P : Program} {w : World} {ops : Array Oper} {rest : List Oper} {o : Oper} {a : Act} {Q : Exit → Act → World → Prop} {t e : TypeId} {z : Value} {bytes base : Nat}
    (hinfo : (P.info? e).map (fun i => (i.zero, i.size, i.bytes)) = some (some z, 1, bytes)) (ht : P.underlying t = some (.slice e)) (hzs : z.cells.size = 1)
    (hgd : o.guard = none) (s x : Operand) (ho : o.op = .call { callee := .builtin .append, args := #[s, x], argTypes := #[t, t] })
    {v : Value} {n : Nat} {xs : List Value} (hs : a.eval s = v) (hown : w.ownsRow base e 1 v n xs) (hbase : base ≤ w.heap.size)
    {l : List Int} {ad : Option Addr} {m c : Nat} (hS : SlR i64K w [] l ad m c) (hx : a.eval x = .slice ad m c) (hnil : m = 0 → ad = none)
    (h63 : n + m ≤ maxLen) (hbytes : (n + m) * bytes ≤ 140737488355328)
    (h : ∀ v' w', w'.ownsRow base e 1 v' (n + m) (xs ++ ivs l) → w.grownBy w' v.ownBlock → (v'.ownBlock = v.ownBlock ∨ v'.ownBlock = some w.heap.size) → wpList P ops Q rest (a.put o.dst v') w') :
    wpList P ops Q (o :: rest) a w := by
  by_cases hm : m = 0
  · subst hm
    obtain ⟨i, hi, hz, hsize, hby⟩ := info_parts hinfo
    obtain ⟨av, capv, rfl⟩ := own_slice hown
    have hl0 : l = [] := List.length_eq_zero_iff.1 hS.facts.1
    have hcap : n ≤ capv := by
      rcases hown.2 with ⟨h1, h2⟩ | ⟨g, cap', cur, h1, h2, h3, h4, h5⟩
      · injection h1 with _ h1 h3; omega
      · injection h1 with _ h1 h3; omega
    have hsrc : Src P i.size t (.slice ad 0 c) 0 [] w := by
      rw [hnil rfl]
      exact Src.ofNil w ht c
    have hrun := run_append_nothing (P := P) w t t o.type e i ht hi av n capv hcap _ hsrc
    refine wpList_plain hgd fun _ hK => ?_
    unfold Oper.wp execOp
    simp only [ho, resolve, invoke, builtin, Sem.run_bind, Sem.run_pure, Result.andThen_ok, List.map_toArray, List.map_cons, List.map_nil, hs, hx, hrun]
    refine hK _ _ (h _ w ?_ (Mem.grown_of_below (Below.refl _ _) _) (.inl rfl))
    rw [hl0]
    show w.ownsRow base e 1 _ (n + 0) (xs ++ [])
    rw [List.append_nil]
    exact hown
  · obtain ⟨ad', rfl, hc⟩ := hS.ints (by omega)
    exact ap_row hinfo ht hzs (by decide) hgd s x ho hs hown hbase ad' m c (ivs l) hx (by rw [ivs_len, hS.facts.1, Nat.mul_one]) hc (ivs_one l) h63 hbytes h
end Go.Proofs.Ytppnmeobnilojaa
