/- A part of the proof: EvalQ, FoldD, LawW, one behind another. -/
import Derived.Test.YtppnmeobnilojaaMAA
import Derived.Test.YtppnmeobnilojaaMAB
import Derived.Test.YtppnmeobnilojaaMAC
import Derived.Test.YtppnmeobnilojaaMAD
import Derived.Test.YtppnmeobnilojaaMAE
import Derived.Test.YtppnmeobnilojaaMAF
import Derived.Test.YtppnmeobnilojaaMAG
import Derived.Test.YtppnmeobnilojaaMAH
/- Values and their kinds; the document's own words; fixings more: plain. -/
namespace Go.Proofs.Ytppnmeobnilojaa
set_option linter.unusedVariables false
set_option linter.unusedSimpArgs false
open Go.RowKit
/-- A value of a kind, or none. -/
def Ty (k : Int) (v : Vl) : Prop := v = .unk ∨ v = .brk ∨ (k = 1 ∧ ∃ n, v = .num n) ∨ (k = 2 ∧ ∃ b, v = .tru b)
theorem ty_numV (o : Option Int) : Ty 1 (numV o) := by cases o with | none => exact .inr (.inl rfl) | some n => exact .inr (.inr (.inl ⟨rfl, n, rfl⟩))
theorem kOf_need {op : Int} {ks : List Int} (h21 : op ≠ 21) (h : kOf op ks ≠ 0) : (∀ k ∈ ks, k = needK op) ∧ kOf op ks = isK op := by
  unfold kOf at h ⊢
  rw [if_neg h21] at h ⊢
  by_cases ha : ks.all (fun k => decide (k = needK op)) = true
  · rw [if_pos ha]
    exact ⟨fun k hk => by simpa using List.all_eq_true.1 ha k hk, rfl⟩
  · rw [if_neg ha] at h; exact absurd rfl h
theorem two_of {α : Type} {l : List α} (h : l.length = 2) : ∃ a b, l = [a, b] := by
  match l, h with
  | [a, b], _ => exact ⟨a, b, rfl⟩
theorem one_of {α : Type} {l : List α} (h : l.length = 1) : ∃ a, l = [a] := by
  match l, h with
  | [a], _ => exact ⟨a, rfl⟩
theorem three_of {α : Type} {l : List α} (h : l.length = 3) : ∃ a b c, l = [a, b, c] := by
  match l, h with
  | [a, b, c], _ => exact ⟨a, b, c, rfl⟩
/-- What is within an op that has a kind: how many, of which kinds. -/
inductive Shape : Int → List Int → List Vl → Int → Prop
  | two1 {op : Int} {a b : Vl} (h : 5 ≤ op ∧ op ≤ 10) (ha : Ty 1 a) (hb : Ty 1 b) : Shape op [1, 1] [a, b] 1
  | cmp {op : Int} {a b : Vl} (h : 11 ≤ op ∧ op ≤ 16) (ha : Ty 1 a) (hb : Ty 1 b) : Shape op [1, 1] [a, b] 2
  | both {op : Int} {a b : Vl} (h : op = 17 ∨ op = 18) (ha : Ty 2 a) (hb : Ty 2 b) : Shape op [2, 2] [a, b] 2
  | not {a : Vl} (ha : Ty 2 a) : Shape 19 [2] [a] 2
  | neg {a : Vl} (ha : Ty 1 a) : Shape 20 [1] [a] 1
  | cond {a b c : Vl} {k : Int} (ha : Ty 2 a) (hb : Ty k b) (hc : Ty k c) : Shape 21 [2, k, k] [a, b, c] k
theorem shape_of {op : Int} {ks : List Int} {vs : List Vl} (h4 : 4 < op) (har : ar op = (ks.length : Nat)) (hlen : vs.length = ks.length) (h : kOf op ks ≠ 0) (hty : ∀ (i : Nat) (k : Int) (v : Vl), ks[i]? = some k → vs[i]? = some v → Ty k v) : Shape op ks vs (kOf op ks) := by
  obtain ⟨-, h21'⟩ := ar_op (by omega : 0 ≤ ar op)
  by_cases h21 : op = 21
  · subst h21
    have hl : ks.length = 3 := by rw [show ar 21 = 3 by decide] at har; omega
    obtain ⟨k0, k1, k2, rfl⟩ := three_of hl
    obtain ⟨a, b, c, rfl⟩ := three_of (by rw [hlen]; rfl : vs.length = 3)
    unfold kOf at h ⊢
    simp only [if_pos] at h ⊢
    by_cases hc : ([k0, k1, k2] : List Int).getD 0 0 = 2 ∧ ([k0, k1, k2] : List Int).getD 1 0 = ([k0, k1, k2] : List Int).getD 2 0
    · rw [if_pos hc]
      simp at hc
      obtain ⟨rfl, rfl⟩ := hc
      simp only [List.getD_cons_succ, List.getD_cons_zero]
      exact .cond (hty 0 _ _ rfl rfl) (hty 1 _ _ rfl rfl) (hty 2 _ _ rfl rfl)
    · rw [if_neg hc] at h; exact absurd rfl h
  · obtain ⟨hk, he⟩ := kOf_need h21 h
    rw [he]
    unfold needK at hk
    unfold isK
    by_cases h10 : (5 ≤ op ∧ op ≤ 10) ∨ op = 20
    · rw [if_pos h10] at hk ⊢
      rcases h10 with h10 | rfl
      · obtain ⟨k0, k1, rfl⟩ := two_of (by rw [ar_two (by omega)] at har; omega : ks.length = 2)
        obtain ⟨a, b, rfl⟩ := two_of (by rw [hlen]; rfl : vs.length = 2)
        obtain rfl := hk k0 (by simp)
        obtain rfl := hk k1 (by simp)
        exact .two1 h10 (hty 0 _ _ rfl rfl) (hty 1 _ _ rfl rfl)
      · obtain ⟨k0, rfl⟩ := one_of (by rw [show ar 20 = 1 by decide] at har; omega : ks.length = 1)
        obtain ⟨a, rfl⟩ := one_of (by rw [hlen]; rfl : vs.length = 1)
        obtain rfl := hk k0 (by simp)
        exact .neg (hty 0 _ _ rfl rfl)
    · rw [if_neg h10] at hk ⊢
      by_cases h16 : 11 ≤ op ∧ op ≤ 16
      · rw [if_pos h16] at hk ⊢
        obtain ⟨k0, k1, rfl⟩ := two_of (by rw [ar_two (by omega)] at har; omega : ks.length = 2)
        obtain ⟨a, b, rfl⟩ := two_of (by rw [hlen]; rfl : vs.length = 2)
        obtain rfl := hk k0 (by simp)
        obtain rfl := hk k1 (by simp)
        exact .cmp h16 (hty 0 _ _ rfl rfl) (hty 1 _ _ rfl rfl)
      · rw [if_neg h16] at hk ⊢
        have h17 : op = 17 ∨ op = 18 ∨ op = 19 := by omega
        rw [if_pos h17] at hk ⊢
        by_cases h19 : op = 19
        · subst h19
          obtain ⟨k0, rfl⟩ := one_of (by rw [show ar 19 = 1 by decide] at har; omega : ks.length = 1)
          obtain ⟨a, rfl⟩ := one_of (by rw [hlen]; rfl : vs.length = 1)
          obtain rfl := hk k0 (by simp)
          exact .not (hty 0 _ _ rfl rfl)
        · obtain ⟨k0, k1, rfl⟩ := two_of (by rw [ar_two (by omega)] at har; omega : ks.length = 2)
          obtain ⟨a, b, rfl⟩ := two_of (by rw [hlen]; rfl : vs.length = 2)
          obtain rfl := hk k0 (by simp)
          obtain rfl := hk k1 (by simp)
          exact .both (by omega) (hty 0 _ _ rfl rfl) (hty 1 _ _ rfl rfl)
theorem ty_two {op a b : Int} (h : 5 ≤ op ∧ op ≤ 10) : Ty 1 (twoV op a b) := by unfold twoV; rw [if_pos h]; exact ty_numV _
theorem ty_cmp {op a b : Int} (h : 11 ≤ op ∧ op ≤ 16) : Ty 2 (twoV op a b) := by unfold twoV; rw [if_neg (by omega)]; exact .inr (.inr (.inr ⟨rfl, _, rfl⟩))
theorem ty_both {s : Bool} {a b : Vl} (ha : Ty 2 a) (hb : Ty 2 b) : Ty 2 (bothV s a b) := by
  unfold bothV
  repeat' split
  · exact ha
  · exact hb
  · exact .inl rfl
theorem shape_ty {op k : Int} {ks : List Int} {vs : List Vl} (h : Shape op ks vs k) : Ty k (opV op vs) := by
  cases h with
  | two1 h ha hb =>
    unfold opV
    rw [if_neg (by omega), if_neg (by omega), if_neg (by omega), if_neg (by omega)]
    repeat' split
    · exact .inr (.inl rfl)
    · exact .inl rfl
    · exact ty_two h
  | cmp h ha hb =>
    unfold opV
    rw [if_neg (by omega), if_neg (by omega), if_neg (by omega), if_neg (by omega)]
    repeat' split
    · exact .inr (.inl rfl)
    · exact .inl rfl
    · exact ty_cmp h
  | both h ha hb => unfold opV; rw [if_pos h]; exact ty_both ha hb
  | not ha =>
    unfold opV
    rw [if_neg (by omega), if_neg (by omega), if_pos rfl]
    simp only [List.getD_cons_zero]
    rename_i a
    cases a with
    | unk => exact .inl rfl
    | brk => exact .inr (.inl rfl)
    | num n => exact .inr (.inr (.inr ⟨rfl, _, rfl⟩))
    | tru t => exact .inr (.inr (.inr ⟨rfl, _, rfl⟩))
  | neg ha =>
    unfold opV
    rw [if_neg (by omega), if_neg (by omega), if_neg (by omega), if_pos rfl]
    simp only [List.getD_cons_zero]
    rename_i a
    cases a with
    | unk => exact .inl rfl
    | brk => exact .inr (.inl rfl)
    | num n => exact ty_numV _
    | tru t => exact .inr (.inr (.inl ⟨rfl, _, rfl⟩))
  | cond ha hb hc =>
    unfold opV
    rw [if_neg (by omega), if_pos rfl]
    simp only [List.getD_cons_zero, List.getD_cons_succ]
    rename_i a b c
    cases a with
    | unk => exact .inl rfl
    | brk => exact .inr (.inl rfl)
    | num n => exact hc
    | tru t => cases t <;> first | exact hc | exact hb
/-- Its value is of its kind. -/
theorem eval_ty (day : Int) (fx : List Fx) : ∀ (r : Nat) (e : Ex), e.rk ≤ r → bE e = true → kE e ≠ 0 → Ty (kE e) (evalE day fx e) := by
  intro r
  induction r with
  | zero => intro e h; have := e.rk_pos; omega
  | succ r ih =>
    intro e hr hb hk
    obtain ⟨op, n, nm, l⟩ := e
    obtain ⟨h1, -, h3⟩ := bE_inv hb
    have hkids := kid_kinds hb hk
    have hop := ar_op (by omega : 0 ≤ ar op)
    rw [kE_mk] at hk ⊢
    rw [evalE_mk]
    by_cases h4 : op ≤ 4
    · have hl : l = [] := List.length_eq_zero_iff.1 (by rw [ar_nil hop.1 h4] at h1; omega)
      subst hl
      have hk1 : kOf op (([] : List Ex).map kE) = 1 := by
        obtain ⟨-, he⟩ := kOf_need (by omega : op ≠ 21) hk
        rw [he]; unfold isK
        rw [if_neg (by omega), if_neg (by omega), if_neg (by omega)]
      rw [hk1]
      unfold evO
      by_cases h12 : op = 1 ∨ op = 2
      · rw [if_pos h12]; exact .inr (.inr (.inl ⟨rfl, _, rfl⟩))
      · rw [if_neg h12]
        by_cases h44 : op = 4
        · rw [if_pos h44]; exact .inr (.inr (.inl ⟨rfl, _, rfl⟩))
        · rw [if_neg h44, if_pos (by omega)]
          unfold seenV
          split
          · exact .inr (.inr (.inl ⟨rfl, _, rfl⟩))
          · exact .inl rfl
    · unfold evO
      rw [if_neg (by omega), if_neg (by omega), if_neg (by omega)]
      refine shape_ty (shape_of (by omega) (by rw [List.length_map]; exact h1) (by rw [List.length_map, List.length_map]) hk (fun i k v hi hv => ?_))
      rw [List.getElem?_map] at hi hv
      cases hc : l[i]? with
      | none => rw [hc] at hi; cases hi
      | some c =>
        rw [hc] at hi hv
        injection hi with hi; injection hv with hv
        subst hi; subst hv
        exact ih c (by have := Ex.rk_lt (op := op) (n := n) (nm := nm) hc; omega) (h3 c (List.mem_of_getElem? hc)) (hkids c (List.mem_of_getElem? hc))
end Go.Proofs.Ytppnmeobnilojaa

/- What is folded, by the document: the same; what fits fits within: plain. -/
namespace Go.Proofs.Ytppnmeobnilojaa
set_option linter.unusedVariables false
set_option linter.unusedSimpArgs false
open Go.RowKit
/-- What an op makes of two numbers, by the document. -/
def madeM (op a b : Int) : Option Int :=
  if op = 5 then fitI (a + b) else if op = 6 then fitI (a - b) else if op = 7 then fitI (a * b) else if op = 8 then (if b = 0 then none else fitI (a.fdiv b))
  else if op = 9 ∨ op = 10 then (if (decide (a < b)) = (decide (op = 9)) then some a else some b) else if op = 20 then fitI (-a) else none
/-- Each one's value, nought if it is no constant; are all constants, and is there one? -/
def valsD (l : List Ex) : List Int := l.map fun e => (knownE e).getD 0
def allK (l : List Ex) : Bool := decide (0 < l.length) && l.all fun e => (knownE e).isSome
def foldOD (op n : Int) (nm : ByteArray) (l : List Ex) : Ex :=
  if allK l = true then (match madeM op ((valsD l).getD 0 0) ((valsD l).getD 1 0) with | some v => if v = minI then .mk op n nm l else constE v | none => .mk op n nm l) else .mk op n nm l
def foldD : Ex → Ex
  | .mk op n nm l => foldOD op n nm (go l)
  where go : List Ex → List Ex
  | [] => []
  | e :: t => foldD e :: go t
theorem foldD_go (l : List Ex) : foldD.go l = l.map foldD := by
  induction l with
  | nil => rfl
  | cons x t ih => simp only [foldD.go, ih, List.map_cons]
theorem foldD_mk (op n : Int) (nm : ByteArray) (l : List Ex) : foldD (.mk op n nm l) = foldOD op n nm (l.map foldD) := by rw [foldD, foldD_go]
theorem allK_iff {l : List Ex} : allK l = true ↔ ¬ ((l.filterMap knownE).length < l.length ∨ (l.filterMap knownE).length = 0) := by
  have hle := List.length_filterMap_le knownE l
  constructor
  · intro h
    unfold allK at h
    rw [Bool.and_eq_true, decide_eq_true_eq, List.all_eq_true] at h
    have hlen : (l.filterMap knownE).length = l.length := by
      obtain ⟨-, h2⟩ := h
      clear hle
      induction l with
      | nil => rfl
      | cons x t ih =>
        cases hx : knownE x with
        | none => have := h2 x (by simp); rw [hx] at this; cases this
        | some v => rw [List.filterMap_cons_some hx, List.length_cons, List.length_cons, ih (fun e he => h2 e (by simp [he]))]
    omega
  · intro h
    unfold allK
    rw [Bool.and_eq_true, decide_eq_true_eq, List.all_eq_true]
    refine ⟨by omega, fun e he => ?_⟩
    obtain ⟨v, hv⟩ := all_known (by omega) e he
    rw [hv]; rfl
theorem vals_known {l : List Ex} (h : allK l = true) : l.filterMap knownE = valsD l := by
  have h' := allK_iff.1 h
  have hle := List.length_filterMap_le knownE l
  have hlen : (l.filterMap knownE).length = l.length := by omega
  clear h h' hle
  unfold valsD
  induction l with
  | nil => rfl
  | cons x t ih =>
    cases hx : knownE x with
    | none =>
      rw [List.filterMap_cons_none hx] at hlen
      have := List.length_filterMap_le knownE t
      simp only [List.length_cons] at hlen; omega
    | some v =>
      rw [List.filterMap_cons_some hx] at hlen ⊢
      rw [List.map_cons, hx, ih (by simp only [List.length_cons] at hlen; omega)]
      rfl
theorem made_value {op : Int} {l : List Int} (ha : ar op = (l.length : Nat)) : madeM op (l.getD 0 0) (l.getD 1 0) = valueM op l := by
  unfold madeM valueM
  by_cases h5 : op = 5
  · rw [if_pos h5, if_pos h5]
  rw [if_neg h5, if_neg h5]
  by_cases h6 : op = 6
  · rw [if_pos h6, if_pos h6]
  rw [if_neg h6, if_neg h6]
  by_cases h7 : op = 7
  · rw [if_pos h7, if_pos h7]
  rw [if_neg h7, if_neg h7]
  by_cases h8 : op = 8
  · rw [if_pos h8, if_pos h8]
  rw [if_neg h8, if_neg h8]
  by_cases h9 : op = 9
  · subst h9
    generalize l.getD 0 0 = a
    generalize l.getD 1 0 = b
    by_cases hlt : a < b <;> simp [hlt] <;> omega
  by_cases h10 : op = 10
  · subst h10
    generalize l.getD 0 0 = a
    generalize l.getD 1 0 = b
    by_cases hlt : a < b <;> simp [hlt] <;> omega
  rw [if_neg (by omega), if_neg h9, if_neg h10]
theorem foldD_eq : ∀ (r : Nat) (e : Ex), e.rk ≤ r → bE e = true → foldD e = foldE e := by
  intro r
  induction r with
  | zero => intro e h; have := e.rk_pos; omega
  | succ r ih =>
    intro e hr hb
    obtain ⟨op, n, nm, l⟩ := e
    obtain ⟨h1, -, h3⟩ := bE_inv hb
    have hmap : l.map foldD = l.map foldE := List.map_congr_left (fun c hc => by
      obtain ⟨k, hkk⟩ := List.getElem?_of_mem hc
      exact ih c (by have := Ex.rk_lt (op := op) (n := n) (nm := nm) hkk; omega) (h3 c hc))
    rw [foldD_mk, foldE_mk, hmap]
    have h1' : ar op = ((l.map foldE).length : Nat) := by rw [List.length_map]; exact h1
    generalize l.map foldE = l' at *
    unfold foldOD foldO
    by_cases hk : allK l' = true
    · rw [if_pos hk, if_neg (allK_iff.1 hk), vals_known hk, made_value (by unfold valsD; rw [List.length_map]; exact h1')]
      cases valueM op (valsD l') <;> rfl
    · rw [if_neg hk]
      have := fun h => hk (allK_iff.2 h)
      rw [if_pos (Classical.byContradiction this)]
def foldT : Te → Te
  | .mk op nm x l => .mk op nm (x.map foldE) (go l)
  where go : List Te → List Te
  | [] => []
  | e :: t => foldT e :: go t
theorem foldT_go (l : List Te) : foldT.go l = l.map foldT := by
  induction l with
  | nil => rfl
  | cons x t ih => simp only [foldT.go, ih, List.map_cons]
/-- What fits fits within. -/
theorem fitT_mk (op : Int) (nm : ByteArray) (x : List Ex) (l : List Te) : fitT (.mk op nm x l) = (x.all (fun e => decide (kE e = needT op)) && l.all fitT) := by rw [fitT, fitT_go]
theorem fitT_in {op : Int} {nm : ByteArray} {x : List Ex} {l : List Te} (h : fitT (.mk op nm x l) = true) : ∀ t ∈ l, fitT t = true := by
  rw [fitT_mk, Bool.and_eq_true] at h
  exact fun t ht => List.all_eq_true.1 h.2 t ht
theorem fitT_give (nm : ByteArray) (op : Int) (t : Te) : fitT (.mk op nm [] [t]) = fitT t := by rw [fitT_mk]; simp
theorem fitT_or (nm : ByteArray) (op : Int) (t : Te) : fitT (.mk op nm [] [t, .mk 1 ⟨#[]⟩ [] []]) = fitT t := by rw [fitT_mk]; simp [fitT_mk]
theorem right_in {op : Int} {nm : ByteArray} {x : List Ex} {l : List Te} (h : bT (.mk op nm x l) = true ∧ (Te.mk op nm x l).nd ≤ 200 ∧ (Te.mk op nm x l).rk ≤ 16) : ∀ t ∈ l, bT t = true ∧ t.nd ≤ 200 ∧ t.rk ≤ 16 := by
  intro t ht
  obtain ⟨-, -, -, -, h5⟩ := bT_inv h.1
  obtain ⟨k, hk⟩ := List.getElem?_of_mem ht
  have h1 := nd_go_mem ht
  have h2 := Te.rk_lt (op := op) (nm := nm) (x := x) hk
  have h3 : (Te.mk op nm x l).nd = 1 + Ex.nd.go x + Te.nd.go l := rfl
  exact ⟨h5 t ht, by omega, by omega⟩
end Go.Proofs.Ytppnmeobnilojaa

/- The walk of CheckWithin, for any leaves and knots. -/
namespace Go.Proofs.Ytppnmeobnilojaa
set_option linter.unusedVariables false
set_option linter.unusedSimpArgs false
open Go.RowKit
theorem rT_mk {t : Te} (h : rT t = true) : bT t = true ∧ t.nd ≤ 200 ∧ t.rk ≤ 16 := by
  have e : rT t = (decide (t.nd ≤ 200 ∧ t.rk ≤ 16) && bT t) := rfl
  rw [e, Bool.and_eq_true, decide_eq_true_eq] at h
  exact ⟨h.2, h.1.1, h.1.2⟩
theorem rT_of {t : Te} (h : bT t = true) (h1 : t.nd ≤ 200) (h2 : t.rk ≤ 16) : rT t = true := by
  have e : rT t = (decide (t.nd ≤ 200 ∧ t.rk ≤ 16) && bT t) := rfl
  rw [e, Bool.and_eq_true, decide_eq_true_eq]
  exact ⟨⟨h1, h2⟩, h⟩
theorem below4 (w : World) (a b c d : Obj) : Below w.heap.size w ((((w.alloc a).alloc b).alloc c).alloc d) :=
  ((((Below.refl w.heap.size w).alloc (Nat.le_refl _) a).alloc (by simp) b).alloc (by simp; omega) c).alloc (by simp; omega) d
def giveT (t : Te) : Te := .mk 3 ⟨#[]⟩ [] [t]
def orT (t : Te) : Te := .mk 5 ⟨#[]⟩ [] [t, zeroT]
theorem fitC_mk (t : Te) : fitC t = if rT t then (if fitT t then 0 else 12) else 1 := rfl
theorem fitC_yes {t : Te} (h : rT t = true) : fitC t = if fitT t then 0 else 12 := by rw [fitC_mk, if_pos h]
set_option maxRecDepth 100000 in
set_option maxHeartbeats 4000000 in
theorem checkWithin_any (lfs : List Lf) (kns : List Kn) (a a' : Option Addr) (len cap len' cap' : Nat) (w : World) (h1 : SlR lfK w [] lfs a len cap) (h2 : SlR knK w [] kns a' len' cap') :
    Calls Try.prog 4 #[.slice a len cap, .slice a' len' cap'] w fun e w' => e = .returned (.bool true) ∧ Below w.heap.size w w' := by
  have HBU := Lib.hid (build_any lfs kns a a' len cap len' cap' w h1 h2)
  clear h1 h2
  go_enter Try.func4, Try.ntmps4
  go_wp2_with fail
  go_at_call 13
  (with_reducible refine (great21_any _ _ _ _ _ _ _).mono ?_)
  rintro e w' ⟨rfl, rfl⟩
  by_cases hg : 60 < len ∨ 60 < len'
  · rw [decide_eq_true hg]
    clear hg HBU
    go_wp2_with fail
    go_at_call 14
    (with_reducible refine (awake21_any _).mono ?_)
    rintro e w1 ⟨rfl, b1⟩
    have HB1 := Lib.hid b1
    clear b1
    go_wp2_with fail
    go_ret
    exact ⟨rfl, HB1.out⟩
  · rw [decide_eq_false hg]
    clear hg
    go_wp2_with fail
    go_at_call 15
    (with_reducible refine HBU.out.mono ?_)
    rintro e w1 ⟨⟨es, ts, cs, rfl, hT, -, htl, -, hrk⟩, b1⟩
    have HB1 := Lib.hid b1
    have HLA := Lib.hid (last_any hT (fun t ht => by have := hrk t ht; omega) (by omega))
    obtain ⟨aE, cE, aN, cN, aD, cD, aT, cT, aM, cM, aP, cP, hcs, -⟩ := id hT
    subst hcs
    clear hT b1 hrk HBU htl
    go_wp2_with fail
    go_at_call 21
    (with_reducible refine HLA.out.mono ?_)
    rintro e w2 ⟨hd, b2⟩
    have HB2 := Lib.hid (HB1.out.trans (b2.mono HB1.out.size))
    clear HB1 b2 HLA
    rcases hd with ⟨rfl, -⟩ | ⟨cs', t, rfl, hl, hR⟩
    · have HB3 := Lib.hid (HB2.out.alloc HB2.out.size (.cells #[.int .i64 0, .string ⟨#[]⟩, .slice none 0 0, .slice none 0 0] 35))
      clear HB2
      go_wp2_with fail
      go_at_call 14
      (with_reducible refine (awake21_any _).mono ?_)
      rintro e w3 ⟨rfl, b3⟩
      have HB4 := Lib.hid (HB3.out.trans (b3.mono HB3.out.size))
      clear b3 HB3
      go_wp2_with fail
      go_ret
      exact ⟨rfl, HB4.out⟩
    · have hrt := (lastT_right hl).1
      have HBT := Lib.hid (rT_mk hrt)
      have HFC := Lib.hid (fitC_yes hrt)
      obtain ⟨op, nm, x, l, p5, l5, r5, p6, l6, r6, rfl, rfl, q1, q2, hX, hY⟩ := hR.inv
      obtain ⟨f1, f2, f3⟩ := hY.facts
      have hal := (Below.refl w2.heap.size w2).alloc (Nat.le_refl _) (.cells #[.int .i64 op, .string nm, .slice p5 l5 r5, .slice p6 l6 r6] 35)
      have HB3 := Lib.hid (HB2.out.trans (hal.mono HB2.out.size))
      have HR3 := Lib.hid (hR.kept (Kept.of_below hal []))
      have HY3 := Lib.hid (hY.kept (Kept.of_below hal []))
      have BX := Lib.hid (Mem.Blk.new w2 35 #[.int .i64 op, .string nm, .slice p5 l5 r5, .slice p6 l6 r6])
      have HFI : Hid (∀ (j : Nat) c, l[j]? = some c → fitT (.mk op nm x l) = true → fitC c = 0) := fun j c hc hf => by
        have h3 := right_in HBT.out c (List.mem_of_getElem? hc)
        rw [fitC_yes (rT_of h3.1 h3.2.1 h3.2.2), fitT_in hf c (List.mem_of_getElem? hc)]; rfl
      have HRC : Hid (∀ (j : Nat) c, l[j]? = some c → c.rk < 1000) := fun j c hc => by
        have h3 := right_in HBT.out c (List.mem_of_getElem? hc); omega
      have HL := Lib.hid f1
      clear hl hrt hR hX hY hal q1 q2 HB2 f1
      go_upto_region 6 with (fail)
      generalize w2.alloc (.cells #[.int .i64 op, .string nm, .slice p5 l5 r5, .slice p6 l6 r6] 35) = v at *
      generalize w2.heap.size = xb at *
      obtain ⟨c0, c1, c2, c3, -, -, -, -⟩ := blk4 BX.out
      go_wp2_with fail
      go_at_call 16
      (with_reducible refine (fitsX_any (Te.mk op nm x l) _ v HR3.out (by have := HBT.out; omega)).mono ?_)
      rintro y w3 ⟨rfl, b3⟩
      have HV3 := Lib.hid b3
      clear b3 c0 c1 c2 c3
      have HBT' := HBT.out.2.2
      have HGV : Hid (fitT (giveT (.mk op nm x l)) = fitT (.mk op nm x l)) := fitT_give _ _ _
      have HOR : Hid (fitT (orT (.mk op nm x l)) = fitT (.mk op nm x l)) := fitT_or _ _ _
      have HGR : Hid ((giveT (.mk op nm x l)).rk ≤ 1000 ∧ (orT (.mk op nm x l)).rk ≤ 1000) := by
        generalize Te.mk op nm x l = t at *
        constructor <;> simp [giveT, orT, zeroT, Te.rk, Te.rk.go, Ex.rk.go] <;> omega
      generalize Te.mk op nm x l = t at *
      have HE0 : Hid (fitC t = 0 → ∀ (j : Nat) c, l[j]? = some c → fitC c = 0) := fun h j c hc => HFI.out j c hc (by
        rw [HFC.out] at h
        cases hf : fitT t
        · rw [hf] at h; exact absurd h (by decide)
        · rfl)
      have HEG : Hid (rT (giveT t) = true → fitC (giveT t) = fitC t) := fun h => by rw [fitC_yes h, HGV.out, HFC.out]
      have HEO : Hid (rT (orT t) = true → fitC (orT t) = fitC t) := fun h => by rw [fitC_yes h, HOR.out, HFC.out]
      clear HFC HFI HGV HOR HBT HBT'
      generalize fitC t = E at *
      have hl60 : l6 ≤ 9223372036854775807 := by omega
      go_wp2_with fail
      go_loopw [8] (fun i wr => ∃ (k : Nat), i = .int .i64 (k : Nat) ∧ k ≤ l6 ∧ Hid (Below v.heap.size v wr)) (fun i _ => l6 - (intOf i).toNat)
      case atStart => exact ⟨0, rfl, Nat.zero_le _, HV3.out⟩
      case round =>
        obtain ⟨k, rfl, hk, HR⟩ := hrel
        obtain ⟨c0, c1, c2, c3, -, -, -, -⟩ := blk4 (BX.out.below HR.out)
        by_cases hlt : k < l6
        · have hk' : (k : Int) < (l6 : Int) := by omega
          have i0 : (0 : Int) ≤ (k : Int) := by omega
          by_cases he : E = 0
          · subst he
            obtain ⟨b, o, cop, cnm, cex, cte, ca, clen, ccap, cb, clen2, ccap2, rfl, -, -, hxe, j1, j2, hSc, hTc, v0, v1, v2, v3⟩ := (HY3.out.kept (Kept.of_below HR.out [])).at k hlt
            have HZ := Lib.hid (HE0.out rfl k _ hxe)
            have HRC' := Lib.hid (HRC.out k _ hxe)
            have HSC := Lib.hid (RepT.mk' j1 j2 hSc hTc)
            clear hxe j1 j2 hSc hTc
            generalize Te.mk cop cnm cex cte = c at *
            go_wp2_with fail
            go_at_call 16
            (with_reducible refine (fitsX_any c _ wr HSC.out HRC'.out).mono ?_)
            rintro y w4 ⟨rfl, b4⟩
            rw [HZ.out]
            have HB4 := Lib.hid (HR.out.trans (b4.mono HR.out.size))
            clear b4 HR v0 v1 v2 v3 c0 c1 c2 c3 HZ HRC' HSC
            go_wp2_with fail
            go_roundw
            case rel => exact ⟨k + 1, by go_num, by omega, HB4.out⟩
            case measure => simp [intOf]; omega
          · have he' : (E == 0) = false := beq_eq_false_iff_ne.2 he
            have HB4 := HR
            clear HR
            go_wp2_with fail
            go_roundw
            case rel => exact ⟨k + 1, by go_num, by omega, HB4.out⟩
            case measure => simp [intOf]; omega
        · have hk' : ¬ (k : Int) < (l6 : Int) := by omega
          have hxb : xb < wr.heap.size := (BX.out.below HR.out).lt
          clear hlt
          go_upto_region 14 with (fail)
          clear hxb
          have HS := Lib.hid (((((Sep.nil wr).new 35 #[.int .i64 op, .string nm, .slice p5 l5 r5, .slice p6 l6 r6]).new 35 #[.int .i64 3, .string ⟨#[]⟩, .slice none 0 0, .slice (some ⟨wr.heap.size, 0, none⟩) 1 1]).new 35 #[.int .i64 op, .string nm, .slice p5 l5 r5, .slice p6 l6 r6, .int .i64 1, .string ⟨#[]⟩, .slice none 0 0, .slice none 0 0]).new 35 #[.int .i64 5, .string ⟨#[]⟩, .slice none 0 0, .slice (some ⟨wr.heap.size + 1 + 1, 0, none⟩) 2 2])
          rw [show (wr.alloc (.cells #[.int .i64 op, .string nm, .slice p5 l5 r5, .slice p6 l6 r6] 35)).heap.size = wr.heap.size + 1 by simp, show ((wr.alloc (.cells #[.int .i64 op, .string nm, .slice p5 l5 r5, .slice p6 l6 r6] 35)).alloc (.cells #[.int .i64 3, .string ⟨#[]⟩, .slice none 0 0, .slice (some ⟨wr.heap.size, 0, none⟩) 1 1] 35)).heap.size = wr.heap.size + 1 + 1 by simp, show (((wr.alloc (.cells #[.int .i64 op, .string nm, .slice p5 l5 r5, .slice p6 l6 r6] 35)).alloc (.cells #[.int .i64 3, .string ⟨#[]⟩, .slice none 0 0, .slice (some ⟨wr.heap.size, 0, none⟩) 1 1] 35)).alloc (.cells #[.int .i64 op, .string nm, .slice p5 l5 r5, .slice p6 l6 r6, .int .i64 1, .string ⟨#[]⟩, .slice none 0 0, .slice none 0 0] 35)).heap.size = wr.heap.size + 1 + 1 + 1 by simp] at HS
          have hb4 := below4 wr (.cells #[.int .i64 op, .string nm, .slice p5 l5 r5, .slice p6 l6 r6] 35) (.cells #[.int .i64 3, .string ⟨#[]⟩, .slice none 0 0, .slice (some ⟨wr.heap.size, 0, none⟩) 1 1] 35) (.cells #[.int .i64 op, .string nm, .slice p5 l5 r5, .slice p6 l6 r6, .int .i64 1, .string ⟨#[]⟩, .slice none 0 0, .slice none 0 0] 35) (.cells #[.int .i64 5, .string ⟨#[]⟩, .slice none 0 0, .slice (some ⟨wr.heap.size + 1 + 1, 0, none⟩) 2 2] 35)
          have HB4 := Lib.hid (HB3.out.trans ((HR.out.trans (hb4.mono HR.out.size)).mono HB3.out.size))
          have HR4 := Lib.hid ((HR3.out.kept (Kept.of_below HR.out [])).kept (Kept.of_below hb4 []))
          clear HR hb4 c0 c1 c2 c3 HB3 HR3 HV3 BX HY3 HE0 HRC
          generalize ((((wr.alloc (.cells #[.int .i64 op, .string nm, .slice p5 l5 r5, .slice p6 l6 r6] 35)).alloc (.cells #[.int .i64 3, .string ⟨#[]⟩, .slice none 0 0, .slice (some ⟨wr.heap.size, 0, none⟩) 1 1] 35)).alloc (.cells #[.int .i64 op, .string nm, .slice p5 l5 r5, .slice p6 l6 r6, .int .i64 1, .string ⟨#[]⟩, .slice none 0 0, .slice none 0 0] 35)).alloc (.cells #[.int .i64 5, .string ⟨#[]⟩, .slice none 0 0, .slice (some ⟨wr.heap.size + 1 + 1, 0, none⟩) 2 2] 35)) = v4 at *
          generalize wr.heap.size = z at *
          have hG : RepT v4 [] (giveT t) [.int .i64 3, .string ⟨#[]⟩, .slice none 0 0, .slice (some ⟨z, 0, none⟩) 1 1] := RepT.mk' (by unfold I64; omega) (by decide) (SlE.nil _ _) (SlR.lit1 (K := teK) (c := [.int .i64 op, .string nm, .slice p5 l5 r5, .slice p6 l6 r6]) (HS.out.blk 3 rfl) (by simp) HR4.out).slT
          have hO : RepT v4 [] (orT t) [.int .i64 5, .string ⟨#[]⟩, .slice none 0 0, .slice (some ⟨z + 1 + 1, 0, none⟩) 2 2] := RepT.mk' (by unfold I64; omega) (by decide) (SlE.nil _ _) (SlR.lit2 (K := teK) (c := [.int .i64 op, .string nm, .slice p5 l5 r5, .slice p6 l6 r6]) (d := [.int .i64 1, .string ⟨#[]⟩, .slice none 0 0, .slice none 0 0]) (HS.out.blk 1 rfl) rfl (by simp) HR4.out zero_rep).slT
          have RG := Lib.hid hG
          have RO := Lib.hid hO
          have B2 := Lib.hid (HS.out.blk 2 rfl)
          have B0 := Lib.hid (HS.out.blk 0 rfl)
          clear hG hO HS HR4
          have HQG := Lib.hid (fun W (hW : Below v4.heap.size v4 W) => right_any (giveT t) _ W (RG.out.kept (Kept.of_below hW [])) HGR.out.1)
          have HQO := Lib.hid (fun W (hW : Below v4.heap.size v4 W) => right_any (orT t) _ W (RO.out.kept (Kept.of_below hW [])) HGR.out.2)
          have HFG := Lib.hid (fun W (hW : Below v4.heap.size v4 W) (h : (giveT t).rk < 1000) => fitsX_any (giveT t) _ W (RG.out.kept (Kept.of_below hW [])) h)
          have HFO := Lib.hid (fun W (hW : Below v4.heap.size v4 W) (h : (orT t).rk < 1000) => fitsX_any (orT t) _ W (RO.out.kept (Kept.of_below hW [])) h)
          have HRG : Hid (rT (giveT t) = true → (giveT t).rk < 1000) := fun h => by have := rT_mk h; omega
          have HRO : Hid (rT (orT t) = true → (orT t).rk < 1000) := fun h => by have := rT_mk h; omega
          clear RG RO HGR
          generalize giveT t = G at *
          generalize orT t = O at *
          obtain ⟨g0, g1, g2, g3, -, -, -, -⟩ := blk4 B2.out
          go_wp2_with fail
          go_at_call 22
          (with_reducible refine (HQG.out v4 (Below.refl _ _)).mono ?_)
          rintro y w5 ⟨rfl, b5⟩
          have HW5 := Lib.hid b5
          clear b5 g0 g1 g2 g3
          cases hg : rT G
          · clear HRG HEG HFG hg
            obtain ⟨o0, o1, o2, o3, -, -, -, -⟩ := blk4 (B0.out.below HW5.out)
            go_wp2_with fail
            go_at_call 22
            (with_reducible refine (HQO.out w5 HW5.out).mono ?_)
            rintro y w7 ⟨rfl, b7⟩
            have HW7 := Lib.hid (HW5.out.trans (b7.mono HW5.out.size))
            clear b7 HW5 o0 o1 o2 o3
            cases hg : rT O
            · clear HRO HEO HFO hg
              go_wp2_with fail
              go_at_call 14
              (with_reducible refine (awake21_any _).mono ?_)
              rintro e w9 ⟨rfl, b9⟩
              have HB9 := Lib.hid (HB4.out.trans ((HW7.out.trans (b9.mono HW7.out.size)).mono HB4.out.size))
              clear b9
              go_wp2_with fail
              go_ret
              exact ⟨rfl, HB9.out⟩
            · have HF' := Lib.hid (HFO.out w7 HW7.out (HRO.out hg))
              have hEO := HEO.out hg
              rw [hEO] at HF'
              clear HRO HEO HFO hg hEO
              obtain ⟨o0, o1, o2, o3, -, -, -, -⟩ := blk4 (B0.out.below HW7.out)
              go_wp2_with fail
              go_at_call 16
              (with_reducible refine HF'.out.mono ?_)
              rintro y w8 ⟨rfl, b8⟩
              have HW8 := Lib.hid (HW7.out.trans (b8.mono HW7.out.size))
              clear b8 HF' HW7 o0 o1 o2 o3
              go_wp2_with fail
              go_at_call 14
              (with_reducible refine (awake21_any _).mono ?_)
              rintro e w9 ⟨rfl, b9⟩
              have HB9 := Lib.hid (HB4.out.trans ((HW8.out.trans (b9.mono HW8.out.size)).mono HB4.out.size))
              clear b9
              go_wp2_with fail
              go_ret
              exact ⟨rfl, HB9.out⟩
          · have HF' := Lib.hid (HFG.out w5 HW5.out (HRG.out hg))
            have hEG := HEG.out hg
            rw [hEG] at HF'
            clear HRG HEG HFG hg hEG
            obtain ⟨g0, g1, g2, g3, -, -, -, -⟩ := blk4 (B2.out.below HW5.out)
            go_wp2_with fail
            go_at_call 16
            (with_reducible refine HF'.out.mono ?_)
            rintro y w6 ⟨rfl, b6⟩
            have HW6 := Lib.hid (HW5.out.trans (b6.mono HW5.out.size))
            clear b6 HF' HW5 g0 g1 g2 g3
            obtain ⟨o0, o1, o2, o3, -, -, -, -⟩ := blk4 (B0.out.below HW6.out)
            go_wp2_with fail
            go_at_call 22
            (with_reducible refine (HQO.out w6 HW6.out).mono ?_)
            rintro y w7 ⟨rfl, b7⟩
            have HW7 := Lib.hid (HW6.out.trans (b7.mono HW6.out.size))
            clear b7 HW6 o0 o1 o2 o3
            cases hg : rT O
            · clear HRO HEO HFO hg
              go_wp2_with fail
              go_at_call 14
              (with_reducible refine (awake21_any _).mono ?_)
              rintro e w9 ⟨rfl, b9⟩
              have HB9 := Lib.hid (HB4.out.trans ((HW7.out.trans (b9.mono HW7.out.size)).mono HB4.out.size))
              clear b9
              go_wp2_with fail
              go_ret
              exact ⟨rfl, HB9.out⟩
            · have HF' := Lib.hid (HFO.out w7 HW7.out (HRO.out hg))
              have hEO := HEO.out hg
              rw [hEO] at HF'
              clear HRO HEO HFO hg hEO
              obtain ⟨o0, o1, o2, o3, -, -, -, -⟩ := blk4 (B0.out.below HW7.out)
              go_wp2_with fail
              go_at_call 16
              (with_reducible refine HF'.out.mono ?_)
              rintro y w8 ⟨rfl, b8⟩
              have HW8 := Lib.hid (HW7.out.trans (b8.mono HW7.out.size))
              clear b8 HF' HW7 o0 o1 o2 o3
              go_wp2_with fail
              go_at_call 14
              (with_reducible refine (awake21_any _).mono ?_)
              rintro e w9 ⟨rfl, b9⟩
              have HB9 := Lib.hid (HB4.out.trans ((HW8.out.trans (b9.mono HW8.out.size)).mono HB4.out.size))
              clear b9
              go_wp2_with fail
              go_ret
              exact ⟨rfl, HB9.out⟩
end Go.Proofs.Ytppnmeobnilojaa
