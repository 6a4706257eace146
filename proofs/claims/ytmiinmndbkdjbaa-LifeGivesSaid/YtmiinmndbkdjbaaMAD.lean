/- A part of the proof: FaultP, EvalQ, EvalR, Fx, Cells, Num, NumB, one behind another. -/
import Derived.Test.YtmiinmndbkdjbaaMAA
import Derived.Test.YtmiinmndbkdjbaaMAB
import Derived.Test.YtmiinmndbkdjbaaMAC
import Derived.WalkKit
import Derived.Shelf.Bits.Mul64
import Derived.BigRegion
import Derived.RegionTactic
/- What fits, and the first fault, by the program and by the document: plain. -/
namespace Go.Proofs.Ytmiinmndbkdjbaa
set_option linter.unusedVariables false
set_option linter.unusedSimpArgs false
open Go.RowKit
theorem all_kinds {op : Int} {l : List Int} (ha : ar op = (l.length : Nat)) (h : kOf op l ≠ 0) (h0 : ∀ k ∈ l, k = 0 ∨ k = 1 ∨ k = 2) : ∀ k ∈ l, k ≠ 0 := by
  obtain ⟨h1, h2⟩ := ar_op (by omega : 0 ≤ ar op)
  unfold kOf at h
  by_cases h21 : op = 21
  · rw [if_pos h21] at h
    have hl : l.length = 3 := by subst h21; rw [show ar 21 = 3 by decide] at ha; omega
    obtain ⟨a, b, c, rfl⟩ : ∃ a b c, l = [a, b, c] := by
      match l, hl with
      | [a, b, c], _ => exact ⟨a, b, c, rfl⟩
    simp at h
    intro k hk
    simp at hk
    obtain ⟨⟨e1, e2⟩, e3⟩ := h
    rcases hk with rfl | rfl | rfl <;> omega
  · rw [if_neg h21] at h
    by_cases h4 : op ≤ 4
    · have hl : l = [] := List.length_eq_zero_iff.1 (by rw [ar_nil h1 h4] at ha; omega)
      subst hl
      intro k hk; cases hk
    · by_cases hall : l.all (fun k => decide (k = needK op)) = true
      · intro k hk
        have := List.all_eq_true.1 hall k hk
        rw [decide_eq_true_eq] at this
        subst this
        unfold needK
        repeat' split
        all_goals omega
      · rw [if_neg hall] at h
        exact absurd rfl h
theorem kid_kinds {op n : Int} {nm : ByteArray} {l : List Ex} (hb : bE (.mk op n nm l) = true) (h : kE (.mk op n nm l) ≠ 0) : ∀ c ∈ l, kE c ≠ 0 := by
  obtain ⟨h1, -, -⟩ := bE_inv hb
  rw [kE_mk] at h
  intro c hc
  exact all_kinds (by rw [List.length_map]; exact h1) h (fun k hk => by obtain ⟨e, _, rfl⟩ := List.mem_map.1 hk; exact kE_bd _ e (Nat.le_refl _)) _ (List.mem_map.2 ⟨c, hc, rfl⟩)
/-- The path of the first expression that has no kind though all within have. -/
def faultE : Ex → Option (List Int)
  | .mk op _ _ l => if kOf op (l.map kE) ≠ 0 then none else some (go 0 l)
  where go : Nat → List Ex → List Int
  | _, [] => []
  | i, e :: t => match faultE e with | some p => (i : Int) :: p | none => go (i + 1) t
theorem faultE_none {e : Ex} : faultE e = none ↔ kE e ≠ 0 := by
  obtain ⟨op, n, nm, l⟩ := e
  rw [faultE, kE_mk]
  by_cases h : kOf op (l.map kE) = 0
  · simp [h]
  · simp [h]
def lessP : List Int → List Int → Bool
  | [], [] => false
  | [], _ :: _ => true
  | _ :: _, [] => false
  | a :: s, b :: t => if a ≠ b then decide (a < b) else lessP s t
def bet (a b : Option (List Int)) : Option (List Int) :=
  match a, b with
  | none, b => b
  | some a, none => some a
  | some a, some b => if lessP b a = true then some b else some a
theorem lessP_app (p x y : List Int) : lessP (p ++ x) (p ++ y) = lessP x y := by
  induction p with
  | nil => rfl
  | cons a t ih => simp [lessP, ih]
theorem lessP_gt {i j : Int} (h : i < j) (x y : List Int) : lessP (j :: x) (i :: y) = false := by
  have : j ≠ i := by omega
  simp [lessP, this]; omega
theorem lessP_cons_nil (a : Int) (x : List Int) : lessP (a :: x) [] = false := rfl
/-- A candidate behind place i' does not come ahead of one at i'. -/
theorem bet_keep {p : List Int} {i j : Int} (h : i < j) (x y : List Int) : bet (some (p ++ i :: y)) (some (p ++ j :: x)) = some (p ++ i :: y) := by
  simp [bet, lessP_app, lessP_gt h]
theorem bet_none (a : Option (List Int)) : bet a none = a := by cases a <;> rfl
/-- The document's: the least path of all. -/
def refE : Ex → List Int → Option (List Int)
  | .mk op _ _ l, p => if kOf op (l.map kE) = 0 ∧ (∀ c ∈ l, kE c ≠ 0) then bet (go p 0 none l) (some p) else go p 0 none l
  where go (p : List Int) : Nat → Option (List Int) → List Ex → Option (List Int)
  | _, b, [] => b
  | i, b, e :: t => go p (i + 1) (bet b (refE e (p ++ [(i : Int)]))) t
theorem refE_stays {p : List Int} : ∀ (l : List Ex) (i : Nat) (i' : Int) (q : List Int), (∀ c ∈ l, ∀ P, refE c P = (faultE c).map (P ++ ·)) → i' < (i : Int) → refE.go p i (some (p ++ i' :: q)) l = some (p ++ i' :: q)
  | [], _, _, _, _, _ => rfl
  | e :: t, i, i', q, h, hi => by
    rw [refE.go, h e (by simp)]
    cases hf : faultE e with
    | none => rw [Option.map_none, bet_none]; exact refE_stays t (i + 1) i' q (fun c hc => h c (by simp [hc])) (by omega)
    | some r =>
      rw [Option.map_some, List.append_assoc, List.singleton_append, bet_keep hi]
      exact refE_stays t (i + 1) i' q (fun c hc => h c (by simp [hc])) (by omega)
theorem refE_go {p : List Int} : ∀ (l : List Ex) (i : Nat), (∀ c ∈ l, ∀ P, refE c P = (faultE c).map (P ++ ·)) →
    refE.go p i none l = if l.any (fun c => (faultE c).isSome) then some (p ++ faultE.go i l) else none
  | [], i, _ => by simp [refE.go]
  | e :: t, i, h => by
    rw [refE.go, h e (by simp)]
    cases hf : faultE e with
    | none =>
      rw [Option.map_none, show bet none none = none from rfl, refE_go t (i + 1) (fun c hc => h c (by simp [hc]))]
      simp [hf, faultE.go]
    | some r =>
      rw [Option.map_some, List.append_assoc, List.singleton_append, show bet none (some (p ++ (i : Int) :: r)) = some (p ++ (i : Int) :: r) from rfl, refE_stays t (i + 1) i r (fun c hc => h c (by simp [hc])) (by omega)]
      simp [hf, faultE.go]
theorem faultE_go_nil {l : List Ex} (h : ∀ c ∈ l, faultE c = none) (i : Nat) : faultE.go i l = [] := by
  induction l generalizing i with
  | nil => rfl
  | cons e t ih => rw [faultE.go, h e (by simp)]; exact ih (fun c hc => h c (by simp [hc])) (i + 1)
theorem refE_eq : ∀ (r : Nat) (e : Ex), e.rk ≤ r → bE e = true → ∀ P, refE e P = (faultE e).map (P ++ ·) := by
  intro r
  induction r with
  | zero => intro e h; have := e.rk_pos; omega
  | succ r ih =>
    intro e hr hb P
    obtain ⟨op, n, nm, l⟩ := e
    obtain ⟨h1, -, h3⟩ := bE_inv hb
    have hih : ∀ c ∈ l, ∀ P, refE c P = (faultE c).map (P ++ ·) := by
      intro c hc P
      obtain ⟨k, hk⟩ := List.getElem?_of_mem hc
      exact ih c (by have := Ex.rk_lt (op := op) (n := n) (nm := nm) hk; omega) (h3 c hc) P
    have hgo := refE_go (p := P) l 0 hih
    by_cases hk : kOf op (l.map kE) = 0
    · have hF : faultE (.mk op n nm l) = some (faultE.go 0 l) := by rw [faultE, if_neg (by simp [hk])]
      rw [hF, refE]
      by_cases hw : ∀ c ∈ l, kE c ≠ 0
      · have hn : ∀ c ∈ l, faultE c = none := fun c hc => faultE_none.2 (hw c hc)
        have hany : l.any (fun c => (faultE c).isSome) = false := by
          rw [List.any_eq_false]; intro c hc; simp [hn c hc]
        rw [hany] at hgo
        rw [if_pos ⟨hk, hw⟩, hgo, faultE_go_nil hn]
        simp [bet]
      · have hany : l.any (fun c => (faultE c).isSome) = true := by
          apply Classical.byContradiction
          intro h
          apply hw
          intro c hc
          rw [Bool.not_eq_true, List.any_eq_false] at h
          have := h c hc
          exact faultE_none.1 (by simpa using this)
        rw [hany] at hgo
        rw [if_neg (fun h => hw h.2), hgo]
        simp
    · have hF : faultE (.mk op n nm l) = none := by rw [faultE, if_pos hk]
      have hw := kid_kinds hb (by rw [kE_mk]; exact hk)
      have hany : l.any (fun c => (faultE c).isSome) = false := by
        rw [List.any_eq_false]; intro c hc; simp [faultE_none.2 (hw c hc)]
      rw [hany] at hgo
      rw [hF, refE, if_neg (fun h => hk h.1), hgo]
      simp
/-- Terms. -/
def needT (op : Int) : Int := if op = 6 then 1 else 2
def fitT : Te → Bool
  | .mk op _ x l => x.all (fun e => decide (kE e = needT op)) && go l
  where go : List Te → Bool
  | [] => true
  | e :: t => fitT e && go t
theorem fitT_go (l : List Te) : fitT.go l = l.all fitT := by
  induction l with
  | nil => rfl
  | cons x t ih => simp only [fitT.go, ih, List.all_cons]
def firstX (op : Int) : Nat → List Ex → Option (List Int)
  | _, [] => none
  | i, e :: t => if kE e = needT op then firstX op (i + 1) t else some ((i : Int) :: (faultE e).getD [])
def faultT : Te → Option (List Int)
  | .mk op _ x l => match firstX op 0 x with | some p => some p | none => go x.length l
  where go : Nat → List Te → Option (List Int)
  | _, [] => none
  | i, e :: t => match faultT e with | some p => some ((i : Int) :: p) | none => go (i + 1) t
def refX (op : Int) (p : List Int) : Nat → Option (List Int) → List Ex → Option (List Int)
  | _, b, [] => b
  | i, b, e :: t => refX op p (i + 1) (if kE e ≠ 0 ∧ ¬ (op = 6 ↔ kE e = 1) then bet (bet b (refE e (p ++ [(i : Int)]))) (some (p ++ [(i : Int)])) else bet b (refE e (p ++ [(i : Int)]))) t
def refT : Te → List Int → Option (List Int)
  | .mk op _ x l, p => go p x.length (refX op p 0 none x) l
  where go (p : List Int) : Nat → Option (List Int) → List Te → Option (List Int)
  | _, b, [] => b
  | i, b, e :: t => go p (i + 1) (bet b (refT e (p ++ [(i : Int)]))) t
theorem refX_stays {op : Int} {p : List Int} : ∀ (l : List Ex) (i : Nat) (i' : Int) (q : List Int), (∀ c ∈ l, bE c = true) → i' < (i : Int) → refX op p i (some (p ++ i' :: q)) l = some (p ++ i' :: q)
  | [], _, _, _, _, _ => rfl
  | e :: t, i, i', q, h, hi => by
    rw [refX, refE_eq _ e (Nat.le_refl _) (h e (by simp))]
    have h1 : bet (some (p ++ i' :: q)) ((faultE e).map ((p ++ [(i : Int)]) ++ ·)) = some (p ++ i' :: q) := by
      cases faultE e with
      | none => rfl
      | some r => rw [Option.map_some, List.append_assoc, List.singleton_append, bet_keep hi]
    rw [h1, bet_keep hi, ite_self]
    exact refX_stays t (i + 1) i' q (fun c hc => h c (by simp [hc])) (by omega)
theorem refX_go {op : Int} {p : List Int} : ∀ (l : List Ex) (i : Nat), (∀ c ∈ l, bE c = true) → refX op p i none l = (firstX op i l).map (p ++ ·)
  | [], i, _ => by simp [refX, firstX]
  | e :: t, i, h => by
    have he := refE_eq _ e (Nat.le_refl _) (h e (by simp)) (p ++ [(i : Int)])
    have hk := kE_bd _ e (Nat.le_refl _)
    rw [refX, firstX, he]
    by_cases h0 : kE e = 0
    · obtain ⟨r, hr⟩ : ∃ r, faultE e = some r := by
        cases hf : faultE e with
        | none => exact absurd h0 (faultE_none.1 hf)
        | some r => exact ⟨r, rfl⟩
      have hn : kE e ≠ needT op := by unfold needT; split <;> omega
      rw [if_neg (fun hh => hh.1 h0), if_neg hn, hr, Option.map_some, List.append_assoc, List.singleton_append, show bet none (some (p ++ (i : Int) :: r)) = some (p ++ (i : Int) :: r) from rfl, refX_stays t (i + 1) i r (fun c hc => h c (by simp [hc])) (by omega)]
      simp
    · have hf : faultE e = none := faultE_none.2 h0
      rw [hf, Option.map_none, show bet none none = none from rfl]
      by_cases hn : kE e = needT op
      · have : ¬ (kE e ≠ 0 ∧ ¬ (op = 6 ↔ kE e = 1)) := by
          unfold needT at hn
          split at hn <;> omega
        rw [if_neg this, if_pos hn]
        exact refX_go t (i + 1) (fun c hc => h c (by simp [hc]))
      · have : kE e ≠ 0 ∧ ¬ (op = 6 ↔ kE e = 1) := by
          unfold needT at hn
          split at hn <;> omega
        rw [if_pos this, if_neg hn, show bet none (some (p ++ [(i : Int)])) = some (p ++ (i : Int) :: []) from rfl, refX_stays t (i + 1) i [] (fun c hc => h c (by simp [hc])) (by omega)]
        simp
theorem refT_stays {p : List Int} : ∀ (l : List Te) (i : Nat) (i' : Int) (q : List Int), (∀ c ∈ l, ∀ P, refT c P = (faultT c).map (P ++ ·)) → i' < (i : Int) → refT.go p i (some (p ++ i' :: q)) l = some (p ++ i' :: q)
  | [], _, _, _, _, _ => rfl
  | e :: t, i, i', q, h, hi => by
    rw [refT.go, h e (by simp)]
    cases hf : faultT e with
    | none => rw [Option.map_none, bet_none]; exact refT_stays t (i + 1) i' q (fun c hc => h c (by simp [hc])) (by omega)
    | some r =>
      rw [Option.map_some, List.append_assoc, List.singleton_append, bet_keep hi]
      exact refT_stays t (i + 1) i' q (fun c hc => h c (by simp [hc])) (by omega)
theorem refT_go {p : List Int} : ∀ (l : List Te) (i : Nat), (∀ c ∈ l, ∀ P, refT c P = (faultT c).map (P ++ ·)) → refT.go p i none l = (faultT.go i l).map (p ++ ·)
  | [], i, _ => by simp [refT.go, faultT.go]
  | e :: t, i, h => by
    rw [refT.go, faultT.go, h e (by simp)]
    cases hf : faultT e with
    | none =>
      rw [Option.map_none, show bet none none = none from rfl, refT_go t (i + 1) (fun c hc => h c (by simp [hc]))]
    | some r =>
      rw [Option.map_some, List.append_assoc, List.singleton_append, show bet none (some (p ++ (i : Int) :: r)) = some (p ++ (i : Int) :: r) from rfl, refT_stays t (i + 1) i r (fun c hc => h c (by simp [hc])) (by omega)]
      simp
theorem firstX_lt {op : Int} : ∀ (l : List Ex) (i : Nat) (r : List Int), firstX op i l = some r → ∃ (i' : Nat) (q : List Int), r = (i' : Int) :: q ∧ i' < i + l.length
  | [], _, _, h => by simp [firstX] at h
  | e :: t, i, r, h => by
    rw [firstX] at h
    split at h
    · obtain ⟨i', q, e1, e2⟩ := firstX_lt t (i + 1) r h
      exact ⟨i', q, e1, by simp only [List.length_cons]; omega⟩
    · injection h with h
      exact ⟨i, _, h.symm, by simp only [List.length_cons]; omega⟩
theorem refT_eq : ∀ (r : Nat) (e : Te), e.rk ≤ r → bT e = true → ∀ P, refT e P = (faultT e).map (P ++ ·) := by
  intro r
  induction r with
  | zero => intro e h; have := e.rk_pos; omega
  | succ r ih =>
    intro e hr hb P
    obtain ⟨op, nm, x, l⟩ := e
    obtain ⟨-, -, -, h4, h5⟩ := bT_inv hb
    have hih : ∀ c ∈ l, ∀ P, refT c P = (faultT c).map (P ++ ·) := by
      intro c hc P
      obtain ⟨k, hk⟩ := List.getElem?_of_mem hc
      exact ih c (by have := Te.rk_lt (op := op) (nm := nm) (x := x) hk; omega) (h5 c hc) P
    rw [refT, faultT, refX_go x 0 h4]
    cases hf : firstX op 0 x with
    | none => rw [Option.map_none, refT_go l x.length hih]
    | some r =>
      obtain ⟨i', q, rfl, hi⟩ := firstX_lt x 0 r hf
      rw [Option.map_some, refT_stays l x.length i' q hih (by omega)]
end Go.Proofs.Ytmiinmndbkdjbaa

/- Values and their kinds; the document's own words; fixings more: plain. -/
namespace Go.Proofs.Ytmiinmndbkdjbaa
set_option linter.unusedVariables false
set_option linter.unusedSimpArgs false
open Go.RowKit
/-- A value of a kind, or none. -/
def Ty (k : Int) (v : Vl) : Prop := v = .unk ∨ v = .brk ∨ (k = 1 ∧ ∃ n, v = .num n) ∨ (k = 2 ∧ ∃ b, v = .tru b)
theorem ty_numV (o : Option Int) : Ty 1 (numV o) := by cases o with | none => exact .inr (.inl rfl) | some n => exact .inr (.inr (.inl ⟨rfl, n, rfl⟩))
theorem kOf_need {op : Int} {ks : List Int} (h21 : op ≠ 21) (h : kOf op ks ≠ 0) : (∀ k ∈ ks, k = needK op) ∧ kOf op ks = isK op := by
  unfold kOf at h ⊢
  rw [if_neg h21] at h ⊢
  by_cases ha : ks.all (fun k => decide (k = needK op)) = true
  · rw [if_pos ha]
    exact ⟨fun k hk => by simpa using List.all_eq_true.1 ha k hk, rfl⟩
  · rw [if_neg ha] at h; exact absurd rfl h
theorem two_of {α : Type} {l : List α} (h : l.length = 2) : ∃ a b, l = [a, b] := by
  match l, h with
  | [a, b], _ => exact ⟨a, b, rfl⟩
theorem one_of {α : Type} {l : List α} (h : l.length = 1) : ∃ a, l = [a] := by
  match l, h with
  | [a], _ => exact ⟨a, rfl⟩
theorem three_of {α : Type} {l : List α} (h : l.length = 3) : ∃ a b c, l = [a, b, c] := by
  match l, h with
  | [a, b, c], _ => exact ⟨a, b, c, rfl⟩
/-- What is within an op that has a kind: how many, of which kinds. -/
inductive Shape : Int → List Int → List Vl → Int → Prop
  | two1 {op : Int} {a b : Vl} (h : 5 ≤ op ∧ op ≤ 10) (ha : Ty 1 a) (hb : Ty 1 b) : Shape op [1, 1] [a, b] 1
  | cmp {op : Int} {a b : Vl} (h : 11 ≤ op ∧ op ≤ 16) (ha : Ty 1 a) (hb : Ty 1 b) : Shape op [1, 1] [a, b] 2
  | both {op : Int} {a b : Vl} (h : op = 17 ∨ op = 18) (ha : Ty 2 a) (hb : Ty 2 b) : Shape op [2, 2] [a, b] 2
  | not {a : Vl} (ha : Ty 2 a) : Shape 19 [2] [a] 2
  | neg {a : Vl} (ha : Ty 1 a) : Shape 20 [1] [a] 1
  | cond {a b c : Vl} {k : Int} (ha : Ty 2 a) (hb : Ty k b) (hc : Ty k c) : Shape 21 [2, k, k] [a, b, c] k
theorem shape_of {op : Int} {ks : List Int} {vs : List Vl} (h4 : 4 < op) (har : ar op = (ks.length : Nat)) (hlen : vs.length = ks.length) (h : kOf op ks ≠ 0) (hty : ∀ (i : Nat) (k : Int) (v : Vl), ks[i]? = some k → vs[i]? = some v → Ty k v) : Shape op ks vs (kOf op ks) := by
  obtain ⟨-, h21'⟩ := ar_op (by omega : 0 ≤ ar op)
  by_cases h21 : op = 21
  · subst h21
    have hl : ks.length = 3 := by rw [show ar 21 = 3 by decide] at har; omega
    obtain ⟨k0, k1, k2, rfl⟩ := three_of hl
    obtain ⟨a, b, c, rfl⟩ := three_of (by rw [hlen]; rfl : vs.length = 3)
    unfold kOf at h ⊢
    simp only [if_pos] at h ⊢
    by_cases hc : ([k0, k1, k2] : List Int).getD 0 0 = 2 ∧ ([k0, k1, k2] : List Int).getD 1 0 = ([k0, k1, k2] : List Int).getD 2 0
    · rw [if_pos hc]
      simp at hc
      obtain ⟨rfl, rfl⟩ := hc
      simp only [List.getD_cons_succ, List.getD_cons_zero]
      exact .cond (hty 0 _ _ rfl rfl) (hty 1 _ _ rfl rfl) (hty 2 _ _ rfl rfl)
    · rw [if_neg hc] at h; exact absurd rfl h
  · obtain ⟨hk, he⟩ := kOf_need h21 h
    rw [he]
    unfold needK at hk
    unfold isK
    by_cases h10 : (5 ≤ op ∧ op ≤ 10) ∨ op = 20
    · rw [if_pos h10] at hk ⊢
      rcases h10 with h10 | rfl
      · obtain ⟨k0, k1, rfl⟩ := two_of (by rw [ar_two (by omega)] at har; omega : ks.length = 2)
        obtain ⟨a, b, rfl⟩ := two_of (by rw [hlen]; rfl : vs.length = 2)
        obtain rfl := hk k0 (by simp)
        obtain rfl := hk k1 (by simp)
        exact .two1 h10 (hty 0 _ _ rfl rfl) (hty 1 _ _ rfl rfl)
      · obtain ⟨k0, rfl⟩ := one_of (by rw [show ar 20 = 1 by decide] at har; omega : ks.length = 1)
        obtain ⟨a, rfl⟩ := one_of (by rw [hlen]; rfl : vs.length = 1)
        obtain rfl := hk k0 (by simp)
        exact .neg (hty 0 _ _ rfl rfl)
    · rw [if_neg h10] at hk ⊢
      by_cases h16 : 11 ≤ op ∧ op ≤ 16
      · rw [if_pos h16] at hk ⊢
        obtain ⟨k0, k1, rfl⟩ := two_of (by rw [ar_two (by omega)] at har; omega : ks.length = 2)
        obtain ⟨a, b, rfl⟩ := two_of (by rw [hlen]; rfl : vs.length = 2)
        obtain rfl := hk k0 (by simp)
        obtain rfl := hk k1 (by simp)
        exact .cmp h16 (hty 0 _ _ rfl rfl) (hty 1 _ _ rfl rfl)
      · rw [if_neg h16] at hk ⊢
        have h17 : op = 17 ∨ op = 18 ∨ op = 19 := by omega
        rw [if_pos h17] at hk ⊢
        by_cases h19 : op = 19
        · subst h19
          obtain ⟨k0, rfl⟩ := one_of (by rw [show ar 19 = 1 by decide] at har; omega : ks.length = 1)
          obtain ⟨a, rfl⟩ := one_of (by rw [hlen]; rfl : vs.length = 1)
          obtain rfl := hk k0 (by simp)
          exact .not (hty 0 _ _ rfl rfl)
        · obtain ⟨k0, k1, rfl⟩ := two_of (by rw [ar_two (by omega)] at har; omega : ks.length = 2)
          obtain ⟨a, b, rfl⟩ := two_of (by rw [hlen]; rfl : vs.length = 2)
          obtain rfl := hk k0 (by simp)
          obtain rfl := hk k1 (by simp)
          exact .both (by omega) (hty 0 _ _ rfl rfl) (hty 1 _ _ rfl rfl)
theorem ty_two {op a b : Int} (h : 5 ≤ op ∧ op ≤ 10) : Ty 1 (twoV op a b) := by unfold twoV; rw [if_pos h]; exact ty_numV _
theorem ty_cmp {op a b : Int} (h : 11 ≤ op ∧ op ≤ 16) : Ty 2 (twoV op a b) := by unfold twoV; rw [if_neg (by omega)]; exact .inr (.inr (.inr ⟨rfl, _, rfl⟩))
theorem ty_both {s : Bool} {a b : Vl} (ha : Ty 2 a) (hb : Ty 2 b) : Ty 2 (bothV s a b) := by
  unfold bothV
  repeat' split
  · exact ha
  · exact hb
  · exact .inl rfl
theorem shape_ty {op k : Int} {ks : List Int} {vs : List Vl} (h : Shape op ks vs k) : Ty k (opV op vs) := by
  cases h with
  | two1 h ha hb =>
    unfold opV
    rw [if_neg (by omega), if_neg (by omega), if_neg (by omega), if_neg (by omega)]
    repeat' split
    · exact .inr (.inl rfl)
    · exact .inl rfl
    · exact ty_two h
  | cmp h ha hb =>
    unfold opV
    rw [if_neg (by omega), if_neg (by omega), if_neg (by omega), if_neg (by omega)]
    repeat' split
    · exact .inr (.inl rfl)
    · exact .inl rfl
    · exact ty_cmp h
  | both h ha hb => unfold opV; rw [if_pos h]; exact ty_both ha hb
  | not ha =>
    unfold opV
    rw [if_neg (by omega), if_neg (by omega), if_pos rfl]
    simp only [List.getD_cons_zero]
    rename_i a
    cases a with
    | unk => exact .inl rfl
    | brk => exact .inr (.inl rfl)
    | num n => exact .inr (.inr (.inr ⟨rfl, _, rfl⟩))
    | tru t => exact .inr (.inr (.inr ⟨rfl, _, rfl⟩))
  | neg ha =>
    unfold opV
    rw [if_neg (by omega), if_neg (by omega), if_neg (by omega), if_pos rfl]
    simp only [List.getD_cons_zero]
    rename_i a
    cases a with
    | unk => exact .inl rfl
    | brk => exact .inr (.inl rfl)
    | num n => exact ty_numV _
    | tru t => exact .inr (.inr (.inl ⟨rfl, _, rfl⟩))
  | cond ha hb hc =>
    unfold opV
    rw [if_neg (by omega), if_pos rfl]
    simp only [List.getD_cons_zero, List.getD_cons_succ]
    rename_i a b c
    cases a with
    | unk => exact .inl rfl
    | brk => exact .inr (.inl rfl)
    | num n => exact hc
    | tru t => cases t <;> first | exact hc | exact hb
/-- Its value is of its kind. -/
theorem eval_ty (day : Int) (fx : List Fx) : ∀ (r : Nat) (e : Ex), e.rk ≤ r → bE e = true → kE e ≠ 0 → Ty (kE e) (evalE day fx e) := by
  intro r
  induction r with
  | zero => intro e h; have := e.rk_pos; omega
  | succ r ih =>
    intro e hr hb hk
    obtain ⟨op, n, nm, l⟩ := e
    obtain ⟨h1, -, h3⟩ := bE_inv hb
    have hkids := kid_kinds hb hk
    have hop := ar_op (by omega : 0 ≤ ar op)
    rw [kE_mk] at hk ⊢
    rw [evalE_mk]
    by_cases h4 : op ≤ 4
    · have hl : l = [] := List.length_eq_zero_iff.1 (by rw [ar_nil hop.1 h4] at h1; omega)
      subst hl
      have hk1 : kOf op (([] : List Ex).map kE) = 1 := by
        obtain ⟨-, he⟩ := kOf_need (by omega : op ≠ 21) hk
        rw [he]; unfold isK
        rw [if_neg (by omega), if_neg (by omega), if_neg (by omega)]
      rw [hk1]
      unfold evO
      by_cases h12 : op = 1 ∨ op = 2
      · rw [if_pos h12]; exact .inr (.inr (.inl ⟨rfl, _, rfl⟩))
      · rw [if_neg h12]
        by_cases h44 : op = 4
        · rw [if_pos h44]; exact .inr (.inr (.inl ⟨rfl, _, rfl⟩))
        · rw [if_neg h44, if_pos (by omega)]
          unfold seenV
          split
          · exact .inr (.inr (.inl ⟨rfl, _, rfl⟩))
          · exact .inl rfl
    · unfold evO
      rw [if_neg (by omega), if_neg (by omega), if_neg (by omega)]
      refine shape_ty (shape_of (by omega) (by rw [List.length_map]; exact h1) (by rw [List.length_map, List.length_map]) hk (fun i k v hi hv => ?_))
      rw [List.getElem?_map] at hi hv
      cases hc : l[i]? with
      | none => rw [hc] at hi; cases hi
      | some c =>
        rw [hc] at hi hv
        injection hi with hi; injection hv with hv
        subst hi; subst hv
        exact ih c (by have := Ex.rk_lt (op := op) (n := n) (nm := nm) hc; omega) (h3 c (List.mem_of_getElem? hc)) (hkids c (List.mem_of_getElem? hc))
end Go.Proofs.Ytmiinmndbkdjbaa

/- Values by the document's own rules; fixings more; what is unknown: plain. -/
namespace Go.Proofs.Ytmiinmndbkdjbaa
set_option linter.unusedVariables false
set_option linter.unusedSimpArgs false
open Go.RowKit
theorem Ty.of1 {v : Vl} (h : Ty 1 v) : v = .unk ∨ v = .brk ∨ ∃ n, v = .num n := by
  rcases h with h | h | ⟨-, h⟩ | ⟨h, -⟩
  · exact .inl h
  · exact .inr (.inl h)
  · exact .inr (.inr h)
  · omega
theorem Ty.of2 {v : Vl} (h : Ty 2 v) : v = .unk ∨ v = .brk ∨ ∃ b, v = .tru b := by
  rcases h with h | h | ⟨h, -⟩ | ⟨-, h⟩
  · exact .inl h
  · exact .inr (.inl h)
  · omega
  · exact .inr (.inr h)
/-- By the document's rules. -/
def opR (op : Int) (vs : List Vl) : Vl :=
  if op = 17 ∨ op = 18 then (if vs.getD 0 .unk = .tru (decide (op = 18)) ∨ vs.getD 0 .unk = .brk then vs.getD 0 .unk else if vs.getD 0 .unk = .unk ∧ vs.getD 1 .unk ≠ .tru (decide (op = 18)) ∧ vs.getD 1 .unk ≠ .brk then vs.getD 0 .unk else vs.getD 1 .unk)
  else if op = 21 then (if vs.getD 0 .unk = .tru true then vs.getD 1 .unk else if vs.getD 0 .unk = .tru false then vs.getD 2 .unk else vs.getD 0 .unk)
  else if vs.any (fun v => decide (v = .brk)) then .brk else if vs.any (fun v => decide (v = .unk)) then .unk
  else if op = 19 then .tru (decide (vs.getD 0 .unk = .tru false)) else if 11 ≤ op ∧ op ≤ 16 then .tru (cmpV op (vs.getD 0 .unk).N (vs.getD 1 .unk).N)
  else numV (valueM op (vs.map Vl.N))
theorem opV_two {op : Int} {a b : Vl} (h : 5 ≤ op ∧ op ≤ 16) : opV op [a, b] = if a = .brk ∨ b = .brk then .brk else if a = .unk ∨ b = .unk then .unk else twoV op a.N b.N := by
  unfold opV
  rw [if_neg (by omega), if_neg (by omega), if_neg (by omega), if_neg (by omega)]
  rfl
theorem opR_two {op : Int} {a b : Vl} (h : 5 ≤ op ∧ op ≤ 16) : opR op [a, b] = if a = .brk ∨ b = .brk then .brk else if a = .unk ∨ b = .unk then .unk else if 11 ≤ op ∧ op ≤ 16 then .tru (cmpV op a.N b.N) else numV (valueM op [a.N, b.N]) := by
  have h19 : ¬ op = 19 := by omega
  unfold opR
  rw [if_neg (by omega), if_neg (by omega)]
  simp [h19]
theorem opV_both {op : Int} {a b : Vl} (h : op = 17 ∨ op = 18) : opV op [a, b] = bothV (decide (op = 18)) a b := by unfold opV; rw [if_pos h]; rfl
theorem opR_both {op : Int} {a b : Vl} (h : op = 17 ∨ op = 18) : opR op [a, b] = if a = .tru (decide (op = 18)) ∨ a = .brk then a else if a = .unk ∧ b ≠ .tru (decide (op = 18)) ∧ b ≠ .brk then a else b := by unfold opR; rw [if_pos h]; rfl
theorem shape_ref {op k : Int} {ks : List Int} {vs : List Vl} (h : Shape op ks vs k) : opR op vs = opV op vs := by
  cases h with
  | two1 h ha hb =>
    rw [opV_two (by omega), opR_two (by omega)]
    have h11 : ¬ (11 ≤ op ∧ op ≤ 16) := by omega
    rcases ha.of1 with rfl | rfl | ⟨n, rfl⟩ <;> rcases hb.of1 with rfl | rfl | ⟨m, rfl⟩ <;> simp [h11, twoV, h, Vl.N]
  | cmp h ha hb =>
    rw [opV_two (by omega), opR_two (by omega)]
    have h5 : ¬ (5 ≤ op ∧ op ≤ 10) := by omega
    rcases ha.of1 with rfl | rfl | ⟨n, rfl⟩ <;> rcases hb.of1 with rfl | rfl | ⟨m, rfl⟩ <;> simp [h, twoV, h5, Vl.N]
  | both h ha hb =>
    rw [opV_both h, opR_both h]
    unfold bothV
    generalize decide (op = 18) = s
    rcases ha.of2 with rfl | rfl | ⟨n, rfl⟩ <;> rcases hb.of2 with rfl | rfl | ⟨m, rfl⟩ <;> simp <;> (repeat' split) <;> simp_all
  | not ha =>
    rcases ha.of2 with rfl | rfl | ⟨n, rfl⟩
    · rfl
    · rfl
    · cases n <;> rfl
  | neg ha =>
    rcases ha.of1 with rfl | rfl | ⟨n, rfl⟩
    · rfl
    · rfl
    · simp [opR, opV, valueM, Vl.N]
  | cond ha hb hc =>
    rename_i a b c
    rcases ha.of2 with rfl | rfl | ⟨n, rfl⟩
    · rfl
    · rfl
    · cases n <;> rfl
/-- Unknown comes of what is unknown. -/
theorem shape_unk {op k : Int} {ks : List Int} {vs : List Vl} (h : Shape op ks vs k) (hu : opV op vs = .unk) : .unk ∈ vs := by
  apply Classical.byContradiction
  intro hn
  revert hu
  have hnum : ∀ o, numV o ≠ .unk := fun o => by cases o <;> simp [numV]
  cases h with
  | two1 h ha hb =>
    rw [opV_two (by omega)]
    rcases ha.of1 with rfl | rfl | ⟨n, rfl⟩ <;> rcases hb.of1 with rfl | rfl | ⟨m, rfl⟩ <;> simp [twoV, h, hnum] at hn ⊢
  | cmp h ha hb =>
    rw [opV_two (by omega)]
    have h5 : ¬ (5 ≤ op ∧ op ≤ 10) := by omega
    rcases ha.of1 with rfl | rfl | ⟨n, rfl⟩ <;> rcases hb.of1 with rfl | rfl | ⟨m, rfl⟩ <;> simp [twoV, h5] at hn ⊢
  | both h ha hb =>
    rw [opV_both h]
    unfold bothV
    generalize decide (op = 18) = s
    rcases ha.of2 with rfl | rfl | ⟨n, rfl⟩ <;> rcases hb.of2 with rfl | rfl | ⟨m, rfl⟩ <;> simp at hn ⊢ <;> (repeat' split) <;> simp_all
  | not ha => rcases ha.of2 with rfl | rfl | ⟨n, rfl⟩ <;> simp [opV] at hn ⊢
  | neg ha => rcases ha.of1 with rfl | rfl | ⟨n, rfl⟩ <;> simp [opV, hnum] at hn ⊢
  | cond ha hb hc =>
    rename_i a b c
    simp at hn
    rcases ha.of2 with rfl | rfl | ⟨n, rfl⟩
    · exact absurd rfl hn.1
    · simp [opV]
    · cases n
      · simpa [opV] using fun e => hn.2.2 e.symm
      · simpa [opV] using fun e => hn.2.1 e.symm
/-- What may come of a value by a fixing more. -/
def Rl (a b : Vl) : Prop := a = .unk ∨ a = .brk ∨ b = .brk ∨ a = b
theorem Rl.refl (a : Vl) : Rl a a := .inr (.inr (.inr rfl))
theorem shape_mono {op k : Int} {ks : List Int} {vs vs' : List Vl} (h : Shape op ks vs k) (h' : Shape op ks vs' k) (hr : ∀ (i : Nat) (a b : Vl), vs[i]? = some a → vs'[i]? = some b → Rl a b) : Rl (opV op vs) (opV op vs') := by
  cases h with
  | two1 h ha hb =>
    cases h' with
    | two1 _ ha' hb' =>
      have r0 := hr 0 _ _ rfl rfl
      have r1 := hr 1 _ _ rfl rfl
      rw [opV_two (by omega), opV_two (by omega)]
      rcases ha.of1 with rfl | rfl | ⟨n, rfl⟩ <;> rcases hb.of1 with rfl | rfl | ⟨m, rfl⟩ <;> rcases ha'.of1 with rfl | rfl | ⟨n', rfl⟩ <;> rcases hb'.of1 with rfl | rfl | ⟨m', rfl⟩ <;> simp [Rl, Vl.N] at r0 r1 ⊢ <;> simp_all
  | cmp h ha hb =>
    cases h' with
    | cmp _ ha' hb' =>
      have r0 := hr 0 _ _ rfl rfl
      have r1 := hr 1 _ _ rfl rfl
      rw [opV_two (by omega), opV_two (by omega)]
      rcases ha.of1 with rfl | rfl | ⟨n, rfl⟩ <;> rcases hb.of1 with rfl | rfl | ⟨m, rfl⟩ <;> rcases ha'.of1 with rfl | rfl | ⟨n', rfl⟩ <;> rcases hb'.of1 with rfl | rfl | ⟨m', rfl⟩ <;> simp [Rl, Vl.N] at r0 r1 ⊢ <;> simp_all
  | both h ha hb =>
    cases h' with
    | both _ ha' hb' =>
      have r0 := hr 0 _ _ rfl rfl
      have r1 := hr 1 _ _ rfl rfl
      rw [opV_both h, opV_both h]
      unfold bothV
      generalize decide (op = 18) = s
      rcases ha.of2 with rfl | rfl | ⟨n, rfl⟩ <;> rcases hb.of2 with rfl | rfl | ⟨m, rfl⟩ <;> rcases ha'.of2 with rfl | rfl | ⟨n', rfl⟩ <;> rcases hb'.of2 with rfl | rfl | ⟨m', rfl⟩ <;> simp [Rl] at r0 r1 ⊢ <;> (repeat' split) <;> simp_all
  | not ha =>
    cases h' with
    | not ha' =>
      have r0 := hr 0 _ _ rfl rfl
      rcases ha.of2 with rfl | rfl | ⟨n, rfl⟩ <;> rcases ha'.of2 with rfl | rfl | ⟨n', rfl⟩ <;> simp [Rl, opV] at r0 ⊢ <;> simp_all
  | neg ha =>
    cases h' with
    | neg ha' =>
      have r0 := hr 0 _ _ rfl rfl
      rcases ha.of1 with rfl | rfl | ⟨n, rfl⟩ <;> rcases ha'.of1 with rfl | rfl | ⟨n', rfl⟩ <;> simp [Rl, opV] at r0 ⊢ <;> simp_all
  | cond ha hb hc =>
    cases h' with
    | cond ha' hb' hc' =>
      have r0 := hr 0 _ _ rfl rfl
      have r1 := hr 1 _ _ rfl rfl
      have r2 := hr 2 _ _ rfl rfl
      rcases ha.of2 with rfl | rfl | ⟨n, rfl⟩
      · exact .inl rfl
      · exact .inr (.inl rfl)
      · rcases ha'.of2 with rfl | rfl | ⟨n', rfl⟩
        · simp [Rl] at r0
        · exact .inr (.inr (.inl rfl))
        · simp [Rl] at r0
          subst r0
          cases n <;> simpa [opV] using (by assumption)
/-- By the document's rules, all of it. -/
noncomputable def evD (day : Int) (fx : List Fx) (op n : Int) (nm : ByteArray) (vs : List Vl) : Vl :=
  if op = 1 ∨ op = 2 then .num n else if op = 4 then .num day else if op = 3 then seenV day fx nm else opR op vs
noncomputable def evalD (day : Int) (fx : List Fx) : Ex → Vl
  | .mk op n nm l => evD day fx op n nm (go l)
  where go : List Ex → List Vl
  | [] => []
  | e :: t => evalD day fx e :: go t
theorem evalD_go (day : Int) (fx : List Fx) (l : List Ex) : evalD.go day fx l = l.map (evalD day fx) := by
  induction l with
  | nil => rfl
  | cons x t ih => simp only [evalD.go, ih, List.map_cons]
theorem evalD_mk (day : Int) (fx : List Fx) (op n : Int) (nm : ByteArray) (l : List Ex) : evalD day fx (.mk op n nm l) = evD day fx op n nm (l.map (evalD day fx)) := by rw [evalD, evalD_go]
/-- The values within an expression that has a kind have its shape. -/
theorem eval_shape (day : Int) (fx : List Fx) {op n : Int} {nm : ByteArray} {l : List Ex} (hb : bE (.mk op n nm l) = true) (hk : kE (.mk op n nm l) ≠ 0) (h4 : 4 < op) :
    Shape op (l.map kE) (l.map (evalE day fx)) (kE (.mk op n nm l)) := by
  obtain ⟨h1, -, h3⟩ := bE_inv hb
  have hkids := kid_kinds hb hk
  rw [kE_mk] at hk ⊢
  refine shape_of h4 (by rw [List.length_map]; exact h1) (by rw [List.length_map, List.length_map]) hk (fun i k v hi hv => ?_)
  rw [List.getElem?_map] at hi hv
  cases hc : l[i]? with
  | none => rw [hc] at hi; cases hi
  | some c =>
    rw [hc] at hi hv
    injection hi with hi; injection hv with hv
    subst hi; subst hv
    exact eval_ty day fx _ c (Nat.le_refl _) (h3 c (List.mem_of_getElem? hc)) (hkids c (List.mem_of_getElem? hc))
theorem evalD_eq (day : Int) (fx : List Fx) : ∀ (r : Nat) (e : Ex), e.rk ≤ r → bE e = true → kE e ≠ 0 → evalD day fx e = evalE day fx e := by
  intro r
  induction r with
  | zero => intro e h; have := e.rk_pos; omega
  | succ r ih =>
    intro e hr hb hk
    obtain ⟨op, n, nm, l⟩ := e
    obtain ⟨h1, -, h3⟩ := bE_inv hb
    have hkids := kid_kinds hb hk
    have hop := ar_op (by omega : 0 ≤ ar op)
    have hmap : l.map (evalD day fx) = l.map (evalE day fx) := List.map_congr_left (fun c hc => by
      obtain ⟨k, hkk⟩ := List.getElem?_of_mem hc
      exact ih c (by have := Ex.rk_lt (op := op) (n := n) (nm := nm) hkk; omega) (h3 c hc) (hkids c hc))
    rw [evalD_mk, evalE_mk, hmap]
    unfold evD evO
    by_cases h4 : op ≤ 4
    · repeat' split
      all_goals first | rfl | omega
    · rw [if_neg (by omega), if_neg (by omega), if_neg (by omega), if_neg (by omega), if_neg (by omega), if_neg (by omega)]
      exact shape_ref (eval_shape day fx hb hk (by omega))
/-- What is unknown has an observable that wasn't seen. -/
theorem eval_unk (day : Int) (fx : List Fx) : ∀ (r : Nat) (e : Ex), e.rk ≤ r → bE e = true → kE e ≠ 0 → evalE day fx e = .unk → ∃ s ∈ obsE e, seenV day fx s = .unk := by
  intro r
  induction r with
  | zero => intro e h; have := e.rk_pos; omega
  | succ r ih =>
    intro e hr hb hk hu
    obtain ⟨op, n, nm, l⟩ := e
    obtain ⟨h1, -, h3⟩ := bE_inv hb
    have hkids := kid_kinds hb hk
    by_cases h4 : op ≤ 4
    · rw [evalE_mk] at hu
      unfold evO at hu
      by_cases h12 : op = 1 ∨ op = 2
      · rw [if_pos h12] at hu; cases hu
      · rw [if_neg h12] at hu
        by_cases h44 : op = 4
        · rw [if_pos h44] at hu; cases hu
        · have h33 : op = 3 := by have := ar_op (by omega : 0 ≤ ar op); omega
          rw [if_neg h44, if_pos h33] at hu
          refine ⟨nm, ?_, hu⟩
          rw [obsE, if_pos h33]; simp
    · have hs := eval_shape day fx hb hk (by omega)
      rw [evalE_mk] at hu
      unfold evO at hu
      rw [if_neg (by omega), if_neg (by omega), if_neg (by omega)] at hu
      obtain ⟨c, hc, hcu⟩ := List.mem_map.1 (shape_unk hs hu)
      obtain ⟨k, hkk⟩ := List.getElem?_of_mem hc
      obtain ⟨s, hs, hsu⟩ := ih c (by have := Ex.rk_lt (op := op) (n := n) (nm := nm) hkk; omega) (h3 c hc) (hkids c hc) hcu
      refine ⟨s, ?_, hsu⟩
      rw [obsE]
      exact List.mem_append.2 (.inr (obs_go.2 ⟨c, hc, hs⟩))
/-- Where each name's value may have come to be another one by a fixing more. -/
theorem eval_mono (day : Int) (fx fx' : List Fx) (hse : ∀ s, Rl (seenV day fx s) (seenV day fx' s)) : ∀ (r : Nat) (e : Ex), e.rk ≤ r → bE e = true → kE e ≠ 0 → Rl (evalE day fx e) (evalE day fx' e) := by
  intro r
  induction r with
  | zero => intro e h; have := e.rk_pos; omega
  | succ r ih =>
    intro e hr hb hk
    obtain ⟨op, n, nm, l⟩ := e
    obtain ⟨h1, -, h3⟩ := bE_inv hb
    have hkids := kid_kinds hb hk
    by_cases h4 : op ≤ 4
    · rw [evalE_mk, evalE_mk]
      unfold evO
      by_cases h12 : op = 1 ∨ op = 2
      · rw [if_pos h12, if_pos h12]; exact Rl.refl _
      · rw [if_neg h12, if_neg h12]
        by_cases h44 : op = 4
        · rw [if_pos h44, if_pos h44]; exact Rl.refl _
        · have h33 : op = 3 := by have := ar_op (by omega : 0 ≤ ar op); omega
          rw [if_neg h44, if_neg h44, if_pos h33, if_pos h33]
          exact hse nm
    · have hs := eval_shape day fx hb hk (by omega)
      have hs' := eval_shape day fx' hb hk (by omega)
      rw [evalE_mk, evalE_mk]
      unfold evO
      rw [if_neg (by omega), if_neg (by omega), if_neg (by omega), if_neg (by omega), if_neg (by omega), if_neg (by omega)]
      refine shape_mono hs hs' (fun i a b ha hb' => ?_)
      rw [List.getElem?_map] at ha hb'
      cases hc : l[i]? with
      | none => rw [hc] at ha; cases ha
      | some c =>
        rw [hc] at ha hb'
        injection ha with ha; injection hb' with hb'
        subst ha; subst hb'
        exact ih c (by have := Ex.rk_lt (op := op) (n := n) (nm := nm) hc; omega) (h3 c (List.mem_of_getElem? hc)) (hkids c (List.mem_of_getElem? hc))
/-- Where all names' values are the same, so is its own. -/
theorem eval_same (day : Int) (fx fx' : List Fx) (hse : ∀ s, seenV day fx s = seenV day fx' s) : ∀ (r : Nat) (e : Ex), e.rk ≤ r → evalE day fx e = evalE day fx' e := by
  intro r
  induction r with
  | zero => intro e h; have := e.rk_pos; omega
  | succ r ih =>
    intro e hr
    obtain ⟨op, n, nm, l⟩ := e
    have hmap : l.map (evalE day fx) = l.map (evalE day fx') := List.map_congr_left (fun c hc => by
      obtain ⟨k, hkk⟩ := List.getElem?_of_mem hc
      exact ih c (by have := Ex.rk_lt (op := op) (n := n) (nm := nm) hkk; omega))
    rw [evalE_mk, evalE_mk, hmap]
    unfold evO
    rw [hse nm]
theorem seenF_snoc (day : Int) (nm : ByteArray) (m : Fx) : ∀ (fx : List Fx) (b : Option (Int × Int)),
    seenF day nm (fx ++ [m]) b = if eqv m.name nm = true ∧ m.day ≤ day ∧ (∀ p, seenF day nm fx b = some p → p.1 < m.day) then some (m.day, m.val) else seenF day nm fx b
  | [], b => by simp only [List.nil_append, seenF]; congr
  | f :: t, b => by rw [List.cons_append, seenF, seenF, seenF_snoc day nm m t]
theorem seen_later (day : Int) (fx : List Fx) (m : Fx) (h : day < m.day) (s : ByteArray) : seenV day fx s = seenV day (fx ++ [m]) s := by
  unfold seenV
  rw [seenF_snoc, if_neg (by intro hh; omega)]
theorem seen_more (day : Int) (fx : List Fx) (m : Fx) (h : seenV day fx m.name = .unk) (s : ByteArray) : Rl (seenV day fx s) (seenV day (fx ++ [m]) s) := by
  by_cases hs : m.name = s
  · subst hs; exact .inl h
  · have : seenV day (fx ++ [m]) s = seenV day fx s := by
      unfold seenV
      rw [seenF_snoc, if_neg (by intro hh; exact hs (eqv_iff.1 hh.1))]
    rw [this]; exact Rl.refl _
end Go.Proofs.Ytmiinmndbkdjbaa

/- Fixings in memory, and the one that counts: plain. -/
namespace Go.Proofs.Ytmiinmndbkdjbaa
set_option linter.unusedVariables false
set_option linter.unusedSimpArgs false
open Go.RowKit
def fxC (f : Fx) : List Value := [.string f.name, .int .i64 f.day, .int .i64 f.val]
def fxK : Elt Fx where
  sz := 3
  pos := by decide
  R := fun _ _ f cs => cs = fxC f ∧ f.name.size ≤ 9223372036854775807 ∧ I64 f.day ∧ I64 f.val
  kept := fun h _ => h
  less := fun h _ => h
  one := fun h => by obtain ⟨rfl, _⟩ := h; exact ⟨rfl, by simp [fxC, Value.oneCell']⟩
/-- The k-th fixing's cells. -/
theorem fx_at {w : World} {X : List Nat} {fx : List Fx} {a : Option Addr} {len cap : Nat} (h : SlR fxK w X fx a len cap) (k : Nat) (hk : k < len) :
    ∃ b o f, a = some ⟨b, o, none⟩ ∧ b < w.heap.size ∧ b ∉ X ∧ fx[k]? = some f ∧ f.name.size ≤ 9223372036854775807 ∧ I64 f.day ∧ I64 f.val ∧ w.cell? ⟨b, o + k * 3, none⟩ = some (.string f.name) ∧ w.cell? ⟨b, o + k * 3 + 1, none⟩ = some (.int .i64 f.day) ∧ w.cell? ⟨b, o + k * 3 + 2, none⟩ = some (.int .i64 f.val) := by
  obtain ⟨b, o, f, cs, ha, hb, hX, hf, ⟨rfl, h1, h2, h3⟩, -, hc⟩ := h.at k hk
  exact ⟨b, o, f, ha, hb, hX, hf, h1, h2, h3, hc 0 _ rfl, hc 1 _ rfl, hc 2 _ rfl⟩
/-- What is answered of a name. -/
def seenRt : Vl → Ending
  | .num n => .returned (.tuple #[.int .i64 n, .bool true])
  | _ => .returned (.tuple #[.int .i64 0, .bool false])
def stF (fx : List Fx) (s : Int) : Option (Int × Int) := if s < 0 then none else (fx[s.toNat]?).map fun f => (f.day, f.val)
/-- Where the search stands: k are seen, s is the best of them. -/
structure Best (day : Int) (nm : ByteArray) (fx : List Fx) (k : Nat) (s : Int) : Prop where
  lo : -1 ≤ s
  hi : s < (k : Nat)
  eq : seenF day nm fx none = seenF day nm (fx.drop k) (stF fx s)
theorem Best.start (day : Int) (nm : ByteArray) (fx : List Fx) : Best day nm fx 0 (-1) := ⟨by omega, by omega, by simp [stF]⟩
theorem seenF_step {day : Int} {nm : ByteArray} {fx : List Fx} {k : Nat} {f : Fx} (hf : fx[k]? = some f) (b : Option (Int × Int)) :
    seenF day nm (fx.drop k) b = seenF day nm (fx.drop (k + 1)) (if eqv f.name nm = true ∧ f.day ≤ day ∧ (∀ p, b = some p → p.1 < f.day) then some (f.day, f.val) else b) := by
  obtain ⟨hk, he⟩ := List.getElem?_eq_some_iff.1 hf
  rw [List.drop_eq_getElem_cons hk, he, seenF]
theorem Best.skip {day : Int} {nm : ByteArray} {fx : List Fx} {k : Nat} {s : Int} {f : Fx} (h : Best day nm fx k s) (hf : fx[k]? = some f) (hn : ¬ (f.name = nm ∧ f.day ≤ day ∧ (∀ p, stF fx s = some p → p.1 < f.day))) : Best day nm fx (k + 1) s :=
  ⟨h.lo, by have := h.hi; omega, by rw [h.eq, seenF_step hf, if_neg (by rw [eqv_iff]; exact hn)]⟩
theorem Best.take {day : Int} {nm : ByteArray} {fx : List Fx} {k : Nat} {s : Int} {f : Fx} (h : Best day nm fx k s) (hf : fx[k]? = some f) (hn : f.name = nm ∧ f.day ≤ day ∧ (∀ p, stF fx s = some p → p.1 < f.day)) : Best day nm fx (k + 1) (k : Nat) :=
  ⟨by omega, by omega, by
    rw [h.eq, seenF_step hf, if_pos (by rw [eqv_iff]; exact hn)]
    unfold stF
    rw [if_neg (by omega), Int.toNat_natCast, hf]; rfl⟩
theorem Best.none {day : Int} {nm : ByteArray} {fx : List Fx} {s : Int} (h : Best day nm fx fx.length s) (hs : s < 0) : seenV day fx nm = .unk := by
  have := h.eq
  rw [List.drop_length, seenF, stF, if_pos hs] at this
  unfold seenV; rw [this]
theorem Best.some {day : Int} {nm : ByteArray} {fx : List Fx} {s : Nat} {f : Fx} (h : Best day nm fx fx.length (s : Nat)) (hf : fx[s]? = some f) : seenV day fx nm = .num f.val := by
  have := h.eq
  rw [List.drop_length, seenF, stF, if_neg (by omega), Int.toNat_natCast, hf] at this
  unfold seenV; rw [this]; rfl
theorem stF_neg {fx : List Fx} {s : Int} (h : s < 0) : ∀ (f : Fx) p, stF fx s = Option.some p → p.1 < f.day := by
  intro f p hp; rw [stF, if_pos h] at hp; cases hp
theorem stF_nat {fx : List Fx} {j : Nat} {g : Fx} (h : fx[j]? = Option.some g) : stF fx (j : Nat) = Option.some (g.day, g.val) := by
  rw [stF, if_neg (by omega), Int.toNat_natCast, h]; rfl
/-- By the document's words: found, its day, its value. -/
structure BestR (day : Int) (nm : ByteArray) (fx : List Fx) (k : Nat) (b : Bool) (d n : Int) : Prop where
  eq : seenF day nm fx .none = seenF day nm (fx.drop k) (if b then .some (d, n) else .none)
  no : b = false → d = 0 ∧ n = 0
theorem BestR.start (day : Int) (nm : ByteArray) (fx : List Fx) : BestR day nm fx 0 false 0 0 := ⟨by simp, fun _ => ⟨rfl, rfl⟩⟩
theorem BestR.skip {day : Int} {nm : ByteArray} {fx : List Fx} {k : Nat} {b : Bool} {d n : Int} {f : Fx} (h : BestR day nm fx k b d n) (hf : fx[k]? = .some f) (hn : ¬ (f.name = nm ∧ f.day ≤ day ∧ (b = true → d < f.day))) : BestR day nm fx (k + 1) b d n :=
  ⟨by
    rw [h.eq, seenF_step hf, if_neg]
    rw [eqv_iff]
    rintro ⟨h1, h2, h3⟩
    exact hn ⟨h1, h2, fun hb => h3 (d, n) (by rw [if_pos hb])⟩, h.no⟩
theorem BestR.take {day : Int} {nm : ByteArray} {fx : List Fx} {k : Nat} {b : Bool} {d n : Int} {f : Fx} (h : BestR day nm fx k b d n) (hf : fx[k]? = .some f) (hn : f.name = nm ∧ f.day ≤ day ∧ (b = true → d < f.day)) : BestR day nm fx (k + 1) true f.day f.val :=
  ⟨by
    rw [h.eq, seenF_step hf, if_pos, if_pos rfl]
    rw [eqv_iff]
    refine ⟨hn.1, hn.2.1, fun p hp => ?_⟩
    cases b with
    | false => rw [if_neg (by simp)] at hp; cases hp
    | true => rw [if_pos rfl] at hp; injection hp with hp; subst hp; exact hn.2.2 rfl, fun h => by cases h⟩
theorem BestR.done {day : Int} {nm : ByteArray} {fx : List Fx} {b : Bool} {d n : Int} (h : BestR day nm fx fx.length b d n) : seenRt (seenV day fx nm) = .returned (.tuple #[.int .i64 n, .bool b]) := by
  have e := h.eq
  rw [List.drop_length, seenF] at e
  unfold seenV; rw [e]
  cases b with
  | false => rw [(h.no rfl).2]; rfl
  | true => rfl
end Go.Proofs.Ytmiinmndbkdjbaa

/- Four cells of a block; what is stored where an answer lies. -/
namespace Go.Proofs.Ytmiinmndbkdjbaa
set_option linter.unusedVariables false
set_option linter.unusedSimpArgs false
open Go.RowKit
theorem blk4 {w : World} {g : Nat} {t : TypeId} {a b c d : Value} (h : Mem.Blk w g t #[a, b, c, d]) : w.cell? ⟨g, 0, none⟩ = some a ∧ w.cell? ⟨g, 1, none⟩ = some b ∧ w.cell? ⟨g, 2, none⟩ = some c ∧ w.cell? ⟨g, 3, none⟩ = some d ∧
    w.frozen? ⟨g, 0, none⟩ = false ∧ w.frozen? ⟨g, 1, none⟩ = false ∧ w.frozen? ⟨g, 2, none⟩ = false ∧ w.frozen? ⟨g, 3, none⟩ = false :=
  ⟨h.cell 0, h.cell 1, h.cell 2, h.cell 3, h.frozen 0, h.frozen 1, h.frozen 2, h.frozen 3⟩
/-- What is stored where the answer lies. -/
theorem simp_fin {w wr : World} {X : List Nat} {t : Te} {ty : TypeId} {b0 b1 b2 b3 c0 c1 c2 c3 : Value} (hb : Below w.heap.size w wr) (hB : Mem.Blk wr (w.heap.size + 1) ty #[b0, b1, b2, b3]) (hR : RepT wr ((w.heap.size + 1) :: X) t [c0, c1, c2, c3]) :
    RepT ((((wr.setCell ⟨w.heap.size + 1, 0, none⟩ c0).setCell ⟨w.heap.size + 1, 1, none⟩ c1).setCell ⟨w.heap.size + 1, 2, none⟩ c2).setCell ⟨w.heap.size + 1, 3, none⟩ c3) X t [c0, c1, c2, c3] ∧
    Below w.heap.size w ((((wr.setCell ⟨w.heap.size + 1, 0, none⟩ c0).setCell ⟨w.heap.size + 1, 1, none⟩ c1).setCell ⟨w.heap.size + 1, 2, none⟩ c2).setCell ⟨w.heap.size + 1, 3, none⟩ c3) ∧
    Mem.Blk ((((wr.setCell ⟨w.heap.size + 1, 0, none⟩ c0).setCell ⟨w.heap.size + 1, 1, none⟩ c1).setCell ⟨w.heap.size + 1, 2, none⟩ c2).setCell ⟨w.heap.size + 1, 3, none⟩ c3) (w.heap.size + 1) ty #[c0, c1, c2, c3] := by
  have h1 : w.heap.size ≤ w.heap.size + 1 := by omega
  have k4 : Kept ((w.heap.size + 1) :: X) wr ((((wr.setCell ⟨w.heap.size + 1, 0, none⟩ c0).setCell ⟨w.heap.size + 1, 1, none⟩ c1).setCell ⟨w.heap.size + 1, 2, none⟩ c2).setCell ⟨w.heap.size + 1, 3, none⟩ c3) :=
    (((Kept.setCell wr (by simp) _).trans (Kept.setCell _ (by simp) _)).trans (Kept.setCell _ (by simp) _)).trans (Kept.setCell _ (by simp) _)
  exact ⟨(hR.kept k4).less (fun b _ hm => List.mem_cons_of_mem _ hm), (((hb.setCell h1 _).setCell h1 _).setCell h1 _).setCell h1 _, (((hB.set_ 0 _).set_ 1 _).set_ 2 _).set_ 3 _⟩
end Go.Proofs.Ytmiinmndbkdjbaa

/- The contracts of num: sums, differences, opposites, products, quotients that never go beyond 64 bits. -/
namespace Go.Proofs.Ytmiinmndbkdjbaa
set_option linter.unusedVariables false
set_option linter.unusedSimpArgs false
open Go.RowKit
/-- A number that fits, or nought and false. -/
def fitN (o : Option Int) : Int := o.getD 0
def fitB (o : Option Int) : Bool := o.isSome
def fitR (o : Option Int) : Ending := .returned (.tuple #[.int .i64 (fitN o), .bool (fitB o)])
theorem fitI_yes {z : Int} (h1 : -9223372036854775808 ≤ z) (h2 : z ≤ 9223372036854775807) : fitI z = some z := by unfold fitI; rw [if_pos ⟨h1, h2⟩]
theorem fitI_no {z : Int} (h : ¬ (-9223372036854775808 ≤ z ∧ z ≤ 9223372036854775807)) : fitI z = none := by unfold fitI; rw [if_neg h]
theorem fitR_yes {z v : Int} (h : z = v) (h1 : -9223372036854775808 ≤ z) (h2 : z ≤ 9223372036854775807) : fitR (fitI z) = .returned (.tuple #[.int .i64 v, .bool true]) := by
  subst h; rw [fitI_yes h1 h2]; rfl
theorem fitR_no {z : Int} (h : ¬ (-9223372036854775808 ≤ z ∧ z ≤ 9223372036854775807)) : fitR (fitI z) = .returned (.tuple #[.int .i64 0, .bool false]) := by
  rw [fitI_no h]; rfl
theorem tup_eq {x s : Int} {b : Bool} (h : x = s) : Ending.returned (.tuple #[.int .i64 x, .bool b]) = Ending.returned (.tuple #[.int .i64 s, .bool b]) := by rw [h]
set_option maxRecDepth 100000 in
theorem numAdd_any (a b : Int) (w : World) (ha : I64 a) (hb : I64 b) : Calls Try.prog 83 #[.int .i64 a, .int .i64 b] w fun e w' => e = fitR (fitI (a + b)) ∧ w = w' := by
  unfold I64 at ha hb
  obtain ⟨s, hs⟩ : ∃ s, wrap64 (a + b) = s := ⟨_, rfl⟩
  have h2 : s = a + b ∨ s = a + b - 18446744073709551616 ∨ s = a + b + 18446744073709551616 := by unfold wrap64 at hs; omega
  have h3 : -9223372036854775808 ≤ s ∧ s ≤ 9223372036854775807 := by unfold wrap64 at hs; omega
  have HS := Lib.hid hs
  have HT : Hid (∀ x, a + b = x → -9223372036854775808 ≤ x → x ≤ 9223372036854775807 → x = s) := by
    intro x hx h4 h5; unfold wrap64 at hs; omega
  by_cases h : -9223372036854775808 ≤ a + b ∧ a + b ≤ 9223372036854775807
  · obtain ⟨h4, h5⟩ := h
    rw [fitR_yes rfl h4 h5]
    clear hs h2 h3 HS HT
    by_cases ca : a < 0 <;> by_cases cb : b < 0 <;> by_cases cs : a + b < 0 <;> first
      | (exfalso; omega)
      | (skip
         go_enter Try.func83, Try.ntmps83
         go_wp2_with fail
         go_ret2
         exact ⟨rfl, rfl⟩)
  · rw [fitR_no h]
    by_cases ca : a < 0 <;> by_cases cb : b < 0 <;> by_cases cs : s < 0 <;> first
      | (exfalso; omega)
      | (clear h
         go_enter Try.func83, Try.ntmps83
         go_wp2_with fail
         go_ret2
         exact ⟨rfl, rfl⟩)
set_option maxRecDepth 100000 in
theorem numSub_any (a b : Int) (w : World) (ha : I64 a) (hb : I64 b) : Calls Try.prog 84 #[.int .i64 a, .int .i64 b] w fun e w' => e = fitR (fitI (a - b)) ∧ w = w' := by
  unfold I64 at ha hb
  obtain ⟨s, hs⟩ : ∃ s, wrap64 (a - b) = s := ⟨_, rfl⟩
  have h2 : s = a - b ∨ s = a - b - 18446744073709551616 ∨ s = a - b + 18446744073709551616 := by unfold wrap64 at hs; omega
  have h3 : -9223372036854775808 ≤ s ∧ s ≤ 9223372036854775807 := by unfold wrap64 at hs; omega
  have HS := Lib.hid hs
  have HT : Hid (∀ x, a - b = x → -9223372036854775808 ≤ x → x ≤ 9223372036854775807 → x = s) := by
    intro x hx h4 h5; unfold wrap64 at hs; omega
  by_cases h : -9223372036854775808 ≤ a - b ∧ a - b ≤ 9223372036854775807
  · obtain ⟨h4, h5⟩ := h
    rw [fitR_yes rfl h4 h5]
    clear hs h2 h3 HS HT
    by_cases ca : a < 0 <;> by_cases cb : b < 0 <;> by_cases cs : a - b < 0 <;> first
      | (exfalso; omega)
      | (skip
         go_enter Try.func84, Try.ntmps84
         go_wp2_with fail
         go_ret2
         exact ⟨rfl, rfl⟩)
  · rw [fitR_no h]
    by_cases ca : a < 0 <;> by_cases cb : b < 0 <;> by_cases cs : s < 0 <;> first
      | (exfalso; omega)
      | (clear h
         go_enter Try.func84, Try.ntmps84
         go_wp2_with fail
         go_ret2
         exact ⟨rfl, rfl⟩)
theorem numNeg_any (a : Int) (w : World) (ha : I64 a) : Calls Try.prog 40 #[.int .i64 a] w fun e w' => e = fitR (fitI (-a)) ∧ w = w' := by
  unfold I64 at ha
  by_cases h : a = -9223372036854775808
  · subst h
    rw [fitR_no (by omega)]
    clear ha
    go_enter Try.func40, Try.ntmps40
    go_wp2_with fail
    go_ret2
    exact ⟨rfl, rfl⟩
  · have h' : (a == -9223372036854775808) = false := beq_eq_false_iff_ne.2 h
    have h1 : -9223372036854775808 ≤ -a := by omega
    have h2 : -a ≤ 9223372036854775807 := by omega
    rw [fitR_yes rfl h1 h2]
    go_enter Try.func40, Try.ntmps40
    go_wp2_with fail
    go_ret2
    exact ⟨rfl, rfl⟩
theorem size_u (a : Int) (ha : I64 a) (h : a < 0) : IntKind.u64.wrap (-(IntKind.u64.wrap a)) = (a.natAbs : Int) := by
  unfold I64 at ha
  rw [IntKind.wrap_u64, IntKind.wrap_u64]; omega
theorem numSize_any (a : Int) (w : World) (ha : I64 a) : Calls Try.prog 76 #[.int .i64 a] w fun e w' => e = .returned (.int .u64 (a.natAbs : Int)) ∧ w = w' := by
  have HS := Lib.hid (size_u a ha)
  have hx : Hid (¬ a < 0 → a = (a.natAbs : Int)) := fun h => by omega
  unfold I64 at ha
  by_cases h : a < 0
  · go_enter Try.func76, Try.ntmps76
    go_wp2_with fail
    go_ret
    exact ⟨congrArg (fun z => Ending.returned (.int .u64 z)) (HS.out h), rfl⟩
  · go_enter Try.func76, Try.ntmps76
    go_wp2_with fail
    go_ret
    exact ⟨congrArg (fun z => Ending.returned (.int .u64 z)) (hx.out h), rfl⟩
theorem mul64_any (x y : Nat) (hx : x < 18446744073709551616) (hy : y < 18446744073709551616) (w : World) :
    Calls Try.prog 75 #[.int .u64 x, .int .u64 y] w fun e w' => e = .returned (.tuple #[.int .u64 ((x * y / 18446744073709551616 : Nat) : Int), .int .u64 ((x * y % 18446744073709551616 : Nat) : Int)]) ∧ w = w' := by
  obtain ⟨bd, bt, bw, hhi⟩ := Lib.mul64_hi x y hx hy
  have p1 := Lib.half_mul_le (a := x / 4294967296) (b := y / 4294967296) (by omega) (by omega)
  have p2 := Lib.half_mul_le (a := x / 4294967296) (b := y % 4294967296) (by omega) (by omega)
  have p3 := Lib.half_mul_le (a := x % 4294967296) (b := y / 4294967296) (by omega) (by omega)
  have q1 : x / 4294967296 * (y / 4294967296) < 18446744073709551616 := by omega
  have q2 : x / 4294967296 * (y % 4294967296) < 18446744073709551616 := by omega
  have q3 : x % 4294967296 * (y / 4294967296) < 18446744073709551616 := by omega
  have r1 : x / 4294967296 * (y / 4294967296) + (x / 4294967296 * (y % 4294967296) + x % 4294967296 * (y % 4294967296) / 4294967296) / 4294967296 < 18446744073709551616 := by omega
  have r2 : x / 4294967296 * (y / 4294967296) + (x / 4294967296 * (y % 4294967296) + x % 4294967296 * (y % 4294967296) / 4294967296) / 4294967296 + ((x / 4294967296 * (y % 4294967296) + x % 4294967296 * (y % 4294967296) / 4294967296) % 4294967296 + x % 4294967296 * (y / 4294967296)) / 4294967296 < 18446744073709551616 := by omega
  go_enter Try.func75, Try.ntmps75
  go_wp2
  simp only [Mul64.maskN x hx, Mul64.maskN y hy, Mul64.divN, Mul64.mulN, Mul64.addN, Mul64.wrapN _ bd, Mul64.wrapN _ q2, Mul64.wrapN _ bt, Mul64.maskN _ bt, Mul64.wrapN _ q3, Mul64.wrapN _ bw, Mul64.wrapN _ q1, Mul64.wrapN _ r1, Mul64.wrapN _ r2, Mul64.wrapM (x * y)]
  rw [hhi]
  go_ret2
  exact ⟨rfl, rfl⟩
theorem fdiv_pos {m n : Nat} (hn : 0 < n) : ((m : Int)).fdiv (n : Int) = ((m / n : Nat) : Int) := by
  rw [Int.fdiv_eq_ediv_of_nonneg _ (by omega)]; rfl
theorem fdiv_neg {m n : Nat} (hn : 0 < n) : (-(m : Int)).fdiv (n : Int) = if 0 < m % n then -((m / n : Nat) : Int) - 1 else -((m / n : Nat) : Int) := by
  rw [Int.fdiv_eq_ediv_of_nonneg _ (by omega)]
  have h1 := Nat.div_add_mod m n
  have h2 := Nat.mod_lt m hn
  have h3 : (n : Int) * ((m / n : Nat) : Int) + ((m % n : Nat) : Int) = (m : Int) := by exact_mod_cast h1
  split
  · rename_i hr
    refine ((Int.ediv_emod_unique (r := (n : Int) - ((m % n : Nat) : Int)) (by omega)).2 ⟨?_, by omega, by omega⟩).1
    have : (n : Int) * (-((m / n : Nat) : Int) - 1) = -((n : Int) * ((m / n : Nat) : Int)) - n := by rw [Int.mul_sub, Int.mul_neg, Int.mul_one]
    omega
  · refine ((Int.ediv_emod_unique (r := 0) (by omega)).2 ⟨?_, by omega, by omega⟩).1
    have : (n : Int) * (-((m / n : Nat) : Int)) = -((n : Int) * ((m / n : Nat) : Int)) := by rw [Int.mul_neg]
    omega
theorem fdiv_abs (a c : Int) (hc : c ≠ 0) : a.fdiv c = if (decide (a < 0)) = (decide (c < 0)) then ((a.natAbs / c.natAbs : Nat) : Int) else if 0 < a.natAbs % c.natAbs then -((a.natAbs / c.natAbs : Nat) : Int) - 1 else -((a.natAbs / c.natAbs : Nat) : Int) := by
  have hn : 0 < c.natAbs := by omega
  by_cases ha : a < 0 <;> by_cases hcc : c < 0
  · have e1 : a = -(a.natAbs : Int) := by omega
    have e2 : c = -(c.natAbs : Int) := by omega
    rw [decide_eq_true ha, decide_eq_true hcc, if_pos rfl]
    conv => lhs; rw [e1, e2, Int.neg_fdiv_neg]
    exact fdiv_pos hn
  · have e1 : a = -(a.natAbs : Int) := by omega
    have e2 : c = (c.natAbs : Int) := by omega
    rw [decide_eq_true ha, decide_eq_false hcc, if_neg (by decide)]
    conv => lhs; rw [e1, e2]
    exact fdiv_neg hn
  · have e1 : a = (a.natAbs : Int) := by omega
    have e2 : c = -(c.natAbs : Int) := by omega
    rw [decide_eq_false ha, decide_eq_true hcc, if_neg (by decide)]
    conv => lhs; rw [e1, e2, ← Int.neg_fdiv_neg, Int.neg_neg]
    exact fdiv_neg hn
  · have e1 : a = (a.natAbs : Int) := by omega
    have e2 : c = (c.natAbs : Int) := by omega
    rw [decide_eq_false ha, decide_eq_false hcc, if_pos rfl]
    conv => lhs; rw [e1, e2]
    exact fdiv_pos hn
end Go.Proofs.Ytmiinmndbkdjbaa

/- The contracts of num: products and quotients. -/
namespace Go.Proofs.Ytmiinmndbkdjbaa
set_option linter.unusedVariables false
set_option linter.unusedSimpArgs false
open Go.RowKit
/-- The sign of a product. -/
def sgB (a b : Int) : Bool := decide (a < 0) != decide (b < 0)
def wideV (n : Nat) (s : Bool) : Array Value := #[.int .u64 ((n / 18446744073709551616 : Nat) : Int), .int .u64 ((n % 18446744073709551616 : Nat) : Int), .bool s]
def sgI (s : Bool) (n : Nat) : Int := if s then -(n : Int) else n
theorem sgI_mul (a b : Int) : sgI (sgB a b) (a.natAbs * b.natAbs) = a * b := by
  rw [← Int.natAbs_mul]
  unfold sgI sgB
  by_cases ha : a < 0 <;> by_cases hb : b < 0
  · have := Int.mul_pos_of_neg_of_neg ha hb
    simp [ha, hb]; omega
  · have := Int.mul_nonpos_of_nonpos_of_nonneg (Int.le_of_lt ha) (Int.not_lt.1 hb)
    simp [ha, hb]; omega
  · have := Int.mul_nonpos_of_nonneg_of_nonpos (Int.not_lt.1 ha) (Int.le_of_lt hb)
    simp [ha, hb]; omega
  · have := Int.mul_nonneg (Int.not_lt.1 ha) (Int.not_lt.1 hb)
    simp [ha, hb]; omega
theorem product_any (a b : Int) (w : World) (ha : I64 a) (hb : I64 b) : Calls Try.prog 61 #[.int .i64 a, .int .i64 b] w fun e w' => e = .returned (.agg (wideV (a.natAbs * b.natAbs) (sgB a b))) ∧ Below w.heap.size w w' := by
  have hA : a.natAbs < 18446744073709551616 := by unfold I64 at ha; omega
  have hB : b.natAbs < 18446744073709551616 := by unfold I64 at hb; omega
  have HM := Lib.hid (fun W => mul64_any a.natAbs b.natAbs hA hB W)
  have HA := Lib.hid (fun W => numSize_any a W ha)
  have HB := Lib.hid (fun W => numSize_any b W hb)
  have HE : Hid (∀ s, (decide (a < 0) != decide (b < 0)) = s → sgB a b = s) := fun s h => h
  unfold wideV
  generalize a.natAbs * b.natAbs / 18446744073709551616 = hi at *
  generalize a.natAbs * b.natAbs % 18446744073709551616 = lo at *
  clear ha hb hA hB
  by_cases ca : a < 0 <;> by_cases cb : b < 0
  · have e := HE.out false (by rw [decide_eq_true ca, decide_eq_true cb]; rfl)
    rw [e]
    clear e HE
    go_enter Try.func61, Try.ntmps61
    go_wp2_with fail
    go_at_call 76
    (with_reducible refine (HA.out _).mono ?_)
    rintro y w1 ⟨rfl, rfl⟩
    go_wp2_with fail
    go_at_call 76
    (with_reducible refine (HB.out _).mono ?_)
    rintro y w1 ⟨rfl, rfl⟩
    go_wp2_with fail
    go_at_call 75
    (with_reducible refine (HM.out _).mono ?_)
    rintro y w1 ⟨rfl, rfl⟩
    go_wp2_with fail
    refine bodyPost_ret (v := .agg #[.int .u64 (hi : Int), .int .u64 (lo : Int), .bool false]) (by simp [results, Try.results61, go_sem] <;> omega) rfl ⟨rfl, ?_⟩
    exact (Below.refl _ _).alloc (Nat.le_refl _) _
  · have e := HE.out true (by rw [decide_eq_true ca, decide_eq_false cb]; rfl)
    rw [e]
    clear e HE
    go_enter Try.func61, Try.ntmps61
    go_wp2_with fail
    go_at_call 76
    (with_reducible refine (HA.out _).mono ?_)
    rintro y w1 ⟨rfl, rfl⟩
    go_wp2_with fail
    go_at_call 76
    (with_reducible refine (HB.out _).mono ?_)
    rintro y w1 ⟨rfl, rfl⟩
    go_wp2_with fail
    go_at_call 75
    (with_reducible refine (HM.out _).mono ?_)
    rintro y w1 ⟨rfl, rfl⟩
    go_wp2_with fail
    refine bodyPost_ret (v := .agg #[.int .u64 (hi : Int), .int .u64 (lo : Int), .bool true]) (by simp [results, Try.results61, go_sem] <;> omega) rfl ⟨rfl, ?_⟩
    exact (Below.refl _ _).alloc (Nat.le_refl _) _
  · have e := HE.out true (by rw [decide_eq_false ca, decide_eq_true cb]; rfl)
    rw [e]
    clear e HE
    go_enter Try.func61, Try.ntmps61
    go_wp2_with fail
    go_at_call 76
    (with_reducible refine (HA.out _).mono ?_)
    rintro y w1 ⟨rfl, rfl⟩
    go_wp2_with fail
    go_at_call 76
    (with_reducible refine (HB.out _).mono ?_)
    rintro y w1 ⟨rfl, rfl⟩
    go_wp2_with fail
    go_at_call 75
    (with_reducible refine (HM.out _).mono ?_)
    rintro y w1 ⟨rfl, rfl⟩
    go_wp2_with fail
    refine bodyPost_ret (v := .agg #[.int .u64 (hi : Int), .int .u64 (lo : Int), .bool true]) (by simp [results, Try.results61, go_sem] <;> omega) rfl ⟨rfl, ?_⟩
    exact (Below.refl _ _).alloc (Nat.le_refl _) _
  · have e := HE.out false (by rw [decide_eq_false ca, decide_eq_false cb]; rfl)
    rw [e]
    clear e HE
    go_enter Try.func61, Try.ntmps61
    go_wp2_with fail
    go_at_call 76
    (with_reducible refine (HA.out _).mono ?_)
    rintro y w1 ⟨rfl, rfl⟩
    go_wp2_with fail
    go_at_call 76
    (with_reducible refine (HB.out _).mono ?_)
    rintro y w1 ⟨rfl, rfl⟩
    go_wp2_with fail
    go_at_call 75
    (with_reducible refine (HM.out _).mono ?_)
    rintro y w1 ⟨rfl, rfl⟩
    go_wp2_with fail
    refine bodyPost_ret (v := .agg #[.int .u64 (hi : Int), .int .u64 (lo : Int), .bool false]) (by simp [results, Try.results61, go_sem] <;> omega) rfl ⟨rfl, ?_⟩
    exact (Below.refl _ _).alloc (Nat.le_refl _) _
theorem tup_b {x : Value} {b c : Bool} (h : b = c) : Ending.returned (.tuple #[x, .bool b]) = Ending.returned (.tuple #[x, .bool c]) := by rw [h]
/-- A wide number that fits. -/
theorem narrow_yes (n : Nat) (s : Bool) (w : World) (hn : n < 340282366920938463463374607431768211456) (h1 : -9223372036854775808 ≤ sgI s n) (h2 : sgI s n ≤ 9223372036854775807) :
    Calls Try.prog 62 #[.agg (wideV n s)] w fun e w' => e = .returned (.tuple #[.int .i64 (sgI s n), .bool true]) ∧ Below w.heap.size w w' := by
  have hhi : n / 18446744073709551616 = 0 := by unfold sgI at h1 h2; cases s <;> simp at h1 h2 <;> omega
  have hlo : n % 18446744073709551616 = n := by omega
  unfold wideV
  rw [hhi, hlo]
  cases s
  · have e : sgI false n = (n : Int) := rfl
    rw [e] at h1 h2 ⊢
    have n1 : (n : Int) < 9223372036854775808 := by omega
    have n2 : 0 ≤ (n : Int) := by omega
    clear hhi hlo e hn
    go_enter Try.func62, Try.ntmps62
    go_wp2_with fail
    go_region
    go_wp2_with fail
    go_ret2
    exact ⟨rfl, below_drewN ((Below.refl _ _).alloc (Nat.le_refl _) _) _⟩
  · have e : sgI true n = -(n : Int) := rfl
    rw [e] at h1 h2 ⊢
    have n1 : (n : Int) ≤ 9223372036854775808 := by omega
    have n2 : 0 ≤ (n : Int) := by omega
    clear hhi hlo e hn
    go_enter Try.func62, Try.ntmps62
    go_wp2_with fail
    go_region
    go_wp2_with fail
    go_ret2
    exact ⟨tup_eq (x := wrap64 (-wrap64 (n : Int))) (by unfold wrap64; omega), below_drewN ((Below.refl _ _).alloc (Nat.le_refl _) _) _⟩
/-- A wide number that doesn't. -/
theorem narrow_no (n : Nat) (s : Bool) (w : World) (hn : n < 340282366920938463463374607431768211456) (h : ¬ (-9223372036854775808 ≤ sgI s n ∧ sgI s n ≤ 9223372036854775807)) :
    Calls Try.prog 62 #[.agg (wideV n s)] w fun e w' => (∃ v, e = .returned (.tuple #[.int .i64 v, .bool false])) ∧ Below w.heap.size w w' := by
  unfold wideV
  by_cases hh : n / 18446744073709551616 = 0
  · have hlo : n % 18446744073709551616 = n := by omega
    rw [hh, hlo]
    cases s
    · have n1 : ¬ (n : Int) < 9223372036854775808 := by unfold sgI at h; simp at h; omega
      have n2 : (n : Int) < 18446744073709551616 := by omega
      clear hh hlo hn h
      go_enter Try.func62, Try.ntmps62
      go_wp2_with fail
      go_region
      go_wp2_with fail
      go_ret2
      exact ⟨⟨_, tup_b (b := decide ((n : Int) < 9223372036854775808)) (decide_eq_false (by omega))⟩, below_drewN ((Below.refl _ _).alloc (Nat.le_refl _) _) _⟩
    · have n1 : ¬ (n : Int) ≤ 9223372036854775808 := by unfold sgI at h; simp at h; omega
      have n2 : (n : Int) < 18446744073709551616 := by omega
      clear hh hlo hn h
      go_enter Try.func62, Try.ntmps62
      go_wp2_with fail
      go_region
      go_wp2_with fail
      go_ret2
      exact ⟨⟨_, tup_b (b := decide ((n : Int) ≤ 9223372036854775808)) (decide_eq_false (by omega))⟩, below_drewN ((Below.refl _ _).alloc (Nat.le_refl _) _) _⟩
  · have h' : (((n / 18446744073709551616 : Nat) : Int) == 0) = false := beq_eq_false_iff_ne.2 (by omega)
    generalize ((n / 18446744073709551616 : Nat) : Int) = hi at *
    clear hh hn h
    go_enter Try.func62, Try.ntmps62
    go_wp2_with fail
    go_ret2
    exact ⟨⟨_, rfl⟩, (Below.refl _ _).alloc (Nat.le_refl _) _⟩
theorem mag_bd (a b : Int) (ha : I64 a) (hb : I64 b) : a.natAbs * b.natAbs < 340282366920938463463374607431768211456 := by
  unfold I64 at ha hb
  have := Nat.mul_le_mul (show a.natAbs ≤ 9223372036854775808 by omega) (show b.natAbs ≤ 9223372036854775808 by omega)
  omega
theorem numMul_any (a b : Int) (w : World) (ha : I64 a) (hb : I64 b) : Calls Try.prog 48 #[.int .i64 a, .int .i64 b] w fun e w' => e = fitR (fitI (a * b)) ∧ Below w.heap.size w w' := by
  have HP := Lib.hid (fun W => product_any a b W ha hb)
  have hn := mag_bd a b ha hb
  have E := sgI_mul a b
  generalize a.natAbs * b.natAbs = n at *
  generalize sgB a b = s at *
  by_cases h : -9223372036854775808 ≤ a * b ∧ a * b ≤ 9223372036854775807
  · have HN := Lib.hid (fun W => narrow_yes n s W hn (by rw [E]; exact h.1) (by rw [E]; exact h.2))
    rw [fitR_yes rfl h.1 h.2]
    rw [E] at HN
    generalize a * b = z at *
    clear E h hn ha hb
    go_enter Try.func48, Try.ntmps48
    go_wp2_with fail
    go_at_call 61
    (with_reducible refine (HP.out _).mono ?_)
    rintro y w1 ⟨rfl, b1⟩
    go_wp2_with fail
    go_at_call 62
    (with_reducible refine (HN.out _).mono ?_)
    rintro y w2 ⟨rfl, b2⟩
    go_wp2_with fail
    go_ret2
    exact ⟨rfl, b1.trans (b2.mono b1.size)⟩
  · have HN := Lib.hid (fun W => narrow_no n s W hn (by rw [E]; exact h))
    rw [fitR_no h]
    clear E h hn ha hb
    go_enter Try.func48, Try.ntmps48
    go_wp2_with fail
    go_at_call 61
    (with_reducible refine (HP.out _).mono ?_)
    rintro y w1 ⟨rfl, b1⟩
    go_wp2_with fail
    go_at_call 62
    (with_reducible refine (HN.out _).mono ?_)
    rintro y w2 ⟨⟨v, rfl⟩, b2⟩
    go_wp2_with fail
    go_ret2
    exact ⟨rfl, b1.trans (b2.mono b1.size)⟩
theorem div64_any (x y : Nat) (hx : x < 18446744073709551616) (hy : 0 < y) (hy' : y < 18446744073709551616) (w : World) :
    Calls Try.prog 90 #[.int .u64 0, .int .u64 x, .int .u64 y] w fun e w' => e = .returned (.tuple #[.int .u64 ((x / y : Nat) : Int), .int .u64 ((x % y : Nat) : Int)]) ∧ Below w.heap.size w w' := by
  have h1 : ((y : Int) == 0) = false := beq_eq_false_iff_ne.2 (by omega)
  have h1' : ¬ (y : Int) = 0 := by omega
  have h2 : ¬ (y : Int) ≤ 0 := by omega
  have e1 : Hid (IntKind.u64.wrap ((x : Int) / (y : Int)) = ((x / y : Nat) : Int)) := by
    have h := Nat.div_le_self x y
    have hd : (x : Int) / (y : Int) = ((x / y : Nat) : Int) := rfl
    show _ = _
    rw [hd]
    generalize x / y = q at *
    rw [IntKind.wrap_u64]; omega
  go_enter Try.func90, Try.ntmps90
  go_wp2_with fail
  go_region
  go_wp2_with fail
  go_ret2
  exact ⟨congrArg (fun z => Ending.returned (.tuple #[.int .u64 z, .int .u64 ((x % y : Nat) : Int)])) e1.out, below_drewN (Below.refl _ _) _⟩
set_option maxRecDepth 100000 in
theorem away_any (odd neg : Bool) (l y : Nat) (hl : l < y) (hy' : y < 18446744073709551616) (w : World) :
    Calls Try.prog 91 #[.int .i64 1, .bool odd, .bool neg, .int .u64 (l : Nat), .int .u64 (y : Nat)] w fun e w' => e = .returned (.bool (neg && decide (0 < l))) ∧ w = w' := by
  obtain ⟨d, hd⟩ : ∃ d : Int, (y : Int) - (l : Int) = d := ⟨_, rfl⟩
  have hw : IntKind.u64.wrap d = d := by rw [IntKind.wrap_u64]; omega
  have HY : Hid (decide (0 < l) = decide ((0 : Int) < (l : Int))) := by
    by_cases h : 0 < l
    · show _ = _; rw [decide_eq_true h, decide_eq_true (by omega)]
    · show _ = _; rw [decide_eq_false h, decide_eq_false (by omega)]
  rw [HY.out]
  have h0 : (0 : Int) ≤ (l : Int) := by omega
  clear HY hl hy'
  generalize (y : Int) = Y at *
  generalize (l : Int) = L at *
  have hd0 : Y - L - d = 0 := by omega
  by_cases h3 : 0 < L
  · rw [decide_eq_true h3]
    by_cases h4 : d < L
    · have h5 : (L == d) = false := beq_eq_false_iff_ne.2 (by omega)
      cases neg
      · go_enter Try.func91, Try.ntmps91
        clear hd0
        go_wp2_with fail
        go_ret
        exact ⟨rfl, rfl⟩
      · go_enter Try.func91, Try.ntmps91
        clear hd0
        go_wp2_with fail
        go_ret
        exact ⟨rfl, rfl⟩
    · by_cases h6 : L = d
      · subst h6
        cases neg
        · go_enter Try.func91, Try.ntmps91
          clear hd0
          go_wp2_with fail
          go_ret
          exact ⟨rfl, rfl⟩
        · go_enter Try.func91, Try.ntmps91
          clear hd0
          go_wp2_with fail
          go_ret
          exact ⟨rfl, rfl⟩
      · have h5 : (L == d) = false := beq_eq_false_iff_ne.2 h6
        cases neg
        · go_enter Try.func91, Try.ntmps91
          clear hd0
          go_wp2_with fail
          go_ret
          exact ⟨rfl, rfl⟩
        · go_enter Try.func91, Try.ntmps91
          clear hd0
          go_wp2_with fail
          go_ret
          exact ⟨rfl, rfl⟩
  · obtain rfl : L = 0 := by omega
    have h4 : ¬ d < 0 := by rw [IntKind.wrap_u64] at hw; omega
    by_cases h6 : (0 : Int) = d
    · subst h6
      cases neg
      · go_enter Try.func91, Try.ntmps91
        clear hd0
        go_wp2_with fail
        go_ret
        exact ⟨rfl, rfl⟩
      · go_enter Try.func91, Try.ntmps91
        clear hd0
        go_wp2_with fail
        go_ret
        exact ⟨rfl, rfl⟩
    · have h5 : ((0 : Int) == d) = false := beq_eq_false_iff_ne.2 h6
      cases neg
      · go_enter Try.func91, Try.ntmps91
        clear hd0
        go_wp2_with fail
        go_ret
        exact ⟨rfl, rfl⟩
      · go_enter Try.func91, Try.ntmps91
        clear hd0
        go_wp2_with fail
        go_ret
        exact ⟨rfl, rfl⟩
end Go.Proofs.Ytmiinmndbkdjbaa
