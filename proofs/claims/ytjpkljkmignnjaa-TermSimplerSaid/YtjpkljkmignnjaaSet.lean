/- Sets of names as maps hold them: how many different ones there are. -/
import Derived.Test.YtjpkljkmignnjaaFr
import Derived.Test.YtjpkljkmignnjaaPlainS
namespace Go.Proofs.Ytjpkljkmignnjaa
set_option linter.unusedVariables false
set_option linter.unusedSimpArgs false
open Go.RowKit
def nmL (s : ByteArray) : Lit := .string s.data.toList
def setD (l : List ByteArray) : DataW Unit := Maps.setOf (.lit (.bool true)) (l.map nmL)
theorem setD_nil : setD [] = .map [] := rfl
theorem setD_snoc (l : List ByteArray) (s : ByteArray) : (setD l).put (nmL s) (.lit (.bool true)) = setD (l ++ [s]) := by
  unfold setD; rw [List.map_append, List.map_singleton, Maps.setOf_snoc]
theorem isKey_nmL (s : ByteArray) : WideAt.IsKeyLit (nmL s) := by unfold nmL; simp [WideAt.IsKeyLit]
theorem nmL_inj {s s' : ByteArray} (h : nmL s = nmL s') : s = s' := by
  unfold nmL at h
  injection h with h
  obtain ⟨⟨a⟩⟩ := s
  obtain ⟨⟨b⟩⟩ := s'
  simpa using h
theorem addKey_mem {acc : List Lit} {x y : Lit} (hx : WideAt.IsKeyLit x) (hacc : ∀ a ∈ acc, WideAt.IsKeyLit a) : y ∈ Maps.addKey acc x ↔ y ∈ acc ∨ y = x := by
  unfold Maps.addKey
  split
  · rename_i h
    constructor
    · exact .inl
    · rintro (h1 | rfl)
      · exact h1
      · obtain ⟨a, ha, hs⟩ := List.any_eq_true.1 h
        rw [← WideAt.sameKey_eq hs]; exact ha
  · simp
theorem addKey_nodup {acc : List Lit} {x : Lit} (hx : WideAt.IsKeyLit x) (h : acc.Nodup) : (Maps.addKey acc x).Nodup := by
  unfold Maps.addKey
  split
  · exact h
  · rename_i hn
    rw [List.nodup_append]
    refine ⟨h, by simp, fun a ha b hb e => ?_⟩
    rw [List.mem_singleton] at hb
    subst hb; subst e
    exact hn (List.any_eq_true.2 ⟨a, ha, WideAt.sameKey_self hx⟩)
theorem fold_addKey : ∀ (xs acc : List Lit), (∀ x ∈ xs, WideAt.IsKeyLit x) → (∀ x ∈ acc, WideAt.IsKeyLit x) → acc.Nodup → (xs.foldl Maps.addKey acc).Nodup ∧ ∀ y, y ∈ xs.foldl Maps.addKey acc ↔ y ∈ acc ∨ y ∈ xs
  | [], acc, _, _, hn => ⟨hn, fun y => by simp⟩
  | x :: t, acc, hx, ha, hn => by
    have hx0 := hx x (by simp)
    have h1 := fold_addKey t (Maps.addKey acc x) (fun y hy => hx y (by simp [hy])) (fun y hy => by
      rcases (addKey_mem hx0 ha).1 hy with h | rfl
      · exact ha y h
      · exact hx0) (addKey_nodup hx0 hn)
    refine ⟨h1.1, fun y => ?_⟩
    rw [List.foldl_cons, h1.2 y, addKey_mem hx0 ha, List.mem_cons]
    constructor
    · rintro ((h | h) | h)
      · exact .inl h
      · exact .inr (.inl h)
      · exact .inr (.inr h)
    · rintro (h | h | h)
      · exact .inl (.inl h)
      · exact .inl (.inr h)
      · exact .inr h
theorem len_le_of_sub {α : Type} : ∀ (l l' : List α), l.Nodup → (∀ x ∈ l, x ∈ l') → l.length ≤ l'.length
  | [], _, _, _ => Nat.zero_le _
  | x :: t, l', hn, hs => by
    obtain ⟨hx, ht⟩ := List.nodup_cons.1 hn
    obtain ⟨s, u, rfl⟩ := List.append_of_mem (hs x (by simp))
    have h := len_le_of_sub t (s ++ u) ht (fun y hy => by
      have h1 := hs y (by simp [hy])
      rw [List.mem_append, List.mem_cons] at h1
      rw [List.mem_append]
      rcases h1 with h1 | rfl | h1
      · exact .inl h1
      · exact absurd hy hx
      · exact .inr h1)
    simp only [List.length_append, List.length_cons] at h ⊢
    omega
theorem keys_nmL (l : List ByteArray) : ∀ x ∈ l.map nmL, WideAt.IsKeyLit x := by
  intro x hx
  obtain ⟨s, _, rfl⟩ := List.mem_map.1 hx
  exact isKey_nmL s
theorem size_setD_le {l l' : List ByteArray} (h : ∀ s ∈ l, s ∈ l') : Maps.size (setD l) ≤ Maps.size (setD l') := by
  unfold setD
  rw [Maps.size_setOf _ _ (keys_nmL l), Maps.size_setOf _ _ (keys_nmL l')]
  have h1 := fold_addKey (l.map nmL) [] (keys_nmL l) (by simp) (by simp)
  have h2 := fold_addKey (l'.map nmL) [] (keys_nmL l') (by simp) (by simp)
  refine len_le_of_sub _ _ h1.1 (fun y hy => ?_)
  rcases (h1.2 y).1 hy with h3 | h3
  · cases h3
  · obtain ⟨s, hs, rfl⟩ := List.mem_map.1 h3
    exact (h2.2 _).2 (.inr (List.mem_map.2 ⟨s, h s hs, rfl⟩))
/-- The observables of an expression, as they are met. -/
def obsE : Ex → List ByteArray
  | .mk op _ nm l => (if op = 3 then [nm] else []) ++ go l
  where go : List Ex → List ByteArray
  | [] => []
  | e :: t => obsE e ++ go t
theorem obs_take {l : List Ex} {k : Nat} {e : Ex} (h : l[k]? = some e) : obsE.go (l.take (k + 1)) = obsE.go (l.take k) ++ obsE e := by
  induction l generalizing k with
  | nil => cases h
  | cons x t ih =>
    cases k with
    | zero => simp at h; subst h; simp [obsE.go]
    | succ j => simp only [List.take_succ_cons, obsE.go]; rw [ih (by simpa using h), List.append_assoc]
def obsT : Te → List ByteArray
  | .mk _ _ x l => obsE.go x ++ go l
  where go : List Te → List ByteArray
  | [] => []
  | e :: t => obsT e ++ go t
theorem obsT_take {l : List Te} {k : Nat} {e : Te} (h : l[k]? = some e) : obsT.go (l.take (k + 1)) = obsT.go (l.take k) ++ obsT e := by
  induction l generalizing k with
  | nil => cases h
  | cons x t ih =>
    cases k with
    | zero => simp at h; subst h; simp [obsT.go]
    | succ j => simp only [List.take_succ_cons, obsT.go]; rw [ih (by simpa using h), List.append_assoc]
theorem coins_take {l : List Te} {k : Nat} {e : Te} (h : l[k]? = some e) : coinsT.go (l.take (k + 1)) = coinsT.go (l.take k) ++ coinsT e := by
  induction l generalizing k with
  | nil => cases h
  | cons x t ih =>
    cases k with
    | zero => simp at h; subst h; simp [coinsT.go]
    | succ j => simp only [List.take_succ_cons, coinsT.go]; rw [ih (by simpa using h), List.append_assoc]
/-- Two maps: of currencies, of observables. -/
structure Two (w : World) (b1 b2 : Nat) (l1 l2 : List ByteArray) (n : Nat) : Prop where
  one : w.ownsMap Try.prog 9 (plainElem Try.prog 4) b1 n (setD l1)
  two : w.ownsMap Try.prog 9 (plainElem Try.prog 4) b2 n (setD l2)
  ne : b1 ≠ b2
theorem Two.fr {w w' : World} {X : List Nat} {b1 b2 : Nat} {l1 l2 : List ByteArray} {n : Nat} (h : Two w b1 b2 l1 l2 n) (k : Fr X w w') (h1 : b1 ∉ X) (h2 : b2 ∉ X) : Two w' b1 b2 l1 l2 n := ⟨k.map h.one h1, k.map h.two h2, h.ne⟩
theorem Two.mono {w : World} {b1 b2 : Nat} {l1 l2 : List ByteArray} {n n' : Nat} (h : Two w b1 b2 l1 l2 n) (hn : n ≤ n') : Two w b1 b2 l1 l2 n' := ⟨h.one.mono hn, h.two.mono hn, h.ne⟩
theorem Two.alloc {w : World} {b1 b2 : Nat} {l1 l2 : List ByteArray} {n : Nat} (h : Two w b1 b2 l1 l2 n) (o : Obj) : Two (w.alloc o) b1 b2 l1 l2 n := h.fr (Fr.alloc w o []) (by simp) (by simp)
end Go.Proofs.Ytjpkljkmignnjaa
