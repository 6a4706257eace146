/- The contract of put. -/
import Derived.Test.YtgbiimoednmlgaaLdB
namespace Go.Proofs.Ytgbiimoednmlgaa
set_option linter.unusedVariables false
set_option linter.unusedSimpArgs false
open Go.RowKit
theorem infoI : (Try.prog.info? 2).map (fun i => (i.zero, i.size, i.bytes)) = some (some (.int .i64 0), 1, 8) := by kernel_rfl
theorem own_grown {w w' : World} {base : Nat} {e : TypeId} {sz n : Nat} {v u : Value} {xs : List Value} (h : w.ownsRow base e sz v n xs) (g : w.grownBy w' u.ownBlock) (hne : ∀ k, v.ownBlock = some k → u.ownBlock ≠ some k) : w'.ownsRow base e sz v n xs :=
  h.kept g (by
    cases hv : v.ownBlock with
    | none => exact .inl rfl
    | some k => exact .inr (fun e => hne k hv e.symm))
theorem entR_one4 (es : List Ent) : ∀ u ∈ entR es, (∀ e ∈ es, e.av.oneCell' = true) → u.oneCell' = true := by
  intro u hu hav
  unfold entR at hu
  obtain ⟨c, hc, hu⟩ := List.mem_flatten.1 hu
  obtain ⟨e, he, rfl⟩ := List.mem_map.1 hc
  simp only [entC, List.mem_cons, List.not_mem_nil, or_false] at hu
  rcases hu with rfl | rfl | rfl | rfl
  · simp [Value.oneCell']
  · simp [Value.oneCell']
  · simp [Value.oneCell']
  · exact hav e he
theorem EnAt.av1 {base : Nat} {w : World} {v : Value} {es : List Ent} (h : EnAt base w v es) : ∀ e ∈ es, e.av.oneCell' = true := by
  intro e he
  obtain ⟨j, hj⟩ := List.getElem?_of_mem he
  obtain ⟨a, c, e1⟩ := own_slice (h.each j e hj)
  rw [e1]; simp [Value.oneCell']
theorem entR_ins (es : List Ent) (i : Nat) (hi : i ≤ es.length) (e : Ent) : (entR es).take (i * 4) ++ entC e ++ (entR es).drop (i * 4) = entR (insI es i e) := by
  unfold insI
  rw [entR_take, entR_drop es i hi, entR_append, show e :: es.drop i = [e] ++ es.drop i from rfl, entR_append, entR_one, List.append_assoc]
theorem insI_at {es : List Ent} {i : Nat} {e : Ent} (hi : i ≤ es.length) (j : Nat) : (insI es i e)[j]? = if j < i then es[j]? else if j = i then some e else es[j - 1]? := by
  unfold insI
  have hl : (es.take i).length = i := by rw [List.length_take, Nat.min_eq_left hi]
  by_cases h1 : j < i
  · rw [if_pos h1, List.getElem?_append_left (by rw [hl]; exact h1), List.getElem?_take, if_pos h1]
  · rw [if_neg h1, List.getElem?_append_right (by rw [hl]; omega), hl]
    by_cases h2 : j = i
    · rw [if_pos h2, h2, Nat.sub_self]; rfl
    · rw [if_neg h2]
      obtain ⟨k, hk⟩ : ∃ k, j - i = k + 1 := ⟨j - i - 1, by omega⟩
      rw [hk, List.getElem?_cons_succ, List.getElem?_drop]
      congr 1; omega
/-- A new entry, of no amounts yet. -/
theorem EnAt.ins {base : Nat} {w w' : World} {v v' : Value} {es : List Ent} {i : Nat} {p c : ByteArray} (h : EnAt base w v es) (hi : i ≤ es.length) (hp : p.size ≤ maxLen ∧ c.size ≤ maxLen)
    (ho : w'.ownsRow base 79 4 v' (es.length + 1) ((entR es).take (i * 4) ++ entC ⟨p, c, [], .slice none 0 0⟩ ++ (entR es).drop (i * 4))) (hg : w.grownBy w' v.ownBlock) : EnAt base w' v' (insI es i ⟨p, c, [], .slice none 0 0⟩) := by
  have hat : ∀ (j : Nat) e, (insI es i ⟨p, c, [], .slice none 0 0⟩)[j]? = some e → e = ⟨p, c, [], .slice none 0 0⟩ ∨ ∃ k, es[k]? = some e ∧ k = (if j < i then j else j - 1) ∧ j ≠ i := by
    intro j e hj
    rw [insI_at hi] at hj
    by_cases h1 : j < i
    · rw [if_pos h1] at hj
      exact .inr ⟨j, hj, by rw [if_pos h1], by omega⟩
    · rw [if_neg h1] at hj
      by_cases h2 : j = i
      · rw [if_pos h2] at hj; injection hj with hj; exact .inl hj.symm
      · rw [if_neg h2] at hj
        exact .inr ⟨j - 1, hj, by rw [if_neg h1], h2⟩
  refine ⟨?_, fun j e hj => ?_, fun j k e f hjk hj hk g hg1 hg2 => ?_, fun e he => ?_⟩
  · rw [insI_len _ _ _ hi, ← entR_ins es i hi]; exact ho
  · rcases hat j e hj with rfl | ⟨k, hk, -⟩
    · exact World.ownsRow_nil _ _ _ _
    · have h1 := h.each k e hk
      refine own_grown h1 hg (fun g hgv hgv2 => ?_)
      exact row_ne h1 h.row (by decide) hgv hgv2
  · rcases hat j e hj with rfl | ⟨a, ha, ha1, ha2⟩
    · cases hg1
    · rcases hat k f hk with rfl | ⟨b, hb, hb1, hb2⟩
      · cases hg2
      · refine h.apart a b e f ?_ ha hb g hg1 hg2
        rw [ha1, hb1]
        split <;> split <;> omega
  · rcases mem_insI.1 he with rfl | he
    · exact hp
    · exact h.siz e he
theorem entR_set {es : List Ent} {k : Nat} {e : Ent} (he : es[k]? = some e) (all : List Int) (u : Value) : (entR es).set (k * 4 + 3) u = entR (es.set k ⟨e.party, e.coin, all, u⟩) := by
  have hk := (List.getElem?_eq_some_iff.1 he).1
  refine List.ext_getElem? (fun j => ?_)
  rw [List.getElem?_set]
  by_cases hj : j < (entR es).length
  · have hq : j / 4 < es.length := by rw [entR_len] at hj; omega
    have hx : es[j / 4]? = some (es[j / 4]'hq) := List.getElem?_eq_getElem hq
    have hjj : j = j / 4 * 4 + j % 4 := by omega
    by_cases h1 : k = j / 4
    · have hx2 : (es.set k ⟨e.party, e.coin, all, u⟩)[j / 4]? = some ⟨e.party, e.coin, all, u⟩ := by rw [List.getElem?_set, if_pos h1, if_pos hk]
      have e1 : (entR (es.set k ⟨e.party, e.coin, all, u⟩))[j]? = (entC ⟨e.party, e.coin, all, u⟩)[j % 4]? := by
        conv => lhs; rw [hjj]
        exact entR_at _ hx2 (j % 4) (by omega)
      have e2 : (entR es)[j]? = (entC e)[j % 4]? := by
        conv => lhs; rw [hjj]
        exact entR_at _ (by rw [← h1]; exact he) (j % 4) (by omega)
      rw [e1, e2]
      by_cases h2 : k * 4 + 3 = j
      · have : j % 4 = 3 := by omega
        rw [if_pos h2, if_pos (by omega), this]; rfl
      · rw [if_neg h2]
        have h4 : j % 4 = 0 ∨ j % 4 = 1 ∨ j % 4 = 2 := by omega
        rcases h4 with h4 | h4 | h4 <;> rw [h4] <;> rfl
    · have hx2 : (es.set k ⟨e.party, e.coin, all, u⟩)[j / 4]? = some (es[j / 4]'hq) := by rw [List.getElem?_set, if_neg h1]; exact hx
      have e1 : (entR (es.set k ⟨e.party, e.coin, all, u⟩))[j]? = (entC (es[j / 4]'hq))[j % 4]? := by
        conv => lhs; rw [hjj]
        exact entR_at _ hx2 (j % 4) (by omega)
      have e2 : (entR es)[j]? = (entC (es[j / 4]'hq))[j % 4]? := by
        conv => lhs; rw [hjj]
        exact entR_at _ hx (j % 4) (by omega)
      rw [e1, e2, if_neg (by omega)]
  · rw [List.getElem?_eq_none (l := entR es) (by omega), List.getElem?_eq_none (l := entR _) (by rw [entR_len, List.length_set, ← entR_len]; omega)]
    split
    · rename_i h2
      rw [if_neg (by omega)]
    · rfl
/-- One amount more at an entry. -/
theorem EnAt.more {base g cap : Nat} {w w' : World} {es : List Ent} {k : Nat} {e : Ent} {n : Int} {av' : Value} (h : EnAt base w (.slice (some ⟨g, 0, none⟩) es.length cap) es) (he : es[k]? = some e)
    (ho : w'.ownsRow base 2 1 av' (e.all.length + 1) (intC e.all ++ [.int .i64 n])) (hg : w.grownBy w' e.av.ownBlock) (hv : av'.ownBlock = e.av.ownBlock ∨ av'.ownBlock = some w.heap.size) :
    EnAt base (w'.setCell ⟨g, k * 4 + 3, none⟩ av') (.slice (some ⟨g, 0, none⟩) es.length cap) (es.set k ⟨e.party, e.coin, e.all ++ [n], av'⟩) := by
  have hk := (List.getElem?_eq_some_iff.1 he).1
  have hne1 : ∀ x, (Value.slice (some ⟨g, 0, none⟩) es.length cap).ownBlock = some x → e.av.ownBlock ≠ some x := fun x hx => row_ne h.row (h.each k e he) (by decide) hx
  have hrow' := own_grown h.row hg hne1
  have hst := (hrow'.stored (k * 4 + 3) av').1
  have hset : ∀ {n' : Nat} {u : Value} {xs : List Value}, w'.ownsRow base 2 1 u n' xs → (w'.setCell ⟨g, k * 4 + 3, none⟩ av').ownsRow base 2 1 u n' xs := by
    intro n' u xs hu
    refine ownsRow_setCell_other hu ?_ av'
    intro hx
    exact row_ne hu hrow' (by decide) hx rfl
  have hold : ∀ (j : Nat) f, j ≠ k → es[j]? = some f → w'.ownsRow base 2 1 f.av f.all.length (intC f.all) := by
    intro j f hjk hj
    refine own_grown (h.each j f hj) hg (fun x hx hx2 => ?_)
    exact h.apart j k f e hjk hj he x hx hx2
  have hat : ∀ (j : Nat) f, (es.set k ⟨e.party, e.coin, e.all ++ [n], av'⟩)[j]? = some f → (j = k ∧ f = ⟨e.party, e.coin, e.all ++ [n], av'⟩) ∨ (j ≠ k ∧ es[j]? = some f) := by
    intro j f hj
    rw [List.getElem?_set] at hj
    by_cases h1 : k = j
    · rw [if_pos h1, if_pos hk] at hj
      injection hj with hj
      exact .inl ⟨h1.symm, hj.symm⟩
    · rw [if_neg h1] at hj
      exact .inr ⟨fun e => h1 e.symm, hj⟩
  refine ⟨?_, fun j f hj => ?_, fun i j f1 f2 hij hi hj x hx1 hx2 => ?_, fun f hf => ?_⟩
  · rw [List.length_set, ← entR_set he (e.all ++ [n]) av']
    exact hst
  · rcases hat j f hj with ⟨-, rfl⟩ | ⟨hjk, hj⟩
    · have e1 : intC (e.all ++ [n]) = intC e.all ++ [.int .i64 n] := by unfold intC; rw [List.map_append]; rfl
      show (w'.setCell _ _).ownsRow base 2 1 av' (e.all ++ [n]).length (intC (e.all ++ [n]))
      rw [e1, List.length_append]
      exact hset ho
    · exact hset (hold j f hjk hj)
  · have key : ∀ (j : Nat) f, j ≠ k → es[j]? = some f → ∀ x, av'.ownBlock = some x → f.av.ownBlock ≠ some x := by
      intro j f hjk hj x h1 h2
      rcases hv with h3 | h3
      · exact h.apart j k f e hjk hj he x h2 (by rw [← h3]; exact h1)
      · have h4 := (own_lt (h.each j f hj) h2).2
        rw [h3] at h1; injection h1 with h1
        omega
    rcases hat i f1 hi with ⟨hi1, rfl⟩ | ⟨hik, hi⟩
    · rcases hat j f2 hj with ⟨hj1, rfl⟩ | ⟨hjk, hj⟩
      · exact hij (hi1.trans hj1.symm)
      · exact key j f2 hjk hj x hx1 hx2
    · rcases hat j f2 hj with ⟨hj1, rfl⟩ | ⟨hjk, hj⟩
      · exact key i f1 hik hi x hx2 hx1
      · exact h.apart i j f1 f2 hij hi hj x hx1 hx2
  · obtain ⟨j, hj⟩ := List.getElem?_of_mem hf
    rcases hat j f hj with ⟨-, rfl⟩ | ⟨hjk, hj⟩
    · exact h.siz e (List.mem_of_getElem? he)
    · exact h.siz f (List.mem_of_getElem? hj)
end Go.Proofs.Ytgbiimoednmlgaa
