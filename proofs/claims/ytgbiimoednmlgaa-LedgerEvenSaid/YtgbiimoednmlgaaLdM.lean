/- Accounts, moves, entries in memory. -/
import Derived.Test.YtgbiimoednmlgaaLdE
import Derived.Test.YtgbiimoednmlgaaLit
import Derived.Test.YtgbiimoednmlgaaApz
namespace Go.Proofs.Ytgbiimoednmlgaa
set_option linter.unusedVariables false
set_option linter.unusedSimpArgs false
open Go.RowKit
def acctC (a : Acct) : List Value := [.string a.party, .string a.coin, .int .i64 a.amt]
structure AcctOk (a : Acct) : Prop where
  party : a.party.size ≤ maxLen
  coin : a.coin.size ≤ maxLen
  amt : I64 a.amt
def acctK : Elt Acct where
  sz := 3
  pos := by decide
  R := fun _ _ a cs => cs = acctC a ∧ AcctOk a
  kept := fun h _ => h
  less := fun h _ => h
  one := fun h => by obtain ⟨rfl, _⟩ := h; exact ⟨rfl, by simp [acctC, Value.oneCell']⟩
theorem acct_at {w : World} {X : List Nat} {l : List Acct} {a : Option Addr} {len cap : Nat} (h : SlR acctK w X l a len cap) (k : Nat) (hk : k < len) :
    ∃ b o x, a = some ⟨b, o, none⟩ ∧ l[k]? = some x ∧ AcctOk x ∧ w.cell? ⟨b, o + k * 3, none⟩ = some (.string x.party) ∧ w.cell? ⟨b, o + k * 3 + 1, none⟩ = some (.string x.coin) ∧ w.cell? ⟨b, o + k * 3 + 2, none⟩ = some (.int .i64 x.amt) := by
  obtain ⟨b, o, f, cs, ha, hb, hX, hf, ⟨rfl, h1⟩, -, hc⟩ := h.at k hk
  exact ⟨b, o, f, ha, hf, h1, hc 0 _ rfl, hc 1 _ rfl, hc 2 _ rfl⟩
def mvC (x : Mv) : List Value := [.string x.src, .string x.dst, .string x.coin, .int .i64 x.amt]
structure MvOk (x : Mv) : Prop where
  src : x.src.size ≤ maxLen
  dst : x.dst.size ≤ maxLen
  coin : x.coin.size ≤ maxLen
  amt : I64 x.amt
def mvK : Elt Mv where
  sz := 4
  pos := by decide
  R := fun _ _ x cs => cs = mvC x ∧ MvOk x
  kept := fun h _ => h
  less := fun h _ => h
  one := fun h => by obtain ⟨rfl, _⟩ := h; exact ⟨rfl, by simp [mvC, Value.oneCell']⟩
theorem mv_at {w : World} {X : List Nat} {l : List Mv} {a : Option Addr} {len cap : Nat} (h : SlR mvK w X l a len cap) (k : Nat) (hk : k < len) :
    ∃ b o x, a = some ⟨b, o, none⟩ ∧ l[k]? = some x ∧ MvOk x ∧ w.cell? ⟨b, o + k * 4, none⟩ = some (.string x.src) ∧ w.cell? ⟨b, o + k * 4 + 1, none⟩ = some (.string x.dst) ∧ w.cell? ⟨b, o + k * 4 + 2, none⟩ = some (.string x.coin) ∧ w.cell? ⟨b, o + k * 4 + 3, none⟩ = some (.int .i64 x.amt) := by
  obtain ⟨b, o, f, cs, ha, hb, hX, hf, ⟨rfl, h1⟩, -, hc⟩ := h.at k hk
  exact ⟨b, o, f, ha, hf, h1, hc 0 _ rfl, hc 1 _ rfl, hc 2 _ rfl, hc 3 _ rfl⟩
/-- Entries: a row of their own, and each one's amounts in a row of its own. -/
def entC (e : Ent) : List Value := [.string e.party, .string e.coin, .int .i64 0, e.av]
def entR (es : List Ent) : List Value := (es.map entC).flatten
def intC (l : List Int) : List Value := l.map (fun n => .int .i64 n)
structure EnAt (base : Nat) (w : World) (v : Value) (es : List Ent) : Prop where
  row : w.ownsRow base 79 4 v es.length (entR es)
  each : ∀ (j : Nat) e, es[j]? = some e → w.ownsRow base 2 1 e.av e.all.length (intC e.all)
  apart : ∀ (i j : Nat) e f, i ≠ j → es[i]? = some e → es[j]? = some f → ∀ g, e.av.ownBlock = some g → f.av.ownBlock ≠ some g
  siz : ∀ e ∈ es, e.party.size ≤ maxLen ∧ e.coin.size ≤ maxLen
theorem EnAt.nil (base : Nat) (w : World) : EnAt base w (.slice none 0 0) [] := ⟨World.ownsRow_nil _ _ _ _, fun j e h => by simp at h, fun i j e f _ h => by simp at h, fun e h => nomatch h⟩
theorem EnAt.below {base : Nat} {w w' : World} {v : Value} {es : List Ent} (h : EnAt base w v es) (b : Below w.heap.size w w') : EnAt base w' v es :=
  ⟨own_below h.row b, fun j e he => own_below (h.each j e he) b, h.apart, h.siz⟩
theorem entR_at (es : List Ent) {k : Nat} {e : Ent} (h : es[k]? = some e) (j : Nat) (hj : j < 4) : (entR es)[k * 4 + j]? = (entC e)[j]? := by
  unfold entR
  exact flat_get 4 _ (fun c hc => by obtain ⟨x, _, rfl⟩ := List.mem_map.1 hc; rfl) k j (entC e) (by rw [List.getElem?_map, h]; rfl) hj
theorem entR_len (es : List Ent) : (entR es).length = es.length * 4 := by
  unfold entR
  rw [flat_len 4 _ (fun c hc => by obtain ⟨x, _, rfl⟩ := List.mem_map.1 hc; rfl), List.length_map]
theorem entR_append (a b : List Ent) : entR (a ++ b) = entR a ++ entR b := by unfold entR; rw [List.map_append, List.flatten_append]
theorem entR_one (e : Ent) : entR [e] = entC e := by unfold entR; simp
theorem entR_take (es : List Ent) (i : Nat) : (entR es).take (i * 4) = entR (es.take i) := by
  have h := entR_append (es.take i) (es.drop i)
  rw [List.take_append_drop] at h
  rw [h]
  by_cases hi : i ≤ es.length
  · have hl : (entR (es.take i)).length = i * 4 := by rw [entR_len, List.length_take, Nat.min_eq_left hi]
    rw [← hl]; exact List.take_left
  · have hd : es.drop i = [] := List.drop_eq_nil_of_le (by omega)
    rw [hd]
    have : entR ([] : List Ent) = [] := rfl
    rw [this, List.append_nil]
    exact List.take_of_length_le (by rw [entR_len, List.length_take]; omega)
theorem entR_drop (es : List Ent) (i : Nat) (hi : i ≤ es.length) : (entR es).drop (i * 4) = entR (es.drop i) := by
  have h := entR_append (es.take i) (es.drop i)
  rw [List.take_append_drop] at h
  rw [h]
  have hl : (entR (es.take i)).length = i * 4 := by rw [entR_len, List.length_take, Nat.min_eq_left hi]
  rw [← hl]; exact List.drop_left
theorem EnAt.at {base : Nat} {w : World} {v : Value} {es : List Ent} (h : EnAt base w v es) (k : Nat) (hk : k < es.length) : ∃ g cap e, v = .slice (some ⟨g, 0, none⟩) es.length cap ∧ es[k]? = some e ∧ w.cell? ⟨g, k * 4, none⟩ = some (.string e.party) ∧ w.cell? ⟨g, k * 4 + 1, none⟩ = some (.string e.coin) ∧ w.cell? ⟨g, k * 4 + 2, none⟩ = some (.int .i64 0) ∧ w.cell? ⟨g, k * 4 + 3, none⟩ = some e.av ∧ (∀ j, w.frozen? ⟨g, j, none⟩ = false) := by
  obtain ⟨g, cap, rfl, -⟩ := own_form h.row (by omega)
  have hf : es[k]? = some (es[k]'hk) := List.getElem?_eq_getElem hk
  have hc : ∀ j u, j < 4 → (entC (es[k]'hk))[j]? = some u → w.cell? ⟨g, k * 4 + j, none⟩ = some u := by
    intro j u hj hu
    rw [h.row.cellAt (k * 4 + j) (by omega), entR_at es hf j hj]; exact hu
  exact ⟨g, cap, es[k]'hk, rfl, hf, hc 0 _ (by omega) rfl, hc 1 _ (by omega) rfl, hc 2 _ (by omega) rfl, hc 3 _ (by omega) rfl, fun j => h.row.frozenAt j⟩
/-- Entries' row and amounts' rows lie in different blocks: their elements' types differ. -/
theorem row_ne {w : World} {base base' : Nat} {e e' : TypeId} {sz sz' n n' : Nat} {v v' : Value} {xs xs' : List Value} (h : w.ownsRow base e sz v n xs) (h' : w.ownsRow base' e' sz' v' n' xs') (ht : e ≠ e') {g : Nat} (hg : v.ownBlock = some g) : v'.ownBlock ≠ some g := by
  intro hg'
  rcases h.2 with ⟨rfl, _⟩ | ⟨a, cap, cur, rfl, _, h1, _⟩
  · cases hg
  · rcases h'.2 with ⟨rfl, _⟩ | ⟨a', cap', cur', rfl, _, h2, _⟩
    · cases hg'
    · simp only [Value.ownBlock, Option.some.injEq] at hg hg'
      rw [hg] at h1
      rw [hg'] at h2
      rw [h1] at h2
      injection h2 with h2
      injection h2 with _ h2
      exact ht h2
end Go.Proofs.Ytgbiimoednmlgaa
