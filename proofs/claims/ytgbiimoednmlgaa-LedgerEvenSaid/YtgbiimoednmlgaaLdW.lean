/- The contract of Post. -/
import Derived.Test.YtgbiimoednmlgaaLdH
namespace Go.Proofs.Ytgbiimoednmlgaa
set_option linter.unusedVariables false
set_option linter.unusedSimpArgs false
open Go.RowKit
theorem PutD.next {es es' : List Ent} {a : Acct} {L : List (Ky × Int)} (h : PutD es a es') (hl : LsE es L) (hc : CoE es L) (hn : I64 a.amt) : LsE es' (L ++ [(a.key, a.amt)]) ∧ CoE es' (L ++ [(a.key, a.amt)]) := by
  obtain ⟨i, hat, ⟨hh, e, av', he, rfl⟩ | ⟨hh, av', rfl⟩⟩ := h
  · obtain ⟨x, hx, hxk⟩ := hitK_key hh
    rw [he] at hx; injection hx with hx; subst hx
    rw [← hxk]
    exact ⟨hl.more he hn, hc.more a.amt av' he⟩
  · exact ⟨hl.new hat hh hn, hc.new i a.party a.coin a.amt av'⟩
/-- Entries stay where a row of another type grows. -/
theorem EnAt.grown {base base' : Nat} {w w' : World} {v u : Value} {es : List Ent} {t : TypeId} {sz n : Nat} {xs : List Value} (h : EnAt base w v es) (ho : w.ownsRow base' t sz u n xs) (h1 : t ≠ 79) (h2 : t ≠ 2) (g : w.grownBy w' u.ownBlock) : EnAt base w' v es :=
  ⟨own_grown h.row g (fun k hk hk2 => row_ne ho h.row h1 hk2 hk), fun j e he => own_grown (h.each j e he) g (fun k hk hk2 => row_ne ho (h.each j e he) h2 hk2 hk), h.apart, h.siz⟩
/-- What Post answers. -/
def Verd (l : List Acct) (m : List Mv) (out : List Acct) (e : Int) : Prop :=
  (e = 1 ∧ out = [] ∧ ¬ (rightA l = true ∧ m.all mayM = true)) ∨ (rightA l = true ∧ m.all mayM = true ∧ ((e = 2 ∧ out = [] ∧ ¬ FitL (conA l ++ conM m)) ∨ (e = 0 ∧ FitL (conA l ++ conM m) ∧ PostOut out (conA l ++ conM m))))
def PostR (w' : World) (l : List Acct) (m : List Mv) (x : Ending) : Prop := ∃ (out : List Acct) (a : Option Addr) (c : Nat) (e : Int), x = .returned (.tuple #[.slice a out.length c, .int .i64 e]) ∧ SlR acctK w' [] out a out.length c ∧ Verd l m out e ∧ out.length ≤ l.length + 2 * m.length
/-- Where Post's gathering stands. -/
structure GaSt (w wr : World) (v : Value) (es : List Ent) (L : List (Ky × Int)) : Prop where
  en : EnAt w.heap.size wr v es
  ls : LsE es L
  co : CoE es L
  bel : Below w.heap.size w wr
theorem conA_take {l : List Acct} {k : Nat} {a : Acct} (h : l[k]? = some a) : conA (l.take (k + 1)) = conA (l.take k) ++ [(a.key, a.amt)] := by
  obtain ⟨hk, e⟩ := List.getElem?_eq_some_iff.1 h
  rw [← List.take_append_getElem hk, e]
  unfold conA
  rw [List.map_append]; rfl
theorem conM_take {m : List Mv} {k : Nat} {x : Mv} (h : m[k]? = some x) : conM (m.take (k + 1)) = conM (m.take k) ++ [(x.kf, -x.amt)] ++ [(x.kt, x.amt)] := by
  obtain ⟨hk, e⟩ := List.getElem?_eq_some_iff.1 h
  rw [← List.take_append_getElem hk, e, conM_append, conM_one, List.append_assoc]; rfl
theorem conM_len (m : List Mv) : (conM m).length = 2 * m.length := by
  induction m with
  | nil => rfl
  | cons x t ih =>
    have e : conM (x :: t) = [(x.kf, -x.amt), (x.kt, x.amt)] ++ conM t := by unfold conM; rw [List.flatMap_cons]
    rw [e, List.length_append, ih]
    show 2 + 2 * t.length = 2 * (t.length + 1); omega
theorem conA_len (l : List Acct) : (conA l).length = l.length := by unfold conA; rw [List.length_map]
/-- An entry's amounts, read. -/
theorem EnAt.ints {base : Nat} {w : World} {v : Value} {es : List Ent} (h : EnAt base w v es) {L : List (Ky × Int)} (hl : LsE es L) {k : Nat} {e : Ent} (he : es[k]? = some e) {a : Option Addr} {c : Nat} (ha : e.av = .slice a e.all.length c) : IntsAt w e.all a e.all.length := by
  refine ⟨rfl, fun j n hj => ⟨hl.rng e (List.mem_of_getElem? he) n (List.mem_of_getElem? hj), ?_⟩⟩
  have hr := h.each k e he
  rw [ha] at hr
  have hjl := (List.getElem?_eq_some_iff.1 hj).1
  obtain ⟨g, cap, hv, -⟩ := own_form hr (by omega)
  injection hv with e1 _ e3
  subst e1; subst e3
  refine ⟨g, 0, rfl, ?_⟩
  rw [Nat.zero_add, hr.cellAt j (by omega)]
  unfold intC
  rw [List.getElem?_map, hj]; rfl
/-- Books, written. -/
def outR (l : List Acct) : List Value := (l.map acctC).flatten
theorem infoA : (Try.prog.info? 51).map (fun i => (i.zero, i.size, i.bytes)) = some (some (.agg #[.string ⟨#[]⟩, .string ⟨#[]⟩, .int .i64 0]), 3, 40) := by kernel_rfl
theorem outR_slR {w0 w : World} {v : Value} {l : List Acct} (h : w.ownsRow w0.heap.size 51 3 v l.length (outR l)) (hb : Below w0.heap.size w0 w) (hok : ∀ a ∈ l, AcctOk a) : ∃ a c, v = .slice a l.length c ∧ SlR acctK w [] l a l.length c := by
  obtain ⟨a, c, rfl, hsl, -⟩ := own_sl (w0 := w0) (X := []) ⟨hb, h⟩ (by rw [List.length_map]) (fun c hc => by obtain ⟨s, _, rfl⟩ := List.mem_map.1 hc; rfl) (fun b hb => by cases hb)
  refine ⟨a, c, rfl, ⟨l.map acctC, by rw [List.length_map], fun i x cs hx hc => ?_, hsl⟩⟩
  rw [List.getElem?_map, hx] at hc
  injection hc with hc
  exact ⟨hc.symm, hok x (List.mem_of_getElem? hx)⟩
theorem outA_take {es : List Ent} {k : Nat} {e : Ent} (h : es[k]? = some e) : outA (es.take (k + 1)) = outA (es.take k) ++ (if e.all.sum = 0 then [] else [⟨e.party, e.coin, e.all.sum⟩]) := by
  obtain ⟨hk, e1⟩ := List.getElem?_eq_some_iff.1 h
  rw [← List.take_append_getElem hk, e1]
  unfold outA
  rw [List.filterMap_append, List.filterMap_cons, List.filterMap_nil]
  split
  · rename_i h1; split at h1
    · rename_i h2; rw [if_pos h2]
    · cases h1
  · rename_i b h1; split at h1
    · cases h1
    · rename_i h2; rw [if_neg h2]; injection h1 with h1; rw [h1]
theorem outA_len (es : List Ent) : (outA es).length ≤ es.length := List.length_filterMap_le ..
end Go.Proofs.Ytgbiimoednmlgaa
