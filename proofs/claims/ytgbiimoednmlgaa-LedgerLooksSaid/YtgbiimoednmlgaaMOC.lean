/- A part of the proof: Apz, LdM, LdC, LdO, LdI, Reg, one behind another. -/
import Derived.Test.YtgbiimoednmlgaaMOA
import Derived.Test.YtgbiimoednmlgaaMOB
import Derived.Deep.Upon
import Derived.Lib.Overlaps
import Derived.Lib.AppendZerosOnto
import Derived.Lib.AppendZeros
import Derived.Laws.Externs
import Derived.Laws.CopyRow
import Derived.Laws.Cover1
import Derived.Sort.Walk0
import Derived.BigQuiet
import Derived.BigRegion
import Derived.StillTailTactics
import Derived.Deep.CutBlock
import Derived.Deep.DeepCutAuto
import Derived.Deep.QuietTactic
import Derived.IntWalk
import Derived.LoopTactic
import Derived.Shelf.RegionOpenPlain
import Derived.Deep.RegionHeld3
/- append of whatever slice; rows of texts. -/
namespace Go.Proofs.Ytgbiimoednmlgaa
set_option linter.unusedVariables false
set_option linter.unusedSimpArgs false
open Go.RowKit
/-- append of whatever slice onto a row of the call's own: of nothing, too. -/
theorem ap_rowZ {P : Program} {w : World} {ops : Array Oper} {rest : List Oper} {o : Oper} {a : Act} {Q : Exit → Act → World → Prop} {t e : TypeId} {z : Value} {size bytes base : Nat}
    (hinfo : (P.info? e).map (fun i => (i.zero, i.size, i.bytes)) = some (some z, size, bytes)) (ht : P.underlying t = some (.slice e)) (hzs : z.cells.size = size) (hsz : 0 < size)
    (hgd : o.guard = none) (s x : Operand) (ho : o.op = .call { callee := .builtin .append, args := #[s, x], argTypes := #[t, t] })
    {v : Value} {n : Nat} {xs : List Value} (hs : a.eval s = v) (hown : w.ownsRow base e size v n xs) (hbase : base ≤ w.heap.size)
    (ao : Option Addr) (m c : Nat) (news : List Value) (hx : a.eval x = .slice ao m c) (hl : news.length = m * size)
    (hnews : 0 < m → ∃ ad, ao = some ad ∧ ∀ j u, news[j]? = some u → w.cell? (ad.add j) = some u) (h1 : ∀ u ∈ news, u.oneCell' = true)
    (h63 : n + m ≤ maxLen) (hbytes : (n + m) * bytes ≤ 140737488355328)
    (h : ∀ v' w', w'.ownsRow base e size v' (n + m) (xs ++ news) → w.grownBy w' v.ownBlock → (v'.ownBlock = v.ownBlock ∨ v'.ownBlock = some w.heap.size) → wpList P ops Q rest (a.put o.dst v') w') :
    wpList P ops Q (o :: rest) a w := by
  by_cases hm : m = 0
  · subst hm
    obtain ⟨i, hi, hz, hsize, hby⟩ := info_parts hinfo
    obtain ⟨av, capv, rfl⟩ := own_slice hown
    have hl0 : news = [] := List.length_eq_zero_iff.1 (by rw [hl, Nat.zero_mul])
    subst hl0
    have hcap : n ≤ capv := by
      rcases hown.2 with ⟨h1, h2⟩ | ⟨g, cap', cur, h1, h2, h3, h4, h5⟩
      · injection h1 with _ h1 h3; omega
      · injection h1 with _ h1 h3; omega
    have hsrc : Src P i.size t (.slice ao 0 c) 0 [] w := by
      cases ao with
      | none => exact Src.ofNil w ht c
      | some ad => exact Src.ofSlice w ht ad 0 c [] (by simp) (fun j u h => by cases h) (fun u h => by cases h)
    have hrun := run_append_nothing (P := P) w t t o.type e i ht hi av n capv hcap _ hsrc
    refine wpList_plain hgd fun _ hK => ?_
    unfold Oper.wp execOp
    simp only [ho, resolve, invoke, builtin, Sem.run_bind, Sem.run_pure, Result.andThen_ok, List.map_toArray, List.map_cons, List.map_nil, hs, hx, hrun]
    exact hK _ _ (h _ _ (by rw [List.append_nil]; exact hown) (World.grownBy.refl _ _) (.inl rfl))
  · obtain ⟨ad, rfl, hc⟩ := hnews (by omega)
    exact ap_row hinfo ht hzs hsz hgd s x ho hs hown hbase ad m c news hx hl hc h1 h63 hbytes h
theorem infoS : (Try.prog.info? 9).map (fun i => (i.zero, i.size, i.bytes)) = some (some (.string ⟨#[]⟩), 1, 16) := by kernel_rfl
theorem str_cells {w : World} {X : List Nat} {l : List (List UInt8)} {b o len cap : Nat} (h : SlR strK w X l (some ⟨b, o, none⟩) len cap) : ∀ j u, (l.map encStr)[j]? = some u → w.cell? ((⟨b, o, none⟩ : Addr).add j) = some u := by
  intro j u hu
  rw [List.getElem?_map] at hu
  cases hj : l[j]? with
  | none => rw [hj] at hu; cases hu
  | some s =>
    rw [hj] at hu
    injection hu with hu
    have hlt : j < len := by rw [← h.facts.1]; exact (List.getElem?_eq_some_iff.1 hj).1
    obtain ⟨b', o', s', cs, ha, -, -, hs, hR, -, hc⟩ := h.at j hlt
    injection ha with ha; injection ha with h1 h2; subst h1; subst h2
    rw [hj] at hs; injection hs with hs; subst hs
    have hR' : cs = [encStr s] := hR
    subst hR'
    have := hc 0 _ rfl
    rw [Mem.add_off]
    rw [← hu]
    simpa [strK] using this
theorem enc_one (l : List (List UInt8)) : ∀ u ∈ l.map encStr, u.oneCell' = true := by
  intro u hu
  obtain ⟨s, -, rfl⟩ := List.mem_map.1 hu
  simp [encStr, Value.oneCell']
/-- A row of texts of the call's own, as a slice. -/
theorem own_strs {w0 w : World} {v : Value} {n : Nat} {l : List (List UInt8)} (h : w.ownsRow w0.heap.size 9 1 v n (l.map encStr)) (hl : l.length = n) (hb : Below w0.heap.size w0 w) {X : List Nat} (hX : ∀ b ∈ X, b < w0.heap.size) :
    ∃ a cap, v = .slice a n cap ∧ SlR strK w X l a n cap := by
  have hfl : ∀ l : List (List UInt8), (l.map (fun s => [encStr s])).flatten = l.map encStr := fun l => by induction l with | nil => rfl | cons x t ih => simp [ih]
  have h' := h
  rw [← hfl] at h'
  obtain ⟨a, c, rfl, hsl, -⟩ := own_sl (w0 := w0) (X := X) ⟨hb, h'⟩ (by rw [List.length_map, hl]) (fun c hc => by obtain ⟨s, _, rfl⟩ := List.mem_map.1 hc; rfl) hX
  refine ⟨a, c, rfl, ⟨l.map (fun s => [encStr s]), by rw [List.length_map], fun i x cs hx hc => ?_, hsl⟩⟩
  rw [List.getElem?_map, hx] at hc
  injection hc with hc; exact hc.symm
end Go.Proofs.Ytgbiimoednmlgaa

/- Accounts, moves, entries in memory. -/
namespace Go.Proofs.Ytgbiimoednmlgaa
set_option linter.unusedVariables false
set_option linter.unusedSimpArgs false
open Go.RowKit
def acctC (a : Acct) : List Value := [.string a.party, .string a.coin, .int .i64 a.amt]
structure AcctOk (a : Acct) : Prop where
  party : a.party.size ≤ maxLen
  coin : a.coin.size ≤ maxLen
  amt : I64 a.amt
def acctK : Elt Acct where
  sz := 3
  pos := by decide
  R := fun _ _ a cs => cs = acctC a ∧ AcctOk a
  kept := fun h _ => h
  less := fun h _ => h
  one := fun h => by obtain ⟨rfl, _⟩ := h; exact ⟨rfl, by simp [acctC, Value.oneCell']⟩
theorem acct_at {w : World} {X : List Nat} {l : List Acct} {a : Option Addr} {len cap : Nat} (h : SlR acctK w X l a len cap) (k : Nat) (hk : k < len) :
    ∃ b o x, a = some ⟨b, o, none⟩ ∧ l[k]? = some x ∧ AcctOk x ∧ w.cell? ⟨b, o + k * 3, none⟩ = some (.string x.party) ∧ w.cell? ⟨b, o + k * 3 + 1, none⟩ = some (.string x.coin) ∧ w.cell? ⟨b, o + k * 3 + 2, none⟩ = some (.int .i64 x.amt) := by
  obtain ⟨b, o, f, cs, ha, hb, hX, hf, ⟨rfl, h1⟩, -, hc⟩ := h.at k hk
  exact ⟨b, o, f, ha, hf, h1, hc 0 _ rfl, hc 1 _ rfl, hc 2 _ rfl⟩
def mvC (x : Mv) : List Value := [.string x.src, .string x.dst, .string x.coin, .int .i64 x.amt]
structure MvOk (x : Mv) : Prop where
  src : x.src.size ≤ maxLen
  dst : x.dst.size ≤ maxLen
  coin : x.coin.size ≤ maxLen
  amt : I64 x.amt
def mvK : Elt Mv where
  sz := 4
  pos := by decide
  R := fun _ _ x cs => cs = mvC x ∧ MvOk x
  kept := fun h _ => h
  less := fun h _ => h
  one := fun h => by obtain ⟨rfl, _⟩ := h; exact ⟨rfl, by simp [mvC, Value.oneCell']⟩
theorem mv_at {w : World} {X : List Nat} {l : List Mv} {a : Option Addr} {len cap : Nat} (h : SlR mvK w X l a len cap) (k : Nat) (hk : k < len) :
    ∃ b o x, a = some ⟨b, o, none⟩ ∧ l[k]? = some x ∧ MvOk x ∧ w.cell? ⟨b, o + k * 4, none⟩ = some (.string x.src) ∧ w.cell? ⟨b, o + k * 4 + 1, none⟩ = some (.string x.dst) ∧ w.cell? ⟨b, o + k * 4 + 2, none⟩ = some (.string x.coin) ∧ w.cell? ⟨b, o + k * 4 + 3, none⟩ = some (.int .i64 x.amt) := by
  obtain ⟨b, o, f, cs, ha, hb, hX, hf, ⟨rfl, h1⟩, -, hc⟩ := h.at k hk
  exact ⟨b, o, f, ha, hf, h1, hc 0 _ rfl, hc 1 _ rfl, hc 2 _ rfl, hc 3 _ rfl⟩
/-- Entries: a row of their own, and each one's amounts in a row of its own. -/
def entC (e : Ent) : List Value := [.string e.party, .string e.coin, .int .i64 0, e.av]
def entR (es : List Ent) : List Value := (es.map entC).flatten
def intC (l : List Int) : List Value := l.map (fun n => .int .i64 n)
structure EnAt (base : Nat) (w : World) (v : Value) (es : List Ent) : Prop where
  row : w.ownsRow base 79 4 v es.length (entR es)
  each : ∀ (j : Nat) e, es[j]? = some e → w.ownsRow base 2 1 e.av e.all.length (intC e.all)
  apart : ∀ (i j : Nat) e f, i ≠ j → es[i]? = some e → es[j]? = some f → ∀ g, e.av.ownBlock = some g → f.av.ownBlock ≠ some g
  siz : ∀ e ∈ es, e.party.size ≤ maxLen ∧ e.coin.size ≤ maxLen
theorem EnAt.nil (base : Nat) (w : World) : EnAt base w (.slice none 0 0) [] := ⟨World.ownsRow_nil _ _ _ _, fun j e h => by simp at h, fun i j e f _ h => by simp at h, fun e h => nomatch h⟩
theorem EnAt.below {base : Nat} {w w' : World} {v : Value} {es : List Ent} (h : EnAt base w v es) (b : Below w.heap.size w w') : EnAt base w' v es :=
  ⟨own_below h.row b, fun j e he => own_below (h.each j e he) b, h.apart, h.siz⟩
theorem entR_at (es : List Ent) {k : Nat} {e : Ent} (h : es[k]? = some e) (j : Nat) (hj : j < 4) : (entR es)[k * 4 + j]? = (entC e)[j]? := by
  unfold entR
  exact flat_get 4 _ (fun c hc => by obtain ⟨x, _, rfl⟩ := List.mem_map.1 hc; rfl) k j (entC e) (by rw [List.getElem?_map, h]; rfl) hj
theorem entR_len (es : List Ent) : (entR es).length = es.length * 4 := by
  unfold entR
  rw [flat_len 4 _ (fun c hc => by obtain ⟨x, _, rfl⟩ := List.mem_map.1 hc; rfl), List.length_map]
theorem entR_append (a b : List Ent) : entR (a ++ b) = entR a ++ entR b := by unfold entR; rw [List.map_append, List.flatten_append]
theorem entR_one (e : Ent) : entR [e] = entC e := by unfold entR; simp
theorem entR_take (es : List Ent) (i : Nat) : (entR es).take (i * 4) = entR (es.take i) := by
  have h := entR_append (es.take i) (es.drop i)
  rw [List.take_append_drop] at h
  rw [h]
  by_cases hi : i ≤ es.length
  · have hl : (entR (es.take i)).length = i * 4 := by rw [entR_len, List.length_take, Nat.min_eq_left hi]
    rw [← hl]; exact List.take_left
  · have hd : es.drop i = [] := List.drop_eq_nil_of_le (by omega)
    rw [hd]
    have : entR ([] : List Ent) = [] := rfl
    rw [this, List.append_nil]
    exact List.take_of_length_le (by rw [entR_len, List.length_take]; omega)
theorem entR_drop (es : List Ent) (i : Nat) (hi : i ≤ es.length) : (entR es).drop (i * 4) = entR (es.drop i) := by
  have h := entR_append (es.take i) (es.drop i)
  rw [List.take_append_drop] at h
  rw [h]
  have hl : (entR (es.take i)).length = i * 4 := by rw [entR_len, List.length_take, Nat.min_eq_left hi]
  rw [← hl]; exact List.drop_left
theorem EnAt.at {base : Nat} {w : World} {v : Value} {es : List Ent} (h : EnAt base w v es) (k : Nat) (hk : k < es.length) : ∃ g cap e, v = .slice (some ⟨g, 0, none⟩) es.length cap ∧ es[k]? = some e ∧ w.cell? ⟨g, k * 4, none⟩ = some (.string e.party) ∧ w.cell? ⟨g, k * 4 + 1, none⟩ = some (.string e.coin) ∧ w.cell? ⟨g, k * 4 + 2, none⟩ = some (.int .i64 0) ∧ w.cell? ⟨g, k * 4 + 3, none⟩ = some e.av ∧ (∀ j, w.frozen? ⟨g, j, none⟩ = false) := by
  obtain ⟨g, cap, rfl, -⟩ := own_form h.row (by omega)
  have hf : es[k]? = some (es[k]'hk) := List.getElem?_eq_getElem hk
  have hc : ∀ j u, j < 4 → (entC (es[k]'hk))[j]? = some u → w.cell? ⟨g, k * 4 + j, none⟩ = some u := by
    intro j u hj hu
    rw [h.row.cellAt (k * 4 + j) (by omega), entR_at es hf j hj]; exact hu
  exact ⟨g, cap, es[k]'hk, rfl, hf, hc 0 _ (by omega) rfl, hc 1 _ (by omega) rfl, hc 2 _ (by omega) rfl, hc 3 _ (by omega) rfl, fun j => h.row.frozenAt j⟩
/-- Entries' row and amounts' rows lie in different blocks: their elements' types differ. -/
theorem row_ne {w : World} {base base' : Nat} {e e' : TypeId} {sz sz' n n' : Nat} {v v' : Value} {xs xs' : List Value} (h : w.ownsRow base e sz v n xs) (h' : w.ownsRow base' e' sz' v' n' xs') (ht : e ≠ e') {g : Nat} (hg : v.ownBlock = some g) : v'.ownBlock ≠ some g := by
  intro hg'
  rcases h.2 with ⟨rfl, _⟩ | ⟨a, cap, cur, rfl, _, h1, _⟩
  · cases hg
  · rcases h'.2 with ⟨rfl, _⟩ | ⟨a', cap', cur', rfl, _, h2, _⟩
    · cases hg'
    · simp only [Value.ownBlock, Option.some.injEq] at hg hg'
      rw [hg] at h1
      rw [hg'] at h2
      rw [h1] at h2
      injection h2 with h2
      injection h2 with _ h2
      exact ht h2
end Go.Proofs.Ytgbiimoednmlgaa

/- copy into a row, whatever the elements' size. -/
namespace Go.Proofs.Ytgbiimoednmlgaa
set_option linter.unusedVariables false
set_option linter.unusedSimpArgs false
open Go.RowKit
theorem run_copy_rowK {P : Program} (w : World) (dT sT ty elem : TypeId) (sz g o dLen dCap : Nat) (a : Addr) (sLen sCap : Nat) (cur : Array Value) (t : TypeId) (cs : List Value)
    (hu : P.underlying dT = some (.slice elem)) (hs : (P.info? elem).map (·.size) = some sz)
    (hg : w.heap[g]? = some (.cells cur t (0, 0))) (hn : cs.length = (Nat.min sLen dLen) * sz)
    (hsrc : ∀ j v, cs[j]? = some v → w.cell? (a.add j) = some v) (hfit : o + cs.length ≤ cur.size) (h1 : ∀ v ∈ cs, v.oneCell' = true) :
    (Builtin.copy_ #[dT, sT] ty #[.slice (some ⟨g, o, none⟩) dLen dCap, .slice (some a) sLen sCap]).run P w =
      .ok (goInt (Nat.min sLen dLen)) (w.setRow g (cur.toList.take o ++ cs ++ cur.toList.drop (o + cs.length)).toArray) := by
  have hl := run_firstCells_some (P := P) w sz (Nat.min sLen dLen) a sLen sCap cs hn hsrc
  have hst := run_storeCells_at P g o t cs 0 cur w hg (by simpa using hfit) h1
  cases hq : P.info? elem with
  | none => simp [hq] at hs
  | some i =>
    have hi : i.size = sz := by simpa [hq] using hs
    simp only [Nat.add_zero] at hst
    simp [Builtin.copy_, run_underlying hu, Builtin.lenOf, sizeOf, typeInfo, hq, hi, hl, hst]
theorem wpList_copy_run {P : Program} {w : World} {ops : Array Oper} {rest : List Oper} {o : Oper} {a : Act} {Q : Exit → Act → World → Prop} (hgd : o.guard = none) (d s : Operand) (t t' : TypeId)
    (ho : o.op = .call { callee := .builtin .copy, args := #[d, s], argTypes := #[t, t'] }) (v u : Value) (hd : a.eval d = v) (hs : a.eval s = u) {v' : Value} {w' : World}
    (hr : (Builtin.copy_ #[t, t'] o.type #[v, u]).run P w = .ok v' w') (h : wpList P ops Q rest (a.put o.dst v') w') : wpList P ops Q (o :: rest) a w := by
  refine wpList_plain hgd fun _ hK => ?_
  unfold Oper.wp execOp
  simp only [ho, resolve, invoke, builtin, Sem.run_bind, Sem.run_pure, Result.andThen_ok, List.map_toArray, List.map_cons, List.map_nil, hd, hs, hr]
  exact hK _ _ h
theorem step_copy_run {P : Program} {ops : Array Oper} {o : Oper} {a : Act} {w : World} {K : Act → World → Prop} {Q : Exit → Act → World → Prop} {E : Prop}
    (hg : o.guard = none) (d x : Operand) (dT sT : TypeId) (hop : o.op = Op.call { callee := Callee.builtin Builtin.copy, args := #[d, x], argTypes := #[dT, sT] })
    (v u : Value) (hd : a.eval d = v) (hx : a.eval x = u) {v' : Value} {w' : World} (hr : (Builtin.copy_ #[dT, sT] o.type #[v, u]).run P w = .ok v' w') (hK : K (a.put o.dst v') w') :
    if Region.wanted o (yielded ops a.tmps) = true then Oper.wp P o a w K Q else E := by
  have hw : Region.wanted o (yielded ops a.tmps) = true := by simp [Region.wanted, hg]
  rw [if_pos hw]
  unfold Oper.wp execOp
  simp only [hop, resolve, invoke, builtin, Sem.run_bind, Sem.run_pure, Result.andThen_ok, List.map_toArray, List.map_cons, List.map_nil, hd, hx, hr]
  exact hK
end Go.Proofs.Ytgbiimoednmlgaa

/- The contracts of cmp.Compare at strings, cmp.Or at int, order. -/
namespace Go.Proofs.Ytgbiimoednmlgaa
set_option linter.unusedVariables false
set_option linter.unusedSimpArgs false
open Go.RowKit
theorem less_b (a b : ByteArray) : Op.bytesLess a.toList b.toList = decide (a.data.toList < b.data.toList) := by
  rw [ByteArray.toList_eq, ByteArray.toList_eq, Go.Proofs.bytesLess_eq]
theorem same_b (a b : ByteArray) : (a.toList == b.toList) = decide (a.data.toList = b.data.toList) := by
  rw [ByteArray.toList_eq, ByteArray.toList_eq]
  by_cases h : a.data.toList = b.data.toList
  · rw [decide_eq_true h, beq_iff_eq]; exact h
  · rw [decide_eq_false h, beq_eq_false_iff_ne]; exact h
set_option maxHeartbeats 1000000
theorem isNaNs_any (s : ByteArray) (w : World) : Calls Try.prog 90 #[.string s] w fun e w' => e = .returned (.bool false) ∧ w = w' := by
  go_enter Try.func90, Try.ntmps90
  go_wp2_with fail
  go_ret
  exact ⟨rfl, rfl⟩
theorem cmps_any (a b : ByteArray) (w : World) : Calls Try.prog 81 #[.string a, .string b] w fun e w' => e = .returned (.int .i64 (scmp a.data.toList b.data.toList)) ∧ w = w' := by
  have h1 := less_b a b
  have h2 := same_b a b
  have HR := Lib.hid (show scmp a.data.toList b.data.toList = if a.data.toList < b.data.toList then -1 else if b.data.toList < a.data.toList then 1 else 0 from rfl)
  obtain ⟨R, hR⟩ : ∃ R, R = scmp a.data.toList b.data.toList := ⟨_, rfl⟩
  rw [← hR] at HR ⊢
  clear hR
  by_cases hl : a.data.toList < b.data.toList
  · rw [decide_eq_true hl] at h1
    obtain rfl : R = -1 := by rw [HR.out, if_pos hl]
    clear HR hl h2
    go_enter Try.func81, Try.ntmps81
    go_wp2_with fail
    go_at_call 90
    (with_reducible refine (isNaNs_any _ _).mono ?_)
    rintro e w1 ⟨rfl, rfl⟩
    go_wp2_with fail
    go_at_call 90
    (with_reducible refine (isNaNs_any _ _).mono ?_)
    rintro e w1 ⟨rfl, rfl⟩
    go_wp2_with fail
    go_ret
    exact ⟨rfl, rfl⟩
  · rw [decide_eq_false hl] at h1
    by_cases hg : b.data.toList < a.data.toList
    · obtain rfl : R = 1 := by rw [HR.out, if_neg hl, if_pos hg]
      have hne : a.data.toList ≠ b.data.toList := fun e => List.lt_irrefl _ (e ▸ hg)
      rw [decide_eq_false hne] at h2
      clear HR hl hg hne
      go_enter Try.func81, Try.ntmps81
      go_wp2_with fail
      go_at_call 90
      (with_reducible refine (isNaNs_any _ _).mono ?_)
      rintro e w1 ⟨rfl, rfl⟩
      go_wp2_with fail
      go_at_call 90
      (with_reducible refine (isNaNs_any _ _).mono ?_)
      rintro e w1 ⟨rfl, rfl⟩
      go_wp2_with fail
      go_ret
      exact ⟨rfl, rfl⟩
    · obtain rfl : R = 0 := by rw [HR.out, if_neg hl, if_neg hg]
      have he : a.data.toList = b.data.toList := List.le_antisymm (List.not_lt.1 hg) (List.not_lt.1 hl)
      rw [decide_eq_true he] at h2
      clear HR hl hg he
      go_enter Try.func81, Try.ntmps81
      go_wp2_with fail
      go_at_call 90
      (with_reducible refine (isNaNs_any _ _).mono ?_)
      rintro e w1 ⟨rfl, rfl⟩
      go_wp2_with fail
      go_at_call 90
      (with_reducible refine (isNaNs_any _ _).mono ?_)
      rintro e w1 ⟨rfl, rfl⟩
      go_wp2_with fail
      go_ret
      exact ⟨rfl, rfl⟩
/-- cmp.Or of two. -/
theorem or2_any (x y : Int) (g cap : Nat) (w : World) (h0 : w.cell? ⟨g, 0, none⟩ = some (.int .i64 x)) (h1 : w.cell? ⟨g, 1, none⟩ = some (.int .i64 y)) :
    Calls Try.prog 80 #[.slice (some ⟨g, 0, none⟩) 2 cap] w fun e w' => e = .returned (.int .i64 (if x ≠ 0 then x else y)) ∧ w = w' := by
  obtain ⟨R, hR⟩ : ∃ R, R = (if x ≠ 0 then x else y) := ⟨_, rfl⟩
  have HR := Lib.hid hR
  rw [← hR]
  clear hR
  go_enter Try.func80, Try.ntmps80
  go_wp2_with fail
  go_loopw [8] (fun i wr => ∃ (k : Nat), i = .int .i64 (k : Nat) ∧ k ≤ 2 ∧ wr = w ∧ Hid ((0 < k → x = 0) ∧ (1 < k → y = 0))) (fun i _ => 2 - (intOf i).toNat)
  case atStart => exact ⟨0, rfl, by omega, rfl, fun h => absurd h (by omega), fun h => absurd h (by omega)⟩
  case round =>
    obtain ⟨k, rfl, hk, rfl, HK⟩ := hrel
    have hk3 : k = 0 ∨ k = 1 ∨ k = 2 := by omega
    rcases hk3 with rfl | rfl | rfl
    · by_cases hx : x = 0
      · have hx' : (x != 0) = false := by simpa using hx
        have HX := Lib.hid hx
        clear hx
        go_wp2_with fail
        go_roundw
        case rel => exact ⟨1, rfl, by omega, trivial, fun _ => HX.out, fun h => absurd h (by omega)⟩
        case measure => simp [intOf]
      · have hx' : (x != 0) = true := by simpa using hx
        have HX : Hid (R = x) := by show R = x; rw [HR.out, if_pos hx]
        clear hx HR
        go_wp2_with fail
        go_ret
        exact ⟨by rw [HX.out]; rfl, rfl⟩
    · have hx := HK.out.1 (by omega)
      by_cases hy : y = 0
      · have hy' : (y != 0) = false := by simpa using hy
        have HY := Lib.hid hy
        have HX := Lib.hid hx
        clear hy hx
        go_wp2_with fail
        go_roundw
        case rel => exact ⟨2, rfl, by omega, trivial, fun _ => HX.out, fun _ => HY.out⟩
        case measure => simp [intOf]
      · have hy' : (y != 0) = true := by simpa using hy
        have HX : Hid (R = y) := by show R = y; rw [HR.out, if_neg (by simpa using hx)]
        clear hy HR hx
        go_wp2_with fail
        go_ret
        exact ⟨by rw [HX.out]; rfl, rfl⟩
    · have HX : Hid (R = 0) := by
        show R = 0
        rw [HR.out, if_neg (by simpa using HK.out.1 (by omega)), HK.out.2 (by omega)]
      clear HR
      go_wp2_with fail
      go_ret
      exact ⟨by rw [HX.out]; rfl, rfl⟩
set_option maxRecDepth 100000 in
set_option maxHeartbeats 4000000 in
theorem order_any (x y : Acct) (w : World) : Calls Try.prog 48 #[.agg (acctC x).toArray, .agg (acctC y).toArray] w fun e w' => e = .returned (.int .i64 (kcmp x.key y.key)) ∧ Below w.heap.size w w' := by
  have h1 := (Below.refl w.heap.size w).alloc (Nat.le_refl _) (.cells (acctC x).toArray 51)
  have h2 := h1.alloc h1.size (.cells (acctC y).toArray 51)
  have BX := Lib.hid ((Mem.Blk.new w 51 (acctC x).toArray).below ((Below.refl (w.alloc (.cells (acctC x).toArray 51)).heap.size _).alloc (Nat.le_refl _) (.cells (acctC y).toArray 51)))
  have BY := Lib.hid (Mem.Blk.new (w.alloc (.cells (acctC x).toArray 51)) 51 (acctC y).toArray)
  have HB := Lib.hid h2
  clear h1 h2
  show Calls Try.prog 48 #[.agg #[.string x.party, .string x.coin, .int .i64 x.amt], .agg #[.string y.party, .string y.coin, .int .i64 y.amt]] w _
  go_enter Try.func48, Try.ntmps48
  go_upto_region 1 with (fail)
  have BX' : Hid (Mem.Blk ((w.alloc (.cells #[.string x.party, .string x.coin, .int .i64 x.amt] 51)).alloc (.cells #[.string y.party, .string y.coin, .int .i64 y.amt] 51)) w.heap.size 51 (acctC x).toArray) := BX.out
  have BY' : Hid (Mem.Blk ((w.alloc (.cells #[.string x.party, .string x.coin, .int .i64 x.amt] 51)).alloc (.cells #[.string y.party, .string y.coin, .int .i64 y.amt] 51)) (w.alloc (.cells #[.string x.party, .string x.coin, .int .i64 x.amt] 51)).heap.size 51 (acctC y).toArray) := BY.out
  have HB' : Hid (Below w.heap.size w ((w.alloc (.cells #[.string x.party, .string x.coin, .int .i64 x.amt] 51)).alloc (.cells #[.string y.party, .string y.coin, .int .i64 y.amt] 51))) := HB.out
  clear BX BY HB
  have ez : (w.alloc (.cells #[.string x.party, .string x.coin, .int .i64 x.amt] 51)).heap.size = w.heap.size + 1 := by simp
  rw [ez] at BY'
  clear ez
  generalize (w.alloc (.cells #[.string x.party, .string x.coin, .int .i64 x.amt] 51)).alloc (.cells #[.string y.party, .string y.coin, .int .i64 y.amt] 51) = w1 at *
  have c0 : w1.cell? ⟨w.heap.size, 0, none⟩ = some (.string x.party) := BX'.out.cell 0
  have c1 : w1.cell? ⟨w.heap.size, 1, none⟩ = some (.string x.coin) := BX'.out.cell 1
  have d0 : w1.cell? ⟨w.heap.size + 1, 0, none⟩ = some (.string y.party) := BY'.out.cell 0
  have d1 : w1.cell? ⟨w.heap.size + 1, 1, none⟩ = some (.string y.coin) := BY'.out.cell 1
  go_still_tail 10, (by kernel_rfl)
  still_call ((cmps_any x.party y.party _).mono fun _ _ h => ⟨h.1, h.2.symm⟩)
  repeat still_step
  still_call ((cmps_any x.coin y.coin _).mono fun _ _ h => ⟨h.1, h.2.symm⟩)
  refine wpStill_nil ?_
  change wpList _ _ _ _ _ w1.drew
  have HB2 := Lib.hid (HB'.out.trans ((Below.refl w1.heap.size w1).drew.mono HB'.out.size))
  clear c0 c1 d0 d1 BX' BY' HB'
  have e1 : w1.drew.heap.size = w1.heap.size := rfl
  obtain ⟨A, hA⟩ : ∃ A, A = scmp x.party.data.toList y.party.data.toList := ⟨_, rfl⟩
  obtain ⟨B, hB⟩ : ∃ B, B = scmp x.coin.data.toList y.coin.data.toList := ⟨_, rfl⟩
  have HK : Hid (kcmp x.key y.key = if A ≠ 0 then A else B) := by show kcmp _ _ = _; rw [hA, hB]; rfl
  rw [← hA, ← hB]
  clear hA hB
  generalize w1.drew = w2 at *
  have BN := Mem.Blk.new w2 3 #[.int .i64 A, .int .i64 B]
  rw [e1] at BN
  have HB3 := Lib.hid (HB2.out.trans ((by have := (Below.refl w2.heap.size w2).alloc (Nat.le_refl _) (.cells #[.int .i64 A, .int .i64 B] 3); exact this : Below w2.heap.size w2 _).mono HB2.out.size))
  have HO := Lib.hid (or2_any A B w1.heap.size 2 _ (BN.cell 0) (BN.cell 1))
  obtain ⟨R, hR⟩ : ∃ R, R = (if A ≠ 0 then A else B) := ⟨_, rfl⟩
  rw [← hR] at HO HK
  clear BN HB2 hR
  go_wp2_with fail
  go_at_call 80
  (with_reducible refine HO.out.mono ?_)
  rintro e w3 ⟨rfl, rfl⟩
  go_wp2_with fail
  go_ret
  exact ⟨by rw [HK.out]; rfl, HB3.out⟩
end Go.Proofs.Ytgbiimoednmlgaa

/- The contract of slices.Insert over entries: one entry, at a place. -/
namespace Go.Proofs.Ytgbiimoednmlgaa
set_option linter.unusedVariables false
set_option linter.unusedSimpArgs false
open Go.RowKit
theorem infoE : (Try.prog.info? 79).map (fun i => (i.zero, i.size, i.bytes)) = some (some (.agg #[.string ⟨#[]⟩, .string ⟨#[]⟩, .int .i64 0, .slice none 0 0]), 4, 64) := by kernel_rfl
theorem sizeE (w : World) : (Go.sizeOf 79).run Try.prog w = .ok 4 w := by kernel_rfl
/-- What Insert gives. -/
def InsD (base : Nat) (w w' : World) (v : Value) (n i : Nat) (xs c4 : List Value) (x : Ending) : Prop :=
  ∃ v', x = .returned v' ∧ w'.ownsRow base 79 4 v' (n + 1) (xs.take (i * 4) ++ c4 ++ xs.drop (i * 4)) ∧ w.grownBy w' v.ownBlock ∧ (v'.ownBlock = v.ownBlock ∨ v'.ownBlock = some w.heap.size)
set_option maxRecDepth 100000 in
set_option maxHeartbeats 4000000 in
theorem insert_end (base : Nat) (v : Value) (n : Nat) (xs c4 : List Value) (vb : Nat) (w : World) (hown : w.ownsRow base 79 4 v n xs) (hb : base ≤ w.heap.size) (hn : n ≤ 1000000) (hc : c4.length = 4)
    (hvs : ∀ j u, c4[j]? = some u → w.cell? ⟨vb, j, none⟩ = some u) (h1 : ∀ u ∈ c4, u.oneCell' = true) :
    Calls Try.prog 69 #[v, .int .i64 (n : Nat), .slice (some ⟨vb, 0, none⟩) 1 1] w fun x w' => InsD base w w' v n n xs c4 x := by
  have HO := Lib.hid hown
  have HB := Lib.hid hb
  have HC := Lib.hid hc
  have H1 := Lib.hid h1
  have HV : Hid (∀ j u, c4[j]? = some u → w.cell? ((⟨vb, 0, none⟩ : Addr).add j) = some u) := by
    intro j u hu
    have e : (⟨vb, 0, none⟩ : Addr).add j = ⟨vb, j, none⟩ := by unfold Addr.add; split <;> simp_all
    rw [e]; exact hvs j u hu
  have hmx : maxLen = 9223372036854775807 := by decide
  have HX : Hid (xs.take (n * 4) ++ c4 ++ xs.drop (n * 4) = xs ++ c4) := by
    show _ = _
    rw [List.take_of_length_le (by rw [hown.1]; omega), List.drop_eq_nil_of_le (by rw [hown.1]; omega), List.append_nil]
  have hmx : n + 1 ≤ maxLen ∧ (n + 1) * 64 ≤ 140737488355328 := ⟨by omega, by omega⟩
  have HM := Lib.hid hmx
  unfold InsD
  rw [HX.out]
  obtain ⟨av, capv, rfl⟩ := own_slice hown
  have hnc : n ≤ capv := by
    rcases hown.2 with ⟨h1, h2⟩ | ⟨g, cap', cur, h1, h2, h3, h4, h5⟩
    · injection h1 with _ h1 h3; omega
    · injection h1 with _ h1 h3; omega
  clear hown hb hc h1 hvs hmx
  cases av with
  | none =>
    go_enter Try.func69, Try.ntmps69
    go_wp2_with (at_builtin; refine ap_row infoE Try.underlying75 rfl (by decide) rfl (.tmp 23) (.tmp 24) rfl rfl HO.out HB.out ⟨vb, 0, none⟩ 1 1 c4 rfl HC.out HV.out H1.out HM.out.1 HM.out.2 ?_; intro v3 w3 o1 g1 hv1; have HO3 := Lib.hid o1; have HG3 := Lib.hid g1; have HV3 := Lib.hid hv1; clear o1 g1 hv1)
    all_goals (go_ret; exact ⟨v3, rfl, HO3.out, HG3.out, HV3.out⟩)
  | some ad =>
    obtain ⟨ab, ao, asp⟩ := ad
    go_enter Try.func69, Try.ntmps69
    go_wp2_with (at_builtin; refine ap_row infoE Try.underlying75 rfl (by decide) rfl (.tmp 23) (.tmp 24) rfl rfl HO.out HB.out ⟨vb, 0, none⟩ 1 1 c4 rfl HC.out HV.out H1.out HM.out.1 HM.out.2 ?_; intro v3 w3 o1 g1 hv1; have HO3 := Lib.hid o1; have HG3 := Lib.hid g1; have HV3 := Lib.hid hv1; clear o1 g1 hv1)
    all_goals (go_ret; exact ⟨v3, rfl, HO3.out, HG3.out, HV3.out⟩)
theorem ins_cells {cur xs c4 : List Value} {n i cap : Nat} (hcl : cur.length = cap * 4) (hn : n + 1 ≤ cap) (hi : i < n) (ht : cur.take (n * 4) = xs) (hc : c4.length = 4) {R1 R2 : List Value}
    (h1 : R1 = cur.take ((i + 1) * 4) ++ xs.drop (i * 4) ++ cur.drop ((i + 1) * 4 + (xs.drop (i * 4)).length)) (h2 : R2 = R1.take (i * 4) ++ c4 ++ R1.drop (i * 4 + c4.length)) :
    R1.length = cap * 4 ∧ R2.length = cap * 4 ∧ R2.take ((n + 1) * 4) = xs.take (i * 4) ++ c4 ++ xs.drop (i * 4) := by
  have hxl : xs.length = n * 4 := by rw [← ht, List.length_take, hcl]; omega
  have hdl : (xs.drop (i * 4)).length = (n - i) * 4 := by rw [List.length_drop, hxl]; omega
  have l1 : R1.length = cap * 4 := by
    rw [h1, List.length_append, List.length_append, List.length_take, List.length_drop, List.length_drop, hxl, hcl]; omega
  have t1 : R1.take (i * 4) = xs.take (i * 4) := by
    rw [h1, List.append_assoc, List.take_append_of_le_length (by rw [List.length_take, hcl]; omega), List.take_take, ← ht, List.take_take]
    congr 1; omega
  have d1 : R1.drop (i * 4 + c4.length) = xs.drop (i * 4) ++ cur.drop ((i + 1) * 4 + (xs.drop (i * 4)).length) := by
    have hl : (cur.take ((i + 1) * 4)).length = i * 4 + c4.length := by rw [List.length_take, hcl, hc]; omega
    rw [h1, List.append_assoc, ← hl]
    exact List.drop_left
  refine ⟨l1, ?_, ?_⟩
  · rw [h2, List.length_append, List.length_append, List.length_take, List.length_drop, l1, hc]; omega
  · rw [h2, t1, d1, ← List.append_assoc]
    have hl : (xs.take (i * 4) ++ c4 ++ xs.drop (i * 4)).length = (n + 1) * 4 := by
      rw [List.length_append, List.length_append, List.length_take, hdl, hxl, hc]; omega
    rw [← hl]
    exact List.take_left
set_option maxRecDepth 100000 in
set_option maxHeartbeats 4000000 in
theorem insert_room (base g cap : Nat) (n i : Nat) (xs c4 : List Value) (vb : Nat) (w : World) (hown : w.ownsRow base 79 4 (.slice (some ⟨g, 0, none⟩) n cap) n xs) (hn : n ≤ 1000000) (hi : i < n) (hroom : n + 1 ≤ cap) (hc : c4.length = 4)
    (hvs : ∀ j u, c4[j]? = some u → w.cell? ⟨vb, j, none⟩ = some u) (h1 : ∀ u ∈ c4, u.oneCell' = true) (h1x : ∀ u ∈ xs, u.oneCell' = true) (hvb : vb ≠ g) (hsa : w.shape? vb = some (79, 4)) (hfa : ∀ j, w.frozen? ⟨vb, j, none⟩ = false) :
    Calls Try.prog 69 #[.slice (some ⟨g, 0, none⟩) n cap, .int .i64 (i : Nat), .slice (some ⟨vb, 0, none⟩) 1 1] w fun x w' => InsD base w w' (.slice (some ⟨g, 0, none⟩) n cap) n i xs c4 x := by
  obtain ⟨g', cap', cur, hv, hbg, hg, hnc, hcm, hcs, htake⟩ := hown.2.resolve_left (fun h => by omega)
  injection hv with e1 _ e3
  injection e1 with e1
  injection e1 with e1
  subst e1; subst e3
  have hxl : xs.length = n * 4 := hown.1
  have hcl : cur.toList.length = cap * 4 := by rw [Array.length_toList, hcs]
  have hov : ∀ lb cb, (callFunc 87 #[.slice (some ⟨vb, 0, none⟩) 1 1, .slice (some ⟨g, (i + 1) * 4, none⟩) lb cb]).run Try.prog w = .ok (.value (.bool false)) w := fun lb cb => by
    rw [run_callFunc_extern Try.func87 (by kernel_rfl) (by kernel_rfl) (by kernel_rfl) (e := Extern.SlicesOverlaps.overlaps #[75, 75] #[4]) (by kernel_rfl),
      Lib.run_overlaps_apart w 75 4 79 Try.underlying75 4 (fun w => sizeE w) ⟨vb, 0, none⟩ ⟨g, (i + 1) * 4, none⟩ 1 1 lb cb hvb 79 79 4 (cap * 4) hsa (by simp [World.shape?, hg, hcs]) (by omega) (hfa 0) (hfa 4)]
    rfl
  have hsz : (Try.prog.info? 79).map (·.size) = some 4 := by kernel_rfl
  have hdl : (xs.drop (i * 4)).length = (n - i) * 4 := by rw [List.length_drop, hxl]; omega
  obtain ⟨R1, hR1⟩ : ∃ R, R = (cur.toList.take ((i + 1) * 4) ++ xs.drop (i * 4) ++ cur.toList.drop ((i + 1) * 4 + (xs.drop (i * 4)).length)).toArray := ⟨_, rfl⟩
  have hcell : ∀ j u, xs[j]? = some u → w.cell? ⟨g, j, none⟩ = some u := by
    intro j u hu
    have := hown.cells (g := g) rfl j u hu
    have e : (⟨g, 0, none⟩ : Addr).add j = ⟨g, j, none⟩ := by unfold Addr.add; split <;> simp_all
    rw [e] at this; exact this
  have hcp1 : ∀ ty dc sc, (Builtin.copy_ #[75, 75] ty #[.slice (some ⟨g, (i + 1) * 4, none⟩) (n - i) dc, .slice (some ⟨g, i * 4, none⟩) (n + 1 - i) sc]).run Try.prog w.drew = .ok (goInt (n - i : Nat)) (w.drew.setRow g R1) := fun ty dc sc => by
    have h := run_copy_rowK w.drew 75 75 ty 79 4 g ((i + 1) * 4) (n - i) dc ⟨g, i * 4, none⟩ (n + 1 - i) sc cur 79 (xs.drop (i * 4)) Try.underlying75 hsz hg (by rw [hdl]; simp only [Nat.min_def]; split <;> omega)
      (fun j u hj => by
        have e : (⟨g, i * 4, none⟩ : Addr).add j = ⟨g, i * 4 + j, none⟩ := by unfold Addr.add; split <;> simp_all
        rw [e]
        rw [List.getElem?_drop] at hj
        exact hcell _ u hj)
      (by rw [hdl, hcs]; omega) (fun u hu => h1x u (List.mem_of_mem_drop hu))
    rw [← hR1] at h
    have em : Nat.min (n + 1 - i) (n - i) = n - i := by simp only [Nat.min_def]; split <;> omega
    rw [em] at h
    exact h
  obtain ⟨R2, hR2⟩ : ∃ R, R = (R1.toList.take (i * 4) ++ c4 ++ R1.toList.drop (i * 4 + c4.length)).toArray := ⟨_, rfl⟩
  have hR := ins_cells (R1 := R1.toList) (R2 := R2.toList) hcl hroom hi htake hc (by rw [hR1]) (by rw [hR2])
  have hg1 := setRow_heap w.drew g cur R1 79 (0, 0) hg
  have hcp2 : ∀ ty dc, (Builtin.copy_ #[75, 75] ty #[.slice (some ⟨g, i * 4, none⟩) (n + 1 - i) dc, .slice (some ⟨vb, 0, none⟩) 1 1]).run Try.prog (w.drew.setRow g R1) = .ok (goInt (1 : Nat)) ((w.drew.setRow g R1).setRow g R2) := fun ty dc => by
    have h := run_copy_rowK (w.drew.setRow g R1) 75 75 ty 79 4 g (i * 4) (n + 1 - i) dc ⟨vb, 0, none⟩ 1 1 R1 79 c4 Try.underlying75 hsz hg1 (by rw [hc]; simp only [Nat.min_def]; split <;> omega)
      (fun j u hj => by
        have e : (⟨vb, 0, none⟩ : Addr).add j = ⟨vb, j, none⟩ := by unfold Addr.add; split <;> simp_all
        rw [e]
        have h2 : (w.drew.setRow g R1).heap[vb]? = w.heap[vb]? := setRow_other w.drew g vb R1 hvb
        rw [World.cell?_of_block (w := w) h2]
        exact hvs j u hj)
      (by have := hR.1; rw [Array.length_toList] at this; rw [this, hc]; omega) h1
    rw [← hR2] at h
    have em : Nat.min 1 (n + 1 - i) = 1 := by simp only [Nat.min_def]; split <;> omega
    rw [em] at h
    exact h
  have FIN : Hid (∀ x, x = Ending.returned (.slice (some ⟨g, 0, none⟩) (n + 1) cap) → InsD base w ((w.drew.setRow g R1).setRow g R2) (.slice (some ⟨g, 0, none⟩) n cap) n i xs c4 x) := by
    rintro x rfl
    have hl2 : R2.size = cap * 4 := by have := hR.2.1; rw [Array.length_toList] at this; exact this
    refine ⟨_, rfl, ⟨?_, .inr ⟨g, cap, R2, rfl, hbg, setRow_heap (w.drew.setRow g R1) g R1 R2 79 (0, 0) hg1, hroom, hcm, hl2, hR.2.2⟩⟩, ⟨rfl, rfl, rfl, by simp, fun k _ hk => ?_⟩, .inl rfl⟩
    · rw [List.length_append, List.length_append, List.length_take, hdl, hxl, hc]; omega
    · have hne : k ≠ g := fun e => hk (by rw [e]; rfl)
      rw [setRow_other (w.drew.setRow g R1) g k R2 hne]
      exact setRow_other w.drew g k R1 hne
  clear hR1 hR2 hR hg1 htake hcs hcl hg hcm hbg hcell hdl
  have hcw1 : IntKind.i64.wrap ((i : Int) + 1) = (i : Int) + 1 := IntWalk.i64_in _ (by omega)
  have hcw2 : IntKind.i64.wrap ((n : Int) + 1) = (n : Int) + 1 := IntWalk.i64_in _ (by omega)
  have hb1 : ¬ ((i : Int) = (n : Int)) := by omega
  have hb2 : (i : Int) ≤ (n : Int) := by omega
  have hb3 : (n : Int) + 1 ≤ (cap : Int) := by omega
  have hb4 : ¬ ((cap : Int) < (n : Int) + 1) := by omega
  have hb5 : ¬ (cap = i + 1) := by omega
  have hb6 : (0 : Int) ≤ (i : Int) + 1 := by omega
  have hb7 : ¬ (cap = i) := by omega
  have hb8 : (i : Int) ≤ (n : Int) + 1 := by omega
  have hb9 : (i : Int) + 1 ≤ (n : Int) + 1 := by omega
  go_enter Try.func69, Try.ntmps69
  go_wp2_with (simp only [hov])
  go_still_tail 8, (by kernel_rfl)
  change wpList _ _ _ _ _ w.drew
  go_wp2_with (first
    | (at_builtin; refine wpList_copy_run rfl (.tmp 73) (.tmp 76) 75 75 rfl _ _ rfl rfl (hcp1 _ _ _) ?_)
    | (at_builtin; refine wpList_copy_run rfl (.tmp 80) (.tmp 81) 75 75 rfl _ _ rfl rfl (hcp2 _ _) ?_))
  go_ret
  exact FIN.out _ rfl
theorem grow_cells {row xs c4 : List Value} {n i G : Nat} (hrl : row.length = G * 4) (hn : n + 1 ≤ G) (hi : i < n) (hr : row.take (i * 4) = xs.take (i * 4)) (hx : xs.length = n * 4) (hc : c4.length = 4) {R2 R3 : List Value}
    (h2 : R2 = row.take (i * 4) ++ c4 ++ row.drop (i * 4 + c4.length)) (h3 : R3 = R2.take ((i + 1) * 4) ++ xs.drop (i * 4) ++ R2.drop ((i + 1) * 4 + (xs.drop (i * 4)).length)) :
    R2.length = G * 4 ∧ R3.length = G * 4 ∧ R3.take ((n + 1) * 4) = xs.take (i * 4) ++ c4 ++ xs.drop (i * 4) := by
  have hdl : (xs.drop (i * 4)).length = (n - i) * 4 := by rw [List.length_drop, hx]; omega
  have l2 : R2.length = G * 4 := by
    rw [h2, List.length_append, List.length_append, List.length_take, List.length_drop, hrl, hc]; omega
  have t2 : R2.take ((i + 1) * 4) = xs.take (i * 4) ++ c4 := by
    have hl : (row.take (i * 4) ++ c4).length = (i + 1) * 4 := by rw [List.length_append, List.length_take, hrl, hc]; omega
    rw [h2, ← hr, ← hl]
    exact List.take_left
  refine ⟨l2, ?_, ?_⟩
  · rw [h3, List.length_append, List.length_append, List.length_take, List.length_drop, List.length_drop, l2, hx]; omega
  · rw [h3, t2]
    have hl : (xs.take (i * 4) ++ c4 ++ xs.drop (i * 4)).length = (n + 1) * 4 := by
      rw [List.length_append, List.length_append, List.length_take, hdl, hx, hc]; omega
    rw [← hl]
    exact List.take_left
set_option maxRecDepth 100000 in
set_option maxHeartbeats 4000000 in
theorem insert_grow (base g cap : Nat) (n i : Nat) (xs c4 : List Value) (vb : Nat) (w : World) (hown : w.ownsRow base 79 4 (.slice (some ⟨g, 0, none⟩) n cap) n xs) (hb : base ≤ w.heap.size) (hn : n ≤ 1000000) (hi : i < n) (hroom : cap < n + 1) (hc : c4.length = 4)
    (hvs : ∀ j u, c4[j]? = some u → w.cell? ⟨vb, j, none⟩ = some u) (h1 : ∀ u ∈ c4, u.oneCell' = true) (h1x : ∀ u ∈ xs, u.oneCell' = true) (hvw : vb < w.heap.size) :
    Calls Try.prog 69 #[.slice (some ⟨g, 0, none⟩) n cap, .int .i64 (i : Nat), .slice (some ⟨vb, 0, none⟩) 1 1] w fun x w' => InsD base w w' (.slice (some ⟨g, 0, none⟩) n cap) n i xs c4 x := by
  obtain ⟨iE, hiE, hzE, hzsE, hbyE⟩ := info_parts infoE
  have hgw : g < w.heap.size := (own_lt hown rfl).2
  have hnc : n ≤ cap := by
    rcases hown.2 with ⟨h1, h2⟩ | ⟨g, cap', cur, h1, h2, h3, h4, h5⟩
    · cases h1
    · injection h1 with _ h1 h3; omega
  have hxl : xs.length = n * 4 := hown.1
  have hsz : (Try.prog.info? 79).map (·.size) = some 4 := by kernel_rfl
  have hdl : (xs.drop (i * 4)).length = (n - i) * 4 := by rw [List.length_drop, hxl]; omega
  have hcell : ∀ j u, xs[j]? = some u → w.cell? ⟨g, j, none⟩ = some u := by
    intro j u hu
    have := hown.cells (g := g) rfl j u hu
    have e : (⟨g, 0, none⟩ : Addr).add j = ⟨g, j, none⟩ := by unfold Addr.add; split <;> simp_all
    rw [e] at this; exact this
  have hold : (Builtin.firstCells iE.size i (.slice (some ⟨g, 0, none⟩) i cap)).run Try.prog w.drew = .ok (xs.take (i * 4)).toArray w.drew := by
    rw [hzsE]
    exact run_firstCells_some w.drew 4 i ⟨g, 0, none⟩ i cap (xs.take (i * 4)) (by rw [List.length_take, hxl]; omega) (fun j u hj => by
      have e : (⟨g, 0, none⟩ : Addr).add j = ⟨g, j, none⟩ := by unfold Addr.add; split <;> simp_all
      rw [e]
      rw [List.getElem?_take] at hj
      split at hj
      · exact hcell j u hj
      · cases hj)
  obtain ⟨G, hG⟩ : ∃ G, G = grownCap w (n + 1) cap 79 := ⟨_, rfl⟩
  have hGn : n + 1 ≤ G := by rw [hG]; exact grownCap_ge w _ _ _
  have hmx : maxLen = 9223372036854775807 := by decide
  have hG63 : G ≤ maxLen := by rw [hG]; exact grownCap_le_maxLen w (n + 1) cap 79 (by omega)
  obtain ⟨zz, hzz⟩ : ∃ z, z = (Value.agg #[.string ⟨#[]⟩, .string ⟨#[]⟩, .int .i64 0, .slice none 0 0]) := ⟨_, rfl⟩
  have hzs4 : zz.cells.size = 4 := by rw [hzz]; rfl
  rw [← hzz] at hzE
  obtain ⟨ROW, hROW⟩ : ∃ ROW : Array Value, ROW = (xs.take (i * 4)).toArray ++ Builtin.zeroCells zz.cells (n + 1 - i) ++ Builtin.zeroCells zz.cells (G - (n + 1)) := ⟨_, rfl⟩
  have hkk : (n : Int) + 1 - (i : Int) = ((n + 1 - i : Nat) : Int) := by omega
  have hik : i + (n + 1 - i) = n + 1 := by omega
  have hrz : ∀ ty, (Builtin.append_ #[75, 3] ty #[.slice (some ⟨g, 0, none⟩) i cap, .int .i64 ((n : Int) + 1 - (i : Int))]).run Try.prog w = .ok (.slice (some ⟨w.heap.size, 0, none⟩) (n + 1) G) (w.drew.alloc (.cells ROW 79)) := fun ty => by
    have h := Lib.run_append_grow_zeros w 75 3 ty 79 iE zz .i64 .i64 Try.underlying75 Try.underlying3 hiE hzE (some ⟨g, 0, none⟩) i cap (xs.take (i * 4)) hold (n + 1 - i) (by omega) (by omega) (by omega) (by omega) (by rw [hbyE]; omega) (by rw [hbyE, hik]; exact growslice_fits hroom (by omega))
    rw [hik] at h
    rw [hkk, hROW, hG]
    exact h
  have hRl : ROW.toList.length = G * 4 := by
    rw [Array.length_toList, hROW, Array.size_append, Array.size_append, size_zeroCells, size_zeroCells, hzs4, List.size_toArray, List.length_take, hxl]; omega
  have hRt : ROW.toList.take (i * 4) = xs.take (i * 4) := by
    have hl : (xs.take (i * 4)).length = i * 4 := by rw [List.length_take, hxl]; omega
    rw [hROW, Array.toList_append, Array.toList_append, List.append_assoc, List.toList_toArray, List.take_append_of_le_length (by rw [hl]; exact Nat.le_refl _), List.take_take, Nat.min_self]
  obtain ⟨R2, hR2⟩ : ∃ R, R = (ROW.toList.take (i * 4) ++ c4 ++ ROW.toList.drop (i * 4 + c4.length)).toArray := ⟨_, rfl⟩
  obtain ⟨R3, hR3⟩ : ∃ R, R = (R2.toList.take ((i + 1) * 4) ++ xs.drop (i * 4) ++ R2.toList.drop ((i + 1) * 4 + (xs.drop (i * 4)).length)).toArray := ⟨_, rfl⟩
  have hR := grow_cells (R2 := R2.toList) (R3 := R3.toList) hRl hGn hi hRt hxl hc (by rw [hR2]) (by rw [hR3])
  obtain ⟨W1, hW1⟩ : ∃ W, W = w.drew.alloc (.cells ROW 79) := ⟨_, rfl⟩
  have hg1 : W1.heap[w.heap.size]? = some (.cells ROW 79 (0, 0)) := by rw [hW1]; exact heap_alloc_new w.drew _
  have hold1 : ∀ k, k < w.heap.size → W1.heap[k]? = w.heap[k]? := fun k hk => by rw [hW1]; exact Go.heap_alloc_old w.drew _ hk
  have hg2 := setRow_heap W1 w.heap.size ROW R2 79 (0, 0) hg1
  have hcpA : ∀ ty dc, (Builtin.copy_ #[75, 75] ty #[.slice (some ⟨w.heap.size, i * 4, none⟩) (n + 1 - i) dc, .slice (some ⟨vb, 0, none⟩) 1 1]).run Try.prog W1 = .ok (goInt (1 : Nat)) (W1.setRow w.heap.size R2) := fun ty dc => by
    have h := run_copy_rowK W1 75 75 ty 79 4 w.heap.size (i * 4) (n + 1 - i) dc ⟨vb, 0, none⟩ 1 1 ROW 79 c4 Try.underlying75 hsz hg1 (by rw [hc]; simp only [Nat.min_def]; split <;> omega)
      (fun j u hj => by
        have e : (⟨vb, 0, none⟩ : Addr).add j = ⟨vb, j, none⟩ := by unfold Addr.add; split <;> simp_all
        rw [e, World.cell?_of_block (w := w) (hold1 vb hvw)]
        exact hvs j u hj)
      (by rw [← Array.length_toList, hRl, hc]; omega) h1
    rw [← hR2] at h
    have em : Nat.min 1 (n + 1 - i) = 1 := by simp only [Nat.min_def]; split <;> omega
    rw [em] at h
    exact h
  have hcpB : ∀ ty dc sc, (Builtin.copy_ #[75, 75] ty #[.slice (some ⟨w.heap.size, (i + 1) * 4, none⟩) (n - i) dc, .slice (some ⟨g, i * 4, none⟩) (n - i) sc]).run Try.prog (W1.setRow w.heap.size R2).drew = .ok (goInt (n - i : Nat)) ((W1.setRow w.heap.size R2).drew.setRow w.heap.size R3) := fun ty dc sc => by
    have h := run_copy_rowK (W1.setRow w.heap.size R2).drew 75 75 ty 79 4 w.heap.size ((i + 1) * 4) (n - i) dc ⟨g, i * 4, none⟩ (n - i) sc R2 79 (xs.drop (i * 4)) Try.underlying75 hsz hg2 (by rw [hdl]; simp only [Nat.min_def]; split <;> omega)
      (fun j u hj => by
        have e : (⟨g, i * 4, none⟩ : Addr).add j = ⟨g, i * 4 + j, none⟩ := by unfold Addr.add; split <;> simp_all
        rw [e]
        rw [List.getElem?_drop] at hj
        have h2 : (W1.setRow w.heap.size R2).drew.heap[g]? = w.heap[g]? := by
          have h3 : (W1.setRow w.heap.size R2).heap[g]? = W1.heap[g]? := setRow_other W1 w.heap.size g R2 (by omega)
          rw [← hold1 g hgw, ← h3]; rfl
        rw [World.cell?_of_block (w := w) h2]
        exact hcell _ u hj)
      (by have := hR.1; rw [Array.length_toList] at this; rw [this, hdl]; omega) (fun u hu => h1x u (List.mem_of_mem_drop hu))
    rw [← hR3] at h
    have em : Nat.min (n - i) (n - i) = n - i := by simp
    rw [em] at h
    exact h
  have FIN : Hid (∀ x, x = Ending.returned (.slice (some ⟨w.heap.size, 0, none⟩) (n + 1) G) → InsD base w ((W1.setRow w.heap.size R2).drew.setRow w.heap.size R3) (.slice (some ⟨g, 0, none⟩) n cap) n i xs c4 x) := by
    rintro x rfl
    have hl3 : R3.size = G * 4 := by have := hR.2.1; rw [Array.length_toList] at this; exact this
    refine ⟨_, rfl, ⟨?_, .inr ⟨w.heap.size, G, R3, rfl, hb, setRow_heap (W1.setRow w.heap.size R2).drew w.heap.size R2 R3 79 (0, 0) hg2, hGn, hG63, hl3, hR.2.2⟩⟩, ⟨?_, ?_, ?_, ?_, fun k hk _ => ?_⟩, .inr rfl⟩
    · rw [List.length_append, List.length_append, List.length_take, hdl, hxl, hc]; omega
    · rw [hW1]; rfl
    · rw [hW1]; rfl
    · rw [hW1]; rfl
    · rw [hW1]; simp
    · have hne : k ≠ w.heap.size := by omega
      rw [setRow_other (W1.setRow w.heap.size R2).drew w.heap.size k R3 hne]
      have h3 : (W1.setRow w.heap.size R2).heap[k]? = W1.heap[k]? := setRow_other W1 w.heap.size k R2 hne
      rw [← hold1 k hk, ← h3]; rfl
  rw [← hW1] at hrz
  have hb1 : ¬ ((i : Int) = (n : Int)) := by omega
  have hb2 : (i : Int) ≤ (n : Int) := by omega
  have hb3 : (cap : Int) < (n : Int) + 1 := by omega
  have hb5 : ¬ (G = i + 1) := by omega
  have hb6 : (0 : Int) ≤ (i : Int) + 1 := by omega
  have hb7 : ¬ (cap = i) := by omega
  have hb8 : (i : Int) ≤ (n : Int) + 1 := by omega
  have hb9 : (i : Int) + 1 ≤ (n : Int) + 1 := by omega
  have hb10 : ¬ (G = i) := by omega
  have hcw1 : IntKind.i64.wrap ((i : Int) + 1) = (i : Int) + 1 := IntWalk.i64_in _ (by omega)
  have hcw2 : IntKind.i64.wrap ((n : Int) + 1) = (n : Int) + 1 := IntWalk.i64_in _ (by omega)
  clear hR2 hR3 hR hg1 hg2 hROW hRl hRt hW1 hold hkk hik hzz hzs4 hzE hold1 hcell hdl hG
  go_enter Try.func69, Try.ntmps69
  go_wp2_with (first
    | (at_builtin; refine Lib.wpList_append_run _ rfl _ _ _ _ rfl _ _ rfl rfl _ _ (hrz _) ?_)
    | (at_builtin; refine wpList_copy_run rfl (.tmp 43) (.tmp 44) 75 75 rfl _ _ rfl rfl (hcpA _ _) ?_))
  go_still_tail 8, (by kernel_rfl)
  change wpList _ _ _ _ _ (W1.setRow w.heap.size R2).drew
  go_wp2_with (at_builtin; refine wpList_copy_run rfl (.tmp 50) (.tmp 53) 75 75 rfl _ _ rfl rfl (hcpB _ _ _) ?_)
  go_ret
  exact FIN.out _ rfl
/-- Insert of one entry. -/
theorem insert_any (base : Nat) (v : Value) (n i : Nat) (xs c4 : List Value) (vb : Nat) (w : World) (hown : w.ownsRow base 79 4 v n xs) (hb : base ≤ w.heap.size) (hn : n ≤ 1000000) (hi : i ≤ n) (hc : c4.length = 4)
    (hvs : ∀ j u, c4[j]? = some u → w.cell? ⟨vb, j, none⟩ = some u) (h1 : ∀ u ∈ c4, u.oneCell' = true) (h1x : ∀ u ∈ xs, u.oneCell' = true) (hvb : v.ownBlock ≠ some vb) (hsa : w.shape? vb = some (79, 4)) (hfa : ∀ j, w.frozen? ⟨vb, j, none⟩ = false) (hvw : vb < w.heap.size) :
    Calls Try.prog 69 #[v, .int .i64 (i : Nat), .slice (some ⟨vb, 0, none⟩) 1 1] w fun x w' => InsD base w w' v n i xs c4 x := by
  by_cases h : i = n
  · subst h
    exact insert_end base v i xs c4 vb w hown hb hn hc hvs h1
  · obtain ⟨g, cap, rfl, -⟩ := own_form hown (by omega)
    by_cases hroom : n + 1 ≤ cap
    · exact insert_room base g cap n i xs c4 vb w hown hn (by omega) hroom hc hvs h1 h1x (fun e => hvb (by rw [e]; rfl)) hsa hfa
    · exact insert_grow base g cap n i xs c4 vb w hown hb hn (by omega) (by omega) hc hvs h1 h1x hvw
end Go.Proofs.Ytgbiimoednmlgaa

/- A region that draws its order, whose loads are all behind them when operation n (an append) comes up: S, which tells what they read, is asked for till then alone. -/
namespace Go.Proofs.Ytgbiimoednmlgaa
set_option linter.unusedVariables false
set_option linter.unusedSimpArgs false
open Go
variable {P : Program} {ops : Array Oper} {Q : Exit → Act → World → Prop} {md : Region.Mode} {S : World → Prop} {n : Nat} {l : Array Bool}
/-- In whatever order the rest comes up; S holds till n has come up. -/
def Till (P : Program) (md : Region.Mode) (ops : Array Oper) (Q : Exit → Act → World → Prop) (S : World → Prop) (n : Nat) : Nat → Array Bool → Act → World → Prop
  | 0, l, a, w => Region.ready md ops l = [] ∧ Q .normal a w
  | fuel + 1, l, a, w =>
    (Region.ready md ops l = [] → Q .normal a w) ∧
    ∀ i ∈ Region.ready md ops l, wpOp P ops Q i (fun a' w' => ((l.setIfInBounds i true).getD n true = true ∨ S w') ∧ Till P md ops Q S n fuel (l.setIfInBounds i true) a' w') a w
theorem any_of_till : ∀ (fuel : Nat) (l : Array Bool) (a : Act) (w : World), Till P md ops Q S n fuel l a w → wpAny P md ops Q fuel l a w
  | 0, _, _, _, h => h
  | fuel + 1, _, _, _, h => ⟨h.1, fun i hi => wpOp_mono (fun a' w' h' => any_of_till fuel _ a' w' h'.2) (h.2 i hi)⟩
theorem listed_stays {l : Array Bool} {i : Nat} (h : l.getD n true = true) : (l.setIfInBounds i true).getD n true = true := by
  by_cases hi : i = n
  · subst hi
    rcases Nat.lt_or_ge i l.size with h' | h'
    · simp [h']
    · simp [Array.getElem?_eq_none (by simpa using h')]
  · rw [getD_set_ne true hi]; exact h
/-- Behind n nothing is asked any more. -/
theorem till_of_any : ∀ (fuel : Nat) (l : Array Bool) (a : Act) (w : World), l.getD n true = true → wpAny P md ops Q fuel l a w → Till P md ops Q S n fuel l a w
  | 0, _, _, _, _, h => h
  | fuel + 1, _, _, _, hn, h => ⟨h.1, fun i hi => wpOp_mono (fun a' w' h' => ⟨.inl (listed_stays hn), till_of_any fuel _ a' w' (listed_stays hn) h'⟩) (h.2 i hi)⟩
/-- What has come up had all come up that it waits for. -/
def Clo (md : Region.Mode) (ops : Array Oper) (l : Array Bool) : Prop := ∀ j oj, ops[j]? = some oj → l.getD j true = true → ∀ e ∈ oj.after, Region.binds md e = true → l.getD e.on true = true
def cloB (md : Region.Mode) (ops : Array Oper) (l : Array Bool) : Bool := (List.range ops.size).all fun j => !l.getD j true || match ops[j]? with | some oj => oj.after.all (fun e => !Region.binds md e || l.getD e.on true) | none => true
theorem Clo.of (h : cloB md ops l = true) : Clo md ops l := by
  intro j oj hj hl e he hb
  simp only [cloB, List.all_eq_true, List.mem_range] at h
  have h1 := h j (Array.getElem?_eq_some_iff.1 hj).1
  simp only [hj, hl, Bool.not_true, Bool.false_or, Array.all_eq_true_iff_forall_mem] at h1
  have h2 := h1 e he
  simpa [hb] using h2
theorem getD_up {l : Array Bool} {j : Nat} (h : l.getD j false = true) : l.getD j true = true := by
  rcases Nat.lt_or_ge j l.size with h' | h'
  · simp [h'] at h ⊢; exact h
  · simp [Array.getElem?_eq_none h'] at h
theorem Clo.set {l : Array Bool} {i : Nat} (h : Clo md ops l) (hi : i ∈ Region.ready md ops l) : Clo md ops (l.setIfInBounds i true) := by
  obtain ⟨h0, oi, hoi, hall⟩ := mem_ready.1 hi
  intro j oj hj hl e he hb
  by_cases hij : i = j
  · subst hij
    rw [hoi] at hj
    injection hj with hj
    subst hj
    exact listed_stays (getD_up (hall e he hb))
  · rw [getD_set_ne true hij] at hl
    exact listed_stays (h j oj hj hl e he hb)
/-- Does operation n wait for operation i, through others perhaps? -/
def reach (md : Region.Mode) (ops : Array Oper) (i : Nat) : Nat → Nat → Bool
  | 0, _ => false
  | f + 1, n => match ops[n]? with | some o => o.after.any (fun e => Region.binds md e && (e.on == i || reach md ops i f e.on)) | none => false
theorem reach_spec {l : Array Bool} {i : Nat} (hc : Clo md ops l) : ∀ (f n : Nat), reach md ops i f n = true → (∀ o, ops[n]? = some o → ∀ e ∈ o.after, Region.binds md e = true → l.getD e.on true = true) → l.getD i true = true
  | 0, _, h, _ => by cases h
  | f + 1, n, h, hn => by
    unfold reach at h
    cases ho : ops[n]? with
    | none => rw [ho] at h; cases h
    | some o =>
      rw [ho] at h
      obtain ⟨e, he, hb⟩ := Array.any_eq_true'.1 h
      simp only [Bool.and_eq_true, Bool.or_eq_true, beq_iff_eq] at hb
      have hl := hn o ho e he hb.1
      rcases hb.2 with h1 | h1
      · rw [← h1]; exact hl
      · exact reach_spec hc f e.on h1 (fun o' ho' e' he' hb' => hc e.on o' ho' hl e' he' hb')
theorem till_first {i : Nat} {oi : Oper} {v : Value} (hi : ops[i]? = some oi) (hsel : ∀ (j : Nat) (o : Oper) cs b, ops[j]? = some o → o.op ≠ .select cs b)
    (hQ : ∀ c a w, Q (.panic c) (a.put oi.dst v) w → Q (.panic c) a w) (hin : i ≠ n)
    {f : Nat} (hwait : reach md ops i f n = true) :
    ∀ (fuel : Nat) (l : Array Bool) (a : Act) (w : World), Clo md ops l →
      (∀ j oj, ops[j]? = some oj → j ≠ i → l.getD j true = false → (∀ e ∈ oj.after, Region.binds md e = true → e.on ≠ i) → oi.apart ops oj = true) →
      i ∈ Region.ready md ops l → l.getD n true = false → YieldsIf P ops S oi v a → S w →
      Till P md ops Q S n fuel (l.setIfInBounds i true) (a.put oi.dst v) w → Till P md ops Q S n (fuel + 1) l a w := by
  intro fuel
  induction fuel with
  | zero =>
    intro l a w _ _ hr _ hy hS H
    refine ⟨fun h => (by rw [h] at hr; cases hr), fun j hj => ?_⟩
    by_cases hji : j = i
    · subst hji; exact hy.wpOp hi hS ⟨.inr hS, H⟩
    · have h := ready_mono hj hji
      rw [H.1] at h
      cases h
  | succ fuel ih =>
    intro l a w hclo hfree hr hnl hy hS H
    refine ⟨fun h => (by rw [h] at hr; cases hr), fun j hj => ?_⟩
    by_cases hji : j = i
    · subst hji; exact hy.wpOp hi hS ⟨.inr hS, H⟩
    · have h1 := H.2 j (ready_mono hj hji)
      obtain ⟨hjun, oj, hoj, hall⟩ := mem_ready.1 hj
      have hnot : ∀ e ∈ oj.after, Region.binds md e = true → e.on ≠ i := fun e he hb heq => by
        have g1 := hall e he hb
        have g0 := (mem_ready.1 hr).1
        rw [heq] at g1
        rcases Nat.lt_or_ge i l.size with h' | h'
        · simp [h'] at g0 g1; rw [g0] at g1; cases g1
        · simp [Array.getElem?_eq_none h'] at g1
      have hjn : j ≠ n := by
        rintro rfl
        have g1 := reach_spec hclo f j hwait (fun o ho e he hb => by rw [hoj] at ho; injection ho with ho; subst ho; exact getD_up (hall e he hb))
        rw [(mem_ready.1 hr).1] at g1
        cases g1
      have hnl2 : (l.setIfInBounds j true).getD n true = false := by rw [getD_set_ne true hjn]; exact hnl
      have hnl3 : ((l.setIfInBounds i true).setIfInBounds j true).getD n true = false := by rw [getD_set_ne true hjn, getD_set_ne true hin]; exact hnl
      have h2 := wpOp_putIf hoj (hfree j oj hoj hji hjun hnot) (fun cs b => hsel i oi cs b hi) (fun cs b => hsel j oj cs b hoj) hQ hy h1
      have hfree' : ∀ k ok, ops[k]? = some ok → k ≠ i → (l.setIfInBounds j true).getD k true = false →
          (∀ e ∈ ok.after, Region.binds md e = true → e.on ≠ i) → oi.apart ops ok = true := fun k ok hk hki hun hno => by
        refine hfree k ok hk hki ?_ hno
        by_cases hjk : j = k
        · subst hjk; exact hjun
        · rw [getD_set_ne true hjk] at hun; exact hun
      refine wpOp_mono (fun a' w' h3 => ?_) h2
      have hS' : S w' := h3.2.1.resolve_left (by rw [hnl3]; simp)
      refine ⟨.inr hS', ih (l.setIfInBounds j true) a' w' (hclo.set hj) hfree' (ready_mono hr (Ne.symm hji)) hnl2 h3.1 hS' ?_⟩
      rw [Array.setIfInBounds_comm _ _ hji]
      exact h3.2.2
/-- Operation i first: it yields v while S holds; operation n waits for it. -/
def takeB (md : Region.Mode) (ops : Array Oper) (n : Nat) (l : Array Bool) (i : Nat) : Bool :=
  Region.noSelect ops && Region.free md ops l i && (Region.ready md ops l).contains i && !(i == n) && reach md ops i ops.size n && !l.getD n true && cloB md ops l
theorem till_take {i : Nat} {oi : Oper} {v : Value} {fuel : Nat} {l : Array Bool} {a : Act} {w : World} (hi : ops[i]? = some oi) (hb : takeB md ops n l i = true)
    (hQ : ∀ c a w, Q (.panic c) (a.put oi.dst v) w → Q (.panic c) a w) (hy : YieldsIf P ops S oi v a) (hS : S w)
    (h : Till P md ops Q S n fuel (l.setIfInBounds i true) (a.put oi.dst v) w) : Till P md ops Q S n (fuel + 1) l a w := by
  simp only [takeB, Bool.and_eq_true, Bool.not_eq_true'] at hb
  obtain ⟨⟨⟨⟨⟨⟨h1, h2⟩, h3⟩, h4⟩, h5⟩, h6⟩, h7⟩ := hb
  exact till_first hi (Region.noSelect_spec h1) hQ (by simpa using h4) h5 fuel l a w (Clo.of h7) (Region.free_spec hi h2) (by simpa using h3) h6 hy hS h
/-- The same where nothing is asked of memory. -/
def anyB (md : Region.Mode) (ops : Array Oper) (l : Array Bool) (i : Nat) : Bool := Region.noSelect ops && Region.free md ops l i && (Region.ready md ops l).contains i
theorem any_take {i : Nat} {oi : Oper} {v : Value} {fuel : Nat} {l : Array Bool} {a : Act} {w : World} (hi : ops[i]? = some oi) (hb : anyB md ops l i = true)
    (hQ : ∀ c a w, Q (.panic c) (a.put oi.dst v) w → Q (.panic c) a w) (hy : Yields P ops oi v a)
    (h : wpAny P md ops Q fuel (l.setIfInBounds i true) (a.put oi.dst v) w) : wpAny P md ops Q (fuel + 1) l a w := by
  simp only [anyB, Bool.and_eq_true] at hb
  exact wpAny_take hi hb.1.1 hb.1.2 hb.2 hQ hy h
theorem any_two {i j : Nat} {oi oj : Oper} {fuel : Nat} {l : Array Bool} {a : Act} {w : World} (hr : Region.ready md ops l = [i, j]) (hoi : ops[i]? = some oi) (hoj : ops[j]? = some oj)
    (hi : ∀ K' : Act → World → Prop, Shut (∀ a w, wpAny P md ops Q fuel (l.setIfInBounds i true) a w → K' a w) → if Region.wanted oi (yielded ops a.tmps) = true then Oper.wp P oi a w K' Q else K' (a.put oi.dst undef) w)
    (hj : ∀ K' : Act → World → Prop, Shut (∀ a w, wpAny P md ops Q fuel (l.setIfInBounds j true) a w → K' a w) → if Region.wanted oj (yielded ops a.tmps) = true then Oper.wp P oj a w K' Q else K' (a.put oj.dst undef) w) :
    wpAny P md ops Q (fuel + 1) l a w := by
  refine wpAny_all hr (by simp) fun k hk => ?_
  rcases List.mem_cons.1 hk with rfl | hk
  · exact wpOp_step hoi fun K' hK => hi K' hK
  · rcases List.mem_cons.1 hk with rfl | hk
    · exact wpOp_step hoj fun K' hK => hj K' hK
    · cases hk
theorem any_one {i : Nat} {oi : Oper} {fuel : Nat} {l : Array Bool} {a : Act} {w : World} (hr : Region.ready md ops l = [i]) (hoi : ops[i]? = some oi)
    (hi : ∀ K' : Act → World → Prop, Shut (∀ a w, wpAny P md ops Q fuel (l.setIfInBounds i true) a w → K' a w) → if Region.wanted oi (yielded ops a.tmps) = true then Oper.wp P oi a w K' Q else K' (a.put oi.dst undef) w) :
    wpAny P md ops Q (fuel + 1) l a w := by
  refine wpAny_all hr (by simp) fun k hk => ?_
  rcases List.mem_cons.1 hk with rfl | hk
  · exact wpOp_step hoi fun K' hK => hi K' hK
  · cases hk
theorem till_all {rs : List Nat} {fuel : Nat} {l : Array Bool} {a : Act} {w : World} (hr : Region.ready md ops l = rs) (hne : rs ≠ [])
    (h : ∀ i ∈ rs, wpOp P ops Q i (fun a' w' => ((l.setIfInBounds i true).getD n true = true ∨ S w') ∧ Till P md ops Q S n fuel (l.setIfInBounds i true) a' w') a w) : Till P md ops Q S n (fuel + 1) l a w :=
  ⟨fun h0 => absurd (hr ▸ h0) hne, hr ▸ h⟩
theorem wp_region_till {id : Nat} {a : Act} {w : World} (n : Nat) (hm : P.follows .mixedOrders = true)
    (h : Till P .any ops Q S n ops.size (Array.replicate ops.size false) a w.drew) : (Code.region id ops true).wp P Q a w :=
  wp_region_any hm (any_of_till _ _ _ _ h)
/-- Two may come up: each is carried out; behind it S is shown, and the rest goes on. -/
theorem till_two {i j : Nat} {oi oj : Oper} {fuel : Nat} {l : Array Bool} {a : Act} {w : World} (hr : Region.ready md ops l = [i, j]) (hoi : ops[i]? = some oi) (hoj : ops[j]? = some oj)
    (hi : ∀ K' : Act → World → Prop, Shut (∀ a w, S w → Till P md ops Q S n fuel (l.setIfInBounds i true) a w → K' a w) → if Region.wanted oi (yielded ops a.tmps) = true then Oper.wp P oi a w K' Q else K' (a.put oi.dst undef) w)
    (hj : ∀ K' : Act → World → Prop, Shut (∀ a w, S w → Till P md ops Q S n fuel (l.setIfInBounds j true) a w → K' a w) → if Region.wanted oj (yielded ops a.tmps) = true then Oper.wp P oj a w K' Q else K' (a.put oj.dst undef) w) :
    Till P md ops Q S n (fuel + 1) l a w := by
  refine till_all hr (by simp) fun k hk => ?_
  rcases List.mem_cons.1 hk with rfl | hk
  · exact wpOp_step hoi fun K' hK => hi K' fun a w hS hT => hK a w ⟨.inr hS, hT⟩
  · rcases List.mem_cons.1 hk with rfl | hk
    · exact wpOp_step hoj fun K' hK => hj K' fun a w hS hT => hK a w ⟨.inr hS, hT⟩
    · cases hk
theorem till_one {i : Nat} {oi : Oper} {fuel : Nat} {l : Array Bool} {a : Act} {w : World} (hr : Region.ready md ops l = [i]) (hoi : ops[i]? = some oi)
    (hi : ∀ K' : Act → World → Prop, Shut (∀ a w, S w → Till P md ops Q S n fuel (l.setIfInBounds i true) a w → K' a w) → if Region.wanted oi (yielded ops a.tmps) = true then Oper.wp P oi a w K' Q else K' (a.put oi.dst undef) w) :
    Till P md ops Q S n (fuel + 1) l a w := by
  refine till_all hr (by simp) fun k hk => ?_
  rcases List.mem_cons.1 hk with rfl | hk
  · exact wpOp_step hoi fun K' hK => hi K' fun a w hS hT => hK a w ⟨.inr hS, hT⟩
  · cases hk
/-- n itself comes up, alone: behind it nothing is asked of the world. -/
theorem till_last {oi : Oper} {fuel : Nat} {l : Array Bool} {a : Act} {w : World} (hr : Region.ready md ops l = [n]) (hoi : ops[n]? = some oi) (hl : (l.setIfInBounds n true).getD n true = true)
    (hi : ∀ K' : Act → World → Prop, Shut (∀ a w, wpAny P md ops Q fuel (l.setIfInBounds n true) a w → K' a w) → if Region.wanted oi (yielded ops a.tmps) = true then Oper.wp P oi a w K' Q else K' (a.put oi.dst undef) w) :
    Till P md ops Q S n (fuel + 1) l a w := by
  refine till_all hr (by simp) fun k hk => ?_
  rcases List.mem_cons.1 hk with rfl | hk
  · exact wpOp_step hoi fun K' hK => hi K' fun a w hT => hK a w ⟨.inl hl, till_of_any _ _ _ _ hl hT⟩
  · cases hk
end Go.Proofs.Ytgbiimoednmlgaa
