/- A part of the proof: LcC, LcD, LcE, LkA, LkB, Srt, one behind another. -/
import Derived.Test.YtgbiimoednmlgaaMOA
import Derived.Test.YtgbiimoednmlgaaMOB
import Derived.Test.YtgbiimoednmlgaaMOC
import Derived.Test.YtgbiimoednmlgaaMOD
import Derived.Test.YtgbiimoednmlgaaMOE
import Derived.Test.YtgbiimoednmlgaaMOF
import Derived.Test.YtgbiimoednmlgaaMOG
import Derived.Test.YtgbiimoednmlgaaMOH
import Derived.Test.YtgbiimoednmlgaaMOI
import Derived.Test.YtgbiimoednmlgaaMOJ
import Derived.Shelf.GgSortFunc.RowK
import Derived.Shelf.SlSortCmp.WholeK
import Derived.Shelf.SlSortCmp.NoneTotal
import Derived.Shelf.Lay
import Derived.Test.YtgbiimoednmlgaaProg
import Derived.WalkKit
/- slices.Clone over accounts; clear of a row's end. -/
namespace Go.Proofs.Ytgbiimoednmlgaa
set_option linter.unusedVariables false
set_option linter.unusedSimpArgs false
open Go.RowKit
set_option maxRecDepth 100000 in
set_option maxHeartbeats 1000000 in
theorem cloneA_any (l : List Acct) (a : Option Addr) (len cap : Nat) (w : World) (hS : SlR acctK w [] l a len cap) (hb : len ≤ 1000000) :
    Calls Try.prog 50 #[.slice a len cap] w fun e w' => (∃ a' cap', e = .returned (.slice a' len cap') ∧ w'.ownsRow w.heap.size 51 3 (.slice a' len cap') len (outR l)) ∧ Below w.heap.size w w' := by
  obtain ⟨f1, f2, f3⟩ := hS.facts
  have HS := Lib.hid hS
  cases a with
  | none =>
    have h0 : len = 0 := by
      rcases Nat.eq_zero_or_pos len with h | h
      · exact h
      · obtain ⟨b, o, x, ha, -⟩ := acct_at hS 0 h; cases ha
    subst h0
    have hl : l = [] := List.length_eq_zero_iff.1 f1
    subst hl
    clear hS f1
    have hnil : ∀ W, (binOp .eql 26 (.slice none 0 cap) (.slice none 0 0)).run Try.prog W = .ok (.bool true) W := fun W => Lib.run_eql_slice_nil W _ _ none 0 cap 0 0 Try.underlying26
    go_enter Try.func50, Try.ntmps50
    go_wp2
    go_ret
    exact ⟨⟨none, 0, rfl, World.ownsRow_nil _ _ _ _⟩, Below.refl _ _⟩
  | some ad =>
    have HL : Hid ((outR l).length = len * 3) := by show _ = _; rw [outR_len, f1]
    have HO : Hid (∀ u ∈ outR l, u.oneCell' = true) := fun u hu => by
      unfold outR at hu
      obtain ⟨c, hc, hu⟩ := List.mem_flatten.1 hu
      obtain ⟨x, _, rfl⟩ := List.mem_map.1 hc
      unfold acctC at hu
      simp at hu
      rcases hu with rfl | rfl | rfl <;> rfl
    have HN := Lib.hid (Mem.Own.lit (e := 51) (size := 3) (Below.refl w.heap.size w) #[] 0 (by decide) rfl)
    have HCL : Hid (∀ j u, (outR l)[j]? = some u → (w.alloc (.cells #[] 51)).cell? (ad.add j) = some u) := by
      intro j u hu
      have hj : j < (outR l).length := (List.getElem?_eq_some_iff.1 hu).1
      rw [HL.out] at hj
      have hq : j / 3 < len := by omega
      obtain ⟨b, o, x, ha, hx, -, c0, c1, c2⟩ := acct_at hS (j / 3) hq
      injection ha with ha; subst ha
      have hr := outR_at l hx (j % 3) (by omega)
      rw [show j / 3 * 3 + j % 3 = j by omega, hu] at hr
      rw [Mem.add_off]
      have hcell : w.cell? ⟨b, o + j, none⟩ = some u := by
        have h3 : j % 3 = 0 ∨ j % 3 = 1 ∨ j % 3 = 2 := by omega
        rcases h3 with h3 | h3 | h3
        · rw [h3] at hr
          rw [show o + j = o + j / 3 * 3 by omega, c0]; exact hr.symm
        · rw [h3] at hr
          rw [show o + j = o + j / 3 * 3 + 1 by omega, c1]; exact hr.symm
        · rw [h3] at hr
          rw [show o + j = o + j / 3 * 3 + 2 by omega, c2]; exact hr.symm
      exact cellUp hcell (below_newL w _)
    clear hS f1
    have hnil : ∀ W, (binOp .eql 26 (.slice (some ad) len cap) (.slice none 0 0)).run Try.prog W = .ok (.bool false) W := fun W => Lib.run_eql_slice_nil W _ _ (some ad) len cap 0 0 Try.underlying26
    go_enter Try.func50, Try.ntmps50
    go_wp2_with (at_builtin; refine Mem.ap infoA Try.underlying26 rfl (by decide) rfl (.tmp 5) (.tmp 6) rfl rfl HN.out ad len cap (outR l) rfl HL.out HCL.out HO.out (by unfold maxLen; omega) (by omega) ?_; intro v' w' o' g' _ _; rw [Nat.zero_add] at o')
    obtain ⟨a2, cap2, rfl⟩ := own_slice o'.own
    have R := Lib.hid o'.own
    have B := Lib.hid o'.below
    clear o' g'
    go_wp2
    go_ret
    exact ⟨⟨_, _, rfl, R.out⟩, B.out⟩
/-- Cells stored into a row, from a place on. -/
theorem row_setCells {base sz g n cap : Nat} {e : TypeId} : ∀ (vs : List Value) (o : Nat) (w : World) (xs : List Value), w.ownsRow base e sz (.slice (some ⟨g, 0, none⟩) n cap) n xs → ∃ ys, (w.setCells g o vs).ownsRow base e sz (.slice (some ⟨g, 0, none⟩) n cap) n ys ∧ ys.take o = xs.take o ∧ w.grownBy (w.setCells g o vs) (some g)
  | [], o, w, xs, h => ⟨xs, h, rfl, World.grownBy.refl _ _⟩
  | v :: r, o, w, xs, h => by
    have h1 := h.stored o v
    obtain ⟨ys, h2, h3, h4⟩ := row_setCells r (o + 1) (w.setCell ⟨g, o, none⟩ v) _ h1.1
    refine ⟨ys, h2, ?_, World.grownBy.trans h1.2 h4⟩
    have h5 := congrArg (List.take o) h3
    rw [List.take_take, List.take_take, Nat.min_eq_left (Nat.le_succ _), List.take_set_of_le (Nat.le_refl _)] at h5
    exact h5
/-- A row, cut short. -/
theorem row_cut {w : World} {base sz g n cap : Nat} {e : TypeId} {xs : List Value} (h : w.ownsRow base e sz (.slice (some ⟨g, 0, none⟩) n cap) n xs) (k : Nat) (hk : k ≤ n) : w.ownsRow base e sz (.slice (some ⟨g, 0, none⟩) k cap) k (xs.take (k * sz)) := by
  obtain ⟨h1, h2⟩ := h
  rcases h2 with ⟨h0, _⟩ | ⟨g', cap', cur, hv, hg, hh, hn, hcap, hsz, htake⟩
  · cases h0
  · cases hv
    have hm := Nat.mul_le_mul_right sz hk
    refine ⟨by rw [List.length_take, h1, Nat.min_eq_left hm], .inr ⟨g, cap, cur, rfl, hg, hh, by omega, hcap, hsz, ?_⟩⟩
    rw [← htake, List.take_take, Nat.min_eq_left hm]
theorem zeroA (w : World) : (zeroValue 51).run Try.prog w = .ok (.agg #[.string ⟨#[]⟩, .string ⟨#[]⟩, .int .i64 0]) w := by kernel_rfl
theorem outR_take (l : List Acct) (k : Nat) : (outR l).take (k * 3) = outR (l.take k) := by
  by_cases hk : k ≤ l.length
  · have h := outR_append (l.take k) (l.drop k)
    rw [List.take_append_drop] at h
    have hl : (outR (l.take k)).length = k * 3 := by rw [outR_len, List.length_take]; omega
    rw [h, ← hl]; exact List.take_left
  · rw [List.take_of_length_le (by rw [outR_len]; omega), List.take_of_length_le (by omega)]
/-- clear of what lies from i on. -/
theorem clear_run {w : World} {base g n cap : Nat} {l : List Acct} (h : w.ownsRow base 51 3 (.slice (some ⟨g, 0, none⟩) n cap) n (outR l)) (i : Nat) (hi : i < n) (c : Nat) :
    ∃ w', (∀ ty, (Builtin.clear_ #[26] ty #[.slice (some ⟨g, i * 3, none⟩) (n - i) c]).run Try.prog w = .ok (.tuple #[]) w') ∧ w.grownBy w' (some g) ∧ w'.ownsRow base 51 3 (.slice (some ⟨g, 0, none⟩) i cap) i (outR (l.take i)) := by
  obtain ⟨vs, hvs⟩ : ∃ vs, vs = (Builtin.zeroCells (Value.agg #[.string ⟨#[]⟩, .string ⟨#[]⟩, .int .i64 0]).cells (n - i)).toList := ⟨_, rfl⟩
  have hlen : vs.length = (n - i) * 3 := by rw [hvs]; simp [Builtin.zeroCells, Value.cells]
  have hone : ∀ v ∈ vs, v.oneCell' = true := by
    intro v hv
    rw [hvs] at hv
    unfold Builtin.zeroCells at hv
    simp only [Array.toList_map, List.mem_map] at hv
    obtain ⟨j, -, rfl⟩ := hv
    have hs : (Value.agg #[.string ⟨#[]⟩, .string ⟨#[]⟩, .int .i64 0]).cells = #[.string ⟨#[]⟩, .string ⟨#[]⟩, .int .i64 0] := by rfl
    rw [hs]
    have h3 : j % 3 = 0 ∨ j % 3 = 1 ∨ j % 3 = 2 := by omega
    show ((#[Value.string ⟨#[]⟩, .string ⟨#[]⟩, .int .i64 0] : Array Value)[j % 3]!).oneCell' = true
    rcases h3 with h3 | h3 | h3 <;> rw [h3] <;> rfl
  have hxl : (outR l).length = n * 3 := h.1
  have hst := run_storeCells_cells (P := Try.prog) g (i * 3) vs 0 w (by
    intro j hj
    rw [Nat.add_zero, h.cellAt (i * 3 + j) (by omega), List.getElem?_eq_getElem (by omega)]; rfl) (by
    intro j hj
    exact h.frozenAt _) hone
  simp only [Nat.add_zero] at hst
  obtain ⟨ys, h2, h3, h4⟩ := row_setCells vs (i * 3) w _ h
  refine ⟨_, fun ty => ?_, h4, ?_⟩
  · obtain ⟨m, hm⟩ : ∃ m, n - i = m + 1 := ⟨n - i - 1, by omega⟩
    rw [hm] at hvs
    rw [hm]
    simp [Builtin.clear_, run_underlying Try.underlying26, zeroA, ← hvs, hst]
  · have h5 := row_cut h2 i (by omega)
    rw [h3, outR_take] at h5
    exact h5
end Go.Proofs.Ytgbiimoednmlgaa

/- slices.DeleteFunc over accounts. -/
namespace Go.Proofs.Ytgbiimoednmlgaa
set_option linter.unusedVariables false
set_option linter.unusedSimpArgs false
open Go.RowKit
structure DlSt (P : Acct → Bool) (l l' : List Acct) (i j : Nat) : Prop where
  len : l'.length = l.length
  ij : i < j
  jn : j ≤ l.length
  pre : l'.take i = (l.take j).filter (fun x => !P x)
  suf : l'.drop j = l.drop j
theorem DlSt.start {P : Acct → Bool} {l : List Acct} {k : Nat} {x : Acct} (h : ∀ (j : Nat) y, j < k → l[j]? = some y → P y = false) (hx : l[k]? = some x) (hp : P x = true) : DlSt P l l k (k + 1) := by
  obtain ⟨hk, e⟩ := List.getElem?_eq_some_iff.1 hx
  refine ⟨rfl, by omega, by omega, ?_, rfl⟩
  rw [← List.take_append_getElem hk, e, List.filter_append, List.filter_cons_of_neg (by simp [hp]), List.filter_nil, List.append_nil, List.filter_eq_self.2]
  intro y hy
  obtain ⟨j, hj⟩ := List.getElem?_of_mem hy
  rw [List.getElem?_take] at hj
  split at hj
  · rename_i hjk; simp [h j y hjk hj]
  · cases hj
theorem DlSt.at {P : Acct → Bool} {l l' : List Acct} {i j : Nat} (h : DlSt P l l' i j) : l'[j]? = l[j]? := by
  have h1 := congrArg (fun m : List Acct => m[0]?) h.suf
  simpa [List.getElem?_drop] using h1
theorem drop_next {l l' : List Acct} {j : Nat} (h : l'.drop j = l.drop j) : l'.drop (j + 1) = l.drop (j + 1) := by
  rw [← List.drop_drop, ← List.drop_drop, h]
theorem DlSt.drop {P : Acct → Bool} {l l' : List Acct} {i j : Nat} {x : Acct} (h : DlSt P l l' i j) (hx : l[j]? = some x) (hp : P x = true) : DlSt P l l' i (j + 1) := by
  obtain ⟨hk, e⟩ := List.getElem?_eq_some_iff.1 hx
  refine ⟨h.len, by have := h.ij; omega, by omega, ?_, drop_next h.suf⟩
  rw [← List.take_append_getElem hk, e, List.filter_append, List.filter_cons_of_neg (by simp [hp]), List.filter_nil, List.append_nil, h.pre]
theorem DlSt.keep {P : Acct → Bool} {l l' : List Acct} {i j : Nat} {x : Acct} (h : DlSt P l l' i j) (hx : l[j]? = some x) (hp : P x = false) : DlSt P l (l'.set i x) (i + 1) (j + 1) := by
  obtain ⟨hk, e⟩ := List.getElem?_eq_some_iff.1 hx
  have hij := h.ij
  have hl := h.len
  refine ⟨by rw [List.length_set]; exact hl, by omega, by omega, ?_, ?_⟩
  · rw [← List.take_append_getElem hk, e, List.filter_append, List.filter_cons_of_pos (by simp [hp]), List.filter_nil, ← h.pre]
    have h1 : i < (l'.set i x).length := by rw [List.length_set]; omega
    rw [← List.take_append_getElem h1, List.getElem_set_self, List.take_set_of_le (Nat.le_refl _)]
  · rw [List.drop_set, if_pos (by omega)]
    exact drop_next h.suf
theorem DlSt.fin {P : Acct → Bool} {l l' : List Acct} {i j : Nat} (h : DlSt P l l' i j) (hj : l.length ≤ j) : l'.take i = l.filter (fun x => !P x) := by
  have := h.pre
  rw [List.take_of_length_le hj] at this; exact this
theorem set_split {l : List Acct} {i : Nat} {x y : Acct} (h : l[i]? = some y) : l = l.take i ++ y :: l.drop (i + 1) ∧ l.set i x = l.take i ++ x :: l.drop (i + 1) ∧ (l.take i).length = i := by
  obtain ⟨hk, e⟩ := List.getElem?_eq_some_iff.1 h
  refine ⟨?_, ?_, by rw [List.length_take]; omega⟩
  · have := List.take_append_drop i l
    rw [List.drop_eq_getElem_cons hk, e] at this; exact this.symm
  · rw [List.set_eq_take_append_cons_drop, if_pos hk]
/-- What a closure reads: a currency in a box; nothing. -/
def EnvC (bx : Nat) (c : ByteArray) (W : World) : Prop := W.cell? ⟨bx, 0, none⟩ = some (.string c)
def EnvZ (_bx : Nat) (_c : ByteArray) (_W : World) : Prop := True
theorem EnvC.below {bx : Nat} {c : ByteArray} {w w' : World} (h : EnvC bx c w) (b : Below w.heap.size w w') : EnvC bx c w' := cellUp h b
theorem EnvZ.below {bx : Nat} {c : ByteArray} {w w' : World} (_h : EnvZ bx c w) (_b : Below w.heap.size w w') : EnvZ bx c w' := trivial
theorem EnvC.set {bx g k : Nat} {c : ByteArray} {w : World} (h : EnvC bx c w) (hg : g ≠ bx) (v : Value) : EnvC bx c (w.setCell ⟨g, k, none⟩ v) := by
  unfold EnvC
  rw [World.cell?_of_block (w := w) (Below.heap_setCell w ⟨g, k, none⟩ v bx (fun e => hg e.symm))]; exact h
theorem EnvZ.set {bx g k : Nat} {c : ByteArray} {w : World} (_h : EnvZ bx c w) (_hg : g ≠ bx) (v : Value) : EnvZ bx c (w.setCell ⟨g, k, none⟩ v) := trivial
def pC (c : ByteArray) (x : Acct) : Bool := !decide (x.coin.data.toList = c.data.toList)
def pZ (_c : ByteArray) (x : Acct) : Bool := decide (x.amt = 0)
set_option maxRecDepth 100000 in
set_option maxHeartbeats 4000000 in
theorem delC_any (x : Acct) (bx : Nat) (c : ByteArray) (w : World) (he : EnvC bx c w) : Calls Try.prog 51 #[.agg #[.string x.party, .string x.coin, .int .i64 x.amt], .pointer (some ⟨bx, 0, none⟩)] w fun e w' => e = .returned (.bool (pC c x)) ∧ Below w.heap.size w w' := by
  obtain ⟨R, hR⟩ : ∃ R, R = pC c x := ⟨_, rfl⟩
  have hs := same_b x.coin c
  have hd : decide (x.coin.data.toList = c.data.toList) = !R := by rw [hR]; unfold pC; rw [Bool.not_not]
  rw [hd] at hs
  have hs2 : (!(x.coin.toList == c.toList)) = R := by rw [hs, Bool.not_not]
  rw [← hR]
  clear hR hd hs
  have HS2 := Lib.hid hs2
  clear hs2
  have hb1 := below_newL w (.cells #[.string x.party, .string x.coin, .int .i64 x.amt] 51)
  have BX := Lib.hid (Mem.Blk.new w 51 #[.string x.party, .string x.coin, .int .i64 x.amt])
  have e0 : (w.alloc (.cells #[.string x.party, .string x.coin, .int .i64 x.amt] 51)).cell? ⟨bx, 0, none⟩ = some (.string c) := he.below hb1
  have HB := Lib.hid hb1
  clear he hb1
  go_enter Try.func51, Try.ntmps51
  go_upto_region 1 with (fail)
  generalize (w.alloc (.cells #[.string x.party, .string x.coin, .int .i64 x.amt] 51)) = w2 at *
  have c1 : w2.cell? ⟨w.heap.size, 1, none⟩ = some (.string x.coin) := BX.out.cell 1
  go_wp2_with fail
  go_ret
  exact ⟨by rw [← HS2.out]; rfl, HB.out⟩
set_option maxRecDepth 100000 in
set_option maxHeartbeats 4000000 in
theorem delZ_any (x : Acct) (bx : Nat) (c : ByteArray) (w : World) (_he : EnvZ bx c w) : Calls Try.prog 57 #[.agg #[.string x.party, .string x.coin, .int .i64 x.amt]] w fun e w' => e = .returned (.bool (pZ c x)) ∧ Below w.heap.size w w' := by
  obtain ⟨R, hR⟩ : ∃ R, R = pZ c x := ⟨_, rfl⟩
  have hs : (x.amt == 0) = R := by
    rw [hR]
    unfold pZ
    by_cases h : x.amt = 0
    · simp [h]
    · simp [h]
  rw [← hR]
  clear hR
  have hb1 := below_newL w (.cells #[.string x.party, .string x.coin, .int .i64 x.amt] 51)
  have BX := Lib.hid (Mem.Blk.new w 51 #[.string x.party, .string x.coin, .int .i64 x.amt])
  have HB := Lib.hid hb1
  clear hb1
  go_enter Try.func57, Try.ntmps57
  go_upto_region 1 with (fail)
  generalize (w.alloc (.cells #[.string x.party, .string x.coin, .int .i64 x.amt] 51)) = w2 at *
  have c2 : w2.cell? ⟨w.heap.size, 2, none⟩ = some (.int .i64 x.amt) := BX.out.cell 2
  go_wp2_with fail
  go_ret
  exact ⟨rfl, HB.out⟩
set_option maxRecDepth 100000 in
set_option maxHeartbeats 4000000 in
theorem idxC_any (l : List Acct) (base : Nat) (a : Option Addr) (n cap bx : Nat) (c : ByteArray) (w : World) (h : w.ownsRow base 51 3 (.slice a n cap) n (outR l)) (hn : l.length = n) (hlen : n ≤ 1000000) (he : EnvC bx c w) :
    Calls Try.prog 76 #[.slice a n cap, .func (.func 51) #[] #[.pointer (some ⟨bx, 0, none⟩)]] w fun x w' => (∃ i : Int, x = .returned (.int .i64 i) ∧ ((i = -1 ∧ ∀ (j : Nat) y, l[j]? = some y → pC c y = false) ∨ ∃ k : Nat, i = (k : Int) ∧ k < n ∧ (∀ (j : Nat) y, j < k → l[j]? = some y → pC c y = false) ∧ ∃ x, l[k]? = some x ∧ pC c x = true)) ∧ Below w.heap.size w w' := by
  have HS := Lib.hid h
  have HN := Lib.hid hlen
  have HL := Lib.hid hn
  have HE := Lib.hid he
  have eg := entersL (P := Try.prog) Try.func51 (by kernel_rfl) rfl
  clear h hlen hn he
  go_enter Try.func76, Try.ntmps76
  go_wp2_with fail
  go_loopw [8] (fun i wr => ∃ (k : Nat), i = .int .i64 (k : Nat) ∧ k ≤ n ∧ Hid ((∀ (j : Nat) x, j < k → l[j]? = some x → pC c x = false) ∧ Below w.heap.size w wr)) (fun i _ => n - (intOf i).toNat)
  case atStart => exact ⟨0, rfl, Nat.zero_le _, fun j x h => absurd h (by omega), Below.refl _ _⟩
  case round =>
    obtain ⟨k, rfl, hk, HT⟩ := hrel
    by_cases hlt : k < n
    · have hlt' : (k : Int) < (n : Int) := by omega
      have i0 : (0 : Int) ≤ (k : Int) := by omega
      have i1 : (k : Int) ≤ 1000000 := by have := HN.out; omega
      obtain ⟨g, cap', x, hv, hx, u0, u1, u2, -⟩ := rowA_at (own_below HS.out HT.out.2) HL.out k hlt
      injection hv with e1 _ e3
      subst e1; subst e3
      have HX := Lib.hid hx
      have HP : Hid (Calls Try.prog 51 #[.agg #[.string x.party, .string x.coin, .int .i64 x.amt], .pointer (some ⟨bx, 0, none⟩)] wr _) := delC_any x bx c wr (HE.out.below HT.out.2)
      obtain ⟨R, hR⟩ : ∃ R, R = pC c x := ⟨_, rfl⟩
      have HR := Lib.hid hR
      rw [← hR] at HP
      have HTR := Lib.hid HT.out.1
      have HB0 := Lib.hid HT.out.2
      have HKL := Lib.hid hlt
      clear hx hlt HT hR
      go_wp2_with fail
      go_at_call 51
      (with_reducible refine HP.out.mono ?_)
      rintro e w2 ⟨rfl, b2⟩
      have HB2 := Lib.hid (HB0.out.trans (b2.mono HB0.out.size))
      clear b2 HP u0 u1 u2 HB0
      cases hm : R with
      | false =>
        have HT2 : Hid (∀ (j : Nat) x, j < k + 1 → l[j]? = some x → pC c x = false) := by
          intro j y hj hy
          by_cases e : j < k
          · exact HTR.out j y e hy
          · obtain rfl : j = k := by omega
            rw [HX.out] at hy; rw [← Option.some.inj hy, ← HR.out]; exact hm
        clear hm
        go_wp2_with fail
        go_roundw
        case rel => exact ⟨k + 1, by go_num, by have := HKL.out; omega, HT2.out, HB2.out⟩
        case measure => simp [intOf]; have := HKL.out; omega
      | true =>
        have HF : Hid (pC c x = true) := by show _ = _; rw [← HR.out]; exact hm
        clear hm
        go_wp2_with fail
        go_ret
        exact ⟨⟨_, rfl, .inr ⟨k, rfl, HKL.out, HTR.out, x, HX.out, HF.out⟩⟩, HB2.out⟩
    · have hlt' : ¬ (k : Int) < (n : Int) := by omega
      have HF : Hid (∀ (j : Nat) y, l[j]? = some y → pC c y = false) := fun j y hy =>
        HT.out.1 j y (by have := (List.getElem?_eq_some_iff.1 hy).1; have := HL.out; omega) hy
      have HB2 := Lib.hid HT.out.2
      clear HT
      go_wp2_with fail
      go_ret
      exact ⟨⟨_, rfl, .inl ⟨rfl, HF.out⟩⟩, HB2.out⟩
set_option maxRecDepth 100000 in
set_option maxHeartbeats 4000000 in
theorem idxZ_any (l : List Acct) (base : Nat) (a : Option Addr) (n cap bx : Nat) (c : ByteArray) (w : World) (h : w.ownsRow base 51 3 (.slice a n cap) n (outR l)) (hn : l.length = n) (hlen : n ≤ 1000000) (he : EnvZ bx c w) :
    Calls Try.prog 76 #[.slice a n cap, .func (.func 57) #[] #[]] w fun x w' => (∃ i : Int, x = .returned (.int .i64 i) ∧ ((i = -1 ∧ ∀ (j : Nat) y, l[j]? = some y → pZ c y = false) ∨ ∃ k : Nat, i = (k : Int) ∧ k < n ∧ (∀ (j : Nat) y, j < k → l[j]? = some y → pZ c y = false) ∧ ∃ x, l[k]? = some x ∧ pZ c x = true)) ∧ Below w.heap.size w w' := by
  have HS := Lib.hid h
  have HN := Lib.hid hlen
  have HL := Lib.hid hn
  have HE := Lib.hid he
  have eg := entersL (P := Try.prog) Try.func57 (by kernel_rfl) rfl
  clear h hlen hn he
  go_enter Try.func76, Try.ntmps76
  go_wp2_with fail
  go_loopw [8] (fun i wr => ∃ (k : Nat), i = .int .i64 (k : Nat) ∧ k ≤ n ∧ Hid ((∀ (j : Nat) x, j < k → l[j]? = some x → pZ c x = false) ∧ Below w.heap.size w wr)) (fun i _ => n - (intOf i).toNat)
  case atStart => exact ⟨0, rfl, Nat.zero_le _, fun j x h => absurd h (by omega), Below.refl _ _⟩
  case round =>
    obtain ⟨k, rfl, hk, HT⟩ := hrel
    by_cases hlt : k < n
    · have hlt' : (k : Int) < (n : Int) := by omega
      have i0 : (0 : Int) ≤ (k : Int) := by omega
      have i1 : (k : Int) ≤ 1000000 := by have := HN.out; omega
      obtain ⟨g, cap', x, hv, hx, u0, u1, u2, -⟩ := rowA_at (own_below HS.out HT.out.2) HL.out k hlt
      injection hv with e1 _ e3
      subst e1; subst e3
      have HX := Lib.hid hx
      have HP : Hid (Calls Try.prog 57 #[.agg #[.string x.party, .string x.coin, .int .i64 x.amt]] wr _) := delZ_any x bx c wr (HE.out.below HT.out.2)
      obtain ⟨R, hR⟩ : ∃ R, R = pZ c x := ⟨_, rfl⟩
      have HR := Lib.hid hR
      rw [← hR] at HP
      have HTR := Lib.hid HT.out.1
      have HB0 := Lib.hid HT.out.2
      have HKL := Lib.hid hlt
      clear hx hlt HT hR
      go_wp2_with fail
      go_at_call 57
      (with_reducible refine HP.out.mono ?_)
      rintro e w2 ⟨rfl, b2⟩
      have HB2 := Lib.hid (HB0.out.trans (b2.mono HB0.out.size))
      clear b2 HP u0 u1 u2 HB0
      cases hm : R with
      | false =>
        have HT2 : Hid (∀ (j : Nat) x, j < k + 1 → l[j]? = some x → pZ c x = false) := by
          intro j y hj hy
          by_cases e : j < k
          · exact HTR.out j y e hy
          · obtain rfl : j = k := by omega
            rw [HX.out] at hy; rw [← Option.some.inj hy, ← HR.out]; exact hm
        clear hm
        go_wp2_with fail
        go_roundw
        case rel => exact ⟨k + 1, by go_num, by have := HKL.out; omega, HT2.out, HB2.out⟩
        case measure => simp [intOf]; have := HKL.out; omega
      | true =>
        have HF : Hid (pZ c x = true) := by show _ = _; rw [← HR.out]; exact hm
        clear hm
        go_wp2_with fail
        go_ret
        exact ⟨⟨_, rfl, .inr ⟨k, rfl, HKL.out, HTR.out, x, HX.out, HF.out⟩⟩, HB2.out⟩
    · have hlt' : ¬ (k : Int) < (n : Int) := by omega
      have HF : Hid (∀ (j : Nat) y, l[j]? = some y → pZ c y = false) := fun j y hy =>
        HT.out.1 j y (by have := (List.getElem?_eq_some_iff.1 hy).1; have := HL.out; omega) hy
      have HB2 := Lib.hid HT.out.2
      clear HT
      go_wp2_with fail
      go_ret
      exact ⟨⟨_, rfl, .inl ⟨rfl, HF.out⟩⟩, HB2.out⟩
end Go.Proofs.Ytgbiimoednmlgaa

/- slices.DeleteFunc over accounts: the walk. -/
namespace Go.Proofs.Ytgbiimoednmlgaa
set_option linter.unusedVariables false
set_option linter.unusedSimpArgs false
open Go.RowKit
theorem grown_below {w w' : World} {row : Option Nat} (b : Below w.heap.size w w') : w.grownBy w' row := ⟨b.os, b.tape, b.output, b.size, fun i hi _ => b.block i hi⟩
theorem put3_grown (w : World) (g k : Nat) (x : Acct) : w.grownBy (put3 w g k x) (some g) := World.grownBy.trans (World.grownBy.trans (grown_set _ _ _ _) (grown_set _ _ _ _)) (grown_set _ _ _ _)
theorem row_cap {w : World} {base sz g n cap : Nat} {e : TypeId} {xs : List Value} (h : w.ownsRow base e sz (.slice (some ⟨g, 0, none⟩) n cap) n xs) : n ≤ cap := by
  rcases h.2 with ⟨h0, _⟩ | ⟨g', cap', cur, hv, hg, hh, hn, hcap, hsz, htake⟩
  · cases h0
  · cases hv; exact hn
/-- Where DeleteFunc stands. -/
structure DeSt (P : Acct → Bool) (E : World → Prop) (base : Nat) (w wr : World) (l : List Acct) (g n cap i j : Nat) : Prop where
  st : ∃ l', DlSt P l l' i j ∧ wr.ownsRow base 51 3 (.slice (some ⟨g, 0, none⟩) n cap) n (outR l')
  gro : w.grownBy wr (some g)
  env : E wr
set_option maxRecDepth 100000 in
set_option maxHeartbeats 4000000 in
theorem delfC_any (l : List Acct) (base : Nat) (a : Option Addr) (n cap bx : Nat) (c : ByteArray) (w : World) (h : w.ownsRow base 51 3 (.slice a n cap) n (outR l)) (hn : l.length = n) (hlen : n ≤ 1000000) (he : EnvC bx c w) (hbx : (Value.slice a n cap).ownBlock ≠ some bx) :
    Calls Try.prog 49 #[.slice a n cap, .func (.func 51) #[] #[.pointer (some ⟨bx, 0, none⟩)]] w fun x w' => (∃ a' c', x = .returned (.slice a' (l.filter (fun x => !pC c x)).length c') ∧ w'.ownsRow base 51 3 (.slice a' (l.filter (fun x => !pC c x)).length c') (l.filter (fun x => !pC c x)).length (outR (l.filter (fun x => !pC c x)))) ∧ w.grownBy w' (Value.slice a n cap).ownBlock := by
  have HS := Lib.hid h
  have HN := Lib.hid hlen
  have HL := Lib.hid hn
  have HE := Lib.hid he
  have HBX := Lib.hid hbx
  have eg := entersL (P := Try.prog) Try.func51 (by kernel_rfl) rfl
  have HI := Lib.hid (idxC_any l base a n cap bx c w h hn hlen he)
  obtain ⟨F, hF⟩ : ∃ F, F = l.filter (fun x => !pC c x) := ⟨_, rfl⟩
  have HF := Lib.hid hF
  rw [← hF]
  clear h hlen hn he hbx hF
  go_enter Try.func49, Try.ntmps49
  go_wp2_with fail
  go_at_call 76
  (with_reducible refine HI.out.mono ?_)
  rintro x w1 ⟨⟨i0, rfl, hi⟩, b1⟩
  clear HI
  rcases hi with ⟨rfl, hall⟩ | ⟨k, rfl, hkn, hbefore, x, hx, hpx⟩
  · have HFL : Hid (F = l) := by
      show _ = _
      rw [HF.out]
      exact List.filter_eq_self.2 (fun y hy => by
        obtain ⟨j, hj⟩ := List.getElem?_of_mem hy
        simp [hall j y hj])
    have HNF : Hid (n = F.length) := by show _ = _; rw [HFL.out, HL.out]
    have HS1 := Lib.hid (own_below HS.out b1)
    have HG := Lib.hid (grown_below (row := (Value.slice a n cap).ownBlock) b1)
    clear hall b1 HF
    go_wp2_with fail
    go_ret
    exact ⟨⟨a, cap, by rw [← HNF.out]; rfl, by rw [← HNF.out, HFL.out]; exact HS1.out⟩, HG.out⟩
  · have hne : ((k : Int) == -1) = false := by rw [beq_eq_false_iff_ne]; omega
    obtain ⟨g, cap', x', hv, -, -, -, -, -⟩ := rowA_at (own_below HS.out b1) HL.out k hkn
    injection hv with e1 _ e3
    subst e1; subst e3
    have hgb : g ≠ bx := fun e => HBX.out (by rw [e]; rfl)
    have HD : Hid (DeSt (pC c) (EnvC bx c) base w w1 l g n cap k (k + 1)) := ⟨⟨l, DlSt.start hbefore hx hpx, own_below HS.out b1⟩, grown_below b1, HE.out.below b1⟩
    have HKN := Lib.hid hkn
    have hk0 : (0 : Int) ≤ (k : Int) := by omega
    have hk1 : (k : Int) ≤ 1000000 := by have := HN.out; omega
    clear hbefore hx hpx b1 hkn
    go_wp2_with fail
    go_loopw [5, 6] (fun vi vj wr => ∃ (i j : Nat), vi = .int .i64 (i : Nat) ∧ vj = .int .i64 (j : Nat) ∧ j ≤ n ∧ i < j ∧ Hid (DeSt (pC c) (EnvC bx c) base w wr l g n cap i j)) (fun _ vj _ => n - (intOf vj).toNat)
    case atStart => exact ⟨k, k + 1, rfl, by go_num, HKN.out, by omega, HD.out⟩
    case round =>
      clear HD hk0 hk1 hne
      obtain ⟨i, j, rfl, rfl, hjn, hij, HD⟩ := hrel
      have i0 : (0 : Int) ≤ (i : Int) := by omega
      have i1 : (i : Int) ≤ 1000000 := by have := HN.out; omega
      have j0 : (0 : Int) ≤ (j : Int) := by omega
      have j1 : (j : Int) ≤ 1000000 := by have := HN.out; omega
      obtain ⟨⟨l', hd, hr⟩, hg, hen⟩ := HD.out
      have HLL : Hid (l'.length = n) := by show _ = _; rw [hd.len, HL.out]
      by_cases hlt : j < n
      · have hlt' : (j : Int) < (n : Int) := by omega
        obtain ⟨g', cap', x, hv, hx, u0, u1, u2, -⟩ := rowA_at hr HLL.out j hlt
        injection hv with e1 _ e3
        injection e1 with e1
        injection e1 with e1
        subst e1; subst e3
        have hx' := hx
        rw [hd.at] at hx'
        have HX := Lib.hid hx'
        have HDD := Lib.hid hd
        have HR := Lib.hid hr
        have HG := Lib.hid hg
        have HEN := Lib.hid hen
        have HJT := Lib.hid hlt
        clear hd hr hg hen HD hx hx'
        go_upto_region 8 with (fail)
        have hbn := below_newL wr (.cells #[.string x.party, .string x.coin, .int .i64 x.amt] 51)
        have BV := Lib.hid (Mem.Blk.new wr 51 #[.string x.party, .string x.coin, .int .i64 x.amt])
        have HR2 := Lib.hid (own_below HR.out hbn)
        have HG2 := Lib.hid (World.grownBy.trans HG.out (grown_below (row := some g) hbn))
        have HEN2 := Lib.hid (HEN.out.below hbn)
        clear hbn HR HG HEN u0 u1 u2
        generalize (wr.alloc (.cells #[.string x.party, .string x.coin, .int .i64 x.amt] 51)) = w3 at *
        generalize wr.heap.size = vb at *
        have HP : Hid (Calls Try.prog 51 #[.agg #[.string x.party, .string x.coin, .int .i64 x.amt], .pointer (some ⟨bx, 0, none⟩)] w3 _) := delC_any x bx c w3 HEN2.out
        obtain ⟨R, hRR⟩ : ∃ R, R = pC c x := ⟨_, rfl⟩
        have HRR := Lib.hid hRR
        rw [← hRR] at HP
        obtain ⟨c0, c1, c2, -, -, -⟩ := blk3 BV.out
        clear hRR
        go_wp2_with fail
        go_at_call 51
        (with_reducible refine HP.out.mono ?_)
        rintro e w4 ⟨rfl, b4⟩
        have BV4 := Lib.hid (BV.out.below b4)
        have HR4 := Lib.hid (own_below HR2.out b4)
        have HG4 := Lib.hid (World.grownBy.trans HG2.out (grown_below (row := some g) b4))
        have HEN4 := Lib.hid (HEN2.out.below b4)
        clear HP b4 BV HR2 HG2 HEN2 c0 c1 c2
        cases hm : R with
        | true =>
          have HD2 : Hid (DeSt (pC c) (EnvC bx c) base w w4 l g n cap i (j + 1)) := ⟨⟨l', HDD.out.drop HX.out (by rw [← HRR.out]; exact hm), HR4.out⟩, HG4.out, HEN4.out⟩
          clear hm HDD HR4 HG4 HEN4 BV4
          go_wp2_with fail
          go_roundw
          case rel => exact ⟨i, j + 1, rfl, by go_num, by have := HJT.out; omega, by omega, HD2.out⟩
          case measure => simp [intOf]; have := HJT.out; omega
        | false =>
          have hil : i < l'.length := by have := HLL.out; have := HJT.out; omega
          obtain ⟨y, hy⟩ : ∃ y, l'[i]? = some y := ⟨_, List.getElem?_eq_getElem hil⟩
          obtain ⟨s1, s2, s3⟩ := set_split (x := x) hy
          have hr4 := HR4.out
          rw [s1] at hr4
          have hput := rowA_put hr4 x i s3
          rw [← s2] at hput
          have HD2 : Hid (DeSt (pC c) (EnvC bx c) base w (put3 w4 g i x) l g n cap (i + 1) (j + 1)) := ⟨⟨l'.set i x, HDD.out.keep HX.out (by rw [← HRR.out]; exact hm), hput⟩, World.grownBy.trans HG4.out (put3_grown _ _ _ _), ((HEN4.out.set hgb _).set hgb _).set hgb _⟩
          obtain ⟨⟨p0, f0⟩, f1, ⟨p2, f2⟩, f3, ⟨p4, f4⟩, f5⟩ := put3_way HR4.out (by rw [outR_len, HLL.out]) x i (by have := HJT.out; omega)
          have hii : (i : Int) < (n : Int) := by have := HJT.out; omega
          obtain ⟨c0, c1, c2, -, -, -⟩ := blk3 BV4.out
          unfold put3 at HD2
          clear hm HDD HR4 HG4 HEN4 BV4 hr4 hput s1 s2 s3 hy hil
          go_wp2_with fail
          go_roundw
          case rel => exact ⟨i + 1, j + 1, by go_num, by go_num, by have := HJT.out; omega, by omega, HD2.out⟩
          case measure => simp [intOf]; have := HJT.out; omega
      · have hlt' : ¬ (j : Int) < (n : Int) := by omega
        have hii : i < n := by omega
        obtain ⟨w5, hrun, hg5, hr5⟩ := clear_run hr i hii (cap - i)
        have HG5 := Lib.hid (World.grownBy.trans hg hg5)
        have HFI := Lib.hid (hd.fin (by rw [HL.out]; omega))
        rw [← HF.out] at HFI
        have HFN : Hid (i = F.length) := by
          show _ = _
          rw [← HFI.out, List.length_take, HLL.out]; omega
        have hfr : n ≤ cap := row_cap hr
        have hR5 : Hid (w5.ownsRow base 51 3 (.slice (some ⟨g, 0, none⟩) i cap) i (outR F)) := by
          rw [HFI.out] at hr5; exact hr5
        have hci : ¬ (cap : Int) = (i : Int) := by omega
        have hci2 : ¬ cap = i := by omega
        have hin : (i : Int) ≤ (n : Int) := by omega
        have hnc : (n : Int) ≤ (cap : Int) := by omega
        have hic : (i : Int) ≤ (cap : Int) := by omega
        clear hd hr hg hen HD hg5 hr5 hlt
        go_wp2_with fail
        go_ret
        exact ⟨⟨_, cap, by rw [← HFN.out]; rfl, by rw [← HFN.out]; exact hR5.out⟩, HG5.out⟩
set_option maxRecDepth 100000 in
set_option maxHeartbeats 4000000 in
theorem delfZ_any (l : List Acct) (base : Nat) (a : Option Addr) (n cap bx : Nat) (c : ByteArray) (w : World) (h : w.ownsRow base 51 3 (.slice a n cap) n (outR l)) (hn : l.length = n) (hlen : n ≤ 1000000) (he : EnvZ bx c w) (hbx : (Value.slice a n cap).ownBlock ≠ some bx) :
    Calls Try.prog 49 #[.slice a n cap, .func (.func 57) #[] #[]] w fun x w' => (∃ a' c', x = .returned (.slice a' (l.filter (fun x => !pZ c x)).length c') ∧ w'.ownsRow base 51 3 (.slice a' (l.filter (fun x => !pZ c x)).length c') (l.filter (fun x => !pZ c x)).length (outR (l.filter (fun x => !pZ c x)))) ∧ w.grownBy w' (Value.slice a n cap).ownBlock := by
  have HS := Lib.hid h
  have HN := Lib.hid hlen
  have HL := Lib.hid hn
  have HE := Lib.hid he
  have HBX := Lib.hid hbx
  have eg := entersL (P := Try.prog) Try.func57 (by kernel_rfl) rfl
  have HI := Lib.hid (idxZ_any l base a n cap bx c w h hn hlen he)
  obtain ⟨F, hF⟩ : ∃ F, F = l.filter (fun x => !pZ c x) := ⟨_, rfl⟩
  have HF := Lib.hid hF
  rw [← hF]
  clear h hlen hn he hbx hF
  go_enter Try.func49, Try.ntmps49
  go_wp2_with fail
  go_at_call 76
  (with_reducible refine HI.out.mono ?_)
  rintro x w1 ⟨⟨i0, rfl, hi⟩, b1⟩
  clear HI
  rcases hi with ⟨rfl, hall⟩ | ⟨k, rfl, hkn, hbefore, x, hx, hpx⟩
  · have HFL : Hid (F = l) := by
      show _ = _
      rw [HF.out]
      exact List.filter_eq_self.2 (fun y hy => by
        obtain ⟨j, hj⟩ := List.getElem?_of_mem hy
        simp [hall j y hj])
    have HNF : Hid (n = F.length) := by show _ = _; rw [HFL.out, HL.out]
    have HS1 := Lib.hid (own_below HS.out b1)
    have HG := Lib.hid (grown_below (row := (Value.slice a n cap).ownBlock) b1)
    clear hall b1 HF
    go_wp2_with fail
    go_ret
    exact ⟨⟨a, cap, by rw [← HNF.out]; rfl, by rw [← HNF.out, HFL.out]; exact HS1.out⟩, HG.out⟩
  · have hne : ((k : Int) == -1) = false := by rw [beq_eq_false_iff_ne]; omega
    obtain ⟨g, cap', x', hv, -, -, -, -, -⟩ := rowA_at (own_below HS.out b1) HL.out k hkn
    injection hv with e1 _ e3
    subst e1; subst e3
    have hgb : g ≠ bx := fun e => HBX.out (by rw [e]; rfl)
    have HD : Hid (DeSt (pZ c) (EnvZ bx c) base w w1 l g n cap k (k + 1)) := ⟨⟨l, DlSt.start hbefore hx hpx, own_below HS.out b1⟩, grown_below b1, HE.out.below b1⟩
    have HKN := Lib.hid hkn
    have hk0 : (0 : Int) ≤ (k : Int) := by omega
    have hk1 : (k : Int) ≤ 1000000 := by have := HN.out; omega
    clear hbefore hx hpx b1 hkn
    go_wp2_with fail
    go_loopw [5, 6] (fun vi vj wr => ∃ (i j : Nat), vi = .int .i64 (i : Nat) ∧ vj = .int .i64 (j : Nat) ∧ j ≤ n ∧ i < j ∧ Hid (DeSt (pZ c) (EnvZ bx c) base w wr l g n cap i j)) (fun _ vj _ => n - (intOf vj).toNat)
    case atStart => exact ⟨k, k + 1, rfl, by go_num, HKN.out, by omega, HD.out⟩
    case round =>
      clear HD hk0 hk1 hne
      obtain ⟨i, j, rfl, rfl, hjn, hij, HD⟩ := hrel
      have i0 : (0 : Int) ≤ (i : Int) := by omega
      have i1 : (i : Int) ≤ 1000000 := by have := HN.out; omega
      have j0 : (0 : Int) ≤ (j : Int) := by omega
      have j1 : (j : Int) ≤ 1000000 := by have := HN.out; omega
      obtain ⟨⟨l', hd, hr⟩, hg, hen⟩ := HD.out
      have HLL : Hid (l'.length = n) := by show _ = _; rw [hd.len, HL.out]
      by_cases hlt : j < n
      · have hlt' : (j : Int) < (n : Int) := by omega
        obtain ⟨g', cap', x, hv, hx, u0, u1, u2, -⟩ := rowA_at hr HLL.out j hlt
        injection hv with e1 _ e3
        injection e1 with e1
        injection e1 with e1
        subst e1; subst e3
        have hx' := hx
        rw [hd.at] at hx'
        have HX := Lib.hid hx'
        have HDD := Lib.hid hd
        have HR := Lib.hid hr
        have HG := Lib.hid hg
        have HEN := Lib.hid hen
        have HJT := Lib.hid hlt
        clear hd hr hg hen HD hx hx'
        go_upto_region 8 with (fail)
        have hbn := below_newL wr (.cells #[.string x.party, .string x.coin, .int .i64 x.amt] 51)
        have BV := Lib.hid (Mem.Blk.new wr 51 #[.string x.party, .string x.coin, .int .i64 x.amt])
        have HR2 := Lib.hid (own_below HR.out hbn)
        have HG2 := Lib.hid (World.grownBy.trans HG.out (grown_below (row := some g) hbn))
        have HEN2 := Lib.hid (HEN.out.below hbn)
        clear hbn HR HG HEN u0 u1 u2
        generalize (wr.alloc (.cells #[.string x.party, .string x.coin, .int .i64 x.amt] 51)) = w3 at *
        generalize wr.heap.size = vb at *
        have HP : Hid (Calls Try.prog 57 #[.agg #[.string x.party, .string x.coin, .int .i64 x.amt]] w3 _) := delZ_any x bx c w3 HEN2.out
        obtain ⟨R, hRR⟩ : ∃ R, R = pZ c x := ⟨_, rfl⟩
        have HRR := Lib.hid hRR
        rw [← hRR] at HP
        obtain ⟨c0, c1, c2, -, -, -⟩ := blk3 BV.out
        clear hRR
        go_wp2_with fail
        go_at_call 57
        (with_reducible refine HP.out.mono ?_)
        rintro e w4 ⟨rfl, b4⟩
        have BV4 := Lib.hid (BV.out.below b4)
        have HR4 := Lib.hid (own_below HR2.out b4)
        have HG4 := Lib.hid (World.grownBy.trans HG2.out (grown_below (row := some g) b4))
        have HEN4 := Lib.hid (HEN2.out.below b4)
        clear HP b4 BV HR2 HG2 HEN2 c0 c1 c2
        cases hm : R with
        | true =>
          have HD2 : Hid (DeSt (pZ c) (EnvZ bx c) base w w4 l g n cap i (j + 1)) := ⟨⟨l', HDD.out.drop HX.out (by rw [← HRR.out]; exact hm), HR4.out⟩, HG4.out, HEN4.out⟩
          clear hm HDD HR4 HG4 HEN4 BV4
          go_wp2_with fail
          go_roundw
          case rel => exact ⟨i, j + 1, rfl, by go_num, by have := HJT.out; omega, by omega, HD2.out⟩
          case measure => simp [intOf]; have := HJT.out; omega
        | false =>
          have hil : i < l'.length := by have := HLL.out; have := HJT.out; omega
          obtain ⟨y, hy⟩ : ∃ y, l'[i]? = some y := ⟨_, List.getElem?_eq_getElem hil⟩
          obtain ⟨s1, s2, s3⟩ := set_split (x := x) hy
          have hr4 := HR4.out
          rw [s1] at hr4
          have hput := rowA_put hr4 x i s3
          rw [← s2] at hput
          have HD2 : Hid (DeSt (pZ c) (EnvZ bx c) base w (put3 w4 g i x) l g n cap (i + 1) (j + 1)) := ⟨⟨l'.set i x, HDD.out.keep HX.out (by rw [← HRR.out]; exact hm), hput⟩, World.grownBy.trans HG4.out (put3_grown _ _ _ _), ((HEN4.out.set hgb _).set hgb _).set hgb _⟩
          obtain ⟨⟨p0, f0⟩, f1, ⟨p2, f2⟩, f3, ⟨p4, f4⟩, f5⟩ := put3_way HR4.out (by rw [outR_len, HLL.out]) x i (by have := HJT.out; omega)
          have hii : (i : Int) < (n : Int) := by have := HJT.out; omega
          obtain ⟨c0, c1, c2, -, -, -⟩ := blk3 BV4.out
          unfold put3 at HD2
          clear hm HDD HR4 HG4 HEN4 BV4 hr4 hput s1 s2 s3 hy hil
          go_wp2_with fail
          go_roundw
          case rel => exact ⟨i + 1, j + 1, by go_num, by go_num, by have := HJT.out; omega, by omega, HD2.out⟩
          case measure => simp [intOf]; have := HJT.out; omega
      · have hlt' : ¬ (j : Int) < (n : Int) := by omega
        have hii : i < n := by omega
        obtain ⟨w5, hrun, hg5, hr5⟩ := clear_run hr i hii (cap - i)
        have HG5 := Lib.hid (World.grownBy.trans hg hg5)
        have HFI := Lib.hid (hd.fin (by rw [HL.out]; omega))
        rw [← HF.out] at HFI
        have HFN : Hid (i = F.length) := by
          show _ = _
          rw [← HFI.out, List.length_take, HLL.out]; omega
        have hfr : n ≤ cap := row_cap hr
        have hR5 : Hid (w5.ownsRow base 51 3 (.slice (some ⟨g, 0, none⟩) i cap) i (outR F)) := by
          rw [HFI.out] at hr5; exact hr5
        have hci : ¬ (cap : Int) = (i : Int) := by omega
        have hci2 : ¬ cap = i := by omega
        have hin : (i : Int) ≤ (n : Int) := by omega
        have hnc : (n : Int) ≤ (cap : Int) := by omega
        have hic : (i : Int) ≤ (cap : Int) := by omega
        clear hd hr hg hen HD hg5 hr5 hlt
        go_wp2_with fail
        go_ret
        exact ⟨⟨_, cap, by rw [← HFN.out]; rfl, by rw [← HFN.out]; exact hR5.out⟩, HG5.out⟩
end Go.Proofs.Ytgbiimoednmlgaa

/- slices.Compact over accounts without amounts. -/
namespace Go.Proofs.Ytgbiimoednmlgaa
set_option linter.unusedVariables false
set_option linter.unusedSimpArgs false
open Go.RowKit
/-- What is kept of the first j. -/
structure CpSt (l r : List Acct) (j : Nat) : Prop where
  up : UpK Acct.key r
  mem : ∀ a, a ∈ r ↔ a ∈ l.take j
  last : r.getLast? = l[j - 1]?
/-- Not falling. -/
def WkUp (l : List Acct) : Prop := l.Pairwise (fun x y => ¬ klt y.key x.key)
def Zs (l : List Acct) : Prop := ∀ a ∈ l, a.amt = 0
theorem take_snocA {l : List Acct} {k : Nat} {x : Acct} (h : l[k]? = some x) : l.take (k + 1) = l.take k ++ [x] := by
  obtain ⟨hk, e⟩ := List.getElem?_eq_some_iff.1 h
  rw [← List.take_append_getElem hk, e]
theorem CpSt.one {l : List Acct} {x : Acct} (h : l[0]? = some x) : CpSt l (l.take 1) 1 := by
  have e : l.take 1 = [x] := by rw [take_snocA h]; rfl
  rw [e]
  exact ⟨List.pairwise_singleton .., fun a => by rw [e], by rw [h]; rfl⟩
theorem CpSt.same {l r : List Acct} {j : Nat} {x y : Acct} (h : CpSt l r j) (hj : 0 < j) (hx : l[j]? = some x) (hy : l[j - 1]? = some y) (e : x = y) : CpSt l r (j + 1) := by
  refine ⟨h.up, fun a => ?_, by rw [h.last, Nat.add_sub_cancel, hx, hy, e]⟩
  rw [take_snocA hx, List.mem_append, List.mem_singleton, h.mem]
  constructor
  · exact .inl
  · rintro (h1 | rfl)
    · exact h1
    · rw [e]
      have : (l.take j)[j - 1]? = some y := by rw [List.getElem?_take, if_pos (by omega)]; exact hy
      exact List.mem_of_getElem? this
theorem CpSt.snoc {l r : List Acct} {j : Nat} {x y : Acct} (h : CpSt l r j) (hw : WkUp l) (hz : Zs l) (hj : 0 < j) (hx : l[j]? = some x) (hy : l[j - 1]? = some y) (hne : ¬ (y.key = x.key)) : CpSt l (r ++ [x]) (j + 1) := by
  obtain ⟨hjx, ex⟩ := List.getElem?_eq_some_iff.1 hx
  obtain ⟨hjy, ey⟩ := List.getElem?_eq_some_iff.1 hy
  have hyx : klt y.key x.key := by
    have h1 := List.pairwise_iff_getElem.1 hw (j - 1) j hjy hjx (by omega)
    rw [ex, ey] at h1
    rcases klt_total y.key x.key with h2 | h2 | h2
    · exact h2
    · exact absurd h2 hne
    · exact absurd h2 h1
  refine ⟨?_, fun a => ?_, by rw [Nat.add_sub_cancel, hx]; simp⟩
  · unfold UpK
    rw [List.pairwise_append]
    refine ⟨h.up, List.pairwise_singleton .., fun a ha b hb => ?_⟩
    rw [List.mem_singleton] at hb
    subst hb
    -- a is y or ahead of it
    have ha' := (h.mem a).1 ha
    obtain ⟨i, hi⟩ := List.getElem?_of_mem ha'
    rw [List.getElem?_take] at hi
    split at hi
    · rename_i hij
      obtain ⟨hil, ei⟩ := List.getElem?_eq_some_iff.1 hi
      by_cases e : i = j - 1
      · subst e
        rw [hy] at hi
        rw [← Option.some.inj hi]; exact hyx
      · have h1 := List.pairwise_iff_getElem.1 hw i (j - 1) hil hjy (by omega)
        rw [ei, ey] at h1
        rcases klt_total a.key y.key with h2 | h2 | h2
        · exact klt_trans h2 hyx
        · rw [h2]; exact hyx
        · exact absurd h2 h1
    · cases hi
  · rw [take_snocA hx, List.mem_append, List.mem_append, h.mem]
structure CpFin (l r : List Acct) : Prop where
  up : UpK Acct.key r
  mem : ∀ a, a ∈ r ↔ a ∈ l
theorem CpSt.fin {l r : List Acct} {j : Nat} (h : CpSt l r j) (hj : l.length ≤ j) : CpFin l r := ⟨h.up, fun a => by rw [h.mem, List.take_of_length_le hj]⟩
/-- The second half's store. -/
structure CqSt (l l' : List Acct) (i j : Nat) : Prop where
  len : l'.length = l.length
  suf : l'.drop i = l.drop i
  st : CpSt l (l'.take i) j
theorem CqSt.at {l l' : List Acct} {i j : Nat} (h : CqSt l l' i j) {q : Nat} (hq : i ≤ q) : l'[q]? = l[q]? := by
  have h1 := congrArg (fun m : List Acct => m[q - i]?) h.suf
  simp only [List.getElem?_drop] at h1
  rwa [show i + (q - i) = q by omega] at h1
theorem CqSt.next {l l' : List Acct} {i j : Nat} {x y : Acct} (h : CqSt l l' i j) (hw : WkUp l) (hz : Zs l) (hj : 0 < j) (hx : l[j]? = some x) (hy : l[j - 1]? = some y) (hne : ¬ (y.key = x.key)) (hi : i < l'.length) : CqSt l (l'.set i x) (i + 1) (j + 1) := by
  refine ⟨by rw [List.length_set]; exact h.len, ?_, ?_⟩
  · rw [List.drop_set, if_pos (by omega)]
    exact drop_next h.suf
  · have h1 : (l'.set i x).take (i + 1) = l'.take i ++ [x] := by
      have h2 : i < (l'.set i x).length := by rw [List.length_set]; exact hi
      rw [← List.take_append_getElem h2, List.getElem_set_self, List.take_set_of_le (Nat.le_refl _)]
    rw [h1]
    exact h.st.snoc hw hz hj hx hy hne
theorem CqSt.same {l l' : List Acct} {i j : Nat} {x y : Acct} (h : CqSt l l' i j) (hj : 0 < j) (hx : l[j]? = some x) (hy : l[j - 1]? = some y) (e : x = y) : CqSt l l' i (j + 1) := ⟨h.len, h.suf, h.st.same hj hx hy e⟩
theorem key_amt {x y : Acct} (hk : x.key = y.key) (h1 : x.amt = 0) (h2 : y.amt = 0) : x = y := acct_ext hk (h1.trans h2.symm)
theorem key_split {x y : Acct} : x.key = y.key ↔ x.party.data.toList = y.party.data.toList ∧ x.coin.data.toList = y.coin.data.toList := ⟨fun h => ⟨congrArg Prod.fst h, congrArg Prod.snd h⟩, fun h => Prod.ext h.1 h.2⟩
set_option maxRecDepth 100000 in
set_option maxHeartbeats 8000000 in
theorem compact_any (l : List Acct) (base : Nat) (a : Option Addr) (n cap : Nat) (w : World) (h : w.ownsRow base 51 3 (.slice a n cap) n (outR l)) (hn : l.length = n) (hlen : n ≤ 100000) (hw : WkUp l) (hz : Zs l) :
    Calls Try.prog 60 #[.slice a n cap] w fun x w' => (∃ (r : List Acct) (a' : Option Addr) (c' : Nat), x = .returned (.slice a' r.length c') ∧ w'.ownsRow base 51 3 (.slice a' r.length c') r.length (outR r) ∧ CpFin l r ∧ r.length ≤ n) ∧ w.grownBy w' (Value.slice a n cap).ownBlock := by
  have HS := Lib.hid h
  have HL := Lib.hid hn
  have HN := Lib.hid hlen
  have HWU := Lib.hid hw
  have HZ := Lib.hid hz
  have HCAP : Hid (n ≤ cap) := by
    rcases h.2 with ⟨h0, h1⟩ | ⟨g', cap', cur, hv, hg, hh, hn, _⟩
    · injection h0 with _ _ h2; show _ ≤ _; omega
    · injection hv with _ _ h2; show _ ≤ _; omega
  by_cases hs : n < 2
  · have hs1 : (n : Int) < 2 := by omega
    have HF : Hid (CpFin l l) := by
      refine ⟨?_, fun a => Iff.rfl⟩
      match l, hn with
      | [], _ => exact List.Pairwise.nil
      | [x], _ => exact List.pairwise_singleton ..
      | x :: y :: t, hn => simp at hn; omega
    clear h hn hlen hw hz hs
    go_enter Try.func60, Try.ntmps60
    go_wp2_with fail
    go_ret
    exact ⟨⟨l, a, cap, by rw [HL.out]; rfl, by rw [HL.out]; exact HS.out, HF.out, by rw [HL.out]; exact Nat.le_refl _⟩, World.grownBy.refl _ _⟩
  · have hs1 : ¬ (n : Int) < 2 := by omega
    obtain ⟨g, cap', x0, hv, hx0, -⟩ := rowA_at h hn 0 (by omega)
    injection hv with e1 _ e3
    subst e1; subst e3
    have HX0 := Lib.hid hx0
    have HGE : Hid (2 ≤ n) := by show _ ≤ _; omega
    clear h hn hlen hw hz hs hx0
    go_enter Try.func60, Try.ntmps60
    go_wp2_with fail
    go_loopw [3] (fun v wr => ∃ (k : Nat), v = .int .i64 (k : Nat) ∧ 1 ≤ k ∧ k ≤ n ∧ Hid (CpSt l (l.take k) k ∧ Below w.heap.size w wr)) (fun v _ => n - (intOf v).toNat)
    case atStart => exact ⟨1, rfl, Nat.le_refl _, by have := HGE.out; omega, CpSt.one HX0.out, Below.refl _ _⟩
    case round =>
      obtain ⟨k, rfl, hk1, hk, HT⟩ := hrel
      by_cases hlt : k < n
      · have hlt' : (k : Int) < (n : Int) := by omega
        have k0 : (0 : Int) ≤ (k : Int) := by omega
        have k2 : (k : Int) ≤ 100000 := by have := HN.out; omega
        obtain ⟨p, hp⟩ : ∃ p, k = p + 1 := ⟨k - 1, by omega⟩
        have HP := Lib.hid hp
        have hw1 : IntKind.i64.wrap ((k : Int) - 1) = (p : Int) := by rw [IntWalk.i64_in _ (by omega)]; omega
        have hw2 : (k : Int) - 1 = (p : Int) := by omega
        have p0 : (0 : Int) ≤ (p : Int) := by omega
        have p1 : (p : Int) < (n : Int) := by omega
        have hrow := own_below HS.out HT.out.2
        obtain ⟨g1, c1, x, hv1, hx, u0, u1, u2, -⟩ := rowA_at hrow HL.out k hlt
        obtain ⟨g2, c2, y, hv2, hy, z0, z1, z2, -⟩ := rowA_at hrow HL.out p (by omega)
        injection hv1 with e1 _ e3
        injection e1 with e1; injection e1 with e1; subst e1
        injection hv2 with e4 _ e6
        injection e4 with e4; injection e4 with e4; subst e4
        have hxz := HZ.out x (List.mem_of_getElem? hx)
        have hyz := HZ.out y (List.mem_of_getElem? hy)
        rw [hxz] at u2
        rw [hyz] at z2
        have hy' : l[k - 1]? = some y := by rw [show k - 1 = p by omega]; exact hy
        have HX := Lib.hid hx
        have HY := Lib.hid hy'
        have HXZ : Hid (x.amt = 0 ∧ y.amt = 0) := ⟨hxz, hyz⟩
        have HLT := Lib.hid hlt
        have HK1 := Lib.hid hk1
        have q1 := same_b x.party y.party
        have q2 := same_b x.coin y.coin
        have HST := Lib.hid HT.out.1
        have HB := Lib.hid HT.out.2
        clear hrow hx hy hy' hxz hyz hlt hp e3 e6 HT
        by_cases hkey : x.key = y.key
        · obtain ⟨h1, h2⟩ := key_split.1 hkey
          rw [decide_eq_true h1] at q1
          rw [decide_eq_true h2] at q2
          have HQ0 : Hid (CqSt l l k (k + 1)) := ⟨rfl, rfl, HST.out.same (by omega) HX.out HY.out (key_amt hkey HXZ.out.1 HXZ.out.2)⟩
          clear h1 h2 hkey HST
          go_upto_region 6 with (fail)
          go_quiet (fail)
          have bq : Below wr.heap.size wr (wr.drewN nq) := below_dN (Below.refl wr.heap.size wr) nq
          have HB2 := Lib.hid (HB.out.trans (bq.mono HB.out.size))
          clear bq u0 u1 u2 z0 z1 z2 HB
          generalize wr.drewN nq = w2 at *
          have hck : ¬ cap = k := by have := HCAP.out; have := HLT.out; omega
          have hck2 : ¬ (cap : Int) = (k : Int) := by have := HCAP.out; have := HLT.out; omega
          have hkc : (k : Int) ≤ (cap : Int) := by have := HCAP.out; have := HLT.out; omega
          have hnc : (n : Int) ≤ (cap : Int) := by have := HCAP.out; omega
          have HR2 : Hid (w2.ownsRow base 51 3 (.slice (some ⟨g, 0, none⟩) n cap) n (outR l) ∧ w.grownBy w2 (some g)) := ⟨own_below HS.out HB2.out, grown_below HB2.out⟩
          obtain ⟨m, hm⟩ : ∃ m, m = n - k := ⟨_, rfl⟩
          have HM := Lib.hid hm
          have HMN : Hid (k + m = n) := by have := HLT.out; show _ = _; omega
          go_upto_region 8 with (fail)
          rw [← hm]
          clear hm hw1 hw2 p0 p1 q1 q2
          go_wp2_with fail
          go_loopw [3, 5] (fun vi vq wr => ∃ (i q : Nat), vi = .int .i64 (i : Nat) ∧ vq = .int .i64 (q : Nat) ∧ 1 ≤ q ∧ q ≤ m ∧ i < k + q ∧ k ≤ i ∧ Hid (∃ l', CqSt l l' i (k + q) ∧ wr.ownsRow base 51 3 (.slice (some ⟨g, 0, none⟩) n cap) n (outR l') ∧ w.grownBy wr (some g))) (fun _ vq _ => m - (intOf vq).toNat)
          case atStart => exact ⟨k, 1, rfl, rfl, Nat.le_refl _, by have := HLT.out; have := HMN.out; omega, by omega, Nat.le_refl _, l, HQ0.out, HR2.out.1, HR2.out.2⟩
          case round =>
            clear HQ0 HR2 HB2
            rename World => w3
            obtain ⟨i, q, rfl, rfl, hq1, hqm, hiq, hki, HT⟩ := hrel
            obtain ⟨l', hc, hr, hg⟩ := HT.out
            have HC := Lib.hid hc
            have HR := Lib.hid hr
            have HG := Lib.hid hg
            have hl' : l'.length = n := by rw [hc.len]; exact HL.out
            have HLL := Lib.hid hl'
            have hin : i < n := by have := HMN.out; omega
            have hinI : (i : Int) < (n : Int) := by omega
            have i0 : (0 : Int) ≤ (i : Int) := by omega
            have i1 : (i : Int) ≤ 100000 := by have := HN.out; omega
            by_cases hqt : q < m
            · have hqt' : (q : Int) < (m : Int) := by omega
              have q0 : (0 : Int) ≤ (q : Int) := by omega
              have q9 : (q : Int) ≤ 100000 := by have := HN.out; have := HMN.out; omega
              obtain ⟨s, hsq⟩ : ∃ s, q = s + 1 := ⟨q - 1, by omega⟩
              have HSQ := Lib.hid hsq
              have hv1 : IntKind.i64.wrap ((q : Int) - 1) = (s : Int) := by rw [IntWalk.i64_in _ (by omega)]; omega
              have hv2 : (q : Int) - 1 = (s : Int) := by omega
              have s0 : (0 : Int) ≤ (s : Int) := by omega
              have s1 : (s : Int) < (m : Int) := by omega
              obtain ⟨g1, c1, x', hh1, hx', u0, u1, u2, -⟩ := rowA_at hr hl' (k + q) (by have := HMN.out; omega)
              obtain ⟨g2, c2, y', hh2, hy', z0, z1, z2, -⟩ := rowA_at hr hl' (k + s) (by have := HMN.out; omega)
              injection hh1 with e1 _ e3
              injection e1 with e1; injection e1 with e1; subst e1
              injection hh2 with e4 _ e6
              injection e4 with e4; injection e4 with e4; subst e4
              have hxl : l[k + q]? = some x' := by rw [← hc.at (by omega)]; exact hx'
              have hyl : l[k + q - 1]? = some y' := by rw [show k + q - 1 = k + s by omega, ← hc.at (by omega)]; exact hy'
              have hxz := HZ.out x' (List.mem_of_getElem? hxl)
              have hyz := HZ.out y' (List.mem_of_getElem? hyl)
              rw [hxz] at u2
              rw [hyz] at z2
              rw [Nat.add_mul] at u0 u1 u2 z0 z1 z2
              have HX2 := Lib.hid hxl
              have HY2 := Lib.hid hyl
              have HXZ2 : Hid (x'.amt = 0 ∧ y'.amt = 0) := ⟨hxz, hyz⟩
              have HQT := Lib.hid hqt
              have r1 := same_b x'.party y'.party
              have r2 := same_b x'.coin y'.coin
              clear hc hr hg HT hx' hy' hxl hyl hxz hyz hqt hsq e3 e6
              by_cases hk2 : x'.key = y'.key
              · obtain ⟨h1, h2⟩ := key_split.1 hk2
                rw [decide_eq_true h1] at r1
                rw [decide_eq_true h2] at r2
                have HC2 := Lib.hid (HC.out.same (by omega) HX2.out HY2.out (key_amt hk2 HXZ2.out.1 HXZ2.out.2))
                clear h1 h2 hk2
                have HU0 := Lib.hid u0
                have HU1 := Lib.hid u1
                have HU2 := Lib.hid u2
                go_upto_region 11 with (fail)
                go_quiet (fail)
                have bq : Below w3.heap.size w3 (w3.drewN nq) := below_dN (Below.refl w3.heap.size w3) nq
                have HR4 := Lib.hid (own_below HR.out bq)
                have HG4 := Lib.hid (World.grownBy.trans HG.out (grown_below (row := some g) bq))
                replace HU0 := Lib.hid (cellUp HU0.out bq)
                replace HU1 := Lib.hid (cellUp HU1.out bq)
                replace HU2 := Lib.hid (cellUp HU2.out bq)
                clear bq u0 u1 u2 z0 z1 z2 HR HG
                generalize w3.drewN nq = w4 at *
                go_wp2_with fail
                go_roundw
                case rel => exact ⟨i, q + 1, rfl, by go_num, by omega, by have := HQT.out; omega, by omega, hki, l', HC2.out, HR4.out, HG4.out⟩
                case measure => simp [intOf]; have := HQT.out; omega
              · have HNE : Hid (¬ y'.key = x'.key) := fun e => hk2 e.symm
                have HC2 := Lib.hid (HC.out.next HWU.out HZ.out (by omega) HX2.out HY2.out HNE.out (by rw [HLL.out]; exact hin))
                by_cases h1 : x'.party.data.toList = y'.party.data.toList
                · have h2 : ¬ x'.coin.data.toList = y'.coin.data.toList := fun h => hk2 (key_split.2 ⟨h1, h⟩)
                  rw [decide_eq_true h1] at r1
                  rw [decide_eq_false h2] at r2
                  clear h1 h2 hk2
                  have HU0 := Lib.hid u0
                  have HU1 := Lib.hid u1
                  have HU2 := Lib.hid u2
                  go_upto_region 11 with (fail)
                  go_quiet (fail)
                  have bq : Below w3.heap.size w3 (w3.drewN nq) := below_dN (Below.refl w3.heap.size w3) nq
                  have HR4 := Lib.hid (own_below HR.out bq)
                  have HG4 := Lib.hid (World.grownBy.trans HG.out (grown_below (row := some g) bq))
                  replace HU0 := Lib.hid (cellUp HU0.out bq)
                  replace HU1 := Lib.hid (cellUp HU1.out bq)
                  replace HU2 := Lib.hid (cellUp HU2.out bq)
                  clear bq u0 u1 u2 z0 z1 z2 HR HG
                  generalize w3.drewN nq = w4 at *
                  have u0 := HU0.out
                  have u1 := HU1.out
                  have u2 := HU2.out
                  obtain ⟨yy, hyy⟩ : ∃ y, l'[i]? = some y := ⟨_, List.getElem?_eq_getElem (by rw [HLL.out]; exact hin)⟩
                  obtain ⟨s1', s2', s3'⟩ := set_split (x := x') hyy
                  have hr4 := HR4.out
                  rw [s1'] at hr4
                  have hput := rowA_put hr4 x' i s3'
                  rw [← s2'] at hput
                  have HPU := Lib.hid hput
                  have HGU := Lib.hid (World.grownBy.trans HG4.out (put3_grown w4 g i x'))
                  obtain ⟨⟨p0, f0⟩, f1, ⟨p2, f2⟩, f3, ⟨p4, f4⟩, f5⟩ := put3_way HR4.out (by rw [outR_len, HLL.out]) x' i hin
                  unfold put3 at HPU HGU
                  rw [HXZ2.out.1] at HPU HGU
                  clear hr4 hput s1' s2' s3' hyy HR4 HG4 HC
                  go_wp2_with fail
                  go_roundw
                  case rel => exact ⟨i + 1, q + 1, by go_num, by go_num, by omega, by have := HQT.out; omega, by omega, by omega, l'.set i x', HC2.out, HPU.out, HGU.out⟩
                  case measure => simp [intOf]; have := HQT.out; omega
                · rw [decide_eq_false h1] at r1
                  clear h1 hk2
                  have HU0 := Lib.hid u0
                  have HU1 := Lib.hid u1
                  have HU2 := Lib.hid u2
                  go_upto_region 11 with (fail)
                  go_quiet (fail)
                  have bq : Below w3.heap.size w3 (w3.drewN nq) := below_dN (Below.refl w3.heap.size w3) nq
                  have HR4 := Lib.hid (own_below HR.out bq)
                  have HG4 := Lib.hid (World.grownBy.trans HG.out (grown_below (row := some g) bq))
                  replace HU0 := Lib.hid (cellUp HU0.out bq)
                  replace HU1 := Lib.hid (cellUp HU1.out bq)
                  replace HU2 := Lib.hid (cellUp HU2.out bq)
                  clear bq u0 u1 u2 z0 z1 z2 HR HG
                  generalize w3.drewN nq = w4 at *
                  have u0 := HU0.out
                  have u1 := HU1.out
                  have u2 := HU2.out
                  obtain ⟨yy, hyy⟩ : ∃ y, l'[i]? = some y := ⟨_, List.getElem?_eq_getElem (by rw [HLL.out]; exact hin)⟩
                  obtain ⟨s1', s2', s3'⟩ := set_split (x := x') hyy
                  have hr4 := HR4.out
                  rw [s1'] at hr4
                  have hput := rowA_put hr4 x' i s3'
                  rw [← s2'] at hput
                  have HPU := Lib.hid hput
                  have HGU := Lib.hid (World.grownBy.trans HG4.out (put3_grown w4 g i x'))
                  obtain ⟨⟨p0, f0⟩, f1, ⟨p2, f2⟩, f3, ⟨p4, f4⟩, f5⟩ := put3_way HR4.out (by rw [outR_len, HLL.out]) x' i hin
                  unfold put3 at HPU HGU
                  rw [HXZ2.out.1] at HPU HGU
                  clear hr4 hput s1' s2' s3' hyy HR4 HG4 HC
                  go_wp2_with fail
                  go_roundw
                  case rel => exact ⟨i + 1, q + 1, by go_num, by go_num, by omega, by have := HQT.out; omega, by omega, by omega, l'.set i x', HC2.out, HPU.out, HGU.out⟩
                  case measure => simp [intOf]; have := HQT.out; omega
            · have hqt' : ¬ (q : Int) < (m : Int) := by omega
              obtain rfl : q = m := by omega
              rw [HMN.out] at hc
              obtain ⟨w5, hrun, hg5, hr5⟩ := clear_run hr i hin (cap - i)
              have HG5 := Lib.hid (World.grownBy.trans hg hg5)
              have HR5 := Lib.hid hr5
              have HF := Lib.hid (hc.st.fin (by rw [HL.out]; exact Nat.le_refl _))
              have HTL : Hid ((l'.take i).length = i) := by show _ = _; rw [List.length_take, hl']; omega
              have hci : ¬ (cap : Int) = (i : Int) := by have := HCAP.out; omega
              have hci2 : ¬ cap = i := by have := HCAP.out; omega
              have hin2 : (i : Int) ≤ (n : Int) := by omega
              have hic : (i : Int) ≤ (cap : Int) := by have := HCAP.out; omega
              clear hc hr hg HT hg5 hr5 hqt
              go_wp2_with fail
              go_ret
              exact ⟨⟨l'.take i, _, cap, by rw [HTL.out]; rfl, by rw [HTL.out]; exact HR5.out, HF.out, by rw [HTL.out]; omega⟩, HG5.out⟩
        · have HN2 := Lib.hid (HST.out.snoc HWU.out HZ.out (by omega) HX.out HY.out (fun e => hkey e.symm))
          rw [← take_snocA HX.out] at HN2
          by_cases h1 : x.party.data.toList = y.party.data.toList
          · have h2 : ¬ x.coin.data.toList = y.coin.data.toList := fun h => hkey (key_split.2 ⟨h1, h⟩)
            rw [decide_eq_true h1] at q1
            rw [decide_eq_false h2] at q2
            clear h1 h2 hkey HST
            go_upto_region 6 with (fail)
            go_quiet (fail)
            have bq : Below wr.heap.size wr (wr.drewN nq) := below_dN (Below.refl wr.heap.size wr) nq
            have HB2 := Lib.hid (HB.out.trans (bq.mono HB.out.size))
            clear bq u0 u1 u2 z0 z1 z2 HB
            go_wp2_with fail
            go_roundw
            case rel => exact ⟨k + 1, by go_num, by omega, by have := HLT.out; omega, HN2.out, HB2.out⟩
            case measure => simp [intOf]; have := HLT.out; omega
          · rw [decide_eq_false h1] at q1
            clear h1 hkey HST
            go_upto_region 6 with (fail)
            go_quiet (fail)
            have bq : Below wr.heap.size wr (wr.drewN nq) := below_dN (Below.refl wr.heap.size wr) nq
            have HB2 := Lib.hid (HB.out.trans (bq.mono HB.out.size))
            clear bq u0 u1 u2 z0 z1 z2 HB
            go_wp2_with fail
            go_roundw
            case rel => exact ⟨k + 1, by go_num, by omega, by have := HLT.out; omega, HN2.out, HB2.out⟩
            case measure => simp [intOf]; have := HLT.out; omega
      · have hlt' : ¬ (k : Int) < (n : Int) := by omega
        have HF : Hid (CpFin l l) := by
          have h := HT.out.1.fin (by rw [HL.out]; omega)
          rw [List.take_of_length_le (by rw [HL.out]; omega)] at h
          exact h
        have HR2 : Hid (wr.ownsRow base 51 3 (.slice (some ⟨g, 0, none⟩) n cap) n (outR l) ∧ w.grownBy wr (some g)) := ⟨own_below HS.out HT.out.2, grown_below HT.out.2⟩
        clear HT hlt
        go_wp2_with fail
        go_ret
        exact ⟨⟨l, _, cap, by rw [HL.out]; rfl, by rw [HL.out]; exact HR2.out.1, HF.out, by rw [HL.out]; exact Nat.le_refl _⟩, HR2.out.2⟩
end Go.Proofs.Ytgbiimoednmlgaa

/- slices.SortFunc over accounts. -/
namespace Go.Proofs.Ytgbiimoednmlgaa
set_option linter.unusedVariables false
set_option linter.unusedSimpArgs false
open Go.Shelf Go.RowKit Go.Lib Go.Sort
set_option maxRecDepth 100000 in
set_option maxHeartbeats 4000000 in
theorem order_grow (x y : Acct) (w : World) : Calls Try.prog 48 #[.agg (acctC x).toArray, .agg (acctC y).toArray] w fun e w' => e = .returned (.int .i64 (kcmp x.key y.key)) ∧ ∃ q os', w' = Sort.grow (w.drewN q) os' := by
  have h1 := (Below.refl w.heap.size w).alloc (Nat.le_refl _) (.cells (acctC x).toArray 51)
  have h2 := h1.alloc h1.size (.cells (acctC y).toArray 51)
  have BX := Lib.hid ((Mem.Blk.new w 51 (acctC x).toArray).below ((Below.refl (w.alloc (.cells (acctC x).toArray 51)).heap.size _).alloc (Nat.le_refl _) (.cells (acctC y).toArray 51)))
  have BY := Lib.hid (Mem.Blk.new (w.alloc (.cells (acctC x).toArray 51)) 51 (acctC y).toArray)
  have HB : Hid (∃ os', (w.alloc (.cells (acctC x).toArray 51)).alloc (.cells (acctC y).toArray 51) = Sort.grow w os') := ⟨_, by rw [Sort.alloc_eq_grow, Sort.alloc_eq_grow, Sort.grow_grow]⟩
  clear h1 h2
  show Calls Try.prog 48 #[.agg #[.string x.party, .string x.coin, .int .i64 x.amt], .agg #[.string y.party, .string y.coin, .int .i64 y.amt]] w _
  go_enter Try.func48, Try.ntmps48
  go_upto_region 1 with (fail)
  have BX' : Hid (Mem.Blk ((w.alloc (.cells #[.string x.party, .string x.coin, .int .i64 x.amt] 51)).alloc (.cells #[.string y.party, .string y.coin, .int .i64 y.amt] 51)) w.heap.size 51 (acctC x).toArray) := BX.out
  have BY' : Hid (Mem.Blk ((w.alloc (.cells #[.string x.party, .string x.coin, .int .i64 x.amt] 51)).alloc (.cells #[.string y.party, .string y.coin, .int .i64 y.amt] 51)) (w.alloc (.cells #[.string x.party, .string x.coin, .int .i64 x.amt] 51)).heap.size 51 (acctC y).toArray) := BY.out
  have HB' : Hid (∃ os', (w.alloc (.cells #[.string x.party, .string x.coin, .int .i64 x.amt] 51)).alloc (.cells #[.string y.party, .string y.coin, .int .i64 y.amt] 51) = Sort.grow w os') := HB.out
  clear BX BY HB
  have ez : (w.alloc (.cells #[.string x.party, .string x.coin, .int .i64 x.amt] 51)).heap.size = w.heap.size + 1 := by simp
  rw [ez] at BY'
  clear ez
  generalize (w.alloc (.cells #[.string x.party, .string x.coin, .int .i64 x.amt] 51)).alloc (.cells #[.string y.party, .string y.coin, .int .i64 y.amt] 51) = w1 at *
  have c0 : w1.cell? ⟨w.heap.size, 0, none⟩ = some (.string x.party) := BX'.out.cell 0
  have c1 : w1.cell? ⟨w.heap.size, 1, none⟩ = some (.string x.coin) := BX'.out.cell 1
  have d0 : w1.cell? ⟨w.heap.size + 1, 0, none⟩ = some (.string y.party) := BY'.out.cell 0
  have d1 : w1.cell? ⟨w.heap.size + 1, 1, none⟩ = some (.string y.coin) := BY'.out.cell 1
  go_still_tail 10, (by kernel_rfl)
  still_call ((cmps_any x.party y.party _).mono fun _ _ h => ⟨h.1, h.2.symm⟩)
  repeat still_step
  still_call ((cmps_any x.coin y.coin _).mono fun _ _ h => ⟨h.1, h.2.symm⟩)
  refine wpStill_nil ?_
  change wpList _ _ _ _ _ w1.drew
  have HB2 : Hid (∃ os', w1.drew = Sort.grow (w.drewN 1) os') := by
    obtain ⟨os', e⟩ := HB'.out
    exact ⟨os', by rw [e]; rfl⟩
  clear c0 c1 d0 d1 BX' BY' HB'
  have e1 : w1.drew.heap.size = w1.heap.size := rfl
  obtain ⟨A, hA⟩ : ∃ A, A = scmp x.party.data.toList y.party.data.toList := ⟨_, rfl⟩
  obtain ⟨B, hB⟩ : ∃ B, B = scmp x.coin.data.toList y.coin.data.toList := ⟨_, rfl⟩
  have HK : Hid (kcmp x.key y.key = if A ≠ 0 then A else B) := by show kcmp _ _ = _; rw [hA, hB]; rfl
  rw [← hA, ← hB]
  clear hA hB
  generalize w1.drew = w2 at *
  have BN := Mem.Blk.new w2 3 #[.int .i64 A, .int .i64 B]
  rw [e1] at BN
  have HB3 : Hid (∃ os', w2.alloc (.cells #[.int .i64 A, .int .i64 B] 3) = Sort.grow (w.drewN 1) os') := by
    obtain ⟨os', e⟩ := HB2.out
    exact ⟨_, by rw [Sort.alloc_eq_grow, e, Sort.grow_grow]⟩
  have HO := Lib.hid (or2_any A B w1.heap.size 2 _ (BN.cell 0) (BN.cell 1))
  obtain ⟨R, hR⟩ : ∃ R, R = (if A ≠ 0 then A else B) := ⟨_, rfl⟩
  rw [← hR] at HO HK
  clear BN HB2 hR
  go_wp2_with fail
  go_at_call 80
  (with_reducible refine HO.out.mono ?_)
  rintro e w3 ⟨rfl, rfl⟩
  go_wp2_with fail
  go_ret
  obtain ⟨os', hos⟩ := HB3.out
  exact ⟨by rw [HK.out]; rfl, 1, os', hos⟩
instance instAcctI : Inhabited Acct := ⟨⟨⟨#[]⟩, ⟨#[]⟩, 0⟩⟩
theorem flatK_outR (l : List Acct) : (flatK acctC 3 l.toArray).toList = outR l := by
  apply List.ext_getElem?
  intro j
  by_cases hj : j < l.length * 3
  · have hq : j / 3 < l.length := by omega
    have h1 := outR_at l (k := j / 3) (x := l[j / 3]) (List.getElem?_eq_getElem hq) (j % 3) (by omega)
    rw [show j / 3 * 3 + j % 3 = j by omega] at h1
    rw [h1]
    have h2 := get_flatK acctC 3 l.toArray j (by simpa using hj)
    have h3 : j < (flatK acctC 3 l.toArray).size := by rw [size_flatK]; simpa using hj
    rw [Array.getElem?_toList, Array.getElem?_eq_getElem h3]
    rw [getElem!_pos (flatK acctC 3 l.toArray) j h3] at h2
    rw [h2]
    have h4 : l.toArray[j / 3]! = l[j / 3] := by simp [getElem!_pos, hq]
    rw [h4]
    have h5 : j % 3 < (acctC l[j / 3]).length := by show j % 3 < 3; omega
    rw [List.getElem?_eq_getElem h5, getElem!_pos (acctC l[j / 3]) (j % 3) h5]
  · rw [List.getElem?_eq_none (by rw [Array.length_toList, size_flatK]; simpa using hj), List.getElem?_eq_none (by rw [outR_len]; omega)]
theorem row_putRow {w : World} {base sz g n cap q : Nat} {e : TypeId} {xs ys : List Value} {os : Array Obj} (h : w.ownsRow base e sz (.slice (some ⟨g, 0, none⟩) n cap) n xs) (hy : ys.length = n * sz) :
    (Sort.grow (Sort.putRow id (Sort.ahead w q) g 0 ys.toArray) os).ownsRow base e sz (.slice (some ⟨g, 0, none⟩) n cap) n ys ∧ w.grownBy (Sort.grow (Sort.putRow id (Sort.ahead w q) g 0 ys.toArray) os) (some g) := by
  rcases h.2 with ⟨e0, _⟩ | ⟨g', cap', cur, e0, hb, hg, hn, hm, hs, ht⟩
  · cases e0
  · injection e0 with e1 _ e3
    injection e1 with e1
    injection e1 with e1
    subst e1; subst e3
    have hlt : g < w.heap.size := (Array.getElem?_eq_some_iff.1 hg).1
    have hmul := Nat.mul_le_mul_right sz hn
    refine ⟨⟨hy, .inr ⟨g, cap, Sort.putCells id 0 ys.toArray cur, rfl, hb, ?_, hn, hm, by simpa [Sort.putCells] using hs, ?_⟩⟩, ⟨rfl, rfl, rfl, by simp, fun k hk hne => ?_⟩⟩
    · rw [Sort.heap_grow_old _ _ (by simpa using hlt)]
      simp [Sort.putRow, Sort.mapBlock, Sort.ahead, Array.getElem?_modify, hg, Sort.onCells]
    · apply List.ext_getElem?
      intro j
      rw [List.getElem?_take, Array.getElem?_toList]
      by_cases hj : j < n * sz
      · have hjc : j < cur.size := by omega
        simp only [if_pos hj, Sort.putCells, Array.getElem?_mapIdx, Array.getElem?_eq_getElem hjc, Option.map_some]
        rw [if_pos (by simp; omega), List.getElem?_eq_getElem (by omega)]
        simp [getElem!_pos, show j < ys.length by omega]
      · rw [if_neg hj, List.getElem?_eq_none (by omega)]
    · rw [Sort.heap_grow_old _ _ (by simpa using hk)]
      have : g ≠ k := fun e => hne (by rw [e])
      simp [Sort.putRow, Sort.mapBlock, Sort.ahead, Array.getElem?_modify, this]
end Go.Proofs.Ytgbiimoednmlgaa

/- The library's functions that are called, as the shelf knows them. -/
namespace Go.Proofs.Ytgbiimoednmlgaa
set_option linter.unusedVariables false
set_option linter.unusedSimpArgs false
open Go Go.RowKit Go.Sort Go.Shelf
def sortAc_ren : Shelf.Ren := { f := fun x => match x with | 6 => 59 | 15 => 84 | 14 => 83 | 28 => 99 | 29 => 100 | 20 => 91 | 21 => 92 | 22 => 93 | 23 => 94 | 24 => 95 | 25 => 96 | 26 => 97 | 27 => 98 | 46 => 105 | 47 => 106 | 48 => 107 | 49 => 108 | 50 => 109 | 57 => 113 | n => n, t := fun x => match x with | 22 => 26 | 24 => 51 | 25 => 94 | 3 => 3 | 39 => 46 | 0 => 0 | 53 => 144 | 55 => 113 | 4 => 4 | 46 => 138 | 45 => 137 | 50 => 102 | 5 => 5 | 9 => 9 | 66 => 147 | 70 => 151 | 76 => 156 | 77 => 157 | n => n, g := fun x => x }
theorem sortAc : SlLaysF0.n6 Try.prog sortAc_ren :=
  { mixed := by kernel_rfl,
    f6 := ⟨"slices.SortFunc[[]debenture/ledger.Account,debenture/ledger.Account]", by decide, (Try.func59).trans (congrArg some (by kernel_rfl))⟩,
    f14 := ⟨"slices.pdqsortCmpFunc[debenture/ledger.Account]", by decide, (Try.func83).trans (congrArg some (by kernel_rfl))⟩,
    f15 := (Try.func84).trans (congrArg some (by kernel_rfl)),
    f20 := ⟨"slices.insertionSortCmpFunc[debenture/ledger.Account]", by decide, (Try.func91).trans (congrArg some (by kernel_rfl))⟩,
    f21 := ⟨"slices.heapSortCmpFunc[debenture/ledger.Account]", by decide, (Try.func92).trans (congrArg some (by kernel_rfl))⟩,
    f22 := ⟨"slices.breakPatternsCmpFunc[debenture/ledger.Account]", by decide, (Try.func93).trans (congrArg some (by kernel_rfl))⟩,
    f23 := ⟨"slices.choosePivotCmpFunc[debenture/ledger.Account]", by decide, (Try.func94).trans (congrArg some (by kernel_rfl))⟩,
    f24 := ⟨"slices.reverseRangeCmpFunc[debenture/ledger.Account]", by decide, (Try.func95).trans (congrArg some (by kernel_rfl))⟩,
    f25 := ⟨"slices.partialInsertionSortCmpFunc[debenture/ledger.Account]", by decide, (Try.func96).trans (congrArg some (by kernel_rfl))⟩,
    f26 := ⟨"slices.partitionEqualCmpFunc[debenture/ledger.Account]", by decide, (Try.func97).trans (congrArg some (by kernel_rfl))⟩,
    f27 := ⟨"slices.partitionCmpFunc[debenture/ledger.Account]", by decide, (Try.func98).trans (congrArg some (by kernel_rfl))⟩,
    f28 := (Try.func99).trans (congrArg some (by kernel_rfl)),
    f29 := (Try.func100).trans (congrArg some (by kernel_rfl)),
    f46 := ⟨"slices.siftDownCmpFunc[debenture/ledger.Account]", by decide, (Try.func105).trans (congrArg some (by kernel_rfl))⟩,
    f47 := (Try.func106).trans (congrArg some (by kernel_rfl)),
    f48 := (Try.func107).trans (congrArg some (by kernel_rfl)),
    f49 := ⟨"slices.medianAdjacentCmpFunc[debenture/ledger.Account]", by decide, (Try.func108).trans (congrArg some (by kernel_rfl))⟩,
    f50 := ⟨"slices.medianCmpFunc[debenture/ledger.Account]", by decide, (Try.func109).trans (congrArg some (by kernel_rfl))⟩,
    f57 := ⟨"slices.order2CmpFunc[debenture/ledger.Account]", by decide, (Try.func113).trans (congrArg some (by kernel_rfl))⟩,
    t0 := Try.underlying0,
    a0 := Try.isAgg0,
    z0 := Try.sizeOf0,
    v0 := Try.zeroValue0,
    t3 := Try.underlying3,
    a3 := Try.isAgg3,
    z3 := Try.sizeOf3,
    v3 := Try.zeroValue3,
    t4 := Try.underlying4,
    a4 := Try.isAgg4,
    z4 := Try.sizeOf4,
    v4 := Try.zeroValue4,
    t5 := Try.underlying5,
    a5 := Try.isAgg5,
    z5 := Try.sizeOf5,
    v5 := Try.zeroValue5,
    t9 := Try.underlying9,
    a9 := Try.isAgg9,
    z9 := Try.sizeOf9,
    v9 := Try.zeroValue9,
    t22 := Try.underlying26,
    a22 := Try.isAgg26,
    z22 := Try.sizeOf26,
    v22 := Try.zeroValue26,
    t25 := Try.underlying94,
    a25 := Try.isAgg94,
    z25 := Try.sizeOf94,
    v25 := Try.zeroValue94,
    t39 := Try.underlying46,
    a39 := Try.isAgg46,
    z39 := Try.sizeOf46,
    v39 := Try.zeroValue46,
    t45 := Try.underlying137,
    a45 := Try.isAgg137,
    z45 := Try.sizeOf137,
    v45 := Try.zeroValue137,
    t46 := Try.underlying138,
    a46 := Try.isAgg138,
    z46 := Try.sizeOf138,
    v46 := Try.zeroValue138,
    t50 := Try.underlying102,
    a50 := Try.isAgg102,
    z50 := Try.sizeOf102,
    v50 := Try.zeroValue102,
    t53 := Try.underlying144,
    a53 := Try.isAgg144,
    z53 := Try.sizeOf144,
    v53 := Try.zeroValue144,
    t55 := Try.underlying113,
    a55 := Try.isAgg113,
    z55 := Try.sizeOf113,
    v55 := Try.zeroValue113,
    t66 := Try.underlying147,
    a66 := Try.isAgg147,
    z66 := Try.sizeOf147,
    v66 := Try.zeroValue147,
    t70 := Try.underlying151,
    a70 := Try.isAgg151,
    z70 := Try.sizeOf151,
    v70 := Try.zeroValue151,
    t76 := Try.underlying156,
    a76 := Try.isAgg156,
    z76 := Try.sizeOf156,
    v76 := Try.zeroValue156,
    t77 := Try.underlying157,
    a77 := Try.isAgg157,
    z77 := Try.sizeOf157,
    v77 := Try.zeroValue157 }
end Go.Proofs.Ytgbiimoednmlgaa
