/- A part of the proof: LcC, LcD, LcE, LcF, LcG, one behind another. -/
import Derived.Test.YtgbiimoednmlgaaMCA
import Derived.Test.YtgbiimoednmlgaaMCB
import Derived.Test.YtgbiimoednmlgaaMCC
import Derived.Test.YtgbiimoednmlgaaMCD
import Derived.Test.YtgbiimoednmlgaaMCE
import Derived.Test.YtgbiimoednmlgaaMCF
import Derived.Test.YtgbiimoednmlgaaMCG
import Derived.Test.YtgbiimoednmlgaaMCH
import Derived.Test.YtgbiimoednmlgaaMCI
import Derived.Test.YtgbiimoednmlgaaMCJ
/- slices.Clone over accounts; clear of a row's end. -/
namespace Go.Proofs.Ytgbiimoednmlgaa
set_option linter.unusedVariables false
set_option linter.unusedSimpArgs false
open Go.RowKit
set_option maxRecDepth 100000 in
set_option maxHeartbeats 1000000 in
theorem cloneA_any (l : List Acct) (a : Option Addr) (len cap : Nat) (w : World) (hS : SlR acctK w [] l a len cap) (hb : len ≤ 1000000) :
    Calls Try.prog 50 #[.slice a len cap] w fun e w' => (∃ a' cap', e = .returned (.slice a' len cap') ∧ w'.ownsRow w.heap.size 51 3 (.slice a' len cap') len (outR l)) ∧ Below w.heap.size w w' := by
  obtain ⟨f1, f2, f3⟩ := hS.facts
  have HS := Lib.hid hS
  cases a with
  | none =>
    have h0 : len = 0 := by
      rcases Nat.eq_zero_or_pos len with h | h
      · exact h
      · obtain ⟨b, o, x, ha, -⟩ := acct_at hS 0 h; cases ha
    subst h0
    have hl : l = [] := List.length_eq_zero_iff.1 f1
    subst hl
    clear hS f1
    have hnil : ∀ W, (binOp .eql 26 (.slice none 0 cap) (.slice none 0 0)).run Try.prog W = .ok (.bool true) W := fun W => Lib.run_eql_slice_nil W _ _ none 0 cap 0 0 Try.underlying26
    go_enter Try.func50, Try.ntmps50
    go_wp2
    go_ret
    exact ⟨⟨none, 0, rfl, World.ownsRow_nil _ _ _ _⟩, Below.refl _ _⟩
  | some ad =>
    have HL : Hid ((outR l).length = len * 3) := by show _ = _; rw [outR_len, f1]
    have HO : Hid (∀ u ∈ outR l, u.oneCell' = true) := fun u hu => by
      unfold outR at hu
      obtain ⟨c, hc, hu⟩ := List.mem_flatten.1 hu
      obtain ⟨x, _, rfl⟩ := List.mem_map.1 hc
      unfold acctC at hu
      simp at hu
      rcases hu with rfl | rfl | rfl <;> rfl
    have HN := Lib.hid (Mem.Own.lit (e := 51) (size := 3) (Below.refl w.heap.size w) #[] 0 (by decide) rfl)
    have HCL : Hid (∀ j u, (outR l)[j]? = some u → (w.alloc (.cells #[] 51)).cell? (ad.add j) = some u) := by
      intro j u hu
      have hj : j < (outR l).length := (List.getElem?_eq_some_iff.1 hu).1
      rw [HL.out] at hj
      have hq : j / 3 < len := by omega
      obtain ⟨b, o, x, ha, hx, -, c0, c1, c2⟩ := acct_at hS (j / 3) hq
      injection ha with ha; subst ha
      have hr := outR_at l hx (j % 3) (by omega)
      rw [show j / 3 * 3 + j % 3 = j by omega, hu] at hr
      rw [Mem.add_off]
      have hcell : w.cell? ⟨b, o + j, none⟩ = some u := by
        have h3 : j % 3 = 0 ∨ j % 3 = 1 ∨ j % 3 = 2 := by omega
        rcases h3 with h3 | h3 | h3
        · rw [h3] at hr
          rw [show o + j = o + j / 3 * 3 by omega, c0]; exact hr.symm
        · rw [h3] at hr
          rw [show o + j = o + j / 3 * 3 + 1 by omega, c1]; exact hr.symm
        · rw [h3] at hr
          rw [show o + j = o + j / 3 * 3 + 2 by omega, c2]; exact hr.symm
      exact cellUp hcell (below_newL w _)
    clear hS f1
    have hnil : ∀ W, (binOp .eql 26 (.slice (some ad) len cap) (.slice none 0 0)).run Try.prog W = .ok (.bool false) W := fun W => Lib.run_eql_slice_nil W _ _ (some ad) len cap 0 0 Try.underlying26
    go_enter Try.func50, Try.ntmps50
    go_wp2_with (at_builtin; refine Mem.ap infoA Try.underlying26 rfl (by decide) rfl (.tmp 5) (.tmp 6) rfl rfl HN.out ad len cap (outR l) rfl HL.out HCL.out HO.out (by unfold maxLen; omega) (by omega) ?_; intro v' w' o' g' _ _; rw [Nat.zero_add] at o')
    obtain ⟨a2, cap2, rfl⟩ := own_slice o'.own
    have R := Lib.hid o'.own
    have B := Lib.hid o'.below
    clear o' g'
    go_wp2
    go_ret
    exact ⟨⟨_, _, rfl, R.out⟩, B.out⟩
/-- Cells stored into a row, from a place on. -/
theorem row_setCells {base sz g n cap : Nat} {e : TypeId} : ∀ (vs : List Value) (o : Nat) (w : World) (xs : List Value), w.ownsRow base e sz (.slice (some ⟨g, 0, none⟩) n cap) n xs → ∃ ys, (w.setCells g o vs).ownsRow base e sz (.slice (some ⟨g, 0, none⟩) n cap) n ys ∧ ys.take o = xs.take o ∧ w.grownBy (w.setCells g o vs) (some g)
  | [], o, w, xs, h => ⟨xs, h, rfl, World.grownBy.refl _ _⟩
  | v :: r, o, w, xs, h => by
    have h1 := h.stored o v
    obtain ⟨ys, h2, h3, h4⟩ := row_setCells r (o + 1) (w.setCell ⟨g, o, none⟩ v) _ h1.1
    refine ⟨ys, h2, ?_, World.grownBy.trans h1.2 h4⟩
    have h5 := congrArg (List.take o) h3
    rw [List.take_take, List.take_take, Nat.min_eq_left (Nat.le_succ _), List.take_set_of_le (Nat.le_refl _)] at h5
    exact h5
/-- A row, cut short. -/
theorem row_cut {w : World} {base sz g n cap : Nat} {e : TypeId} {xs : List Value} (h : w.ownsRow base e sz (.slice (some ⟨g, 0, none⟩) n cap) n xs) (k : Nat) (hk : k ≤ n) : w.ownsRow base e sz (.slice (some ⟨g, 0, none⟩) k cap) k (xs.take (k * sz)) := by
  obtain ⟨h1, h2⟩ := h
  rcases h2 with ⟨h0, _⟩ | ⟨g', cap', cur, hv, hg, hh, hn, hcap, hsz, htake⟩
  · cases h0
  · cases hv
    have hm := Nat.mul_le_mul_right sz hk
    refine ⟨by rw [List.length_take, h1, Nat.min_eq_left hm], .inr ⟨g, cap, cur, rfl, hg, hh, by omega, hcap, hsz, ?_⟩⟩
    rw [← htake, List.take_take, Nat.min_eq_left hm]
theorem zeroA (w : World) : (zeroValue 51).run Try.prog w = .ok (.agg #[.string ⟨#[]⟩, .string ⟨#[]⟩, .int .i64 0]) w := by kernel_rfl
theorem outR_take (l : List Acct) (k : Nat) : (outR l).take (k * 3) = outR (l.take k) := by
  by_cases hk : k ≤ l.length
  · have h := outR_append (l.take k) (l.drop k)
    rw [List.take_append_drop] at h
    have hl : (outR (l.take k)).length = k * 3 := by rw [outR_len, List.length_take]; omega
    rw [h, ← hl]; exact List.take_left
  · rw [List.take_of_length_le (by rw [outR_len]; omega), List.take_of_length_le (by omega)]
/-- clear of what lies from i on. -/
theorem clear_run {w : World} {base g n cap : Nat} {l : List Acct} (h : w.ownsRow base 51 3 (.slice (some ⟨g, 0, none⟩) n cap) n (outR l)) (i : Nat) (hi : i < n) (c : Nat) :
    ∃ w', (∀ ty, (Builtin.clear_ #[26] ty #[.slice (some ⟨g, i * 3, none⟩) (n - i) c]).run Try.prog w = .ok (.tuple #[]) w') ∧ w.grownBy w' (some g) ∧ w'.ownsRow base 51 3 (.slice (some ⟨g, 0, none⟩) i cap) i (outR (l.take i)) := by
  obtain ⟨vs, hvs⟩ : ∃ vs, vs = (Builtin.zeroCells (Value.agg #[.string ⟨#[]⟩, .string ⟨#[]⟩, .int .i64 0]).cells (n - i)).toList := ⟨_, rfl⟩
  have hlen : vs.length = (n - i) * 3 := by rw [hvs]; simp [Builtin.zeroCells, Value.cells]
  have hone : ∀ v ∈ vs, v.oneCell' = true := by
    intro v hv
    rw [hvs] at hv
    unfold Builtin.zeroCells at hv
    simp only [Array.toList_map, List.mem_map] at hv
    obtain ⟨j, -, rfl⟩ := hv
    have hs : (Value.agg #[.string ⟨#[]⟩, .string ⟨#[]⟩, .int .i64 0]).cells = #[.string ⟨#[]⟩, .string ⟨#[]⟩, .int .i64 0] := by rfl
    rw [hs]
    have h3 : j % 3 = 0 ∨ j % 3 = 1 ∨ j % 3 = 2 := by omega
    show ((#[Value.string ⟨#[]⟩, .string ⟨#[]⟩, .int .i64 0] : Array Value)[j % 3]!).oneCell' = true
    rcases h3 with h3 | h3 | h3 <;> rw [h3] <;> rfl
  have hxl : (outR l).length = n * 3 := h.1
  have hst := run_storeCells_cells (P := Try.prog) g (i * 3) vs 0 w (by
    intro j hj
    rw [Nat.add_zero, h.cellAt (i * 3 + j) (by omega), List.getElem?_eq_getElem (by omega)]; rfl) (by
    intro j hj
    exact h.frozenAt _) hone
  simp only [Nat.add_zero] at hst
  obtain ⟨ys, h2, h3, h4⟩ := row_setCells vs (i * 3) w _ h
  refine ⟨_, fun ty => ?_, h4, ?_⟩
  · obtain ⟨m, hm⟩ : ∃ m, n - i = m + 1 := ⟨n - i - 1, by omega⟩
    rw [hm] at hvs
    rw [hm]
    simp [Builtin.clear_, run_underlying Try.underlying26, zeroA, ← hvs, hst]
  · have h5 := row_cut h2 i (by omega)
    rw [h3, outR_take] at h5
    exact h5
end Go.Proofs.Ytgbiimoednmlgaa

/- slices.DeleteFunc over accounts. -/
namespace Go.Proofs.Ytgbiimoednmlgaa
set_option linter.unusedVariables false
set_option linter.unusedSimpArgs false
open Go.RowKit
structure DlSt (P : Acct → Bool) (l l' : List Acct) (i j : Nat) : Prop where
  len : l'.length = l.length
  ij : i < j
  jn : j ≤ l.length
  pre : l'.take i = (l.take j).filter (fun x => !P x)
  suf : l'.drop j = l.drop j
theorem DlSt.start {P : Acct → Bool} {l : List Acct} {k : Nat} {x : Acct} (h : ∀ (j : Nat) y, j < k → l[j]? = some y → P y = false) (hx : l[k]? = some x) (hp : P x = true) : DlSt P l l k (k + 1) := by
  obtain ⟨hk, e⟩ := List.getElem?_eq_some_iff.1 hx
  refine ⟨rfl, by omega, by omega, ?_, rfl⟩
  rw [← List.take_append_getElem hk, e, List.filter_append, List.filter_cons_of_neg (by simp [hp]), List.filter_nil, List.append_nil, List.filter_eq_self.2]
  intro y hy
  obtain ⟨j, hj⟩ := List.getElem?_of_mem hy
  rw [List.getElem?_take] at hj
  split at hj
  · rename_i hjk; simp [h j y hjk hj]
  · cases hj
theorem DlSt.at {P : Acct → Bool} {l l' : List Acct} {i j : Nat} (h : DlSt P l l' i j) : l'[j]? = l[j]? := by
  have h1 := congrArg (fun m : List Acct => m[0]?) h.suf
  simpa [List.getElem?_drop] using h1
theorem drop_next {l l' : List Acct} {j : Nat} (h : l'.drop j = l.drop j) : l'.drop (j + 1) = l.drop (j + 1) := by
  rw [← List.drop_drop, ← List.drop_drop, h]
theorem DlSt.drop {P : Acct → Bool} {l l' : List Acct} {i j : Nat} {x : Acct} (h : DlSt P l l' i j) (hx : l[j]? = some x) (hp : P x = true) : DlSt P l l' i (j + 1) := by
  obtain ⟨hk, e⟩ := List.getElem?_eq_some_iff.1 hx
  refine ⟨h.len, by have := h.ij; omega, by omega, ?_, drop_next h.suf⟩
  rw [← List.take_append_getElem hk, e, List.filter_append, List.filter_cons_of_neg (by simp [hp]), List.filter_nil, List.append_nil, h.pre]
theorem DlSt.keep {P : Acct → Bool} {l l' : List Acct} {i j : Nat} {x : Acct} (h : DlSt P l l' i j) (hx : l[j]? = some x) (hp : P x = false) : DlSt P l (l'.set i x) (i + 1) (j + 1) := by
  obtain ⟨hk, e⟩ := List.getElem?_eq_some_iff.1 hx
  have hij := h.ij
  have hl := h.len
  refine ⟨by rw [List.length_set]; exact hl, by omega, by omega, ?_, ?_⟩
  · rw [← List.take_append_getElem hk, e, List.filter_append, List.filter_cons_of_pos (by simp [hp]), List.filter_nil, ← h.pre]
    have h1 : i < (l'.set i x).length := by rw [List.length_set]; omega
    rw [← List.take_append_getElem h1, List.getElem_set_self, List.take_set_of_le (Nat.le_refl _)]
  · rw [List.drop_set, if_pos (by omega)]
    exact drop_next h.suf
theorem DlSt.fin {P : Acct → Bool} {l l' : List Acct} {i j : Nat} (h : DlSt P l l' i j) (hj : l.length ≤ j) : l'.take i = l.filter (fun x => !P x) := by
  have := h.pre
  rw [List.take_of_length_le hj] at this; exact this
theorem set_split {l : List Acct} {i : Nat} {x y : Acct} (h : l[i]? = some y) : l = l.take i ++ y :: l.drop (i + 1) ∧ l.set i x = l.take i ++ x :: l.drop (i + 1) ∧ (l.take i).length = i := by
  obtain ⟨hk, e⟩ := List.getElem?_eq_some_iff.1 h
  refine ⟨?_, ?_, by rw [List.length_take]; omega⟩
  · have := List.take_append_drop i l
    rw [List.drop_eq_getElem_cons hk, e] at this; exact this.symm
  · rw [List.set_eq_take_append_cons_drop, if_pos hk]
/-- What a closure reads: a currency in a box; nothing. -/
def EnvC (bx : Nat) (c : ByteArray) (W : World) : Prop := W.cell? ⟨bx, 0, none⟩ = some (.string c)
def EnvZ (_bx : Nat) (_c : ByteArray) (_W : World) : Prop := True
theorem EnvC.below {bx : Nat} {c : ByteArray} {w w' : World} (h : EnvC bx c w) (b : Below w.heap.size w w') : EnvC bx c w' := cellUp h b
theorem EnvZ.below {bx : Nat} {c : ByteArray} {w w' : World} (_h : EnvZ bx c w) (_b : Below w.heap.size w w') : EnvZ bx c w' := trivial
theorem EnvC.set {bx g k : Nat} {c : ByteArray} {w : World} (h : EnvC bx c w) (hg : g ≠ bx) (v : Value) : EnvC bx c (w.setCell ⟨g, k, none⟩ v) := by
  unfold EnvC
  rw [World.cell?_of_block (w := w) (Below.heap_setCell w ⟨g, k, none⟩ v bx (fun e => hg e.symm))]; exact h
theorem EnvZ.set {bx g k : Nat} {c : ByteArray} {w : World} (_h : EnvZ bx c w) (_hg : g ≠ bx) (v : Value) : EnvZ bx c (w.setCell ⟨g, k, none⟩ v) := trivial
def pC (c : ByteArray) (x : Acct) : Bool := !decide (x.coin.data.toList = c.data.toList)
def pZ (_c : ByteArray) (x : Acct) : Bool := decide (x.amt = 0)
set_option maxRecDepth 100000 in
set_option maxHeartbeats 4000000 in
theorem delC_any (x : Acct) (bx : Nat) (c : ByteArray) (w : World) (he : EnvC bx c w) : Calls Try.prog 51 #[.agg #[.string x.party, .string x.coin, .int .i64 x.amt], .pointer (some ⟨bx, 0, none⟩)] w fun e w' => e = .returned (.bool (pC c x)) ∧ Below w.heap.size w w' := by
  obtain ⟨R, hR⟩ : ∃ R, R = pC c x := ⟨_, rfl⟩
  have hs := same_b x.coin c
  have hd : decide (x.coin.data.toList = c.data.toList) = !R := by rw [hR]; unfold pC; rw [Bool.not_not]
  rw [hd] at hs
  have hs2 : (!(x.coin.toList == c.toList)) = R := by rw [hs, Bool.not_not]
  rw [← hR]
  clear hR hd hs
  have HS2 := Lib.hid hs2
  clear hs2
  have hb1 := below_newL w (.cells #[.string x.party, .string x.coin, .int .i64 x.amt] 51)
  have BX := Lib.hid (Mem.Blk.new w 51 #[.string x.party, .string x.coin, .int .i64 x.amt])
  have e0 : (w.alloc (.cells #[.string x.party, .string x.coin, .int .i64 x.amt] 51)).cell? ⟨bx, 0, none⟩ = some (.string c) := he.below hb1
  have HB := Lib.hid hb1
  clear he hb1
  go_enter Try.func51, Try.ntmps51
  go_upto_region 1 with (fail)
  generalize (w.alloc (.cells #[.string x.party, .string x.coin, .int .i64 x.amt] 51)) = w2 at *
  have c1 : w2.cell? ⟨w.heap.size, 1, none⟩ = some (.string x.coin) := BX.out.cell 1
  go_wp2_with fail
  go_ret
  exact ⟨by rw [← HS2.out]; rfl, HB.out⟩
set_option maxRecDepth 100000 in
set_option maxHeartbeats 4000000 in
theorem delZ_any (x : Acct) (bx : Nat) (c : ByteArray) (w : World) (_he : EnvZ bx c w) : Calls Try.prog 57 #[.agg #[.string x.party, .string x.coin, .int .i64 x.amt]] w fun e w' => e = .returned (.bool (pZ c x)) ∧ Below w.heap.size w w' := by
  obtain ⟨R, hR⟩ : ∃ R, R = pZ c x := ⟨_, rfl⟩
  have hs : (x.amt == 0) = R := by
    rw [hR]
    unfold pZ
    by_cases h : x.amt = 0
    · simp [h]
    · simp [h]
  rw [← hR]
  clear hR
  have hb1 := below_newL w (.cells #[.string x.party, .string x.coin, .int .i64 x.amt] 51)
  have BX := Lib.hid (Mem.Blk.new w 51 #[.string x.party, .string x.coin, .int .i64 x.amt])
  have HB := Lib.hid hb1
  clear hb1
  go_enter Try.func57, Try.ntmps57
  go_upto_region 1 with (fail)
  generalize (w.alloc (.cells #[.string x.party, .string x.coin, .int .i64 x.amt] 51)) = w2 at *
  have c2 : w2.cell? ⟨w.heap.size, 2, none⟩ = some (.int .i64 x.amt) := BX.out.cell 2
  go_wp2_with fail
  go_ret
  exact ⟨rfl, HB.out⟩
set_option maxRecDepth 100000 in
set_option maxHeartbeats 4000000 in
theorem idxC_any (l : List Acct) (base : Nat) (a : Option Addr) (n cap bx : Nat) (c : ByteArray) (w : World) (h : w.ownsRow base 51 3 (.slice a n cap) n (outR l)) (hn : l.length = n) (hlen : n ≤ 1000000) (he : EnvC bx c w) :
    Calls Try.prog 76 #[.slice a n cap, .func (.func 51) #[] #[.pointer (some ⟨bx, 0, none⟩)]] w fun x w' => (∃ i : Int, x = .returned (.int .i64 i) ∧ ((i = -1 ∧ ∀ (j : Nat) y, l[j]? = some y → pC c y = false) ∨ ∃ k : Nat, i = (k : Int) ∧ k < n ∧ (∀ (j : Nat) y, j < k → l[j]? = some y → pC c y = false) ∧ ∃ x, l[k]? = some x ∧ pC c x = true)) ∧ Below w.heap.size w w' := by
  have HS := Lib.hid h
  have HN := Lib.hid hlen
  have HL := Lib.hid hn
  have HE := Lib.hid he
  have eg := entersL (P := Try.prog) Try.func51 (by kernel_rfl) rfl
  clear h hlen hn he
  go_enter Try.func76, Try.ntmps76
  go_wp2_with fail
  go_loopw [8] (fun i wr => ∃ (k : Nat), i = .int .i64 (k : Nat) ∧ k ≤ n ∧ Hid ((∀ (j : Nat) x, j < k → l[j]? = some x → pC c x = false) ∧ Below w.heap.size w wr)) (fun i _ => n - (intOf i).toNat)
  case atStart => exact ⟨0, rfl, Nat.zero_le _, fun j x h => absurd h (by omega), Below.refl _ _⟩
  case round =>
    obtain ⟨k, rfl, hk, HT⟩ := hrel
    by_cases hlt : k < n
    · have hlt' : (k : Int) < (n : Int) := by omega
      have i0 : (0 : Int) ≤ (k : Int) := by omega
      have i1 : (k : Int) ≤ 1000000 := by have := HN.out; omega
      obtain ⟨g, cap', x, hv, hx, u0, u1, u2, -⟩ := rowA_at (own_below HS.out HT.out.2) HL.out k hlt
      injection hv with e1 _ e3
      subst e1; subst e3
      have HX := Lib.hid hx
      have HP : Hid (Calls Try.prog 51 #[.agg #[.string x.party, .string x.coin, .int .i64 x.amt], .pointer (some ⟨bx, 0, none⟩)] wr _) := delC_any x bx c wr (HE.out.below HT.out.2)
      obtain ⟨R, hR⟩ : ∃ R, R = pC c x := ⟨_, rfl⟩
      have HR := Lib.hid hR
      rw [← hR] at HP
      have HTR := Lib.hid HT.out.1
      have HB0 := Lib.hid HT.out.2
      have HKL := Lib.hid hlt
      clear hx hlt HT hR
      go_wp2_with fail
      go_at_call 51
      (with_reducible refine HP.out.mono ?_)
      rintro e w2 ⟨rfl, b2⟩
      have HB2 := Lib.hid (HB0.out.trans (b2.mono HB0.out.size))
      clear b2 HP u0 u1 u2 HB0
      cases hm : R with
      | false =>
        have HT2 : Hid (∀ (j : Nat) x, j < k + 1 → l[j]? = some x → pC c x = false) := by
          intro j y hj hy
          by_cases e : j < k
          · exact HTR.out j y e hy
          · obtain rfl : j = k := by omega
            rw [HX.out] at hy; rw [← Option.some.inj hy, ← HR.out]; exact hm
        clear hm
        go_wp2_with fail
        go_roundw
        case rel => exact ⟨k + 1, by go_num, by have := HKL.out; omega, HT2.out, HB2.out⟩
        case measure => simp [intOf]; have := HKL.out; omega
      | true =>
        have HF : Hid (pC c x = true) := by show _ = _; rw [← HR.out]; exact hm
        clear hm
        go_wp2_with fail
        go_ret
        exact ⟨⟨_, rfl, .inr ⟨k, rfl, HKL.out, HTR.out, x, HX.out, HF.out⟩⟩, HB2.out⟩
    · have hlt' : ¬ (k : Int) < (n : Int) := by omega
      have HF : Hid (∀ (j : Nat) y, l[j]? = some y → pC c y = false) := fun j y hy =>
        HT.out.1 j y (by have := (List.getElem?_eq_some_iff.1 hy).1; have := HL.out; omega) hy
      have HB2 := Lib.hid HT.out.2
      clear HT
      go_wp2_with fail
      go_ret
      exact ⟨⟨_, rfl, .inl ⟨rfl, HF.out⟩⟩, HB2.out⟩
set_option maxRecDepth 100000 in
set_option maxHeartbeats 4000000 in
theorem idxZ_any (l : List Acct) (base : Nat) (a : Option Addr) (n cap bx : Nat) (c : ByteArray) (w : World) (h : w.ownsRow base 51 3 (.slice a n cap) n (outR l)) (hn : l.length = n) (hlen : n ≤ 1000000) (he : EnvZ bx c w) :
    Calls Try.prog 76 #[.slice a n cap, .func (.func 57) #[] #[]] w fun x w' => (∃ i : Int, x = .returned (.int .i64 i) ∧ ((i = -1 ∧ ∀ (j : Nat) y, l[j]? = some y → pZ c y = false) ∨ ∃ k : Nat, i = (k : Int) ∧ k < n ∧ (∀ (j : Nat) y, j < k → l[j]? = some y → pZ c y = false) ∧ ∃ x, l[k]? = some x ∧ pZ c x = true)) ∧ Below w.heap.size w w' := by
  have HS := Lib.hid h
  have HN := Lib.hid hlen
  have HL := Lib.hid hn
  have HE := Lib.hid he
  have eg := entersL (P := Try.prog) Try.func57 (by kernel_rfl) rfl
  clear h hlen hn he
  go_enter Try.func76, Try.ntmps76
  go_wp2_with fail
  go_loopw [8] (fun i wr => ∃ (k : Nat), i = .int .i64 (k : Nat) ∧ k ≤ n ∧ Hid ((∀ (j : Nat) x, j < k → l[j]? = some x → pZ c x = false) ∧ Below w.heap.size w wr)) (fun i _ => n - (intOf i).toNat)
  case atStart => exact ⟨0, rfl, Nat.zero_le _, fun j x h => absurd h (by omega), Below.refl _ _⟩
  case round =>
    obtain ⟨k, rfl, hk, HT⟩ := hrel
    by_cases hlt : k < n
    · have hlt' : (k : Int) < (n : Int) := by omega
      have i0 : (0 : Int) ≤ (k : Int) := by omega
      have i1 : (k : Int) ≤ 1000000 := by have := HN.out; omega
      obtain ⟨g, cap', x, hv, hx, u0, u1, u2, -⟩ := rowA_at (own_below HS.out HT.out.2) HL.out k hlt
      injection hv with e1 _ e3
      subst e1; subst e3
      have HX := Lib.hid hx
      have HP : Hid (Calls Try.prog 57 #[.agg #[.string x.party, .string x.coin, .int .i64 x.amt]] wr _) := delZ_any x bx c wr (HE.out.below HT.out.2)
      obtain ⟨R, hR⟩ : ∃ R, R = pZ c x := ⟨_, rfl⟩
      have HR := Lib.hid hR
      rw [← hR] at HP
      have HTR := Lib.hid HT.out.1
      have HB0 := Lib.hid HT.out.2
      have HKL := Lib.hid hlt
      clear hx hlt HT hR
      go_wp2_with fail
      go_at_call 57
      (with_reducible refine HP.out.mono ?_)
      rintro e w2 ⟨rfl, b2⟩
      have HB2 := Lib.hid (HB0.out.trans (b2.mono HB0.out.size))
      clear b2 HP u0 u1 u2 HB0
      cases hm : R with
      | false =>
        have HT2 : Hid (∀ (j : Nat) x, j < k + 1 → l[j]? = some x → pZ c x = false) := by
          intro j y hj hy
          by_cases e : j < k
          · exact HTR.out j y e hy
          · obtain rfl : j = k := by omega
            rw [HX.out] at hy; rw [← Option.some.inj hy, ← HR.out]; exact hm
        clear hm
        go_wp2_with fail
        go_roundw
        case rel => exact ⟨k + 1, by go_num, by have := HKL.out; omega, HT2.out, HB2.out⟩
        case measure => simp [intOf]; have := HKL.out; omega
      | true =>
        have HF : Hid (pZ c x = true) := by show _ = _; rw [← HR.out]; exact hm
        clear hm
        go_wp2_with fail
        go_ret
        exact ⟨⟨_, rfl, .inr ⟨k, rfl, HKL.out, HTR.out, x, HX.out, HF.out⟩⟩, HB2.out⟩
    · have hlt' : ¬ (k : Int) < (n : Int) := by omega
      have HF : Hid (∀ (j : Nat) y, l[j]? = some y → pZ c y = false) := fun j y hy =>
        HT.out.1 j y (by have := (List.getElem?_eq_some_iff.1 hy).1; have := HL.out; omega) hy
      have HB2 := Lib.hid HT.out.2
      clear HT
      go_wp2_with fail
      go_ret
      exact ⟨⟨_, rfl, .inl ⟨rfl, HF.out⟩⟩, HB2.out⟩
end Go.Proofs.Ytgbiimoednmlgaa

/- slices.DeleteFunc over accounts: the walk. -/
namespace Go.Proofs.Ytgbiimoednmlgaa
set_option linter.unusedVariables false
set_option linter.unusedSimpArgs false
open Go.RowKit
theorem grown_below {w w' : World} {row : Option Nat} (b : Below w.heap.size w w') : w.grownBy w' row := ⟨b.os, b.tape, b.output, b.size, fun i hi _ => b.block i hi⟩
theorem put3_grown (w : World) (g k : Nat) (x : Acct) : w.grownBy (put3 w g k x) (some g) := World.grownBy.trans (World.grownBy.trans (grown_set _ _ _ _) (grown_set _ _ _ _)) (grown_set _ _ _ _)
theorem row_cap {w : World} {base sz g n cap : Nat} {e : TypeId} {xs : List Value} (h : w.ownsRow base e sz (.slice (some ⟨g, 0, none⟩) n cap) n xs) : n ≤ cap := by
  rcases h.2 with ⟨h0, _⟩ | ⟨g', cap', cur, hv, hg, hh, hn, hcap, hsz, htake⟩
  · cases h0
  · cases hv; exact hn
/-- Where DeleteFunc stands. -/
structure DeSt (P : Acct → Bool) (E : World → Prop) (base : Nat) (w wr : World) (l : List Acct) (g n cap i j : Nat) : Prop where
  st : ∃ l', DlSt P l l' i j ∧ wr.ownsRow base 51 3 (.slice (some ⟨g, 0, none⟩) n cap) n (outR l')
  gro : w.grownBy wr (some g)
  env : E wr
set_option maxRecDepth 100000 in
set_option maxHeartbeats 4000000 in
theorem delfC_any (l : List Acct) (base : Nat) (a : Option Addr) (n cap bx : Nat) (c : ByteArray) (w : World) (h : w.ownsRow base 51 3 (.slice a n cap) n (outR l)) (hn : l.length = n) (hlen : n ≤ 1000000) (he : EnvC bx c w) (hbx : (Value.slice a n cap).ownBlock ≠ some bx) :
    Calls Try.prog 49 #[.slice a n cap, .func (.func 51) #[] #[.pointer (some ⟨bx, 0, none⟩)]] w fun x w' => (∃ a' c', x = .returned (.slice a' (l.filter (fun x => !pC c x)).length c') ∧ w'.ownsRow base 51 3 (.slice a' (l.filter (fun x => !pC c x)).length c') (l.filter (fun x => !pC c x)).length (outR (l.filter (fun x => !pC c x)))) ∧ w.grownBy w' (Value.slice a n cap).ownBlock := by
  have HS := Lib.hid h
  have HN := Lib.hid hlen
  have HL := Lib.hid hn
  have HE := Lib.hid he
  have HBX := Lib.hid hbx
  have eg := entersL (P := Try.prog) Try.func51 (by kernel_rfl) rfl
  have HI := Lib.hid (idxC_any l base a n cap bx c w h hn hlen he)
  obtain ⟨F, hF⟩ : ∃ F, F = l.filter (fun x => !pC c x) := ⟨_, rfl⟩
  have HF := Lib.hid hF
  rw [← hF]
  clear h hlen hn he hbx hF
  go_enter Try.func49, Try.ntmps49
  go_wp2_with fail
  go_at_call 76
  (with_reducible refine HI.out.mono ?_)
  rintro x w1 ⟨⟨i0, rfl, hi⟩, b1⟩
  clear HI
  rcases hi with ⟨rfl, hall⟩ | ⟨k, rfl, hkn, hbefore, x, hx, hpx⟩
  · have HFL : Hid (F = l) := by
      show _ = _
      rw [HF.out]
      exact List.filter_eq_self.2 (fun y hy => by
        obtain ⟨j, hj⟩ := List.getElem?_of_mem hy
        simp [hall j y hj])
    have HNF : Hid (n = F.length) := by show _ = _; rw [HFL.out, HL.out]
    have HS1 := Lib.hid (own_below HS.out b1)
    have HG := Lib.hid (grown_below (row := (Value.slice a n cap).ownBlock) b1)
    clear hall b1 HF
    go_wp2_with fail
    go_ret
    exact ⟨⟨a, cap, by rw [← HNF.out]; rfl, by rw [← HNF.out, HFL.out]; exact HS1.out⟩, HG.out⟩
  · have hne : ((k : Int) == -1) = false := by rw [beq_eq_false_iff_ne]; omega
    obtain ⟨g, cap', x', hv, -, -, -, -, -⟩ := rowA_at (own_below HS.out b1) HL.out k hkn
    injection hv with e1 _ e3
    subst e1; subst e3
    have hgb : g ≠ bx := fun e => HBX.out (by rw [e]; rfl)
    have HD : Hid (DeSt (pC c) (EnvC bx c) base w w1 l g n cap k (k + 1)) := ⟨⟨l, DlSt.start hbefore hx hpx, own_below HS.out b1⟩, grown_below b1, HE.out.below b1⟩
    have HKN := Lib.hid hkn
    have hk0 : (0 : Int) ≤ (k : Int) := by omega
    have hk1 : (k : Int) ≤ 1000000 := by have := HN.out; omega
    clear hbefore hx hpx b1 hkn
    go_wp2_with fail
    go_loopw [5, 6] (fun vi vj wr => ∃ (i j : Nat), vi = .int .i64 (i : Nat) ∧ vj = .int .i64 (j : Nat) ∧ j ≤ n ∧ i < j ∧ Hid (DeSt (pC c) (EnvC bx c) base w wr l g n cap i j)) (fun _ vj _ => n - (intOf vj).toNat)
    case atStart => exact ⟨k, k + 1, rfl, by go_num, HKN.out, by omega, HD.out⟩
    case round =>
      clear HD hk0 hk1 hne
      obtain ⟨i, j, rfl, rfl, hjn, hij, HD⟩ := hrel
      have i0 : (0 : Int) ≤ (i : Int) := by omega
      have i1 : (i : Int) ≤ 1000000 := by have := HN.out; omega
      have j0 : (0 : Int) ≤ (j : Int) := by omega
      have j1 : (j : Int) ≤ 1000000 := by have := HN.out; omega
      obtain ⟨⟨l', hd, hr⟩, hg, hen⟩ := HD.out
      have HLL : Hid (l'.length = n) := by show _ = _; rw [hd.len, HL.out]
      by_cases hlt : j < n
      · have hlt' : (j : Int) < (n : Int) := by omega
        obtain ⟨g', cap', x, hv, hx, u0, u1, u2, -⟩ := rowA_at hr HLL.out j hlt
        injection hv with e1 _ e3
        injection e1 with e1
        injection e1 with e1
        subst e1; subst e3
        have hx' := hx
        rw [hd.at] at hx'
        have HX := Lib.hid hx'
        have HDD := Lib.hid hd
        have HR := Lib.hid hr
        have HG := Lib.hid hg
        have HEN := Lib.hid hen
        have HJT := Lib.hid hlt
        clear hd hr hg hen HD hx hx'
        go_upto_region 8 with (fail)
        have hbn := below_newL wr (.cells #[.string x.party, .string x.coin, .int .i64 x.amt] 51)
        have BV := Lib.hid (Mem.Blk.new wr 51 #[.string x.party, .string x.coin, .int .i64 x.amt])
        have HR2 := Lib.hid (own_below HR.out hbn)
        have HG2 := Lib.hid (World.grownBy.trans HG.out (grown_below (row := some g) hbn))
        have HEN2 := Lib.hid (HEN.out.below hbn)
        clear hbn HR HG HEN u0 u1 u2
        generalize (wr.alloc (.cells #[.string x.party, .string x.coin, .int .i64 x.amt] 51)) = w3 at *
        generalize wr.heap.size = vb at *
        have HP : Hid (Calls Try.prog 51 #[.agg #[.string x.party, .string x.coin, .int .i64 x.amt], .pointer (some ⟨bx, 0, none⟩)] w3 _) := delC_any x bx c w3 HEN2.out
        obtain ⟨R, hRR⟩ : ∃ R, R = pC c x := ⟨_, rfl⟩
        have HRR := Lib.hid hRR
        rw [← hRR] at HP
        obtain ⟨c0, c1, c2, -, -, -⟩ := blk3 BV.out
        clear hRR
        go_wp2_with fail
        go_at_call 51
        (with_reducible refine HP.out.mono ?_)
        rintro e w4 ⟨rfl, b4⟩
        have BV4 := Lib.hid (BV.out.below b4)
        have HR4 := Lib.hid (own_below HR2.out b4)
        have HG4 := Lib.hid (World.grownBy.trans HG2.out (grown_below (row := some g) b4))
        have HEN4 := Lib.hid (HEN2.out.below b4)
        clear HP b4 BV HR2 HG2 HEN2 c0 c1 c2
        cases hm : R with
        | true =>
          have HD2 : Hid (DeSt (pC c) (EnvC bx c) base w w4 l g n cap i (j + 1)) := ⟨⟨l', HDD.out.drop HX.out (by rw [← HRR.out]; exact hm), HR4.out⟩, HG4.out, HEN4.out⟩
          clear hm HDD HR4 HG4 HEN4 BV4
          go_wp2_with fail
          go_roundw
          case rel => exact ⟨i, j + 1, rfl, by go_num, by have := HJT.out; omega, by omega, HD2.out⟩
          case measure => simp [intOf]; have := HJT.out; omega
        | false =>
          have hil : i < l'.length := by have := HLL.out; have := HJT.out; omega
          obtain ⟨y, hy⟩ : ∃ y, l'[i]? = some y := ⟨_, List.getElem?_eq_getElem hil⟩
          obtain ⟨s1, s2, s3⟩ := set_split (x := x) hy
          have hr4 := HR4.out
          rw [s1] at hr4
          have hput := rowA_put hr4 x i s3
          rw [← s2] at hput
          have HD2 : Hid (DeSt (pC c) (EnvC bx c) base w (put3 w4 g i x) l g n cap (i + 1) (j + 1)) := ⟨⟨l'.set i x, HDD.out.keep HX.out (by rw [← HRR.out]; exact hm), hput⟩, World.grownBy.trans HG4.out (put3_grown _ _ _ _), ((HEN4.out.set hgb _).set hgb _).set hgb _⟩
          obtain ⟨⟨p0, f0⟩, f1, ⟨p2, f2⟩, f3, ⟨p4, f4⟩, f5⟩ := put3_way HR4.out (by rw [outR_len, HLL.out]) x i (by have := HJT.out; omega)
          have hii : (i : Int) < (n : Int) := by have := HJT.out; omega
          obtain ⟨c0, c1, c2, -, -, -⟩ := blk3 BV4.out
          unfold put3 at HD2
          clear hm HDD HR4 HG4 HEN4 BV4 hr4 hput s1 s2 s3 hy hil
          go_wp2_with fail
          go_roundw
          case rel => exact ⟨i + 1, j + 1, by go_num, by go_num, by have := HJT.out; omega, by omega, HD2.out⟩
          case measure => simp [intOf]; have := HJT.out; omega
      · have hlt' : ¬ (j : Int) < (n : Int) := by omega
        have hii : i < n := by omega
        obtain ⟨w5, hrun, hg5, hr5⟩ := clear_run hr i hii (cap - i)
        have HG5 := Lib.hid (World.grownBy.trans hg hg5)
        have HFI := Lib.hid (hd.fin (by rw [HL.out]; omega))
        rw [← HF.out] at HFI
        have HFN : Hid (i = F.length) := by
          show _ = _
          rw [← HFI.out, List.length_take, HLL.out]; omega
        have hfr : n ≤ cap := row_cap hr
        have hR5 : Hid (w5.ownsRow base 51 3 (.slice (some ⟨g, 0, none⟩) i cap) i (outR F)) := by
          rw [HFI.out] at hr5; exact hr5
        have hci : ¬ (cap : Int) = (i : Int) := by omega
        have hci2 : ¬ cap = i := by omega
        have hin : (i : Int) ≤ (n : Int) := by omega
        have hnc : (n : Int) ≤ (cap : Int) := by omega
        have hic : (i : Int) ≤ (cap : Int) := by omega
        clear hd hr hg hen HD hg5 hr5 hlt
        go_wp2_with fail
        go_ret
        exact ⟨⟨_, cap, by rw [← HFN.out]; rfl, by rw [← HFN.out]; exact hR5.out⟩, HG5.out⟩
set_option maxRecDepth 100000 in
set_option maxHeartbeats 4000000 in
theorem delfZ_any (l : List Acct) (base : Nat) (a : Option Addr) (n cap bx : Nat) (c : ByteArray) (w : World) (h : w.ownsRow base 51 3 (.slice a n cap) n (outR l)) (hn : l.length = n) (hlen : n ≤ 1000000) (he : EnvZ bx c w) (hbx : (Value.slice a n cap).ownBlock ≠ some bx) :
    Calls Try.prog 49 #[.slice a n cap, .func (.func 57) #[] #[]] w fun x w' => (∃ a' c', x = .returned (.slice a' (l.filter (fun x => !pZ c x)).length c') ∧ w'.ownsRow base 51 3 (.slice a' (l.filter (fun x => !pZ c x)).length c') (l.filter (fun x => !pZ c x)).length (outR (l.filter (fun x => !pZ c x)))) ∧ w.grownBy w' (Value.slice a n cap).ownBlock := by
  have HS := Lib.hid h
  have HN := Lib.hid hlen
  have HL := Lib.hid hn
  have HE := Lib.hid he
  have HBX := Lib.hid hbx
  have eg := entersL (P := Try.prog) Try.func57 (by kernel_rfl) rfl
  have HI := Lib.hid (idxZ_any l base a n cap bx c w h hn hlen he)
  obtain ⟨F, hF⟩ : ∃ F, F = l.filter (fun x => !pZ c x) := ⟨_, rfl⟩
  have HF := Lib.hid hF
  rw [← hF]
  clear h hlen hn he hbx hF
  go_enter Try.func49, Try.ntmps49
  go_wp2_with fail
  go_at_call 76
  (with_reducible refine HI.out.mono ?_)
  rintro x w1 ⟨⟨i0, rfl, hi⟩, b1⟩
  clear HI
  rcases hi with ⟨rfl, hall⟩ | ⟨k, rfl, hkn, hbefore, x, hx, hpx⟩
  · have HFL : Hid (F = l) := by
      show _ = _
      rw [HF.out]
      exact List.filter_eq_self.2 (fun y hy => by
        obtain ⟨j, hj⟩ := List.getElem?_of_mem hy
        simp [hall j y hj])
    have HNF : Hid (n = F.length) := by show _ = _; rw [HFL.out, HL.out]
    have HS1 := Lib.hid (own_below HS.out b1)
    have HG := Lib.hid (grown_below (row := (Value.slice a n cap).ownBlock) b1)
    clear hall b1 HF
    go_wp2_with fail
    go_ret
    exact ⟨⟨a, cap, by rw [← HNF.out]; rfl, by rw [← HNF.out, HFL.out]; exact HS1.out⟩, HG.out⟩
  · have hne : ((k : Int) == -1) = false := by rw [beq_eq_false_iff_ne]; omega
    obtain ⟨g, cap', x', hv, -, -, -, -, -⟩ := rowA_at (own_below HS.out b1) HL.out k hkn
    injection hv with e1 _ e3
    subst e1; subst e3
    have hgb : g ≠ bx := fun e => HBX.out (by rw [e]; rfl)
    have HD : Hid (DeSt (pZ c) (EnvZ bx c) base w w1 l g n cap k (k + 1)) := ⟨⟨l, DlSt.start hbefore hx hpx, own_below HS.out b1⟩, grown_below b1, HE.out.below b1⟩
    have HKN := Lib.hid hkn
    have hk0 : (0 : Int) ≤ (k : Int) := by omega
    have hk1 : (k : Int) ≤ 1000000 := by have := HN.out; omega
    clear hbefore hx hpx b1 hkn
    go_wp2_with fail
    go_loopw [5, 6] (fun vi vj wr => ∃ (i j : Nat), vi = .int .i64 (i : Nat) ∧ vj = .int .i64 (j : Nat) ∧ j ≤ n ∧ i < j ∧ Hid (DeSt (pZ c) (EnvZ bx c) base w wr l g n cap i j)) (fun _ vj _ => n - (intOf vj).toNat)
    case atStart => exact ⟨k, k + 1, rfl, by go_num, HKN.out, by omega, HD.out⟩
    case round =>
      clear HD hk0 hk1 hne
      obtain ⟨i, j, rfl, rfl, hjn, hij, HD⟩ := hrel
      have i0 : (0 : Int) ≤ (i : Int) := by omega
      have i1 : (i : Int) ≤ 1000000 := by have := HN.out; omega
      have j0 : (0 : Int) ≤ (j : Int) := by omega
      have j1 : (j : Int) ≤ 1000000 := by have := HN.out; omega
      obtain ⟨⟨l', hd, hr⟩, hg, hen⟩ := HD.out
      have HLL : Hid (l'.length = n) := by show _ = _; rw [hd.len, HL.out]
      by_cases hlt : j < n
      · have hlt' : (j : Int) < (n : Int) := by omega
        obtain ⟨g', cap', x, hv, hx, u0, u1, u2, -⟩ := rowA_at hr HLL.out j hlt
        injection hv with e1 _ e3
        injection e1 with e1
        injection e1 with e1
        subst e1; subst e3
        have hx' := hx
        rw [hd.at] at hx'
        have HX := Lib.hid hx'
        have HDD := Lib.hid hd
        have HR := Lib.hid hr
        have HG := Lib.hid hg
        have HEN := Lib.hid hen
        have HJT := Lib.hid hlt
        clear hd hr hg hen HD hx hx'
        go_upto_region 8 with (fail)
        have hbn := below_newL wr (.cells #[.string x.party, .string x.coin, .int .i64 x.amt] 51)
        have BV := Lib.hid (Mem.Blk.new wr 51 #[.string x.party, .string x.coin, .int .i64 x.amt])
        have HR2 := Lib.hid (own_below HR.out hbn)
        have HG2 := Lib.hid (World.grownBy.trans HG.out (grown_below (row := some g) hbn))
        have HEN2 := Lib.hid (HEN.out.below hbn)
        clear hbn HR HG HEN u0 u1 u2
        generalize (wr.alloc (.cells #[.string x.party, .string x.coin, .int .i64 x.amt] 51)) = w3 at *
        generalize wr.heap.size = vb at *
        have HP : Hid (Calls Try.prog 57 #[.agg #[.string x.party, .string x.coin, .int .i64 x.amt]] w3 _) := delZ_any x bx c w3 HEN2.out
        obtain ⟨R, hRR⟩ : ∃ R, R = pZ c x := ⟨_, rfl⟩
        have HRR := Lib.hid hRR
        rw [← hRR] at HP
        obtain ⟨c0, c1, c2, -, -, -⟩ := blk3 BV.out
        clear hRR
        go_wp2_with fail
        go_at_call 57
        (with_reducible refine HP.out.mono ?_)
        rintro e w4 ⟨rfl, b4⟩
        have BV4 := Lib.hid (BV.out.below b4)
        have HR4 := Lib.hid (own_below HR2.out b4)
        have HG4 := Lib.hid (World.grownBy.trans HG2.out (grown_below (row := some g) b4))
        have HEN4 := Lib.hid (HEN2.out.below b4)
        clear HP b4 BV HR2 HG2 HEN2 c0 c1 c2
        cases hm : R with
        | true =>
          have HD2 : Hid (DeSt (pZ c) (EnvZ bx c) base w w4 l g n cap i (j + 1)) := ⟨⟨l', HDD.out.drop HX.out (by rw [← HRR.out]; exact hm), HR4.out⟩, HG4.out, HEN4.out⟩
          clear hm HDD HR4 HG4 HEN4 BV4
          go_wp2_with fail
          go_roundw
          case rel => exact ⟨i, j + 1, rfl, by go_num, by have := HJT.out; omega, by omega, HD2.out⟩
          case measure => simp [intOf]; have := HJT.out; omega
        | false =>
          have hil : i < l'.length := by have := HLL.out; have := HJT.out; omega
          obtain ⟨y, hy⟩ : ∃ y, l'[i]? = some y := ⟨_, List.getElem?_eq_getElem hil⟩
          obtain ⟨s1, s2, s3⟩ := set_split (x := x) hy
          have hr4 := HR4.out
          rw [s1] at hr4
          have hput := rowA_put hr4 x i s3
          rw [← s2] at hput
          have HD2 : Hid (DeSt (pZ c) (EnvZ bx c) base w (put3 w4 g i x) l g n cap (i + 1) (j + 1)) := ⟨⟨l'.set i x, HDD.out.keep HX.out (by rw [← HRR.out]; exact hm), hput⟩, World.grownBy.trans HG4.out (put3_grown _ _ _ _), ((HEN4.out.set hgb _).set hgb _).set hgb _⟩
          obtain ⟨⟨p0, f0⟩, f1, ⟨p2, f2⟩, f3, ⟨p4, f4⟩, f5⟩ := put3_way HR4.out (by rw [outR_len, HLL.out]) x i (by have := HJT.out; omega)
          have hii : (i : Int) < (n : Int) := by have := HJT.out; omega
          obtain ⟨c0, c1, c2, -, -, -⟩ := blk3 BV4.out
          unfold put3 at HD2
          clear hm HDD HR4 HG4 HEN4 BV4 hr4 hput s1 s2 s3 hy hil
          go_wp2_with fail
          go_roundw
          case rel => exact ⟨i + 1, j + 1, by go_num, by go_num, by have := HJT.out; omega, by omega, HD2.out⟩
          case measure => simp [intOf]; have := HJT.out; omega
      · have hlt' : ¬ (j : Int) < (n : Int) := by omega
        have hii : i < n := by omega
        obtain ⟨w5, hrun, hg5, hr5⟩ := clear_run hr i hii (cap - i)
        have HG5 := Lib.hid (World.grownBy.trans hg hg5)
        have HFI := Lib.hid (hd.fin (by rw [HL.out]; omega))
        rw [← HF.out] at HFI
        have HFN : Hid (i = F.length) := by
          show _ = _
          rw [← HFI.out, List.length_take, HLL.out]; omega
        have hfr : n ≤ cap := row_cap hr
        have hR5 : Hid (w5.ownsRow base 51 3 (.slice (some ⟨g, 0, none⟩) i cap) i (outR F)) := by
          rw [HFI.out] at hr5; exact hr5
        have hci : ¬ (cap : Int) = (i : Int) := by omega
        have hci2 : ¬ cap = i := by omega
        have hin : (i : Int) ≤ (n : Int) := by omega
        have hnc : (n : Int) ≤ (cap : Int) := by omega
        have hic : (i : Int) ≤ (cap : Int) := by omega
        clear hd hr hg hen HD hg5 hr5 hlt
        go_wp2_with fail
        go_ret
        exact ⟨⟨_, cap, by rw [← HFN.out]; rfl, by rw [← HFN.out]; exact hR5.out⟩, HG5.out⟩
end Go.Proofs.Ytgbiimoednmlgaa

/- Clearing a currency: plain. -/
namespace Go.Proofs.Ytgbiimoednmlgaa
set_option linter.unusedVariables false
set_option linter.unusedSimpArgs false
open Go.RowKit
theorem ExSt.uniq {s : Int} {l : List Acct} {x y : Acct} (h : ExSt s l l.length x) (h' : ExSt s l l.length y) : x = y := by
  obtain ⟨i, hi, hx, h⟩ := h
  obtain ⟨j, hj, hy, h'⟩ := h'
  rcases Nat.lt_trichotomy i j with e | e | e
  · have h1 := (h' i x hi hx).2 e
    have h2 := (h j y hj hy).1
    omega
  · subst e; rw [hx] at hy; exact Option.some.inj hy
  · have h1 := (h j y hj hy).2 e
    have h2 := (h' i x hi hx).1
    omega
theorem ExSt.split {s : Int} {l : List Acct} {x : Acct} (h : ExSt s l l.length x) : ∃ A B, l = A ++ x :: B ∧ (∀ y ∈ A, s * y.amt < s * x.amt) ∧ (∀ y ∈ B, s * y.amt ≤ s * x.amt) := by
  obtain ⟨i, hi, hx, h⟩ := h
  refine ⟨l.take i, l.drop (i + 1), (set_split (x := x) hx).1, fun y hy => ?_, fun y hy => ?_⟩
  · obtain ⟨j, hj⟩ := List.getElem?_of_mem hy
    rw [List.getElem?_take] at hj
    split at hj
    · rename_i hji; exact (h j y (by omega) hj).2 hji
    · cases hj
  · obtain ⟨j, hj⟩ := List.getElem?_of_mem hy
    rw [List.getElem?_drop] at hj
    exact (h _ y (List.getElem?_eq_some_iff.1 hj).1 hj).1
theorem ExSt.of_split {s : Int} {A B : List Acct} {x : Acct} (h1 : ∀ y ∈ A, s * y.amt < s * x.amt) (h2 : ∀ y ∈ B, s * y.amt ≤ s * x.amt) : ExSt s (A ++ x :: B) (A ++ x :: B).length x := by
  refine ⟨A.length, by simp, by simp, fun j y hj hy => ?_⟩
  rcases Nat.lt_trichotomy j A.length with e | e | e
  · rw [List.getElem?_append_left e] at hy
    have := h1 y (List.mem_of_getElem? hy)
    exact ⟨by omega, fun _ => this⟩
  · subst e
    have : y = x := by simpa using hy.symm
    rw [this]
    exact ⟨Int.le_refl _, fun h => absurd h (by omega)⟩
  · rw [List.getElem?_append_right (by omega)] at hy
    obtain ⟨k, hk⟩ : ∃ k, j - A.length = k + 1 := ⟨j - A.length - 1, by omega⟩
    rw [hk, List.getElem?_cons_succ] at hy
    exact ⟨h2 y (List.mem_of_getElem? hy), fun h => absurd h (by omega)⟩
theorem ExSt.mem {s : Int} {l : List Acct} {k : Nat} {x : Acct} (h : ExSt s l k x) : x ∈ l := by
  obtain ⟨i, _, hx, _⟩ := h
  exact List.mem_of_getElem? hx
theorem ExSt.ge {s : Int} {l : List Acct} {x : Acct} (h : ExSt s l l.length x) : ∀ y ∈ l, s * y.amt ≤ s * x.amt := by
  obtain ⟨i, _, hx, h⟩ := h
  intro y hy
  obtain ⟨j, hj⟩ := List.getElem?_of_mem hy
  exact (h j y (List.getElem?_eq_some_iff.1 hj).1 hj).1
def nzA (x : Acct) : Bool := decide (x.amt ≠ 0)
theorem ExSt.nz {s : Int} {l : List Acct} {x : Acct} (h : ExSt s l l.length x) (hx : x.amt ≠ 0) : ExSt s (l.filter nzA) (l.filter nzA).length x := by
  obtain ⟨A, B, rfl, h1, h2⟩ := h.split
  have e : (A ++ x :: B).filter nzA = A.filter nzA ++ x :: B.filter nzA := by
    rw [List.filter_append, List.filter_cons_of_pos (by unfold nzA; simpa using hx)]
  rw [e]
  exact ExSt.of_split (fun y hy => h1 y (List.mem_filter.1 hy).1) (fun y hy => h2 y (List.mem_filter.1 hy).1)
def sumA (l : List Acct) : Int := (l.map Acct.amt).sum
theorem sumA_cons (a : Acct) (l : List Acct) : sumA (a :: l) = a.amt + sumA l := by unfold sumA; rw [List.map_cons, List.sum_cons]
theorem sumA_nz (l : List Acct) : sumA (l.filter nzA) = sumA l := by
  induction l with
  | nil => rfl
  | cons a t ih =>
    by_cases h : a.amt = 0
    · rw [List.filter_cons_of_neg (by unfold nzA; simpa using h), sumA_cons, ih, h]; omega
    · rw [List.filter_cons_of_pos (by unfold nzA; simpa using h), sumA_cons, sumA_cons, ih]
theorem sumA_neg {l : List Acct} (h : ∀ y ∈ l, y.amt ≤ 0) : sumA l ≤ 0 ∧ (sumA l = 0 → ∀ y ∈ l, y.amt = 0) := by
  induction l with
  | nil => exact ⟨by unfold sumA; simp, fun _ y hy => nomatch hy⟩
  | cons a t ih =>
    have h1 := h a (List.mem_cons_self ..)
    have h2 := ih (fun y hy => h y (List.mem_cons_of_mem _ hy))
    rw [sumA_cons]
    refine ⟨by omega, fun h3 y hy => ?_⟩
    rcases List.mem_cons.1 hy with rfl | hy
    · omega
    · exact h2.2 (by omega) y hy
theorem sumA_pos {l : List Acct} (h : ∀ y ∈ l, 0 ≤ y.amt) : 0 ≤ sumA l ∧ (sumA l = 0 → ∀ y ∈ l, y.amt = 0) := by
  induction l with
  | nil => exact ⟨by unfold sumA; simp, fun _ y hy => nomatch hy⟩
  | cons a t ih =>
    have h1 := h a (List.mem_cons_self ..)
    have h2 := ih (fun y hy => h y (List.mem_cons_of_mem _ hy))
    rw [sumA_cons]
    refine ⟨by omega, fun h3 y hy => ?_⟩
    rcases List.mem_cons.1 hy with rfl | hy
    · omega
    · exact h2.2 (by omega) y hy
structure LfOk (c : ByteArray) (l : List Acct) : Prop where
  ok : ∀ a ∈ l, AcctOk a
  coin : ∀ a ∈ l, a.coin.data.toList = c.data.toList
  dist : l.Pairwise (fun x y => x.party.data.toList ≠ y.party.data.toList)
  sum : sumA l = 0
theorem LfOk.nz {c : ByteArray} {l : List Acct} (h : LfOk c l) : LfOk c (l.filter nzA) :=
  ⟨fun a ha => h.ok a (List.mem_filter.1 ha).1, fun a ha => h.coin a (List.mem_filter.1 ha).1, h.dist.sublist List.filter_sublist, by rw [sumA_nz]; exact h.sum⟩
theorem LfOk.rich {c : ByteArray} {l : List Acct} (h : LfOk c l) {x : Acct} (hx : ExSt 1 l l.length x) : (0 < x.amt) ∨ (∀ y ∈ l, y.amt = 0) := by
  by_cases h0 : 0 < x.amt
  · exact .inl h0
  · exact .inr ((sumA_neg (fun y hy => by have := hx.ge y hy; omega)).2 h.sum)
theorem LfOk.poor {c : ByteArray} {l : List Acct} (h : LfOk c l) {x : Acct} (hx : ExSt (-1) l l.length x) : (x.amt < 0) ∨ (∀ y ∈ l, y.amt = 0) := by
  by_cases h0 : x.amt < 0
  · exact .inl h0
  · exact .inr ((sumA_pos (fun y hy => by have := hx.ge y hy; omega)).2 h.sum)
/-- An amount more for a party. -/
def adj1 (p : ByteArray) (d : Int) (x : Acct) : Acct := if x.party.data.toList = p.data.toList then ⟨x.party, x.coin, x.amt + d⟩ else x
theorem adj1_party (p : ByteArray) (d : Int) (x : Acct) : (adj1 p d x).party = x.party := by unfold adj1; split <;> rfl
theorem adj1_coin (p : ByteArray) (d : Int) (x : Acct) : (adj1 p d x).coin = x.coin := by unfold adj1; split <;> rfl
theorem adj1_none {p : ByteArray} {d : Int} {l : List Acct} (h : ∀ y ∈ l, y.party.data.toList ≠ p.data.toList) : l.map (adj1 p d) = l := by
  conv => rhs; rw [← List.map_id l]
  refine List.map_congr_left (fun y hy => ?_)
  unfold adj1; rw [if_neg (h y hy)]; rfl
theorem adj1_sum {p : ByteArray} {d : Int} : ∀ {l : List Acct}, l.Pairwise (fun x y => x.party.data.toList ≠ y.party.data.toList) → (∃ x ∈ l, x.party.data.toList = p.data.toList) → sumA (l.map (adj1 p d)) = sumA l + d
  | [], _, ⟨x, hx, _⟩ => nomatch hx
  | a :: t, h, ⟨x, hx, hp⟩ => by
    rw [List.pairwise_cons] at h
    rw [List.map_cons, sumA_cons, sumA_cons]
    by_cases e : a.party.data.toList = p.data.toList
    · rw [adj1_none (fun y hy => by have := h.1 y hy; rw [e] at this; exact fun e2 => this e2.symm)]
      unfold adj1; rw [if_pos e]
      show a.amt + d + _ = _
      omega
    · rw [adj1_sum h.2 (by
        rcases List.mem_cons.1 hx with rfl | hx
        · exact absurd hp e
        · exact ⟨x, hx, hp⟩)]
      unfold adj1; rw [if_neg e]; omega
theorem adj1_dist {p : ByteArray} {d : Int} {l : List Acct} (h : l.Pairwise (fun x y => x.party.data.toList ≠ y.party.data.toList)) : (l.map (adj1 p d)).Pairwise (fun x y => x.party.data.toList ≠ y.party.data.toList) := by
  rw [List.pairwise_map]
  exact h.imp (fun {a b} hab => by rw [adj1_party, adj1_party]; exact hab)
theorem adj1_set {p : ByteArray} {d : Int} : ∀ {l : List Acct} {i : Nat} {x : Acct}, l.Pairwise (fun x y => x.party.data.toList ≠ y.party.data.toList) → l[i]? = some x → x.party.data.toList = p.data.toList → l.set i ⟨x.party, x.coin, x.amt + d⟩ = l.map (adj1 p d)
  | [], _, _, _, h, _ => by simp at h
  | a :: t, 0, x, h, hx, hp => by
    rw [List.pairwise_cons] at h
    obtain rfl : a = x := by simpa using hx
    rw [List.set_cons_zero, List.map_cons, adj1_none (fun y hy => by have := h.1 y hy; rw [hp] at this; exact fun e2 => this e2.symm)]
    unfold adj1; rw [if_pos hp]
  | a :: t, i + 1, x, h, hx, hp => by
    rw [List.pairwise_cons] at h
    rw [List.getElem?_cons_succ] at hx
    rw [List.set_cons_succ, List.map_cons, adj1_set h.2 hx hp]
    have : a.party.data.toList ≠ p.data.toList := by rw [← hp]; exact h.1 x (List.mem_of_getElem? hx)
    unfold adj1; rw [if_neg this]
/-- What a move does to a list. -/
def adjL (l : List Acct) (rich poor : Acct) (n : Int) : List Acct := (l.map (adj1 rich.party (-n))).map (adj1 poor.party n)
theorem adj2 {rich poor x : Acct} {n : Int} (hne : rich.party.data.toList ≠ poor.party.data.toList) : adj1 poor.party n (adj1 rich.party (-n) x) = if x.party.data.toList = rich.party.data.toList then ⟨x.party, x.coin, x.amt - n⟩ else if x.party.data.toList = poor.party.data.toList then ⟨x.party, x.coin, x.amt + n⟩ else x := by
  by_cases h : x.party.data.toList = rich.party.data.toList
  · rw [if_pos h]
    have h1 : adj1 rich.party (-n) x = ⟨x.party, x.coin, x.amt - n⟩ := by unfold adj1; rw [if_pos h]; rfl
    rw [h1]
    unfold adj1
    rw [if_neg (by show x.party.data.toList ≠ _; rw [h]; exact hne)]
  · rw [if_neg h]
    have h1 : adj1 rich.party (-n) x = x := by unfold adj1; rw [if_neg h]
    rw [h1]; rfl
structure MvOkL (l : List Acct) (rich poor : Acct) (n : Int) : Prop where
  hr : rich ∈ l
  hp : poor ∈ l
  pos : 0 < rich.amt
  neg : poor.amt < 0
  hn : n = min rich.amt (-poor.amt)
theorem LfOk.next {c : ByteArray} {l : List Acct} (h : LfOk c l) {rich poor : Acct} {n : Int} (m : MvOkL l rich poor n) : LfOk c (adjL l rich poor n) := by
  have hn := m.hn
  have hp := m.pos
  have hq := m.neg
  refine ⟨fun a ha => ?_, fun a ha => ?_, adj1_dist (adj1_dist h.dist), ?_⟩
  · unfold adjL at ha
    obtain ⟨b, hb, rfl⟩ := List.mem_map.1 ha
    obtain ⟨x, hx, rfl⟩ := List.mem_map.1 hb
    have ho := h.ok x hx
    refine ⟨by rw [adj1_party, adj1_party]; exact ho.party, by rw [adj1_coin, adj1_coin]; exact ho.coin, ?_⟩
    have same : ∀ y ∈ l, x.party.data.toList = y.party.data.toList → x = y := fun y hy e => by
      obtain ⟨i, hi⟩ := List.getElem?_of_mem hx
      obtain ⟨j, hj⟩ := List.getElem?_of_mem hy
      obtain ⟨h1, e1⟩ := List.getElem?_eq_some_iff.1 hi
      obtain ⟨h2, e2⟩ := List.getElem?_eq_some_iff.1 hj
      rcases Nat.lt_trichotomy i j with q | q | q
      · have := List.pairwise_iff_getElem.1 h.dist i j h1 h2 q
        rw [e1, e2] at this; exact absurd e this
      · subst q; rw [hi] at hj; exact Option.some.inj hj
      · have := List.pairwise_iff_getElem.1 h.dist j i h2 h1 q
        rw [e1, e2] at this; exact absurd e.symm this
    have hox : I64 x.amt := ho.amt
    have hor : I64 rich.amt := (h.ok rich m.hr).amt
    have hop : I64 poor.amt := (h.ok poor m.hp).amt
    unfold I64 at hox hor hop
    by_cases h1 : x.party.data.toList = rich.party.data.toList
    · have e := same rich m.hr h1
      subst e
      have e1 : adj1 x.party (-n) x = ⟨x.party, x.coin, x.amt + -n⟩ := by unfold adj1; rw [if_pos rfl]
      rw [e1]
      show I64 _
      unfold adj1 I64
      split
      · show _ ≤ x.amt + -n + n ∧ x.amt + -n + n ≤ _; omega
      · show _ ≤ x.amt + -n ∧ x.amt + -n ≤ _; omega
    · have e1 : adj1 rich.party (-n) x = x := by unfold adj1; rw [if_neg h1]
      rw [e1]
      show I64 _
      by_cases h2 : x.party.data.toList = poor.party.data.toList
      · have e := same poor m.hp h2
        subst e
        unfold adj1 I64; rw [if_pos rfl]
        show _ ≤ x.amt + n ∧ x.amt + n ≤ _; omega
      · unfold adj1 I64; rw [if_neg h2]; exact ⟨by omega, by omega⟩
  · unfold adjL at ha
    obtain ⟨b, hb, rfl⟩ := List.mem_map.1 ha
    obtain ⟨x, hx, rfl⟩ := List.mem_map.1 hb
    rw [adj1_coin, adj1_coin]; exact h.coin x hx
  · unfold adjL
    rw [adj1_sum (adj1_dist h.dist) ⟨adj1 rich.party (-n) poor, List.mem_map.2 ⟨poor, m.hp, rfl⟩, by rw [adj1_party]⟩, adj1_sum h.dist ⟨rich, m.hr, rfl⟩, h.sum]
    omega
theorem MvOkL.ne {l : List Acct} {rich poor : Acct} {n : Int} (m : MvOkL l rich poor n) (h : l.Pairwise (fun x y => x.party.data.toList ≠ y.party.data.toList)) : rich.party.data.toList ≠ poor.party.data.toList := by
  intro e
  obtain ⟨i, hi⟩ := List.getElem?_of_mem m.hr
  obtain ⟨j, hj⟩ := List.getElem?_of_mem m.hp
  obtain ⟨h1, e1⟩ := List.getElem?_eq_some_iff.1 hi
  obtain ⟨h2, e2⟩ := List.getElem?_eq_some_iff.1 hj
  rcases Nat.lt_trichotomy i j with q | q | q
  · have := List.pairwise_iff_getElem.1 h i j h1 h2 q
    rw [e1, e2] at this; exact this e
  · subst q
    rw [hi] at hj
    have := Option.some.inj hj
    have h3 := m.pos
    have h4 := m.neg
    rw [this] at h3; omega
  · have := List.pairwise_iff_getElem.1 h j i h2 h1 q
    rw [e1, e2] at this; exact this e.symm
/-- The moves that clear. -/
inductive Clr (c : ByteArray) : List Acct → List Mv → Prop
  | nil : Clr c [] []
  | step {l : List Acct} {rich poor : Acct} {n : Int} {ms : List Mv} (hr : ExSt 1 l l.length rich) (hp : ExSt (-1) l l.length poor) (hn : n = min rich.amt (-poor.amt)) (h : Clr c ((adjL l rich poor n).filter nzA) ms) : Clr c l (⟨rich.party, poor.party, c, n⟩ :: ms)
theorem Clr.uniq {c : ByteArray} {l : List Acct} {ms ms' : List Mv} (h : Clr c l ms) : Clr c l ms' → ms = ms' := by
  induction h generalizing ms' with
  | nil => intro h'; cases h' with
    | nil => rfl
    | step hr _ _ _ => obtain ⟨i, hi, _⟩ := hr; exact absurd hi (by simp)
  | step hr hp hn h ih => intro h'; cases h' with
    | nil => obtain ⟨i, hi, _⟩ := hr; exact absurd hi (by simp)
    | step hr' hp' hn' h' =>
      obtain rfl := hr.uniq hr'
      obtain rfl := hp.uniq hp'
      obtain rfl := hn.trans hn'.symm
      rw [ih h']
end Go.Proofs.Ytgbiimoednmlgaa

/- Clearing a currency: plain, on. -/
namespace Go.Proofs.Ytgbiimoednmlgaa
set_option linter.unusedVariables false
set_option linter.unusedSimpArgs false
open Go.RowKit
theorem dist_same {l : List Acct} (h : l.Pairwise (fun x y => x.party.data.toList ≠ y.party.data.toList)) {x y : Acct} (hx : x ∈ l) (hy : y ∈ l) (e : x.party.data.toList = y.party.data.toList) : x = y := by
  obtain ⟨i, hi⟩ := List.getElem?_of_mem hx
  obtain ⟨j, hj⟩ := List.getElem?_of_mem hy
  obtain ⟨h1, e1⟩ := List.getElem?_eq_some_iff.1 hi
  obtain ⟨h2, e2⟩ := List.getElem?_eq_some_iff.1 hj
  rcases Nat.lt_trichotomy i j with q | q | q
  · have := List.pairwise_iff_getElem.1 h i j h1 h2 q
    rw [e1, e2] at this; exact absurd e this
  · subst q; rw [hi] at hj; exact Option.some.inj hj
  · have := List.pairwise_iff_getElem.1 h j i h2 h1 q
    rw [e1, e2] at this; exact absurd e.symm this
theorem mvok {c : ByteArray} {l : List Acct} (h : LfOk c l) {rich poor : Acct} {n : Int} (hr : ExSt 1 l l.length rich) (hp : ExSt (-1) l l.length poor) (hn : n = min rich.amt (-poor.amt)) (h0 : rich.amt ≠ 0) : MvOkL l rich poor n := by
  refine ⟨hr.mem, hp.mem, ?_, ?_, hn⟩
  · exact (h.rich hr).resolve_right (fun hz => h0 (hz rich hr.mem))
  · exact (h.poor hp).resolve_right (fun hz => h0 (hz rich hr.mem))
theorem MvOkL.nz {l : List Acct} {rich poor : Acct} {n : Int} (m : MvOkL l rich poor n) : MvOkL (l.filter nzA) rich poor n := by
  have h1 := m.pos
  have h2 := m.neg
  exact ⟨List.mem_filter.2 ⟨m.hr, by unfold nzA; rw [decide_eq_true]; omega⟩, List.mem_filter.2 ⟨m.hp, by unfold nzA; rw [decide_eq_true]; omega⟩, h1, h2, m.hn⟩
theorem filter_map_nz {f : Acct → Acct} {l : List Acct} (h : ∀ x ∈ l, x.amt = 0 → (f x).amt = 0) : (l.map f).filter nzA = ((l.filter nzA).map f).filter nzA := by
  induction l with
  | nil => rfl
  | cons a t ih =>
    have ih := ih (fun x hx => h x (List.mem_cons_of_mem _ hx))
    by_cases h0 : a.amt = 0
    · rw [List.filter_cons_of_neg (by unfold nzA; simpa using h0), List.map_cons, List.filter_cons_of_neg (by unfold nzA; simpa using h a (List.mem_cons_self ..) h0), ih]
    · rw [List.filter_cons_of_pos (by unfold nzA; simpa using h0), List.map_cons, List.map_cons]
      by_cases h1 : (f a).amt = 0
      · rw [List.filter_cons_of_neg (by unfold nzA; simpa using h1), List.filter_cons_of_neg (by unfold nzA; simpa using h1), ih]
      · rw [List.filter_cons_of_pos (by unfold nzA; simpa using h1), List.filter_cons_of_pos (by unfold nzA; simpa using h1), ih]
theorem adjL_map (l : List Acct) (rich poor : Acct) (n : Int) : adjL l rich poor n = l.map (fun x => adj1 poor.party n (adj1 rich.party (-n) x)) := by
  unfold adjL; rw [List.map_map]; rfl
theorem adjL_nz {c : ByteArray} {l : List Acct} (h : LfOk c l) {rich poor : Acct} {n : Int} (m : MvOkL l rich poor n) : (adjL l rich poor n).filter nzA = (adjL (l.filter nzA) rich poor n).filter nzA := by
  rw [adjL_map, adjL_map]
  refine filter_map_nz (fun x hx h0 => ?_)
  have h1 := m.pos
  have h2 := m.neg
  rw [adj2 (m.ne h.dist), if_neg (fun e => by have := dist_same h.dist hx m.hr e; rw [this] at h0; omega), if_neg (fun e => by have := dist_same h.dist hx m.hp e; rw [this] at h0; omega)]
  exact h0
theorem adjL_lt {c : ByteArray} {l : List Acct} (h : LfOk c l) {rich poor : Acct} {n : Int} (m : MvOkL l rich poor n) : ((adjL l rich poor n).filter nzA).length < l.length := by
  rw [adjL_map]
  have hl : (l.map (fun x => adj1 poor.party n (adj1 rich.party (-n) x))).length = l.length := List.length_map ..
  have h1 := m.pos
  have h2 := m.neg
  have h3 := m.hn
  rw [← hl]
  refine List.length_filter_lt_length_iff_exists.2 ?_
  by_cases e : n = rich.amt
  · refine ⟨_, List.mem_map.2 ⟨rich, m.hr, rfl⟩, ?_⟩
    rw [adj2 (m.ne h.dist), if_pos rfl]
    unfold nzA
    show ¬ decide (rich.amt - n ≠ 0) = true
    rw [e]; simp
  · refine ⟨_, List.mem_map.2 ⟨poor, m.hp, rfl⟩, ?_⟩
    rw [adj2 (m.ne h.dist), if_neg (fun e2 => m.ne h.dist e2.symm), if_pos rfl]
    unfold nzA
    show ¬ decide (poor.amt + n ≠ 0) = true
    have : poor.amt + n = 0 := by omega
    rw [this]; simp
def NzL (l : List Acct) : Prop := ∀ a ∈ l, a.amt ≠ 0
theorem nz_filter (l : List Acct) : NzL (l.filter nzA) := fun a ha => by
  have := (List.mem_filter.1 ha).2
  unfold nzA at this
  exact of_decide_eq_true this
theorem nz_id {l : List Acct} (h : NzL l) : l.filter nzA = l := List.filter_eq_self.2 (fun a ha => by unfold nzA; exact decide_eq_true (h a ha))
theorem Clr.len {c : ByteArray} {l : List Acct} {ms : List Mv} (h : Clr c l ms) : LfOk c l → NzL l → (l = [] ∧ ms = []) ∨ ms.length < l.length := by
  induction h with
  | nil => exact fun _ _ => .inl ⟨rfl, rfl⟩
  | step hr hp hn h ih =>
    intro hl hz
    right
    have m := mvok hl hr hp hn (hz _ hr.mem)
    have h1 := adjL_lt hl m
    rcases ih (hl.next m).nz (nz_filter _) with ⟨h2, h3⟩ | h2
    · rw [h3]
      have h4 := m.ne hl.dist
      have h5 := m.hr
      have h6 := m.hp
      rename_i l0 rich poor n ms0
      match l0, h5, h6 with
      | [a], h5, h6 =>
        rw [List.mem_singleton] at h5 h6
        rw [h5, h6] at h4; exact absurd rfl h4
      | a :: b :: t, _, _ => simp
    · rw [List.length_cons]; omega
theorem tot_cons (x : Ky) (n : Int) (L : List (Ky × Int)) (k : Ky) : tot ((x, n) :: L) k = (if x = k then n else 0) + tot L k := by
  rw [show (x, n) :: L = [(x, n)] ++ L from rfl, tot_append, tot_one]
theorem conA_cons (a : Acct) (l : List Acct) : conA (a :: l) = (a.key, a.amt) :: conA l := rfl
theorem tot_nz (l : List Acct) (k : Ky) : tot (conA (l.filter nzA)) k = tot (conA l) k := by
  induction l with
  | nil => rfl
  | cons a t ih =>
    by_cases h : a.amt = 0
    · rw [List.filter_cons_of_neg (by unfold nzA; simpa using h), conA_cons, tot_cons, ih, h]; split <;> omega
    · rw [List.filter_cons_of_pos (by unfold nzA; simpa using h), conA_cons, conA_cons, tot_cons, tot_cons, ih]
theorem tot_adj1 {p c : ByteArray} {d : Int} {k : Ky} : ∀ {l : List Acct}, l.Pairwise (fun x y => x.party.data.toList ≠ y.party.data.toList) → (∀ a ∈ l, a.coin.data.toList = c.data.toList) → (∃ x ∈ l, x.party.data.toList = p.data.toList) → tot (conA (l.map (adj1 p d))) k = tot (conA l) k + (if (p.data.toList, c.data.toList) = k then d else 0)
  | [], _, _, ⟨x, hx, _⟩ => nomatch hx
  | a :: t, h, hc, ⟨x, hx, hp⟩ => by
    rw [List.pairwise_cons] at h
    rw [List.map_cons, conA_cons, conA_cons, tot_cons, tot_cons]
    by_cases e : a.party.data.toList = p.data.toList
    · rw [adj1_none (fun y hy => by have := h.1 y hy; rw [e] at this; exact fun e2 => this e2.symm)]
      have ek : a.key = (p.data.toList, c.data.toList) := Prod.ext e (hc a (List.mem_cons_self ..))
      have e1 : adj1 p d a = ⟨a.party, a.coin, a.amt + d⟩ := by unfold adj1; rw [if_pos e]
      rw [e1]
      have e2 : (⟨a.party, a.coin, a.amt + d⟩ : Acct).key = a.key := rfl
      have e3 : (⟨a.party, a.coin, a.amt + d⟩ : Acct).amt = a.amt + d := rfl
      rw [e2, e3, ek]
      by_cases hk : (p.data.toList, c.data.toList) = k
      · rw [if_pos hk, if_pos hk, if_pos hk]; omega
      · rw [if_neg hk, if_neg hk, if_neg hk]; omega
    · rw [tot_adj1 h.2 (fun y hy => hc y (List.mem_cons_of_mem _ hy)) (by
        rcases List.mem_cons.1 hx with rfl | hx
        · exact absurd hp e
        · exact ⟨x, hx, hp⟩)]
      have e1 : adj1 p d a = a := by unfold adj1; rw [if_neg e]
      rw [e1]; omega
theorem conM_cons (x : Mv) (m : List Mv) : conM (x :: m) = (x.kf, -x.amt) :: (x.kt, x.amt) :: conM m := by unfold conM; rw [List.flatMap_cons]; rfl
theorem Clr.tot {c : ByteArray} {l : List Acct} {ms : List Mv} (h : Clr c l ms) (k : Ky) : LfOk c l → NzL l → Go.Proofs.Ytgbiimoednmlgaa.tot (conA l) k + Go.Proofs.Ytgbiimoednmlgaa.tot (conM ms) k = 0 := by
  induction h with
  | nil => exact fun _ _ => rfl
  | step hr hp hn h ih =>
    intro hl hz
    have m := mvok hl hr hp hn (hz _ hr.mem)
    have h1 := ih (hl.next m).nz (nz_filter _)
    rename_i l0 rich poor n ms0
    rw [tot_nz] at h1
    unfold adjL at h1
    rw [tot_adj1 (adj1_dist hl.dist) (c := c) (fun a ha => by
      obtain ⟨x, hx, rfl⟩ := List.mem_map.1 ha
      rw [adj1_coin]; exact hl.coin x hx) ⟨adj1 rich.party (-n) poor, List.mem_map.2 ⟨poor, m.hp, rfl⟩, by rw [adj1_party]⟩, tot_adj1 hl.dist hl.coin ⟨rich, m.hr, rfl⟩] at h1
    rw [conM_cons, tot_cons, tot_cons]
    show _ + ((if (rich.party.data.toList, c.data.toList) = k then -n else 0) + ((if (poor.party.data.toList, c.data.toList) = k then n else 0) + _)) = 0
    omega
theorem Clr.coins {c : ByteArray} {l : List Acct} {ms : List Mv} (h : Clr c l ms) (k : Ky) (hk : k.2 ≠ c.data.toList) : Go.Proofs.Ytgbiimoednmlgaa.tot (conM ms) k = 0 := by
  induction h with
  | nil => rfl
  | step hr hp hn h ih =>
    rw [conM_cons, tot_cons, tot_cons, ih, if_neg (fun e => hk (by rw [← e]; rfl)), if_neg (fun e => hk (by rw [← e]; rfl))]; rfl
theorem Clr.may {c : ByteArray} {l : List Acct} {ms : List Mv} (h : Clr c l ms) : LfOk c l → NzL l → (∀ a ∈ l, nmd a.party = true) → nmd c = true → ms.all mayM = true := by
  induction h with
  | nil => exact fun _ _ _ _ => rfl
  | step hr hp hn h ih =>
    intro hl hz hnm hc
    have m := mvok hl hr hp hn (hz _ hr.mem)
    rw [List.all_cons, ih (hl.next m).nz (nz_filter _) (fun a ha => by
      have := (List.mem_filter.1 ha).1
      rw [adjL_map] at this
      obtain ⟨x, hx, rfl⟩ := List.mem_map.1 this
      rw [adj1_party, adj1_party]; exact hnm x hx) hc, Bool.and_true]
    have h1 := m.pos
    have h2 := m.neg
    have h3 := m.hn
    unfold mayM
    rw [hnm _ m.hr, hnm _ m.hp, hc, decide_eq_true (m.ne hl.dist), decide_eq_true (show (1 : Int) ≤ _ by dsimp only; omega)]; rfl
/-- Where the program's clearing stands. -/
structure ClSt (c : ByteArray) (left0 left : List Acct) (out : List Mv) : Prop where
  lf : LfOk c left
  nz : NzL left
  st : ∀ ms, Clr c left ms → Clr c left0 (out ++ ms)
  ok : ∀ x ∈ out, MvOk x
  len : out.length + left.length ≤ left0.length
theorem ClSt.start {c : ByteArray} {left0 : List Acct} (h : LfOk c left0) (hz : NzL left0) : ClSt c left0 left0 [] := ⟨h, hz, fun ms h => h, (fun x h => nomatch h), by simp⟩
theorem mv_okL {c : ByteArray} {l : List Acct} (h : LfOk c l) (hc : c.size ≤ maxLen) {rich poor : Acct} {n : Int} (m : MvOkL l rich poor n) : MvOk ⟨rich.party, poor.party, c, n⟩ := by
  have hr := h.ok _ m.hr
  have hp := h.ok _ m.hp
  have h1 := m.pos
  have h2 := m.neg
  have h3 := m.hn
  have h4 : I64 rich.amt := hr.amt
  unfold I64 at h4
  exact ⟨hr.party, hp.party, hc, by show I64 n; unfold I64; omega⟩
theorem ClSt.next {c : ByteArray} {left0 left : List Acct} {out : List Mv} (h : ClSt c left0 left out) (hc : c.size ≤ maxLen) {rich poor : Acct} {n : Int} (hr : ExSt 1 left left.length rich) (hp : ExSt (-1) left left.length poor) (hn : n = min rich.amt (-poor.amt)) : ClSt c left0 ((adjL left rich poor n).filter nzA) (out ++ [⟨rich.party, poor.party, c, n⟩]) := by
  have m := mvok h.lf hr hp hn (h.nz _ hr.mem)
  refine ⟨(h.lf.next m).nz, nz_filter _, fun ms hms => ?_, fun x hx => ?_, ?_⟩
  · rw [List.append_assoc]
    exact h.st _ (.step hr hp hn hms)
  · rcases List.mem_append.1 hx with hx | hx
    · exact h.ok x hx
    · rw [List.mem_singleton] at hx; subst hx
      exact mv_okL h.lf hc m
  · have h1 := adjL_lt h.lf m
    have h2 := h.len
    rw [List.length_append]
    show out.length + 1 + _ ≤ _
    omega
/-- Where the document's clearing stands: accounts at nought stay. -/
structure RcSt (c : ByteArray) (left0 l : List Acct) (out : List Mv) (r : Nat) : Prop where
  lf : LfOk c l
  st : ∀ ms, Clr c (l.filter nzA) ms → Clr c left0 (out ++ ms)
  ok : ∀ x ∈ out, MvOk x
  cnt : (l.filter nzA).length ≤ r
  len : out.length + (l.filter nzA).length ≤ left0.length
theorem RcSt.start {c : ByteArray} {left0 : List Acct} (h : LfOk c left0) (hz : NzL left0) {r : Nat} (hr : left0.length ≤ r) : RcSt c left0 left0 [] r := ⟨h, fun ms h => by rw [nz_id hz] at h; exact h, (fun x h => nomatch h), by rw [nz_id hz]; exact hr, by rw [nz_id hz]; simp⟩
theorem RcSt.next {c : ByteArray} {left0 l : List Acct} {out : List Mv} {r : Nat} (h : RcSt c left0 l out (r + 1)) (hc : c.size ≤ maxLen) {rich poor : Acct} {n : Int} (hr : ExSt 1 l l.length rich) (hp : ExSt (-1) l l.length poor) (hn : n = min rich.amt (-poor.amt)) (h0 : rich.amt ≠ 0) : RcSt c left0 (adjL l rich poor n) (out ++ [⟨rich.party, poor.party, c, n⟩]) r ∧ MvOkL l rich poor n := by
  have m := mvok h.lf hr hp hn h0
  have h1 := m.pos
  have h2 := m.neg
  have hlt := adjL_lt h.lf.nz m.nz
  rw [← adjL_nz h.lf m] at hlt
  refine ⟨⟨h.lf.next m, fun ms hms => ?_, fun x hx => ?_, ?_, ?_⟩, m⟩
  · rw [List.append_assoc]
    refine h.st _ (.step (hr.nz h0) (hp.nz (by omega)) hn ?_)
    rw [← adjL_nz h.lf m]; exact hms
  · rcases List.mem_append.1 hx with hx | hx
    · exact h.ok x hx
    · rw [List.mem_singleton] at hx; subst hx
      exact mv_okL h.lf hc m
  · have := h.cnt
    omega
  · have h3 := h.len
    rw [List.length_append]
    show out.length + 1 + _ ≤ _
    omega
theorem RcSt.fin {c : ByteArray} {left0 l : List Acct} {out : List Mv} {r : Nat} (h : RcSt c left0 l out r) (h0 : l.filter nzA = []) : Clr c left0 out := by
  have := h.st [] (by rw [h0]; exact .nil)
  rw [List.append_nil] at this; exact this
theorem RcSt.fin0 {c : ByteArray} {left0 l : List Acct} {out : List Mv} {r : Nat} (h : RcSt c left0 l out r) {rich : Acct} (hr : ExSt 1 l l.length rich) (h0 : rich.amt = 0) : Clr c left0 out := by
  refine h.fin (List.filter_eq_nil_iff.2 (fun a ha => ?_))
  have := (h.lf.rich hr).resolve_left (by omega) a ha
  unfold nzA; simp [this]
/-- The accounts of a currency. -/
def coinF (c : ByteArray) (l : List Acct) : List Acct := l.filter (fun x => !pC c x)
theorem coinF_mem {c : ByteArray} {l : List Acct} {a : Acct} : a ∈ coinF c l ↔ a ∈ l ∧ a.coin.data.toList = c.data.toList := by
  unfold coinF pC
  rw [List.mem_filter, Bool.not_not, decide_eq_true_iff]
theorem coinF_sum (c : ByteArray) (l : List Acct) : sumA (coinF c l) = coinA l c.data.toList := by
  unfold sumA coinF coinA
  congr 2
  refine List.filter_congr (fun a _ => ?_)
  unfold pC
  rw [Bool.not_not]
  by_cases h : a.coin.data.toList = c.data.toList
  · rw [decide_eq_true h, eq_comm]
    show (a.coin.data.toList == c.data.toList) = true
    rw [h]; exact beq_self_eq_true _
  · rw [decide_eq_false h, eq_comm]
    show (a.coin.data.toList == c.data.toList) = false
    exact beq_eq_false_iff_ne.2 h
theorem coinF_ok {c : ByteArray} {l : List Acct} (h : evenA l = true) (hok : ∀ a ∈ l, AcctOk a) : LfOk c (coinF c l) ∧ NzL (coinF c l) := by
  unfold evenA at h
  rw [Bool.and_eq_true] at h
  obtain ⟨h1, h2⟩ := h
  obtain ⟨h3, h4⟩ := rightA_iff.1 h1
  refine ⟨⟨fun a ha => hok a (coinF_mem.1 ha).1, fun a ha => (coinF_mem.1 ha).2, ?_, ?_⟩, fun a ha => ?_⟩
  · have h5 : (coinF c l).Pairwise (fun x y => klt x.key y.key) := List.Pairwise.sublist List.filter_sublist h4
    rw [List.pairwise_iff_getElem] at h5 ⊢
    intro i j hi hj hij e
    have h6 := h5 i j hi hj hij
    have e1 := (coinF_mem.1 (List.getElem_mem hi)).2
    have e2 := (coinF_mem.1 (List.getElem_mem hj)).2
    have : (coinF c l)[i].key = (coinF c l)[j].key := Prod.ext e (e1.trans e2.symm)
    rw [this] at h6
    exact klt_irrefl _ h6
  · rw [coinF_sum]
    cases he : coinF c l with
    | nil => rw [← coinF_sum, he]; rfl
    | cons a t =>
      have ha : a ∈ coinF c l := by rw [he]; exact List.mem_cons_self ..
      obtain ⟨ha1, ha2⟩ := coinF_mem.1 ha
      have := List.all_eq_true.1 h2 a ha1
      rw [decide_eq_true_iff, ha2] at this
      exact this
  · have := h3 a (coinF_mem.1 ha).1
    unfold okA at this
    rw [Bool.and_eq_true, decide_eq_true_iff] at this
    exact this.2
end Go.Proofs.Ytgbiimoednmlgaa
