/- A part of the proof: ToS, LvT, Open, OpenF, one behind another. -/
import Derived.Test.YtmiinmndbkdjbaaGreatMTA
import Derived.Test.YtmiinmndbkdjbaaGreatMTB
import Derived.Test.YtmiinmndbkdjbaaGreatMTC
import Derived.Test.YtmiinmndbkdjbaaGreatMTD
import Derived.Test.YtmiinmndbkdjbaaGreatMTE
import Derived.Test.YtmiinmndbkdjbaaGreatMTF
import Derived.Test.YtmiinmndbkdjbaaGreatMTG
import Derived.Test.YtmiinmndbkdjbaaGreatMTH
import Derived.Test.YtmiinmndbkdjbaaGreatMTI
import Derived.Test.YtmiinmndbkdjbaaGreatMTJ
import Derived.Test.YtmiinmndbkdjbaaGreatMTK
import Derived.Test.YtmiinmndbkdjbaaGreatMTL
import Derived.Test.YtmiinmndbkdjbaaGreatMTM
import Derived.Test.YtmiinmndbkdjbaaGreatMTN
import Derived.Test.YtmiinmndbkdjbaaGreatMTO
import Derived.Test.YtmiinmndbkdjbaaGreatMTQ
import Derived.Test.YtmiinmndbkdjbaaGreatMTR
import Derived.Test.YtmiinmndbkdjbaaGreatMTS
import Derived.Test.YtmiinmndbkdjbaaGreatMTT
import Derived.BigQuiet
import Derived.WalkKit
import Derived.ProofKit
import Derived.OpenShut
import Derived.ShutString
import Derived.ChangeOld
import Derived.Below
import Derived.Deep.Slices
import Derived.Deep.Fields
import Derived.ChangeSame
/- The document's Total: the currencies in order, walked. -/
namespace Go.Proofs.YtmiinmndbkdjbaaGreat
set_option linter.unusedVariables false
set_option linter.unusedSimpArgs false
open Go.RowKit Go.ChangeShapes
theorem insT_len {s : Tx} {l : List Tx} : (insL s l).length ≤ l.length + 1 := by
  unfold insL
  split
  · omega
  · have := congrArg List.length (List.take_append_drop (posL s l) l)
    simp only [List.length_append, List.length_cons] at this ⊢
    omega
theorem putT_len : ∀ (ns : List ByteArray) (l : List Tx), (putL l ns).length ≤ l.length + ns.length
  | [], l => by simp [putL]
  | n :: t, l => by
    have h : putL l (n :: t) = putL (insL n.data.toList l) t := rfl
    have h1 := putT_len t (insL n.data.toList l)
    have h2 := @insT_len n.data.toList l
    rw [h, List.length_cons]; omega
theorem posT_le (s : Tx) (l : List Tx) : posL s l ≤ l.length := by unfold posL; exact (List.takeWhile_prefix _).length_le
theorem posT_lt {s : Tx} : ∀ {l : List Tx} {k : Nat} {x : Tx}, k < posL s l → l[k]? = some x → x < s
  | [], k, x, h, _ => absurd h (by simp [posL])
  | y :: t, k, x, h, hx => by
    unfold posL at h
    rw [List.takeWhile_cons] at h
    by_cases hy : ltB y s = true
    · rw [if_pos hy] at h
      cases k with
      | zero => injection hx with hx; subst hx; exact of_decide_eq_true hy
      | succ k =>
        refine posT_lt (s := s) (l := t) (k := k) ?_ hx
        unfold posL
        rw [List.length_cons] at h; omega
    · rw [if_neg hy] at h
      exact absurd h (by simp)
theorem posT_end {s : Tx} : ∀ {l : List Tx} {x : Tx}, l[posL s l]? = some x → ¬ x < s
  | [], x, h => by simp at h
  | y :: t, x, h => by
    unfold posL at h
    rw [List.takeWhile_cons] at h
    by_cases hy : ltB y s = true
    · rw [if_pos hy, List.length_cons, List.getElem?_cons_succ] at h
      exact posT_end (s := s) (l := t) h
    · rw [if_neg hy] at h
      injection h with h
      subst h
      exact fun hlt => hy (decide_eq_true hlt)
/-- Where no more is less: the place. -/
theorem posL_at {s : Tx} : ∀ {l : List Tx} {k : Nat}, k ≤ l.length → (∀ (i : Nat) x, i < k → l[i]? = some x → x < s) → (∀ x, l[k]? = some x → ¬ x < s) → posL s l = k
  | [], k, hk, _, _ => by have : k = 0 := by simpa using hk
                          subst this; rfl
  | y :: t, k, hk, h1, h2 => by
    unfold posL
    rw [List.takeWhile_cons]
    cases k with
    | zero =>
      have := h2 y rfl
      rw [if_neg (by unfold ltB; simpa using this)]; rfl
    | succ k =>
      have hy := h1 0 y (by omega) rfl
      rw [if_pos (show ltB y s = true from decide_eq_true hy)]
      have := posL_at (s := s) (l := t) (k := k) (by simpa using hk) (fun i x hi hx => h1 (i + 1) x (by omega) hx) (fun x hx => h2 x hx)
      unfold posL at this
      rw [List.length_cons, this]
theorem less_t (a b : ByteArray) : Op.bytesLess a.toList b.toList = decide (a.data.toList < b.data.toList) := by
  rw [ByteArray.toList_eq, ByteArray.toList_eq, Go.Proofs.bytesLess_eq]
theorem same_t (a b : ByteArray) : (a.toList == b.toList) = decide (a.data.toList = b.data.toList) := by
  rw [ByteArray.toList_eq, ByteArray.toList_eq]
  by_cases h : a.data.toList = b.data.toList
  · rw [decide_eq_true h, beq_iff_eq]; exact h
  · rw [decide_eq_false h, beq_eq_false_iff_ne]; exact h
/-- A list of currencies in memory: none has no address. -/
def CoS (W : World) (l : List Tx) (la : Option Addr) (lc : Nat) : Prop := SlR strK W [] l la l.length lc ∧ (l.length = 0 → la = none ∧ lc = 0)
theorem CoS.below {W W' : World} {l : List Tx} {la : Option Addr} {lc : Nat} (h : CoS W l la lc) (b : Below W.heap.size W W') : CoS W' l la lc := ⟨h.1.kept (Kept.of_below b []), h.2⟩
/-- The currencies of the first flows. -/
def cns (fl : List Flw) (i : Nat) : List Tx := putL [] ((fl.take i).map Flw.coin)
theorem cns_next {fl : List Flw} {i : Nat} {f : Flw} (h : fl[i]? = some f) : cns fl (i + 1) = insL f.coin.data.toList (cns fl i) := by
  unfold cns
  rw [take_snoc h, List.map_append, putL_append]; rfl
theorem cns_len (fl : List Flw) (i : Nat) : (cns fl i).length ≤ i := by
  have h := putT_len ((fl.take i).map Flw.coin) []
  rw [List.length_map, List.length_take] at h
  unfold cns
  have h0 : ([] : List Tx).length = 0 := rfl
  omega
theorem cns_srt {fl : List Flw} {i : Nat} (h : fl.length ≤ i) : SrtOf (cns fl i) fl := by
  unfold cns
  rw [List.take_of_length_le h]
  refine ⟨putL_rising _ _ List.Pairwise.nil, fun t => ?_⟩
  rw [putL_mem]
  constructor
  · rintro (h | ⟨s, hs, rfl⟩)
    · cases h
    · obtain ⟨f, hf, rfl⟩ := List.mem_map.1 hs
      exact ⟨f, hf, rfl⟩
  · rintro ⟨f, hf, rfl⟩
    exact .inr ⟨f.coin, List.mem_map.2 ⟨f, hf, rfl⟩, rfl⟩
theorem insL_in {s : Tx} {l : List Tx} (h : l[posL s l]? = some s) : insL s l = l := by unfold insL; rw [if_pos h]
theorem insL_new {s : Tx} {l : List Tx} (h : l[posL s l]? ≠ some s) : insL s l = l.take (posL s l) ++ s :: l.drop (posL s l) := by unfold insL; rw [if_neg h]
theorem co_cells {W : World} {l : List Tx} {b o lc : Nat} (h : CoS W l (some ⟨b, o, none⟩) lc) : ∀ j u, (l.map encStr)[j]? = some u → W.cell? ((⟨b, o, none⟩ : Addr).add j) = some u := str_cells h.1
theorem enc_str (s : ByteArray) : encStr s.data.toList = .string s := by obtain ⟨⟨x⟩⟩ := s; rfl
theorem Sm.bigT {n : Nat} (h : n ≤ 340282366920938463463374607431768211456) : Sm n := by
  refine Sm.of (Nat.lt_of_lt_of_le ?_ (Big.pw_mono (show 9 ≤ 1000000 by decide)))
  show n < 65536 ^ 9
  omega
def BdT (z : Int) (j : Nat) : Prop := z.natAbs ≤ 9223372036854775808 * (j + 1)
theorem BdT.add {z n : Int} {j : Nat} (h : BdT z j) (hn : I64 n) : BdT (z + n) (j + 1) := by unfold BdT at *; unfold I64 at hn; omega
theorem BdT.up {z : Int} {j k : Nat} (h : BdT z j) (hk : j ≤ k) : BdT z k := by
  unfold BdT at *
  exact Nat.le_trans h (Nat.mul_le_mul_left _ (by omega))
theorem BdT.sm {z : Int} {j : Nat} (h : BdT z j) (hj : j ≤ 3000) : Sm z.natAbs := by
  unfold BdT at h
  exact Sm.bigT (Nat.le_trans h (Nat.le_trans (Nat.mul_le_mul_left _ (show j + 1 ≤ 3001 by omega)) (by decide)))
theorem fits_smT (z : Int) : smB z = fits64 z := by
  unfold smB fits64
  by_cases h : -9223372036854775808 ≤ z ∧ z ≤ 9223372036854775807
  · rw [decide_eq_true h, decide_eq_true h.1, decide_eq_true h.2]; rfl
  · rw [decide_eq_false h]
    by_cases h1 : -9223372036854775808 ≤ z
    · rw [decide_eq_true h1, decide_eq_false (fun h2 => h ⟨h1, h2⟩)]; rfl
    · rw [decide_eq_false h1]; rfl
theorem nums_nilT (w : World) : Nums w none 0 0 [] := ⟨rfl, Nat.le_refl _, by decide, fun h => absurd h (by omega)⟩
/-- The number that grows, beside the row that grows. -/
structure PtSt (w1 wr : World) (v : Value) (n : Nat) (xs : List Value) (g : Nat) (z : Int) : Prop where
  bel : Below w1.heap.size w1 wr
  row : wr.ownsRow w1.heap.size 67 2 v n xs
  lo : w1.heap.size ≤ g
  big : ∃ b a len cap, Mem.Blk wr g 122 #[.bool b, .slice a len cap] ∧ BigR wr (.agg #[.bool b, .slice a len cap]) z
theorem grown_setT (w : World) (g j : Nat) (u : Value) : w.grownBy (w.setCell ⟨g, j, none⟩ u) (some g) :=
  ⟨rfl, rfl, rfl, by simp [World.setCell], fun i hi hne => Below.heap_setCell w ⟨g, j, none⟩ u i (fun e => hne (by rw [e]))⟩
theorem row_farT {w : World} {base sz n g : Nat} {t e : TypeId} {v : Value} {xs : List Value} {cs : Array Value} (h : w.ownsRow base e sz v n xs) (hb : Mem.Blk w g t cs) (ht : t ≠ e) (j : Nat) (u : Value) : (w.setCell ⟨g, j, none⟩ u).ownsRow base e sz v n xs :=
  h.kept (grown_setT w g j u) (by
    cases hv : v.ownBlock with
    | none => exact .inl rfl
    | some k => exact .inr (fun e2 => blkRowT hb h ht (hv.trans e2)))
theorem PtSt.below {w1 wr w' : World} {v : Value} {n : Nat} {xs : List Value} {g : Nat} {z : Int} (h : PtSt w1 wr v n xs g z) (b : Below wr.heap.size wr w') : PtSt w1 w' v n xs g z := by
  obtain ⟨bb, a, len, cap, h1, h2⟩ := h.big
  exact ⟨h.bel.trans (b.mono h.bel.size), own_below h.row b, h.lo, bb, a, len, cap, h1.below b, h2.below b⟩
theorem PtSt.put {w1 wr : World} {v : Value} {n : Nat} {xs : List Value} {g : Nat} {z z' : Int} (h : PtSt w1 wr v n xs g z) {r : Value} (hr : BigR wr r z') : ∃ b a len cap, r = .agg #[.bool b, .slice a len cap] ∧ PtSt w1 ((wr.setCell ⟨g, 0, none⟩ (.bool b)).setCell ⟨g, 1, none⟩ (.slice a len cap)) v n xs g z' := by
  obtain ⟨bb, aa, ll, cc, h1, h2⟩ := h.big
  have hr3 := hr
  obtain ⟨mm, rfl, a, len, cap, l, rfl, q1, q2, q3⟩ := hr
  refine ⟨_, a, len, cap, rfl, (h.bel.setCell h.lo _).setCell h.lo _, row_farT (row_farT h.row h1 (by decide) _ _) (h1.set_ 0 _) (by decide) _ _, h.lo, _, a, len, cap, (h1.set_ 0 _).set_ 1 _, hr3.put2 h1⟩
theorem sumF_take {l : List Flw} {k : Nat} {f : Flw} (h : l[k]? = some f) (t : Tx) : (amtF (l.take (k + 1)) t).sum = (amtF (l.take k) t).sum + (if f.coin.data.toList = t then f.amt else 0) := by
  rw [amtF_take h, List.sum_append]
  split <;> simp
set_option maxRecDepth 100000 in
set_option maxHeartbeats 8000000 in
theorem rtotal_any (fl : List Flw) (a : Option Addr) (len cap : Nat) (w : World) (h : SlR flK w [] fl a len cap) (hlen : len ≤ 1000) :
    Calls Tryz.prog 22 #[.slice a len cap] w fun x w' => ToR (fun b => .bool b) w' fl x ∧ Below w.heap.size w w' := by
  have HS := Lib.hid h
  have HL := Lib.hid h.facts.1
  have HN := Lib.hid hlen
  have HFO := Lib.hid (fl_ok h)
  clear h hlen
  go_enter Tryz.func22, Tryz.ntmps22
  go_wp2_with fail
  go_loopw [4, 5] (fun v4 v5 wr => ∃ (i : Nat) (la : Option Addr) (lc : Nat), v4 = .slice la (cns fl i).length lc ∧ v5 = .int .i64 (i : Nat) ∧ i ≤ len ∧ Hid (CoS wr (cns fl i) la lc ∧ Below w.heap.size w wr)) (fun _ v5 _ => len - (intOf v5).toNat)
  case atStart => exact ⟨0, none, 0, rfl, rfl, Nat.zero_le _, ⟨SlR.nil _ _ _, fun _ => ⟨rfl, rfl⟩⟩, Below.refl _ _⟩
  case round =>
    obtain ⟨i, la, lc, rfl, rfl, hi, HC⟩ := hrel
    obtain ⟨l, hl⟩ : ∃ l, l = cns fl i := ⟨_, rfl⟩
    have HLC := Lib.hid hl
    have HLI : Hid (l.length ≤ i) := by show _ ≤ _; rw [hl]; exact cns_len fl i
    rw [← hl] at HC ⊢
    clear hl
    obtain ⟨ln, hln⟩ : ∃ n, n = l.length := ⟨_, rfl⟩
    have HLN := Lib.hid hln
    rw [← hln] at HLI ⊢
    clear hln
    by_cases hit : i < len
    · have hit' : (i : Int) < (len : Int) := by omega
      have i0 : (0 : Int) ≤ (i : Int) := by omega
      have i1 : (i : Int) ≤ 1000 := by have := HN.out; omega
      obtain ⟨b, o, f, ha, hf, hok, u0, u1⟩ := fl_at HS.out i hit
      have HA := Lib.hid ha
      subst ha
      have HU0 := Lib.hid u0
      have HNX := Lib.hid (cns_next hf)
      rw [← HLC.out] at HNX
      have HOK := Lib.hid hok
      have HIT := Lib.hid hit
      obtain ⟨p, hp⟩ : ∃ p, p = posL f.coin.data.toList l := ⟨_, rfl⟩
      have HP := Lib.hid hp
      have HPN : Hid (p ≤ ln) := by show _ ≤ _; rw [hp, HLN.out]; exact posT_le _ _
      clear u0 u1 hf hok hit hp
      go_wp2_with fail
      go_loopw [6] (fun v6 wr => ∃ (k : Nat), v6 = .int .i64 (k : Nat) ∧ k ≤ p ∧ Hid (CoS wr l la lc ∧ Below w.heap.size w wr)) (fun v6 _ => p - (intOf v6).toNat)
      case atStart => exact ⟨0, rfl, Nat.zero_le _, HC.out⟩
      case round =>
        clear HC
        rename World => w2
        obtain ⟨k, rfl, hk, HC⟩ := hrel
        have k0 : (0 : Int) ≤ (k : Int) := by omega
        have k1 : (k : Int) ≤ 1000 := by have := HPN.out; have := HLI.out; omega
        have u0 : w2.cell? ⟨b, o + i * 2, none⟩ = some (.string f.coin) := cellT HU0.out HC.out.2
        by_cases hkp : k < p
        · have hkl : k < ln := by have := HPN.out; omega
          have hkl' : (k : Int) < (ln : Int) := by omega
          have hkd : decide ((k : Int) < (ln : Int)) = true := decide_eq_true hkl'
          have hkd2 : decide (k < ln) = true := decide_eq_true hkl
          obtain ⟨cb, co, s, hla, hs, c0⟩ := strK_at HC.out.1.1 k (by rw [← HLN.out]; exact hkl)
          have HLA := Lib.hid hla
          subst hla
          have hlt : Op.bytesLess (⟨s.toArray⟩ : ByteArray).toList f.coin.toList = true := by
            rw [less_t]
            refine decide_eq_true ?_
            have h := posT_lt (l := l) (k := k) (x := s) (by rw [← HP.out]; exact hkp) hs
            simpa using h
          generalize (⟨s.toArray⟩ : ByteArray) = t at *
          clear hs
          go_upto_region 6 with (fail)
          go_quiet (fail)
          have bq : Below w2.heap.size w2 (w2.drewN nq) := below_dN (Below.refl w2.heap.size w2) nq
          replace HC := Lib.hid (⟨HC.out.1.below bq, HC.out.2.trans (bq.mono HC.out.2.size)⟩ : CoS (w2.drewN nq) l _ lc ∧ Below w.heap.size w (w2.drewN nq))
          clear bq u0 c0
          generalize w2.drewN nq = w3 at *
          go_wp2_with fail
          go_roundw
          case rel => exact ⟨k + 1, by go_num, by omega, HC.out⟩
          case measure => simp [intOf]; omega
        · obtain rfl : k = p := by omega
          by_cases hkl : k < ln
          · have hkl' : (k : Int) < (ln : Int) := by omega
            have hkd : decide ((k : Int) < (ln : Int)) = true := decide_eq_true hkl'
            have hkd2 : decide (k < ln) = true := decide_eq_true hkl
            obtain ⟨cb, co, s, hla, hs, c0⟩ := strK_at HC.out.1.1 k (by rw [← HLN.out]; exact hkl)
            have HLA := Lib.hid hla
            subst hla
            have hlt : Op.bytesLess (⟨s.toArray⟩ : ByteArray).toList f.coin.toList = false := by
              rw [less_t]
              refine decide_eq_false ?_
              have h := posT_end (s := f.coin.data.toList) (l := l) (x := s) (by rw [← HP.out]; exact hs)
              simpa using h
            have HSK := Lib.hid hs
            have HC0 := Lib.hid c0
            by_cases hse : s = f.coin.data.toList
            · have hbe : ((⟨s.toArray⟩ : ByteArray).toList == f.coin.toList) = true := by
                rw [same_t]; refine decide_eq_true ?_; simpa using hse
              have HIN : Hid (cns fl (i + 1) = l) := by
                show _ = _
                rw [HNX.out]
                exact insL_in (by rw [← HP.out, hs, hse])
              generalize (⟨s.toArray⟩ : ByteArray) = t at *
              clear hs HSK hse
              go_upto_region 6 with (fail)
              go_quiet (fail)
              have bq : Below w2.heap.size w2 (w2.drewN nq) := below_dN (Below.refl w2.heap.size w2) nq
              replace HC := Lib.hid (⟨HC.out.1.below bq, HC.out.2.trans (bq.mono HC.out.2.size)⟩ : CoS (w2.drewN nq) l _ lc ∧ Below w.heap.size w (w2.drewN nq))
              have HC03 := Lib.hid (cellT HC0.out bq)
              clear bq u0 c0 HC0
              generalize w2.drewN nq = w3 at *
              generalize nq = nqA at *
              have u0 : w3.cell? ⟨b, o + i * 2, none⟩ = some (.string f.coin) := cellT HU0.out HC.out.2
              have c0 := HC03.out
              go_upto_region 8 with (fail)
              go_quiet (fail)
              have bq : Below w3.heap.size w3 (w3.drewN nq) := below_dN (Below.refl w3.heap.size w3) nq
              replace HC := Lib.hid (⟨HC.out.1.below bq, HC.out.2.trans (bq.mono HC.out.2.size)⟩ : CoS (w3.drewN nq) l _ lc ∧ Below w.heap.size w (w3.drewN nq))
              clear bq u0 c0 HC03
              generalize w3.drewN nq = w4 at *
              go_wp2_with fail
              go_roundw
              case rel => exact ⟨i + 1, some ⟨cb, co, none⟩, lc, by rw [HIN.out, ← HLN.out], by go_num, by have := HIT.out; omega, by rw [HIN.out]; exact HC.out⟩
              case measure => simp [intOf]; have := HIT.out; omega
            · have hbe : ((⟨s.toArray⟩ : ByteArray).toList == f.coin.toList) = false := by
                rw [same_t]; refine decide_eq_false ?_
                intro h; exact hse (by simpa using h)
              have HIN : Hid (cns fl (i + 1) = l.take k ++ f.coin.data.toList :: l.drop k) := by
                show _ = _
                rw [HNX.out, HP.out]
                exact insL_new (by rw [← HP.out, hs]; exact fun h => hse (Option.some.inj h))
              generalize (⟨s.toArray⟩ : ByteArray) = t at *
              clear hs HSK hse
              go_upto_region 6 with (fail)
              go_quiet (fail)
              have bq : Below w2.heap.size w2 (w2.drewN nq) := below_dN (Below.refl w2.heap.size w2) nq
              replace HC := Lib.hid (⟨HC.out.1.below bq, HC.out.2.trans (bq.mono HC.out.2.size)⟩ : CoS (w2.drewN nq) l _ lc ∧ Below w.heap.size w (w2.drewN nq))
              have HC03 := Lib.hid (cellT HC0.out bq)
              clear bq u0 c0 HC0
              generalize w2.drewN nq = w3 at *
              generalize nq = nqA at *
              have u0 : w3.cell? ⟨b, o + i * 2, none⟩ = some (.string f.coin) := cellT HU0.out HC.out.2
              have c0 := HC03.out
              go_upto_region 8 with (fail)
              go_quiet (fail)
              have bq : Below w3.heap.size w3 (w3.drewN nq) := below_dN (Below.refl w3.heap.size w3) nq
              replace HC := Lib.hid (⟨HC.out.1.below bq, HC.out.2.trans (bq.mono HC.out.2.size)⟩ : CoS (w3.drewN nq) l _ lc ∧ Below w.heap.size w (w3.drewN nq))
              clear bq u0 c0 HC03
              generalize w3.drewN nq = w4 at *
              clear hlt hbe
              have hlc : ln ≤ lc := by have := HC.out.1.1.facts.2.1; rw [← HLN.out] at this; exact this
              have hk0 : k ≤ lc := by omega
              have hkc : (k : Int) ≤ (lc : Int) := by omega
              have hne : ¬ lc = k := by omega
              have hne2 : ¬ (lc : Int) = (k : Int) := by omega
              go_upto_region 10 with (fail)
              have HN2 : Hid (0 < k → ∃ ad : Addr, (some ⟨cb, co, none⟩ : Option Addr) = some ad ∧ ∀ j u, ((l.take k).map encStr)[j]? = some u → w4.cell? (ad.add j) = some u) := by
                intro _
                refine ⟨_, rfl, fun j u hu => co_cells HC.out.1 j u ?_⟩
                rw [List.map_take] at hu
                have hj := (List.getElem?_eq_some_iff.1 hu).1
                rw [List.getElem?_take_of_lt (by simp at hj; omega)] at hu
                exact hu
              have HN1 : Hid (((l.take k).map encStr).length = k * 1) := by
                show _ = _
                rw [List.length_map, List.length_take, ← HLN.out, Nat.mul_one]; omega
              have hk9 : k ≤ 1000 := by omega
              go_upto_region 11 with (at_builtin; refine ap_rowZ infoS Tryz.underlying114 rfl (by decide) rfl (.tmp 54) (.tmp 57) rfl rfl (World.ownsRow_nil w4 w4.heap.size 9 1) (Nat.le_refl _) (some ⟨cb, co, none⟩) k _ ((l.take k).map encStr) rfl HN1.out HN2.out (enc_one _) (by unfold maxLen; omega) (by omega) ?_; intro v' W2 o' g' h'; have HO : Hid (W2.ownsRow w4.heap.size 9 1 v' (0 + k) ([] ++ (l.take k).map encStr)) := o'; have HG : Hid (w4.grownBy W2 none) := g'; clear o' g' h')
              clear HN1 HN2
              have hb2 : Below w4.heap.size w4 W2 := (Below.refl w4.heap.size w4).grown HG.out (Nat.le_refl _) (fun b hb => by cases hb)
              have hbn := below_nT W2 (.cells #[.string f.coin] 9)
              have HO2 := Lib.hid (own_below HO.out hbn)
              have HB2 := Lib.hid (hb2.trans (hbn.mono hb2.size))
              have u0 : W2.cell? ⟨b, o + i * 2, none⟩ = some (.string f.coin) := cellT HU0.out (HC.out.2.trans (hb2.mono HC.out.2.size))
              clear HO HG hb2 hbn
              go_upto_region 12 with (at_builtin; refine ap_row infoS Tryz.underlying114 rfl (by decide) rfl (.tmp 59) (.tmp 65) rfl rfl HO2.out HB2.out.size ⟨W2.heap.size, 0, none⟩ 1 1 [.string f.coin] rfl rfl (lit_cells_at W2 #[.string f.coin] 9 _ rfl) (by simp [Value.oneCell']) (by unfold maxLen; omega) (by omega) ?_; intro v3 W3 o' g' h'; have HO : Hid (W3.ownsRow w4.heap.size 9 1 v3 (0 + k + 1) ([] ++ (l.take k).map encStr ++ [.string f.coin])) := o'; have HG : Hid ((W2.alloc (.cells #[.string f.coin] 9)).grownBy W3 _) := g'; clear o' g' h')
              have hb3 := HB2.out.grown HG.out HB2.out.size (fun b hb => (own_lt HO2.out hb).1)
              have LS3 := Lib.hid (HC.out.1.below hb3)
              have HB3 := Lib.hid hb3
              clear HO2 HB2 HG hb3 u0
              have HN2 : Hid (0 < ln - k → ∃ ad : Addr, (some ⟨cb, co + k, none⟩ : Option Addr) = some ad ∧ ∀ j u, ((l.drop k).map encStr)[j]? = some u → W3.cell? (ad.add j) = some u) := by
                intro _
                refine ⟨_, rfl, fun j u hu => ?_⟩
                have h := co_cells LS3.out (k + j) u (by rw [← List.getElem?_drop, ← List.map_drop]; exact hu)
                rw [Mem.add_off] at h ⊢
                rw [Nat.add_assoc]; exact h
              have HN1 : Hid (((l.drop k).map encStr).length = (ln - k) * 1) := by
                show _ = _
                rw [List.length_map, List.length_drop, ← HLN.out, Nat.mul_one]; first | done | omega
              have hl9 : ln ≤ 1000 := by have := HLI.out; omega
              go_wp2_with (at_builtin; refine ap_rowZ infoS Tryz.underlying114 rfl (by decide) rfl (.tmp 67) (.tmp 70) rfl rfl HO.out HB3.out.size (some ⟨cb, co + k, none⟩) (ln - k) _ ((l.drop k).map encStr) rfl HN1.out HN2.out (enc_one _) (by unfold maxLen; omega) (by omega) ?_; intro v4 W4 o' g' h'; have HO4 : Hid (W4.ownsRow w4.heap.size 9 1 v4 (0 + k + 1 + (ln - k)) ([] ++ (l.take k).map encStr ++ [.string f.coin] ++ (l.drop k).map encStr)) := o'; have HG : Hid (W3.grownBy W4 v3.ownBlock) := g'; clear o' g' h')
              have hb4 := HB3.out.grown HG.out HB3.out.size (fun b hb => (own_lt HO.out hb).1)
              have hlen4 : (l.take k ++ f.coin.data.toList :: l.drop k).length = ln + 1 := by
                rw [List.length_append, List.length_cons, List.length_take, List.length_drop, ← HLN.out]; omega
              have hO : W4.ownsRow w4.heap.size 9 1 v4 (ln + 1) ((l.take k ++ f.coin.data.toList :: l.drop k).map encStr) := by
                have h := HO4.out
                have e : 0 + k + 1 + (ln - k) = ln + 1 := by omega
                rw [e] at h
                rw [List.map_append, List.map_cons, enc_str]
                simpa using h
              obtain ⟨a4, c4, rfl, hS4⟩ := own_strs hO hlen4 hb4 (X := []) (fun b hb => by cases hb)
              have HNL : Hid ((cns fl (i + 1)).length = ln + 1) := by show _ = _; rw [HIN.out, hlen4]
              have FIN : Hid (CoS W4 (cns fl (i + 1)) a4 c4 ∧ Below w.heap.size w W4) := by
                refine ⟨⟨?_, fun h => ?_⟩, HC.out.2.trans (hb4.mono HC.out.2.size)⟩
                · rw [HIN.out, hlen4]; exact hS4
                · rw [HNL.out] at h; omega
              clear hb4 hO hS4 HO4 HG HO HB3 HN1 HN2 LS3
              go_wp2_with fail
              go_roundw
              case rel => exact ⟨i + 1, a4, c4, by rw [HNL.out], by go_num, by have := HIT.out; omega, FIN.out⟩
              case measure => simp [intOf]; have := HIT.out; omega
          · have hkl' : ¬ (k : Int) < (ln : Int) := by omega
            obtain rfl : k = ln := by have := HPN.out; omega
            have hkd : decide ((k : Int) < (k : Int)) = false := by simp
            have hkd2 : decide (k < k) = false := by simp
            have HIN : Hid (cns fl (i + 1) = l.take k ++ f.coin.data.toList :: l.drop k) := by
              show _ = _
              rw [HNX.out]
              have h := insL_new (s := f.coin.data.toList) (l := l) (by rw [← HP.out, List.getElem?_eq_none (by rw [← HLN.out]; exact Nat.le_refl _)]; simp)
              rw [← HP.out] at h
              exact h
            have HC0 : Hid (w2.heap.size ≤ w2.heap.size) := Nat.le_refl _
            by_cases h0 : k = 0
            · subst h0
              obtain ⟨rfl, rfl⟩ := HC.out.1.2 HLN.out.symm
              go_upto_region 6 with (fail)
              go_quiet (fail)
              have bq : Below w2.heap.size w2 (w2.drewN nq) := below_dN (Below.refl w2.heap.size w2) nq
              replace HC := Lib.hid (⟨HC.out.1.below bq, HC.out.2.trans (bq.mono HC.out.2.size)⟩ : CoS (w2.drewN nq) l _ 0 ∧ Below w.heap.size w (w2.drewN nq))
              clear bq u0 HC0
              generalize w2.drewN nq = w3 at *
              generalize nq = nqA at *
              go_upto_region 8 with (fail)
              go_quiet (fail)
              have bq : Below w3.heap.size w3 (w3.drewN nq) := below_dN (Below.refl w3.heap.size w3) nq
              replace HC := Lib.hid (⟨HC.out.1.below bq, HC.out.2.trans (bq.mono HC.out.2.size)⟩ : CoS (w3.drewN nq) l _ 0 ∧ Below w.heap.size w (w3.drewN nq))
              clear bq
              generalize w3.drewN nq = w4 at *
              have hkc : (0 : Int) ≤ (0 : Int) := Int.le_refl _
              go_upto_region 10 with (fail)
              have HN2 : Hid (0 < 0 → ∃ ad : Addr, (none : Option Addr) = some ad ∧ ∀ j u, ((l.take 0).map encStr)[j]? = some u → w4.cell? (ad.add j) = some u) := fun h => absurd h (by omega)
              have HN1 : Hid (((l.take 0).map encStr).length = 0 * 1) := by
                show _ = _
                rw [List.length_map, List.length_take, ← HLN.out, Nat.mul_one]; omega
              have hk9 : 0 ≤ 1000 := by omega
              go_upto_region 11 with (at_builtin; refine ap_rowZ infoS Tryz.underlying114 rfl (by decide) rfl (.tmp 54) (.tmp 57) rfl rfl (World.ownsRow_nil w4 w4.heap.size 9 1) (Nat.le_refl _) none 0 _ ((l.take 0).map encStr) rfl HN1.out HN2.out (enc_one _) (by unfold maxLen; omega) (by omega) ?_; intro v' W2 o' g' h'; have HO : Hid (W2.ownsRow w4.heap.size 9 1 v' (0 + 0) ([] ++ (l.take 0).map encStr)) := o'; have HG : Hid (w4.grownBy W2 none) := g'; clear o' g' h')
              clear HN1 HN2
              have hb2 : Below w4.heap.size w4 W2 := (Below.refl w4.heap.size w4).grown HG.out (Nat.le_refl _) (fun b hb => by cases hb)
              have hbn := below_nT W2 (.cells #[.string f.coin] 9)
              have HO2 := Lib.hid (own_below HO.out hbn)
              have HB2 := Lib.hid (hb2.trans (hbn.mono hb2.size))
              have u0 : W2.cell? ⟨b, o + i * 2, none⟩ = some (.string f.coin) := cellT HU0.out (HC.out.2.trans (hb2.mono HC.out.2.size))
              clear HO HG hb2 hbn
              go_upto_region 12 with (at_builtin; refine ap_row infoS Tryz.underlying114 rfl (by decide) rfl (.tmp 59) (.tmp 65) rfl rfl HO2.out HB2.out.size ⟨W2.heap.size, 0, none⟩ 1 1 [.string f.coin] rfl rfl (lit_cells_at W2 #[.string f.coin] 9 _ rfl) (by simp [Value.oneCell']) (by unfold maxLen; omega) (by omega) ?_; intro v3 W3 o' g' h'; have HO : Hid (W3.ownsRow w4.heap.size 9 1 v3 (0 + 0 + 1) ([] ++ (l.take 0).map encStr ++ [.string f.coin])) := o'; have HG : Hid ((W2.alloc (.cells #[.string f.coin] 9)).grownBy W3 _) := g'; clear o' g' h')
              have hb3 := HB2.out.grown HG.out HB2.out.size (fun b hb => (own_lt HO2.out hb).1)
              have LS3 := Lib.hid (HC.out.1.below hb3)
              have HB3 := Lib.hid hb3
              clear HO2 HB2 HG hb3 u0
              have HN2 : Hid (0 < 0 → ∃ ad : Addr, (none : Option Addr) = some ad ∧ ∀ j u, ((l.drop 0).map encStr)[j]? = some u → W3.cell? (ad.add j) = some u) := fun h => absurd h (by omega)
              have HN1 : Hid (((l.drop 0).map encStr).length = 0 * 1) := by
                show _ = _
                rw [List.length_map, List.length_drop, ← HLN.out, Nat.mul_one]; first | done | omega
              have hl9 : 0 ≤ 1000 := by have := HLI.out; omega
              go_wp2_with (at_builtin; refine ap_rowZ infoS Tryz.underlying114 rfl (by decide) rfl (.tmp 67) (.tmp 70) rfl rfl HO.out HB3.out.size none 0 _ ((l.drop 0).map encStr) rfl HN1.out HN2.out (enc_one _) (by unfold maxLen; omega) (by omega) ?_; intro v4 W4 o' g' h'; have HO4 : Hid (W4.ownsRow w4.heap.size 9 1 v4 (0 + 0 + 1 + 0) ([] ++ (l.take 0).map encStr ++ [.string f.coin] ++ (l.drop 0).map encStr)) := o'; have HG : Hid (W3.grownBy W4 v3.ownBlock) := g'; clear o' g' h')
              have hb4 := HB3.out.grown HG.out HB3.out.size (fun b hb => (own_lt HO.out hb).1)
              have hlen4 : (l.take 0 ++ f.coin.data.toList :: l.drop 0).length = 0 + 1 := by
                rw [List.length_append, List.length_cons, List.length_take, List.length_drop, ← HLN.out]; omega
              have hO : W4.ownsRow w4.heap.size 9 1 v4 (0 + 1) ((l.take 0 ++ f.coin.data.toList :: l.drop 0).map encStr) := by
                have h := HO4.out
                have e : 0 + 0 + 1 + 0 = 0 + 1 := by omega
                rw [e] at h
                rw [List.map_append, List.map_cons, enc_str]
                simpa using h
              obtain ⟨a4, c4, rfl, hS4⟩ := own_strs hO hlen4 hb4 (X := []) (fun b hb => by cases hb)
              have HNL : Hid ((cns fl (i + 1)).length = 0 + 1) := by show _ = _; rw [HIN.out, hlen4]
              have FIN : Hid (CoS W4 (cns fl (i + 1)) a4 c4 ∧ Below w.heap.size w W4) := by
                refine ⟨⟨?_, fun h => ?_⟩, HC.out.2.trans (hb4.mono HC.out.2.size)⟩
                · rw [HIN.out, hlen4]; exact hS4
                · rw [HNL.out] at h; omega
              clear hb4 hO hS4 HO4 HG HO HB3 HN1 HN2 LS3
              go_wp2_with fail
              go_roundw
              case rel => exact ⟨i + 1, a4, c4, by rw [HNL.out], by go_num, by have := HIT.out; omega, FIN.out⟩
              case measure => simp [intOf]; have := HIT.out; omega
            · obtain ⟨cb, co, -, rfl, -, -⟩ := strK_at HC.out.1.1 0 (by rw [← HLN.out]; omega)
              have hlc : k ≤ lc := by have := HC.out.1.1.facts.2.1; rw [← HLN.out] at this; exact this
              have hkc : (k : Int) ≤ (lc : Int) := by omega
              go_upto_region 6 with (fail)
              go_quiet (fail)
              have bq : Below w2.heap.size w2 (w2.drewN nq) := below_dN (Below.refl w2.heap.size w2) nq
              replace HC := Lib.hid (⟨HC.out.1.below bq, HC.out.2.trans (bq.mono HC.out.2.size)⟩ : CoS (w2.drewN nq) l _ lc ∧ Below w.heap.size w (w2.drewN nq))
              clear bq u0 HC0
              generalize w2.drewN nq = w3 at *
              generalize nq = nqA at *
              go_upto_region 8 with (fail)
              go_quiet (fail)
              have bq : Below w3.heap.size w3 (w3.drewN nq) := below_dN (Below.refl w3.heap.size w3) nq
              replace HC := Lib.hid (⟨HC.out.1.below bq, HC.out.2.trans (bq.mono HC.out.2.size)⟩ : CoS (w3.drewN nq) l _ lc ∧ Below w.heap.size w (w3.drewN nq))
              clear bq
              generalize w3.drewN nq = w4 at *
              go_upto_region 10 with (fail)
              have HN2 : Hid (0 < k → ∃ ad : Addr, (some ⟨cb, co, none⟩ : Option Addr) = some ad ∧ ∀ j u, ((l.take k).map encStr)[j]? = some u → w4.cell? (ad.add j) = some u) := by
                intro _
                refine ⟨_, rfl, fun j u hu => co_cells HC.out.1 j u ?_⟩
                rw [List.map_take] at hu
                have hj := (List.getElem?_eq_some_iff.1 hu).1
                rw [List.getElem?_take_of_lt (by simp at hj; omega)] at hu
                exact hu
              have HN1 : Hid (((l.take k).map encStr).length = k * 1) := by
                show _ = _
                rw [List.length_map, List.length_take, ← HLN.out, Nat.mul_one]; omega
              have hk9 : k ≤ 1000 := by omega
              go_upto_region 11 with (at_builtin; refine ap_rowZ infoS Tryz.underlying114 rfl (by decide) rfl (.tmp 54) (.tmp 57) rfl rfl (World.ownsRow_nil w4 w4.heap.size 9 1) (Nat.le_refl _) (some ⟨cb, co, none⟩) k _ ((l.take k).map encStr) rfl HN1.out HN2.out (enc_one _) (by unfold maxLen; omega) (by omega) ?_; intro v' W2 o' g' h'; have HO : Hid (W2.ownsRow w4.heap.size 9 1 v' (0 + k) ([] ++ (l.take k).map encStr)) := o'; have HG : Hid (w4.grownBy W2 none) := g'; clear o' g' h')
              clear HN1 HN2
              have hb2 : Below w4.heap.size w4 W2 := (Below.refl w4.heap.size w4).grown HG.out (Nat.le_refl _) (fun b hb => by cases hb)
              have hbn := below_nT W2 (.cells #[.string f.coin] 9)
              have HO2 := Lib.hid (own_below HO.out hbn)
              have HB2 := Lib.hid (hb2.trans (hbn.mono hb2.size))
              have u0 : W2.cell? ⟨b, o + i * 2, none⟩ = some (.string f.coin) := cellT HU0.out (HC.out.2.trans (hb2.mono HC.out.2.size))
              clear HO HG hb2 hbn
              go_upto_region 12 with (at_builtin; refine ap_row infoS Tryz.underlying114 rfl (by decide) rfl (.tmp 59) (.tmp 65) rfl rfl HO2.out HB2.out.size ⟨W2.heap.size, 0, none⟩ 1 1 [.string f.coin] rfl rfl (lit_cells_at W2 #[.string f.coin] 9 _ rfl) (by simp [Value.oneCell']) (by unfold maxLen; omega) (by omega) ?_; intro v3 W3 o' g' h'; have HO : Hid (W3.ownsRow w4.heap.size 9 1 v3 (0 + k + 1) ([] ++ (l.take k).map encStr ++ [.string f.coin])) := o'; have HG : Hid ((W2.alloc (.cells #[.string f.coin] 9)).grownBy W3 _) := g'; clear o' g' h')
              have hb3 := HB2.out.grown HG.out HB2.out.size (fun b hb => (own_lt HO2.out hb).1)
              have LS3 := Lib.hid (HC.out.1.below hb3)
              have HB3 := Lib.hid hb3
              clear HO2 HB2 HG hb3 u0
              by_cases hck : lc = k
              · subst hck
                have HN2 : Hid (0 < 0 → ∃ ad : Addr, (some ⟨cb, co, none⟩ : Option Addr) = some ad ∧ ∀ j u, ((l.drop lc).map encStr)[j]? = some u → W3.cell? (ad.add j) = some u) := fun h => absurd h (by omega)
                have HN1 : Hid (((l.drop lc).map encStr).length = 0 * 1) := by
                  show _ = _
                  rw [List.length_map, List.length_drop, ← HLN.out, Nat.mul_one]; first | done | omega
                have hl9 : lc ≤ 1000 := by have := HLI.out; omega
                go_wp2_with (at_builtin; refine ap_rowZ infoS Tryz.underlying114 rfl (by decide) rfl (.tmp 67) (.tmp 70) rfl rfl HO.out HB3.out.size (some ⟨cb, co, none⟩) 0 _ ((l.drop lc).map encStr) rfl HN1.out HN2.out (enc_one _) (by unfold maxLen; omega) (by omega) ?_; intro v4 W4 o' g' h'; have HO4 : Hid (W4.ownsRow w4.heap.size 9 1 v4 (0 + lc + 1 + 0) ([] ++ (l.take lc).map encStr ++ [.string f.coin] ++ (l.drop lc).map encStr)) := o'; have HG : Hid (W3.grownBy W4 v3.ownBlock) := g'; clear o' g' h')
                have hb4 := HB3.out.grown HG.out HB3.out.size (fun b hb => (own_lt HO.out hb).1)
                have hlen4 : (l.take lc ++ f.coin.data.toList :: l.drop lc).length = lc + 1 := by
                  rw [List.length_append, List.length_cons, List.length_take, List.length_drop, ← HLN.out]; omega
                have hO : W4.ownsRow w4.heap.size 9 1 v4 (lc + 1) ((l.take lc ++ f.coin.data.toList :: l.drop lc).map encStr) := by
                  have h := HO4.out
                  have e : 0 + lc + 1 + 0 = lc + 1 := by omega
                  rw [e] at h
                  rw [List.map_append, List.map_cons, enc_str]
                  simpa using h
                obtain ⟨a4, c4, rfl, hS4⟩ := own_strs hO hlen4 hb4 (X := []) (fun b hb => by cases hb)
                have HNL : Hid ((cns fl (i + 1)).length = lc + 1) := by show _ = _; rw [HIN.out, hlen4]
                have FIN : Hid (CoS W4 (cns fl (i + 1)) a4 c4 ∧ Below w.heap.size w W4) := by
                  refine ⟨⟨?_, fun h => ?_⟩, HC.out.2.trans (hb4.mono HC.out.2.size)⟩
                  · rw [HIN.out, hlen4]; exact hS4
                  · rw [HNL.out] at h; omega
                clear hb4 hO hS4 HO4 HG HO HB3 HN1 HN2 LS3
                go_wp2_with fail
                go_roundw
                case rel => exact ⟨i + 1, a4, c4, by rw [HNL.out], by go_num, by have := HIT.out; omega, FIN.out⟩
                case measure => simp [intOf]; have := HIT.out; omega
              · have hne2 : ¬ (lc : Int) = (k : Int) := by omega
                have HN2 : Hid (0 < 0 → ∃ ad : Addr, (some ⟨cb, co + k, none⟩ : Option Addr) = some ad ∧ ∀ j u, ((l.drop k).map encStr)[j]? = some u → W3.cell? (ad.add j) = some u) := fun h => absurd h (by omega)
                have HN1 : Hid (((l.drop k).map encStr).length = 0 * 1) := by
                  show _ = _
                  rw [List.length_map, List.length_drop, ← HLN.out, Nat.mul_one]; first | done | omega
                have hl9 : k ≤ 1000 := by have := HLI.out; omega
                go_wp2_with (at_builtin; refine ap_rowZ infoS Tryz.underlying114 rfl (by decide) rfl (.tmp 67) (.tmp 70) rfl rfl HO.out HB3.out.size (some ⟨cb, co + k, none⟩) 0 _ ((l.drop k).map encStr) rfl HN1.out HN2.out (enc_one _) (by unfold maxLen; omega) (by omega) ?_; intro v4 W4 o' g' h'; have HO4 : Hid (W4.ownsRow w4.heap.size 9 1 v4 (0 + k + 1 + 0) ([] ++ (l.take k).map encStr ++ [.string f.coin] ++ (l.drop k).map encStr)) := o'; have HG : Hid (W3.grownBy W4 v3.ownBlock) := g'; clear o' g' h')
                have hb4 := HB3.out.grown HG.out HB3.out.size (fun b hb => (own_lt HO.out hb).1)
                have hlen4 : (l.take k ++ f.coin.data.toList :: l.drop k).length = k + 1 := by
                  rw [List.length_append, List.length_cons, List.length_take, List.length_drop, ← HLN.out]; omega
                have hO : W4.ownsRow w4.heap.size 9 1 v4 (k + 1) ((l.take k ++ f.coin.data.toList :: l.drop k).map encStr) := by
                  have h := HO4.out
                  have e : 0 + k + 1 + 0 = k + 1 := by omega
                  rw [e] at h
                  rw [List.map_append, List.map_cons, enc_str]
                  simpa using h
                obtain ⟨a4, c4, rfl, hS4⟩ := own_strs hO hlen4 hb4 (X := []) (fun b hb => by cases hb)
                have HNL : Hid ((cns fl (i + 1)).length = k + 1) := by show _ = _; rw [HIN.out, hlen4]
                have FIN : Hid (CoS W4 (cns fl (i + 1)) a4 c4 ∧ Below w.heap.size w W4) := by
                  refine ⟨⟨?_, fun h => ?_⟩, HC.out.2.trans (hb4.mono HC.out.2.size)⟩
                  · rw [HIN.out, hlen4]; exact hS4
                  · rw [HNL.out] at h; omega
                clear hb4 hO hS4 HO4 HG HO HB3 HN1 HN2 LS3
                go_wp2_with fail
                go_roundw
                case rel => exact ⟨i + 1, a4, c4, by rw [HNL.out], by go_num, by have := HIT.out; omega, FIN.out⟩
                case measure => simp [intOf]; have := HIT.out; omega
    · have hit' : ¬ (i : Int) < (len : Int) := by omega
      have HSR : Hid (SrtOf l fl) := by show SrtOf l fl; rw [HLC.out]; exact cns_srt (by rw [HL.out]; omega)
      have HKL : Hid (ln ≤ 1000) := by have h1 := HLI.out; have h2 := HN.out; show _ ≤ _; omega
      have HKF : Hid (l.length ≤ fl.length) := by have h1 := HLI.out; have h2 := HL.out; have h3 := HLN.out; show _ ≤ _; omega
      have HFS := Lib.hid (fun x hx => (HFO.out x hx))
      have HCO := Lib.hid HC.out.1.1
      have HBW := Lib.hid HC.out.2
      have HSZ : Hid (∀ t ∈ l, (⟨t.toArray⟩ : ByteArray).size ≤ maxLen) := by
        intro t ht
        obtain ⟨f, hf, rfl⟩ := (HSR.out.all t).1 ht
        exact (HFO.out f hf).coin
      obtain ⟨W1, hW1⟩ : ∃ W, W = wr := ⟨_, rfl⟩
      rw [← hW1] at HCO HBW ⊢
      rw [← HLN.out] at HCO
      have HS1 := Lib.hid (HS.out.kept (Kept.of_below HBW.out []))
      clear HC HFS hit hi hW1 HLC HLI
      go_wp2_with fail
      go_loopw [8, 9] (fun v8 v9 wr => ∃ (k : Nat) (oa : Option Addr) (oc : Nat), v8 = .slice oa (totL (l.take k) fl).length oc ∧ v9 = .int .i64 (k : Nat) ∧ k ≤ ln ∧ Hid (wr.ownsRow W1.heap.size 67 2 (.slice oa (totL (l.take k) fl).length oc) (totL (l.take k) fl).length (outF (totL (l.take k) fl)) ∧ Below W1.heap.size W1 wr ∧ ∀ t ∈ l.take k, fits64 (amtF fl t).sum = true)) (fun _ v9 _ => ln - (intOf v9).toNat)
      case atStart => exact ⟨0, none, 0, rfl, rfl, Nat.zero_le _, World.ownsRow_nil _ _ _ _, Below.refl _ _, fun t ht => nomatch ht⟩
      case round =>
        rename World => w2
        obtain ⟨k, oa, oc, rfl, rfl, hk, HR⟩ := hrel
        obtain ⟨on, hon⟩ : ∃ n, n = (totL (l.take k) fl).length := ⟨_, rfl⟩
        have HON := Lib.hid hon
        rw [← hon] at HR ⊢
        clear hon
        by_cases hkt : k < ln
        · have hkt' : (k : Int) < (ln : Int) := by omega
          have k0 : (0 : Int) ≤ (k : Int) := by omega
          have k1 : (k : Int) ≤ 1000 := by have := HKL.out; omega
          obtain ⟨cb, co, t, hla, ht, t0⟩ := strK_at HCO.out k hkt
          have HLA := Lib.hid hla
          subst hla
          have HT0 := Lib.hid t0
          have HKT := Lib.hid hkt
          have HTT := Lib.hid (take_snoc ht)
          have HTK := Lib.hid (totL_take (fl := fl) ht)
          have HTM := Lib.hid (List.mem_of_getElem? ht)
          clear t0 ht hkt
          go_upto_region 18 with (fail)
          have HP0 : Hid (PtSt W1 (w2.alloc (.cells #[.bool false, .slice none 0 0] 122)) (.slice oa on oc) on (outF (totL (l.take k) fl)) w2.heap.size 0) := ⟨HR.out.2.1.alloc HR.out.2.1.size _, own_below HR.out.1 (below_nT w2 _), HR.out.2.1.size, _, _, _, _, Mem.Blk.new w2 122 #[.bool false, .slice none 0 0], ⟨.slice none 0 0, rfl, none, 0, 0, [], rfl, nums_nilT _, Big.Norm.nil, rfl⟩⟩
          have HFT := Lib.hid HR.out.2.2
          clear HR
          generalize (w2.alloc (.cells #[.bool false, .slice none 0 0] 122)) = w5 at *
          obtain ⟨g, hg⟩ : ∃ g, g = w2.heap.size := ⟨_, rfl⟩
          rw [← hg] at HP0 ⊢
          clear hg
          go_wp2_with fail
          go_loopw [11] (fun v wr => ∃ (j : Nat) (z : Int), v = .int .i64 (j : Nat) ∧ j ≤ len ∧ Hid (PtSt W1 wr (.slice oa on oc) on (outF (totL (l.take k) fl)) g z ∧ z = (amtF (fl.take j) t).sum ∧ BdT z j)) (fun v _ => len - (intOf v).toNat)
          case atStart => exact ⟨0, 0, rfl, Nat.zero_le _, HP0.out, rfl, by unfold BdT; simp⟩
          case round =>
            clear HP0
            rename World => wi
            obtain ⟨j, z, rfl, hj, HPZ⟩ := hrel
            by_cases hjt : j < len
            · have hjt' : (j : Int) < (len : Int) := by omega
              have j0 : (0 : Int) ≤ (j : Int) := by omega
              have j1 : (j : Int) ≤ 1000 := by have := HN.out; omega
              obtain ⟨b, o, f, ha, hf, hok, v0, v1⟩ := fl_at HS1.out j hjt
              have HA := Lib.hid ha
              subst ha
              have HV1 := Lib.hid v1
              have HV0 := Lib.hid v0
              have HJT := Lib.hid hjt
              have HST := Lib.hid (sumF_take hf t)
              have HYA : Hid (I64 f.amt) := hok.amt
              have HYB : Hid (-9223372036854775808 ≤ f.amt ∧ f.amt ≤ 9223372036854775807) := hok.amt
              have HYS : Hid (Sm f.amt.natAbs) := Sm.int _ (by have := HYB.out; omega)
              have HSM : Hid (Sm z.natAbs) := HPZ.out.2.2.sm (by have := HN.out; omega)
              clear v0 v1 hf hok hjt
              have HPS := Lib.hid HPZ.out.1
              have HZE := Lib.hid HPZ.out.2.1
              have HZB := Lib.hid HPZ.out.2.2
              clear HPZ
              obtain ⟨ts, hts⟩ : ∃ ts : ByteArray, ts = ⟨t.toArray⟩ := ⟨_, rfl⟩
              have hdt : ts.data.toList = t := by rw [hts]
              have hc := same_t f.coin ts
              rw [hdt] at hc
              have e0 : wi.cell? ⟨cb, co + k, none⟩ = some (.string ts) := by rw [hts]; exact cellT HT0.out HPS.out.bel
              clear hdt hts
              have e1 : wi.cell? ⟨b, o + j * 2, none⟩ = some (.string f.coin) := cellT HV0.out HPS.out.bel
              by_cases hcc : f.coin.data.toList = t
              · rw [decide_eq_true hcc] at hc
                have HZN : Hid (z + f.amt = (amtF (fl.take (j + 1)) t).sum ∧ BdT (z + f.amt) (j + 1)) := by
                  have h := HST.out
                  rw [if_pos hcc, ← HZE.out] at h
                  exact ⟨h.symm, HZB.out.add HYA.out⟩
                clear HST HZE HZB hcc
                go_upto_region 21 with (fail)
                go_quiet (fail)
                have bq : Below wi.heap.size wi (wi.drewN nq) := below_dN (Below.refl wi.heap.size wi) nq
                have HPQ := Lib.hid (HPS.out.below bq)
                clear bq e0 e1 HPS
                generalize wi.drewN nq = wq at *
                go_upto_region 22 with (fail)
                obtain ⟨gb, ga, gl, gc, hgb, hgr⟩ := HPQ.out.big
                obtain ⟨c0, c1, -, -⟩ := hgb.two
                have u3 : wq.cell? ⟨b, o + j * 2 + 1, none⟩ = some (.int .i64 f.amt) := cellT HV1.out HPQ.out.bel
                refine wp_region_till (S := fun W => W.cell? ⟨g, 0, none⟩ = some (.bool gb) ∧ W.cell? ⟨g, 1, none⟩ = some (.slice ga gl gc) ∧ W.cell? ⟨b, o + j * 2 + 1, none⟩ = some (.int .i64 f.amt)) 8 (by kernel_rfl) ?_
                refine till_take (i := 0) (v := ?_) rfl (by kernel_rfl) (fun _ _ _ h => h) (Or.inl ⟨by rfl, ?_⟩) ⟨c0,c1,u3⟩ ?_
                rotate_left
                · intro W hS
                  try dsimp only at hS
                  go_split_ands
                  go_simp
                  try with_reducible rfl
                try simp only [Act.put, List.getElem_toArray, List.getElem_cons_zero, List.getElem_cons_succ, List.setIfInBounds_toArray, List.set_cons_zero, List.set_cons_succ]
                refine till_take (i := 1) (v := ?_) rfl (by kernel_rfl) (fun _ _ _ h => h) (Or.inl ⟨by rfl, ?_⟩) ⟨c0,c1,u3⟩ ?_
                rotate_left
                · intro W hS
                  try dsimp only at hS
                  go_split_ands
                  go_simp
                  try with_reducible rfl
                try simp only [Act.put, List.getElem_toArray, List.getElem_cons_zero, List.getElem_cons_succ, List.setIfInBounds_toArray, List.set_cons_zero, List.set_cons_succ]
                refine till_take (i := 2) (v := ?_) rfl (by kernel_rfl) (fun _ _ _ h => h) (Or.inl ⟨by rfl, ?_⟩) ⟨c0,c1,u3⟩ ?_
                rotate_left
                · intro W hS
                  try dsimp only at hS
                  go_split_ands
                  go_simp
                  try with_reducible rfl
                try simp only [Act.put, List.getElem_toArray, List.getElem_cons_zero, List.getElem_cons_succ, List.setIfInBounds_toArray, List.set_cons_zero, List.set_cons_succ]
                refine till_take (i := 3) (v := ?_) rfl (by kernel_rfl) (fun _ _ _ h => h) (Or.inl ⟨by rfl, ?_⟩) ⟨c0,c1,u3⟩ ?_
                rotate_left
                · intro W hS
                  try dsimp only at hS
                  go_split_ands
                  go_simp
                  try with_reducible rfl
                try simp only [Act.put, List.getElem_toArray, List.getElem_cons_zero, List.getElem_cons_succ, List.setIfInBounds_toArray, List.set_cons_zero, List.set_cons_succ]
                refine till_take (i := 4) (v := ?_) rfl (by kernel_rfl) (fun _ _ _ h => h) (Or.inl ⟨by rfl, ?_⟩) ⟨c0,c1,u3⟩ ?_
                rotate_left
                · intro W hS
                  try dsimp only at hS
                  go_split_ands
                  go_simp
                  try with_reducible rfl
                try simp only [Act.put, List.getElem_toArray, List.getElem_cons_zero, List.getElem_cons_succ, List.setIfInBounds_toArray, List.set_cons_zero, List.set_cons_succ]
                refine till_take (i := 5) (v := ?_) rfl (by kernel_rfl) (fun _ _ _ h => h) (Or.inl ⟨by rfl, ?_⟩) ⟨c0,c1,u3⟩ ?_
                rotate_left
                · intro W hS
                  try dsimp only at hS
                  go_split_ands
                  go_simp
                  try with_reducible rfl
                try simp only [Act.put, List.getElem_toArray, List.getElem_cons_zero, List.getElem_cons_succ, List.setIfInBounds_toArray, List.set_cons_zero, List.set_cons_succ]
                refine till_one (i := 6) (by kernel_rfl) rfl (fun K' hK => ?_)
                go_simp
                go_at_call 46
                (with_reducible refine (bigof_any f.amt _ HYB.out.1 HYB.out.2).mono ?_)
                rintro e w6 ⟨⟨r6, rfl, hr6⟩, b6⟩
                have p1 := (Below.refl wq.heap.size wq).drew.trans (b6.mono (Below.refl wq.heap.size wq).drew.size)
                replace c0 := cellT c0 p1
                replace c1 := cellT c1 p1
                replace u3 := cellT u3 p1
                refine hK _ _ ⟨c0,c1,u3⟩ ?_
                clear hK K' b6
                try simp only [Act.put, List.getElem_toArray, List.getElem_cons_zero, List.getElem_cons_succ, List.setIfInBounds_toArray, List.set_cons_zero, List.set_cons_succ]
                refine till_one (i := 7) (by kernel_rfl) rfl (fun K' hK => ?_)
                go_simp
                go_at_call 45
                (with_reducible refine (plus_any _ _ z (f.amt) _ (hgr.below p1) hr6 HSM.out HYS.out).mono ?_)
                rintro e w7 ⟨⟨r7, rfl, hr7⟩, b7⟩
                have p2 := p1.trans (b7.mono p1.size)
                replace c0 := cellT c0 b7
                replace c1 := cellT c1 b7
                replace u3 := cellT u3 b7
                refine hK _ _ ⟨c0,c1,u3⟩ ?_
                clear hK K' b7 p1 hr6 u3
                obtain ⟨nb2, na2, nl2, nc2, rfl, hps⟩ := (HPQ.out.below p2).put hr7
                have HPS3 := Lib.hid hps
                obtain ⟨-, -, f0, f1⟩ := (hgb.below p2).two
                clear hps hr7 p2 hgb hgr
                try simp only [Act.put, List.getElem_toArray, List.getElem_cons_zero, List.getElem_cons_succ, List.setIfInBounds_toArray, List.set_cons_zero, List.set_cons_succ]
                refine till_last (by kernel_rfl) rfl (by kernel_rfl) (fun K' hK => ?_)
                go_simp
                refine hK _ _ ?_
                clear hK K' c0 c1 f0 f1
                try simp only [Act.put, List.getElem_toArray, List.getElem_cons_zero, List.getElem_cons_succ, List.setIfInBounds_toArray, List.set_cons_zero, List.set_cons_succ]
                refine wpAny_done (by kernel_rfl) ?_ _
                go_wp2_with fail
                go_roundw
                case rel => exact ⟨j + 1, _, by go_num, by have := HJT.out; omega, HPS3.out, HZN.out⟩
                case measure => simp [intOf]; have := HJT.out; omega
              · rw [decide_eq_false hcc] at hc
                have HZN : Hid (z = (amtF (fl.take (j + 1)) t).sum ∧ BdT z (j + 1)) := by
                  have h := HST.out
                  rw [if_neg hcc, ← HZE.out, Int.add_zero] at h
                  exact ⟨h.symm, HZB.out.up (by omega)⟩
                clear HST HZE HZB hcc
                go_upto_region 21 with (fail)
                go_quiet (fail)
                have bq : Below wi.heap.size wi (wi.drewN nq) := below_dN (Below.refl wi.heap.size wi) nq
                have HPQ := Lib.hid (HPS.out.below bq)
                clear bq e0 e1 HPS
                generalize wi.drewN nq = wq at *
                go_wp2_with fail
                go_roundw
                case rel => exact ⟨j + 1, _, by go_num, by have := HJT.out; omega, HPQ.out, HZN.out⟩
                case measure => simp [intOf]; have := HJT.out; omega
            · have hjt' : ¬ (j : Int) < (len : Int) := by omega
              have HZE : Hid (z = (amtF fl t).sum) := by
                have h := HPZ.out.2.1
                rw [List.take_of_length_le (by rw [HL.out]; omega)] at h
                exact h
              have HSM : Hid (Sm z.natAbs) := HPZ.out.2.2.sm (by have := HN.out; omega)
              have HPS := Lib.hid HPZ.out.1
              clear HPZ hjt
              obtain ⟨gb, ga, gl, gc, hgb, hgr⟩ := HPS.out.big
              obtain ⟨c0, c1, -, -⟩ := hgb.two
              have HGR := Lib.hid hgr
              clear hgb hgr
              go_wp2_with fail
              go_at_call 47
              (with_reducible refine (small_any _ z _ HGR.out HSM.out).mono ?_)
              rintro e w9 ⟨rfl, b9⟩
              have HP9 := Lib.hid (HPS.out.below b9)
              clear HPS HGR HSM c0 c1 b9
              cases hsb : smB z with
              | false =>
                have HV : Hid (TotV fl [] false) := ⟨l, HSR.out, .inl ⟨rfl, rfl, t, HTM.out, by rw [← HZE.out, ← fits_smT]; exact hsb⟩⟩
                clear hsb
                go_wp2_with fail
                go_ret2
                exact ⟨⟨[], none, 0, false, rfl, SlR.nil _ _ _, HV.out, Nat.zero_le _⟩, HBW.out.trans (HP9.out.bel.mono HBW.out.size)⟩
              | true =>
                have hsn : smN z = z := by unfold smN; rw [hsb]; rfl
                rw [hsn]
                have HFT2 : Hid (∀ s ∈ l.take (k + 1), fits64 (amtF fl s).sum = true) := by
                  intro s hs
                  rw [HTT.out] at hs
                  rcases List.mem_append.1 hs with hs | hs
                  · exact HFT.out s hs
                  · rw [List.mem_singleton] at hs; subst hs
                    rw [← HZE.out, ← fits_smT]; exact hsb
                rw [← HZE.out] at HTK
                clear hsb hsn HFT
                by_cases hz0 : z = 0
                · have hz1 : (z != 0) = false := by simp [hz0]
                  rw [if_pos hz0, List.append_nil] at HTK
                  have HLN2 : Hid (on = (totL (l.take (k + 1)) fl).length) := by show _ = _; rw [HTK.out]; exact HON.out
                  have HR9 : Hid (w9.ownsRow W1.heap.size 67 2 (.slice oa (totL (l.take (k + 1)) fl).length oc) (totL (l.take (k + 1)) fl).length (outF (totL (l.take (k + 1)) fl)) ∧ Below W1.heap.size W1 w9 ∧ ∀ s ∈ l.take (k + 1), fits64 (amtF fl s).sum = true) := by
                    rw [HTK.out, ← HON.out]
                    exact ⟨HP9.out.row, HP9.out.bel, HFT2.out⟩
                  clear hz0 HTK HP9 HFT2
                  go_wp2_with fail
                  go_roundw
                  case rel => exact ⟨k + 1, oa, oc, by rw [HLN2.out], by go_num, by have := HKT.out; omega, HR9.out⟩
                  case measure => simp [intOf]; have := HKT.out; omega
                · have hz1 : (z != 0) = true := by simp [hz0]
                  rw [if_neg hz0] at HTK
                  have e0 : w9.cell? ⟨cb, co + k, none⟩ = some (.string ⟨t.toArray⟩) := cellT HT0.out HP9.out.bel
                  have hal := below_nT w9 (.cells #[.string ⟨t.toArray⟩, .int .i64 z] 67)
                  have HO2 := Lib.hid (own_below HP9.out.row hal)
                  have HB2 := Lib.hid (HP9.out.bel.trans (hal.mono HP9.out.bel.size))
                  have HSB : Hid (W1.heap.size ≤ (w9.alloc (.cells #[.string ⟨t.toArray⟩, .int .i64 z] 67)).heap.size) := HB2.out.size
                  have HOL : Hid (on ≤ 1000) := by
                    have h1 := totL_len (l.take k) fl
                    rw [List.length_take] at h1
                    have h2 := HKL.out
                    have h3 := HON.out
                    have h4 := HLN.out
                    show _ ≤ _
                    omega
                  clear hal hz0 HP9
                  go_wp2_with (at_builtin; refine ap_row infoRF Tryz.underlying47 rfl (by decide) rfl (.tmp 112) (.tmp 119) rfl rfl HO2.out HSB.out ⟨w9.heap.size, 0, none⟩ 1 1 [.string ⟨t.toArray⟩, .int .i64 z] rfl rfl (lit_cells_at w9 #[.string ⟨t.toArray⟩, .int .i64 z] 67 _ rfl) (by simp [Value.oneCell']) (by have := HOL.out; unfold maxLen; omega) (by have := HOL.out; omega) ?_; intro v3 w3 o1 g1 hv1; have HO3 := Lib.hid o1; have HG3 := Lib.hid g1; clear o1 g1 hv1)
                  have HB3 := Lib.hid (HB2.out.grown HG3.out HB2.out.size (fun b hb => (own_lt HO2.out hb).1))
                  obtain ⟨a', c', rfl⟩ := own_slice HO3.out
                  have HLN2 : Hid (on + 1 = (totL (l.take (k + 1)) fl).length) := by show _ = _; rw [HTK.out, List.length_append, ← HON.out]; rfl
                  have HR9 : Hid (w3.ownsRow W1.heap.size 67 2 (.slice a' (totL (l.take (k + 1)) fl).length c') (totL (l.take (k + 1)) fl).length (outF (totL (l.take (k + 1)) fl)) ∧ Below W1.heap.size W1 w3 ∧ ∀ s ∈ l.take (k + 1), fits64 (amtF fl s).sum = true) := by
                    rw [← HLN2.out, HTK.out, outF_append, outF_one]
                    exact ⟨HO3.out, HB3.out, HFT2.out⟩
                  clear HO3 HO2 HB2 HG3 HTK HSB HFT2 HB3
                  go_roundw
                  case rel => exact ⟨k + 1, a', c', by rw [HLN2.out], by go_num, by have := HKT.out; omega, HR9.out⟩
                  case measure => simp [intOf]; have := HKT.out; omega
        · have hkt' : ¬ (k : Int) < (ln : Int) := by omega
          have HEND : Hid (ToR (fun b => .bool b) w2 fl (.returned (.tuple #[.slice oa on oc, .bool true])) ∧ Below w.heap.size w w2) := by
            have h := HR.out
            have hke : l.take k = l := List.take_of_length_le (by rw [← HLN.out]; omega)
            rw [HON.out, hke] at h
            obtain ⟨a, c, e, hs⟩ := outF_any h.1 h.2.1 (fun f hf => by
              unfold totL at hf
              obtain ⟨t, ht, he⟩ := List.mem_filterMap.1 hf
              split at he
              · cases he
              · injection he with he
                subst he
                refine ⟨HSZ.out t ht, ?_⟩
                have h1 := h.2.2 t ht
                unfold fits64 at h1
                rw [Bool.and_eq_true, decide_eq_true_iff, decide_eq_true_iff] at h1
                exact h1)
            injection e with e1 _ e3
            subst e1; subst e3
            rw [HON.out, hke]
            exact ⟨⟨totL l fl, _, _, true, rfl, hs, ⟨l, HSR.out, .inr ⟨rfl, rfl, h.2.2⟩⟩, Nat.le_trans (totL_len l fl) HKF.out⟩, HBW.out.trans (h.2.1.mono HBW.out.size)⟩
          clear HR hkt
          go_wp2_with fail
          go_ret2
          exact HEND.out
end Go.Proofs.YtmiinmndbkdjbaaGreat

/- LifeTotals, walked. -/
namespace Go.Proofs.YtmiinmndbkdjbaaGreat
set_option linter.unusedVariables false
set_option linter.unusedSimpArgs false
open Go.RowKit
set_option maxRecDepth 100000 in
set_option maxHeartbeats 8000000 in
theorem lifeTotals_any (a : Option Addr) (len cap : Nat) (fl : List Flw) (w : World) (hS : SlR flK w [] fl a len cap) :
    Calls Tryz.prog 5 #[.slice a len cap] w fun x w' => x = .returned (.bool true) ∧ Below w.heap.size w w' := by
  have HS := Lib.hid hS
  have HL := Lib.hid hS.facts.1
  have HFO := Lib.hid (fl_ok hS)
  clear hS
  by_cases hg : 60 < len
  · have hg' : (60 : Int) < (len : Int) := by omega
    clear hg
    go_enter Tryz.func5, Tryz.ntmps5
    go_wp2_with fail
    have HB0 := Lib.hid (Below.refl w.heap.size w)
    go_at_call 7
    (with_reducible refine (awake23_any w).mono ?_)
    rintro y w9 ⟨rfl, b9⟩
    have HB9 := Lib.hid (HB0.out.trans (b9.mono HB0.out.size))
    clear b9
    go_wp2_with fail
    go_ret
    exact ⟨rfl, HB9.out⟩
  have hg' : ¬ (60 : Int) < (len : Int) := by omega
  have HLN : Hid (len ≤ 60) := by show _ ≤ _; omega
  clear hg
  go_enter Tryz.func5, Tryz.ntmps5
  go_wp2_with fail
  clear hg'
  go_loopw [3, 4] (fun v i wr' => ∃ (k : Nat) (oa : Option Addr) (oc : Nat), v = .slice oa k oc ∧ i = .int .i64 (k : Nat) ∧ k ≤ len ∧ Hid (wr'.ownsRow w.heap.size 66 2 (.slice oa k oc) k (outF (fl.take k)) ∧ Below w.heap.size w wr')) (fun _ i _ => len - (intOf i).toNat)
  case atStart => exact ⟨0, none, 0, rfl, rfl, Nat.zero_le _, by rw [List.take_zero]; exact World.ownsRow_nil _ _ _ _, Below.refl _ _⟩
  case round =>
    rename World => w2
    obtain ⟨k, oa, oc, rfl, rfl, hk, HR⟩ := hrel
    by_cases hlt : k < len
    · have hlt' : (k : Int) < (len : Int) := by omega
      have i0 : (0 : Int) ≤ (k : Int) := by omega
      have i1 : (k : Int) ≤ 60 := by have := HLN.out; omega
      obtain ⟨b, o, f, ha, hf, -, u0, u1⟩ := fl_at (HS.out.kept (Kept.of_below HR.out.2 [])) k hlt
      have HA := Lib.hid ha
      subst ha
      have HX := Lib.hid (take_snoc hf)
      have hal := below_nT w2 (.cells #[.string f.coin, .int .i64 f.amt] 66)
      have HO2 := Lib.hid (own_below HR.out.1 hal)
      have HB2 := Lib.hid (HR.out.2.trans (hal.mono HR.out.2.size))
      have HSB : Hid (w.heap.size ≤ (w2.alloc (.cells #[.string f.coin, .int .i64 f.amt] 66)).heap.size) := HB2.out.size
      have HKL := Lib.hid hlt
      clear hal hf HR hlt
      go_wp2_with (at_builtin; refine ap_row infoLF Tryz.underlying36 rfl (by decide) rfl (.tmp 19) (.tmp 24) rfl rfl HO2.out HSB.out ⟨w2.heap.size, 0, none⟩ 1 1 [.string f.coin, .int .i64 f.amt] rfl rfl (lit_cells_at w2 #[.string f.coin, .int .i64 f.amt] 66 _ rfl) (by simp [Value.oneCell']) (by unfold maxLen; omega) (by omega) ?_; intro v3 w3 o1 g1 hv1; have HO3 := Lib.hid o1; have HG3 := Lib.hid g1; clear o1 g1 hv1)
      have HB3 := Lib.hid (HB2.out.grown HG3.out HB2.out.size (fun b hb => (own_lt HO2.out hb).1))
      obtain ⟨a', c', rfl⟩ := own_slice HO3.out
      have HR3 : Hid (w3.ownsRow w.heap.size 66 2 (.slice a' (k + 1) c') (k + 1) (outF (fl.take (k + 1))) ∧ Below w.heap.size w w3) := by
        refine ⟨?_, HB3.out⟩
        rw [HX.out, outF_append, outF_one]
        exact HO3.out
      clear HO3 HO2 HB2 HG3 HB3 HX HSB
      go_roundw
      case rel => exact ⟨k + 1, a', c', rfl, by go_num, by have := HKL.out; omega, HR3.out⟩
      case measure => simp [intOf]; have := HKL.out; omega
    · have hlt' : ¬ (k : Int) < (len : Int) := by omega
      obtain rfl : k = len := by omega
      have HEND : Hid (∃ a c, Value.slice oa k oc = .slice a k c ∧ SlR flK w2 [] fl a k c) := by
        have ho := HR.out.1
        have hke : fl.take k = fl := List.take_of_length_le (by rw [HL.out]; omega)
        rw [hke] at ho
        have hkl := HL.out
        subst hkl
        exact outF_any ho HR.out.2 HFO.out
      have HB := Lib.hid HR.out.2
      obtain ⟨pa, pc, e, hs⟩ := HEND.out
      injection e with e1 _ e3
      subst e1; subst e3
      have HLT := Lib.hid (ltotal_any fl oa k oc w2 hs (by have := HLN.out; omega))
      have HS2 := Lib.hid (HS.out.kept (Kept.of_below HB.out []))
      clear HR hlt hk hs HEND HS
      go_wp2_with fail
      go_at_call 21
      (with_reducible refine HLT.out.mono ?_)
      rintro y w3 ⟨⟨out, ta, tc, bb, rfl, hO, hV, hol⟩, b3⟩
      have HO := Lib.hid hO
      have HV := Lib.hid hV
      have HRT := Lib.hid (rtotal_any fl a k cap w3 (HS2.out.kept (Kept.of_below b3 [])) (by have := HLN.out; omega))
      have HB3 := Lib.hid (HB.out.trans (b3.mono HB.out.size))
      clear hO hV hol b3 HLT HB
      obtain ⟨ei, hei⟩ : ∃ i : Int, i = (if bb then 0 else 2) := ⟨_, rfl⟩
      have hei' : (fun b : Bool => Value.int .i64 (if b then 0 else 2)) bb = .int .i64 ei := by rw [hei]
      rw [hei']
      have HEI := Lib.hid hei
      clear hei hei'
      go_wp2_with fail
      go_at_call 22
      (with_reducible refine HRT.out.mono ?_)
      rintro y w4 ⟨⟨out', ta', tc', bb', rfl, hO', hV', hol'⟩, b4⟩
      obtain ⟨e1, e2⟩ := HV.out.uniq hV'
      subst e1
      subst e2
      have HB4 := Lib.hid (HB3.out.trans (b4.mono HB3.out.size))
      have HSM := Lib.hid (same23_any [] out none ta none ta' 0 0 out.length tc 0 tc' w4 (SlR.nil _ _ _) (HO.out.kept (Kept.of_below b4 [])) (SlR.nil _ _ _) hO')
      have HE0 : Hid (bb = false → out = []) := fun h => by
        obtain ⟨ks, -, h1 | h1⟩ := HV.out
        · exact h1.2.1
        · rw [h1.1] at h; cases h
      clear hO' hV' hol' b4 HRT HB3 HO HV
      cases bb with
      | true =>
        obtain rfl : ei = 0 := HEI.out
        clear HE0
        show match Ending.returned (.tuple #[.slice ta' out.length tc', .bool true]), w4 with | _, _ => _
        go_wp2_with fail
        go_at_call 14
        (with_reducible refine HSM.out.mono ?_)
        rintro y w5 ⟨rfl, b5⟩
        have HB5 := Lib.hid (HB4.out.trans (b5.mono HB4.out.size))
        clear b5 HSM
        go_wp2_with fail
        go_at_call 7
        (with_reducible refine (awake23_any w5).mono ?_)
        rintro y w9 ⟨rfl, b9⟩
        have HB9 := Lib.hid (HB5.out.trans (b9.mono HB5.out.size))
        clear b9
        go_wp2_with fail
        go_ret
        exact ⟨rfl, HB9.out⟩
      | false =>
        obtain rfl : ei = 2 := HEI.out
        have h0 : out = [] := HE0.out rfl
        subst h0
        clear HE0 HSM
        go_wp2_with fail
        go_at_call 7
        (with_reducible refine (awake23_any w4).mono ?_)
        rintro y w9 ⟨rfl, b9⟩
        have HB9 := Lib.hid (HB4.out.trans (b9.mono HB4.out.size))
        clear b9
        go_wp2_with fail
        go_ret
        exact ⟨rfl, HB9.out⟩
end Go.Proofs.YtmiinmndbkdjbaaGreat

/- What came in, opened: slices of ints, of strings, of structs of such. -/
namespace Go.Proofs.YtmiinmndbkdjbaaGreat
set_option linter.unusedVariables false
set_option linter.unusedSimpArgs false
open Go.ChangeShapes Go.WideShapes Go.ChangeAt Go.RowKit Go.Deep
def Opens {α : Type} (P : Program) (e : TypeId) (K : Elt α) : Prop :=
  ∀ (H : Type) (enc : TypeId × Value → H) (W : World) (fuel : Nat) (cs : List Value) (x : DataW H × List MemPlace), DataW.trod enc P W 0 (fun _ => true) true fuel e cs = some x → ∃ d, K.R W [] d cs
theorem i64_of {n : Int} (h : (Lit.int .i64 n).wf = true) : I64 n := by
  simp [Lit.wf, IntKind.min, IntKind.max, IntKind.signed, IntKind.bits] at h
  unfold I64
  omega
theorem opens_int {P : Program} {t : TypeId} (ht : P.underlying t = some (.int .i64)) : Opens P t i64K := by
  intro H enc W fuel cs x h
  obtain ⟨n, rfl, _, hw⟩ := DataW.trod_int ht h
  exact ⟨n, rfl, i64_of hw⟩
theorem pick_all {α : Type} {Q : Nat → α → List Value → Prop} : ∀ (len : Nat), (∀ i, i < len → ∃ d c, Q i d c) → ∃ (l : List α) (vs : List (List Value)), l.length = len ∧ vs.length = len ∧ ∀ i d c, l[i]? = some d → vs[i]? = some c → Q i d c := by
  intro len
  induction len with
  | zero => intro _; exact ⟨[], [], rfl, rfl, fun i d c h _ => by simp at h⟩
  | succ n ih =>
    intro h
    obtain ⟨l, vs, h1, h2, h3⟩ := ih (fun i hi => h i (by omega))
    obtain ⟨d, c, hq⟩ := h n (by omega)
    refine ⟨l ++ [d], vs ++ [c], by simp [h1], by simp [h2], fun i d' c' hd hc => ?_⟩
    rcases Nat.lt_or_ge i n with hi | hi
    · rw [List.getElem?_append_left (by omega)] at hd hc
      exact h3 i d' c' hd hc
    · have hin : i = n := by
        have := (List.getElem?_eq_some_iff.1 hd).1; simp at this; omega
      subst hin
      rw [List.getElem?_append_right (by omega), h1, Nat.sub_self] at hd
      rw [List.getElem?_append_right (by omega), h2, Nat.sub_self] at hc
      injection hd with hd; injection hc with hc
      subst hd; subst hc
      exact hq
theorem opens_slice {α : Type} {K : Elt α} {P : Program} {t e : TypeId} (ht : P.underlying t = some (.slice e)) (hK : P.cellsOf e = K.sz) (he : Opens P e K) {H : Type} {enc : TypeId × Value → H} {W : World} {fuel : Nat} {cs : List Value} {x : DataW H × List MemPlace}
    (h : DataW.trod enc P W 0 (fun _ => true) true fuel t cs = some x) : ∃ a len cap l, cs = [.slice a len cap] ∧ SlR K W [] l a len cap := by
  rcases open_slice ht h with ⟨rfl, _⟩ | ⟨a, len, cap, m, n, D, Pl, rfl, _, hl, hm, hmm, _, hi⟩
  · exact ⟨none, 0, 0, [], rfl, SlR.nil K W []⟩
  · have hmx : cap ≤ 9223372036854775807 := by
      have : maxLen = 9223372036854775807 := by decide
      omega
    rw [if_pos rfl] at hmm
    obtain ⟨l, vs, h1, h2, h3⟩ := pick_all (Q := fun i d c => K.R W [] d c ∧ c.length = K.sz ∧ ∀ j u, c[j]? = some u → W.cell? (a.add (i * K.sz + j)) = some u) len (fun i hi' => by
      obtain ⟨c, hc, ht'⟩ := hi i (by omega)
      obtain ⟨d, hd⟩ := he H enc W n c _ ht'
      obtain ⟨_, hcl, hat⟩ := World.cells?_some hc
      rw [hK] at hcl hat
      refine ⟨d, c, hd, hcl, fun j u hj => ?_⟩
      have hjs : j < K.sz := by rw [← hcl]; exact (List.getElem?_eq_some_iff.1 hj).1
      rw [← Go.Deep.add_add, hat j hjs]
      exact hj)
    refine ⟨some a, len, cap, l, rfl, vs, by rw [h1, h2], fun i d c hd hc => (h3 i d c hd hc).1, h2, hl, hmx, fun hp => ?_⟩
    have hv0 : vs[0]? = some (vs[0]'(by omega)) := List.getElem?_eq_getElem (by omega)
    have hl0 : l[0]? = some (l[0]'(by omega)) := List.getElem?_eq_getElem (by omega)
    obtain ⟨_, hlen0, hcell0⟩ := h3 0 _ _ hl0 hv0
    have hK0 := K.pos
    have hz := hcell0 0 _ (List.getElem?_eq_getElem (by omega))
    obtain ⟨b, off, spot⟩ := a
    obtain rfl : spot = none := by simpa [Addr.add] using World.cell?_spot hz
    have hblt := cell_lt hz
    rw [show (⟨b, off, none⟩ : Addr).add (0 * K.sz + 0) = ⟨b, off + (0 * K.sz + 0), none⟩ from Mem.add_off _ _ _] at hblt
    refine ⟨b, off, rfl, hblt, List.not_mem_nil, fun i c hc => ?_⟩
    have hlt : i < l.length := by rw [h1, ← h2]; exact (List.getElem?_eq_some_iff.1 hc).1
    obtain ⟨_, g2, g3⟩ := h3 i _ c (List.getElem?_eq_getElem hlt) hc
    refine ⟨g2, fun j u hj => ?_⟩
    have := g3 j u hj
    rw [Mem.add_off, ← Nat.add_assoc] at this
    exact this
/-- A struct of one-cell fields: each field's cell. -/
theorem opens_struct {P : Program} {e : TypeId} {fs : Array Field} (he : P.underlying e = some (.struct fs)) (hone : oneCellFields P fs = true) (hC : P.cellsOf e = fs.size) {H : Type} {enc : TypeId × Value → H} {W : World} {fuel : Nat} {cs : List Value} {x : DataW H × List MemPlace}
    (h : DataW.trod enc P W 0 (fun _ => true) true fuel e cs = some x) : cs.length = fs.size ∧ ∀ (j : Nat) (f : Field), fs[j]? = some f → ∃ v n y, cs[j]? = some v ∧ DataW.trod enc P W 0 (fun _ => true) true n f.type [v] = some y := by
  obtain ⟨ys, n', hn', hy, hlen, hyl, hf⟩ := DataW.trod_struct he h
  refine ⟨by rw [hlen, hC], fun j f hj => ?_⟩
  obtain ⟨ho, hk⟩ := hone_of hone j f hj
  have hjl : j < fs.size := (Array.getElem?_eq_some_iff.1 hj).1
  have hv : cs[j]? = some (cs[j]'(by omega)) := List.getElem?_eq_getElem (by omega)
  have h1 := hf j f hj
  rw [ho, hk] at h1
  have hone' : (cs.drop j).take 1 = [cs[j]'(by omega)] := by
    rw [List.drop_eq_getElem_cons (by omega)]
    rfl
  rw [hone'] at h1
  have hys : ys[j]? = some (ys[j]'(by omega)) := List.getElem?_eq_getElem (by omega)
  exact ⟨_, _, _, hv, h1.trans hys⟩
theorem four_list {α : Type} {cs : List α} (h : cs.length = 4) {a b c d : α} (h0 : cs[0]? = some a) (h1 : cs[1]? = some b) (h2 : cs[2]? = some c) (h3 : cs[3]? = some d) : cs = [a, b, c, d] := by
  match cs, h with
  | [p, q, r, s], _ => simp at h0 h1 h2 h3; subst h0; subst h1; subst h2; subst h3; rfl
theorem opens_leaf : Opens Tryz.prog 77 lfK := by
  intro H enc W fuel cs x h
  obtain ⟨hl, hf⟩ := opens_struct Tryz.underlying77 (by kernel_rfl) (by kernel_rfl) h
  obtain ⟨v0, n0, y0, c0, t0⟩ := hf 0 _ rfl
  obtain ⟨v1, n1, y1, c1, t1⟩ := hf 1 _ rfl
  obtain ⟨v2, n2, y2, c2, t2⟩ := hf 2 _ rfl
  obtain ⟨v3, n3, y3, c3, t3⟩ := hf 3 _ rfl
  obtain ⟨a, e0, _, w0⟩ := DataW.trod_int (k := .i64) Tryz.underlying3 t0
  obtain ⟨b, e1, _, w1⟩ := DataW.trod_int (k := .i64) Tryz.underlying2 t1
  obtain ⟨s, e2, _, w2⟩ := DataW.trod_string Tryz.underlying9 t2
  obtain ⟨p, len, cap, l, e3, hS⟩ := opens_slice (K := i64K) Tryz.underlying30 (by kernel_rfl) (opens_int Tryz.underlying3) t3
  injection e0 with e0; injection e1 with e1; injection e2 with e2; injection e3 with e3
  subst e0; subst e1; subst e2; subst e3
  have hll := hS.facts.1
  subst hll
  exact ⟨⟨a, b, s, l⟩, p, cap, four_list hl c0 c1 c2 c3, i64_of w0, i64_of w1, (show s.size ≤ 9223372036854775807 by unfold maxLen at w2; omega), hS⟩
theorem opens_knot : Opens Tryz.prog 82 knK := by
  intro H enc W fuel cs x h
  obtain ⟨hl, hf⟩ := opens_struct Tryz.underlying82 (by kernel_rfl) (by kernel_rfl) h
  obtain ⟨v0, n0, y0, c0, t0⟩ := hf 0 _ rfl
  obtain ⟨v1, n1, y1, c1, t1⟩ := hf 1 _ rfl
  obtain ⟨v2, n2, y2, c2, t2⟩ := hf 2 _ rfl
  obtain ⟨v3, n3, y3, c3, t3⟩ := hf 3 _ rfl
  obtain ⟨a, e0, _, w0⟩ := DataW.trod_int (k := .i64) Tryz.underlying3 t0
  obtain ⟨s, e1, _, w1⟩ := DataW.trod_string Tryz.underlying9 t1
  obtain ⟨p, len, cap, l, e2, hS⟩ := opens_slice (K := i64K) Tryz.underlying30 (by kernel_rfl) (opens_int Tryz.underlying3) t2
  obtain ⟨p2, len2, cap2, l2, e3, hS2⟩ := opens_slice (K := i64K) Tryz.underlying30 (by kernel_rfl) (opens_int Tryz.underlying3) t3
  injection e0 with e0; injection e1 with e1; injection e2 with e2; injection e3 with e3
  subst e0; subst e1; subst e2; subst e3
  have hll := hS.facts.1
  subst hll
  have hll2 := hS2.facts.1
  subst hll2
  exact ⟨⟨a, s, l, l2⟩, p, cap, p2, cap2, four_list hl c0 c1 c2 c3, i64_of w0, (show s.size ≤ 9223372036854775807 by unfold maxLen at w1; omega), hS, hS2⟩
theorem leaves_of {H : Type} {enc : TypeId × Value → H} {W : World} {a : Option Addr} {len cap : Nat} {x : DataW H × List MemPlace} (k : ∃ fuel, DataW.trod enc Tryz.prog W 0 (fun _ => true) true fuel 22 (Value.cells (.slice a len cap)).toList = some x) :
    ∃ l, SlR lfK W [] l a len cap := by
  obtain ⟨fuel, hf⟩ := k
  obtain ⟨a', len', cap', l, e, hS⟩ := opens_slice (K := lfK) Tryz.underlying22 (by kernel_rfl) opens_leaf hf
  simp [Value.cells] at e
  obtain ⟨rfl, rfl, rfl⟩ := e
  exact ⟨l, hS⟩
theorem knots_of {H : Type} {enc : TypeId × Value → H} {W : World} {a : Option Addr} {len cap : Nat} {x : DataW H × List MemPlace} (k : ∃ fuel, DataW.trod enc Tryz.prog W 0 (fun _ => true) true fuel 23 (Value.cells (.slice a len cap)).toList = some x) :
    ∃ l, SlR knK W [] l a len cap := by
  obtain ⟨fuel, hf⟩ := k
  obtain ⟨a', len', cap', l, e, hS⟩ := opens_slice (K := knK) Tryz.underlying23 (by kernel_rfl) opens_knot hf
  simp [Value.cells] at e
  obtain ⟨rfl, rfl, rfl⟩ := e
  exact ⟨l, hS⟩
end Go.Proofs.YtmiinmndbkdjbaaGreat

/- What came in, opened: flows. -/
namespace Go.Proofs.YtmiinmndbkdjbaaGreat
set_option linter.unusedVariables false
set_option linter.unusedSimpArgs false
open Go.ChangeShapes Go.WideShapes Go.ChangeAt Go.RowKit Go.Deep
theorem opens_fl : Opens Tryz.prog 67 flK := by
  intro H enc W fuel cs x h
  obtain ⟨hl, hf⟩ := opens_struct Tryz.underlying67 (by kernel_rfl) (by kernel_rfl) h
  obtain ⟨v0, n0, y0, c0, t0⟩ := hf 0 _ rfl
  obtain ⟨v1, n1, y1, c1, t1⟩ := hf 1 _ rfl
  obtain ⟨a0, e0, _, w0⟩ := DataW.trod_string Tryz.underlying9 t0
  obtain ⟨a1, e1, _, w1⟩ := DataW.trod_int (k := .i64) Tryz.underlying2 t1
  injection e0 with e0; injection e1 with e1
  subst e0; subst e1
  refine ⟨⟨a0, a1⟩, ?_, ⟨w0, i64_of w1⟩⟩
  match cs, hl with
  | [p, q], _ => simp at c0 c1; subst c0; subst c1; rfl
theorem flows_of {H : Type} {enc : TypeId × Value → H} {W : World} {a : Option Addr} {len cap : Nat} {x : DataW H × List MemPlace} (k : ∃ fuel, DataW.trod enc Tryz.prog W 0 (fun _ => true) true fuel 47 (Value.cells (.slice a len cap)).toList = some x) : ∃ l, SlR flK W [] l a len cap := by
  obtain ⟨fuel, hf⟩ := k
  obtain ⟨a', len', cap', l, e, hS⟩ := opens_slice (K := flK) Tryz.underlying47 (by kernel_rfl) opens_fl hf
  have e' : (Value.slice a len cap) = .slice a' len' cap' := by
    have := List.head_eq_of_cons_eq e
    exact this
  injection e' with h1 h2 h3
  subst h1; subst h2; subst h3
  exact ⟨l, hS⟩
end Go.Proofs.YtmiinmndbkdjbaaGreat
