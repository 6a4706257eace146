/- A part of the proof: LcI, one behind another. -/
import Derived.Test.YtgbiimoednmlgaaMCA
import Derived.Test.YtgbiimoednmlgaaMCB
import Derived.Test.YtgbiimoednmlgaaMCC
import Derived.Test.YtgbiimoednmlgaaMCD
import Derived.Test.YtgbiimoednmlgaaMCE
import Derived.Test.YtgbiimoednmlgaaMCF
import Derived.Test.YtgbiimoednmlgaaMCG
import Derived.Test.YtgbiimoednmlgaaMCH
import Derived.Test.YtgbiimoednmlgaaMCI
import Derived.Test.YtgbiimoednmlgaaMCJ
import Derived.Test.YtgbiimoednmlgaaMCK
import Derived.Test.YtgbiimoednmlgaaMCL
/- The document's Clear, walked. -/
namespace Go.Proofs.Ytgbiimoednmlgaa
set_option linter.unusedVariables false
set_option linter.unusedSimpArgs false
open Go.RowKit
theorem coinF_take {l : List Acct} {k : Nat} {x : Acct} (h : l[k]? = some x) (c : ByteArray) : coinF c (l.take (k + 1)) = coinF c (l.take k) ++ (if x.coin.data.toList = c.data.toList then [x] else []) := by
  obtain ⟨hk, e⟩ := List.getElem?_eq_some_iff.1 h
  rw [← List.take_append_getElem hk, e]
  unfold coinF
  rw [List.filter_append]
  congr 1
  by_cases h0 : x.coin.data.toList = c.data.toList
  · rw [if_pos h0, List.filter_cons_of_pos (by unfold pC; simp [h0])]; rfl
  · rw [if_neg h0, List.filter_cons_of_neg (by unfold pC; simp [h0])]; rfl
/-- Where the search for an extreme stands: by its place. -/
def ExAt (s : Int) (l : List Acct) (i r : Nat) : Prop := (i = 0 ∧ r = 0) ∨ (r < i ∧ ∃ x, l[r]? = some x ∧ ∀ (j : Nat) y, j < i → l[j]? = some y → s * y.amt ≤ s * x.amt ∧ (j < r → s * y.amt < s * x.amt))
theorem ExAt.lt {s : Int} {l : List Acct} {i r : Nat} (h : ExAt s l i r) {n : Nat} (hi : i < n) : r < n := by
  rcases h with ⟨rfl, rfl⟩ | ⟨h, -⟩ <;> omega
theorem ExAt.lt' {s : Int} {l : List Acct} {i r : Nat} (h : ExAt s l i r) (hi : 0 < i) : r < i := by
  rcases h with ⟨rfl, rfl⟩ | ⟨h, -⟩ <;> omega
theorem ExAt.keep {s : Int} {l : List Acct} {i r : Nat} {x y : Acct} (h : ExAt s l i r) (hx : l[r]? = some x) (hy : l[i]? = some y) (hn : ¬ s * x.amt < s * y.amt) : ExAt s l (i + 1) r := by
  right
  rcases h with ⟨rfl, rfl⟩ | ⟨h, x', hx', hh⟩
  · refine ⟨by omega, x, hx, fun j z hj hz => ?_⟩
    obtain rfl : j = 0 := by omega
    rw [hx] at hz; rw [← Option.some.inj hz]
    exact ⟨Int.le_refl _, fun h => absurd h (by omega)⟩
  · rw [hx] at hx'
    obtain rfl := Option.some.inj hx'
    refine ⟨by omega, x, hx, fun j z hj hz => ?_⟩
    by_cases e : j < i
    · exact hh j z e hz
    · obtain rfl : j = i := by omega
      rw [hy] at hz; rw [← Option.some.inj hz]
      exact ⟨by omega, fun h => absurd h (by omega)⟩
theorem ExAt.turn {s : Int} {l : List Acct} {i r : Nat} {x y : Acct} (h : ExAt s l i r) (hx : l[r]? = some x) (hy : l[i]? = some y) (hn : s * x.amt < s * y.amt) : ExAt s l (i + 1) i := by
  right
  rcases h with ⟨rfl, rfl⟩ | ⟨h, x', hx', hh⟩
  · rw [hx] at hy
    obtain rfl := Option.some.inj hy
    omega
  · rw [hx] at hx'
    obtain rfl := Option.some.inj hx'
    refine ⟨by omega, y, hy, fun j z hj hz => ?_⟩
    by_cases e : j < i
    · have := (hh j z e hz).1
      exact ⟨by omega, fun _ => by omega⟩
    · obtain rfl : j = i := by omega
      rw [hy] at hz; rw [← Option.some.inj hz]
      exact ⟨Int.le_refl _, fun h => absurd h (by omega)⟩
theorem ExAt.fin {s : Int} {l : List Acct} {r : Nat} (h : ExAt s l l.length r) (h0 : 0 < l.length) : ∃ x, l[r]? = some x ∧ ExSt s l l.length x := by
  rcases h with ⟨h, -⟩ | ⟨h, x, hx, hh⟩
  · omega
  · exact ⟨x, hx, r, h, hx, hh⟩
theorem adj_set2 {l : List Acct} {r p : Nat} {y z : Acct} {N : Int} (hd : l.Pairwise (fun x y => x.party.data.toList ≠ y.party.data.toList)) (hr : l[r]? = some y) (hp : l[p]? = some z) (hne : y.party.data.toList ≠ z.party.data.toList) : (l.set r ⟨y.party, y.coin, y.amt - N⟩)[p]? = some z ∧ (l.set r ⟨y.party, y.coin, y.amt - N⟩).set p ⟨z.party, z.coin, z.amt + N⟩ = adjL l y z N := by
  have hrp : r ≠ p := fun e => by
    subst e
    rw [hr] at hp
    exact hne (by rw [Option.some.inj hp])
  have h1 : l.set r ⟨y.party, y.coin, y.amt - N⟩ = l.map (adj1 y.party (-N)) := adj1_set hd hr rfl
  have h2 : (l.set r ⟨y.party, y.coin, y.amt - N⟩)[p]? = some z := by rw [List.getElem?_set, if_neg hrp]; exact hp
  refine ⟨h2, ?_⟩
  rw [h1] at h2 ⊢
  exact adj1_set (adj1_dist hd) h2 rfl
/-- Where the document's Clear stands, in memory. -/
structure RcMem (w wr : World) (l : List Acct) (out : List Mv) (vl vo : Value) : Prop where
  bel : Below w.heap.size w wr
  rowL : wr.ownsRow w.heap.size 58 3 vl l.length (outR l)
  rowO : wr.ownsRow w.heap.size 40 4 vo out.length (outM out)
theorem RcMem.below {w wr w' : World} {l : List Acct} {out : List Mv} {vl vo : Value} (h : RcMem w wr l out vl vo) (b : Below wr.heap.size wr w') : RcMem w w' l out vl vo :=
  ⟨h.bel.trans (b.mono h.bel.size), own_below h.rowL b, own_below h.rowO b⟩
/-- An amount is turned. -/
theorem RcMem.set {w wr : World} {g n cap i : Nat} {l : List Acct} {x : Acct} {out : List Mv} {vo : Value} (h : RcMem w wr l out (.slice (some ⟨g, 0, none⟩) n cap) vo) (hx : l[i]? = some x) (v : Int) : RcMem w (wr.setCell ⟨g, i * 3 + 2, none⟩ (.int .i64 v)) (l.set i ⟨x.party, x.coin, v⟩) out (.slice (some ⟨g, 0, none⟩) n cap) vo := by
  obtain ⟨s1, s2, s3⟩ := set_split (x := ⟨x.party, x.coin, v⟩) hx
  have hn : n = l.length := by
    rcases h.rowL.2 with ⟨h1, h2⟩ | ⟨a, cap', cur, e, _⟩
    · cases h1
    · injection e
  subst hn
  have hs := h.rowL.stored (i * 3 + 2) (.int .i64 v)
  have ho : (outR l).set (i * 3 + 2) (.int .i64 v) = outR (l.set i ⟨x.party, x.coin, v⟩) := by
    rw [s2, ← outR_amt (l.take i) (l.drop (i + 1)) x v, ← s1, s3]
  refine ⟨h.bel.setCell (p := ⟨g, i * 3 + 2, none⟩) (own_lt h.rowL rfl).1 _, ?_, own_grown (u := .slice (some ⟨g, 0, none⟩) l.length cap) h.rowO hs.2 (fun k hk e => row_ne h.rowO h.rowL (by decide) hk e)⟩
  rw [List.length_set, ← ho]
  exact hs.1
set_option maxRecDepth 100000 in
set_option maxHeartbeats 16000000 in
theorem rclear_any (l : List Acct) (a : Option Addr) (len cap : Nat) (c : ByteArray) (w : World) (h : SlR acctK w [] l a len cap) (hlen : len ≤ 1000) (hc : c.size ≤ maxLen) (hlf : LfOk c (coinF c l)) (hnz : NzL (coinF c l)) :
    Calls Try.prog 25 #[.slice a len cap, .string c] w fun x w' => (∃ out a' c', x = .returned (.slice a' out.length c') ∧ SlR mvK w' [] out a' out.length c' ∧ Clr c (coinF c l) out) ∧ Below w.heap.size w w' := by
  have HS := Lib.hid h
  have HL := Lib.hid h.facts.1
  have HN := Lib.hid hlen
  have HC := Lib.hid hc
  have HST : Hid (RcSt c (coinF c l) (coinF c l) [] len) := RcSt.start hlf hnz (by
    have : (coinF c l).length ≤ l.length := List.length_filter_le ..
    have h2 := h.facts.1
    omega)
  clear h hlen hc hlf hnz
  go_enter Try.func25, Try.ntmps25
  go_wp2_with fail
  go_loopw [5, 6] (fun v i wr => ∃ (k : Nat) (oa : Option Addr) (oc : Nat), v = .slice oa (coinF c (l.take k)).length oc ∧ i = .int .i64 (k : Nat) ∧ k ≤ len ∧ Hid (wr.ownsRow w.heap.size 58 3 (.slice oa (coinF c (l.take k)).length oc) (coinF c (l.take k)).length (outR (coinF c (l.take k))) ∧ Below w.heap.size w wr)) (fun _ i _ => len - (intOf i).toNat)
  case atStart => exact ⟨0, none, 0, rfl, rfl, Nat.zero_le _, World.ownsRow_nil _ _ _ _, Below.refl _ _⟩
  case round =>
    obtain ⟨k, oa, oc, rfl, rfl, hk, HR⟩ := hrel
    by_cases hlt : k < len
    · have hlt' : (k : Int) < (len : Int) := by omega
      have i0 : (0 : Int) ≤ (k : Int) := by omega
      have i1 : (k : Int) ≤ 1000 := by have := HN.out; omega
      obtain ⟨b, o, x, rfl, hx, -, u0, u1, u2⟩ := acct_at (HS.out.kept (Kept.of_below HR.out.2 [])) k hlt
      have HTK := Lib.hid (coinF_take hx c)
      have hs := same_b x.coin c
      have HKL := Lib.hid hlt
      clear hx hlt
      by_cases h1 : x.coin.data.toList = c.data.toList
      · rw [decide_eq_true h1] at hs
        rw [if_pos h1] at HTK
        have hal := below_newL wr (.cells #[.string x.party, .string x.coin, .int .i64 x.amt] 58)
        have HO2 := Lib.hid (own_below HR.out.1 hal)
        have HB2 := Lib.hid (HR.out.2.trans (hal.mono HR.out.2.size))
        have HSB : Hid (w.heap.size ≤ (wr.alloc (.cells #[.string x.party, .string x.coin, .int .i64 x.amt] 58)).heap.size) := HB2.out.size
        have HM : Hid ((coinF c (l.take k)).length + 1 ≤ maxLen ∧ ((coinF c (l.take k)).length + 1) * 40 ≤ 140737488355328) := by
          have hmx : maxLen = 9223372036854775807 := by decide
          have h2 : (coinF c (l.take k)).length ≤ (l.take k).length := List.length_filter_le ..
          rw [List.length_take] at h2
          exact ⟨by omega, by omega⟩
        clear hal HR h1
        go_wp2_with (at_builtin; refine ap_row infoRA Try.underlying22 rfl (by decide) rfl (.tmp 26) (.tmp 31) rfl rfl HO2.out HSB.out ⟨wr.heap.size, 0, none⟩ 1 1 [.string x.party, .string x.coin, .int .i64 x.amt] rfl rfl (lit_cells_at wr #[.string x.party, .string x.coin, .int .i64 x.amt] 58 _ rfl) (by simp [Value.oneCell']) HM.out.1 HM.out.2 ?_; intro v3 w3 o1 g1 hv1; have HO3 := Lib.hid o1; have HG3 := Lib.hid g1; clear o1 g1 hv1)
        have HB3 := Lib.hid (HB2.out.grown HG3.out HB2.out.size (fun b hb => (own_lt HO2.out hb).1))
        obtain ⟨a', c', rfl⟩ := own_slice HO3.out
        have HLN : Hid ((coinF c (l.take k)).length + 1 = (coinF c (l.take (k + 1))).length) := by show _ = _; rw [HTK.out, List.length_append]; rfl
        have HR3 : Hid (w3.ownsRow w.heap.size 58 3 (.slice a' (coinF c (l.take (k + 1))).length c') (coinF c (l.take (k + 1))).length (outR (coinF c (l.take (k + 1)))) ∧ Below w.heap.size w w3) := by
          rw [← HLN.out, HTK.out, outR_append, outR_one]
          exact ⟨HO3.out, HB3.out⟩
        clear HO3 HO2 HB2 HG3 HB3 HTK HSB
        go_roundw
        case rel => exact ⟨k + 1, a', c', by rw [HLN.out], by go_num, by have := HKL.out; omega, HR3.out⟩
        case measure => simp [intOf]; have := HKL.out; omega
      · rw [decide_eq_false h1] at hs
        rw [if_neg h1, List.append_nil] at HTK
        have HR3 : Hid (wr.ownsRow w.heap.size 58 3 (.slice oa (coinF c (l.take (k + 1))).length oc) (coinF c (l.take (k + 1))).length (outR (coinF c (l.take (k + 1)))) ∧ Below w.heap.size w wr) := by
          rw [HTK.out]; exact HR.out
        clear HR h1
        go_wp2_with fail
        go_roundw
        case rel => exact ⟨k + 1, oa, oc, by rw [HTK.out], by go_num, by have := HKL.out; omega, HR3.out⟩
        case measure => simp [intOf]; have := HKL.out; omega
    · have hlt' : ¬ (k : Int) < (len : Int) := by omega
      have hke : l.take k = l := List.take_of_length_le (by rw [HL.out]; omega)
      rw [hke] at HR ⊢
      have HM0 : Hid (RcMem w wr (coinF c l) [] (.slice oa (coinF c l).length oc) (.slice none 0 0)) := ⟨HR.out.2, HR.out.1, World.ownsRow_nil _ _ _ _⟩
      obtain ⟨L0, hL0⟩ : ∃ n, n = (coinF c l).length := ⟨_, rfl⟩
      have HL0 := Lib.hid hL0
      rw [← hL0] at HM0 ⊢
      have HLL : Hid (L0 ≤ 1000) := by
        have : (coinF c l).length ≤ l.length := List.length_filter_le ..
        have h2 := HL.out
        have h3 := HN.out
        show _ ≤ _
        omega
      clear HR hke hlt hL0 hk
      go_wp2_with fail
      go_loopw [7, 8] (fun vo vn wr => ∃ (m : Nat) (l' : List Acct) (out : List Mv) (pa : Option Addr) (pc : Nat), vo = .slice pa out.length pc ∧ vn = .int .i64 (m : Nat) ∧ m ≤ len ∧ Hid (RcMem w wr l' out (.slice oa L0 oc) (.slice pa out.length pc)) ∧ Hid (RcSt c (coinF c l) l' out (len - m)) ∧ Hid (l'.length = L0)) (fun _ vn _ => len - (intOf vn).toNat)
      case atStart => exact ⟨0, coinF c l, [], none, 0, rfl, rfl, Nat.zero_le _, HM0.out, HST.out, HL0.out.symm⟩
      case round =>
        clear HM0 HST
        rename World => w2
        obtain ⟨m, l', out, pa, pc, rfl, rfl, hm, HM, HT, HLE⟩ := hrel
        by_cases hmt : m < len
        · have hmt' : (m : Int) < (len : Int) := by omega
          have m0 : (0 : Int) ≤ (m : Int) := by omega
          have m1 : (m : Int) ≤ 1000 := by have := HN.out; omega
          have HMT := Lib.hid hmt
          have HOL : Hid (out.length ≤ 1000) := by
            have h1 := HT.out.len
            have h2 := HL0.out
            have h3 := HLL.out
            show _ ≤ _
            omega
          clear hmt
          go_wp2_with fail
          go_loopw [9, 10, 11] (fun vr vp vi wr => ∃ (r p i : Nat), vr = .int .i64 (r : Nat) ∧ vp = .int .i64 (p : Nat) ∧ vi = .int .i64 (i : Nat) ∧ i ≤ L0 ∧ Hid (RcMem w wr l' out (.slice oa L0 oc) (.slice pa out.length pc)) ∧ Hid (ExAt 1 l' i r) ∧ Hid (ExAt (-1) l' i p)) (fun _ _ vi _ => L0 - (intOf vi).toNat)
          case atStart => exact ⟨0, 0, 0, rfl, rfl, rfl, Nat.zero_le _, HM.out, .inl ⟨rfl, rfl⟩, .inl ⟨rfl, rfl⟩⟩
          case round =>
            clear HM
            rename World => w3
            obtain ⟨r, p, i, rfl, rfl, rfl, hi, HM, HR, HP⟩ := hrel
            by_cases hit : i < L0
            · have hit' : (i : Int) < (L0 : Int) := by omega
              have i0 : (0 : Int) ≤ (i : Int) := by omega
              have i1 : (i : Int) ≤ 1000 := by have := HLL.out; omega
              have hrt := HR.out.lt hit
              have hpt := HP.out.lt hit
              have r0 : (r : Int) < (L0 : Int) := by omega
              have p0 : (p : Int) < (L0 : Int) := by omega
              have r1 : (0 : Int) ≤ (r : Int) := by omega
              have p1 : (0 : Int) ≤ (p : Int) := by omega
              have hrow := HM.out.rowL
              rw [HLE.out] at hrow
              obtain ⟨g, cap', y, hv, hy, -, -, u2, -⟩ := rowA_at hrow HLE.out i hit
              obtain ⟨g', cap2, x, hv', hx, -, -, v2, -⟩ := rowA_at hrow HLE.out r hrt
              obtain ⟨g'', cap3, z, hv'', hz, -, -, z2, -⟩ := rowA_at hrow HLE.out p hpt
              injection hv with e1 _ e3
              injection hv' with e1' _ e3'
              injection hv'' with e1'' _ e3''
              subst e1; subst e3
              injection e1' with e1'; injection e1' with e1'; subst e1'
              injection e1'' with e1''; injection e1'' with e1''; subst e1''
              have HIT := Lib.hid hit
              have HU2 := Lib.hid u2
              have HZ2 := Lib.hid z2
              clear hrow e3' e3'' hit hrt hpt z2
              by_cases h1 : x.amt < y.amt
              · have HR2 := Lib.hid (HR.out.turn hx hy (by omega))
                have d1 : decide (x.amt < y.amt) = true := decide_eq_true h1
                clear h1
                go_upto_region 15 with (fail)
                go_quiet (fail)
                have bq : Below w3.heap.size w3 (w3.drewN nq) := below_dN (Below.refl w3.heap.size w3) nq
                replace HM := Lib.hid (HM.out.below bq)
                replace HU2 := Lib.hid (cellUp HU2.out bq)
                replace HZ2 := Lib.hid (cellUp HZ2.out bq)
                clear bq u2 v2
                generalize w3.drewN nq = w4 at *
                have u2 := HU2.out
                have z2 := HZ2.out
                by_cases h2 : y.amt < z.amt
                · have HP2 := Lib.hid (HP.out.turn hz hy (by omega))
                  have d2 : decide (y.amt < z.amt) = true := decide_eq_true h2
                  clear h2 hx hy hz HR HP
                  go_upto_region 17 with (fail)
                  go_quiet (fail)
                  have bq : Below w4.heap.size w4 (w4.drewN nq) := below_dN (Below.refl w4.heap.size w4) nq
                  replace HM := Lib.hid (HM.out.below bq)
                  clear bq u2 z2 HU2 HZ2
                  generalize w4.drewN nq = w5 at *
                  go_wp2_with fail
                  go_roundw
                  case rel => exact ⟨i, i, i + 1, rfl, rfl, by go_num, by have := HIT.out; omega, HM.out, HR2.out, HP2.out⟩
                  case measure => simp [intOf]; have := HIT.out; omega
                · have HP2 := Lib.hid (HP.out.keep hz hy (by omega))
                  have d2 : decide (y.amt < z.amt) = false := decide_eq_false h2
                  clear h2 hx hy hz HR HP
                  go_upto_region 17 with (fail)
                  go_quiet (fail)
                  have bq : Below w4.heap.size w4 (w4.drewN nq) := below_dN (Below.refl w4.heap.size w4) nq
                  replace HM := Lib.hid (HM.out.below bq)
                  clear bq u2 z2 HU2 HZ2
                  generalize w4.drewN nq = w5 at *
                  go_wp2_with fail
                  go_roundw
                  case rel => exact ⟨i, p, i + 1, rfl, rfl, by go_num, by have := HIT.out; omega, HM.out, HR2.out, HP2.out⟩
                  case measure => simp [intOf]; have := HIT.out; omega
              · have HR2 := Lib.hid (HR.out.keep hx hy (by omega))
                have d1 : decide (x.amt < y.amt) = false := decide_eq_false h1
                clear h1
                go_upto_region 15 with (fail)
                go_quiet (fail)
                have bq : Below w3.heap.size w3 (w3.drewN nq) := below_dN (Below.refl w3.heap.size w3) nq
                replace HM := Lib.hid (HM.out.below bq)
                replace HU2 := Lib.hid (cellUp HU2.out bq)
                replace HZ2 := Lib.hid (cellUp HZ2.out bq)
                clear bq u2 v2
                generalize w3.drewN nq = w4 at *
                have u2 := HU2.out
                have z2 := HZ2.out
                by_cases h2 : y.amt < z.amt
                · have HP2 := Lib.hid (HP.out.turn hz hy (by omega))
                  have d2 : decide (y.amt < z.amt) = true := decide_eq_true h2
                  clear h2 hx hy hz HR HP
                  go_upto_region 17 with (fail)
                  go_quiet (fail)
                  have bq : Below w4.heap.size w4 (w4.drewN nq) := below_dN (Below.refl w4.heap.size w4) nq
                  replace HM := Lib.hid (HM.out.below bq)
                  clear bq u2 z2 HU2 HZ2
                  generalize w4.drewN nq = w5 at *
                  go_wp2_with fail
                  go_roundw
                  case rel => exact ⟨r, i, i + 1, rfl, rfl, by go_num, by have := HIT.out; omega, HM.out, HR2.out, HP2.out⟩
                  case measure => simp [intOf]; have := HIT.out; omega
                · have HP2 := Lib.hid (HP.out.keep hz hy (by omega))
                  have d2 : decide (y.amt < z.amt) = false := decide_eq_false h2
                  clear h2 hx hy hz HR HP
                  go_upto_region 17 with (fail)
                  go_quiet (fail)
                  have bq : Below w4.heap.size w4 (w4.drewN nq) := below_dN (Below.refl w4.heap.size w4) nq
                  replace HM := Lib.hid (HM.out.below bq)
                  clear bq u2 z2 HU2 HZ2
                  generalize w4.drewN nq = w5 at *
                  go_wp2_with fail
                  go_roundw
                  case rel => exact ⟨r, p, i + 1, rfl, rfl, by go_num, by have := HIT.out; omega, HM.out, HR2.out, HP2.out⟩
                  case measure => simp [intOf]; have := HIT.out; omega
            · have hit' : ¬ (i : Int) < (L0 : Int) := by omega
              obtain rfl : i = L0 := by omega
              clear hit hi
              by_cases h0 : i = 0
              · have hb0 : ((i : Int) == 0) = true := by rw [beq_iff_eq]; omega
                have HCL : Hid (Clr c (coinF c l) out) := HT.out.fin (by
                  have h1 := HLE.out
                  rw [h0] at h1
                  rw [List.length_eq_zero_iff.1 h1]; rfl)
                clear h0 HR HP
                have HF : Hid (∃ a' c', Value.slice pa out.length pc = .slice a' out.length c' ∧ SlR mvK _ [] out a' out.length c') := outM_any HM.out.rowO HM.out.bel HT.out.ok
                have HBB := Lib.hid HM.out.bel
                clear HM HT
                go_wp2_with fail
                go_ret
                obtain ⟨a', c', e, hs⟩ := HF.out
                exact ⟨⟨out, a', c', by rw [e]; rfl, hs, HCL.out⟩, HBB.out⟩
              · have hb0 : ((i : Int) == 0) = false := by rw [beq_eq_false_iff_ne]; omega
                have hil : 0 < l'.length := by rw [HLE.out]; omega
                rw [← HLE.out] at HR HP
                obtain ⟨x, hx, hrich⟩ := HR.out.fin hil
                obtain ⟨z, hz, hpoor⟩ := HP.out.fin hil
                rw [HLE.out] at HR HP
                have hrt : r < i := HR.out.lt' (by omega)
                have hpt : p < i := HP.out.lt' (by omega)
                have r0 : (r : Int) < (i : Int) := by omega
                have p0 : (p : Int) < (i : Int) := by omega
                have r1 : (0 : Int) ≤ (r : Int) := by omega
                have p1 : (0 : Int) ≤ (p : Int) := by omega
                have r3 : (r : Int) ≤ 1000 := by have := HLL.out; omega
                have p3 : (p : Int) ≤ 1000 := by have := HLL.out; omega
                have hrow := HM.out.rowL
                rw [HLE.out] at hrow
                obtain ⟨g, cap', y, hv, hy, a0, -, a2, hfz⟩ := rowA_at hrow HLE.out r hrt
                obtain ⟨g', cap2, y', hv', hy', b0, -, b2, -⟩ := rowA_at hrow HLE.out p hpt
                injection hv with e1 _ e3
                injection hv' with e1' _ e3'
                subst e1; subst e3
                injection e1' with e1'; injection e1' with e1'; subst e1'
                obtain rfl : y = x := by rw [hx] at hy; exact (Option.some.inj hy).symm
                obtain rfl : y' = z := by rw [hz] at hy'; exact (Option.some.inj hy').symm
                clear hrow e3' hy hy' h0 hil hrt hpt HR HP
                by_cases hy0 : y.amt = 0
                · have hb1 : (y.amt == 0) = true := by rw [beq_iff_eq]; exact hy0
                  have HCL := Lib.hid (HT.out.fin0 hrich hy0)
                  clear hrich hpoor hx hz hy0 b0 b2 a0
                  have HF : Hid (∃ a' c', Value.slice pa out.length pc = .slice a' out.length c' ∧ SlR mvK _ [] out a' out.length c') := outM_any HM.out.rowO HM.out.bel HT.out.ok
                  have HBB := Lib.hid HM.out.bel
                  clear HM HT
                  go_wp2_with fail
                  go_ret
                  obtain ⟨a', c', e, hs⟩ := HF.out
                  exact ⟨⟨out, a', c', by rw [e]; rfl, hs, HCL.out⟩, HBB.out⟩
                · have hb1 : (y.amt == 0) = false := by rw [beq_eq_false_iff_ne]; exact hy0
                  have HNX : Hid (∀ N, N = min y.amt (-y'.amt) → RcSt c (coinF c l) (adjL l' y y' N) (out ++ [⟨y.party, y'.party, c, N⟩]) (len - (m + 1)) ∧ MvOkL l' y y' N) := by
                    intro N hN
                    have h := HT.out
                    rw [show len - m = len - (m + 1) + 1 by have := HMT.out; omega] at h
                    exact h.next HC.out hrich hpoor hN hy0
                  have HYI : Hid (-9223372036854775808 ≤ y.amt ∧ y.amt ≤ 9223372036854775807) := (HT.out.lf.ok y hrich.mem).amt
                  have HZI : Hid (-9223372036854775808 ≤ y'.amt ∧ y'.amt ≤ 9223372036854775807) := (HT.out.lf.ok y' hpoor.mem).amt
                  have HDI := Lib.hid HT.out.lf.dist
                  have HX := Lib.hid hx
                  have HZ := Lib.hid hz
                  have HA0 := Lib.hid a0
                  have HA2 := Lib.hid a2
                  have HB0 := Lib.hid b0
                  have HB2 := Lib.hid b2
                  clear HT hrich hpoor hx hz hy0 a0 b0
                  go_upto_region 22 with (fail)
                  clear a2
                  refine wp_region_till (S := fun W => W.cell? ⟨g, p * 3 + 2, none⟩ = some (.int .i64 y'.amt)) 9 (by kernel_rfl) ?_
                  refine till_take (i := 0) (v := ?_) rfl (by kernel_rfl) (fun _ _ _ h => h) (Or.inl ⟨by rfl, ?_⟩) b2 ?_
                  rotate_left
                  · intro W hS
                    try dsimp only at hS
                    go_split_ands
                    go_simp
                    try with_reducible rfl
                  try simp only [Act.put, List.getElem_toArray, List.getElem_cons_zero, List.getElem_cons_succ, List.setIfInBounds_toArray, List.set_cons_zero, List.set_cons_succ]
                  refine till_take (i := 2) (v := ?_) rfl (by kernel_rfl) (fun _ _ _ h => h) (Or.inl ⟨by rfl, ?_⟩) b2 ?_
                  rotate_left
                  · intro W hS
                    try dsimp only at hS
                    go_split_ands
                    go_simp
                    try with_reducible rfl
                  try simp only [Act.put, List.getElem_toArray, List.getElem_cons_zero, List.getElem_cons_succ, List.setIfInBounds_toArray, List.set_cons_zero, List.set_cons_succ]
                  refine till_take (i := 3) (v := ?_) rfl (by kernel_rfl) (fun _ _ _ h => h) (Or.inl ⟨by rfl, ?_⟩) b2 ?_
                  rotate_left
                  · intro W hS
                    try dsimp only at hS
                    go_split_ands
                    go_simp
                    try with_reducible rfl
                  try simp only [Act.put, List.getElem_toArray, List.getElem_cons_zero, List.getElem_cons_succ, List.setIfInBounds_toArray, List.set_cons_zero, List.set_cons_succ]
                  refine till_take (i := 4) (v := ?_) rfl (by kernel_rfl) (fun _ _ _ h => h) (Or.inl ⟨by rfl, ?_⟩) b2 ?_
                  rotate_left
                  · intro W hS
                    try dsimp only at hS
                    go_split_ands
                    go_simp
                    try with_reducible rfl
                  try simp only [Act.put, List.getElem_toArray, List.getElem_cons_zero, List.getElem_cons_succ, List.setIfInBounds_toArray, List.set_cons_zero, List.set_cons_succ]
                  refine till_take (i := 5) (v := ?_) rfl (by kernel_rfl) (fun _ _ _ h => h) (Or.inl ⟨by rfl, ?_⟩) b2 ?_
                  rotate_left
                  · intro W hS
                    try dsimp only at hS
                    go_split_ands
                    go_simp
                    try with_reducible rfl
                  try simp only [Act.put, List.getElem_toArray, List.getElem_cons_zero, List.getElem_cons_succ, List.setIfInBounds_toArray, List.set_cons_zero, List.set_cons_succ]
                  refine till_take (i := 6) (v := ?_) rfl (by kernel_rfl) (fun _ _ _ h => h) (Or.inl ⟨by rfl, ?_⟩) b2 ?_
                  rotate_left
                  · intro W hS
                    try dsimp only at hS
                    go_split_ands
                    go_simp
                    try with_reducible rfl
                  try simp only [Act.put, List.getElem_toArray, List.getElem_cons_zero, List.getElem_cons_succ, List.setIfInBounds_toArray, List.set_cons_zero, List.set_cons_succ]
                  refine till_one (i := 1) (by kernel_rfl) rfl (fun K' hK => ?_)
                  go_simp
                  go_at_call 40
                  (with_reducible refine (bigof_any y.amt _ HYI.out.1 HYI.out.2).mono ?_)
                  rintro e w4 ⟨⟨q1, rfl, hq1⟩, g1⟩
                  have p1 := (Below.refl w3.heap.size w3).drew.trans (g1.mono (Below.refl w3.heap.size w3).drew.size)
                  replace b2 := cellUp b2 p1
                  refine hK _ _ b2 ?_
                  clear hK K' g1
                  try simp only [Act.put, List.getElem_toArray, List.getElem_cons_zero, List.getElem_cons_succ, List.setIfInBounds_toArray, List.set_cons_zero, List.set_cons_succ]
                  refine till_one (i := 7) (by kernel_rfl) rfl (fun K' hK => ?_)
                  go_simp
                  go_at_call 40
                  (with_reducible refine (bigof_any y'.amt _ HZI.out.1 HZI.out.2).mono ?_)
                  rintro e w5 ⟨⟨q2, rfl, hq2⟩, g2⟩
                  have p2 := p1.trans (g2.mono p1.size)
                  replace hq1 := hq1.below g2
                  replace b2 := cellUp b2 g2
                  refine hK _ _ b2 ?_
                  clear hK K' g2 p1
                  try simp only [Act.put, List.getElem_toArray, List.getElem_cons_zero, List.getElem_cons_succ, List.setIfInBounds_toArray, List.set_cons_zero, List.set_cons_succ]
                  refine till_one (i := 8) (by kernel_rfl) rfl (fun K' hK => ?_)
                  go_simp
                  go_at_call 42
                  (with_reducible refine (minus_any _ _ _ hq2).mono ?_)
                  rintro e w6 ⟨⟨q3, rfl, hq3⟩, g3⟩
                  have p3 := p2.trans (g3.mono p2.size)
                  replace hq1 := hq1.below g3
                  replace b2 := cellUp b2 g3
                  refine hK _ _ b2 ?_
                  clear hK K' g3 p2 hq2
                  try simp only [Act.put, List.getElem_toArray, List.getElem_cons_zero, List.getElem_cons_succ, List.setIfInBounds_toArray, List.set_cons_zero, List.set_cons_succ]
                  refine till_last (by kernel_rfl) rfl (by kernel_rfl) (fun K' hK => ?_)
                  go_simp
                  go_at_call 58
                  (with_reducible refine (bigcmp_any _ _ y.amt (-y'.amt) _ hq1 hq3 (Sm.int _ (by have := HYI.out; omega)) (Sm.int _ (by have := HZI.out; omega))).mono ?_)
                  rintro e w7 ⟨rfl, g4⟩
                  have p4 := p3.trans (g4.mono p3.size)
                  obtain ⟨Cv, hCv⟩ : ∃ C, C = cmpZ y.amt (-y'.amt) := ⟨_, rfl⟩
                  have HCV : Hid ((0 < Cv) ↔ -y'.amt < y.amt) := by
                    rw [hCv]
                    show _ ↔ _
                    unfold cmpZ
                    split
                    · constructor <;> intro <;> omega
                    · split <;> (constructor <;> intro <;> omega)
                  rw [← hCv]
                  refine hK _ _ ?_
                  clear hK K' g4 p3 hq1 hq3 hCv b2
                  try simp only [Act.put, List.getElem_toArray, List.getElem_cons_zero, List.getElem_cons_succ, List.setIfInBounds_toArray, List.set_cons_zero, List.set_cons_succ]
                  replace HM := Lib.hid (HM.out.below p4)
                  replace HA0 := Lib.hid (cellUp HA0.out p4)
                  replace HB0 := Lib.hid (cellUp HB0.out p4)
                  replace HB2 := Lib.hid (cellUp HB2.out p4)
                  clear p4
                  refine any_take (i := 10) (v := ?_) rfl (by kernel_rfl) (fun _ _ _ h => h) (Or.inl ⟨by rfl, ?_⟩) ?_
                  rotate_left
                  · intro W
                    go_simp
                    try with_reducible rfl
                  try simp only [Act.put, List.getElem_toArray, List.getElem_cons_zero, List.getElem_cons_succ, List.setIfInBounds_toArray, List.set_cons_zero, List.set_cons_succ]
                  refine wpAny_done (by kernel_rfl) ?_ _
                  by_cases hq : 0 < Cv
                  · have hd : decide (0 < Cv) = true := decide_eq_true hq
                    have hgt := HCV.out.1 hq
                    have HNN : Hid (-y'.amt = min y.amt (-y'.amt)) := by show _ = _; omega
                    have hw : IntKind.i64.wrap (-y'.amt) = -y'.amt := IntWalk.i64_in _ (by have := HZI.out; have := HYI.out; omega)
                    have b2 := HB2.out
                    rw [hd]
                    clear HCV hq hgt hd
                    go_upto_region 24 with (fail)
                    clear b2 hw
                    obtain ⟨N, hN⟩ : ∃ N, N = min y.amt (-y'.amt) := ⟨_, rfl⟩
                    have HNXT := Lib.hid (HNX.out N hN)
                    have hVN : (-y'.amt) = N := HNN.out.trans hN.symm
                    rw [hVN]
                    clear hVN hN
                    have a0 := HA0.out
                    have b0 := HB0.out
                    have hal : Below w7.heap.size w7 (w7.alloc (.cells #[.string y.party, .string y'.party, .string c, .int .i64 N] 40)).drew := (below_newL w7 _).drew
                    have HM2 := Lib.hid (HM.out.below hal)
                    have HSB : Hid (w.heap.size ≤ (w7.alloc (.cells #[.string y.party, .string y'.party, .string c, .int .i64 N] 40)).drew.heap.size) := HM2.out.bel.size
                    have HCN : Hid (∀ j u, [Value.string y.party, .string y'.party, .string c, .int .i64 N][j]? = some u → (w7.alloc (.cells #[.string y.party, .string y'.party, .string c, .int .i64 N] 40)).drew.cell? ((⟨w7.heap.size, 0, none⟩ : Addr).add j) = some u) := lit_cells_at w7 #[.string y.party, .string y'.party, .string c, .int .i64 N] 40 w7.heap.size rfl
                    have a0' := cellUp a0 hal
                    have b0' := cellUp b0 hal
                    have HKM : Hid (out.length + 1 ≤ maxLen ∧ (out.length + 1) * 56 ≤ 140737488355328) := by
                      have hmx : maxLen = 9223372036854775807 := by decide
                      have := HOL.out
                      exact ⟨by omega, by omega⟩
                    clear hal HM HA0 HB0 HA2 HB2 HNX HNN
                    refine wp_region_till (S := fun W => W.cell? ⟨g, r * 3, none⟩ = some (.string y.party) ∧ W.cell? ⟨g, p * 3, none⟩ = some (.string y'.party)) 15 (by kernel_rfl) ?_
                    refine till_take (i := 0) (v := ?_) rfl (by kernel_rfl) (fun _ _ _ h => h) (Or.inl ⟨by rfl, ?_⟩) ⟨a0,b0⟩ ?_
                    rotate_left
                    · intro W hS
                      try dsimp only at hS
                      go_split_ands
                      go_simp
                      try with_reducible rfl
                    try simp only [Act.put, List.getElem_toArray, List.getElem_cons_zero, List.getElem_cons_succ, List.setIfInBounds_toArray, List.set_cons_zero, List.set_cons_succ]
                    refine till_take (i := 1) (v := ?_) rfl (by kernel_rfl) (fun _ _ _ h => h) (Or.inl ⟨by rfl, ?_⟩) ⟨a0,b0⟩ ?_
                    rotate_left
                    · intro W hS
                      try dsimp only at hS
                      go_split_ands
                      go_simp
                      try with_reducible rfl
                    try simp only [Act.put, List.getElem_toArray, List.getElem_cons_zero, List.getElem_cons_succ, List.setIfInBounds_toArray, List.set_cons_zero, List.set_cons_succ]
                    refine till_take (i := 2) (v := ?_) rfl (by kernel_rfl) (fun _ _ _ h => h) (Or.inl ⟨by rfl, ?_⟩) ⟨a0,b0⟩ ?_
                    rotate_left
                    · intro W hS
                      try dsimp only at hS
                      go_split_ands
                      go_simp
                      try with_reducible rfl
                    try simp only [Act.put, List.getElem_toArray, List.getElem_cons_zero, List.getElem_cons_succ, List.setIfInBounds_toArray, List.set_cons_zero, List.set_cons_succ]
                    refine till_take (i := 3) (v := ?_) rfl (by kernel_rfl) (fun _ _ _ h => h) (Or.inl ⟨by rfl, ?_⟩) ⟨a0,b0⟩ ?_
                    rotate_left
                    · intro W hS
                      try dsimp only at hS
                      go_split_ands
                      go_simp
                      try with_reducible rfl
                    try simp only [Act.put, List.getElem_toArray, List.getElem_cons_zero, List.getElem_cons_succ, List.setIfInBounds_toArray, List.set_cons_zero, List.set_cons_succ]
                    refine till_take (i := 4) (v := ?_) rfl (by kernel_rfl) (fun _ _ _ h => h) (Or.inl ⟨by rfl, ?_⟩) ⟨a0,b0⟩ ?_
                    rotate_left
                    · intro W hS
                      try dsimp only at hS
                      go_split_ands
                      go_simp
                      try with_reducible rfl
                    try simp only [Act.put, List.getElem_toArray, List.getElem_cons_zero, List.getElem_cons_succ, List.setIfInBounds_toArray, List.set_cons_zero, List.set_cons_succ]
                    refine till_take (i := 5) (v := ?_) rfl (by kernel_rfl) (fun _ _ _ h => h) (Or.inl ⟨by rfl, ?_⟩) ⟨a0,b0⟩ ?_
                    rotate_left
                    · intro W hS
                      try dsimp only at hS
                      go_split_ands
                      go_simp
                      try with_reducible rfl
                    try simp only [Act.put, List.getElem_toArray, List.getElem_cons_zero, List.getElem_cons_succ, List.setIfInBounds_toArray, List.set_cons_zero, List.set_cons_succ]
                    refine till_take (i := 6) (v := ?_) rfl (by kernel_rfl) (fun _ _ _ h => h) (Or.inl ⟨by rfl, ?_⟩) ⟨a0,b0⟩ ?_
                    rotate_left
                    · intro W hS
                      try dsimp only at hS
                      go_split_ands
                      go_simp
                      try with_reducible rfl
                    try simp only [Act.put, List.getElem_toArray, List.getElem_cons_zero, List.getElem_cons_succ, List.setIfInBounds_toArray, List.set_cons_zero, List.set_cons_succ]
                    refine till_take (i := 7) (v := ?_) rfl (by kernel_rfl) (fun _ _ _ h => h) (Or.inl ⟨by rfl, ?_⟩) ⟨a0,b0⟩ ?_
                    rotate_left
                    · intro W hS
                      try dsimp only at hS
                      go_split_ands
                      go_simp
                      try with_reducible rfl
                    try simp only [Act.put, List.getElem_toArray, List.getElem_cons_zero, List.getElem_cons_succ, List.setIfInBounds_toArray, List.set_cons_zero, List.set_cons_succ]
                    refine till_take (i := 8) (v := ?_) rfl (by kernel_rfl) (fun _ _ _ h => h) (Or.inl ⟨by rfl, ?_⟩) ⟨a0,b0⟩ ?_
                    rotate_left
                    · intro W hS
                      try dsimp only at hS
                      go_split_ands
                      go_simp
                      try with_reducible rfl
                    try simp only [Act.put, List.getElem_toArray, List.getElem_cons_zero, List.getElem_cons_succ, List.setIfInBounds_toArray, List.set_cons_zero, List.set_cons_succ]
                    refine till_take (i := 9) (v := ?_) rfl (by kernel_rfl) (fun _ _ _ h => h) (Or.inl ⟨by rfl, ?_⟩) ⟨a0,b0⟩ ?_
                    rotate_left
                    · intro W hS
                      try dsimp only at hS
                      go_split_ands
                      go_simp
                      try with_reducible rfl
                    try simp only [Act.put, List.getElem_toArray, List.getElem_cons_zero, List.getElem_cons_succ, List.setIfInBounds_toArray, List.set_cons_zero, List.set_cons_succ]
                    refine till_take (i := 10) (v := ?_) rfl (by kernel_rfl) (fun _ _ _ h => h) (Or.inl ⟨by rfl, ?_⟩) ⟨a0,b0⟩ ?_
                    rotate_left
                    · intro W hS
                      try dsimp only at hS
                      go_split_ands
                      go_simp
                      try with_reducible rfl
                    try simp only [Act.put, List.getElem_toArray, List.getElem_cons_zero, List.getElem_cons_succ, List.setIfInBounds_toArray, List.set_cons_zero, List.set_cons_succ]
                    refine till_take (i := 11) (v := ?_) rfl (by kernel_rfl) (fun _ _ _ h => h) (Or.inl ⟨by rfl, ?_⟩) ⟨a0,b0⟩ ?_
                    rotate_left
                    · intro W hS
                      try dsimp only at hS
                      go_split_ands
                      go_simp
                      try with_reducible rfl
                    try simp only [Act.put, List.getElem_toArray, List.getElem_cons_zero, List.getElem_cons_succ, List.setIfInBounds_toArray, List.set_cons_zero, List.set_cons_succ]
                    refine till_take (i := 12) (v := ?_) rfl (by kernel_rfl) (fun _ _ _ h => h) (Or.inl ⟨by rfl, ?_⟩) ⟨a0,b0⟩ ?_
                    rotate_left
                    · intro W hS
                      try dsimp only at hS
                      go_split_ands
                      go_simp
                      try with_reducible rfl
                    try simp only [Act.put, List.getElem_toArray, List.getElem_cons_zero, List.getElem_cons_succ, List.setIfInBounds_toArray, List.set_cons_zero, List.set_cons_succ]
                    refine till_take (i := 13) (v := ?_) rfl (by kernel_rfl) (fun _ _ _ h => h) (Or.inl ⟨by rfl, ?_⟩) ⟨a0,b0⟩ ?_
                    rotate_left
                    · intro W hS
                      try dsimp only at hS
                      go_split_ands
                      go_simp
                      try with_reducible rfl
                    try simp only [Act.put, List.getElem_toArray, List.getElem_cons_zero, List.getElem_cons_succ, List.setIfInBounds_toArray, List.set_cons_zero, List.set_cons_succ]
                    refine till_one (i := 14) (by kernel_rfl) rfl (fun K' hK => ?_)
                    go_simp
                    refine hK _ _ ⟨a0', b0'⟩ ?_
                    clear hK K' a0' b0' a0 b0
                    generalize (w7.alloc (.cells #[.string y.party, .string y'.party, .string c, .int .i64 N] 40)).drew = w8 at *
                    obtain ⟨nb, hnb⟩ : ∃ z, z = w7.heap.size := ⟨_, rfl⟩
                    rw [← hnb] at HCN ⊢
                    clear hnb
                    try simp only [Act.put, List.getElem_toArray, List.getElem_cons_zero, List.getElem_cons_succ, List.setIfInBounds_toArray, List.set_cons_zero, List.set_cons_succ]
                    refine till_last (by kernel_rfl) rfl (by kernel_rfl) (fun K' hK => ?_)
                    refine step_ap infoRM Try.underlying23 rfl (by decide) rfl (.tmp 103) (.tmp 117) rfl rfl HM2.out.rowO HSB.out ⟨nb, 0, none⟩ 1 1 [.string y.party, .string y'.party, .string c, .int .i64 N] rfl rfl HCN.out (by simp [Value.oneCell']) HKM.out.1 HKM.out.2 ?_
                    intro v9 w9 o1 g1 hv1
                    obtain ⟨qa, qc, rfl⟩ := own_slice o1
                    have HM9 : Hid (RcMem w w9 l' (out ++ [⟨y.party, y'.party, c, N⟩]) (.slice (some ⟨g, 0, none⟩) i oc) (.slice qa (out.length + 1) qc)) := by
                      refine ⟨HM2.out.bel.grown g1 HM2.out.bel.size (fun k e => (own_lt HM2.out.rowO e).1), own_grown HM2.out.rowL g1 (fun k hk e => row_ne HM2.out.rowL HM2.out.rowO (by decide) hk e), ?_⟩
                      rw [outM_append, outM_one, List.length_append]
                      exact o1
                    have HON : Hid (out.length + 1 = (out ++ [⟨y.party, y'.party, c, N⟩] : List Mv).length) := by show _ = _; rw [List.length_append]; rfl
                    have HYV : Hid (IntKind.i64.wrap (y.amt - N) = y.amt - N ∧ IntKind.i64.wrap (y'.amt + N) = y'.amt + N) := by
                      have h1 := HNXT.out.2.pos
                      have h2 := HNXT.out.2.neg
                      have h3 := HNXT.out.2.hn
                      have h4 := HYI.out
                      have h5 := HZI.out
                      exact ⟨IntWalk.i64_in _ (by omega), IntWalk.i64_in _ (by omega)⟩
                    have HSE := Lib.hid (adj_set2 (N := N) HDI.out HX.out HZ.out (HNXT.out.2.ne HDI.out))
                    have hrt : r < i := by omega
                    have hpt : p < i := by omega
                    have hrow := HM9.out.rowL
                    rw [HLE.out] at hrow
                    obtain ⟨g', cap2, y2, hv2, hy2, -, -, k2, hfz2⟩ := rowA_at hrow HLE.out r hrt
                    injection hv2 with e1 _ e3
                    injection e1 with e1; injection e1 with e1; subst e1
                    obtain rfl : y = y2 := by rw [HX.out] at hy2; exact Option.some.inj hy2
                    have hff1 := hfz2 (r * 3 + 2)
                    have HS1 := Lib.hid (HM9.out.set HX.out (y.amt - N))
                    have hrow1 := HS1.out.rowL
                    rw [List.length_set, HLE.out] at hrow1
                    obtain ⟨g', cap3, z2, hv3, hz2, -, -, j2, hfz3⟩ := rowA_at hrow1 (by rw [List.length_set, HLE.out]) p hpt
                    injection hv3 with e4 _ e6
                    injection e4 with e4; injection e4 with e4; subst e4
                    obtain rfl : y' = z2 := by rw [HSE.out.1] at hz2; exact Option.some.inj hz2
                    have hff2 := hfz3 (p * 3 + 2)
                    have HS2 := Lib.hid (HS1.out.set HSE.out.1 (y'.amt + N))
                    have hw1 := HYV.out.1
                    have hw2 := HYV.out.2
                    rw [HSE.out.2] at HS2
                    refine hK _ _ ?_
                    clear hK K' o1 g1 hv1 HM2 HSB HCN HKM HM9 hrow hrow1 hfz hfz2 hfz3 HS1 HYV hrt hpt hy2 hz2 e3 e6
                    try simp only [Act.put, List.getElem_toArray, List.getElem_cons_zero, List.getElem_cons_succ, List.setIfInBounds_toArray, List.set_cons_zero, List.set_cons_succ]
                    refine any_take (i := 16) (v := ?_) rfl (by kernel_rfl) (fun _ _ _ h => h) (Or.inl ⟨by rfl, ?_⟩) ?_
                    rotate_left
                    · intro W
                      go_simp
                      try with_reducible rfl
                    try simp only [Act.put, List.getElem_toArray, List.getElem_cons_zero, List.getElem_cons_succ, List.setIfInBounds_toArray, List.set_cons_zero, List.set_cons_succ]
                    refine wpAny_done (by kernel_rfl) ?_ _
                    have HJ2 := Lib.hid j2
                    have HF2 := Lib.hid hff2
                    clear j2 hff2
                    go_upto_region 26 with (fail)
                    clear k2 hff1
                    generalize (w9.setCell ⟨g, r * 3 + 2, none⟩ (.int .i64 (y.amt - N))) = w10 at *
                    have j2 := HJ2.out
                    have hff2 := HF2.out
                    go_wp2_with fail
                    rw [HON.out] at HS2 ⊢
                    go_roundw
                    case rel => exact ⟨m + 1, _, _, qa, qc, rfl, by go_num, by have := HMT.out; omega, HS2.out, HNXT.out.1, by show _ = _; rw [adjL_map, List.length_map]; exact HLE.out⟩
                    case measure => simp [intOf]; have := HMT.out; omega
                  · have hd : decide (0 < Cv) = false := decide_eq_false hq
                    have hgt : ¬ -y'.amt < y.amt := fun h => hq (HCV.out.2 h)
                    have HNN : Hid (y.amt = min y.amt (-y'.amt)) := by show _ = _; omega
                    rw [hd]
                    clear HCV hq hgt hd
                    go_upto_region 24 with (fail)
                    obtain ⟨N, hN⟩ : ∃ N, N = min y.amt (-y'.amt) := ⟨_, rfl⟩
                    have HNXT := Lib.hid (HNX.out N hN)
                    have hVN : y.amt = N := HNN.out.trans hN.symm
                    rw [hVN]
                    clear hVN hN
                    have a0 := HA0.out
                    have b0 := HB0.out
                    have hal : Below w7.heap.size w7 (w7.alloc (.cells #[.string y.party, .string y'.party, .string c, .int .i64 N] 40)).drew := (below_newL w7 _).drew
                    have HM2 := Lib.hid (HM.out.below hal)
                    have HSB : Hid (w.heap.size ≤ (w7.alloc (.cells #[.string y.party, .string y'.party, .string c, .int .i64 N] 40)).drew.heap.size) := HM2.out.bel.size
                    have HCN : Hid (∀ j u, [Value.string y.party, .string y'.party, .string c, .int .i64 N][j]? = some u → (w7.alloc (.cells #[.string y.party, .string y'.party, .string c, .int .i64 N] 40)).drew.cell? ((⟨w7.heap.size, 0, none⟩ : Addr).add j) = some u) := lit_cells_at w7 #[.string y.party, .string y'.party, .string c, .int .i64 N] 40 w7.heap.size rfl
                    have a0' := cellUp a0 hal
                    have b0' := cellUp b0 hal
                    have HKM : Hid (out.length + 1 ≤ maxLen ∧ (out.length + 1) * 56 ≤ 140737488355328) := by
                      have hmx : maxLen = 9223372036854775807 := by decide
                      have := HOL.out
                      exact ⟨by omega, by omega⟩
                    clear hal HM HA0 HB0 HA2 HB2 HNX HNN
                    refine wp_region_till (S := fun W => W.cell? ⟨g, r * 3, none⟩ = some (.string y.party) ∧ W.cell? ⟨g, p * 3, none⟩ = some (.string y'.party)) 15 (by kernel_rfl) ?_
                    refine till_take (i := 0) (v := ?_) rfl (by kernel_rfl) (fun _ _ _ h => h) (Or.inl ⟨by rfl, ?_⟩) ⟨a0,b0⟩ ?_
                    rotate_left
                    · intro W hS
                      try dsimp only at hS
                      go_split_ands
                      go_simp
                      try with_reducible rfl
                    try simp only [Act.put, List.getElem_toArray, List.getElem_cons_zero, List.getElem_cons_succ, List.setIfInBounds_toArray, List.set_cons_zero, List.set_cons_succ]
                    refine till_take (i := 1) (v := ?_) rfl (by kernel_rfl) (fun _ _ _ h => h) (Or.inl ⟨by rfl, ?_⟩) ⟨a0,b0⟩ ?_
                    rotate_left
                    · intro W hS
                      try dsimp only at hS
                      go_split_ands
                      go_simp
                      try with_reducible rfl
                    try simp only [Act.put, List.getElem_toArray, List.getElem_cons_zero, List.getElem_cons_succ, List.setIfInBounds_toArray, List.set_cons_zero, List.set_cons_succ]
                    refine till_take (i := 2) (v := ?_) rfl (by kernel_rfl) (fun _ _ _ h => h) (Or.inl ⟨by rfl, ?_⟩) ⟨a0,b0⟩ ?_
                    rotate_left
                    · intro W hS
                      try dsimp only at hS
                      go_split_ands
                      go_simp
                      try with_reducible rfl
                    try simp only [Act.put, List.getElem_toArray, List.getElem_cons_zero, List.getElem_cons_succ, List.setIfInBounds_toArray, List.set_cons_zero, List.set_cons_succ]
                    refine till_take (i := 3) (v := ?_) rfl (by kernel_rfl) (fun _ _ _ h => h) (Or.inl ⟨by rfl, ?_⟩) ⟨a0,b0⟩ ?_
                    rotate_left
                    · intro W hS
                      try dsimp only at hS
                      go_split_ands
                      go_simp
                      try with_reducible rfl
                    try simp only [Act.put, List.getElem_toArray, List.getElem_cons_zero, List.getElem_cons_succ, List.setIfInBounds_toArray, List.set_cons_zero, List.set_cons_succ]
                    refine till_take (i := 4) (v := ?_) rfl (by kernel_rfl) (fun _ _ _ h => h) (Or.inl ⟨by rfl, ?_⟩) ⟨a0,b0⟩ ?_
                    rotate_left
                    · intro W hS
                      try dsimp only at hS
                      go_split_ands
                      go_simp
                      try with_reducible rfl
                    try simp only [Act.put, List.getElem_toArray, List.getElem_cons_zero, List.getElem_cons_succ, List.setIfInBounds_toArray, List.set_cons_zero, List.set_cons_succ]
                    refine till_take (i := 5) (v := ?_) rfl (by kernel_rfl) (fun _ _ _ h => h) (Or.inl ⟨by rfl, ?_⟩) ⟨a0,b0⟩ ?_
                    rotate_left
                    · intro W hS
                      try dsimp only at hS
                      go_split_ands
                      go_simp
                      try with_reducible rfl
                    try simp only [Act.put, List.getElem_toArray, List.getElem_cons_zero, List.getElem_cons_succ, List.setIfInBounds_toArray, List.set_cons_zero, List.set_cons_succ]
                    refine till_take (i := 6) (v := ?_) rfl (by kernel_rfl) (fun _ _ _ h => h) (Or.inl ⟨by rfl, ?_⟩) ⟨a0,b0⟩ ?_
                    rotate_left
                    · intro W hS
                      try dsimp only at hS
                      go_split_ands
                      go_simp
                      try with_reducible rfl
                    try simp only [Act.put, List.getElem_toArray, List.getElem_cons_zero, List.getElem_cons_succ, List.setIfInBounds_toArray, List.set_cons_zero, List.set_cons_succ]
                    refine till_take (i := 7) (v := ?_) rfl (by kernel_rfl) (fun _ _ _ h => h) (Or.inl ⟨by rfl, ?_⟩) ⟨a0,b0⟩ ?_
                    rotate_left
                    · intro W hS
                      try dsimp only at hS
                      go_split_ands
                      go_simp
                      try with_reducible rfl
                    try simp only [Act.put, List.getElem_toArray, List.getElem_cons_zero, List.getElem_cons_succ, List.setIfInBounds_toArray, List.set_cons_zero, List.set_cons_succ]
                    refine till_take (i := 8) (v := ?_) rfl (by kernel_rfl) (fun _ _ _ h => h) (Or.inl ⟨by rfl, ?_⟩) ⟨a0,b0⟩ ?_
                    rotate_left
                    · intro W hS
                      try dsimp only at hS
                      go_split_ands
                      go_simp
                      try with_reducible rfl
                    try simp only [Act.put, List.getElem_toArray, List.getElem_cons_zero, List.getElem_cons_succ, List.setIfInBounds_toArray, List.set_cons_zero, List.set_cons_succ]
                    refine till_take (i := 9) (v := ?_) rfl (by kernel_rfl) (fun _ _ _ h => h) (Or.inl ⟨by rfl, ?_⟩) ⟨a0,b0⟩ ?_
                    rotate_left
                    · intro W hS
                      try dsimp only at hS
                      go_split_ands
                      go_simp
                      try with_reducible rfl
                    try simp only [Act.put, List.getElem_toArray, List.getElem_cons_zero, List.getElem_cons_succ, List.setIfInBounds_toArray, List.set_cons_zero, List.set_cons_succ]
                    refine till_take (i := 10) (v := ?_) rfl (by kernel_rfl) (fun _ _ _ h => h) (Or.inl ⟨by rfl, ?_⟩) ⟨a0,b0⟩ ?_
                    rotate_left
                    · intro W hS
                      try dsimp only at hS
                      go_split_ands
                      go_simp
                      try with_reducible rfl
                    try simp only [Act.put, List.getElem_toArray, List.getElem_cons_zero, List.getElem_cons_succ, List.setIfInBounds_toArray, List.set_cons_zero, List.set_cons_succ]
                    refine till_take (i := 11) (v := ?_) rfl (by kernel_rfl) (fun _ _ _ h => h) (Or.inl ⟨by rfl, ?_⟩) ⟨a0,b0⟩ ?_
                    rotate_left
                    · intro W hS
                      try dsimp only at hS
                      go_split_ands
                      go_simp
                      try with_reducible rfl
                    try simp only [Act.put, List.getElem_toArray, List.getElem_cons_zero, List.getElem_cons_succ, List.setIfInBounds_toArray, List.set_cons_zero, List.set_cons_succ]
                    refine till_take (i := 12) (v := ?_) rfl (by kernel_rfl) (fun _ _ _ h => h) (Or.inl ⟨by rfl, ?_⟩) ⟨a0,b0⟩ ?_
                    rotate_left
                    · intro W hS
                      try dsimp only at hS
                      go_split_ands
                      go_simp
                      try with_reducible rfl
                    try simp only [Act.put, List.getElem_toArray, List.getElem_cons_zero, List.getElem_cons_succ, List.setIfInBounds_toArray, List.set_cons_zero, List.set_cons_succ]
                    refine till_take (i := 13) (v := ?_) rfl (by kernel_rfl) (fun _ _ _ h => h) (Or.inl ⟨by rfl, ?_⟩) ⟨a0,b0⟩ ?_
                    rotate_left
                    · intro W hS
                      try dsimp only at hS
                      go_split_ands
                      go_simp
                      try with_reducible rfl
                    try simp only [Act.put, List.getElem_toArray, List.getElem_cons_zero, List.getElem_cons_succ, List.setIfInBounds_toArray, List.set_cons_zero, List.set_cons_succ]
                    refine till_one (i := 14) (by kernel_rfl) rfl (fun K' hK => ?_)
                    go_simp
                    refine hK _ _ ⟨a0', b0'⟩ ?_
                    clear hK K' a0' b0' a0 b0
                    generalize (w7.alloc (.cells #[.string y.party, .string y'.party, .string c, .int .i64 N] 40)).drew = w8 at *
                    obtain ⟨nb, hnb⟩ : ∃ z, z = w7.heap.size := ⟨_, rfl⟩
                    rw [← hnb] at HCN ⊢
                    clear hnb
                    try simp only [Act.put, List.getElem_toArray, List.getElem_cons_zero, List.getElem_cons_succ, List.setIfInBounds_toArray, List.set_cons_zero, List.set_cons_succ]
                    refine till_last (by kernel_rfl) rfl (by kernel_rfl) (fun K' hK => ?_)
                    refine step_ap infoRM Try.underlying23 rfl (by decide) rfl (.tmp 103) (.tmp 117) rfl rfl HM2.out.rowO HSB.out ⟨nb, 0, none⟩ 1 1 [.string y.party, .string y'.party, .string c, .int .i64 N] rfl rfl HCN.out (by simp [Value.oneCell']) HKM.out.1 HKM.out.2 ?_
                    intro v9 w9 o1 g1 hv1
                    obtain ⟨qa, qc, rfl⟩ := own_slice o1
                    have HM9 : Hid (RcMem w w9 l' (out ++ [⟨y.party, y'.party, c, N⟩]) (.slice (some ⟨g, 0, none⟩) i oc) (.slice qa (out.length + 1) qc)) := by
                      refine ⟨HM2.out.bel.grown g1 HM2.out.bel.size (fun k e => (own_lt HM2.out.rowO e).1), own_grown HM2.out.rowL g1 (fun k hk e => row_ne HM2.out.rowL HM2.out.rowO (by decide) hk e), ?_⟩
                      rw [outM_append, outM_one, List.length_append]
                      exact o1
                    have HON : Hid (out.length + 1 = (out ++ [⟨y.party, y'.party, c, N⟩] : List Mv).length) := by show _ = _; rw [List.length_append]; rfl
                    have HYV : Hid (IntKind.i64.wrap (y.amt - N) = y.amt - N ∧ IntKind.i64.wrap (y'.amt + N) = y'.amt + N) := by
                      have h1 := HNXT.out.2.pos
                      have h2 := HNXT.out.2.neg
                      have h3 := HNXT.out.2.hn
                      have h4 := HYI.out
                      have h5 := HZI.out
                      exact ⟨IntWalk.i64_in _ (by omega), IntWalk.i64_in _ (by omega)⟩
                    have HSE := Lib.hid (adj_set2 (N := N) HDI.out HX.out HZ.out (HNXT.out.2.ne HDI.out))
                    have hrt : r < i := by omega
                    have hpt : p < i := by omega
                    have hrow := HM9.out.rowL
                    rw [HLE.out] at hrow
                    obtain ⟨g', cap2, y2, hv2, hy2, -, -, k2, hfz2⟩ := rowA_at hrow HLE.out r hrt
                    injection hv2 with e1 _ e3
                    injection e1 with e1; injection e1 with e1; subst e1
                    obtain rfl : y = y2 := by rw [HX.out] at hy2; exact Option.some.inj hy2
                    have hff1 := hfz2 (r * 3 + 2)
                    have HS1 := Lib.hid (HM9.out.set HX.out (y.amt - N))
                    have hrow1 := HS1.out.rowL
                    rw [List.length_set, HLE.out] at hrow1
                    obtain ⟨g', cap3, z2, hv3, hz2, -, -, j2, hfz3⟩ := rowA_at hrow1 (by rw [List.length_set, HLE.out]) p hpt
                    injection hv3 with e4 _ e6
                    injection e4 with e4; injection e4 with e4; subst e4
                    obtain rfl : y' = z2 := by rw [HSE.out.1] at hz2; exact Option.some.inj hz2
                    have hff2 := hfz3 (p * 3 + 2)
                    have HS2 := Lib.hid (HS1.out.set HSE.out.1 (y'.amt + N))
                    have hw1 := HYV.out.1
                    have hw2 := HYV.out.2
                    rw [HSE.out.2] at HS2
                    refine hK _ _ ?_
                    clear hK K' o1 g1 hv1 HM2 HSB HCN HKM HM9 hrow hrow1 hfz hfz2 hfz3 HS1 HYV hrt hpt hy2 hz2 e3 e6
                    try simp only [Act.put, List.getElem_toArray, List.getElem_cons_zero, List.getElem_cons_succ, List.setIfInBounds_toArray, List.set_cons_zero, List.set_cons_succ]
                    refine any_take (i := 16) (v := ?_) rfl (by kernel_rfl) (fun _ _ _ h => h) (Or.inl ⟨by rfl, ?_⟩) ?_
                    rotate_left
                    · intro W
                      go_simp
                      try with_reducible rfl
                    try simp only [Act.put, List.getElem_toArray, List.getElem_cons_zero, List.getElem_cons_succ, List.setIfInBounds_toArray, List.set_cons_zero, List.set_cons_succ]
                    refine wpAny_done (by kernel_rfl) ?_ _
                    have HJ2 := Lib.hid j2
                    have HF2 := Lib.hid hff2
                    clear j2 hff2
                    go_upto_region 26 with (fail)
                    clear k2 hff1
                    generalize (w9.setCell ⟨g, r * 3 + 2, none⟩ (.int .i64 (y.amt - N))) = w10 at *
                    have j2 := HJ2.out
                    have hff2 := HF2.out
                    go_wp2_with fail
                    rw [HON.out] at HS2 ⊢
                    go_roundw
                    case rel => exact ⟨m + 1, _, _, qa, qc, rfl, by go_num, by have := HMT.out; omega, HS2.out, HNXT.out.1, by show _ = _; rw [adjL_map, List.length_map]; exact HLE.out⟩
                    case measure => simp [intOf]; have := HMT.out; omega
        · have hmt' : ¬ (m : Int) < (len : Int) := by omega
          have HCL : Hid (Clr c (coinF c l) out) := HT.out.fin (by
            have h := HT.out.cnt
            exact List.length_eq_zero_iff.1 (by omega))
          have HF : Hid (∃ a' c', Value.slice pa out.length pc = .slice a' out.length c' ∧ SlR mvK _ [] out a' out.length c') := outM_any HM.out.rowO HM.out.bel HT.out.ok
          have HBB := Lib.hid HM.out.bel
          clear HM HT
          go_wp2_with fail
          go_ret
          obtain ⟨a', c', e, hs⟩ := HF.out
          exact ⟨⟨out, a', c', by rw [e]; rfl, hs, HCL.out⟩, HBB.out⟩
end Go.Proofs.Ytgbiimoednmlgaa
