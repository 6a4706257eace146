/- A part of the proof: LdF, LdG, LdK, LdL, LdJ, ToW, Bld, one behind another. -/
import Derived.Test.YtgbiimoednmlgaaMSA
import Derived.Test.YtgbiimoednmlgaaMSB
import Derived.Test.YtgbiimoednmlgaaMSC
import Derived.Test.YtgbiimoednmlgaaMSD
import Derived.Test.YtgbiimoednmlgaaMSE
import Derived.Test.YtgbiimoednmlgaaMSF
import Derived.Test.YtgbiimoednmlgaaMSG
import Derived.Test.YtgbiimoednmlgaaMSH
/- The contracts of sums, Even. -/
namespace Go.Proofs.Ytgbiimoednmlgaa
set_option linter.unusedVariables false
set_option linter.unusedSimpArgs false
open Go.RowKit
theorem ints_row {base : Nat} {w : World} {L : List Int} {a : Option Addr} {c : Nat} (hr : w.ownsRow base 2 1 (.slice a L.length c) L.length (intC L)) (hI : ∀ n ∈ L, I64 n) : IntsAt w L a L.length := by
  refine ⟨rfl, fun j n hj => ⟨hI n (List.mem_of_getElem? hj), ?_⟩⟩
  have hjl := (List.getElem?_eq_some_iff.1 hj).1
  obtain ⟨g, cap, hv, -⟩ := own_form hr (by omega)
  injection hv with e1 _ e3
  subst e1; subst e3
  refine ⟨g, 0, rfl, ?_⟩
  rw [Nat.zero_add, hr.cellAt j (by omega)]
  unfold intC
  rw [List.getElem?_map, hj]; rfl
theorem intC_append (a b : List Int) : intC (a ++ b) = intC a ++ intC b := by unfold intC; rw [List.map_append]
/-- A currency's amounts. -/
def amtA (l : List Acct) (c : List UInt8) : List Int := (l.filter (fun a => a.key.2 == c)).map (fun a => a.amt)
theorem amtA_sum (l : List Acct) (c : List UInt8) : (amtA l c).sum = coinA l c := rfl
theorem amtA_take {l : List Acct} {k : Nat} {x : Acct} (h : l[k]? = some x) (c : List UInt8) : amtA (l.take (k + 1)) c = amtA (l.take k) c ++ (if x.coin.data.toList = c then [x.amt] else []) := by
  obtain ⟨hk, e⟩ := List.getElem?_eq_some_iff.1 h
  rw [← List.take_append_getElem hk, e]
  unfold amtA
  rw [List.filter_append, List.map_append]
  congr 1
  have : x.key.2 = x.coin.data.toList := rfl
  by_cases hc : x.coin.data.toList = c
  · rw [if_pos hc, List.filter_cons_of_pos (by rw [this]; simpa using hc)]; rfl
  · rw [if_neg hc, List.filter_cons_of_neg (by rw [this]; simpa using hc)]; rfl
theorem amtA_len (l : List Acct) (c : List UInt8) : (amtA l c).length ≤ l.length := by unfold amtA; rw [List.length_map]; exact List.length_filter_le ..
theorem amtA_rng {l : List Acct} (h : ∀ a ∈ l, AcctOk a) (c : List UInt8) : ∀ n ∈ amtA l c, I64 n := by
  intro n hn
  unfold amtA at hn
  obtain ⟨a, ha, rfl⟩ := List.mem_map.1 hn
  exact (h a (List.mem_filter.1 ha).1).amt
set_option maxRecDepth 100000 in
set_option maxHeartbeats 4000000 in
theorem sums_any (l : List Acct) (a : Option Addr) (len cap : Nat) (c : ByteArray) (w : World) (h : SlR acctK w [] l a len cap) (hlen : len ≤ 1000000) :
    Calls Try.prog 46 #[.slice a len cap, .string c] w fun y w' => y = .returned (.bool (decide (coinA l c.data.toList = 0))) ∧ Below w.heap.size w w' := by
  have HS := Lib.hid h
  have HL := Lib.hid h.facts.1
  have HN := Lib.hid hlen
  have HOK := Lib.hid (acct_ok h)
  obtain ⟨R, hR⟩ : ∃ R, R = decide (coinA l c.data.toList = 0) := ⟨_, rfl⟩
  have HR := Lib.hid hR
  rw [← hR]
  clear h hlen hR
  go_enter Try.func46, Try.ntmps46
  go_wp2_with fail
  go_loopw [5, 12] (fun v i wr => ∃ (k : Nat) (oa : Option Addr) (oc : Nat), v = .slice oa (amtA (l.take k) c.data.toList).length oc ∧ i = .int .i64 (k : Nat) ∧ k ≤ len ∧ Hid (wr.ownsRow w.heap.size 2 1 (.slice oa (amtA (l.take k) c.data.toList).length oc) (amtA (l.take k) c.data.toList).length (intC (amtA (l.take k) c.data.toList)) ∧ Below w.heap.size w wr)) (fun _ i _ => len - (intOf i).toNat)
  case atStart =>
    have h0 : amtA (l.take 0) c.data.toList = [] := by rw [List.take_zero]; rfl
    exact ⟨0, none, 0, by rw [h0]; rfl, rfl, Nat.zero_le _, by rw [h0]; exact World.ownsRow_nil _ _ _ _, Below.refl _ _⟩
  case round =>
    obtain ⟨k, oa, oc, rfl, rfl, hk, HQ⟩ := hrel
    by_cases hlt : k < len
    · have hlt' : (k : Int) < (len : Int) := by omega
      have i0 : (0 : Int) ≤ (k : Int) := by omega
      have i1 : (k : Int) ≤ 1000000 := by have := HN.out; omega
      have HSR := Lib.hid (HS.out.kept (Kept.of_below HQ.out.2 []))
      obtain ⟨b, o, x, rfl, hx, -, u0, u1, u2⟩ := acct_at HSR.out k hlt
      have hal := (Below.refl wr.heap.size wr).alloc (Nat.le_refl _) (.cells #[.string x.party, .string x.coin, .int .i64 x.amt] 51)
      have BZ := Lib.hid (Mem.Blk.new wr 51 #[.string x.party, .string x.coin, .int .i64 x.amt])
      have HO2 := Lib.hid (own_below HQ.out.1 hal)
      have HB2 := Lib.hid (HQ.out.2.trans (hal.mono HQ.out.2.size))
      have HX := Lib.hid (amtA_take hx c.data.toList)
      have HKL := Lib.hid hlt
      have hsm := same_b x.coin c
      clear hal hx hlt HQ HSR
      go_upto_region 5 with (fail)
      generalize wr.heap.size = zb at *
      generalize wr.alloc (.cells #[.string x.party, .string x.coin, .int .i64 x.amt] 51) = w3 at *
      clear u0 u1 u2
      have z1 : w3.cell? ⟨zb, 1, none⟩ = some (.string x.coin) := BZ.out.cell 1
      have z2 : w3.cell? ⟨zb, 2, none⟩ = some (.int .i64 x.amt) := BZ.out.cell 2
      by_cases hc : x.coin.data.toList = c.data.toList
      · rw [decide_eq_true hc] at hsm
        have HX1 : Hid (amtA (l.take (k + 1)) c.data.toList = amtA (l.take k) c.data.toList ++ [x.amt]) := by
          show _ = _
          rw [HX.out, if_pos hc]
        have HOL : Hid ((amtA (l.take k) c.data.toList).length + 1 ≤ maxLen ∧ ((amtA (l.take k) c.data.toList).length + 1) * 8 ≤ 140737488355328) := by
          have hmx : maxLen = 9223372036854775807 := by decide
          have h1 := amtA_len (l.take k) c.data.toList
          rw [List.length_take] at h1
          exact ⟨by omega, by omega⟩
        have hal := (Below.refl w3.heap.size w3).alloc (Nat.le_refl _) (.cells #[.int .i64 x.amt] 2)
        have HOB := Lib.hid (own_below HO2.out hal)
        have HBB := Lib.hid (HB2.out.trans (hal.mono HB2.out.size))
        have HSB : Hid (w.heap.size ≤ (w3.alloc (.cells #[.int .i64 x.amt] 2)).heap.size) := HBB.out.size
        clear hal hc HX
        go_upto_region 7 with (at_builtin; refine ap_row infoI Try.underlying77 rfl (by decide) rfl (.tmp 20) (.tmp 23) rfl rfl HOB.out HSB.out ⟨w3.heap.size, 0, none⟩ 1 1 [.int .i64 x.amt] rfl rfl (lit_cells_at w3 #[.int .i64 x.amt] 2 _ rfl) (by simp [Value.oneCell']) HOL.out.1 HOL.out.2 ?_; intro v1 w5 o1 g1 hv1; have HO5 := Lib.hid o1; have HG5 := Lib.hid g1; clear o1 g1 hv1)
        have HQ1 : ∃ a5 c5, v1 = Value.slice a5 (amtA (l.take (k + 1)) c.data.toList).length c5 ∧ Hid (w5.ownsRow w.heap.size 2 1 (.slice a5 (amtA (l.take (k + 1)) c.data.toList).length c5) (amtA (l.take (k + 1)) c.data.toList).length (intC (amtA (l.take (k + 1)) c.data.toList)) ∧ Below w.heap.size w w5) := by
          have ho := HO5.out
          obtain ⟨a5, c5, rfl⟩ := own_slice ho
          rw [HX1.out, List.length_append, intC_append]
          exact ⟨a5, c5, rfl, ho, HBB.out.grown HG5.out HSB.out (fun b hb => (own_lt HOB.out hb).1)⟩
        obtain ⟨a5, c5, rfl, HQ5⟩ := HQ1
        clear HO5 HG5 HOB HBB HSB z1 z2 hsm
        go_wp2_with fail
        go_roundw
        case rel => exact ⟨k + 1, a5, c5, rfl, by go_num, by have := HKL.out; omega, HQ5.out⟩
        case measure => simp [intOf]; have := HKL.out; omega
      · rw [decide_eq_false hc] at hsm
        have HX1 : Hid (amtA (l.take (k + 1)) c.data.toList = amtA (l.take k) c.data.toList) := by
          show _ = _
          rw [HX.out, if_neg hc, List.append_nil]
        clear hc HX
        go_wp2_with fail
        go_roundw
        case rel => exact ⟨k + 1, oa, oc, by rw [HX1.out], by go_num, by have := HKL.out; omega, by rw [HX1.out]; exact ⟨HO2.out, HB2.out⟩⟩
        case measure => simp [intOf]; have := HKL.out; omega
    · have hlt' : ¬ (k : Int) < (len : Int) := by omega
      have hke : l.take k = l := List.take_of_length_le (by rw [HL.out]; omega)
      rw [hke] at HQ ⊢
      have HIN := Lib.hid (sum_any (amtA l c.data.toList) oa (amtA l c.data.toList).length oc wr (ints_row HQ.out.1 (amtA_rng HOK.out c.data.toList)) (by have h1 := amtA_len l c.data.toList; have := HL.out; have := HN.out; omega))
      have HB := Lib.hid HQ.out.2
      clear HQ hke hlt
      rw [amtA_sum] at HIN
      go_wp2_with fail
      go_at_call 37
      (with_reducible refine HIN.out.mono ?_)
      rintro y w4 ⟨rfl, rfl⟩
      clear HIN
      obtain ⟨n, hn⟩ : ∃ n, n = coinA l c.data.toList := ⟨_, rfl⟩
      rw [← hn] at HR ⊢
      clear hn
      cases hf : fits64 n with
      | false =>
        have HRF : Hid (R = false) := by
          show _ = _
          rw [HR.out]
          refine decide_eq_false (fun e => ?_)
          rw [e, fits_zero] at hf; cases hf
        clear HR hf
        rw [if_neg Bool.false_ne_true]
        go_wp2_with fail
        go_ret
        exact ⟨by rw [HRF.out]; rfl, HB.out⟩
      | true =>
        rw [if_pos rfl]
        by_cases hz : n = 0
        · have hz' : (n == 0) = true := by simpa using hz
          have HRF : Hid (R = true) := by show _ = _; rw [HR.out]; exact decide_eq_true hz
          clear HR hf hz
          go_wp2_with fail
          go_ret
          exact ⟨by rw [HRF.out]; rfl, HB.out⟩
        · have hz' : (n == 0) = false := by simpa using hz
          have HRF : Hid (R = false) := by show _ = _; rw [HR.out]; exact decide_eq_false hz
          clear HR hf hz
          go_wp2_with fail
          go_ret
          exact ⟨by rw [HRF.out]; rfl, HB.out⟩
end Go.Proofs.Ytgbiimoednmlgaa

/- The contract of Even. -/
namespace Go.Proofs.Ytgbiimoednmlgaa
set_option linter.unusedVariables false
set_option linter.unusedSimpArgs false
open Go.RowKit
set_option maxRecDepth 100000 in
set_option maxHeartbeats 4000000 in
theorem evenf_any (l : List Acct) (a : Option Addr) (len cap : Nat) (x : Acct) (bx : Nat) (w : World) (h : SlR acctK w [] l a len cap) (hlen : len ≤ 1000000) (hbx : w.cell? ⟨bx, 0, none⟩ = some (.slice a len cap)) :
    Calls Try.prog 45 #[.agg (acctC x).toArray, .pointer (some ⟨bx, 0, none⟩)] w fun y w' => y = .returned (.bool (!decide (coinA l x.coin.data.toList = 0))) ∧ Below w.heap.size w w' := by
  have hal := (Below.refl w.heap.size w).alloc (Nat.le_refl _) (.cells (acctC x).toArray 51)
  have HB := Lib.hid hal
  have BX := Lib.hid (Mem.Blk.new w 51 (acctC x).toArray)
  have HQ := Lib.hid (sums_any l a len cap x.coin _ (h.kept (Kept.of_below hal [])) hlen)
  have hbx' := cellUp hbx hal
  obtain ⟨R, hR⟩ : ∃ R, R = decide (coinA l x.coin.data.toList = 0) := ⟨_, rfl⟩
  rw [← hR] at HQ ⊢
  clear hal h hbx hR
  show Calls Try.prog 45 #[.agg #[.string x.party, .string x.coin, .int .i64 x.amt], .pointer (some ⟨bx, 0, none⟩)] w _
  go_enter Try.func45, Try.ntmps45
  go_upto_region 1 with (fail)
  have HB' : Hid (Below w.heap.size w (w.alloc (.cells #[.string x.party, .string x.coin, .int .i64 x.amt] 51))) := HB.out
  have BX' : Hid (Mem.Blk (w.alloc (.cells #[.string x.party, .string x.coin, .int .i64 x.amt] 51)) w.heap.size 51 (acctC x).toArray) := BX.out
  have HQ' : Hid (Calls Try.prog 46 #[.slice a len cap, .string x.coin] (w.alloc (.cells #[.string x.party, .string x.coin, .int .i64 x.amt] 51)) fun y w' => y = .returned (.bool R) ∧ Below (w.alloc (.cells #[.string x.party, .string x.coin, .int .i64 x.amt] 51)).heap.size (w.alloc (.cells #[.string x.party, .string x.coin, .int .i64 x.amt] 51)) w') := HQ.out
  have hb : (w.alloc (.cells #[.string x.party, .string x.coin, .int .i64 x.amt] 51)).cell? ⟨bx, 0, none⟩ = some (.slice a len cap) := hbx'
  clear HB BX HQ hbx'
  generalize w.alloc (.cells #[.string x.party, .string x.coin, .int .i64 x.amt] 51) = w1 at *
  have c1 : w1.cell? ⟨w.heap.size, 1, none⟩ = some (.string x.coin) := BX'.out.cell 1
  go_wp2_with fail
  go_at_call 46
  (with_reducible refine HQ'.out.mono ?_)
  rintro y w2 ⟨rfl, b2⟩
  have HB2 := Lib.hid (HB'.out.trans (b2.mono HB'.out.size))
  clear b2 HQ'
  go_wp2_with fail
  go_ret
  exact ⟨rfl, HB2.out⟩
set_option maxRecDepth 100000 in
set_option maxHeartbeats 4000000 in
theorem indexA_any (l : List Acct) (a : Option Addr) (len cap bx : Nat) (w : World) (h : SlR acctK w [] l a len cap) (hlen : len ≤ 1000000) (hbx : w.cell? ⟨bx, 0, none⟩ = some (.slice a len cap)) :
    Calls Try.prog 76 #[.slice a len cap, .func (.func 45) #[] #[.pointer (some ⟨bx, 0, none⟩)]] w fun x w' => (∃ i : Int, x = .returned (.int .i64 i) ∧ (0 ≤ i ↔ l.all (fun a => decide (coinA l a.coin.data.toList = 0)) = false)) ∧ Below w.heap.size w w' := by
  have HS := Lib.hid h
  have HL := Lib.hid h.facts.1
  have HN := Lib.hid hlen
  have HBX := Lib.hid hbx
  have eg := entersL (P := Try.prog) Try.func45 (by kernel_rfl) rfl
  obtain ⟨B, hB⟩ : ∃ B, B = l.all (fun a => decide (coinA l a.coin.data.toList = 0)) := ⟨_, rfl⟩
  have HBB := Lib.hid hB
  rw [← hB]
  clear h hlen hB hbx
  go_enter Try.func76, Try.ntmps76
  go_wp2_with fail
  go_loopw [8] (fun i wr => ∃ (k : Nat), i = .int .i64 (k : Nat) ∧ k ≤ len ∧ Hid ((∀ (j : Nat) x, j < k → l[j]? = some x → decide (coinA l x.coin.data.toList = 0) = true) ∧ Below w.heap.size w wr)) (fun i _ => len - (intOf i).toNat)
  case atStart => exact ⟨0, rfl, Nat.zero_le _, fun j x h => absurd h (by omega), Below.refl _ _⟩
  case round =>
    obtain ⟨k, rfl, hk, HT⟩ := hrel
    by_cases hlt : k < len
    · have hlt' : (k : Int) < (len : Int) := by omega
      have i0 : (0 : Int) ≤ (k : Int) := by omega
      have i1 : (k : Int) ≤ 1000000 := by have := HN.out; omega
      have HSR := Lib.hid (HS.out.kept (Kept.of_below HT.out.2 []))
      obtain ⟨b, o, x, hao, hx, -, u0, u1, u2⟩ := acct_at HSR.out k hlt
      have HX := Lib.hid hx
      have HP : Hid (Calls Try.prog 45 #[.agg #[.string x.party, .string x.coin, .int .i64 x.amt], .pointer (some ⟨bx, 0, none⟩)] wr _) := evenf_any l a len cap x bx wr HSR.out HN.out (cellUp HBX.out HT.out.2)
      obtain ⟨R, hR⟩ : ∃ R, R = decide (coinA l x.coin.data.toList = 0) := ⟨_, rfl⟩
      have HR := Lib.hid hR
      rw [← hR] at HP
      subst hao
      have HTR := Lib.hid HT.out.1
      have HB0 := Lib.hid HT.out.2
      have HKL := Lib.hid hlt
      clear hx hlt HT HSR hR
      go_wp2_with fail
      go_at_call 45
      (with_reducible refine HP.out.mono ?_)
      rintro e w2 ⟨rfl, b2⟩
      have HB2 := Lib.hid (HB0.out.trans (b2.mono HB0.out.size))
      clear b2 HP u0 u1 u2 HB0
      cases hm : R with
      | true =>
        have HT2 : Hid (∀ (j : Nat) x, j < k + 1 → l[j]? = some x → decide (coinA l x.coin.data.toList = 0) = true) := by
          intro j y hj hy
          by_cases e : j < k
          · exact HTR.out j y e hy
          · obtain rfl : j = k := by omega
            rw [HX.out] at hy; rw [← Option.some.inj hy, ← HR.out]; exact hm
        clear hm
        go_wp2_with fail
        go_roundw
        case rel => exact ⟨k + 1, by go_num, by have := HKL.out; omega, HT2.out, HB2.out⟩
        case measure => simp [intOf]; have := HKL.out; omega
      | false =>
        have HF : Hid (l.all (fun a => decide (coinA l a.coin.data.toList = 0)) = false) := List.all_eq_false.2 ⟨x, List.mem_of_getElem? HX.out, by rw [← HR.out, hm]; simp⟩
        clear hm
        go_wp2_with fail
        go_ret
        exact ⟨⟨_, rfl, ⟨fun _ => by rw [HBB.out, HF.out], fun _ => i0⟩⟩, HB2.out⟩
    · have hlt' : ¬ (k : Int) < (len : Int) := by omega
      have HF : Hid (l.all (fun a => decide (coinA l a.coin.data.toList = 0)) = true) := List.all_eq_true.2 (fun x hx => by
        obtain ⟨j, hj⟩ := List.getElem?_of_mem hx
        exact HT.out.1 j x (by have := (List.getElem?_eq_some_iff.1 hj).1; have := HL.out; omega) hj)
      have HB2 := Lib.hid HT.out.2
      clear HT
      go_wp2_with fail
      go_ret
      exact ⟨⟨_, rfl, ⟨fun h => absurd h (by decide), fun h => by rw [HBB.out, HF.out] at h; cases h⟩⟩, HB2.out⟩
set_option maxRecDepth 100000 in
set_option maxHeartbeats 2000000 in
theorem containsA_any (l : List Acct) (a : Option Addr) (len cap bx : Nat) (w : World) (h : SlR acctK w [] l a len cap) (hlen : len ≤ 1000000) (hbx : w.cell? ⟨bx, 0, none⟩ = some (.slice a len cap)) :
    Calls Try.prog 44 #[.slice a len cap, .func (.func 45) #[] #[.pointer (some ⟨bx, 0, none⟩)]] w fun x w' => x = .returned (.bool (!(l.all (fun a => decide (coinA l a.coin.data.toList = 0))))) ∧ Below w.heap.size w w' := by
  have HI := Lib.hid (indexA_any l a len cap bx w h hlen hbx)
  clear h hlen hbx
  generalize l.all (fun a => decide (coinA l a.coin.data.toList = 0)) = R at *
  go_enter Try.func44, Try.ntmps44
  go_wp2_with fail
  go_at_call 76
  (with_reducible refine HI.out.mono ?_)
  rintro e w2 ⟨⟨i, rfl, hi⟩, b2⟩
  have HB2 := Lib.hid b2
  clear b2 HI
  have HQ : Hid (decide (0 ≤ i) = !R) := by
    show _ = _
    cases hm : R with
    | true =>
      rw [hm] at hi
      exact decide_eq_false (fun h => by simpa using hi.1 h)
    | false => exact decide_eq_true (hi.2 hm)
  clear hi
  go_wp2_with fail
  go_ret
  exact ⟨by rw [← HQ.out]; rfl, HB2.out⟩
set_option maxRecDepth 100000 in
set_option maxHeartbeats 2000000 in
theorem even_any (l : List Acct) (a : Option Addr) (len cap : Nat) (w : World) (h : SlR acctK w [] l a len cap) (hlen : len ≤ 1000000) :
    Calls Try.prog 21 #[.slice a len cap] w fun x w' => x = .returned (.bool (evenA l)) ∧ Below w.heap.size w w' := by
  have hal := (Below.refl w.heap.size w).alloc (Nat.le_refl _) (.cells #[.slice a len cap] 26)
  have HB := Lib.hid hal
  have BX := Lib.hid (Mem.Blk.new w 26 #[.slice a len cap])
  have HS := Lib.hid (h.kept (Kept.of_below hal []))
  have HN := Lib.hid hlen
  obtain ⟨R, hR⟩ : ∃ R, R = evenA l := ⟨_, rfl⟩
  have HR := Lib.hid hR
  rw [← hR]
  clear hal h hlen hR
  go_enter Try.func21, Try.ntmps21
  go_upto_region 1 with (fail)
  generalize hb0 : w.heap.size = b0 at BX ⊢
  clear hb0
  generalize w.alloc (.cells #[.slice a len cap] 26) = w1 at *
  have c0 : w1.cell? ⟨b0, 0, none⟩ = some (.slice a len cap) := BX.out.cell 0
  have HRT := Lib.hid (right_any l a len cap w1 HS.out HN.out)
  have HCT : Hid (∀ w2, Below w1.heap.size w1 w2 → Calls Try.prog 44 #[.slice a len cap, .func (.func 45) #[] #[.pointer (some ⟨b0, 0, none⟩)]] w2 _) := fun w2 b => containsA_any l a len cap b0 w2 (HS.out.kept (Kept.of_below b [])) HN.out (cellUp (BX.out.cell 0) b)
  go_wp2_with fail
  go_at_call 22
  (with_reducible refine HRT.out.mono ?_)
  rintro y w2 ⟨rfl, b2⟩
  have c0' := cellUp c0 b2
  have HB2 := Lib.hid (HB.out.trans (b2.mono HB.out.size))
  have HCT2 := Lib.hid (HCT.out w2 b2)
  clear HCT HRT c0 b2
  cases hr : rightA l with
  | false =>
    have HF : Hid (R = false) := by show _ = _; rw [HR.out]; unfold evenA; rw [hr]; rfl
    clear HR hr HCT2
    go_wp2_with fail
    go_ret
    exact ⟨by rw [HF.out]; rfl, HB2.out⟩
  | true =>
    have HF : Hid (R = l.all (fun a => decide (coinA l a.coin.data.toList = 0))) := by show _ = _; rw [HR.out]; unfold evenA; rw [hr]; rfl
    clear HR hr
    rw [← HF.out] at HCT2
    go_wp2_with fail
    go_at_call 44
    (with_reducible refine HCT2.out.mono ?_)
    rintro y w3 ⟨rfl, b3⟩
    have HB3 := Lib.hid (HB2.out.trans (b3.mono HB2.out.size))
    clear HCT2 b3 HF
    go_wp2_with fail
    go_ret
    exact ⟨by simp, HB3.out⟩
end Go.Proofs.Ytgbiimoednmlgaa

/- The contracts of the search over accounts, of Get. -/
namespace Go.Proofs.Ytgbiimoednmlgaa
set_option linter.unusedVariables false
set_option linter.unusedSimpArgs false
open Go.RowKit
set_option maxRecDepth 100000 in
set_option maxHeartbeats 4000000 in
theorem searchA_any (l : List Acct) (la : Option Addr) (len lc : Nat) (a : Acct) (w : World) (hE : SlR acctK w [] l la len lc) (hn : len ≤ 1000000) :
    Calls Try.prog 61 #[.slice la len lc, .agg (acctC a).toArray, .func (.func 48) #[] #[]] w fun x w' => (∃ i : Nat, x = .returned (.tuple #[.int .i64 (i : Nat), .bool (hitK Acct.key l a.key i)]) ∧ AtK Acct.key l a.key i) ∧ Below w.heap.size w w' := by
  have hal := (Below.refl w.heap.size w).alloc (Nat.le_refl _) (.cells (acctC a).toArray 51)
  have HB := Lib.hid hal
  have BX := Lib.hid (Mem.Blk.new w 51 (acctC a).toArray)
  have HE1 := Lib.hid (hE.kept (Kept.of_below hal []))
  have HN := Lib.hid hn
  have HLL := Lib.hid hE.facts.1
  have eg := entersL (P := Try.prog) Try.func48 (by kernel_rfl) rfl
  clear hal hE hn
  show Calls Try.prog 61 #[.slice la len lc, .agg #[.string a.party, .string a.coin, .int .i64 a.amt], .func (.func 48) #[] #[]] w _
  go_enter Try.func61, Try.ntmps61
  go_upto_region 1 with (fail)
  have HB' : Hid (Below w.heap.size w (w.alloc (.cells #[.string a.party, .string a.coin, .int .i64 a.amt] 51))) := HB.out
  have BX' : Hid (Mem.Blk (w.alloc (.cells #[.string a.party, .string a.coin, .int .i64 a.amt] 51)) w.heap.size 51 (acctC a).toArray) := BX.out
  have HE' : Hid (SlR acctK (w.alloc (.cells #[.string a.party, .string a.coin, .int .i64 a.amt] 51)) [] l la len lc) := HE1.out
  clear HB BX HE1
  generalize w.alloc (.cells #[.string a.party, .string a.coin, .int .i64 a.amt] 51) = w1 at *
  go_wp2_with fail
  go_loopw [9, 10] (fun x y wr => ∃ (i j : Nat), x = .int .i64 (i : Nat) ∧ y = .int .i64 (j : Nat) ∧ Hid (SrSt Acct.key l a.key i j ∧ Below w1.heap.size w1 wr)) (fun x y _ => (intOf y).toNat - (intOf x).toNat)
  case atStart => exact ⟨0, len, rfl, rfl, by have := SrSt.start Acct.key l a.key; rw [HLL.out] at this; exact this, Below.refl _ _⟩
  case round =>
    obtain ⟨i, j, rfl, rfl, HS⟩ := hrel
    have BXR := Lib.hid (BX'.out.below HS.out.2)
    have HER := Lib.hid (HE'.out.kept (Kept.of_below HS.out.2 []))
    have d0 : wr.cell? ⟨w.heap.size, 0, none⟩ = some (.string a.party) := BXR.out.cell 0
    have d1 : wr.cell? ⟨w.heap.size, 1, none⟩ = some (.string a.coin) := BXR.out.cell 1
    have d2 : wr.cell? ⟨w.heap.size, 2, none⟩ = some (.int .i64 a.amt) := BXR.out.cell 2
    have hjn : j ≤ 1000000 := by have := HS.out.1.jn; have := HN.out; have := HLL.out; omega
    have hij := HS.out.1.ij
    by_cases hlt : i < j
    · have hlt' : (i : Int) < (j : Int) := by omega
      obtain ⟨h, hh⟩ : ∃ h, h = (i + j) / 2 := ⟨_, rfl⟩
      have HH := Lib.hid hh
      have hw1 : IntKind.i64.wrap ((i : Int) + (j : Int)) = ((i + j : Nat) : Int) := by rw [IntWalk.i64_in _ (by omega)]; push_cast; rfl
      have hw2 : ((i + j : Nat) : Int) / 2 = (h : Int) := by omega
      have hw3 : ((i : Int) + (j : Int)) / 2 = (h : Int) := by omega
      have hhl : h < len := by have := HS.out.1.jn; have := HLL.out; omega
      obtain ⟨b, o, e, rfl, hx, -, c0, c1, c2⟩ := acct_at HER.out h hhl
      have HX := Lib.hid hx
      have HP : Hid (∀ W, Calls Try.prog 48 #[.agg #[.string e.party, .string e.coin, .int .i64 e.amt], .agg #[.string a.party, .string a.coin, .int .i64 a.amt]] W _) := fun W => order_any e a W
      obtain ⟨R, hR⟩ : ∃ R, R = kcmp e.key a.key := ⟨_, rfl⟩
      rw [← hR] at HP
      have HR := Lib.hid hR
      have hl0 : (h : Int) < (len : Int) := by omega
      have hl1 : (0 : Int) ≤ (h : Int) := by omega
      have hl2 : (h : Int) ≤ 1000000 := by omega
      clear hx hR hh hhl
      go_upto_region 5 with (fail)
      go_still_tail 6, (by kernel_rfl)
      change wpList _ _ _ _ _ wr.drew
      go_wp2_with fail
      go_at_call 48
      (with_reducible refine (HP.out _).mono ?_)
      rintro x w2 ⟨rfl, b2⟩
      have HB2 := Lib.hid (HS.out.2.trans (((Below.refl wr.heap.size wr).drew.trans b2).mono HS.out.2.size))
      clear b2 d0 d1 d2 c0 c1 c2 HP
      by_cases hneg : R < 0
      · have HS2 := Lib.hid (HS.out.1.up hlt (by rw [← HH.out]; exact HX.out) (by rw [← HR.out]; exact hneg))
        rw [← HH.out] at HS2
        have HLT := Lib.hid hlt
        clear HS hlt
        go_wp2_with fail
        go_roundw
        case rel => exact ⟨h + 1, j, by go_num, rfl, HS2.out, HB2.out⟩
        case measure => simp [intOf]; have := HLT.out; have := HH.out; omega
      · have HS2 := Lib.hid (HS.out.1.down hlt (by rw [← HH.out]; exact HX.out) (by rw [← HR.out]; exact hneg))
        rw [← HH.out] at HS2
        have HLT := Lib.hid hlt
        clear HS hlt
        go_wp2_with fail
        go_roundw
        case rel => exact ⟨i, h, rfl, rfl, HS2.out, HB2.out⟩
        case measure => simp [intOf]; have := HLT.out; have := HH.out; omega
    · have hlt' : ¬ (i : Int) < (j : Int) := by omega
      have HF := Lib.hid (HS.out.1.fin hlt)
      have HB2 := Lib.hid (HB'.out.trans (HS.out.2.mono HB'.out.size))
      clear HS hlt
      by_cases hin : i < len
      · have hin' : (i : Int) < (len : Int) := by omega
        obtain ⟨b, o, e, rfl, hx, -, c0, c1, c2⟩ := acct_at HER.out i hin
        have HP : Hid (∀ W, Calls Try.prog 48 #[.agg #[.string e.party, .string e.coin, .int .i64 e.amt], .agg #[.string a.party, .string a.coin, .int .i64 a.amt]] W _) := fun W => order_any e a W
        obtain ⟨R, hR⟩ : ∃ R, R = kcmp e.key a.key := ⟨_, rfl⟩
        rw [← hR] at HP
        have HK : Hid (hitK Acct.key l a.key i = decide (R = 0)) := by
          show hitK _ _ _ _ = _
          unfold hitK
          rw [hx, hR]
        have hl1 : (0 : Int) ≤ (i : Int) := by omega
        have hl2 : (i : Int) ≤ 1000000 := by omega
        clear hx hR hin
        go_upto_region 8 with (fail)
        refine wp_region_till (S := fun W => W.cell? ⟨b, o + i * 3, none⟩ = some (.string e.party) ∧ W.cell? ⟨b, o + i * 3 + 1, none⟩ = some (.string e.coin) ∧ W.cell? ⟨b, o + i * 3 + 2, none⟩ = some (.int .i64 e.amt) ∧ W.cell? ⟨w.heap.size, 0, none⟩ = some (.string a.party) ∧ W.cell? ⟨w.heap.size, 1, none⟩ = some (.string a.coin) ∧ W.cell? ⟨w.heap.size, 2, none⟩ = some (.int .i64 a.amt)) 11 (by kernel_rfl) ?_
        refine till_take (i := 1) (v := ?_) rfl (by kernel_rfl) (fun _ _ _ h => h) (Or.inl ⟨by rfl, ?_⟩) ⟨c0,c1,c2,d0,d1,d2⟩ ?_
        rotate_left
        · intro W hS
          try dsimp only at hS
          go_split_ands
          go_simp
          try with_reducible rfl
        try simp only [Act.put, List.getElem_toArray, List.getElem_cons_zero, List.getElem_cons_succ, List.setIfInBounds_toArray, List.set_cons_zero, List.set_cons_succ]
        refine till_take (i := 2) (v := ?_) rfl (by kernel_rfl) (fun _ _ _ h => h) (Or.inl ⟨by rfl, ?_⟩) ⟨c0,c1,c2,d0,d1,d2⟩ ?_
        rotate_left
        · intro W hS
          try dsimp only at hS
          go_split_ands
          go_simp
          try with_reducible rfl
        try simp only [Act.put, List.getElem_toArray, List.getElem_cons_zero, List.getElem_cons_succ, List.setIfInBounds_toArray, List.set_cons_zero, List.set_cons_succ]
        refine till_take (i := 3) (v := ?_) rfl (by kernel_rfl) (fun _ _ _ h => h) (Or.inl ⟨by rfl, ?_⟩) ⟨c0,c1,c2,d0,d1,d2⟩ ?_
        rotate_left
        · intro W hS
          try dsimp only at hS
          go_split_ands
          go_simp
          try with_reducible rfl
        try simp only [Act.put, List.getElem_toArray, List.getElem_cons_zero, List.getElem_cons_succ, List.setIfInBounds_toArray, List.set_cons_zero, List.set_cons_succ]
        refine till_take (i := 4) (v := ?_) rfl (by kernel_rfl) (fun _ _ _ h => h) (Or.inl ⟨by rfl, ?_⟩) ⟨c0,c1,c2,d0,d1,d2⟩ ?_
        rotate_left
        · intro W hS
          try dsimp only at hS
          go_split_ands
          go_simp
          try with_reducible rfl
        try simp only [Act.put, List.getElem_toArray, List.getElem_cons_zero, List.getElem_cons_succ, List.setIfInBounds_toArray, List.set_cons_zero, List.set_cons_succ]
        refine till_take (i := 5) (v := ?_) rfl (by kernel_rfl) (fun _ _ _ h => h) (Or.inl ⟨by rfl, ?_⟩) ⟨c0,c1,c2,d0,d1,d2⟩ ?_
        rotate_left
        · intro W hS
          try dsimp only at hS
          go_split_ands
          go_simp
          try with_reducible rfl
        try simp only [Act.put, List.getElem_toArray, List.getElem_cons_zero, List.getElem_cons_succ, List.setIfInBounds_toArray, List.set_cons_zero, List.set_cons_succ]
        refine till_take (i := 6) (v := ?_) rfl (by kernel_rfl) (fun _ _ _ h => h) (Or.inl ⟨by rfl, ?_⟩) ⟨c0,c1,c2,d0,d1,d2⟩ ?_
        rotate_left
        · intro W hS
          try dsimp only at hS
          go_split_ands
          go_simp
          try with_reducible rfl
        try simp only [Act.put, List.getElem_toArray, List.getElem_cons_zero, List.getElem_cons_succ, List.setIfInBounds_toArray, List.set_cons_zero, List.set_cons_succ]
        refine till_take (i := 7) (v := ?_) rfl (by kernel_rfl) (fun _ _ _ h => h) (Or.inl ⟨by rfl, ?_⟩) ⟨c0,c1,c2,d0,d1,d2⟩ ?_
        rotate_left
        · intro W hS
          try dsimp only at hS
          go_split_ands
          go_simp
          try with_reducible rfl
        try simp only [Act.put, List.getElem_toArray, List.getElem_cons_zero, List.getElem_cons_succ, List.setIfInBounds_toArray, List.set_cons_zero, List.set_cons_succ]
        refine till_take (i := 8) (v := ?_) rfl (by kernel_rfl) (fun _ _ _ h => h) (Or.inl ⟨by rfl, ?_⟩) ⟨c0,c1,c2,d0,d1,d2⟩ ?_
        rotate_left
        · intro W hS
          try dsimp only at hS
          go_split_ands
          go_simp
          try with_reducible rfl
        try simp only [Act.put, List.getElem_toArray, List.getElem_cons_zero, List.getElem_cons_succ, List.setIfInBounds_toArray, List.set_cons_zero, List.set_cons_succ]
        refine till_take (i := 9) (v := ?_) rfl (by kernel_rfl) (fun _ _ _ h => h) (Or.inl ⟨by rfl, ?_⟩) ⟨c0,c1,c2,d0,d1,d2⟩ ?_
        rotate_left
        · intro W hS
          try dsimp only at hS
          go_split_ands
          go_simp
          try with_reducible rfl
        try simp only [Act.put, List.getElem_toArray, List.getElem_cons_zero, List.getElem_cons_succ, List.setIfInBounds_toArray, List.set_cons_zero, List.set_cons_succ]
        refine till_take (i := 10) (v := ?_) rfl (by kernel_rfl) (fun _ _ _ h => h) (Or.inl ⟨by rfl, ?_⟩) ⟨c0,c1,c2,d0,d1,d2⟩ ?_
        rotate_left
        · intro W hS
          try dsimp only at hS
          go_split_ands
          go_simp
          try with_reducible rfl
        try simp only [Act.put, List.getElem_toArray, List.getElem_cons_zero, List.getElem_cons_succ, List.setIfInBounds_toArray, List.set_cons_zero, List.set_cons_succ]
        refine till_two (i := 0) (j := 11) (by kernel_rfl) rfl rfl (fun K' hK => ?_) (fun K' hK => ?_)
        · go_simp
          refine hK _ _ ⟨c0,c1,c2,d0,d1,d2⟩ ?_
          clear hK K'
          try simp only [Act.put, List.getElem_toArray, List.getElem_cons_zero, List.getElem_cons_succ, List.setIfInBounds_toArray, List.set_cons_zero, List.set_cons_succ]
          refine till_last (by kernel_rfl) rfl (by kernel_rfl) (fun K' hK => ?_)
          go_simp
          (with_reducible refine (HP.out _).mono ?_)
          rintro x w2 ⟨rfl, b2⟩
          have HB3 := Lib.hid (HB2.out.trans (((Below.refl wr.heap.size wr).drew.trans b2).mono HB2.out.size))
          refine hK _ _ ?_
          clear hK K'
          try simp only [Act.put, List.getElem_toArray, List.getElem_cons_zero, List.getElem_cons_succ, List.setIfInBounds_toArray, List.set_cons_zero, List.set_cons_succ]
          clear b2 d0 d1 d2 c0 c1 c2 HP
          refine any_take (i := 12) (v := ?_) rfl (by kernel_rfl) (fun _ _ _ h => h) (Or.inl ⟨by rfl, ?_⟩) ?_
          rotate_left
          · intro W
            go_simp
            try with_reducible rfl
          try simp only [Act.put, List.getElem_toArray, List.getElem_cons_zero, List.getElem_cons_succ, List.setIfInBounds_toArray, List.set_cons_zero, List.set_cons_succ]
          refine any_take (i := 13) (v := ?_) rfl (by kernel_rfl) (fun _ _ _ h => h) (Or.inl ⟨by rfl, ?_⟩) ?_
          rotate_left
          · intro W
            go_simp
            try with_reducible rfl
          try simp only [Act.put, List.getElem_toArray, List.getElem_cons_zero, List.getElem_cons_succ, List.setIfInBounds_toArray, List.set_cons_zero, List.set_cons_succ]
          refine any_take (i := 14) (v := ?_) rfl (by kernel_rfl) (fun _ _ _ h => h) (Or.inl ⟨by rfl, ?_⟩) ?_
          rotate_left
          · intro W
            go_simp
            try with_reducible rfl
          try simp only [Act.put, List.getElem_toArray, List.getElem_cons_zero, List.getElem_cons_succ, List.setIfInBounds_toArray, List.set_cons_zero, List.set_cons_succ]
          refine any_take (i := 15) (v := ?_) rfl (by kernel_rfl) (fun _ _ _ h => h) (Or.inl ⟨by rfl, ?_⟩) ?_
          rotate_left
          · intro W
            go_simp
            try with_reducible rfl
          try simp only [Act.put, List.getElem_toArray, List.getElem_cons_zero, List.getElem_cons_succ, List.setIfInBounds_toArray, List.set_cons_zero, List.set_cons_succ]
          refine wpAny_done (by kernel_rfl) ?_ _
          go_wp2_with fail
          go_ret2
          exact ⟨⟨i, by rw [HK.out]; rfl, HF.out⟩, HB3.out⟩
        · go_simp
          (with_reducible refine (HP.out _).mono ?_)
          rintro x w2 ⟨rfl, b2⟩
          have HB3 := Lib.hid (HB2.out.trans (((Below.refl wr.heap.size wr).drew.trans b2).mono HB2.out.size))
          have b3 := (Below.refl wr.heap.size wr).drew.trans b2
          refine hK _ _ ⟨cellUp c0 b3, cellUp c1 b3, cellUp c2 b3, cellUp d0 b3, cellUp d1 b3, cellUp d2 b3⟩ ?_
          clear hK K'
          try simp only [Act.put, List.getElem_toArray, List.getElem_cons_zero, List.getElem_cons_succ, List.setIfInBounds_toArray, List.set_cons_zero, List.set_cons_succ]
          clear b2 b3 d0 d1 d2 c0 c1 c2 HP
          refine till_of_any _ _ _ _ (by kernel_rfl) ?_
          refine any_take (i := 0) (v := ?_) rfl (by kernel_rfl) (fun _ _ _ h => h) (Or.inl ⟨by rfl, ?_⟩) ?_
          rotate_left
          · intro W
            go_simp
            try with_reducible rfl
          try simp only [Act.put, List.getElem_toArray, List.getElem_cons_zero, List.getElem_cons_succ, List.setIfInBounds_toArray, List.set_cons_zero, List.set_cons_succ]
          refine any_take (i := 12) (v := ?_) rfl (by kernel_rfl) (fun _ _ _ h => h) (Or.inl ⟨by rfl, ?_⟩) ?_
          rotate_left
          · intro W
            go_simp
            try with_reducible rfl
          try simp only [Act.put, List.getElem_toArray, List.getElem_cons_zero, List.getElem_cons_succ, List.setIfInBounds_toArray, List.set_cons_zero, List.set_cons_succ]
          refine any_take (i := 13) (v := ?_) rfl (by kernel_rfl) (fun _ _ _ h => h) (Or.inl ⟨by rfl, ?_⟩) ?_
          rotate_left
          · intro W
            go_simp
            try with_reducible rfl
          try simp only [Act.put, List.getElem_toArray, List.getElem_cons_zero, List.getElem_cons_succ, List.setIfInBounds_toArray, List.set_cons_zero, List.set_cons_succ]
          refine any_take (i := 14) (v := ?_) rfl (by kernel_rfl) (fun _ _ _ h => h) (Or.inl ⟨by rfl, ?_⟩) ?_
          rotate_left
          · intro W
            go_simp
            try with_reducible rfl
          try simp only [Act.put, List.getElem_toArray, List.getElem_cons_zero, List.getElem_cons_succ, List.setIfInBounds_toArray, List.set_cons_zero, List.set_cons_succ]
          refine any_take (i := 15) (v := ?_) rfl (by kernel_rfl) (fun _ _ _ h => h) (Or.inl ⟨by rfl, ?_⟩) ?_
          rotate_left
          · intro W
            go_simp
            try with_reducible rfl
          try simp only [Act.put, List.getElem_toArray, List.getElem_cons_zero, List.getElem_cons_succ, List.setIfInBounds_toArray, List.set_cons_zero, List.set_cons_succ]
          refine wpAny_done (by kernel_rfl) ?_ _
          go_wp2_with fail
          go_ret2
          exact ⟨⟨i, by rw [HK.out]; rfl, HF.out⟩, HB3.out⟩
      · have hin' : decide ((i : Int) < (len : Int)) = false := decide_eq_false (by omega)
        have hin2 : decide (i < len) = false := decide_eq_false hin
        have HK : Hid (hitK Acct.key l a.key i = false) := by
          show hitK _ _ _ _ = _
          unfold hitK
          rw [List.getElem?_eq_none (by have := HLL.out; omega)]
        clear hin
        go_upto_region 8 with (fail)
        go_quiet (fail)
        have HB3 := Lib.hid (HB2.out.trans ((below_dN (Below.refl wr.heap.size wr) nq).mono HB2.out.size))
        go_wp2_with fail
        go_ret2
        exact ⟨⟨i, by rw [HK.out]; rfl, HF.out⟩, HB3.out⟩
theorem AtK.miss {α : Type} {key : α → Ky} {l : List α} {t : Ky} {i : Nat} (a : AtK key l t i) (h : UpK key l) (hh : hitK key l t i = false) : ∀ x ∈ l, key x ≠ t := by
  intro x hx e
  obtain ⟨j, hj⟩ := List.getElem?_of_mem hx
  rcases Nat.lt_trichotomy j i with h1 | h1 | h1
  · have := a.below h j x h1 hj
    rw [e] at this; exact klt_irrefl _ this
  · rw [h1] at hj
    have := a.here hh hj
    rw [e] at this; exact klt_irrefl _ this
  · have := a.above h j x h1 hj
    rw [e] at this; exact klt_irrefl _ this
/-- What a party has of a currency, in right books; else nothing. -/
def getA (l : List Acct) (k : Ky) : Int := if rightA l then tot (conA l) k else 0
set_option maxRecDepth 100000 in
set_option maxHeartbeats 4000000 in
theorem get_any (l : List Acct) (la : Option Addr) (len lc : Nat) (p c : ByteArray) (w : World) (hE : SlR acctK w [] l la len lc) (hn : len ≤ 1000000) :
    Calls Try.prog 29 #[.slice la len lc, .string p, .string c] w fun x w' => x = .returned (.int .i64 (getA l (p.data.toList, c.data.toList))) ∧ Below w.heap.size w w' := by
  have HS := Lib.hid hE
  have HN := Lib.hid hn
  have HSA : Hid (Calls Try.prog 61 #[.slice la len lc, .agg #[.string p, .string c, .int .i64 0], .func (.func 48) #[] #[]] w _) := searchA_any l la len lc ⟨p, c, 0⟩ w hE hn
  obtain ⟨k, hk⟩ : ∃ k : Ky, k = (p.data.toList, c.data.toList) := ⟨_, rfl⟩
  have HK : Hid ((⟨p, c, 0⟩ : Acct).key = k) := by rw [hk]; rfl
  rw [HK.out] at HSA
  rw [← hk]
  obtain ⟨R, hR⟩ : ∃ R, R = getA l k := ⟨_, rfl⟩
  have HR := Lib.hid hR
  rw [← hR]
  clear hE hn hk hR HK
  go_enter Try.func29, Try.ntmps29
  go_wp2_with fail
  go_at_call 61
  (with_reducible refine HSA.out.mono ?_)
  rintro x w1 ⟨⟨i, rfl, hat⟩, b1⟩
  have HB1 := Lib.hid b1
  have HAT := Lib.hid hat
  clear HSA hat
  cases hh : hitK Acct.key l k i with
  | false =>
    have HF : Hid (R = 0) := by
      show _ = _
      rw [HR.out]
      unfold getA
      cases hr : rightA l with
      | false => rfl
      | true =>
        rw [if_pos rfl]
        refine tot_conA_none (fun a ha e => ?_)
        exact AtK.miss HAT.out (rightA_iff.1 hr).2 hh a ha e
    clear HR hh
    go_wp2_with fail
    go_ret
    exact ⟨by rw [HF.out]; rfl, HB1.out⟩
  | true =>
    obtain ⟨x, hx, hxk⟩ := hitK_key hh
    have HX := Lib.hid hx
    have HRT := Lib.hid (right_any l la len lc w1 (HS.out.kept (Kept.of_below b1 [])) HN.out)
    clear b1 hh hx
    go_wp2_with fail
    go_at_call 22
    (with_reducible refine HRT.out.mono ?_)
    rintro y w2 ⟨rfl, b2⟩
    have HB2 := Lib.hid (HB1.out.trans (b2.mono HB1.out.size))
    clear b2 HRT HB1
    cases hr : rightA l with
    | false =>
      have HF : Hid (R = 0) := by show _ = _; rw [HR.out]; unfold getA; rw [hr]; rfl
      clear HR hr hxk
      go_wp2_with fail
      go_ret
      exact ⟨by rw [HF.out]; rfl, HB2.out⟩
    | true =>
      have HF : Hid (R = x.amt) := by
        show _ = _
        rw [HR.out]
        unfold getA
        rw [if_pos hr, ← hxk]
        exact tot_conA (rightA_iff.1 hr).2 (List.mem_of_getElem? HX.out)
      clear HR hr hxk
      have hil : i < len := by have := (List.getElem?_eq_some_iff.1 HX.out).1; rw [HS.out.facts.1] at this; exact this
      have hi0 : (i : Int) < (len : Int) := by omega
      have hi1 : (0 : Int) ≤ (i : Int) := by omega
      have hi2 : (i : Int) ≤ 1000000 := by have := HN.out; omega
      obtain ⟨b, o, y, rfl, hy, -, u0, u1, u2⟩ := acct_at (HS.out.kept (Kept.of_below HB2.out [])) i hil
      have HXY : Hid (y.amt = x.amt) := by
        show _ = _
        have h := HX.out
        rw [hy] at h; injection h with h; rw [h]
      clear hy hil
      go_wp2_with fail
      go_ret
      exact ⟨by rw [HF.out, ← HXY.out]; rfl, HB2.out⟩
end Go.Proofs.Ytgbiimoednmlgaa

/- The contracts of ref24.Same, ref24.SameMoves, of two lists that are one. -/
namespace Go.Proofs.Ytgbiimoednmlgaa
set_option linter.unusedVariables false
set_option linter.unusedSimpArgs false
open Go.RowKit
set_option maxRecDepth 100000 in
set_option maxHeartbeats 4000000 in
theorem sameA_any (L : List Acct) (a a' : Option Addr) (len cap cap' : Nat) (w : World) (h1 : SlR acctK w [] L a len cap) (h2 : SlR acctK w [] L a' len cap') (hn : len ≤ 1000000) :
    Calls Try.prog 13 #[.slice a len cap, .slice a' len cap'] w fun x w' => x = .returned (.bool true) ∧ Below w.heap.size w w' := by
  have HA := Lib.hid h1
  have HB := Lib.hid h2
  clear h1 h2
  go_enter Try.func13, Try.ntmps13
  go_wp2_with fail
  go_loopw [5] (fun i wr => ∃ (k : Nat), i = .int .i64 (k : Nat) ∧ k ≤ len ∧ Hid (Below w.heap.size w wr)) (fun i _ => len - (intOf i).toNat)
  case atStart => exact ⟨0, rfl, Nat.zero_le _, Below.refl _ _⟩
  case round =>
    obtain ⟨k, rfl, hk, HR⟩ := hrel
    by_cases hlt : k < len
    · have hk' : (k : Int) < (len : Int) := by omega
      have i0 : (0 : Int) ≤ (k : Int) := by omega
      obtain ⟨b, o, s, rfl, hs, -, u0, u1, u2⟩ := acct_at (HA.out.kept (Kept.of_below HR.out [])) k hlt
      obtain ⟨b', o', s', rfl, hs', -, v0, v1, v2⟩ := acct_at (HB.out.kept (Kept.of_below HR.out [])) k hlt
      obtain rfl : s = s' := by rw [hs] at hs'; injection hs'
      clear hs hs'
      go_wp2_with fail
      go_quiet (fail)
      go_wp2_with fail
      go_roundw
      case rel => exact ⟨k + 1, by go_num, by omega, below_dN HR.out _⟩
      case measure => simp [intOf]; omega
    · have hk' : ¬ (k : Int) < (len : Int) := by omega
      go_wp2_with fail
      go_ret
      exact ⟨rfl, HR.out⟩
set_option maxRecDepth 100000 in
set_option maxHeartbeats 4000000 in
theorem sameM_any (L : List Mv) (a a' : Option Addr) (len cap cap' : Nat) (w : World) (h1 : SlR mvK w [] L a len cap) (h2 : SlR mvK w [] L a' len cap') (hn : len ≤ 1000000) :
    Calls Try.prog 15 #[.slice a len cap, .slice a' len cap'] w fun x w' => x = .returned (.bool true) ∧ Below w.heap.size w w' := by
  have HA := Lib.hid h1
  have HB := Lib.hid h2
  clear h1 h2
  go_enter Try.func15, Try.ntmps15
  go_wp2_with fail
  go_loopw [5] (fun i wr => ∃ (k : Nat), i = .int .i64 (k : Nat) ∧ k ≤ len ∧ Hid (Below w.heap.size w wr)) (fun i _ => len - (intOf i).toNat)
  case atStart => exact ⟨0, rfl, Nat.zero_le _, Below.refl _ _⟩
  case round =>
    obtain ⟨k, rfl, hk, HR⟩ := hrel
    by_cases hlt : k < len
    · have hk' : (k : Int) < (len : Int) := by omega
      have i0 : (0 : Int) ≤ (k : Int) := by omega
      obtain ⟨b, o, s, rfl, hs, -, u0, u1, u2, u3⟩ := mv_at (HA.out.kept (Kept.of_below HR.out [])) k hlt
      obtain ⟨b', o', s', rfl, hs', -, v0, v1, v2, v3⟩ := mv_at (HB.out.kept (Kept.of_below HR.out [])) k hlt
      obtain rfl : s = s' := by rw [hs] at hs'; injection hs'
      clear hs hs'
      go_wp2_with fail
      go_quiet (fail)
      go_wp2_with fail
      go_roundw
      case rel => exact ⟨k + 1, by go_num, by omega, below_dN HR.out _⟩
      case measure => simp [intOf]; omega
    · have hk' : ¬ (k : Int) < (len : Int) := by omega
      go_wp2_with fail
      go_ret
      exact ⟨rfl, HR.out⟩
end Go.Proofs.Ytgbiimoednmlgaa

/- The law's own example: plain. -/
namespace Go.Proofs.Ytgbiimoednmlgaa
set_option linter.unusedVariables false
set_option linter.unusedSimpArgs false
open Go.RowKit
def awA : ByteArray := ⟨#[97]⟩
def awB : ByteArray := ⟨#[98]⟩
def awC : ByteArray := ⟨#[85, 83, 68]⟩
def awM : Mv := ⟨awA, awB, awC, 5⟩
def awL : List Acct := [⟨awA, awC, -5⟩, ⟨awB, awC, 5⟩]
theorem awM_may : [awM].all mayM = true := by kernel_rfl
theorem awL_con : conA [] ++ conM [awM] = [((([97], [85, 83, 68]) : Ky), -5), (([98], [85, 83, 68]), 5)] := by rfl
theorem aw_tot (k : Ky) : tot (conA [] ++ conM [awM]) k = if k = ([97], [85, 83, 68]) then -5 else if k = ([98], [85, 83, 68]) then 5 else 0 := by
  rw [awL_con]
  have e : ([((([97], [85, 83, 68]) : Ky), -5), (([98], [85, 83, 68]), 5)] : List (Ky × Int)) = [((([97], [85, 83, 68]) : Ky), -5)] ++ [(([98], [85, 83, 68]), 5)] := rfl
  rw [e, tot_append, tot_one, tot_one]
  by_cases h1 : k = ([97], [85, 83, 68])
  · rw [if_pos h1, if_pos h1.symm, if_neg (by rw [h1]; decide)]; omega
  · rw [if_neg h1, if_neg (fun e => h1 e.symm)]
    by_cases h2 : k = ([98], [85, 83, 68])
    · rw [if_pos h2, if_pos h2.symm]; omega
    · rw [if_neg h2, if_neg (fun e => h2 e.symm)]; omega
theorem aw_fit : FitL (conA [] ++ conM [awM]) := by
  intro k
  rw [aw_tot]
  split
  · decide
  · split <;> decide
theorem aw_out : OutOf awL (conA [] ++ conM [awM]) := by
  refine ⟨?_, ?_, ?_⟩
  · unfold UpK awL
    refine List.pairwise_cons.2 ⟨fun x hx => ?_, List.pairwise_singleton _ _⟩
    rw [List.mem_singleton] at hx
    subst hx
    exact kcmp_neg.1 (by decide)
  · intro a ha
    rw [aw_tot]
    unfold awL at ha
    rw [List.mem_cons, List.mem_singleton] at ha
    rcases ha with rfl | rfl
    · exact ⟨rfl, by decide⟩
    · exact ⟨rfl, by decide⟩
  · intro k hk
    rw [aw_tot] at hk
    by_cases h1 : k = ([97], [85, 83, 68])
    · exact ⟨⟨awA, awC, -5⟩, List.mem_cons_self .., h1.symm⟩
    · rw [if_neg h1] at hk
      by_cases h2 : k = ([98], [85, 83, 68])
      · exact ⟨⟨awB, awC, 5⟩, List.mem_cons_of_mem _ (List.mem_cons_self ..), h2.symm⟩
      · rw [if_neg h2] at hk; exact absurd rfl hk
theorem aw_verd {out : List Acct} {e : Int} (h : Verd [] [awM] out e) : e = 0 ∧ out = awL := by
  rcases h with ⟨-, -, h⟩ | ⟨-, -, ⟨-, -, h⟩ | ⟨he, -, h⟩⟩
  · exact absurd ⟨rfl, awM_may⟩ h
  · exact absurd aw_fit h
  · exact ⟨he, h.is.uniq aw_out (fun _ => rfl)⟩
theorem aw_even : evenA awL = true := by kernel_rfl
theorem aw_get : getA awL ([98], [85, 83, 68]) = 5 := by kernel_rfl
theorem awM_ok : MvOk awM := ⟨by decide, by decide, by decide, by unfold I64; decide⟩
set_option maxRecDepth 100000 in
set_option maxHeartbeats 4000000 in
theorem awake_any (w : World) : Calls Try.prog 9 #[] w fun x w' => x = .returned (.bool true) ∧ Below w.heap.size w w' := by
  have hal := (Below.refl w.heap.size w).alloc (Nat.le_refl _) (.cells (mvC awM).toArray 72)
  have BX := Mem.Blk.new w 72 (mvC awM).toArray
  have HPO := Lib.hid (post_any [] [awM] none 0 0 (some ⟨w.heap.size, 0, none⟩) 1 1 (w.alloc (.cells (mvC awM).toArray 72)) (SlR.nil _ _ _) (SlR.lit1 (K := mvK) BX (by simp) ⟨rfl, awM_ok⟩) (by omega) (by omega))
  have HB := Lib.hid hal
  clear hal BX
  go_enter Try.func9, Try.ntmps9
  go_wp2_with fail
  have HPO' : Hid (Calls Try.prog 12 #[.slice none 0 0, .slice (some ⟨w.heap.size, 0, none⟩) 1 1] (w.alloc (.cells #[.string ⟨#[97]⟩, .string ⟨#[98]⟩, .string ⟨#[85, 83, 68]⟩, .int .i64 5] 72)) fun x w' => PostR w' [] [awM] x ∧ Below (w.alloc (.cells #[.string ⟨#[97]⟩, .string ⟨#[98]⟩, .string ⟨#[85, 83, 68]⟩, .int .i64 5] 72)).heap.size (w.alloc (.cells #[.string ⟨#[97]⟩, .string ⟨#[98]⟩, .string ⟨#[85, 83, 68]⟩, .int .i64 5] 72)) w') := HPO.out
  have HB' : Hid (Below w.heap.size w (w.alloc (.cells #[.string ⟨#[97]⟩, .string ⟨#[98]⟩, .string ⟨#[85, 83, 68]⟩, .int .i64 5] 72))) := HB.out
  clear HPO HB
  generalize w.alloc (.cells #[.string ⟨#[97]⟩, .string ⟨#[98]⟩, .string ⟨#[85, 83, 68]⟩, .int .i64 5] 72) = w1 at *
  go_at_call 12
  (with_reducible refine HPO'.out.mono ?_)
  rintro x w2 ⟨⟨out, a, c, e, rfl, hs, hv, -⟩, b2⟩
  obtain ⟨rfl, rfl⟩ := aw_verd hv
  have HB2 := Lib.hid (HB'.out.trans (b2.mono HB'.out.size))
  have HS := Lib.hid (show SlR acctK w2 [] awL a 2 c from hs)
  obtain ⟨g, o, x, rfl, hx, -, u0, u1, u2⟩ := acct_at HS.out 0 (by omega)
  obtain rfl : x = ⟨awA, awC, -5⟩ := by injection hx with hx; exact hx.symm
  have HE := Lib.hid (even_any awL (some ⟨g, o, none⟩) 2 c w2 HS.out (by omega))
  have HG : Hid (∀ w3, Below w2.heap.size w2 w3 → Calls Try.prog 29 #[.slice (some ⟨g, o, none⟩) 2 c, .string ⟨#[98]⟩, .string ⟨#[85, 83, 68]⟩] w3 fun x w' => x = .returned (.int .i64 5) ∧ Below w3.heap.size w3 w') := fun w3 b => (get_any awL (some ⟨g, o, none⟩) 2 c ⟨#[98]⟩ ⟨#[85, 83, 68]⟩ w3 (HS.out.kept (Kept.of_below b [])) (by omega)).mono fun x w' h => ⟨by rw [h.1]; exact congrArg (fun n => Ending.returned (.int .i64 n)) aw_get, h.2⟩
  rw [aw_even] at HE
  have hlen : awL.length = 2 := rfl
  rw [hlen]
  have v0 : w2.cell? ⟨g, o, none⟩ = some (.string ⟨#[97]⟩) := by have h := u0; simp only [Nat.zero_mul, Nat.add_zero] at h; exact h
  have v1 : w2.cell? ⟨g, o + 1, none⟩ = some (.string ⟨#[85, 83, 68]⟩) := by have h := u1; simp only [Nat.zero_mul, Nat.add_zero] at h; exact h
  have v2 : w2.cell? ⟨g, o + 2, none⟩ = some (.int .i64 (-5)) := by simpa using u2
  clear hs hv b2 hx u0 u1 u2 HPO' hlen
  go_wp2_with fail
  go_at_call 21
  (with_reducible refine HE.out.mono ?_)
  rintro y w3 ⟨rfl, b3⟩
  have HB3 := Lib.hid (HB2.out.trans (b3.mono HB2.out.size))
  have HG3 := Lib.hid (HG.out w3 b3)
  clear HG HE b3 HB2
  go_wp2_with fail
  go_at_call 29
  (with_reducible refine HG3.out.mono ?_)
  rintro y w4 ⟨rfl, b4⟩
  have HB4 := Lib.hid (HB3.out.trans (b4.mono HB3.out.size))
  clear HG3 b4
  go_wp2_with fail
  go_ret
  exact ⟨rfl, HB4.out⟩
end Go.Proofs.Ytgbiimoednmlgaa

/- Settling flows: the program's, walked. -/
namespace Go.Proofs.Ytgbiimoednmlgaa
set_option linter.unusedVariables false
set_option linter.unusedSimpArgs false
open Go.RowKit Go.ChangeShapes
def setM (h wr : ByteArray) (f : Flw) : Mv := if 0 < f.amt then ⟨wr, h, f.coin, f.amt⟩ else ⟨h, wr, f.coin, -f.amt⟩
/-- What Settle answers, of names that may be. -/
def SetV (fl : List Flw) (h wr : ByteArray) (ms : List Mv) (b : Bool) : Prop := ∃ out tb, TotV fl out tb ∧ ((b = false ∧ ms = [] ∧ (tb = false ∨ ∃ f ∈ out, f.amt = -9223372036854775808)) ∨ (b = true ∧ tb = true ∧ (∀ f ∈ out, f.amt ≠ -9223372036854775808) ∧ ms = out.map (setM h wr)))
theorem SetV.uniq {fl : List Flw} {h wr : ByteArray} {ms ms' : List Mv} {b b' : Bool} (x : SetV fl h wr ms b) (y : SetV fl h wr ms' b') : b = b' ∧ ms = ms' := by
  obtain ⟨out, tb, ht, x⟩ := x
  obtain ⟨out', tb', ht', y⟩ := y
  obtain ⟨rfl, rfl⟩ := ht.uniq ht'
  rcases x with ⟨rfl, rfl, x⟩ | ⟨rfl, rfl, x, rfl⟩ <;> rcases y with ⟨rfl, rfl, y⟩ | ⟨rfl, h2, y, rfl⟩
  · exact ⟨rfl, rfl⟩
  · rcases x with x | ⟨f, hf, x⟩
    · rw [x] at h2; cases h2
    · exact absurd x (y f hf)
  · rcases y with y | ⟨f, hf, y⟩
    · cases y
    · exact absurd y (x f hf)
  · exact ⟨rfl, rfl⟩
theorem map_take_snoc {α β : Type} {l : List α} {k : Nat} {f : α} (g : α → β) (h : l[k]? = some f) : (l.take (k + 1)).map g = (l.take k).map g ++ [g f] := by
  rw [take_snoc h, List.map_append]; rfl
def namB (h wr : ByteArray) : Bool := nmd h && nmd wr && !decide (h.data.toList = wr.data.toList)
/-- What Settle answers, in memory. -/
def SetR (ec : Bool → Value) (w' : World) (fl : List Flw) (h wr : ByteArray) (x : Ending) : Prop := ∃ (ms : List Mv) (a : Option Addr) (c : Nat) (b : Bool), x = .returned (.tuple #[.slice a ms.length c, ec b]) ∧ SlR mvK w' [] ms a ms.length c ∧ SetV fl h wr ms b ∧ ms.length ≤ fl.length
set_option maxRecDepth 100000 in
set_option maxHeartbeats 8000000 in
theorem lsettle_bad (fl : List Flw) (a : Option Addr) (len cap : Nat) (h wr : ByteArray) (w : World) (hh : h.size ≤ maxLen) (hw : wr.size ≤ maxLen) (hn : namB h wr = false) :
    Calls Try.prog 30 #[.slice a len cap, .string h, .string wr] w fun x w' => x = .returned (.tuple #[.slice none 0 0, .int .i64 1]) ∧ Below w.heap.size w w' := by
  have HNH := Lib.hid (fun W => named_any h W (by unfold maxLen at hh; omega))
  have HNW := Lib.hid (fun W => named_any wr W (by unfold maxLen at hw; omega))
  have hs := same_b h wr
  clear hh hw
  unfold namB at hn
  cases h1 : nmd h with
  | false =>
    rw [h1] at HNH
    clear h1 hn hs
    go_enter Try.func30, Try.ntmps30
    go_wp2_with fail
    go_at_call 47
    (with_reducible refine (HNH.out _).mono ?_)
    rintro x w1 ⟨rfl, rfl⟩
    go_wp2_with fail
    go_ret2
    exact ⟨rfl, Below.refl _ _⟩
  | true =>
    rw [h1] at HNH hn
    cases h2 : nmd wr with
    | false =>
      rw [h2] at HNW
      clear h1 h2 hn hs
      go_enter Try.func30, Try.ntmps30
      go_wp2_with fail
      go_at_call 47
      (with_reducible refine (HNH.out _).mono ?_)
      rintro x w1 ⟨rfl, rfl⟩
      go_wp2_with fail
      go_at_call 47
      (with_reducible refine (HNW.out _).mono ?_)
      rintro x w1 ⟨rfl, rfl⟩
      go_wp2_with fail
      go_ret2
      exact ⟨rfl, Below.refl _ _⟩
    | true =>
      rw [h2] at HNW hn
      have hd : decide (h.data.toList = wr.data.toList) = true := by simpa using hn
      rw [hd] at hs
      clear h1 h2 hn hd
      go_enter Try.func30, Try.ntmps30
      go_wp2_with fail
      go_at_call 47
      (with_reducible refine (HNH.out _).mono ?_)
      rintro x w1 ⟨rfl, rfl⟩
      go_wp2_with fail
      go_at_call 47
      (with_reducible refine (HNW.out _).mono ?_)
      rintro x w1 ⟨rfl, rfl⟩
      go_wp2_with fail
      go_ret2
      exact ⟨rfl, Below.refl _ _⟩
set_option maxRecDepth 100000 in
set_option maxHeartbeats 8000000 in
theorem lsettle_any (fl : List Flw) (a : Option Addr) (len cap : Nat) (h wr : ByteArray) (w : World) (hS : SlR flK w [] fl a len cap) (hlen : len ≤ 1000) (hh : h.size ≤ maxLen) (hw : wr.size ≤ maxLen) (hn : namB h wr = true) :
    Calls Try.prog 30 #[.slice a len cap, .string h, .string wr] w fun x w' => SetR (fun b => .int .i64 (if b then 0 else 2)) w' fl h wr x ∧ Below w.heap.size w w' := by
  have HNH := Lib.hid (fun W => named_any h W (by unfold maxLen at hh; omega))
  have HNW := Lib.hid (fun W => named_any wr W (by unfold maxLen at hw; omega))
  have HSZ : Hid (h.size ≤ maxLen ∧ wr.size ≤ maxLen) := ⟨hh, hw⟩
  have HTO := Lib.hid (ltotal_any fl a len cap w hS hlen)
  have HFL : Hid (fl.length ≤ 1000) := by have := hS.facts.1; show _ ≤ _; omega
  have hs := same_b h wr
  unfold namB at hn
  rw [Bool.and_eq_true, Bool.and_eq_true] at hn
  obtain ⟨⟨h1, h2⟩, h3⟩ := hn
  rw [h1] at HNH
  rw [h2] at HNW
  have hd : decide (h.data.toList = wr.data.toList) = false := by simpa using h3
  rw [hd] at hs
  clear h1 h2 h3 hd hS hlen hh hw
  go_enter Try.func30, Try.ntmps30
  go_wp2_with fail
  go_at_call 47
  (with_reducible refine (HNH.out _).mono ?_)
  rintro x w1 ⟨rfl, rfl⟩
  go_wp2_with fail
  go_at_call 47
  (with_reducible refine (HNW.out _).mono ?_)
  rintro x w1 ⟨rfl, rfl⟩
  clear HNH HNW
  go_wp2_with fail
  go_at_call 62
  (with_reducible refine HTO.out.mono ?_)
  rintro x w2 ⟨⟨out, ta, tc, tb, rfl, hso, htv, hol⟩, b2⟩
  have HSO := Lib.hid hso
  have HTV := Lib.hid htv
  have HOL := Lib.hid hol
  have HB2 := Lib.hid b2
  clear HTO hso htv hol b2 hs
  cases tb with
  | false =>
    go_wp2_with fail
    go_ret2
    exact ⟨⟨[], none, 0, false, rfl, SlR.nil _ _ _, ⟨out, false, HTV.out, .inl ⟨rfl, rfl, .inl rfl⟩⟩, Nat.zero_le _⟩, HB2.out⟩
  | true =>
    go_wp2_with fail
    go_loopw [10, 36] (fun v10 vi wr' => ∃ (k : Nat) (oa : Option Addr) (oc : Nat), v10 = .slice oa k oc ∧ vi = .int .i64 (k : Nat) ∧ k ≤ out.length ∧ Hid (wr'.ownsRow w2.heap.size 72 4 (.slice oa k oc) k (outM ((out.take k).map (setM h wr))) ∧ Below w2.heap.size w2 wr' ∧ ∀ f ∈ out.take k, f.amt ≠ -9223372036854775808)) (fun _ vi _ => out.length - (intOf vi).toNat)
    case atStart => exact ⟨0, none, 0, rfl, rfl, Nat.zero_le _, World.ownsRow_nil _ _ _ _, Below.refl _ _, fun f hf => nomatch hf⟩
    case round =>
      rename World => w3
      obtain ⟨k, oa, oc, rfl, rfl, hk, HR⟩ := hrel
      have k1 : (k : Int) ≤ 1000 := by have := HOL.out; have := HFL.out; omega
      by_cases hkt : k < out.length
      · have hkt' : (k : Int) < (out.length : Int) := by omega
        have k0 : (0 : Int) ≤ (k : Int) := by omega
        obtain ⟨b, o, f, ha, hf, hok, u0, u1⟩ := fl_at (HSO.out.kept (Kept.of_below HR.out.2.1 [])) k hkt
        have HA := Lib.hid ha
        subst ha
        have HF := Lib.hid hf
        have HTT := Lib.hid (take_snoc hf)
        have HMT := Lib.hid (map_take_snoc (setM h wr) hf)
        have HKT := Lib.hid hkt
        have HAM : Hid (-9223372036854775808 ≤ f.amt ∧ f.amt ≤ 9223372036854775807) := hok.amt
        have hal := below_nT w3 (.cells #[.string f.coin, .int .i64 f.amt] 64)
        have BF := Lib.hid (Mem.Blk.new w3 64 #[.string f.coin, .int .i64 f.amt])
        have HO := Lib.hid (own_below HR.out.1 hal)
        have HB := Lib.hid (HR.out.2.1.trans (hal.mono HR.out.2.1.size))
        have HNM := Lib.hid HR.out.2.2
        clear hf hok hkt hal HR
        go_upto_region 11 with (fail)
        generalize w3.alloc (.cells #[.string f.coin, .int .i64 f.amt] 64) = w4 at *
        generalize w3.heap.size = fb at *
        clear u0 u1
        obtain ⟨c0, c1, -, -⟩ := BF.out.two
        by_cases hmin : f.amt = -9223372036854775808
        · have hm1 : (f.amt == -9223372036854775808) = true := by simpa using hmin
          have HV : Hid (SetV fl h wr [] false) := ⟨out, true, HTV.out, .inl ⟨rfl, rfl, .inr ⟨f, List.mem_of_getElem? HF.out, hmin⟩⟩⟩
          clear hmin HMT HTT
          go_wp2_with fail
          go_ret2
          exact ⟨⟨[], none, 0, false, rfl, SlR.nil _ _ _, HV.out, Nat.zero_le _⟩, HB2.out.trans (HB.out.mono HB2.out.size)⟩
        · have hm1 : (f.amt == -9223372036854775808) = false := by simpa using hmin
          have HNM2 : Hid (∀ g ∈ out.take (k + 1), g.amt ≠ -9223372036854775808) := by
            intro g hg
            rw [HTT.out] at hg
            rcases List.mem_append.1 hg with hg | hg
            · exact HNM.out g hg
            · rw [List.mem_singleton] at hg; subst hg; exact hmin
          by_cases hpos : 0 < f.amt
          · have hp1 : decide (0 < f.amt) = true := decide_eq_true hpos
            have HSM : Hid (setM h wr f = ⟨wr, h, f.coin, f.amt⟩) := by show _ = _; unfold setM; rw [if_pos hpos]
            rw [HSM.out] at HMT
            clear hmin hpos HTT HNM HSM
            have hl2 := below_nT w4 (.cells #[.string wr, .string h, .string f.coin, .int .i64 f.amt] 72)
            have HO2 := Lib.hid (own_below HO.out hl2)
            have HBB := Lib.hid (HB.out.trans (hl2.mono HB.out.size))
            have HSB : Hid (w2.heap.size ≤ (w4.alloc (.cells #[.string wr, .string h, .string f.coin, .int .i64 f.amt] 72)).heap.size) := HBB.out.size
            clear hl2 HO HB
            go_wp2_with (at_builtin; refine ap_row infoMv Try.underlying28 rfl (by decide) rfl (.tmp 59) (.tmp 67) rfl rfl HO2.out HSB.out ⟨w4.heap.size, 0, none⟩ 1 1 [.string wr, .string h, .string f.coin, .int .i64 f.amt] rfl rfl (lit_cells_at w4 #[.string wr, .string h, .string f.coin, .int .i64 f.amt] 72 _ rfl) (by simp [Value.oneCell']) (by unfold maxLen; omega) (by omega) ?_; intro v3 w5 o1 g1 hv1; have HO3 := Lib.hid o1; have HG3 := Lib.hid g1; clear o1 g1 hv1)
            have HB3 := Lib.hid (HBB.out.grown HG3.out HBB.out.size (fun b hb => (own_lt HO2.out hb).1))
            obtain ⟨a', c', rfl⟩ := own_slice HO3.out
            have HR9 : Hid (w5.ownsRow w2.heap.size 72 4 (.slice a' (k + 1) c') (k + 1) (outM ((out.take (k + 1)).map (setM h wr))) ∧ Below w2.heap.size w2 w5 ∧ ∀ g ∈ out.take (k + 1), g.amt ≠ -9223372036854775808) := by
              refine ⟨?_, HB3.out, HNM2.out⟩
              rw [HMT.out, outM_append, outM_one]
              exact HO3.out
            clear HO3 HO2 HBB HG3 HB3 HMT HSB HNM2
            go_roundw
            case rel => exact ⟨k + 1, a', c', rfl, by go_num, by have := HKT.out; omega, HR9.out⟩
            case measure => simp [intOf]; have := HKT.out; omega
          · have hp1 : decide (0 < f.amt) = false := decide_eq_false hpos
            have HSM : Hid (setM h wr f = ⟨h, wr, f.coin, -f.amt⟩) := by show _ = _; unfold setM; rw [if_neg hpos]
            have hw : IntKind.i64.wrap (-f.amt) = -f.amt := IntWalk.i64_in _ (by have := HAM.out; omega)
            rw [HSM.out] at HMT
            clear hmin hpos HTT HNM HSM
            have hl2 := below_nT w4 (.cells #[.string h, .string wr, .string f.coin, .int .i64 (-f.amt)] 72)
            have HO2 := Lib.hid (own_below HO.out hl2)
            have HBB := Lib.hid (HB.out.trans (hl2.mono HB.out.size))
            have HSB : Hid (w2.heap.size ≤ (w4.alloc (.cells #[.string h, .string wr, .string f.coin, .int .i64 (-f.amt)] 72)).heap.size) := HBB.out.size
            clear hl2 HO HB
            go_wp2_with (at_builtin; refine ap_row infoMv Try.underlying28 rfl (by decide) rfl (.tmp 40) (.tmp 49) rfl rfl HO2.out HSB.out ⟨w4.heap.size, 0, none⟩ 1 1 [.string h, .string wr, .string f.coin, .int .i64 (-f.amt)] rfl rfl (lit_cells_at w4 #[.string h, .string wr, .string f.coin, .int .i64 (-f.amt)] 72 _ rfl) (by simp [Value.oneCell']) (by unfold maxLen; omega) (by omega) ?_; intro v3 w5 o1 g1 hv1; have HO3 := Lib.hid o1; have HG3 := Lib.hid g1; clear o1 g1 hv1)
            have HB3 := Lib.hid (HBB.out.grown HG3.out HBB.out.size (fun b hb => (own_lt HO2.out hb).1))
            obtain ⟨a', c', rfl⟩ := own_slice HO3.out
            have HR9 : Hid (w5.ownsRow w2.heap.size 72 4 (.slice a' (k + 1) c') (k + 1) (outM ((out.take (k + 1)).map (setM h wr))) ∧ Below w2.heap.size w2 w5 ∧ ∀ g ∈ out.take (k + 1), g.amt ≠ -9223372036854775808) := by
              refine ⟨?_, HB3.out, HNM2.out⟩
              rw [HMT.out, outM_append, outM_one]
              exact HO3.out
            clear HO3 HO2 HBB HG3 HB3 HMT HSB HNM2
            go_roundw
            case rel => exact ⟨k + 1, a', c', rfl, by go_num, by have := HKT.out; omega, HR9.out⟩
            case measure => simp [intOf]; have := HKT.out; omega
      · have hkt' : ¬ (k : Int) < (out.length : Int) := by omega
        obtain rfl : k = out.length := by omega
        rw [List.take_of_length_le (Nat.le_refl _)] at HR
        have HFI : Hid (∃ a c, Value.slice oa out.length oc = .slice a (out.map (setM h wr)).length c ∧ SlR mvK w3 [] (out.map (setM h wr)) a (out.map (setM h wr)).length c) := outM_any (by rw [List.length_map]; exact HR.out.1) HR.out.2.1 (fun x hx => by
          obtain ⟨f, hf, rfl⟩ := List.mem_map.1 hx
          have h1 := fl_ok HSO.out f hf
          have h2 : I64 f.amt := h1.amt
          have h3 := HR.out.2.2 f hf
          unfold I64 at h2
          unfold setM
          split
          · exact ⟨HSZ.out.2, HSZ.out.1, h1.coin, h1.amt⟩
          · exact ⟨HSZ.out.1, HSZ.out.2, h1.coin, by show I64 (-f.amt); unfold I64; omega⟩)
        have HV : Hid (SetV fl h wr (out.map (setM h wr)) true) := ⟨out, true, HTV.out, .inr ⟨rfl, rfl, HR.out.2.2, rfl⟩⟩
        have HLL : Hid ((out.map (setM h wr)).length = out.length) := List.length_map ..
        have HBZ := Lib.hid HR.out.2.1
        clear HR hkt hk
        go_wp2_with fail
        go_ret2
        obtain ⟨a', c', e, hs⟩ := HFI.out
        exact ⟨⟨_, a', c', true, by rw [e]; rfl, hs, HV.out, by rw [HLL.out]; exact HOL.out⟩, HB2.out.trans (HBZ.out.mono HB2.out.size)⟩
end Go.Proofs.Ytgbiimoednmlgaa

/- Build: its nodes and numbers; plain. -/
namespace Go.Proofs.Ytgbiimoednmlgaa
set_option linter.unusedVariables false
set_option linter.unusedSimpArgs false
open Go.RowKit
theorem cell_lt {w : World} {a : Addr} {v : Value} (h : w.cell? a = some v) : a.block < w.heap.size := by
  rcases Nat.lt_or_ge a.block w.heap.size with h1 | h1
  · exact h1
  · have : w.heap[a.block]? = none := Array.getElem?_eq_none h1
    simp [World.cell?, this] at h
/-- What was there is there behind what only makes memory. -/
theorem cell_up {w w' : World} {p : Addr} {v : Value} (h : w.cell? p = some v) (hb : Below w.heap.size w w') : w'.cell? p = some v := (hb.cell (cell_lt h)).trans h
theorem below_new (w : World) (o : Obj) : Below w.heap.size w (w.alloc o).drew := ((Below.refl w.heap.size w).alloc (Nat.le_refl _) o).drew
def ndI (n : Nat) : Int := if n < 1000 then (n : Int) else 1000
def rkI (n r : Nat) : Int := if n < 1000 then (r : Int) else 1000
theorem ndI_bd (n : Nat) : 0 ≤ ndI n ∧ ndI n ≤ 1000 := by unfold ndI; split <;> omega
theorem rkI_bd (n r : Nat) (h : r < 1000) : 0 ≤ rkI n r ∧ rkI n r ≤ 1000 := by unfold rkI; split <;> omega
/-- Of S nodes, M deep, with k within: what N and D are so far. -/
structure Cnt (k S M : Nat) (N D : Int) : Prop where
  n1 : 1 ≤ N
  n2 : N ≤ 1 + 1000 * (k : Int)
  d1 : 1 ≤ D
  d2 : D ≤ 1001
  yes : S < 1000 → N = (S : Int) ∧ D = (M : Int)
  no : 1000 ≤ S → 1000 ≤ N ∨ 1000 ≤ D
theorem Cnt.one : Cnt 0 1 1 1 1 := ⟨by omega, by omega, by omega, by omega, fun _ => ⟨rfl, rfl⟩, fun h => by omega⟩
theorem Cnt.step {k S M : Nat} {N D : Int} (h : Cnt k S M N D) {n r : Nat} (hn : 1 ≤ n) (hr : r < 1000) : Cnt (k + 1) (S + n) (max M (r + 1)) (N + ndI n) (max D (rkI n r + 1)) := by
  obtain ⟨h1, h2, h3, h4, h5, h6⟩ := h
  have b1 := ndI_bd n
  have b2 := rkI_bd n r hr
  refine ⟨by omega, by omega, by omega, by omega, fun hS => ?_, fun hS => ?_⟩
  · obtain ⟨e1, e2⟩ := h5 (by omega)
    have hn' : n < 1000 := by omega
    unfold ndI rkI
    rw [if_pos hn', if_pos hn']
    constructor <;> omega
  · by_cases hS' : 1000 ≤ S
    · rcases h6 hS' with h7 | h7
      · exact .inl (by omega)
      · exact .inr (by omega)
    · obtain ⟨e1, e2⟩ := h5 (by omega)
      by_cases hn' : n < 1000
      · left; unfold ndI; rw [if_pos hn']; omega
      · left; unfold ndI; rw [if_neg hn']; omega
theorem Cnt.great {k S M : Nat} {N D : Int} (h : Cnt k S M N D) (hM : M < 1000) (hg : 1000 ≤ N ∨ 1000 ≤ D) : ndI S = 1000 ∧ rkI S M = 1000 := by
  have : ¬ S < 1000 := fun hS => by obtain ⟨e1, e2⟩ := h.yes hS; omega
  unfold ndI rkI
  rw [if_neg this, if_neg this]
  exact ⟨rfl, rfl⟩
theorem Cnt.small {k S M : Nat} {N D : Int} (h : Cnt k S M N D) (h1 : N < 1000) (h2 : D < 1000) : ndI S = N ∧ rkI S M = D := by
  have hS : S < 1000 := by
    rcases Nat.lt_or_ge S 1000 with h3 | h3
    · exact h3
    · rcases h.no h3 with h4 | h4 <;> omega
  obtain ⟨e1, e2⟩ := h.yes hS
  unfold ndI rkI
  rw [if_pos hS, if_pos hS]
  exact ⟨e1.symm, e2.symm⟩
theorem Ex.nd_snoc (l : List Ex) (x : Ex) : Ex.nd.go (l ++ [x]) = Ex.nd.go l + x.nd := by
  induction l with
  | nil => simp [Ex.nd.go]
  | cons y t ih => simp only [List.cons_append, Ex.nd.go, ih]; omega
theorem Ex.rk_snoc (l : List Ex) (x : Ex) : Ex.rk.go (l ++ [x]) = max (Ex.rk.go l) x.rk := by
  induction l with
  | nil => simp [Ex.rk.go]
  | cons y t ih => simp only [List.cons_append, Ex.rk.go, ih]; omega
theorem Te.nd_snoc (l : List Te) (x : Te) : Te.nd.go (l ++ [x]) = Te.nd.go l + x.nd := by
  induction l with
  | nil => simp [Te.nd.go]
  | cons y t ih => simp only [List.cons_append, Te.nd.go, ih]; omega
theorem Te.rk_snoc (l : List Te) (x : Te) : Te.rk.go (l ++ [x]) = max (Te.rk.go l) x.rk := by
  induction l with
  | nil => simp [Te.rk.go]
  | cons y t ih => simp only [List.cons_append, Te.rk.go, ih]; omega
theorem Ex.rk_go_le {l : List Ex} {b : Nat} (h : ∀ e ∈ l, e.rk ≤ b) : Ex.rk.go l ≤ b := by
  induction l with
  | nil => simp [Ex.rk.go]
  | cons y t ih =>
    simp only [Ex.rk.go]
    have h1 := h y (by simp)
    have h2 := ih (fun e he => h e (by simp [he]))
    omega
theorem Te.rk_go_le {l : List Te} {b : Nat} (h : ∀ e ∈ l, e.rk ≤ b) : Te.rk.go l ≤ b := by
  induction l with
  | nil => simp [Te.rk.go]
  | cons y t ih =>
    simp only [Te.rk.go]
    have h1 := h y (by simp)
    have h2 := ih (fun e he => h e (by simp [he]))
    omega
theorem Ex.nd_pos' (e : Ex) : 1 ≤ e.nd := by cases e; simp only [Ex.nd]; omega
theorem Te.nd_pos' (e : Te) : 1 ≤ e.nd := by cases e; simp only [Te.nd]; omega
theorem max_if (a b : Int) : (if a < b then b else a) = max a b := by split <;> omega
theorem Cnt.push {args : List Ex} {x : Ex} {N D : Int} (h : Cnt args.length (1 + Ex.nd.go args) (1 + Ex.rk.go args) N D) (hr : x.rk < 1000) :
    Cnt (args ++ [x]).length (1 + Ex.nd.go (args ++ [x])) (1 + Ex.rk.go (args ++ [x])) (N + ndI x.nd) (if D < rkI x.nd x.rk + 1 then rkI x.nd x.rk + 1 else D) := by
  have h1 := h.step x.nd_pos' hr
  rw [max_if, Ex.nd_snoc, Ex.rk_snoc, List.length_append]
  rw [show 1 + (Ex.nd.go args + x.nd) = 1 + Ex.nd.go args + x.nd by omega, show 1 + max (Ex.rk.go args) x.rk = max (1 + Ex.rk.go args) (x.rk + 1) by omega]
  exact h1
/-- A term's: its expressions first, then its terms. -/
def Te.nds (xs : List Ex) (ts : List Te) : Nat := 1 + Ex.nd.go xs + Te.nd.go ts
def Te.rks (xs : List Ex) (ts : List Te) : Nat := 1 + max (Ex.rk.go xs) (Te.rk.go ts)
theorem Cnt.pushX {xs : List Ex} {x : Ex} {k : Nat} {N D : Int} (h : Cnt k (Te.nds xs []) (Te.rks xs []) N D) (hr : x.rk < 1000) :
    Cnt (k + 1) (Te.nds (xs ++ [x]) []) (Te.rks (xs ++ [x]) []) (N + ndI x.nd) (if D < rkI x.nd x.rk + 1 then rkI x.nd x.rk + 1 else D) := by
  have h1 := h.step x.nd_pos' hr
  unfold Te.nds Te.rks at *
  rw [max_if, Ex.nd_snoc, Ex.rk_snoc]
  simp only [Te.nd.go, Te.rk.go] at *
  rw [show 1 + (Ex.nd.go xs + x.nd) + 0 = 1 + Ex.nd.go xs + 0 + x.nd by omega, show 1 + max (max (Ex.rk.go xs) x.rk) 0 = max (1 + max (Ex.rk.go xs) 0) (x.rk + 1) by omega]
  exact h1
theorem Cnt.pushT {xs : List Ex} {ts : List Te} {x : Te} {k : Nat} {N D : Int} (h : Cnt k (Te.nds xs ts) (Te.rks xs ts) N D) (hr : x.rk < 1000) :
    Cnt (k + 1) (Te.nds xs (ts ++ [x])) (Te.rks xs (ts ++ [x])) (N + ndI x.nd) (if D < rkI x.nd x.rk + 1 then rkI x.nd x.rk + 1 else D) := by
  have h1 := h.step x.nd_pos' hr
  unfold Te.nds Te.rks at *
  rw [max_if, Te.nd_snoc, Te.rk_snoc]
  rw [show 1 + Ex.nd.go xs + (Te.nd.go ts + x.nd) = 1 + Ex.nd.go xs + Te.nd.go ts + x.nd by omega, show 1 + max (Ex.rk.go xs) (max (Te.rk.go ts) x.rk) = max (1 + max (Ex.rk.go xs) (Te.rk.go ts)) (x.rk + 1) by omega]
  exact h1
/-- The nodes that come in. -/
structure Lf where
  op : Int
  n : Int
  nm : ByteArray
  kids : List Int
structure Kn where
  op : Int
  nm : ByteArray
  exprs : List Int
  terms : List Int
def lfK : Elt Lf where
  sz := 4
  pos := by decide
  R := fun w X x cs => ∃ a cap, cs = [.int .i64 x.op, .int .i64 x.n, .string x.nm, .slice a x.kids.length cap] ∧ I64 x.op ∧ I64 x.n ∧ x.nm.size ≤ 9223372036854775807 ∧ SlR i64K w X x.kids a x.kids.length cap
  kept := fun h k => by obtain ⟨a, cap, rfl, h1, h2, h3, h4⟩ := h; exact ⟨a, cap, rfl, h1, h2, h3, h4.kept k⟩
  less := fun h k => by obtain ⟨a, cap, rfl, h1, h2, h3, h4⟩ := h; exact ⟨a, cap, rfl, h1, h2, h3, h4.less k⟩
  one := fun h => by obtain ⟨a, cap, rfl, h1, h2, h3, h4⟩ := h; exact ⟨rfl, by simp [Value.oneCell']⟩
def knK : Elt Kn where
  sz := 4
  pos := by decide
  R := fun w X x cs => ∃ a cap a' cap', cs = [.int .i64 x.op, .string x.nm, .slice a x.exprs.length cap, .slice a' x.terms.length cap'] ∧ I64 x.op ∧ x.nm.size ≤ 9223372036854775807 ∧ SlR i64K w X x.exprs a x.exprs.length cap ∧ SlR i64K w X x.terms a' x.terms.length cap'
  kept := fun h k => by obtain ⟨a, cap, a', cap', rfl, h1, h2, h3, h4⟩ := h; exact ⟨a, cap, a', cap', rfl, h1, h2, h3.kept k, h4.kept k⟩
  less := fun h k => by obtain ⟨a, cap, a', cap', rfl, h1, h2, h3, h4⟩ := h; exact ⟨a, cap, a', cap', rfl, h1, h2, h3.less k, h4.less k⟩
  one := fun h => by obtain ⟨a, cap, a', cap', rfl, h1, h2, h3, h4⟩ := h; exact ⟨rfl, by simp [Value.oneCell']⟩
def nds (es : List Ex) : List Int := es.map fun e => ndI e.nd
def rks (es : List Ex) : List Int := es.map fun e => rkI e.nd e.rk
def ndsT (ts : List Te) : List Int := ts.map fun e => ndI e.nd
def rksT (ts : List Te) : List Int := ts.map fun e => rkI e.nd e.rk
/-- The j-th element of a slice that grows: its cells, clear of all that is written. -/
theorem Sep.elt {α : Type} {K : Elt α} {e : TypeId} {base : Nat} {w : World} {fam : List Ob} {l : List α} {v : Value} (h : Sep w fam) (i : Nat) (hi : fam[i]? = some (gr K e base l v)) (j : Nat) (hj : j < l.length) :
    ∃ g cap x cs, v = .slice (some ⟨g, 0, none⟩) l.length cap ∧ l.length ≤ cap ∧ l[j]? = some x ∧ K.R w (owns fam) x cs ∧ cs.length = K.sz ∧ ∀ m c, m < K.sz → cs[m]? = some c → w.cell? ⟨g, j * K.sz + m, none⟩ = some c := by
  obtain ⟨csl, hG⟩ := h.at i hi
  obtain ⟨g, cap, rfl, hg0, hg1, hg2, hob⟩ := own_form hG.own (by omega)
  have hx : l[j]? = some (l[j]'hj) := List.getElem?_eq_getElem hj
  have hc : csl[j]? = some (csl[j]'(by rw [hG.count]; exact hj)) := List.getElem?_eq_getElem (by rw [hG.count]; exact hj)
  have hR := hG.elts j _ _ hx hc
  refine ⟨g, cap, _, _, rfl, hg2, hx, K.less hR (fun b _ hm => ?_), (K.one hR).1, fun m c hm hcm => ?_⟩
  · obtain ⟨q, o, hq, hb⟩ := mem_owns.1 hm
    by_cases hqi : q = i
    · subst hqi
      rw [hi] at hq
      injection hq with hq
      subst hq
      have hb' : b ∈ (Value.slice (some ⟨g, 0, none⟩) l.length cap).ownBlock.toList := hb
      rw [Option.mem_toList] at hb'
      exact busy_mem.2 (.inl hb')
    · exact busy_mem.2 (.inr (mem_others.2 ⟨q, o, hqi, hq, hb⟩))
  · rw [hG.own.cellAt (j * K.sz + m) (by calc j * K.sz + m < j * K.sz + K.sz := by omega
                                              _ = (j + 1) * K.sz := by rw [Nat.add_mul]; omega
                                              _ ≤ l.length * K.sz := Nat.mul_le_mul_right _ (by omega)), flat_get K.sz csl hG.len4 j m _ hc hm]
    exact hcm
/-- What a slice that grows is, as a value. -/
theorem Sep.form {α : Type} {K : Elt α} {e : TypeId} {base : Nat} {w : World} {fam : List Ob} {l : List α} {v : Value} (h : Sep w fam) (i : Nat) (hi : fam[i]? = some (gr K e base l v)) : ∃ a cap, v = .slice a l.length cap := by
  obtain ⟨a, cap, hv, _⟩ := h.still i hi
  exact ⟨a, cap, hv⟩
end Go.Proofs.Ytgbiimoednmlgaa
