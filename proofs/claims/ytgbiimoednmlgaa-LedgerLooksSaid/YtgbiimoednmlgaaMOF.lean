/- A part of the proof: LdF, LdG, LdK, LdL, LdJ, LdR, LdEv, one behind another. -/
import Derived.Test.YtgbiimoednmlgaaMOA
import Derived.Test.YtgbiimoednmlgaaMOB
import Derived.Test.YtgbiimoednmlgaaMOC
import Derived.Test.YtgbiimoednmlgaaMOD
import Derived.Test.YtgbiimoednmlgaaMOE
/- The contracts of sums, Even. -/
namespace Go.Proofs.Ytgbiimoednmlgaa
set_option linter.unusedVariables false
set_option linter.unusedSimpArgs false
open Go.RowKit
theorem ints_row {base : Nat} {w : World} {L : List Int} {a : Option Addr} {c : Nat} (hr : w.ownsRow base 2 1 (.slice a L.length c) L.length (intC L)) (hI : ∀ n ∈ L, I64 n) : IntsAt w L a L.length := by
  refine ⟨rfl, fun j n hj => ⟨hI n (List.mem_of_getElem? hj), ?_⟩⟩
  have hjl := (List.getElem?_eq_some_iff.1 hj).1
  obtain ⟨g, cap, hv, -⟩ := own_form hr (by omega)
  injection hv with e1 _ e3
  subst e1; subst e3
  refine ⟨g, 0, rfl, ?_⟩
  rw [Nat.zero_add, hr.cellAt j (by omega)]
  unfold intC
  rw [List.getElem?_map, hj]; rfl
theorem intC_append (a b : List Int) : intC (a ++ b) = intC a ++ intC b := by unfold intC; rw [List.map_append]
/-- A currency's amounts. -/
def amtA (l : List Acct) (c : List UInt8) : List Int := (l.filter (fun a => a.key.2 == c)).map (fun a => a.amt)
theorem amtA_sum (l : List Acct) (c : List UInt8) : (amtA l c).sum = coinA l c := rfl
theorem amtA_take {l : List Acct} {k : Nat} {x : Acct} (h : l[k]? = some x) (c : List UInt8) : amtA (l.take (k + 1)) c = amtA (l.take k) c ++ (if x.coin.data.toList = c then [x.amt] else []) := by
  obtain ⟨hk, e⟩ := List.getElem?_eq_some_iff.1 h
  rw [← List.take_append_getElem hk, e]
  unfold amtA
  rw [List.filter_append, List.map_append]
  congr 1
  have : x.key.2 = x.coin.data.toList := rfl
  by_cases hc : x.coin.data.toList = c
  · rw [if_pos hc, List.filter_cons_of_pos (by rw [this]; simpa using hc)]; rfl
  · rw [if_neg hc, List.filter_cons_of_neg (by rw [this]; simpa using hc)]; rfl
theorem amtA_len (l : List Acct) (c : List UInt8) : (amtA l c).length ≤ l.length := by unfold amtA; rw [List.length_map]; exact List.length_filter_le ..
theorem amtA_rng {l : List Acct} (h : ∀ a ∈ l, AcctOk a) (c : List UInt8) : ∀ n ∈ amtA l c, I64 n := by
  intro n hn
  unfold amtA at hn
  obtain ⟨a, ha, rfl⟩ := List.mem_map.1 hn
  exact (h a (List.mem_filter.1 ha).1).amt
set_option maxRecDepth 100000 in
set_option maxHeartbeats 4000000 in
theorem sums_any (l : List Acct) (a : Option Addr) (len cap : Nat) (c : ByteArray) (w : World) (h : SlR acctK w [] l a len cap) (hlen : len ≤ 1000000) :
    Calls Try.prog 46 #[.slice a len cap, .string c] w fun y w' => y = .returned (.bool (decide (coinA l c.data.toList = 0))) ∧ Below w.heap.size w w' := by
  have HS := Lib.hid h
  have HL := Lib.hid h.facts.1
  have HN := Lib.hid hlen
  have HOK := Lib.hid (acct_ok h)
  obtain ⟨R, hR⟩ : ∃ R, R = decide (coinA l c.data.toList = 0) := ⟨_, rfl⟩
  have HR := Lib.hid hR
  rw [← hR]
  clear h hlen hR
  go_enter Try.func46, Try.ntmps46
  go_wp2_with fail
  go_loopw [5, 12] (fun v i wr => ∃ (k : Nat) (oa : Option Addr) (oc : Nat), v = .slice oa (amtA (l.take k) c.data.toList).length oc ∧ i = .int .i64 (k : Nat) ∧ k ≤ len ∧ Hid (wr.ownsRow w.heap.size 2 1 (.slice oa (amtA (l.take k) c.data.toList).length oc) (amtA (l.take k) c.data.toList).length (intC (amtA (l.take k) c.data.toList)) ∧ Below w.heap.size w wr)) (fun _ i _ => len - (intOf i).toNat)
  case atStart =>
    have h0 : amtA (l.take 0) c.data.toList = [] := by rw [List.take_zero]; rfl
    exact ⟨0, none, 0, by rw [h0]; rfl, rfl, Nat.zero_le _, by rw [h0]; exact World.ownsRow_nil _ _ _ _, Below.refl _ _⟩
  case round =>
    obtain ⟨k, oa, oc, rfl, rfl, hk, HQ⟩ := hrel
    by_cases hlt : k < len
    · have hlt' : (k : Int) < (len : Int) := by omega
      have i0 : (0 : Int) ≤ (k : Int) := by omega
      have i1 : (k : Int) ≤ 1000000 := by have := HN.out; omega
      have HSR := Lib.hid (HS.out.kept (Kept.of_below HQ.out.2 []))
      obtain ⟨b, o, x, rfl, hx, -, u0, u1, u2⟩ := acct_at HSR.out k hlt
      have hal := (Below.refl wr.heap.size wr).alloc (Nat.le_refl _) (.cells #[.string x.party, .string x.coin, .int .i64 x.amt] 51)
      have BZ := Lib.hid (Mem.Blk.new wr 51 #[.string x.party, .string x.coin, .int .i64 x.amt])
      have HO2 := Lib.hid (own_below HQ.out.1 hal)
      have HB2 := Lib.hid (HQ.out.2.trans (hal.mono HQ.out.2.size))
      have HX := Lib.hid (amtA_take hx c.data.toList)
      have HKL := Lib.hid hlt
      have hsm := same_b x.coin c
      clear hal hx hlt HQ HSR
      go_upto_region 5 with (fail)
      generalize wr.heap.size = zb at *
      generalize wr.alloc (.cells #[.string x.party, .string x.coin, .int .i64 x.amt] 51) = w3 at *
      clear u0 u1 u2
      have z1 : w3.cell? ⟨zb, 1, none⟩ = some (.string x.coin) := BZ.out.cell 1
      have z2 : w3.cell? ⟨zb, 2, none⟩ = some (.int .i64 x.amt) := BZ.out.cell 2
      by_cases hc : x.coin.data.toList = c.data.toList
      · rw [decide_eq_true hc] at hsm
        have HX1 : Hid (amtA (l.take (k + 1)) c.data.toList = amtA (l.take k) c.data.toList ++ [x.amt]) := by
          show _ = _
          rw [HX.out, if_pos hc]
        have HOL : Hid ((amtA (l.take k) c.data.toList).length + 1 ≤ maxLen ∧ ((amtA (l.take k) c.data.toList).length + 1) * 8 ≤ 140737488355328) := by
          have hmx : maxLen = 9223372036854775807 := by decide
          have h1 := amtA_len (l.take k) c.data.toList
          rw [List.length_take] at h1
          exact ⟨by omega, by omega⟩
        have hal := (Below.refl w3.heap.size w3).alloc (Nat.le_refl _) (.cells #[.int .i64 x.amt] 2)
        have HOB := Lib.hid (own_below HO2.out hal)
        have HBB := Lib.hid (HB2.out.trans (hal.mono HB2.out.size))
        have HSB : Hid (w.heap.size ≤ (w3.alloc (.cells #[.int .i64 x.amt] 2)).heap.size) := HBB.out.size
        clear hal hc HX
        go_upto_region 7 with (at_builtin; refine ap_row infoI Try.underlying77 rfl (by decide) rfl (.tmp 20) (.tmp 23) rfl rfl HOB.out HSB.out ⟨w3.heap.size, 0, none⟩ 1 1 [.int .i64 x.amt] rfl rfl (lit_cells_at w3 #[.int .i64 x.amt] 2 _ rfl) (by simp [Value.oneCell']) HOL.out.1 HOL.out.2 ?_; intro v1 w5 o1 g1 hv1; have HO5 := Lib.hid o1; have HG5 := Lib.hid g1; clear o1 g1 hv1)
        have HQ1 : ∃ a5 c5, v1 = Value.slice a5 (amtA (l.take (k + 1)) c.data.toList).length c5 ∧ Hid (w5.ownsRow w.heap.size 2 1 (.slice a5 (amtA (l.take (k + 1)) c.data.toList).length c5) (amtA (l.take (k + 1)) c.data.toList).length (intC (amtA (l.take (k + 1)) c.data.toList)) ∧ Below w.heap.size w w5) := by
          have ho := HO5.out
          obtain ⟨a5, c5, rfl⟩ := own_slice ho
          rw [HX1.out, List.length_append, intC_append]
          exact ⟨a5, c5, rfl, ho, HBB.out.grown HG5.out HSB.out (fun b hb => (own_lt HOB.out hb).1)⟩
        obtain ⟨a5, c5, rfl, HQ5⟩ := HQ1
        clear HO5 HG5 HOB HBB HSB z1 z2 hsm
        go_wp2_with fail
        go_roundw
        case rel => exact ⟨k + 1, a5, c5, rfl, by go_num, by have := HKL.out; omega, HQ5.out⟩
        case measure => simp [intOf]; have := HKL.out; omega
      · rw [decide_eq_false hc] at hsm
        have HX1 : Hid (amtA (l.take (k + 1)) c.data.toList = amtA (l.take k) c.data.toList) := by
          show _ = _
          rw [HX.out, if_neg hc, List.append_nil]
        clear hc HX
        go_wp2_with fail
        go_roundw
        case rel => exact ⟨k + 1, oa, oc, by rw [HX1.out], by go_num, by have := HKL.out; omega, by rw [HX1.out]; exact ⟨HO2.out, HB2.out⟩⟩
        case measure => simp [intOf]; have := HKL.out; omega
    · have hlt' : ¬ (k : Int) < (len : Int) := by omega
      have hke : l.take k = l := List.take_of_length_le (by rw [HL.out]; omega)
      rw [hke] at HQ ⊢
      have HIN := Lib.hid (sum_any (amtA l c.data.toList) oa (amtA l c.data.toList).length oc wr (ints_row HQ.out.1 (amtA_rng HOK.out c.data.toList)) (by have h1 := amtA_len l c.data.toList; have := HL.out; have := HN.out; omega))
      have HB := Lib.hid HQ.out.2
      clear HQ hke hlt
      rw [amtA_sum] at HIN
      go_wp2_with fail
      go_at_call 37
      (with_reducible refine HIN.out.mono ?_)
      rintro y w4 ⟨rfl, rfl⟩
      clear HIN
      obtain ⟨n, hn⟩ : ∃ n, n = coinA l c.data.toList := ⟨_, rfl⟩
      rw [← hn] at HR ⊢
      clear hn
      cases hf : fits64 n with
      | false =>
        have HRF : Hid (R = false) := by
          show _ = _
          rw [HR.out]
          refine decide_eq_false (fun e => ?_)
          rw [e, fits_zero] at hf; cases hf
        clear HR hf
        rw [if_neg Bool.false_ne_true]
        go_wp2_with fail
        go_ret
        exact ⟨by rw [HRF.out]; rfl, HB.out⟩
      | true =>
        rw [if_pos rfl]
        by_cases hz : n = 0
        · have hz' : (n == 0) = true := by simpa using hz
          have HRF : Hid (R = true) := by show _ = _; rw [HR.out]; exact decide_eq_true hz
          clear HR hf hz
          go_wp2_with fail
          go_ret
          exact ⟨by rw [HRF.out]; rfl, HB.out⟩
        · have hz' : (n == 0) = false := by simpa using hz
          have HRF : Hid (R = false) := by show _ = _; rw [HR.out]; exact decide_eq_false hz
          clear HR hf hz
          go_wp2_with fail
          go_ret
          exact ⟨by rw [HRF.out]; rfl, HB.out⟩
end Go.Proofs.Ytgbiimoednmlgaa

/- The contract of Even. -/
namespace Go.Proofs.Ytgbiimoednmlgaa
set_option linter.unusedVariables false
set_option linter.unusedSimpArgs false
open Go.RowKit
set_option maxRecDepth 100000 in
set_option maxHeartbeats 4000000 in
theorem evenf_any (l : List Acct) (a : Option Addr) (len cap : Nat) (x : Acct) (bx : Nat) (w : World) (h : SlR acctK w [] l a len cap) (hlen : len ≤ 1000000) (hbx : w.cell? ⟨bx, 0, none⟩ = some (.slice a len cap)) :
    Calls Try.prog 45 #[.agg (acctC x).toArray, .pointer (some ⟨bx, 0, none⟩)] w fun y w' => y = .returned (.bool (!decide (coinA l x.coin.data.toList = 0))) ∧ Below w.heap.size w w' := by
  have hal := (Below.refl w.heap.size w).alloc (Nat.le_refl _) (.cells (acctC x).toArray 51)
  have HB := Lib.hid hal
  have BX := Lib.hid (Mem.Blk.new w 51 (acctC x).toArray)
  have HQ := Lib.hid (sums_any l a len cap x.coin _ (h.kept (Kept.of_below hal [])) hlen)
  have hbx' := cellUp hbx hal
  obtain ⟨R, hR⟩ : ∃ R, R = decide (coinA l x.coin.data.toList = 0) := ⟨_, rfl⟩
  rw [← hR] at HQ ⊢
  clear hal h hbx hR
  show Calls Try.prog 45 #[.agg #[.string x.party, .string x.coin, .int .i64 x.amt], .pointer (some ⟨bx, 0, none⟩)] w _
  go_enter Try.func45, Try.ntmps45
  go_upto_region 1 with (fail)
  have HB' : Hid (Below w.heap.size w (w.alloc (.cells #[.string x.party, .string x.coin, .int .i64 x.amt] 51))) := HB.out
  have BX' : Hid (Mem.Blk (w.alloc (.cells #[.string x.party, .string x.coin, .int .i64 x.amt] 51)) w.heap.size 51 (acctC x).toArray) := BX.out
  have HQ' : Hid (Calls Try.prog 46 #[.slice a len cap, .string x.coin] (w.alloc (.cells #[.string x.party, .string x.coin, .int .i64 x.amt] 51)) fun y w' => y = .returned (.bool R) ∧ Below (w.alloc (.cells #[.string x.party, .string x.coin, .int .i64 x.amt] 51)).heap.size (w.alloc (.cells #[.string x.party, .string x.coin, .int .i64 x.amt] 51)) w') := HQ.out
  have hb : (w.alloc (.cells #[.string x.party, .string x.coin, .int .i64 x.amt] 51)).cell? ⟨bx, 0, none⟩ = some (.slice a len cap) := hbx'
  clear HB BX HQ hbx'
  generalize w.alloc (.cells #[.string x.party, .string x.coin, .int .i64 x.amt] 51) = w1 at *
  have c1 : w1.cell? ⟨w.heap.size, 1, none⟩ = some (.string x.coin) := BX'.out.cell 1
  go_wp2_with fail
  go_at_call 46
  (with_reducible refine HQ'.out.mono ?_)
  rintro y w2 ⟨rfl, b2⟩
  have HB2 := Lib.hid (HB'.out.trans (b2.mono HB'.out.size))
  clear b2 HQ'
  go_wp2_with fail
  go_ret
  exact ⟨rfl, HB2.out⟩
set_option maxRecDepth 100000 in
set_option maxHeartbeats 4000000 in
theorem indexA_any (l : List Acct) (a : Option Addr) (len cap bx : Nat) (w : World) (h : SlR acctK w [] l a len cap) (hlen : len ≤ 1000000) (hbx : w.cell? ⟨bx, 0, none⟩ = some (.slice a len cap)) :
    Calls Try.prog 76 #[.slice a len cap, .func (.func 45) #[] #[.pointer (some ⟨bx, 0, none⟩)]] w fun x w' => (∃ i : Int, x = .returned (.int .i64 i) ∧ (0 ≤ i ↔ l.all (fun a => decide (coinA l a.coin.data.toList = 0)) = false)) ∧ Below w.heap.size w w' := by
  have HS := Lib.hid h
  have HL := Lib.hid h.facts.1
  have HN := Lib.hid hlen
  have HBX := Lib.hid hbx
  have eg := entersL (P := Try.prog) Try.func45 (by kernel_rfl) rfl
  obtain ⟨B, hB⟩ : ∃ B, B = l.all (fun a => decide (coinA l a.coin.data.toList = 0)) := ⟨_, rfl⟩
  have HBB := Lib.hid hB
  rw [← hB]
  clear h hlen hB hbx
  go_enter Try.func76, Try.ntmps76
  go_wp2_with fail
  go_loopw [8] (fun i wr => ∃ (k : Nat), i = .int .i64 (k : Nat) ∧ k ≤ len ∧ Hid ((∀ (j : Nat) x, j < k → l[j]? = some x → decide (coinA l x.coin.data.toList = 0) = true) ∧ Below w.heap.size w wr)) (fun i _ => len - (intOf i).toNat)
  case atStart => exact ⟨0, rfl, Nat.zero_le _, fun j x h => absurd h (by omega), Below.refl _ _⟩
  case round =>
    obtain ⟨k, rfl, hk, HT⟩ := hrel
    by_cases hlt : k < len
    · have hlt' : (k : Int) < (len : Int) := by omega
      have i0 : (0 : Int) ≤ (k : Int) := by omega
      have i1 : (k : Int) ≤ 1000000 := by have := HN.out; omega
      have HSR := Lib.hid (HS.out.kept (Kept.of_below HT.out.2 []))
      obtain ⟨b, o, x, hao, hx, -, u0, u1, u2⟩ := acct_at HSR.out k hlt
      have HX := Lib.hid hx
      have HP : Hid (Calls Try.prog 45 #[.agg #[.string x.party, .string x.coin, .int .i64 x.amt], .pointer (some ⟨bx, 0, none⟩)] wr _) := evenf_any l a len cap x bx wr HSR.out HN.out (cellUp HBX.out HT.out.2)
      obtain ⟨R, hR⟩ : ∃ R, R = decide (coinA l x.coin.data.toList = 0) := ⟨_, rfl⟩
      have HR := Lib.hid hR
      rw [← hR] at HP
      subst hao
      have HTR := Lib.hid HT.out.1
      have HB0 := Lib.hid HT.out.2
      have HKL := Lib.hid hlt
      clear hx hlt HT HSR hR
      go_wp2_with fail
      go_at_call 45
      (with_reducible refine HP.out.mono ?_)
      rintro e w2 ⟨rfl, b2⟩
      have HB2 := Lib.hid (HB0.out.trans (b2.mono HB0.out.size))
      clear b2 HP u0 u1 u2 HB0
      cases hm : R with
      | true =>
        have HT2 : Hid (∀ (j : Nat) x, j < k + 1 → l[j]? = some x → decide (coinA l x.coin.data.toList = 0) = true) := by
          intro j y hj hy
          by_cases e : j < k
          · exact HTR.out j y e hy
          · obtain rfl : j = k := by omega
            rw [HX.out] at hy; rw [← Option.some.inj hy, ← HR.out]; exact hm
        clear hm
        go_wp2_with fail
        go_roundw
        case rel => exact ⟨k + 1, by go_num, by have := HKL.out; omega, HT2.out, HB2.out⟩
        case measure => simp [intOf]; have := HKL.out; omega
      | false =>
        have HF : Hid (l.all (fun a => decide (coinA l a.coin.data.toList = 0)) = false) := List.all_eq_false.2 ⟨x, List.mem_of_getElem? HX.out, by rw [← HR.out, hm]; simp⟩
        clear hm
        go_wp2_with fail
        go_ret
        exact ⟨⟨_, rfl, ⟨fun _ => by rw [HBB.out, HF.out], fun _ => i0⟩⟩, HB2.out⟩
    · have hlt' : ¬ (k : Int) < (len : Int) := by omega
      have HF : Hid (l.all (fun a => decide (coinA l a.coin.data.toList = 0)) = true) := List.all_eq_true.2 (fun x hx => by
        obtain ⟨j, hj⟩ := List.getElem?_of_mem hx
        exact HT.out.1 j x (by have := (List.getElem?_eq_some_iff.1 hj).1; have := HL.out; omega) hj)
      have HB2 := Lib.hid HT.out.2
      clear HT
      go_wp2_with fail
      go_ret
      exact ⟨⟨_, rfl, ⟨fun h => absurd h (by decide), fun h => by rw [HBB.out, HF.out] at h; cases h⟩⟩, HB2.out⟩
set_option maxRecDepth 100000 in
set_option maxHeartbeats 2000000 in
theorem containsA_any (l : List Acct) (a : Option Addr) (len cap bx : Nat) (w : World) (h : SlR acctK w [] l a len cap) (hlen : len ≤ 1000000) (hbx : w.cell? ⟨bx, 0, none⟩ = some (.slice a len cap)) :
    Calls Try.prog 44 #[.slice a len cap, .func (.func 45) #[] #[.pointer (some ⟨bx, 0, none⟩)]] w fun x w' => x = .returned (.bool (!(l.all (fun a => decide (coinA l a.coin.data.toList = 0))))) ∧ Below w.heap.size w w' := by
  have HI := Lib.hid (indexA_any l a len cap bx w h hlen hbx)
  clear h hlen hbx
  generalize l.all (fun a => decide (coinA l a.coin.data.toList = 0)) = R at *
  go_enter Try.func44, Try.ntmps44
  go_wp2_with fail
  go_at_call 76
  (with_reducible refine HI.out.mono ?_)
  rintro e w2 ⟨⟨i, rfl, hi⟩, b2⟩
  have HB2 := Lib.hid b2
  clear b2 HI
  have HQ : Hid (decide (0 ≤ i) = !R) := by
    show _ = _
    cases hm : R with
    | true =>
      rw [hm] at hi
      exact decide_eq_false (fun h => by simpa using hi.1 h)
    | false => exact decide_eq_true (hi.2 hm)
  clear hi
  go_wp2_with fail
  go_ret
  exact ⟨by rw [← HQ.out]; rfl, HB2.out⟩
set_option maxRecDepth 100000 in
set_option maxHeartbeats 2000000 in
theorem even_any (l : List Acct) (a : Option Addr) (len cap : Nat) (w : World) (h : SlR acctK w [] l a len cap) (hlen : len ≤ 1000000) :
    Calls Try.prog 21 #[.slice a len cap] w fun x w' => x = .returned (.bool (evenA l)) ∧ Below w.heap.size w w' := by
  have hal := (Below.refl w.heap.size w).alloc (Nat.le_refl _) (.cells #[.slice a len cap] 26)
  have HB := Lib.hid hal
  have BX := Lib.hid (Mem.Blk.new w 26 #[.slice a len cap])
  have HS := Lib.hid (h.kept (Kept.of_below hal []))
  have HN := Lib.hid hlen
  obtain ⟨R, hR⟩ : ∃ R, R = evenA l := ⟨_, rfl⟩
  have HR := Lib.hid hR
  rw [← hR]
  clear hal h hlen hR
  go_enter Try.func21, Try.ntmps21
  go_upto_region 1 with (fail)
  generalize hb0 : w.heap.size = b0 at BX ⊢
  clear hb0
  generalize w.alloc (.cells #[.slice a len cap] 26) = w1 at *
  have c0 : w1.cell? ⟨b0, 0, none⟩ = some (.slice a len cap) := BX.out.cell 0
  have HRT := Lib.hid (right_any l a len cap w1 HS.out HN.out)
  have HCT : Hid (∀ w2, Below w1.heap.size w1 w2 → Calls Try.prog 44 #[.slice a len cap, .func (.func 45) #[] #[.pointer (some ⟨b0, 0, none⟩)]] w2 _) := fun w2 b => containsA_any l a len cap b0 w2 (HS.out.kept (Kept.of_below b [])) HN.out (cellUp (BX.out.cell 0) b)
  go_wp2_with fail
  go_at_call 22
  (with_reducible refine HRT.out.mono ?_)
  rintro y w2 ⟨rfl, b2⟩
  have c0' := cellUp c0 b2
  have HB2 := Lib.hid (HB.out.trans (b2.mono HB.out.size))
  have HCT2 := Lib.hid (HCT.out w2 b2)
  clear HCT HRT c0 b2
  cases hr : rightA l with
  | false =>
    have HF : Hid (R = false) := by show _ = _; rw [HR.out]; unfold evenA; rw [hr]; rfl
    clear HR hr HCT2
    go_wp2_with fail
    go_ret
    exact ⟨by rw [HF.out]; rfl, HB2.out⟩
  | true =>
    have HF : Hid (R = l.all (fun a => decide (coinA l a.coin.data.toList = 0))) := by show _ = _; rw [HR.out]; unfold evenA; rw [hr]; rfl
    clear HR hr
    rw [← HF.out] at HCT2
    go_wp2_with fail
    go_at_call 44
    (with_reducible refine HCT2.out.mono ?_)
    rintro y w3 ⟨rfl, b3⟩
    have HB3 := Lib.hid (HB2.out.trans (b3.mono HB2.out.size))
    clear HCT2 b3 HF
    go_wp2_with fail
    go_ret
    exact ⟨by simp, HB3.out⟩
end Go.Proofs.Ytgbiimoednmlgaa

/- The contracts of the search over accounts, of Get. -/
namespace Go.Proofs.Ytgbiimoednmlgaa
set_option linter.unusedVariables false
set_option linter.unusedSimpArgs false
open Go.RowKit
set_option maxRecDepth 100000 in
set_option maxHeartbeats 4000000 in
theorem searchA_any (l : List Acct) (la : Option Addr) (len lc : Nat) (a : Acct) (w : World) (hE : SlR acctK w [] l la len lc) (hn : len ≤ 1000000) :
    Calls Try.prog 61 #[.slice la len lc, .agg (acctC a).toArray, .func (.func 48) #[] #[]] w fun x w' => (∃ i : Nat, x = .returned (.tuple #[.int .i64 (i : Nat), .bool (hitK Acct.key l a.key i)]) ∧ AtK Acct.key l a.key i) ∧ Below w.heap.size w w' := by
  have hal := (Below.refl w.heap.size w).alloc (Nat.le_refl _) (.cells (acctC a).toArray 51)
  have HB := Lib.hid hal
  have BX := Lib.hid (Mem.Blk.new w 51 (acctC a).toArray)
  have HE1 := Lib.hid (hE.kept (Kept.of_below hal []))
  have HN := Lib.hid hn
  have HLL := Lib.hid hE.facts.1
  have eg := entersL (P := Try.prog) Try.func48 (by kernel_rfl) rfl
  clear hal hE hn
  show Calls Try.prog 61 #[.slice la len lc, .agg #[.string a.party, .string a.coin, .int .i64 a.amt], .func (.func 48) #[] #[]] w _
  go_enter Try.func61, Try.ntmps61
  go_upto_region 1 with (fail)
  have HB' : Hid (Below w.heap.size w (w.alloc (.cells #[.string a.party, .string a.coin, .int .i64 a.amt] 51))) := HB.out
  have BX' : Hid (Mem.Blk (w.alloc (.cells #[.string a.party, .string a.coin, .int .i64 a.amt] 51)) w.heap.size 51 (acctC a).toArray) := BX.out
  have HE' : Hid (SlR acctK (w.alloc (.cells #[.string a.party, .string a.coin, .int .i64 a.amt] 51)) [] l la len lc) := HE1.out
  clear HB BX HE1
  generalize w.alloc (.cells #[.string a.party, .string a.coin, .int .i64 a.amt] 51) = w1 at *
  go_wp2_with fail
  go_loopw [9, 10] (fun x y wr => ∃ (i j : Nat), x = .int .i64 (i : Nat) ∧ y = .int .i64 (j : Nat) ∧ Hid (SrSt Acct.key l a.key i j ∧ Below w1.heap.size w1 wr)) (fun x y _ => (intOf y).toNat - (intOf x).toNat)
  case atStart => exact ⟨0, len, rfl, rfl, by have := SrSt.start Acct.key l a.key; rw [HLL.out] at this; exact this, Below.refl _ _⟩
  case round =>
    obtain ⟨i, j, rfl, rfl, HS⟩ := hrel
    have BXR := Lib.hid (BX'.out.below HS.out.2)
    have HER := Lib.hid (HE'.out.kept (Kept.of_below HS.out.2 []))
    have d0 : wr.cell? ⟨w.heap.size, 0, none⟩ = some (.string a.party) := BXR.out.cell 0
    have d1 : wr.cell? ⟨w.heap.size, 1, none⟩ = some (.string a.coin) := BXR.out.cell 1
    have d2 : wr.cell? ⟨w.heap.size, 2, none⟩ = some (.int .i64 a.amt) := BXR.out.cell 2
    have hjn : j ≤ 1000000 := by have := HS.out.1.jn; have := HN.out; have := HLL.out; omega
    have hij := HS.out.1.ij
    by_cases hlt : i < j
    · have hlt' : (i : Int) < (j : Int) := by omega
      obtain ⟨h, hh⟩ : ∃ h, h = (i + j) / 2 := ⟨_, rfl⟩
      have HH := Lib.hid hh
      have hw1 : IntKind.i64.wrap ((i : Int) + (j : Int)) = ((i + j : Nat) : Int) := by rw [IntWalk.i64_in _ (by omega)]; push_cast; rfl
      have hw2 : ((i + j : Nat) : Int) / 2 = (h : Int) := by omega
      have hw3 : ((i : Int) + (j : Int)) / 2 = (h : Int) := by omega
      have hhl : h < len := by have := HS.out.1.jn; have := HLL.out; omega
      obtain ⟨b, o, e, rfl, hx, -, c0, c1, c2⟩ := acct_at HER.out h hhl
      have HX := Lib.hid hx
      have HP : Hid (∀ W, Calls Try.prog 48 #[.agg #[.string e.party, .string e.coin, .int .i64 e.amt], .agg #[.string a.party, .string a.coin, .int .i64 a.amt]] W _) := fun W => order_any e a W
      obtain ⟨R, hR⟩ : ∃ R, R = kcmp e.key a.key := ⟨_, rfl⟩
      rw [← hR] at HP
      have HR := Lib.hid hR
      have hl0 : (h : Int) < (len : Int) := by omega
      have hl1 : (0 : Int) ≤ (h : Int) := by omega
      have hl2 : (h : Int) ≤ 1000000 := by omega
      clear hx hR hh hhl
      go_upto_region 5 with (fail)
      go_still_tail 6, (by kernel_rfl)
      change wpList _ _ _ _ _ wr.drew
      go_wp2_with fail
      go_at_call 48
      (with_reducible refine (HP.out _).mono ?_)
      rintro x w2 ⟨rfl, b2⟩
      have HB2 := Lib.hid (HS.out.2.trans (((Below.refl wr.heap.size wr).drew.trans b2).mono HS.out.2.size))
      clear b2 d0 d1 d2 c0 c1 c2 HP
      by_cases hneg : R < 0
      · have HS2 := Lib.hid (HS.out.1.up hlt (by rw [← HH.out]; exact HX.out) (by rw [← HR.out]; exact hneg))
        rw [← HH.out] at HS2
        have HLT := Lib.hid hlt
        clear HS hlt
        go_wp2_with fail
        go_roundw
        case rel => exact ⟨h + 1, j, by go_num, rfl, HS2.out, HB2.out⟩
        case measure => simp [intOf]; have := HLT.out; have := HH.out; omega
      · have HS2 := Lib.hid (HS.out.1.down hlt (by rw [← HH.out]; exact HX.out) (by rw [← HR.out]; exact hneg))
        rw [← HH.out] at HS2
        have HLT := Lib.hid hlt
        clear HS hlt
        go_wp2_with fail
        go_roundw
        case rel => exact ⟨i, h, rfl, rfl, HS2.out, HB2.out⟩
        case measure => simp [intOf]; have := HLT.out; have := HH.out; omega
    · have hlt' : ¬ (i : Int) < (j : Int) := by omega
      have HF := Lib.hid (HS.out.1.fin hlt)
      have HB2 := Lib.hid (HB'.out.trans (HS.out.2.mono HB'.out.size))
      clear HS hlt
      by_cases hin : i < len
      · have hin' : (i : Int) < (len : Int) := by omega
        obtain ⟨b, o, e, rfl, hx, -, c0, c1, c2⟩ := acct_at HER.out i hin
        have HP : Hid (∀ W, Calls Try.prog 48 #[.agg #[.string e.party, .string e.coin, .int .i64 e.amt], .agg #[.string a.party, .string a.coin, .int .i64 a.amt]] W _) := fun W => order_any e a W
        obtain ⟨R, hR⟩ : ∃ R, R = kcmp e.key a.key := ⟨_, rfl⟩
        rw [← hR] at HP
        have HK : Hid (hitK Acct.key l a.key i = decide (R = 0)) := by
          show hitK _ _ _ _ = _
          unfold hitK
          rw [hx, hR]
        have hl1 : (0 : Int) ≤ (i : Int) := by omega
        have hl2 : (i : Int) ≤ 1000000 := by omega
        clear hx hR hin
        go_upto_region 8 with (fail)
        refine wp_region_till (S := fun W => W.cell? ⟨b, o + i * 3, none⟩ = some (.string e.party) ∧ W.cell? ⟨b, o + i * 3 + 1, none⟩ = some (.string e.coin) ∧ W.cell? ⟨b, o + i * 3 + 2, none⟩ = some (.int .i64 e.amt) ∧ W.cell? ⟨w.heap.size, 0, none⟩ = some (.string a.party) ∧ W.cell? ⟨w.heap.size, 1, none⟩ = some (.string a.coin) ∧ W.cell? ⟨w.heap.size, 2, none⟩ = some (.int .i64 a.amt)) 11 (by kernel_rfl) ?_
        refine till_take (i := 1) (v := ?_) rfl (by kernel_rfl) (fun _ _ _ h => h) (Or.inl ⟨by rfl, ?_⟩) ⟨c0,c1,c2,d0,d1,d2⟩ ?_
        rotate_left
        · intro W hS
          try dsimp only at hS
          go_split_ands
          go_simp
          try with_reducible rfl
        try simp only [Act.put, List.getElem_toArray, List.getElem_cons_zero, List.getElem_cons_succ, List.setIfInBounds_toArray, List.set_cons_zero, List.set_cons_succ]
        refine till_take (i := 2) (v := ?_) rfl (by kernel_rfl) (fun _ _ _ h => h) (Or.inl ⟨by rfl, ?_⟩) ⟨c0,c1,c2,d0,d1,d2⟩ ?_
        rotate_left
        · intro W hS
          try dsimp only at hS
          go_split_ands
          go_simp
          try with_reducible rfl
        try simp only [Act.put, List.getElem_toArray, List.getElem_cons_zero, List.getElem_cons_succ, List.setIfInBounds_toArray, List.set_cons_zero, List.set_cons_succ]
        refine till_take (i := 3) (v := ?_) rfl (by kernel_rfl) (fun _ _ _ h => h) (Or.inl ⟨by rfl, ?_⟩) ⟨c0,c1,c2,d0,d1,d2⟩ ?_
        rotate_left
        · intro W hS
          try dsimp only at hS
          go_split_ands
          go_simp
          try with_reducible rfl
        try simp only [Act.put, List.getElem_toArray, List.getElem_cons_zero, List.getElem_cons_succ, List.setIfInBounds_toArray, List.set_cons_zero, List.set_cons_succ]
        refine till_take (i := 4) (v := ?_) rfl (by kernel_rfl) (fun _ _ _ h => h) (Or.inl ⟨by rfl, ?_⟩) ⟨c0,c1,c2,d0,d1,d2⟩ ?_
        rotate_left
        · intro W hS
          try dsimp only at hS
          go_split_ands
          go_simp
          try with_reducible rfl
        try simp only [Act.put, List.getElem_toArray, List.getElem_cons_zero, List.getElem_cons_succ, List.setIfInBounds_toArray, List.set_cons_zero, List.set_cons_succ]
        refine till_take (i := 5) (v := ?_) rfl (by kernel_rfl) (fun _ _ _ h => h) (Or.inl ⟨by rfl, ?_⟩) ⟨c0,c1,c2,d0,d1,d2⟩ ?_
        rotate_left
        · intro W hS
          try dsimp only at hS
          go_split_ands
          go_simp
          try with_reducible rfl
        try simp only [Act.put, List.getElem_toArray, List.getElem_cons_zero, List.getElem_cons_succ, List.setIfInBounds_toArray, List.set_cons_zero, List.set_cons_succ]
        refine till_take (i := 6) (v := ?_) rfl (by kernel_rfl) (fun _ _ _ h => h) (Or.inl ⟨by rfl, ?_⟩) ⟨c0,c1,c2,d0,d1,d2⟩ ?_
        rotate_left
        · intro W hS
          try dsimp only at hS
          go_split_ands
          go_simp
          try with_reducible rfl
        try simp only [Act.put, List.getElem_toArray, List.getElem_cons_zero, List.getElem_cons_succ, List.setIfInBounds_toArray, List.set_cons_zero, List.set_cons_succ]
        refine till_take (i := 7) (v := ?_) rfl (by kernel_rfl) (fun _ _ _ h => h) (Or.inl ⟨by rfl, ?_⟩) ⟨c0,c1,c2,d0,d1,d2⟩ ?_
        rotate_left
        · intro W hS
          try dsimp only at hS
          go_split_ands
          go_simp
          try with_reducible rfl
        try simp only [Act.put, List.getElem_toArray, List.getElem_cons_zero, List.getElem_cons_succ, List.setIfInBounds_toArray, List.set_cons_zero, List.set_cons_succ]
        refine till_take (i := 8) (v := ?_) rfl (by kernel_rfl) (fun _ _ _ h => h) (Or.inl ⟨by rfl, ?_⟩) ⟨c0,c1,c2,d0,d1,d2⟩ ?_
        rotate_left
        · intro W hS
          try dsimp only at hS
          go_split_ands
          go_simp
          try with_reducible rfl
        try simp only [Act.put, List.getElem_toArray, List.getElem_cons_zero, List.getElem_cons_succ, List.setIfInBounds_toArray, List.set_cons_zero, List.set_cons_succ]
        refine till_take (i := 9) (v := ?_) rfl (by kernel_rfl) (fun _ _ _ h => h) (Or.inl ⟨by rfl, ?_⟩) ⟨c0,c1,c2,d0,d1,d2⟩ ?_
        rotate_left
        · intro W hS
          try dsimp only at hS
          go_split_ands
          go_simp
          try with_reducible rfl
        try simp only [Act.put, List.getElem_toArray, List.getElem_cons_zero, List.getElem_cons_succ, List.setIfInBounds_toArray, List.set_cons_zero, List.set_cons_succ]
        refine till_take (i := 10) (v := ?_) rfl (by kernel_rfl) (fun _ _ _ h => h) (Or.inl ⟨by rfl, ?_⟩) ⟨c0,c1,c2,d0,d1,d2⟩ ?_
        rotate_left
        · intro W hS
          try dsimp only at hS
          go_split_ands
          go_simp
          try with_reducible rfl
        try simp only [Act.put, List.getElem_toArray, List.getElem_cons_zero, List.getElem_cons_succ, List.setIfInBounds_toArray, List.set_cons_zero, List.set_cons_succ]
        refine till_two (i := 0) (j := 11) (by kernel_rfl) rfl rfl (fun K' hK => ?_) (fun K' hK => ?_)
        · go_simp
          refine hK _ _ ⟨c0,c1,c2,d0,d1,d2⟩ ?_
          clear hK K'
          try simp only [Act.put, List.getElem_toArray, List.getElem_cons_zero, List.getElem_cons_succ, List.setIfInBounds_toArray, List.set_cons_zero, List.set_cons_succ]
          refine till_last (by kernel_rfl) rfl (by kernel_rfl) (fun K' hK => ?_)
          go_simp
          (with_reducible refine (HP.out _).mono ?_)
          rintro x w2 ⟨rfl, b2⟩
          have HB3 := Lib.hid (HB2.out.trans (((Below.refl wr.heap.size wr).drew.trans b2).mono HB2.out.size))
          refine hK _ _ ?_
          clear hK K'
          try simp only [Act.put, List.getElem_toArray, List.getElem_cons_zero, List.getElem_cons_succ, List.setIfInBounds_toArray, List.set_cons_zero, List.set_cons_succ]
          clear b2 d0 d1 d2 c0 c1 c2 HP
          refine any_take (i := 12) (v := ?_) rfl (by kernel_rfl) (fun _ _ _ h => h) (Or.inl ⟨by rfl, ?_⟩) ?_
          rotate_left
          · intro W
            go_simp
            try with_reducible rfl
          try simp only [Act.put, List.getElem_toArray, List.getElem_cons_zero, List.getElem_cons_succ, List.setIfInBounds_toArray, List.set_cons_zero, List.set_cons_succ]
          refine any_take (i := 13) (v := ?_) rfl (by kernel_rfl) (fun _ _ _ h => h) (Or.inl ⟨by rfl, ?_⟩) ?_
          rotate_left
          · intro W
            go_simp
            try with_reducible rfl
          try simp only [Act.put, List.getElem_toArray, List.getElem_cons_zero, List.getElem_cons_succ, List.setIfInBounds_toArray, List.set_cons_zero, List.set_cons_succ]
          refine any_take (i := 14) (v := ?_) rfl (by kernel_rfl) (fun _ _ _ h => h) (Or.inl ⟨by rfl, ?_⟩) ?_
          rotate_left
          · intro W
            go_simp
            try with_reducible rfl
          try simp only [Act.put, List.getElem_toArray, List.getElem_cons_zero, List.getElem_cons_succ, List.setIfInBounds_toArray, List.set_cons_zero, List.set_cons_succ]
          refine any_take (i := 15) (v := ?_) rfl (by kernel_rfl) (fun _ _ _ h => h) (Or.inl ⟨by rfl, ?_⟩) ?_
          rotate_left
          · intro W
            go_simp
            try with_reducible rfl
          try simp only [Act.put, List.getElem_toArray, List.getElem_cons_zero, List.getElem_cons_succ, List.setIfInBounds_toArray, List.set_cons_zero, List.set_cons_succ]
          refine wpAny_done (by kernel_rfl) ?_ _
          go_wp2_with fail
          go_ret2
          exact ⟨⟨i, by rw [HK.out]; rfl, HF.out⟩, HB3.out⟩
        · go_simp
          (with_reducible refine (HP.out _).mono ?_)
          rintro x w2 ⟨rfl, b2⟩
          have HB3 := Lib.hid (HB2.out.trans (((Below.refl wr.heap.size wr).drew.trans b2).mono HB2.out.size))
          have b3 := (Below.refl wr.heap.size wr).drew.trans b2
          refine hK _ _ ⟨cellUp c0 b3, cellUp c1 b3, cellUp c2 b3, cellUp d0 b3, cellUp d1 b3, cellUp d2 b3⟩ ?_
          clear hK K'
          try simp only [Act.put, List.getElem_toArray, List.getElem_cons_zero, List.getElem_cons_succ, List.setIfInBounds_toArray, List.set_cons_zero, List.set_cons_succ]
          clear b2 b3 d0 d1 d2 c0 c1 c2 HP
          refine till_of_any _ _ _ _ (by kernel_rfl) ?_
          refine any_take (i := 0) (v := ?_) rfl (by kernel_rfl) (fun _ _ _ h => h) (Or.inl ⟨by rfl, ?_⟩) ?_
          rotate_left
          · intro W
            go_simp
            try with_reducible rfl
          try simp only [Act.put, List.getElem_toArray, List.getElem_cons_zero, List.getElem_cons_succ, List.setIfInBounds_toArray, List.set_cons_zero, List.set_cons_succ]
          refine any_take (i := 12) (v := ?_) rfl (by kernel_rfl) (fun _ _ _ h => h) (Or.inl ⟨by rfl, ?_⟩) ?_
          rotate_left
          · intro W
            go_simp
            try with_reducible rfl
          try simp only [Act.put, List.getElem_toArray, List.getElem_cons_zero, List.getElem_cons_succ, List.setIfInBounds_toArray, List.set_cons_zero, List.set_cons_succ]
          refine any_take (i := 13) (v := ?_) rfl (by kernel_rfl) (fun _ _ _ h => h) (Or.inl ⟨by rfl, ?_⟩) ?_
          rotate_left
          · intro W
            go_simp
            try with_reducible rfl
          try simp only [Act.put, List.getElem_toArray, List.getElem_cons_zero, List.getElem_cons_succ, List.setIfInBounds_toArray, List.set_cons_zero, List.set_cons_succ]
          refine any_take (i := 14) (v := ?_) rfl (by kernel_rfl) (fun _ _ _ h => h) (Or.inl ⟨by rfl, ?_⟩) ?_
          rotate_left
          · intro W
            go_simp
            try with_reducible rfl
          try simp only [Act.put, List.getElem_toArray, List.getElem_cons_zero, List.getElem_cons_succ, List.setIfInBounds_toArray, List.set_cons_zero, List.set_cons_succ]
          refine any_take (i := 15) (v := ?_) rfl (by kernel_rfl) (fun _ _ _ h => h) (Or.inl ⟨by rfl, ?_⟩) ?_
          rotate_left
          · intro W
            go_simp
            try with_reducible rfl
          try simp only [Act.put, List.getElem_toArray, List.getElem_cons_zero, List.getElem_cons_succ, List.setIfInBounds_toArray, List.set_cons_zero, List.set_cons_succ]
          refine wpAny_done (by kernel_rfl) ?_ _
          go_wp2_with fail
          go_ret2
          exact ⟨⟨i, by rw [HK.out]; rfl, HF.out⟩, HB3.out⟩
      · have hin' : decide ((i : Int) < (len : Int)) = false := decide_eq_false (by omega)
        have hin2 : decide (i < len) = false := decide_eq_false hin
        have HK : Hid (hitK Acct.key l a.key i = false) := by
          show hitK _ _ _ _ = _
          unfold hitK
          rw [List.getElem?_eq_none (by have := HLL.out; omega)]
        clear hin
        go_upto_region 8 with (fail)
        go_quiet (fail)
        have HB3 := Lib.hid (HB2.out.trans ((below_dN (Below.refl wr.heap.size wr) nq).mono HB2.out.size))
        go_wp2_with fail
        go_ret2
        exact ⟨⟨i, by rw [HK.out]; rfl, HF.out⟩, HB3.out⟩
theorem AtK.miss {α : Type} {key : α → Ky} {l : List α} {t : Ky} {i : Nat} (a : AtK key l t i) (h : UpK key l) (hh : hitK key l t i = false) : ∀ x ∈ l, key x ≠ t := by
  intro x hx e
  obtain ⟨j, hj⟩ := List.getElem?_of_mem hx
  rcases Nat.lt_trichotomy j i with h1 | h1 | h1
  · have := a.below h j x h1 hj
    rw [e] at this; exact klt_irrefl _ this
  · rw [h1] at hj
    have := a.here hh hj
    rw [e] at this; exact klt_irrefl _ this
  · have := a.above h j x h1 hj
    rw [e] at this; exact klt_irrefl _ this
/-- What a party has of a currency, in right books; else nothing. -/
def getA (l : List Acct) (k : Ky) : Int := if rightA l then tot (conA l) k else 0
set_option maxRecDepth 100000 in
set_option maxHeartbeats 4000000 in
theorem get_any (l : List Acct) (la : Option Addr) (len lc : Nat) (p c : ByteArray) (w : World) (hE : SlR acctK w [] l la len lc) (hn : len ≤ 1000000) :
    Calls Try.prog 29 #[.slice la len lc, .string p, .string c] w fun x w' => x = .returned (.int .i64 (getA l (p.data.toList, c.data.toList))) ∧ Below w.heap.size w w' := by
  have HS := Lib.hid hE
  have HN := Lib.hid hn
  have HSA : Hid (Calls Try.prog 61 #[.slice la len lc, .agg #[.string p, .string c, .int .i64 0], .func (.func 48) #[] #[]] w _) := searchA_any l la len lc ⟨p, c, 0⟩ w hE hn
  obtain ⟨k, hk⟩ : ∃ k : Ky, k = (p.data.toList, c.data.toList) := ⟨_, rfl⟩
  have HK : Hid ((⟨p, c, 0⟩ : Acct).key = k) := by rw [hk]; rfl
  rw [HK.out] at HSA
  rw [← hk]
  obtain ⟨R, hR⟩ : ∃ R, R = getA l k := ⟨_, rfl⟩
  have HR := Lib.hid hR
  rw [← hR]
  clear hE hn hk hR HK
  go_enter Try.func29, Try.ntmps29
  go_wp2_with fail
  go_at_call 61
  (with_reducible refine HSA.out.mono ?_)
  rintro x w1 ⟨⟨i, rfl, hat⟩, b1⟩
  have HB1 := Lib.hid b1
  have HAT := Lib.hid hat
  clear HSA hat
  cases hh : hitK Acct.key l k i with
  | false =>
    have HF : Hid (R = 0) := by
      show _ = _
      rw [HR.out]
      unfold getA
      cases hr : rightA l with
      | false => rfl
      | true =>
        rw [if_pos rfl]
        refine tot_conA_none (fun a ha e => ?_)
        exact AtK.miss HAT.out (rightA_iff.1 hr).2 hh a ha e
    clear HR hh
    go_wp2_with fail
    go_ret
    exact ⟨by rw [HF.out]; rfl, HB1.out⟩
  | true =>
    obtain ⟨x, hx, hxk⟩ := hitK_key hh
    have HX := Lib.hid hx
    have HRT := Lib.hid (right_any l la len lc w1 (HS.out.kept (Kept.of_below b1 [])) HN.out)
    clear b1 hh hx
    go_wp2_with fail
    go_at_call 22
    (with_reducible refine HRT.out.mono ?_)
    rintro y w2 ⟨rfl, b2⟩
    have HB2 := Lib.hid (HB1.out.trans (b2.mono HB1.out.size))
    clear b2 HRT HB1
    cases hr : rightA l with
    | false =>
      have HF : Hid (R = 0) := by show _ = _; rw [HR.out]; unfold getA; rw [hr]; rfl
      clear HR hr hxk
      go_wp2_with fail
      go_ret
      exact ⟨by rw [HF.out]; rfl, HB2.out⟩
    | true =>
      have HF : Hid (R = x.amt) := by
        show _ = _
        rw [HR.out]
        unfold getA
        rw [if_pos hr, ← hxk]
        exact tot_conA (rightA_iff.1 hr).2 (List.mem_of_getElem? HX.out)
      clear HR hr hxk
      have hil : i < len := by have := (List.getElem?_eq_some_iff.1 HX.out).1; rw [HS.out.facts.1] at this; exact this
      have hi0 : (i : Int) < (len : Int) := by omega
      have hi1 : (0 : Int) ≤ (i : Int) := by omega
      have hi2 : (i : Int) ≤ 1000000 := by have := HN.out; omega
      obtain ⟨b, o, y, rfl, hy, -, u0, u1, u2⟩ := acct_at (HS.out.kept (Kept.of_below HB2.out [])) i hil
      have HXY : Hid (y.amt = x.amt) := by
        show _ = _
        have h := HX.out
        rw [hy] at h; injection h with h; rw [h]
      clear hy hil
      go_wp2_with fail
      go_ret
      exact ⟨by rw [HF.out, ← HXY.out]; rfl, HB2.out⟩
end Go.Proofs.Ytgbiimoednmlgaa

/- The contracts of ref24.Same, ref24.SameMoves, of two lists that are one. -/
namespace Go.Proofs.Ytgbiimoednmlgaa
set_option linter.unusedVariables false
set_option linter.unusedSimpArgs false
open Go.RowKit
set_option maxRecDepth 100000 in
set_option maxHeartbeats 4000000 in
theorem sameA_any (L : List Acct) (a a' : Option Addr) (len cap cap' : Nat) (w : World) (h1 : SlR acctK w [] L a len cap) (h2 : SlR acctK w [] L a' len cap') (hn : len ≤ 1000000) :
    Calls Try.prog 13 #[.slice a len cap, .slice a' len cap'] w fun x w' => x = .returned (.bool true) ∧ Below w.heap.size w w' := by
  have HA := Lib.hid h1
  have HB := Lib.hid h2
  clear h1 h2
  go_enter Try.func13, Try.ntmps13
  go_wp2_with fail
  go_loopw [5] (fun i wr => ∃ (k : Nat), i = .int .i64 (k : Nat) ∧ k ≤ len ∧ Hid (Below w.heap.size w wr)) (fun i _ => len - (intOf i).toNat)
  case atStart => exact ⟨0, rfl, Nat.zero_le _, Below.refl _ _⟩
  case round =>
    obtain ⟨k, rfl, hk, HR⟩ := hrel
    by_cases hlt : k < len
    · have hk' : (k : Int) < (len : Int) := by omega
      have i0 : (0 : Int) ≤ (k : Int) := by omega
      obtain ⟨b, o, s, rfl, hs, -, u0, u1, u2⟩ := acct_at (HA.out.kept (Kept.of_below HR.out [])) k hlt
      obtain ⟨b', o', s', rfl, hs', -, v0, v1, v2⟩ := acct_at (HB.out.kept (Kept.of_below HR.out [])) k hlt
      obtain rfl : s = s' := by rw [hs] at hs'; injection hs'
      clear hs hs'
      go_wp2_with fail
      go_quiet (fail)
      go_wp2_with fail
      go_roundw
      case rel => exact ⟨k + 1, by go_num, by omega, below_dN HR.out _⟩
      case measure => simp [intOf]; omega
    · have hk' : ¬ (k : Int) < (len : Int) := by omega
      go_wp2_with fail
      go_ret
      exact ⟨rfl, HR.out⟩
set_option maxRecDepth 100000 in
set_option maxHeartbeats 4000000 in
theorem sameM_any (L : List Mv) (a a' : Option Addr) (len cap cap' : Nat) (w : World) (h1 : SlR mvK w [] L a len cap) (h2 : SlR mvK w [] L a' len cap') (hn : len ≤ 1000000) :
    Calls Try.prog 15 #[.slice a len cap, .slice a' len cap'] w fun x w' => x = .returned (.bool true) ∧ Below w.heap.size w w' := by
  have HA := Lib.hid h1
  have HB := Lib.hid h2
  clear h1 h2
  go_enter Try.func15, Try.ntmps15
  go_wp2_with fail
  go_loopw [5] (fun i wr => ∃ (k : Nat), i = .int .i64 (k : Nat) ∧ k ≤ len ∧ Hid (Below w.heap.size w wr)) (fun i _ => len - (intOf i).toNat)
  case atStart => exact ⟨0, rfl, Nat.zero_le _, Below.refl _ _⟩
  case round =>
    obtain ⟨k, rfl, hk, HR⟩ := hrel
    by_cases hlt : k < len
    · have hk' : (k : Int) < (len : Int) := by omega
      have i0 : (0 : Int) ≤ (k : Int) := by omega
      obtain ⟨b, o, s, rfl, hs, -, u0, u1, u2, u3⟩ := mv_at (HA.out.kept (Kept.of_below HR.out [])) k hlt
      obtain ⟨b', o', s', rfl, hs', -, v0, v1, v2, v3⟩ := mv_at (HB.out.kept (Kept.of_below HR.out [])) k hlt
      obtain rfl : s = s' := by rw [hs] at hs'; injection hs'
      clear hs hs'
      go_wp2_with fail
      go_quiet (fail)
      go_wp2_with fail
      go_roundw
      case rel => exact ⟨k + 1, by go_num, by omega, below_dN HR.out _⟩
      case measure => simp [intOf]; omega
    · have hk' : ¬ (k : Int) < (len : Int) := by omega
      go_wp2_with fail
      go_ret
      exact ⟨rfl, HR.out⟩
end Go.Proofs.Ytgbiimoednmlgaa

/- The law's own example: plain. -/
namespace Go.Proofs.Ytgbiimoednmlgaa
set_option linter.unusedVariables false
set_option linter.unusedSimpArgs false
open Go.RowKit
def awA : ByteArray := ⟨#[97]⟩
def awB : ByteArray := ⟨#[98]⟩
def awC : ByteArray := ⟨#[85, 83, 68]⟩
def awM : Mv := ⟨awA, awB, awC, 5⟩
def awL : List Acct := [⟨awA, awC, -5⟩, ⟨awB, awC, 5⟩]
theorem awM_may : [awM].all mayM = true := by kernel_rfl
theorem awL_con : conA [] ++ conM [awM] = [((([97], [85, 83, 68]) : Ky), -5), (([98], [85, 83, 68]), 5)] := by rfl
theorem aw_tot (k : Ky) : tot (conA [] ++ conM [awM]) k = if k = ([97], [85, 83, 68]) then -5 else if k = ([98], [85, 83, 68]) then 5 else 0 := by
  rw [awL_con]
  have e : ([((([97], [85, 83, 68]) : Ky), -5), (([98], [85, 83, 68]), 5)] : List (Ky × Int)) = [((([97], [85, 83, 68]) : Ky), -5)] ++ [(([98], [85, 83, 68]), 5)] := rfl
  rw [e, tot_append, tot_one, tot_one]
  by_cases h1 : k = ([97], [85, 83, 68])
  · rw [if_pos h1, if_pos h1.symm, if_neg (by rw [h1]; decide)]; omega
  · rw [if_neg h1, if_neg (fun e => h1 e.symm)]
    by_cases h2 : k = ([98], [85, 83, 68])
    · rw [if_pos h2, if_pos h2.symm]; omega
    · rw [if_neg h2, if_neg (fun e => h2 e.symm)]; omega
theorem aw_fit : FitL (conA [] ++ conM [awM]) := by
  intro k
  rw [aw_tot]
  split
  · decide
  · split <;> decide
theorem aw_out : OutOf awL (conA [] ++ conM [awM]) := by
  refine ⟨?_, ?_, ?_⟩
  · unfold UpK awL
    refine List.pairwise_cons.2 ⟨fun x hx => ?_, List.pairwise_singleton _ _⟩
    rw [List.mem_singleton] at hx
    subst hx
    exact kcmp_neg.1 (by decide)
  · intro a ha
    rw [aw_tot]
    unfold awL at ha
    rw [List.mem_cons, List.mem_singleton] at ha
    rcases ha with rfl | rfl
    · exact ⟨rfl, by decide⟩
    · exact ⟨rfl, by decide⟩
  · intro k hk
    rw [aw_tot] at hk
    by_cases h1 : k = ([97], [85, 83, 68])
    · exact ⟨⟨awA, awC, -5⟩, List.mem_cons_self .., h1.symm⟩
    · rw [if_neg h1] at hk
      by_cases h2 : k = ([98], [85, 83, 68])
      · exact ⟨⟨awB, awC, 5⟩, List.mem_cons_of_mem _ (List.mem_cons_self ..), h2.symm⟩
      · rw [if_neg h2] at hk; exact absurd rfl hk
theorem aw_verd {out : List Acct} {e : Int} (h : Verd [] [awM] out e) : e = 0 ∧ out = awL := by
  rcases h with ⟨-, -, h⟩ | ⟨-, -, ⟨-, -, h⟩ | ⟨he, -, h⟩⟩
  · exact absurd ⟨rfl, awM_may⟩ h
  · exact absurd aw_fit h
  · exact ⟨he, h.is.uniq aw_out (fun _ => rfl)⟩
theorem aw_even : evenA awL = true := by kernel_rfl
theorem aw_get : getA awL ([98], [85, 83, 68]) = 5 := by kernel_rfl
theorem awM_ok : MvOk awM := ⟨by decide, by decide, by decide, by unfold I64; decide⟩
set_option maxRecDepth 100000 in
set_option maxHeartbeats 4000000 in
theorem awake_any (w : World) : Calls Try.prog 9 #[] w fun x w' => x = .returned (.bool true) ∧ Below w.heap.size w w' := by
  have hal := (Below.refl w.heap.size w).alloc (Nat.le_refl _) (.cells (mvC awM).toArray 72)
  have BX := Mem.Blk.new w 72 (mvC awM).toArray
  have HPO := Lib.hid (post_any [] [awM] none 0 0 (some ⟨w.heap.size, 0, none⟩) 1 1 (w.alloc (.cells (mvC awM).toArray 72)) (SlR.nil _ _ _) (SlR.lit1 (K := mvK) BX (by simp) ⟨rfl, awM_ok⟩) (by omega) (by omega))
  have HB := Lib.hid hal
  clear hal BX
  go_enter Try.func9, Try.ntmps9
  go_wp2_with fail
  have HPO' : Hid (Calls Try.prog 12 #[.slice none 0 0, .slice (some ⟨w.heap.size, 0, none⟩) 1 1] (w.alloc (.cells #[.string ⟨#[97]⟩, .string ⟨#[98]⟩, .string ⟨#[85, 83, 68]⟩, .int .i64 5] 72)) fun x w' => PostR w' [] [awM] x ∧ Below (w.alloc (.cells #[.string ⟨#[97]⟩, .string ⟨#[98]⟩, .string ⟨#[85, 83, 68]⟩, .int .i64 5] 72)).heap.size (w.alloc (.cells #[.string ⟨#[97]⟩, .string ⟨#[98]⟩, .string ⟨#[85, 83, 68]⟩, .int .i64 5] 72)) w') := HPO.out
  have HB' : Hid (Below w.heap.size w (w.alloc (.cells #[.string ⟨#[97]⟩, .string ⟨#[98]⟩, .string ⟨#[85, 83, 68]⟩, .int .i64 5] 72))) := HB.out
  clear HPO HB
  generalize w.alloc (.cells #[.string ⟨#[97]⟩, .string ⟨#[98]⟩, .string ⟨#[85, 83, 68]⟩, .int .i64 5] 72) = w1 at *
  go_at_call 12
  (with_reducible refine HPO'.out.mono ?_)
  rintro x w2 ⟨⟨out, a, c, e, rfl, hs, hv, -⟩, b2⟩
  obtain ⟨rfl, rfl⟩ := aw_verd hv
  have HB2 := Lib.hid (HB'.out.trans (b2.mono HB'.out.size))
  have HS := Lib.hid (show SlR acctK w2 [] awL a 2 c from hs)
  obtain ⟨g, o, x, rfl, hx, -, u0, u1, u2⟩ := acct_at HS.out 0 (by omega)
  obtain rfl : x = ⟨awA, awC, -5⟩ := by injection hx with hx; exact hx.symm
  have HE := Lib.hid (even_any awL (some ⟨g, o, none⟩) 2 c w2 HS.out (by omega))
  have HG : Hid (∀ w3, Below w2.heap.size w2 w3 → Calls Try.prog 29 #[.slice (some ⟨g, o, none⟩) 2 c, .string ⟨#[98]⟩, .string ⟨#[85, 83, 68]⟩] w3 fun x w' => x = .returned (.int .i64 5) ∧ Below w3.heap.size w3 w') := fun w3 b => (get_any awL (some ⟨g, o, none⟩) 2 c ⟨#[98]⟩ ⟨#[85, 83, 68]⟩ w3 (HS.out.kept (Kept.of_below b [])) (by omega)).mono fun x w' h => ⟨by rw [h.1]; exact congrArg (fun n => Ending.returned (.int .i64 n)) aw_get, h.2⟩
  rw [aw_even] at HE
  have hlen : awL.length = 2 := rfl
  rw [hlen]
  have v0 : w2.cell? ⟨g, o, none⟩ = some (.string ⟨#[97]⟩) := by have h := u0; simp only [Nat.zero_mul, Nat.add_zero] at h; exact h
  have v1 : w2.cell? ⟨g, o + 1, none⟩ = some (.string ⟨#[85, 83, 68]⟩) := by have h := u1; simp only [Nat.zero_mul, Nat.add_zero] at h; exact h
  have v2 : w2.cell? ⟨g, o + 2, none⟩ = some (.int .i64 (-5)) := by simpa using u2
  clear hs hv b2 hx u0 u1 u2 HPO' hlen
  go_wp2_with fail
  go_at_call 21
  (with_reducible refine HE.out.mono ?_)
  rintro y w3 ⟨rfl, b3⟩
  have HB3 := Lib.hid (HB2.out.trans (b3.mono HB2.out.size))
  have HG3 := Lib.hid (HG.out w3 b3)
  clear HG HE b3 HB2
  go_wp2_with fail
  go_at_call 29
  (with_reducible refine HG3.out.mono ?_)
  rintro y w4 ⟨rfl, b4⟩
  have HB4 := Lib.hid (HB3.out.trans (b4.mono HB3.out.size))
  clear HG3 b4
  go_wp2_with fail
  go_ret
  exact ⟨rfl, HB4.out⟩
end Go.Proofs.Ytgbiimoednmlgaa

/- LedgerEven, walked. -/
namespace Go.Proofs.Ytgbiimoednmlgaa
set_option linter.unusedVariables false
set_option linter.unusedSimpArgs false
open Go.RowKit
theorem Sl.drop {w : World} {X : List Nat} {sz len cap : Nat} {b o : Nat} {vs : List (List Value)} (h : Sl w X sz (some ⟨b, o, none⟩) len cap vs) (k : Nat) (hk : k ≤ len) : Sl w X sz (some ⟨b, o + k * sz, none⟩) (len - k) (cap - k) (vs.drop k) := by
  obtain ⟨h1, h2, h3, h4⟩ := h
  refine ⟨by simp; omega, by omega, by omega, fun hp => ?_⟩
  obtain ⟨b', o', ha, hb, hx, hc⟩ := h4 (by omega)
  injection ha with ha
  injection ha with e1 e2
  subst e1; subst e2
  refine ⟨b, o + k * sz, rfl, hb, hx, fun i cs hi => ?_⟩
  rw [List.getElem?_drop] at hi
  have := hc (k + i) cs hi
  refine ⟨this.1, fun j c hj => ?_⟩
  rw [← this.2 j c hj, show o + (k + i) * sz + j = o + k * sz + i * sz + j by rw [Nat.add_mul]; omega]
theorem SlR.dropAt {α : Type} {K : Elt α} {w : World} {X : List Nat} {l : List α} {len cap b o : Nat} (h : SlR K w X l (some ⟨b, o, none⟩) len cap) (k : Nat) (hk : k ≤ len) : SlR K w X (l.drop k) (some ⟨b, o + k * K.sz, none⟩) (len - k) (cap - k) := by
  obtain ⟨vs, h1, h2, h3⟩ := h
  refine ⟨vs.drop k, by simp [h1], fun i x cs hi hc => h2 (k + i) x cs ?_ ?_, Sl.drop h3 k hk⟩
  · rw [List.getElem?_drop] at hi; exact hi
  · rw [List.getElem?_drop] at hc; exact hc
/-- Nothing left. -/
theorem SlR.empty {α : Type} {K : Elt α} {w w' : World} {X X' : List Nat} {l : List α} {a a' : Option Addr} {cap cap' : Nat} (h : SlR K w X l a 0 cap) (hc : cap' ≤ 9223372036854775807) : SlR K w' X' [] a' 0 cap' :=
  ⟨[], rfl, fun i x cs hx => by simp at hx, rfl, Nat.zero_le _, hc, fun hp => absurd hp (Nat.lt_irrefl _)⟩
/-- What the model's slice gives from a place on. -/
theorem SlR.from {α : Type} {K : Elt α} {w : World} {X : List Nat} {l : List α} {a : Option Addr} {len cap : Nat} (h : SlR K w X l a len cap) (k : Nat) (hk : k ≤ len) : SlR K w X (l.drop k) (if cap = k then a else a.map (fun p => p.add (k * K.sz))) (len - k) (cap - k) := by
  have hf := h.facts
  by_cases hl : k = len
  · have hd : l.drop k = [] := List.drop_eq_nil_of_le (by omega)
    rw [hd, hl, Nat.sub_self]
    have h0 := h.take 0 (Nat.zero_le _)
    exact SlR.empty h0 (by omega)
  · rw [if_neg (by omega)]
    obtain ⟨b, o, x, cs, rfl, -⟩ := h.at k (by omega)
    have := SlR.dropAt h k hk
    have e : (⟨b, o, none⟩ : Addr).add (k * K.sz) = ⟨b, o + k * K.sz, none⟩ := by
      unfold Addr.add
      by_cases h0 : k * K.sz = 0
      · simp [h0]
      · simp [h0]
    show SlR K w X (l.drop k) (some ((⟨b, o, none⟩ : Addr).add (k * K.sz))) (len - k) (cap - k)
    rw [e]; exact this
/-- What even answers. -/
def EvR (w' : World) (m : List Mv) (x : Ending) : Prop := ∃ (out : List Acct) (a : Option Addr) (c : Nat) (e : Int), x = .returned (.tuple #[.slice a out.length c, .bool (decide (e = 0))]) ∧ SlR acctK w' [] out a out.length c ∧ Verd [] m out e ∧ out.length ≤ 2 * m.length
set_option maxRecDepth 100000 in
set_option maxHeartbeats 4000000 in
theorem evenl_any (m : List Mv) (ma : Option Addr) (ml mc : Nat) (w : World) (hm : SlR mvK w [] m ma ml mc) (hml : ml ≤ 1000) :
    Calls Try.prog 20 #[.slice ma ml mc] w fun x w' => EvR w' m x ∧ Below w.heap.size w w' := by
  have HMV := Lib.hid (moves_any m ma ml mc w hm (by omega))
  have HN := Lib.hid hml
  clear hm hml
  go_enter Try.func20, Try.ntmps20
  go_wp2_with fail
  go_at_call 11
  (with_reducible refine HMV.out.mono ?_)
  rintro x w1 ⟨⟨a1, c1, rfl, hs1⟩, b1⟩
  have HPO := Lib.hid (post_any [] m none 0 0 a1 ml c1 w1 (SlR.nil _ _ _) hs1 (by omega) HN.out)
  have HB1 := Lib.hid b1
  clear HMV hs1 b1
  go_wp2_with fail
  go_at_call 12
  (with_reducible refine HPO.out.mono ?_)
  rintro x w2 ⟨⟨out, a, c, e, rfl, hs, hv, hl⟩, b2⟩
  have HB2 := Lib.hid (HB1.out.trans (b2.mono HB1.out.size))
  have HR : Hid (EvR w2 m (.returned (.tuple #[.slice a out.length c, .bool (decide (e = 0))]))) := ⟨out, a, c, e, rfl, hs, hv, by simpa using hl⟩
  clear HPO hs hv b2 hl HB1
  by_cases he : e = 0
  · have he' : (e == 0) = true := by simpa using he
    rw [decide_eq_true he] at HR
    clear he
    go_wp2_with fail
    go_ret2
    exact ⟨HR.out, HB2.out⟩
  · have he' : (e == 0) = false := by simpa using he
    rw [decide_eq_false he] at HR
    clear he
    go_wp2_with fail
    go_ret2
    exact ⟨HR.out, HB2.out⟩
end Go.Proofs.Ytgbiimoednmlgaa

/- LedgerEven, walked. -/
namespace Go.Proofs.Ytgbiimoednmlgaa
set_option linter.unusedVariables false
set_option linter.unusedSimpArgs false
open Go.RowKit
theorem ev_zero {m : List Mv} {out : List Acct} {e : Int} (h : Verd [] m out e) (he : e = 0) : m.all mayM = true ∧ FitL (conM m) ∧ PostOut out (conM m) := by
  rcases h with ⟨h, -, -⟩ | ⟨-, hm, ⟨h, -, -⟩ | ⟨-, hf, hp⟩⟩
  · omega
  · omega
  · exact ⟨hm, hf, hp⟩
theorem ev_bad {m : List Mv} {out : List Acct} {e : Int} (h : Verd [] m out e) (he : e ≠ 0) : out = [] := by
  rcases h with ⟨-, h, -⟩ | ⟨-, hm, ⟨-, h, -⟩ | ⟨h, hf, hp⟩⟩
  · exact h
  · exact h
  · exact absurd h he
theorem ev_one {m : List Mv} {one : List Acct} {e : Int} (n : Nat) (hm : m.all mayM = true) (h : Verd [] (m.take n) one e) : e = 2 ∨ (e = 0 ∧ OutOf one (conM (m.take n)) ∧ rightA one = true) := by
  have ht : (m.take n).all mayM = true := List.all_eq_true.2 (fun x hx => List.all_eq_true.1 hm x (List.mem_of_mem_take hx))
  rcases h with ⟨-, -, h⟩ | ⟨-, -, ⟨h, -, -⟩ | ⟨h, hf, hp⟩⟩
  · exact absurd ⟨rfl, ht⟩ h
  · exact .inl h
  · exact .inr ⟨h, hp.is, OutOf.right (L := conM (m.take n)) hp.is (mayM_nam ht)⟩
theorem ev_two {m : List Mv} {out one two : List Acct} {e : Int} (n : Nat) (hm : m.all mayM = true) (hf : FitL (conM m)) (ho : PostOut out (conM m)) (h1 : OutOf one (conM (m.take n))) (hr : rightA one = true) (h : Verd one (m.drop n) two e) : e = 0 ∧ two = out := by
  have hd : (m.drop n).all mayM = true := List.all_eq_true.2 (fun x hx => List.all_eq_true.1 hm x (List.mem_of_mem_drop hx))
  have ht : ∀ k, tot (conA one ++ conM (m.drop n)) k = tot (conM m) k := fun k => by rw [two_goes h1, List.take_append_drop]
  have hf2 : FitL (conA one ++ conM (m.drop n)) := fun k => by rw [ht]; exact hf k
  rcases h with ⟨-, -, h⟩ | ⟨-, -, ⟨-, -, h⟩ | ⟨h, -, hp⟩⟩
  · exact absurd ⟨hr, hd⟩ h
  · exact absurd hf2 h
  · exact ⟨h, hp.is.uniq ho.is ht⟩
set_option maxRecDepth 100000 in
set_option maxHeartbeats 4000000 in
theorem lawEven_any (m : List Mv) (ma : Option Addr) (ml mc : Nat) (k : Int) (w : World) (hm : SlR mvK w [] m ma ml mc) (_hk : (Lit.int .i64 k).wf = true) :
    Calls Try.prog 4 #[.slice ma ml mc, .int .i64 k] w fun x w' => x = .returned (.bool true) ∧ Below w.heap.size w w' := by
  have HM := Lib.hid hm
  have HML := Lib.hid hm.facts
  have HGR := Lib.hid (great_any [] m none 0 0 ma ml mc w (SlR.nil _ _ _) hm)
  have HEV : Hid (ml ≤ 40 → Calls Try.prog 20 #[.slice ma ml mc] w fun x w' => EvR w' m x ∧ Below w.heap.size w w') := fun h => evenl_any m ma ml mc w hm (by omega)
  clear hm
  go_enter Try.func4, Try.ntmps4
  go_wp2_with fail
  go_at_call 8
  (with_reducible refine HGR.out.mono ?_)
  rintro x w0 ⟨⟨b, rfl, hb⟩, rfl⟩
  clear HGR
  cases hbb : b with
  | true =>
    clear hb hbb
    go_wp2_with fail
    go_at_call 9
    (with_reducible refine (awake_any _).mono ?_)
    rintro y w1 ⟨rfl, b1⟩
    have HB1 := Lib.hid b1
    clear b1
    go_wp2_with fail
    go_ret
    exact ⟨rfl, HB1.out⟩
  | false =>
    have HL := Lib.hid (hb hbb).2
    clear hb hbb
    have HEV2 := Lib.hid (HEV.out HL.out)
    clear HEV
    go_wp2_with fail
    go_at_call 20
    (with_reducible refine HEV2.out.mono ?_)
    rintro y w1 ⟨⟨out, ba, bc, e, rfl, hsb, hv, hbl⟩, b1⟩
    have HB1 := Lib.hid b1
    have HSB := Lib.hid hsb
    have HV := Lib.hid hv
    have HBL := Lib.hid hbl
    clear HEV2 b1 hsb hv hbl
    by_cases he : e = 0
    · have hml40 := HL.out
      have hw1 : wrap64 ((ml : Int) + 1) = (ml : Int) + 1 := IntWalk.wrap64_in _ ⟨by omega, by omega⟩
      have hw2 : IntKind.u64.wrap ((ml : Int) + 1) = (ml : Int) + 1 := by
        simp [IntKind.wrap, IntKind.bits, IntKind.signed]; omega
      have hw3 : ¬ ((ml : Int) + 1 = 0) := by omega
      obtain ⟨n, hn, hnl⟩ : ∃ n : Nat, wrap64 ((IntKind.u64.wrap k).tmod ((ml : Int) + 1)) = (n : Int) ∧ n ≤ ml := by
        have h0 : 0 ≤ IntKind.u64.wrap k := by simp [IntKind.wrap, IntKind.bits, IntKind.signed]; omega
        have h1 := Int.tmod_nonneg ((ml : Int) + 1) h0
        have h2 := Int.tmod_lt_of_pos (IntKind.u64.wrap k) (show (0 : Int) < (ml : Int) + 1 by omega)
        refine ⟨((IntKind.u64.wrap k).tmod ((ml : Int) + 1)).toNat, ?_, by omega⟩
        rw [IntWalk.wrap64_in _ ⟨by omega, by omega⟩]; omega
      obtain ⟨q1, q2, q3⟩ := ev_zero HV.out he
      have HMM := Lib.hid q1
      have HFI := Lib.hid q2
      have HPO := Lib.hid q3
      have HEN := Lib.hid (PostOut.even q3 (mayM_nam q1))
      rw [decide_eq_true he]
      clear he HV q1 q2 q3
      have HBN : Hid (out.length ≤ 80) := by have := HBL.out; have := HL.out; have := HML.out.1; show _ ≤ _; omega
      have HEA := Lib.hid (even_any out ba out.length bc w1 HSB.out (by have := HBN.out; omega))
      rw [HEN.out] at HEA
      have HRA : Hid (∀ w2, Below w1.heap.size w1 w2 → Calls Try.prog 22 #[.slice ba out.length bc] w2 fun x w' => x = .returned (.bool true) ∧ Below w2.heap.size w2 w') := fun w2 b => (right_any out ba out.length bc w2 (HSB.out.kept (Kept.of_below b [])) (by have := HBN.out; omega)).mono fun x w' h => ⟨by
        rw [h.1]
        have h1 := HEN.out
        unfold evenA at h1
        rw [Bool.and_eq_true] at h1
        rw [h1.1], h.2⟩
      go_wp2_with fail
      go_at_call 21
      (with_reducible refine HEA.out.mono ?_)
      rintro y w2 ⟨rfl, b2⟩
      have HRA2 := Lib.hid (HRA.out w2 b2)
      have HB2 := Lib.hid (HB1.out.trans (b2.mono HB1.out.size))
      have HSB2 := Lib.hid (HSB.out.kept (Kept.of_below b2 []))
      clear HEA HRA b2 HB1 HSB
      go_wp2_with fail
      go_at_call 22
      (with_reducible refine HRA2.out.mono ?_)
      rintro y w3 ⟨rfl, b3⟩
      have HB3 := Lib.hid (HB2.out.trans (b3.mono HB2.out.size))
      have HSB3 := Lib.hid (HSB2.out.kept (Kept.of_below b3 []))
      clear HRA2 b3 HB2 HSB2
      go_upto_region 9 with (fail)
      rw [hn]
      have hn0 : (0 : Int) ≤ (n : Int) := by omega
      have hn1 : (n : Int) ≤ (ml : Int) := by omega
      have hn2 : (n : Int) ≤ (mc : Int) := by have := HML.out.2.1; omega
      have hm0 : (ml : Int) ≤ (mc : Int) := by have := HML.out.2.1; omega
      have HNL := Lib.hid hnl
      clear hn hw1 hw2 hw3
      have HM3 := Lib.hid (HM.out.kept (Kept.of_below HB3.out []))
      have HMV := Lib.hid (moves_any (m.take n) ma n mc w3 (HM3.out.take n hnl) (by omega))
      clear hnl hml40
      go_wp2_with fail
      go_at_call 11
      (with_reducible refine HMV.out.mono ?_)
      rintro x w4 ⟨⟨a4, c4, rfl, hs4⟩, b4⟩
      have HPO4 := Lib.hid (post_any [] (m.take n) none 0 0 a4 n c4 w4 (SlR.nil _ _ _) hs4 (by omega) (by have := HL.out; have := HNL.out; omega))
      have HB4 := Lib.hid (HB3.out.trans (b4.mono HB3.out.size))
      have HSB4 := Lib.hid (HSB3.out.kept (Kept.of_below b4 []))
      have HM4 := Lib.hid (HM3.out.kept (Kept.of_below b4 []))
      clear HMV hs4 b4 HB3 HSB3 HM3
      go_wp2_with fail
      go_at_call 12
      (with_reducible refine HPO4.out.mono ?_)
      rintro x w5 ⟨⟨one, oa, oc, e1, rfl, hs5, hv5, hl5⟩, b5⟩
      have HB5 := Lib.hid (HB4.out.trans (b5.mono HB4.out.size))
      have HSB5 := Lib.hid (HSB4.out.kept (Kept.of_below b5 []))
      have HM5 := Lib.hid (HM4.out.kept (Kept.of_below b5 []))
      have HON := Lib.hid hs5
      have HOL : Hid (one.length ≤ 80) := by
        have h1 := List.length_take_le n m
        have h2 := HNL.out
        have h3 := HL.out
        have h4 := HML.out.1
        rw [List.length_take] at hl5
        show _ ≤ _
        have h5 : ([] : List Acct).length = 0 := rfl
        omega
      have HEO := Lib.hid (ev_one n HMM.out hv5)
      clear HPO4 hs5 hv5 hl5 b5 HB4 HSB4 HM4
      rcases HEO.out with h2 | ⟨h0, ho1, hr1⟩
      · subst h2
        clear HEO
        go_wp2_with fail
        go_at_call 9
        (with_reducible refine (awake_any _).mono ?_)
        rintro y w6 ⟨rfl, b6⟩
        have HB6 := Lib.hid (HB5.out.trans (b6.mono HB5.out.size))
        clear b6
        go_wp2_with fail
        go_ret
        exact ⟨rfl, HB6.out⟩
      · subst h0
        have HO1 := Lib.hid ho1
        have HR1 := Lib.hid hr1
        have HFR := Lib.hid (HM5.out.from n HNL.out)
        by_cases hmn : mc = n
        · rw [if_pos hmn, show mc - n = 0 by omega] at HFR
          clear HEO ho1 hr1
          have HMV : Hid (Calls Try.prog 11 #[.slice ma (ml - n) 0] w5 _) := moves_any (m.drop n) ma (ml - n) 0 w5 HFR.out (by have := HL.out; omega)
          go_wp2_with fail
          go_at_call 11
          (with_reducible refine HMV.out.mono ?_)
          rintro x w6 ⟨⟨a6, c6, rfl, hs6⟩, b6⟩
          have HB6 := Lib.hid (HB5.out.trans (b6.mono HB5.out.size))
          have HSB6 := Lib.hid (HSB5.out.kept (Kept.of_below b6 []))
          have HPO6 := Lib.hid (post_any one (m.drop n) oa one.length oc a6 (ml - n) c6 w6 (HON.out.kept (Kept.of_below b6 [])) hs6 (by have := HOL.out; omega) (by have := HL.out; omega))
          clear HMV HFR hs6 b6 HB5 HSB5
          go_wp2_with fail
          go_at_call 12
          (with_reducible refine HPO6.out.mono ?_)
          rintro x w7 ⟨⟨two, ta, tc, e2, rfl, hs7, hv7, -⟩, b7⟩
          have HB7 := Lib.hid (HB6.out.trans (b7.mono HB6.out.size))
          have HSB7 := Lib.hid (HSB6.out.kept (Kept.of_below b7 []))
          obtain ⟨rfl, rfl⟩ := ev_two n HMM.out HFI.out HPO.out HO1.out HR1.out hv7
          have HTO := Lib.hid (told_any two ta two.length tc w7 hs7 (by have := HBN.out; omega))
          clear HPO6 hs7 hv7 b7 HB6 HSB6
          go_wp2_with fail
          go_at_call 14
          (with_reducible refine HTO.out.mono ?_)
          rintro x w8 ⟨⟨a8, c8, rfl, hs8⟩, b8⟩
          have HB8 := Lib.hid (HB7.out.trans (b8.mono HB7.out.size))
          have HTB := Lib.hid (told_any two ba two.length bc w8 (HSB7.out.kept (Kept.of_below b8 [])) (by have := HBN.out; omega))
          have HS8 := Lib.hid hs8
          clear HTO hs8 b8 HB7 HSB7
          go_wp2_with fail
          go_at_call 14
          (with_reducible refine HTB.out.mono ?_)
          rintro x w9 ⟨⟨a9, c9, rfl, hs9⟩, b9⟩
          have HB9 := Lib.hid (HB8.out.trans (b9.mono HB8.out.size))
          have HSM := Lib.hid (sameA_any two a8 a9 two.length c8 c9 w9 (HS8.out.kept (Kept.of_below b9 [])) hs9 (by have := HBN.out; omega))
          clear HTB HS8 hs9 b9 HB8
          go_wp2_with fail
          go_at_call 13
          (with_reducible refine HSM.out.mono ?_)
          rintro x w10 ⟨rfl, b10⟩
          have HB10 := Lib.hid (HB9.out.trans (b10.mono HB9.out.size))
          clear HSM b10 HB9
          go_wp2_with fail
          go_at_call 9
          (with_reducible refine (awake_any _).mono ?_)
          rintro y w11 ⟨rfl, b11⟩
          have HB11 := Lib.hid (HB10.out.trans (b11.mono HB10.out.size))
          clear b11
          go_wp2_with fail
          go_ret
          exact ⟨rfl, HB11.out⟩
        · rw [if_neg hmn] at HFR
          clear HEO ho1 hr1
          have HMV : Hid (Calls Try.prog 11 #[.slice (ma.map (fun p => p.add (n * 4))) (ml - n) (mc - n)] w5 _) := moves_any (m.drop n) (ma.map (fun p => p.add (n * 4))) (ml - n) (mc - n) w5 HFR.out (by have := HL.out; omega)
          go_wp2_with fail
          go_at_call 11
          (with_reducible refine HMV.out.mono ?_)
          rintro x w6 ⟨⟨a6, c6, rfl, hs6⟩, b6⟩
          have HB6 := Lib.hid (HB5.out.trans (b6.mono HB5.out.size))
          have HSB6 := Lib.hid (HSB5.out.kept (Kept.of_below b6 []))
          have HPO6 := Lib.hid (post_any one (m.drop n) oa one.length oc a6 (ml - n) c6 w6 (HON.out.kept (Kept.of_below b6 [])) hs6 (by have := HOL.out; omega) (by have := HL.out; omega))
          clear HMV HFR hs6 b6 HB5 HSB5
          go_wp2_with fail
          go_at_call 12
          (with_reducible refine HPO6.out.mono ?_)
          rintro x w7 ⟨⟨two, ta, tc, e2, rfl, hs7, hv7, -⟩, b7⟩
          have HB7 := Lib.hid (HB6.out.trans (b7.mono HB6.out.size))
          have HSB7 := Lib.hid (HSB6.out.kept (Kept.of_below b7 []))
          obtain ⟨rfl, rfl⟩ := ev_two n HMM.out HFI.out HPO.out HO1.out HR1.out hv7
          have HTO := Lib.hid (told_any two ta two.length tc w7 hs7 (by have := HBN.out; omega))
          clear HPO6 hs7 hv7 b7 HB6 HSB6
          go_wp2_with fail
          go_at_call 14
          (with_reducible refine HTO.out.mono ?_)
          rintro x w8 ⟨⟨a8, c8, rfl, hs8⟩, b8⟩
          have HB8 := Lib.hid (HB7.out.trans (b8.mono HB7.out.size))
          have HTB := Lib.hid (told_any two ba two.length bc w8 (HSB7.out.kept (Kept.of_below b8 [])) (by have := HBN.out; omega))
          have HS8 := Lib.hid hs8
          clear HTO hs8 b8 HB7 HSB7
          go_wp2_with fail
          go_at_call 14
          (with_reducible refine HTB.out.mono ?_)
          rintro x w9 ⟨⟨a9, c9, rfl, hs9⟩, b9⟩
          have HB9 := Lib.hid (HB8.out.trans (b9.mono HB8.out.size))
          have HSM := Lib.hid (sameA_any two a8 a9 two.length c8 c9 w9 (HS8.out.kept (Kept.of_below b9 [])) hs9 (by have := HBN.out; omega))
          clear HTB HS8 hs9 b9 HB8
          go_wp2_with fail
          go_at_call 13
          (with_reducible refine HSM.out.mono ?_)
          rintro x w10 ⟨rfl, b10⟩
          have HB10 := Lib.hid (HB9.out.trans (b10.mono HB9.out.size))
          clear HSM b10 HB9
          go_wp2_with fail
          go_at_call 9
          (with_reducible refine (awake_any _).mono ?_)
          rintro y w11 ⟨rfl, b11⟩
          have HB11 := Lib.hid (HB10.out.trans (b11.mono HB10.out.size))
          clear b11
          go_wp2_with fail
          go_ret
          exact ⟨rfl, HB11.out⟩
    · have hoe := ev_bad HV.out he
      subst hoe
      rw [decide_eq_false he]
      clear he HV HSB HBL
      go_wp2_with fail
      go_at_call 9
      (with_reducible refine (awake_any _).mono ?_)
      rintro y w2 ⟨rfl, b2⟩
      have HB2 := Lib.hid (HB1.out.trans (b2.mono HB1.out.size))
      clear b2
      go_wp2_with fail
      go_ret
      exact ⟨rfl, HB2.out⟩
end Go.Proofs.Ytgbiimoednmlgaa
