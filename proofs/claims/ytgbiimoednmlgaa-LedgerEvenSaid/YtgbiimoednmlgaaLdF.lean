/- The contracts of sums, Even. -/
import Derived.Test.YtgbiimoednmlgaaLdZ
namespace Go.Proofs.Ytgbiimoednmlgaa
set_option linter.unusedVariables false
set_option linter.unusedSimpArgs false
open Go.RowKit
theorem ints_row {base : Nat} {w : World} {L : List Int} {a : Option Addr} {c : Nat} (hr : w.ownsRow base 2 1 (.slice a L.length c) L.length (intC L)) (hI : ∀ n ∈ L, I64 n) : IntsAt w L a L.length := by
  refine ⟨rfl, fun j n hj => ⟨hI n (List.mem_of_getElem? hj), ?_⟩⟩
  have hjl := (List.getElem?_eq_some_iff.1 hj).1
  obtain ⟨g, cap, hv, -⟩ := own_form hr (by omega)
  injection hv with e1 _ e3
  subst e1; subst e3
  refine ⟨g, 0, rfl, ?_⟩
  rw [Nat.zero_add, hr.cellAt j (by omega)]
  unfold intC
  rw [List.getElem?_map, hj]; rfl
theorem intC_append (a b : List Int) : intC (a ++ b) = intC a ++ intC b := by unfold intC; rw [List.map_append]
/-- A currency's amounts. -/
def amtA (l : List Acct) (c : List UInt8) : List Int := (l.filter (fun a => a.key.2 == c)).map (fun a => a.amt)
theorem amtA_sum (l : List Acct) (c : List UInt8) : (amtA l c).sum = coinA l c := rfl
theorem amtA_take {l : List Acct} {k : Nat} {x : Acct} (h : l[k]? = some x) (c : List UInt8) : amtA (l.take (k + 1)) c = amtA (l.take k) c ++ (if x.coin.data.toList = c then [x.amt] else []) := by
  obtain ⟨hk, e⟩ := List.getElem?_eq_some_iff.1 h
  rw [← List.take_append_getElem hk, e]
  unfold amtA
  rw [List.filter_append, List.map_append]
  congr 1
  have : x.key.2 = x.coin.data.toList := rfl
  by_cases hc : x.coin.data.toList = c
  · rw [if_pos hc, List.filter_cons_of_pos (by rw [this]; simpa using hc)]; rfl
  · rw [if_neg hc, List.filter_cons_of_neg (by rw [this]; simpa using hc)]; rfl
theorem amtA_len (l : List Acct) (c : List UInt8) : (amtA l c).length ≤ l.length := by unfold amtA; rw [List.length_map]; exact List.length_filter_le ..
theorem amtA_rng {l : List Acct} (h : ∀ a ∈ l, AcctOk a) (c : List UInt8) : ∀ n ∈ amtA l c, I64 n := by
  intro n hn
  unfold amtA at hn
  obtain ⟨a, ha, rfl⟩ := List.mem_map.1 hn
  exact (h a (List.mem_filter.1 ha).1).amt
set_option maxRecDepth 100000 in
set_option maxHeartbeats 4000000 in
theorem sums_any (l : List Acct) (a : Option Addr) (len cap : Nat) (c : ByteArray) (w : World) (h : SlR acctK w [] l a len cap) (hlen : len ≤ 1000000) :
    Calls Try.prog 46 #[.slice a len cap, .string c] w fun y w' => y = .returned (.bool (decide (coinA l c.data.toList = 0))) ∧ Below w.heap.size w w' := by
  have HS := Lib.hid h
  have HL := Lib.hid h.facts.1
  have HN := Lib.hid hlen
  have HOK := Lib.hid (acct_ok h)
  obtain ⟨R, hR⟩ : ∃ R, R = decide (coinA l c.data.toList = 0) := ⟨_, rfl⟩
  have HR := Lib.hid hR
  rw [← hR]
  clear h hlen hR
  go_enter Try.func46, Try.ntmps46
  go_wp2_with fail
  go_loopw [5, 12] (fun v i wr => ∃ (k : Nat) (oa : Option Addr) (oc : Nat), v = .slice oa (amtA (l.take k) c.data.toList).length oc ∧ i = .int .i64 (k : Nat) ∧ k ≤ len ∧ Hid (wr.ownsRow w.heap.size 2 1 (.slice oa (amtA (l.take k) c.data.toList).length oc) (amtA (l.take k) c.data.toList).length (intC (amtA (l.take k) c.data.toList)) ∧ Below w.heap.size w wr)) (fun _ i _ => len - (intOf i).toNat)
  case atStart =>
    have h0 : amtA (l.take 0) c.data.toList = [] := by rw [List.take_zero]; rfl
    exact ⟨0, none, 0, by rw [h0]; rfl, rfl, Nat.zero_le _, by rw [h0]; exact World.ownsRow_nil _ _ _ _, Below.refl _ _⟩
  case round =>
    obtain ⟨k, oa, oc, rfl, rfl, hk, HQ⟩ := hrel
    by_cases hlt : k < len
    · have hlt' : (k : Int) < (len : Int) := by omega
      have i0 : (0 : Int) ≤ (k : Int) := by omega
      have i1 : (k : Int) ≤ 1000000 := by have := HN.out; omega
      have HSR := Lib.hid (HS.out.kept (Kept.of_below HQ.out.2 []))
      obtain ⟨b, o, x, rfl, hx, -, u0, u1, u2⟩ := acct_at HSR.out k hlt
      have hal := (Below.refl wr.heap.size wr).alloc (Nat.le_refl _) (.cells #[.string x.party, .string x.coin, .int .i64 x.amt] 51)
      have BZ := Lib.hid (Mem.Blk.new wr 51 #[.string x.party, .string x.coin, .int .i64 x.amt])
      have HO2 := Lib.hid (own_below HQ.out.1 hal)
      have HB2 := Lib.hid (HQ.out.2.trans (hal.mono HQ.out.2.size))
      have HX := Lib.hid (amtA_take hx c.data.toList)
      have HKL := Lib.hid hlt
      have hsm := same_b x.coin c
      clear hal hx hlt HQ HSR
      go_upto_region 5 with (fail)
      generalize wr.heap.size = zb at *
      generalize wr.alloc (.cells #[.string x.party, .string x.coin, .int .i64 x.amt] 51) = w3 at *
      clear u0 u1 u2
      have z1 : w3.cell? ⟨zb, 1, none⟩ = some (.string x.coin) := BZ.out.cell 1
      have z2 : w3.cell? ⟨zb, 2, none⟩ = some (.int .i64 x.amt) := BZ.out.cell 2
      by_cases hc : x.coin.data.toList = c.data.toList
      · rw [decide_eq_true hc] at hsm
        have HX1 : Hid (amtA (l.take (k + 1)) c.data.toList = amtA (l.take k) c.data.toList ++ [x.amt]) := by
          show _ = _
          rw [HX.out, if_pos hc]
        have HOL : Hid ((amtA (l.take k) c.data.toList).length + 1 ≤ maxLen ∧ ((amtA (l.take k) c.data.toList).length + 1) * 8 ≤ 140737488355328) := by
          have hmx : maxLen = 9223372036854775807 := by decide
          have h1 := amtA_len (l.take k) c.data.toList
          rw [List.length_take] at h1
          exact ⟨by omega, by omega⟩
        have hal := (Below.refl w3.heap.size w3).alloc (Nat.le_refl _) (.cells #[.int .i64 x.amt] 2)
        have HOB := Lib.hid (own_below HO2.out hal)
        have HBB := Lib.hid (HB2.out.trans (hal.mono HB2.out.size))
        have HSB : Hid (w.heap.size ≤ (w3.alloc (.cells #[.int .i64 x.amt] 2)).heap.size) := HBB.out.size
        clear hal hc HX
        go_upto_region 7 with (at_builtin; refine ap_row infoI Try.underlying77 rfl (by decide) rfl (.tmp 20) (.tmp 23) rfl rfl HOB.out HSB.out ⟨w3.heap.size, 0, none⟩ 1 1 [.int .i64 x.amt] rfl rfl (lit_cells_at w3 #[.int .i64 x.amt] 2 _ rfl) (by simp [Value.oneCell']) HOL.out.1 HOL.out.2 ?_; intro v1 w5 o1 g1 hv1; have HO5 := Lib.hid o1; have HG5 := Lib.hid g1; clear o1 g1 hv1)
        have HQ1 : ∃ a5 c5, v1 = Value.slice a5 (amtA (l.take (k + 1)) c.data.toList).length c5 ∧ Hid (w5.ownsRow w.heap.size 2 1 (.slice a5 (amtA (l.take (k + 1)) c.data.toList).length c5) (amtA (l.take (k + 1)) c.data.toList).length (intC (amtA (l.take (k + 1)) c.data.toList)) ∧ Below w.heap.size w w5) := by
          have ho := HO5.out
          obtain ⟨a5, c5, rfl⟩ := own_slice ho
          rw [HX1.out, List.length_append, intC_append]
          exact ⟨a5, c5, rfl, ho, HBB.out.grown HG5.out HSB.out (fun b hb => (own_lt HOB.out hb).1)⟩
        obtain ⟨a5, c5, rfl, HQ5⟩ := HQ1
        clear HO5 HG5 HOB HBB HSB z1 z2 hsm
        go_wp2_with fail
        go_roundw
        case rel => exact ⟨k + 1, a5, c5, rfl, by go_num, by have := HKL.out; omega, HQ5.out⟩
        case measure => simp [intOf]; have := HKL.out; omega
      · rw [decide_eq_false hc] at hsm
        have HX1 : Hid (amtA (l.take (k + 1)) c.data.toList = amtA (l.take k) c.data.toList) := by
          show _ = _
          rw [HX.out, if_neg hc, List.append_nil]
        clear hc HX
        go_wp2_with fail
        go_roundw
        case rel => exact ⟨k + 1, oa, oc, by rw [HX1.out], by go_num, by have := HKL.out; omega, by rw [HX1.out]; exact ⟨HO2.out, HB2.out⟩⟩
        case measure => simp [intOf]; have := HKL.out; omega
    · have hlt' : ¬ (k : Int) < (len : Int) := by omega
      have hke : l.take k = l := List.take_of_length_le (by rw [HL.out]; omega)
      rw [hke] at HQ ⊢
      have HIN := Lib.hid (sum_any (amtA l c.data.toList) oa (amtA l c.data.toList).length oc wr (ints_row HQ.out.1 (amtA_rng HOK.out c.data.toList)) (by have h1 := amtA_len l c.data.toList; have := HL.out; have := HN.out; omega))
      have HB := Lib.hid HQ.out.2
      clear HQ hke hlt
      rw [amtA_sum] at HIN
      go_wp2_with fail
      go_at_call 37
      (with_reducible refine HIN.out.mono ?_)
      rintro y w4 ⟨rfl, rfl⟩
      clear HIN
      obtain ⟨n, hn⟩ : ∃ n, n = coinA l c.data.toList := ⟨_, rfl⟩
      rw [← hn] at HR ⊢
      clear hn
      cases hf : fits64 n with
      | false =>
        have HRF : Hid (R = false) := by
          show _ = _
          rw [HR.out]
          refine decide_eq_false (fun e => ?_)
          rw [e, fits_zero] at hf; cases hf
        clear HR hf
        rw [if_neg Bool.false_ne_true]
        go_wp2_with fail
        go_ret
        exact ⟨by rw [HRF.out]; rfl, HB.out⟩
      | true =>
        rw [if_pos rfl]
        by_cases hz : n = 0
        · have hz' : (n == 0) = true := by simpa using hz
          have HRF : Hid (R = true) := by show _ = _; rw [HR.out]; exact decide_eq_true hz
          clear HR hf hz
          go_wp2_with fail
          go_ret
          exact ⟨by rw [HRF.out]; rfl, HB.out⟩
        · have hz' : (n == 0) = false := by simpa using hz
          have HRF : Hid (R = false) := by show _ = _; rw [HR.out]; exact decide_eq_false hz
          clear HR hf hz
          go_wp2_with fail
          go_ret
          exact ⟨by rw [HRF.out]; rfl, HB.out⟩
end Go.Proofs.Ytgbiimoednmlgaa
