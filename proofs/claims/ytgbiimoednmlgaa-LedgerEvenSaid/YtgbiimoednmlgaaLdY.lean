/- The law's own turnings of accounts, of moves. -/
import Derived.Test.YtgbiimoednmlgaaLdX
namespace Go.Proofs.Ytgbiimoednmlgaa
set_option linter.unusedVariables false
set_option linter.unusedSimpArgs false
open Go.RowKit
theorem infoRA : (Try.prog.info? 58).map (fun i => (i.zero, i.size, i.bytes)) = some (some (.agg #[.string ⟨#[]⟩, .string ⟨#[]⟩, .int .i64 0]), 3, 40) := by kernel_rfl
theorem infoMv : (Try.prog.info? 72).map (fun i => (i.zero, i.size, i.bytes)) = some (some (.agg #[.string ⟨#[]⟩, .string ⟨#[]⟩, .string ⟨#[]⟩, .int .i64 0]), 4, 56) := by kernel_rfl
theorem infoRM : (Try.prog.info? 40).map (fun i => (i.zero, i.size, i.bytes)) = some (some (.agg #[.string ⟨#[]⟩, .string ⟨#[]⟩, .string ⟨#[]⟩, .int .i64 0]), 4, 56) := by kernel_rfl
def outM (l : List Mv) : List Value := (l.map mvC).flatten
theorem outM_append (a b : List Mv) : outM (a ++ b) = outM a ++ outM b := by unfold outM; rw [List.map_append, List.flatten_append]
theorem outM_one (a : Mv) : outM [a] = mvC a := by unfold outM; simp
theorem outR_any {t : TypeId} {w0 w : World} {v : Value} {l : List Acct} (h : w.ownsRow w0.heap.size t 3 v l.length (outR l)) (hb : Below w0.heap.size w0 w) (hok : ∀ a ∈ l, AcctOk a) : ∃ a c, v = .slice a l.length c ∧ SlR acctK w [] l a l.length c := by
  obtain ⟨a, c, rfl, hsl, -⟩ := own_sl (w0 := w0) (X := []) ⟨hb, h⟩ (by rw [List.length_map]) (fun c hc => by obtain ⟨s, _, rfl⟩ := List.mem_map.1 hc; rfl) (fun b hb => by cases hb)
  refine ⟨a, c, rfl, ⟨l.map acctC, by rw [List.length_map], fun i x cs hx hc => ?_, hsl⟩⟩
  rw [List.getElem?_map, hx] at hc
  injection hc with hc
  exact ⟨hc.symm, hok x (List.mem_of_getElem? hx)⟩
theorem outM_any {t : TypeId} {w0 w : World} {v : Value} {l : List Mv} (h : w.ownsRow w0.heap.size t 4 v l.length (outM l)) (hb : Below w0.heap.size w0 w) (hok : ∀ a ∈ l, MvOk a) : ∃ a c, v = .slice a l.length c ∧ SlR mvK w [] l a l.length c := by
  obtain ⟨a, c, rfl, hsl, -⟩ := own_sl (w0 := w0) (X := []) ⟨hb, h⟩ (by rw [List.length_map]) (fun c hc => by obtain ⟨s, _, rfl⟩ := List.mem_map.1 hc; rfl) (fun b hb => by cases hb)
  refine ⟨a, c, rfl, ⟨l.map mvC, by rw [List.length_map], fun i x cs hx hc => ?_, hsl⟩⟩
  rw [List.getElem?_map, hx] at hc
  injection hc with hc
  exact ⟨hc.symm, hok x (List.mem_of_getElem? hx)⟩
theorem acct_ok {w : World} {X : List Nat} {l : List Acct} {a : Option Addr} {len cap : Nat} (h : SlR acctK w X l a len cap) : ∀ x ∈ l, AcctOk x := by
  intro x hx
  obtain ⟨k, hk⟩ := List.getElem?_of_mem hx
  have hl := (List.getElem?_eq_some_iff.1 hk).1
  rw [h.facts.1] at hl
  obtain ⟨b, o, y, -, hy, hok, -⟩ := acct_at h k hl
  rw [hk] at hy
  injection hy with hy
  rw [hy]; exact hok
theorem mv_ok {w : World} {X : List Nat} {l : List Mv} {a : Option Addr} {len cap : Nat} (h : SlR mvK w X l a len cap) : ∀ x ∈ l, MvOk x := by
  intro x hx
  obtain ⟨k, hk⟩ := List.getElem?_of_mem hx
  have hl := (List.getElem?_eq_some_iff.1 hk).1
  rw [h.facts.1] at hl
  obtain ⟨b, o, y, -, hy, hok, -⟩ := mv_at h k hl
  rw [hk] at hy
  injection hy with hy
  rw [hy]; exact hok
set_option maxRecDepth 100000 in
set_option maxHeartbeats 4000000 in
theorem books_any (l : List Acct) (a : Option Addr) (len cap : Nat) (w : World) (h : SlR acctK w [] l a len cap) (hlen : len ≤ 100000) :
    Calls Try.prog 10 #[.slice a len cap] w fun y w' => (∃ a' c', y = .returned (.slice a' len c') ∧ SlR acctK w' [] l a' len c') ∧ Below w.heap.size w w' := by
  have HS := Lib.hid h
  have HL := Lib.hid h.facts.1
  have HN := Lib.hid hlen
  have HOK := Lib.hid (acct_ok h)
  clear h hlen
  go_enter Try.func10, Try.ntmps10
  go_wp2_with fail
  go_loopw [3, 4] (fun v i wr => ∃ (k : Nat) (oa : Option Addr) (oc : Nat), v = .slice oa k oc ∧ i = .int .i64 (k : Nat) ∧ k ≤ len ∧ Hid (wr.ownsRow w.heap.size 51 3 (.slice oa k oc) k (outR (l.take k)) ∧ Below w.heap.size w wr)) (fun _ i _ => len - (intOf i).toNat)
  case atStart => exact ⟨0, none, 0, rfl, rfl, Nat.zero_le _, by rw [List.take_zero]; exact World.ownsRow_nil _ _ _ _, Below.refl _ _⟩
  case round =>
    obtain ⟨k, oa, oc, rfl, rfl, hk, HR⟩ := hrel
    by_cases hlt : k < len
    · have hlt' : (k : Int) < (len : Int) := by omega
      have i0 : (0 : Int) ≤ (k : Int) := by omega
      have i1 : (k : Int) ≤ 100000 := by have := HN.out; omega
      have HSR := Lib.hid (HS.out.kept (Kept.of_below HR.out.2 []))
      obtain ⟨b, o, x, rfl, hx, -, u0, u1, u2⟩ := acct_at HSR.out k hlt
      have HX : Hid (l.take (k + 1) = l.take k ++ [x]) := by
        obtain ⟨hk1, e1⟩ := List.getElem?_eq_some_iff.1 hx
        show _ = _
        rw [← List.take_append_getElem hk1, e1]
      have hal := (Below.refl wr.heap.size wr).alloc (Nat.le_refl _) (.cells #[.string x.party, .string x.coin, .int .i64 x.amt] 51)
      have HO2 := Lib.hid (own_below HR.out.1 hal)
      have HB2 := Lib.hid (HR.out.2.trans (hal.mono HR.out.2.size))
      have HSB : Hid (w.heap.size ≤ (wr.alloc (.cells #[.string x.party, .string x.coin, .int .i64 x.amt] 51)).heap.size) := HB2.out.size
      have HM : Hid (k + 1 ≤ maxLen ∧ (k + 1) * 40 ≤ 140737488355328) := by
        have hmx : maxLen = 9223372036854775807 := by decide
        exact ⟨by omega, by omega⟩
      have HKL := Lib.hid hlt
      clear hal hx HSR HR hlt
      go_wp2_with (at_builtin; refine ap_row infoA Try.underlying26 rfl (by decide) rfl (.tmp 11) (.tmp 16) rfl rfl HO2.out HSB.out ⟨wr.heap.size, 0, none⟩ 1 1 [.string x.party, .string x.coin, .int .i64 x.amt] rfl rfl (lit_cells_at wr #[.string x.party, .string x.coin, .int .i64 x.amt] 51 _ rfl) (by simp [Value.oneCell']) HM.out.1 HM.out.2 ?_; intro v3 w3 o1 g1 hv1; have HO3 := Lib.hid o1; have HG3 := Lib.hid g1; clear o1 g1 hv1)
      have HB3 := Lib.hid (HB2.out.grown HG3.out HB2.out.size (fun b hb => (own_lt HO2.out hb).1))
      obtain ⟨a', c', rfl⟩ := own_slice HO3.out
      have HR3 : Hid (w3.ownsRow w.heap.size 51 3 (.slice a' (k + 1) c') (k + 1) (outR (l.take (k + 1))) ∧ Below w.heap.size w w3) := by
        refine ⟨?_, HB3.out⟩
        rw [HX.out, outR_append, outR_one]
        exact HO3.out
      clear HO3 HO2 HB2 HG3 HB3 HX HSB
      go_roundw
      case rel => exact ⟨k + 1, a', c', rfl, by go_num, by have := HKL.out; omega, HR3.out⟩
      case measure => simp [intOf]; have := HKL.out; omega
    · have hlt' : ¬ (k : Int) < (len : Int) := by omega
      obtain rfl : k = len := by omega
      have HEND : Hid ((∃ a c, Value.slice oa k oc = .slice a k c ∧ SlR acctK wr [] l a k c) ∧ Below w.heap.size w wr) := by
        refine ⟨?_, HR.out.2⟩
        have ho := HR.out.1
        have hke : l.take k = l := List.take_of_length_le (by rw [HL.out]; omega)
        have hkl := HL.out
        rw [hke] at ho
        subst hkl
        exact outR_any ho HR.out.2 HOK.out
      clear HR hlt hk
      go_wp2_with fail
      go_ret
      obtain ⟨⟨a, c, hac, hs⟩, hb⟩ := HEND.out
      exact ⟨⟨a, c, by rw [hac]; rfl, hs⟩, hb⟩
set_option maxRecDepth 100000 in
set_option maxHeartbeats 4000000 in
theorem told_any (l : List Acct) (a : Option Addr) (len cap : Nat) (w : World) (h : SlR acctK w [] l a len cap) (hlen : len ≤ 100000) :
    Calls Try.prog 14 #[.slice a len cap] w fun y w' => (∃ a' c', y = .returned (.slice a' len c') ∧ SlR acctK w' [] l a' len c') ∧ Below w.heap.size w w' := by
  have HS := Lib.hid h
  have HL := Lib.hid h.facts.1
  have HN := Lib.hid hlen
  have HOK := Lib.hid (acct_ok h)
  clear h hlen
  go_enter Try.func14, Try.ntmps14
  go_wp2_with fail
  go_loopw [3, 4] (fun v i wr => ∃ (k : Nat) (oa : Option Addr) (oc : Nat), v = .slice oa k oc ∧ i = .int .i64 (k : Nat) ∧ k ≤ len ∧ Hid (wr.ownsRow w.heap.size 58 3 (.slice oa k oc) k (outR (l.take k)) ∧ Below w.heap.size w wr)) (fun _ i _ => len - (intOf i).toNat)
  case atStart => exact ⟨0, none, 0, rfl, rfl, Nat.zero_le _, by rw [List.take_zero]; exact World.ownsRow_nil _ _ _ _, Below.refl _ _⟩
  case round =>
    obtain ⟨k, oa, oc, rfl, rfl, hk, HR⟩ := hrel
    by_cases hlt : k < len
    · have hlt' : (k : Int) < (len : Int) := by omega
      have i0 : (0 : Int) ≤ (k : Int) := by omega
      have i1 : (k : Int) ≤ 100000 := by have := HN.out; omega
      have HSR := Lib.hid (HS.out.kept (Kept.of_below HR.out.2 []))
      obtain ⟨b, o, x, rfl, hx, -, u0, u1, u2⟩ := acct_at HSR.out k hlt
      have HX : Hid (l.take (k + 1) = l.take k ++ [x]) := by
        obtain ⟨hk1, e1⟩ := List.getElem?_eq_some_iff.1 hx
        show _ = _
        rw [← List.take_append_getElem hk1, e1]
      have hal := (Below.refl wr.heap.size wr).alloc (Nat.le_refl _) (.cells #[.string x.party, .string x.coin, .int .i64 x.amt] 58)
      have HO2 := Lib.hid (own_below HR.out.1 hal)
      have HB2 := Lib.hid (HR.out.2.trans (hal.mono HR.out.2.size))
      have HSB : Hid (w.heap.size ≤ (wr.alloc (.cells #[.string x.party, .string x.coin, .int .i64 x.amt] 58)).heap.size) := HB2.out.size
      have HM : Hid (k + 1 ≤ maxLen ∧ (k + 1) * 40 ≤ 140737488355328) := by
        have hmx : maxLen = 9223372036854775807 := by decide
        exact ⟨by omega, by omega⟩
      have HKL := Lib.hid hlt
      clear hal hx HSR HR hlt
      go_wp2_with (at_builtin; refine ap_row infoRA Try.underlying22 rfl (by decide) rfl (.tmp 11) (.tmp 16) rfl rfl HO2.out HSB.out ⟨wr.heap.size, 0, none⟩ 1 1 [.string x.party, .string x.coin, .int .i64 x.amt] rfl rfl (lit_cells_at wr #[.string x.party, .string x.coin, .int .i64 x.amt] 58 _ rfl) (by simp [Value.oneCell']) HM.out.1 HM.out.2 ?_; intro v3 w3 o1 g1 hv1; have HO3 := Lib.hid o1; have HG3 := Lib.hid g1; clear o1 g1 hv1)
      have HB3 := Lib.hid (HB2.out.grown HG3.out HB2.out.size (fun b hb => (own_lt HO2.out hb).1))
      obtain ⟨a', c', rfl⟩ := own_slice HO3.out
      have HR3 : Hid (w3.ownsRow w.heap.size 58 3 (.slice a' (k + 1) c') (k + 1) (outR (l.take (k + 1))) ∧ Below w.heap.size w w3) := by
        refine ⟨?_, HB3.out⟩
        rw [HX.out, outR_append, outR_one]
        exact HO3.out
      clear HO3 HO2 HB2 HG3 HB3 HX HSB
      go_roundw
      case rel => exact ⟨k + 1, a', c', rfl, by go_num, by have := HKL.out; omega, HR3.out⟩
      case measure => simp [intOf]; have := HKL.out; omega
    · have hlt' : ¬ (k : Int) < (len : Int) := by omega
      obtain rfl : k = len := by omega
      have HEND : Hid ((∃ a c, Value.slice oa k oc = .slice a k c ∧ SlR acctK wr [] l a k c) ∧ Below w.heap.size w wr) := by
        refine ⟨?_, HR.out.2⟩
        have ho := HR.out.1
        have hke : l.take k = l := List.take_of_length_le (by rw [HL.out]; omega)
        have hkl := HL.out
        rw [hke] at ho
        subst hkl
        exact outR_any ho HR.out.2 HOK.out
      clear HR hlt hk
      go_wp2_with fail
      go_ret
      obtain ⟨⟨a, c, hac, hs⟩, hb⟩ := HEND.out
      exact ⟨⟨a, c, by rw [hac]; rfl, hs⟩, hb⟩
set_option maxRecDepth 100000 in
set_option maxHeartbeats 4000000 in
theorem moves_any (l : List Mv) (a : Option Addr) (len cap : Nat) (w : World) (h : SlR mvK w [] l a len cap) (hlen : len ≤ 100000) :
    Calls Try.prog 11 #[.slice a len cap] w fun y w' => (∃ a' c', y = .returned (.slice a' len c') ∧ SlR mvK w' [] l a' len c') ∧ Below w.heap.size w w' := by
  have HS := Lib.hid h
  have HL := Lib.hid h.facts.1
  have HN := Lib.hid hlen
  have HOK := Lib.hid (mv_ok h)
  clear h hlen
  go_enter Try.func11, Try.ntmps11
  go_wp2_with fail
  go_loopw [3, 4] (fun v i wr => ∃ (k : Nat) (oa : Option Addr) (oc : Nat), v = .slice oa k oc ∧ i = .int .i64 (k : Nat) ∧ k ≤ len ∧ Hid (wr.ownsRow w.heap.size 72 4 (.slice oa k oc) k (outM (l.take k)) ∧ Below w.heap.size w wr)) (fun _ i _ => len - (intOf i).toNat)
  case atStart => exact ⟨0, none, 0, rfl, rfl, Nat.zero_le _, by rw [List.take_zero]; exact World.ownsRow_nil _ _ _ _, Below.refl _ _⟩
  case round =>
    obtain ⟨k, oa, oc, rfl, rfl, hk, HR⟩ := hrel
    by_cases hlt : k < len
    · have hlt' : (k : Int) < (len : Int) := by omega
      have i0 : (0 : Int) ≤ (k : Int) := by omega
      have i1 : (k : Int) ≤ 100000 := by have := HN.out; omega
      have HSR := Lib.hid (HS.out.kept (Kept.of_below HR.out.2 []))
      obtain ⟨b, o, x, rfl, hx, -, u0, u1, u2, u3⟩ := mv_at HSR.out k hlt
      have HX : Hid (l.take (k + 1) = l.take k ++ [x]) := by
        obtain ⟨hk1, e1⟩ := List.getElem?_eq_some_iff.1 hx
        show _ = _
        rw [← List.take_append_getElem hk1, e1]
      have hal := (Below.refl wr.heap.size wr).alloc (Nat.le_refl _) (.cells #[.string x.src, .string x.dst, .string x.coin, .int .i64 x.amt] 72)
      have HO2 := Lib.hid (own_below HR.out.1 hal)
      have HB2 := Lib.hid (HR.out.2.trans (hal.mono HR.out.2.size))
      have HSB : Hid (w.heap.size ≤ (wr.alloc (.cells #[.string x.src, .string x.dst, .string x.coin, .int .i64 x.amt] 72)).heap.size) := HB2.out.size
      have HM : Hid (k + 1 ≤ maxLen ∧ (k + 1) * 56 ≤ 140737488355328) := by
        have hmx : maxLen = 9223372036854775807 := by decide
        exact ⟨by omega, by omega⟩
      have HKL := Lib.hid hlt
      clear hal hx HSR HR hlt
      go_wp2_with (at_builtin; refine ap_row infoMv Try.underlying28 rfl (by decide) rfl (.tmp 11) (.tmp 16) rfl rfl HO2.out HSB.out ⟨wr.heap.size, 0, none⟩ 1 1 [.string x.src, .string x.dst, .string x.coin, .int .i64 x.amt] rfl rfl (lit_cells_at wr #[.string x.src, .string x.dst, .string x.coin, .int .i64 x.amt] 72 _ rfl) (by simp [Value.oneCell']) HM.out.1 HM.out.2 ?_; intro v3 w3 o1 g1 hv1; have HO3 := Lib.hid o1; have HG3 := Lib.hid g1; clear o1 g1 hv1)
      have HB3 := Lib.hid (HB2.out.grown HG3.out HB2.out.size (fun b hb => (own_lt HO2.out hb).1))
      obtain ⟨a', c', rfl⟩ := own_slice HO3.out
      have HR3 : Hid (w3.ownsRow w.heap.size 72 4 (.slice a' (k + 1) c') (k + 1) (outM (l.take (k + 1))) ∧ Below w.heap.size w w3) := by
        refine ⟨?_, HB3.out⟩
        rw [HX.out, outM_append, outM_one]
        exact HO3.out
      clear HO3 HO2 HB2 HG3 HB3 HX HSB
      go_roundw
      case rel => exact ⟨k + 1, a', c', rfl, by go_num, by have := HKL.out; omega, HR3.out⟩
      case measure => simp [intOf]; have := HKL.out; omega
    · have hlt' : ¬ (k : Int) < (len : Int) := by omega
      obtain rfl : k = len := by omega
      have HEND : Hid ((∃ a c, Value.slice oa k oc = .slice a k c ∧ SlR mvK wr [] l a k c) ∧ Below w.heap.size w wr) := by
        refine ⟨?_, HR.out.2⟩
        have ho := HR.out.1
        have hke : l.take k = l := List.take_of_length_le (by rw [HL.out]; omega)
        have hkl := HL.out
        rw [hke] at ho
        subst hkl
        exact outM_any ho HR.out.2 HOK.out
      clear HR hlt hk
      go_wp2_with fail
      go_ret
      obtain ⟨⟨a, c, hac, hs⟩, hb⟩ := HEND.out
      exact ⟨⟨a, c, by rw [hac]; rfl, hs⟩, hb⟩
set_option maxRecDepth 100000 in
set_option maxHeartbeats 4000000 in
theorem back_any (l : List Mv) (a : Option Addr) (len cap : Nat) (w : World) (h : SlR mvK w [] l a len cap) (hlen : len ≤ 100000) :
    Calls Try.prog 16 #[.slice a len cap] w fun y w' => (∃ a' c', y = .returned (.slice a' len c') ∧ SlR mvK w' [] l a' len c') ∧ Below w.heap.size w w' := by
  have HS := Lib.hid h
  have HL := Lib.hid h.facts.1
  have HN := Lib.hid hlen
  have HOK := Lib.hid (mv_ok h)
  clear h hlen
  go_enter Try.func16, Try.ntmps16
  go_wp2_with fail
  go_loopw [3, 4] (fun v i wr => ∃ (k : Nat) (oa : Option Addr) (oc : Nat), v = .slice oa k oc ∧ i = .int .i64 (k : Nat) ∧ k ≤ len ∧ Hid (wr.ownsRow w.heap.size 40 4 (.slice oa k oc) k (outM (l.take k)) ∧ Below w.heap.size w wr)) (fun _ i _ => len - (intOf i).toNat)
  case atStart => exact ⟨0, none, 0, rfl, rfl, Nat.zero_le _, by rw [List.take_zero]; exact World.ownsRow_nil _ _ _ _, Below.refl _ _⟩
  case round =>
    obtain ⟨k, oa, oc, rfl, rfl, hk, HR⟩ := hrel
    by_cases hlt : k < len
    · have hlt' : (k : Int) < (len : Int) := by omega
      have i0 : (0 : Int) ≤ (k : Int) := by omega
      have i1 : (k : Int) ≤ 100000 := by have := HN.out; omega
      have HSR := Lib.hid (HS.out.kept (Kept.of_below HR.out.2 []))
      obtain ⟨b, o, x, rfl, hx, -, u0, u1, u2, u3⟩ := mv_at HSR.out k hlt
      have HX : Hid (l.take (k + 1) = l.take k ++ [x]) := by
        obtain ⟨hk1, e1⟩ := List.getElem?_eq_some_iff.1 hx
        show _ = _
        rw [← List.take_append_getElem hk1, e1]
      have hal := (Below.refl wr.heap.size wr).alloc (Nat.le_refl _) (.cells #[.string x.src, .string x.dst, .string x.coin, .int .i64 x.amt] 40)
      have HO2 := Lib.hid (own_below HR.out.1 hal)
      have HB2 := Lib.hid (HR.out.2.trans (hal.mono HR.out.2.size))
      have HSB : Hid (w.heap.size ≤ (wr.alloc (.cells #[.string x.src, .string x.dst, .string x.coin, .int .i64 x.amt] 40)).heap.size) := HB2.out.size
      have HM : Hid (k + 1 ≤ maxLen ∧ (k + 1) * 56 ≤ 140737488355328) := by
        have hmx : maxLen = 9223372036854775807 := by decide
        exact ⟨by omega, by omega⟩
      have HKL := Lib.hid hlt
      clear hal hx HSR HR hlt
      go_wp2_with (at_builtin; refine ap_row infoRM Try.underlying23 rfl (by decide) rfl (.tmp 11) (.tmp 16) rfl rfl HO2.out HSB.out ⟨wr.heap.size, 0, none⟩ 1 1 [.string x.src, .string x.dst, .string x.coin, .int .i64 x.amt] rfl rfl (lit_cells_at wr #[.string x.src, .string x.dst, .string x.coin, .int .i64 x.amt] 40 _ rfl) (by simp [Value.oneCell']) HM.out.1 HM.out.2 ?_; intro v3 w3 o1 g1 hv1; have HO3 := Lib.hid o1; have HG3 := Lib.hid g1; clear o1 g1 hv1)
      have HB3 := Lib.hid (HB2.out.grown HG3.out HB2.out.size (fun b hb => (own_lt HO2.out hb).1))
      obtain ⟨a', c', rfl⟩ := own_slice HO3.out
      have HR3 : Hid (w3.ownsRow w.heap.size 40 4 (.slice a' (k + 1) c') (k + 1) (outM (l.take (k + 1))) ∧ Below w.heap.size w w3) := by
        refine ⟨?_, HB3.out⟩
        rw [HX.out, outM_append, outM_one]
        exact HO3.out
      clear HO3 HO2 HB2 HG3 HB3 HX HSB
      go_roundw
      case rel => exact ⟨k + 1, a', c', rfl, by go_num, by have := HKL.out; omega, HR3.out⟩
      case measure => simp [intOf]; have := HKL.out; omega
    · have hlt' : ¬ (k : Int) < (len : Int) := by omega
      obtain rfl : k = len := by omega
      have HEND : Hid ((∃ a c, Value.slice oa k oc = .slice a k c ∧ SlR mvK wr [] l a k c) ∧ Below w.heap.size w wr) := by
        refine ⟨?_, HR.out.2⟩
        have ho := HR.out.1
        have hke : l.take k = l := List.take_of_length_le (by rw [HL.out]; omega)
        have hkl := HL.out
        rw [hke] at ho
        subst hkl
        exact outM_any ho HR.out.2 HOK.out
      clear HR hlt hk
      go_wp2_with fail
      go_ret
      obtain ⟨⟨a, c, hac, hs⟩, hb⟩ := HEND.out
      exact ⟨⟨a, c, by rw [hac]; rfl, hs⟩, hb⟩
end Go.Proofs.Ytgbiimoednmlgaa
