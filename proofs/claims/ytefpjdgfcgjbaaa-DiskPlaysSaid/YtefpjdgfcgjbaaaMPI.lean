/- A part of the proof: DkMw, DkMx, DkMz, DkRo, one behind another. -/
import Derived.Test.YtefpjdgfcgjbaaaMPA
import Derived.Test.YtefpjdgfcgjbaaaMPB
import Derived.Test.YtefpjdgfcgjbaaaMPC
import Derived.Test.YtefpjdgfcgjbaaaMPD
import Derived.Test.YtefpjdgfcgjbaaaMPE
import Derived.Test.YtefpjdgfcgjbaaaMPF
import Derived.Test.YtefpjdgfcgjbaaaMPG
import Derived.Test.YtefpjdgfcgjbaaaMPH
import Derived.Laws.Shifts
/- The document's disk: does: Sync, Delete, Rename to the same name. -/
namespace Go.Proofs.Ytefpjdgfcgjbaaa
set_option linter.unusedVariables false
set_option linter.unusedSimpArgs false
open Go.RowKit
set_option maxRecDepth 100000 in
set_option maxHeartbeats 4000000 in
theorem does_sync (base q : Nat) (m : Md) (fa : Option Addr) (fc : Nat) (c : Ac) (b : Nat) (R : Int × St) (w : World) (h : MdAt base w q m fa fc) (ok : StOk m) (hn : m.fs.length ≤ 1000) (hd : c.data.size ≤ 1000000000) (hk : I64 c.kind) (ho : m.off = false) (ha : ¬ (m.armed = true ∧ m.left = 0)) (hc : m.calls ≤ 4611686018427387904 ∧ m.written ≤ 4611686018427387904) (HR : Hid (R = actS b m c.kind c.name.data.toList c.to_.data.toList c.data)) (hb : badN c.name.data.toList = false) (h1 : c.kind = 1) (f : Fi) (hf : findF m.fs c.name.data.toList = some f) : Calls Try.prog 24 #[.pointer (some ⟨q, 0, none⟩), .agg (acC c).toArray] w fun x w' => x = .returned (.int .i64 R.1) ∧ MdDone base q fa w w' R.2 := by
  have HE : Hid (R = (0, { bs m with fs := updF c.name.data.toList syncF (bs m).fs })) := by
    show R = _
    rw [HR.out, h1]; exact actS_sync ho ha hb hf
  have HF : Hid (findF (bs m).fs c.name.data.toList = some f) := hf
  have H1 := Lib.hid h1
  clear h1 hk hf
  have HS := Lib.hid (do_start h c)
  have HN := Lib.hid hn
  have HOK := Lib.hid ok
  have HCC := Lib.hid hc
  have hcw : IntKind.i64.wrap (m.calls + 1) = m.calls + 1 := IntWalk.i64_in _ (by have := ok.wr; omega)
  have hlw : IntKind.i64.wrap (m.left - 1) = m.left - 1 := IntWalk.i64_in _ (by have := ok.lf; omega)
  clear h ok hn hc HR
  show Calls Try.prog 24 #[.pointer (some ⟨q, 0, none⟩), .agg #[.int .i64 c.kind, .string c.name, .string c.to_, .string c.data, .int .i64 c.n, .int .u32 c.bits, .slice c.ka c.kl c.kc]] w _
  go_enter Try.func24, Try.ntmps24
  go_upto_region 1 with (fail)
  have HS1 : Hid (DoSt base q w.heap.size c fa w (w.alloc (.cells #[.int .i64 c.kind, .string c.name, .string c.to_, .string c.data, .int .i64 c.n, .int .u32 c.bits, .slice c.ka c.kl c.kc] 54)) m fa fc) := HS.out
  clear HS
  generalize w.alloc (.cells #[.int .i64 c.kind, .string c.name, .string c.to_, .string c.data, .int .i64 c.n, .int .u32 c.bits, .slice c.ka c.kl c.kc] 54) = w1 at *
  obtain ⟨c0, c1, c2, c3, c4, c5, c6⟩ := md7 HS1.out.go.at_.ptr
  obtain ⟨f0, f1, f2, f3, f4, f5, f6⟩ := mdF HS1.out.go.at_.ptr
  have HS2 := Lib.hid (HS1.out.turn 6 (.int .i64 (m.calls + 1)) { m with calls := m.calls + 1 } rfl (fun v => rfl))
  rw [ho] at c2
  clear ho HS1
  go_upto_region 4 with (fail)
  generalize w1.setCell ⟨q, 6, none⟩ (.int .i64 (m.calls + 1)) = w2 at *
  clear c0 c1 c2 c3 c4 c5 c6 f0 f1 f2 f3 f4 f5 f6
  have c3 : w2.cell? ⟨q, 3, none⟩ = some (.bool m.armed) := (md7 HS2.out.go.at_.ptr).2.2.2.1
  have c4 : w2.cell? ⟨q, 4, none⟩ = some (.int .i64 m.left) := (md7 HS2.out.go.at_.ptr).2.2.2.2.1
  have f4 : w2.frozen? ⟨q, 4, none⟩ = false := HS2.out.go.at_.ptr.frozen 4
  cases harm : m.armed with
  | true =>
    have hl : ¬ m.left = 0 := fun e => ha ⟨harm, e⟩
    have HS3 : Hid (DoSt base q w.heap.size c fa w (w2.setCell ⟨q, 4, none⟩ (.int .i64 (m.left - 1))) (bs m) fa fc) := HS2.out.turn 4 _ (bs m) rfl (fun v => by unfold bs mdC; rw [harm]; rfl)
    rw [harm] at c3
    clear ha
    go_upto_region 9 with (fail)
    generalize w2.setCell ⟨q, 4, none⟩ (.int .i64 (m.left - 1)) = w3 at *
    clear hcw hlw c3 c4 f4 HS2 hl
    have HOK1 := Lib.hid (bs_ok HOK.out)
    have HN1 : Hid ((bs m).fs.length ≤ 1000) := HN.out
    clear HOK HN
    generalize bs m = m1 at *
    obtain ⟨q0, q1, q2, q3, q4, q5, q6⟩ := blk7 HS3.out.box
    rw [H1.out] at q0
    go_wp2_with fail
    go_at_call 18
    (with_reducible refine (right_any _ _).mono ?_)
    rintro x w4 ⟨rfl, hw⟩
    rw [hw]
    clear hw w4
    rw [hb]
    go_wp2_with fail
    go_at_call 25
    (with_reducible refine (find_any base q m1 fa fc c.name _ HS3.out.go.at_ HN1.out).mono ?_)
    rintro x w4 ⟨⟨i, rfl, hi⟩, hw⟩
    rw [hw]
    clear hw w4
    rcases hi with ⟨k, f', rfl, hk1, hk2⟩ | ⟨rfl, hk2⟩
    rotate_left
    · rw [HF.out] at hk2; cases hk2
    obtain rfl : f' = f := by rw [HF.out] at hk2; injection hk2 with hk2; exact hk2.symm
    have hkl : k < m1.fs.length := (List.getElem?_eq_some_iff.1 hk1).1
    have HFN := Lib.hid (findF_mem HF.out).2
    have c1 : w3.cell? ⟨q, 1, none⟩ = some (.slice fa m1.fs.length fc) := (md7 HS3.out.go.at_.ptr).2.1
    obtain ⟨g, f1, rfl, hf1, u0, u1, u2, hfz⟩ := HS3.out.go.at_.at k hkl
    obtain rfl : f1 = f' := by rw [hk1] at hf1; injection hf1 with hf1; exact hf1.symm
    have i0 : (0 : Int) ≤ (k : Int) := by omega
    have i1 : (k : Int) ≤ 1000 := by have := HN1.out; omega
    have hlt' : (k : Int) < (m1.fs.length : Int) := by omega
    have HK1 := Lib.hid hk1
    clear hf1 hk1 hk2
    have y2 := hfz (k * 3 + 2)
    have HS4 := Lib.hid ((HS3.out.cell HK1.out 2 (by omega) (.int .i64 (f1.data.size : Nat)) (f' := syncF f1) rfl).below (show Below _ _ (w3.setCell ⟨g, k * 3 + 2, none⟩ (.int .i64 (f1.data.size : Nat))).drew from below_dN (Below.refl _ _) 1))
    have HE2 : Hid (R = (0, { m1 with fs := m1.fs.set k (syncF f1) })) := by
      have e := updF_set (h := syncF) HOK1.out.2.2.2.2.1 HK1.out
      rw [HFN.out] at e
      show R = _
      rw [HE.out, e]
    clear hfz HE
    go_wp2_with fail
    go_still_tail 16, (by kernel_rfl)
    change wpList _ _ _ _ _ w3.drew
    go_wp2_with fail
    go_ret
    rw [HE2.out]
    exact ⟨rfl, HS4.out.go.done⟩
  | false =>
    obtain ⟨w3, hw3⟩ : ∃ W, W = w2 := ⟨_, rfl⟩
    have HS3 : Hid (DoSt base q w.heap.size c fa w w3 (bs m) fa fc) := by
      rw [hw3]
      refine HS2.out.like rfl ⟨rfl, rfl, rfl, ?_, rfl, rfl⟩
      unfold bs; rw [harm]; rfl
    rw [harm] at c3
    clear ha
    go_upto_region 9 with (fail)
    rw [← hw3]
    clear hcw hlw c3 c4 f4 HS2 hw3
    have HOK1 := Lib.hid (bs_ok HOK.out)
    have HN1 : Hid ((bs m).fs.length ≤ 1000) := HN.out
    clear HOK HN
    generalize bs m = m1 at *
    obtain ⟨q0, q1, q2, q3, q4, q5, q6⟩ := blk7 HS3.out.box
    rw [H1.out] at q0
    go_wp2_with fail
    go_at_call 18
    (with_reducible refine (right_any _ _).mono ?_)
    rintro x w4 ⟨rfl, hw⟩
    rw [hw]
    clear hw w4
    rw [hb]
    go_wp2_with fail
    go_at_call 25
    (with_reducible refine (find_any base q m1 fa fc c.name _ HS3.out.go.at_ HN1.out).mono ?_)
    rintro x w4 ⟨⟨i, rfl, hi⟩, hw⟩
    rw [hw]
    clear hw w4
    rcases hi with ⟨k, f', rfl, hk1, hk2⟩ | ⟨rfl, hk2⟩
    rotate_left
    · rw [HF.out] at hk2; cases hk2
    obtain rfl : f' = f := by rw [HF.out] at hk2; injection hk2 with hk2; exact hk2.symm
    have hkl : k < m1.fs.length := (List.getElem?_eq_some_iff.1 hk1).1
    have HFN := Lib.hid (findF_mem HF.out).2
    have c1 : w3.cell? ⟨q, 1, none⟩ = some (.slice fa m1.fs.length fc) := (md7 HS3.out.go.at_.ptr).2.1
    obtain ⟨g, f1, rfl, hf1, u0, u1, u2, hfz⟩ := HS3.out.go.at_.at k hkl
    obtain rfl : f1 = f' := by rw [hk1] at hf1; injection hf1 with hf1; exact hf1.symm
    have i0 : (0 : Int) ≤ (k : Int) := by omega
    have i1 : (k : Int) ≤ 1000 := by have := HN1.out; omega
    have hlt' : (k : Int) < (m1.fs.length : Int) := by omega
    have HK1 := Lib.hid hk1
    clear hf1 hk1 hk2
    have y2 := hfz (k * 3 + 2)
    have HS4 := Lib.hid ((HS3.out.cell HK1.out 2 (by omega) (.int .i64 (f1.data.size : Nat)) (f' := syncF f1) rfl).below (show Below _ _ (w3.setCell ⟨g, k * 3 + 2, none⟩ (.int .i64 (f1.data.size : Nat))).drew from below_dN (Below.refl _ _) 1))
    have HE2 : Hid (R = (0, { m1 with fs := m1.fs.set k (syncF f1) })) := by
      have e := updF_set (h := syncF) HOK1.out.2.2.2.2.1 HK1.out
      rw [HFN.out] at e
      show R = _
      rw [HE.out, e]
    clear hfz HE
    go_wp2_with fail
    go_still_tail 16, (by kernel_rfl)
    change wpList _ _ _ _ _ w3.drew
    go_wp2_with fail
    go_ret
    rw [HE2.out]
    exact ⟨rfl, HS4.out.go.done⟩
set_option maxRecDepth 100000 in
set_option maxHeartbeats 4000000 in
theorem does_same (base q : Nat) (m : Md) (fa : Option Addr) (fc : Nat) (c : Ac) (b : Nat) (R : Int × St) (w : World) (h : MdAt base w q m fa fc) (ok : StOk m) (hn : m.fs.length ≤ 1000) (hd : c.data.size ≤ 1000000000) (hk : I64 c.kind) (ho : m.off = false) (ha : ¬ (m.armed = true ∧ m.left = 0)) (hc : m.calls ≤ 4611686018427387904 ∧ m.written ≤ 4611686018427387904) (HR : Hid (R = actS b m c.kind c.name.data.toList c.to_.data.toList c.data)) (hb : badN c.name.data.toList = false) (h2 : c.kind = 2) (hu : c.to_ = c.name) (f : Fi) (hf : findF m.fs c.name.data.toList = some f) : Calls Try.prog 24 #[.pointer (some ⟨q, 0, none⟩), .agg (acC c).toArray] w fun x w' => x = .returned (.int .i64 R.1) ∧ MdDone base q fa w w' R.2 := by
  have HE : Hid (R = (0, bs m)) := by
    show R = _
    rw [HR.out, h2, hu]; exact actS_same ho ha hb hf
  have HF : Hid (findF (bs m).fs c.name.data.toList = some f) := hf
  have H2 := Lib.hid h2
  have HU := Lib.hid hu
  clear h2 hk hf hu
  have HS := Lib.hid (do_start h c)
  have HN := Lib.hid hn
  have HOK := Lib.hid ok
  have HCC := Lib.hid hc
  have hcw : IntKind.i64.wrap (m.calls + 1) = m.calls + 1 := IntWalk.i64_in _ (by have := ok.wr; omega)
  have hlw : IntKind.i64.wrap (m.left - 1) = m.left - 1 := IntWalk.i64_in _ (by have := ok.lf; omega)
  clear h ok hn hc HR
  show Calls Try.prog 24 #[.pointer (some ⟨q, 0, none⟩), .agg #[.int .i64 c.kind, .string c.name, .string c.to_, .string c.data, .int .i64 c.n, .int .u32 c.bits, .slice c.ka c.kl c.kc]] w _
  go_enter Try.func24, Try.ntmps24
  go_upto_region 1 with (fail)
  have HS1 : Hid (DoSt base q w.heap.size c fa w (w.alloc (.cells #[.int .i64 c.kind, .string c.name, .string c.to_, .string c.data, .int .i64 c.n, .int .u32 c.bits, .slice c.ka c.kl c.kc] 54)) m fa fc) := HS.out
  clear HS
  generalize w.alloc (.cells #[.int .i64 c.kind, .string c.name, .string c.to_, .string c.data, .int .i64 c.n, .int .u32 c.bits, .slice c.ka c.kl c.kc] 54) = w1 at *
  obtain ⟨c0, c1, c2, c3, c4, c5, c6⟩ := md7 HS1.out.go.at_.ptr
  obtain ⟨f0, f1, f2, f3, f4, f5, f6⟩ := mdF HS1.out.go.at_.ptr
  have HS2 := Lib.hid (HS1.out.turn 6 (.int .i64 (m.calls + 1)) { m with calls := m.calls + 1 } rfl (fun v => rfl))
  rw [ho] at c2
  clear ho HS1
  go_upto_region 4 with (fail)
  generalize w1.setCell ⟨q, 6, none⟩ (.int .i64 (m.calls + 1)) = w2 at *
  clear c0 c1 c2 c3 c4 c5 c6 f0 f1 f2 f3 f4 f5 f6
  have c3 : w2.cell? ⟨q, 3, none⟩ = some (.bool m.armed) := (md7 HS2.out.go.at_.ptr).2.2.2.1
  have c4 : w2.cell? ⟨q, 4, none⟩ = some (.int .i64 m.left) := (md7 HS2.out.go.at_.ptr).2.2.2.2.1
  have f4 : w2.frozen? ⟨q, 4, none⟩ = false := HS2.out.go.at_.ptr.frozen 4
  cases harm : m.armed with
  | true =>
    have hl : ¬ m.left = 0 := fun e => ha ⟨harm, e⟩
    have HS3 : Hid (DoSt base q w.heap.size c fa w (w2.setCell ⟨q, 4, none⟩ (.int .i64 (m.left - 1))) (bs m) fa fc) := HS2.out.turn 4 _ (bs m) rfl (fun v => by unfold bs mdC; rw [harm]; rfl)
    rw [harm] at c3
    clear ha
    go_upto_region 9 with (fail)
    generalize w2.setCell ⟨q, 4, none⟩ (.int .i64 (m.left - 1)) = w3 at *
    clear hcw hlw c3 c4 f4 HS2 hl
    have HOK1 := Lib.hid (bs_ok HOK.out)
    have HN1 : Hid ((bs m).fs.length ≤ 1000) := HN.out
    clear HOK HN
    generalize bs m = m1 at *
    obtain ⟨q0, q1, q2, q3, q4, q5, q6⟩ := blk7 HS3.out.box
    rw [H2.out] at q0
    rw [HU.out] at q2
    go_wp2_with fail
    go_at_call 18
    (with_reducible refine (right_any _ _).mono ?_)
    rintro x w4 ⟨rfl, hw⟩
    rw [hw]
    clear hw w4
    rw [hb]
    go_wp2_with fail
    go_at_call 18
    (with_reducible refine (right_any _ _).mono ?_)
    rintro x w4 ⟨rfl, hw⟩
    rw [hw]
    clear hw w4
    rw [hb]
    go_wp2_with fail
    go_at_call 25
    (with_reducible refine (find_any base q m1 fa fc c.name _ HS3.out.go.at_ HN1.out).mono ?_)
    rintro x w4 ⟨⟨i, rfl, hi⟩, hw⟩
    rw [hw]
    clear hw w4
    rcases hi with ⟨k, f', rfl, hk1, hk2⟩ | ⟨rfl, hk2⟩
    rotate_left
    · rw [HF.out] at hk2; cases hk2
    obtain rfl : f' = f := by rw [HF.out] at hk2; injection hk2 with hk2; exact hk2.symm
    have hkl : k < m1.fs.length := (List.getElem?_eq_some_iff.1 hk1).1
    have HFN := Lib.hid (findF_mem HF.out).2
    have c1 : w3.cell? ⟨q, 1, none⟩ = some (.slice fa m1.fs.length fc) := (md7 HS3.out.go.at_.ptr).2.1
    obtain ⟨g, f1, rfl, hf1, u0, u1, u2, hfz⟩ := HS3.out.go.at_.at k hkl
    obtain rfl : f1 = f' := by rw [hk1] at hf1; injection hf1 with hf1; exact hf1.symm
    have i0 : (0 : Int) ≤ (k : Int) := by omega
    have i1 : (k : Int) ≤ 1000 := by have := HN1.out; omega
    have hlt' : (k : Int) < (m1.fs.length : Int) := by omega
    have HK1 := Lib.hid hk1
    clear hf1 hk1 hk2
    have hnn : (c.name.toList == c.name.toList) = true := beq_self_eq_true _
    go_wp2_with fail
    go_ret
    rw [HE.out]
    exact ⟨rfl, HS3.out.go.done⟩
  | false =>
    obtain ⟨w3, hw3⟩ : ∃ W, W = w2 := ⟨_, rfl⟩
    have HS3 : Hid (DoSt base q w.heap.size c fa w w3 (bs m) fa fc) := by
      rw [hw3]
      refine HS2.out.like rfl ⟨rfl, rfl, rfl, ?_, rfl, rfl⟩
      unfold bs; rw [harm]; rfl
    rw [harm] at c3
    clear ha
    go_upto_region 9 with (fail)
    rw [← hw3]
    clear hcw hlw c3 c4 f4 HS2 hw3
    have HOK1 := Lib.hid (bs_ok HOK.out)
    have HN1 : Hid ((bs m).fs.length ≤ 1000) := HN.out
    clear HOK HN
    generalize bs m = m1 at *
    obtain ⟨q0, q1, q2, q3, q4, q5, q6⟩ := blk7 HS3.out.box
    rw [H2.out] at q0
    rw [HU.out] at q2
    go_wp2_with fail
    go_at_call 18
    (with_reducible refine (right_any _ _).mono ?_)
    rintro x w4 ⟨rfl, hw⟩
    rw [hw]
    clear hw w4
    rw [hb]
    go_wp2_with fail
    go_at_call 18
    (with_reducible refine (right_any _ _).mono ?_)
    rintro x w4 ⟨rfl, hw⟩
    rw [hw]
    clear hw w4
    rw [hb]
    go_wp2_with fail
    go_at_call 25
    (with_reducible refine (find_any base q m1 fa fc c.name _ HS3.out.go.at_ HN1.out).mono ?_)
    rintro x w4 ⟨⟨i, rfl, hi⟩, hw⟩
    rw [hw]
    clear hw w4
    rcases hi with ⟨k, f', rfl, hk1, hk2⟩ | ⟨rfl, hk2⟩
    rotate_left
    · rw [HF.out] at hk2; cases hk2
    obtain rfl : f' = f := by rw [HF.out] at hk2; injection hk2 with hk2; exact hk2.symm
    have hkl : k < m1.fs.length := (List.getElem?_eq_some_iff.1 hk1).1
    have HFN := Lib.hid (findF_mem HF.out).2
    have c1 : w3.cell? ⟨q, 1, none⟩ = some (.slice fa m1.fs.length fc) := (md7 HS3.out.go.at_.ptr).2.1
    obtain ⟨g, f1, rfl, hf1, u0, u1, u2, hfz⟩ := HS3.out.go.at_.at k hkl
    obtain rfl : f1 = f' := by rw [hk1] at hf1; injection hf1 with hf1; exact hf1.symm
    have i0 : (0 : Int) ≤ (k : Int) := by omega
    have i1 : (k : Int) ≤ 1000 := by have := HN1.out; omega
    have hlt' : (k : Int) < (m1.fs.length : Int) := by omega
    have HK1 := Lib.hid hk1
    clear hf1 hk1 hk2
    have hnn : (c.name.toList == c.name.toList) = true := beq_self_eq_true _
    go_wp2_with fail
    go_ret
    rw [HE.out]
    exact ⟨rfl, HS3.out.go.done⟩
set_option maxRecDepth 100000 in
set_option maxHeartbeats 4000000 in
theorem does_gone (base q : Nat) (m : Md) (fa : Option Addr) (fc : Nat) (c : Ac) (b : Nat) (R : Int × St) (w : World) (h : MdAt base w q m fa fc) (ok : StOk m) (hn : m.fs.length ≤ 1000) (hd : c.data.size ≤ 1000000000) (hk : I64 c.kind) (ho : m.off = false) (ha : ¬ (m.armed = true ∧ m.left = 0)) (hc : m.calls ≤ 4611686018427387904 ∧ m.written ≤ 4611686018427387904) (HR : Hid (R = actS b m c.kind c.name.data.toList c.to_.data.toList c.data)) (hb : badN c.name.data.toList = false) (h0 : c.kind ≠ 0) (h1 : c.kind ≠ 1) (h2 : c.kind ≠ 2) (f : Fi) (hf : findF m.fs c.name.data.toList = some f) : Calls Try.prog 24 #[.pointer (some ⟨q, 0, none⟩), .agg (acC c).toArray] w fun x w' => x = .returned (.int .i64 R.1) ∧ MdDone base q fa w w' R.2 := by
  have HE : Hid (R = (0, { bs m with used := m.used - (f.data.size : Nat), fs := delF c.name.data.toList (bs m).fs })) := by
    show R = _
    rw [HR.out]; exact actS_gone ho ha hb h0 h1 h2 hf
  have HF : Hid (findF (bs m).fs c.name.data.toList = some f) := hf
  clear hk hf
  have HS := Lib.hid (do_start h c)
  have HN := Lib.hid hn
  have HOK := Lib.hid ok
  have HCC := Lib.hid hc
  have hcw : IntKind.i64.wrap (m.calls + 1) = m.calls + 1 := IntWalk.i64_in _ (by have := ok.wr; omega)
  have hlw : IntKind.i64.wrap (m.left - 1) = m.left - 1 := IntWalk.i64_in _ (by have := ok.lf; omega)
  clear h ok hn hc HR
  show Calls Try.prog 24 #[.pointer (some ⟨q, 0, none⟩), .agg #[.int .i64 c.kind, .string c.name, .string c.to_, .string c.data, .int .i64 c.n, .int .u32 c.bits, .slice c.ka c.kl c.kc]] w _
  go_enter Try.func24, Try.ntmps24
  go_upto_region 1 with (fail)
  have HS1 : Hid (DoSt base q w.heap.size c fa w (w.alloc (.cells #[.int .i64 c.kind, .string c.name, .string c.to_, .string c.data, .int .i64 c.n, .int .u32 c.bits, .slice c.ka c.kl c.kc] 54)) m fa fc) := HS.out
  clear HS
  generalize w.alloc (.cells #[.int .i64 c.kind, .string c.name, .string c.to_, .string c.data, .int .i64 c.n, .int .u32 c.bits, .slice c.ka c.kl c.kc] 54) = w1 at *
  obtain ⟨c0, c1, c2, c3, c4, c5, c6⟩ := md7 HS1.out.go.at_.ptr
  obtain ⟨f0, f1, f2, f3, f4, f5, f6⟩ := mdF HS1.out.go.at_.ptr
  have HS2 := Lib.hid (HS1.out.turn 6 (.int .i64 (m.calls + 1)) { m with calls := m.calls + 1 } rfl (fun v => rfl))
  rw [ho] at c2
  clear ho HS1
  go_upto_region 4 with (fail)
  generalize w1.setCell ⟨q, 6, none⟩ (.int .i64 (m.calls + 1)) = w2 at *
  clear c0 c1 c2 c3 c4 c5 c6 f0 f1 f2 f3 f4 f5 f6
  have c3 : w2.cell? ⟨q, 3, none⟩ = some (.bool m.armed) := (md7 HS2.out.go.at_.ptr).2.2.2.1
  have c4 : w2.cell? ⟨q, 4, none⟩ = some (.int .i64 m.left) := (md7 HS2.out.go.at_.ptr).2.2.2.2.1
  have f4 : w2.frozen? ⟨q, 4, none⟩ = false := HS2.out.go.at_.ptr.frozen 4
  cases harm : m.armed with
  | true =>
    have hl : ¬ m.left = 0 := fun e => ha ⟨harm, e⟩
    have HS3 : Hid (DoSt base q w.heap.size c fa w (w2.setCell ⟨q, 4, none⟩ (.int .i64 (m.left - 1))) (bs m) fa fc) := HS2.out.turn 4 _ (bs m) rfl (fun v => by unfold bs mdC; rw [harm]; rfl)
    rw [harm] at c3
    clear ha
    go_upto_region 9 with (fail)
    generalize w2.setCell ⟨q, 4, none⟩ (.int .i64 (m.left - 1)) = w3 at *
    clear hcw hlw c3 c4 f4 HS2 hl
    have HOK1 := Lib.hid (bs_ok HOK.out)
    have HN1 : Hid ((bs m).fs.length ≤ 1000) := HN.out
    clear HOK HN
    generalize bs m = m1 at *
    obtain ⟨q0, q1, q2, q3, q4, q5, q6⟩ := blk7 HS3.out.box
    go_wp2_with fail
    go_at_call 18
    (with_reducible refine (right_any _ _).mono ?_)
    rintro x w4 ⟨rfl, hw⟩
    rw [hw]
    clear hw w4
    rw [hb]
    go_wp2_with fail
    go_at_call 25
    (with_reducible refine (find_any base q m1 fa fc c.name _ HS3.out.go.at_ HN1.out).mono ?_)
    rintro x w4 ⟨⟨i, rfl, hi⟩, hw⟩
    rw [hw]
    clear hw w4
    rcases hi with ⟨k, f', rfl, hk1, hk2⟩ | ⟨rfl, hk2⟩
    rotate_left
    · rw [HF.out] at hk2; cases hk2
    obtain rfl : f' = f := by rw [HF.out] at hk2; injection hk2 with hk2; exact hk2.symm
    have hkl : k < m1.fs.length := (List.getElem?_eq_some_iff.1 hk1).1
    have HFN := Lib.hid (findF_mem HF.out).2
    have c1 : w3.cell? ⟨q, 1, none⟩ = some (.slice fa m1.fs.length fc) := (md7 HS3.out.go.at_.ptr).2.1
    obtain ⟨g, f1, rfl, hf1, u0, u1, u2, hfz⟩ := HS3.out.go.at_.at k hkl
    obtain rfl : f1 = f' := by rw [hk1] at hf1; injection hf1 with hf1; exact hf1.symm
    have i0 : (0 : Int) ≤ (k : Int) := by omega
    have i1 : (k : Int) ≤ 1000 := by have := HN1.out; omega
    have hlt' : (k : Int) < (m1.fs.length : Int) := by omega
    have HK1 := Lib.hid hk1
    clear hf1 hk1 hk2
    have HP := Lib.hid (mdrop_any base q m1 _ fc k w3 HS3.out.go.at_ HN1.out hkl)
    have HE2 : Hid (R = (0, { m1 with used := m.used - (f1.data.size : Nat), fs := m1.fs.eraseIdx k })) := by
      have e := delF_erase HOK1.out.2.2.2.2.1 HK1.out
      rw [HFN.out] at e
      show R = _
      rw [HE.out, e]
    go_wp2_with fail
    go_at_call 42
    (with_reducible refine HP.out.mono ?_)
    rintro x w6 ⟨rfl, hdn⟩
    obtain ⟨fa2, fc2, hs6⟩ := HS3.out.on hdn
    have HS6 := Lib.hid hs6
    clear hdn hs6 HP HS3 c1 u0 u1 u2 hfz q0 q1 q2 q3 q4 q5 q6
    go_wp2_with fail
    go_ret
    rw [HE2.out]
    refine ⟨rfl, MdDone.like HS6.out.go.done ?_ ?_⟩
    · rfl
    · exact ⟨rfl, rfl, rfl, rfl, rfl, rfl⟩
  | false =>
    obtain ⟨w3, hw3⟩ : ∃ W, W = w2 := ⟨_, rfl⟩
    have HS3 : Hid (DoSt base q w.heap.size c fa w w3 (bs m) fa fc) := by
      rw [hw3]
      refine HS2.out.like rfl ⟨rfl, rfl, rfl, ?_, rfl, rfl⟩
      unfold bs; rw [harm]; rfl
    rw [harm] at c3
    clear ha
    go_upto_region 9 with (fail)
    rw [← hw3]
    clear hcw hlw c3 c4 f4 HS2 hw3
    have HOK1 := Lib.hid (bs_ok HOK.out)
    have HN1 : Hid ((bs m).fs.length ≤ 1000) := HN.out
    clear HOK HN
    generalize bs m = m1 at *
    obtain ⟨q0, q1, q2, q3, q4, q5, q6⟩ := blk7 HS3.out.box
    go_wp2_with fail
    go_at_call 18
    (with_reducible refine (right_any _ _).mono ?_)
    rintro x w4 ⟨rfl, hw⟩
    rw [hw]
    clear hw w4
    rw [hb]
    go_wp2_with fail
    go_at_call 25
    (with_reducible refine (find_any base q m1 fa fc c.name _ HS3.out.go.at_ HN1.out).mono ?_)
    rintro x w4 ⟨⟨i, rfl, hi⟩, hw⟩
    rw [hw]
    clear hw w4
    rcases hi with ⟨k, f', rfl, hk1, hk2⟩ | ⟨rfl, hk2⟩
    rotate_left
    · rw [HF.out] at hk2; cases hk2
    obtain rfl : f' = f := by rw [HF.out] at hk2; injection hk2 with hk2; exact hk2.symm
    have hkl : k < m1.fs.length := (List.getElem?_eq_some_iff.1 hk1).1
    have HFN := Lib.hid (findF_mem HF.out).2
    have c1 : w3.cell? ⟨q, 1, none⟩ = some (.slice fa m1.fs.length fc) := (md7 HS3.out.go.at_.ptr).2.1
    obtain ⟨g, f1, rfl, hf1, u0, u1, u2, hfz⟩ := HS3.out.go.at_.at k hkl
    obtain rfl : f1 = f' := by rw [hk1] at hf1; injection hf1 with hf1; exact hf1.symm
    have i0 : (0 : Int) ≤ (k : Int) := by omega
    have i1 : (k : Int) ≤ 1000 := by have := HN1.out; omega
    have hlt' : (k : Int) < (m1.fs.length : Int) := by omega
    have HK1 := Lib.hid hk1
    clear hf1 hk1 hk2
    have HP := Lib.hid (mdrop_any base q m1 _ fc k w3 HS3.out.go.at_ HN1.out hkl)
    have HE2 : Hid (R = (0, { m1 with used := m.used - (f1.data.size : Nat), fs := m1.fs.eraseIdx k })) := by
      have e := delF_erase HOK1.out.2.2.2.2.1 HK1.out
      rw [HFN.out] at e
      show R = _
      rw [HE.out, e]
    go_wp2_with fail
    go_at_call 42
    (with_reducible refine HP.out.mono ?_)
    rintro x w6 ⟨rfl, hdn⟩
    obtain ⟨fa2, fc2, hs6⟩ := HS3.out.on hdn
    have HS6 := Lib.hid hs6
    clear hdn hs6 HP HS3 c1 u0 u1 u2 hfz q0 q1 q2 q3 q4 q5 q6
    go_wp2_with fail
    go_ret
    rw [HE2.out]
    refine ⟨rfl, MdDone.like HS6.out.go.done ?_ ?_⟩
    · rfl
    · exact ⟨rfl, rfl, rfl, rfl, rfl, rfl⟩
end Go.Proofs.Ytefpjdgfcgjbaaa

/- The document's disk: does: Rename. -/
namespace Go.Proofs.Ytefpjdgfcgjbaaa
set_option linter.unusedVariables false
set_option linter.unusedSimpArgs false
open Go.RowKit
theorem DoSt.on2 {base q zb zf : Nat} {c : Ac} {fa fa' : Option Addr} {fc : Nat} {w W W' : World} {m m' : Md} {t : TypeId} {cs : Array Value} (h : DoSt base q zb c fa w W m fa' fc) (hb : Mem.Blk W zf t cs) (ho : zf ∉ mks q fa') (k : MdDone base q fa' W W' m') : ∃ fa2 fc2, DoSt base q zb c fa w W' m' fa2 fc2 ∧ Mem.Blk W' zf t cs ∧ zf ∉ mks q fa2 := by
  obtain ⟨a, cc, h1, h2⟩ := k
  exact ⟨a, cc, ⟨⟨h1, h.go.step.trans h2⟩, h2.fr.blk h.box h.out, h2.out h.box.lt h.out⟩, h2.fr.blk hb ho, h2.out hb.lt ho⟩
theorem DoSt.side {base q zb zf : Nat} {c : Ac} {fa fa' : Option Addr} {fc : Nat} {w W W' : World} {m : Md} (h : DoSt base q zb c fa w W m fa' fc) (b : Fr [zf] W W') (ho : zf ∉ mks q fa') (hz : zb ≠ zf) (hw : w.heap.size ≤ zf) : DoSt base q zb c fa w W' m fa' fc := by
  refine ⟨⟨h.go.at_.fr b (fun g hg => by rw [List.mem_singleton] at hg; subst hg; exact ho), ⟨?_, h.go.step.own⟩⟩, b.blk h.box (by simpa using hz), h.out⟩
  refine ((h.go.step.fr.more (X' := mks q fa ++ [zf]) (fun b hb => List.mem_append.2 (.inl hb))).trans (b.more (fun b hb => List.mem_append.2 (.inr hb)))).fresh (fun b hb => ?_)
  rcases List.mem_append.1 hb with hb | hb
  · exact .inl hb
  · rw [List.mem_singleton] at hb; subst hb; exact .inr hw
set_option maxRecDepth 100000 in
set_option maxHeartbeats 4000000 in
theorem does_name (base q : Nat) (m : Md) (fa : Option Addr) (fc : Nat) (c : Ac) (b : Nat) (R : Int × St) (w : World) (h : MdAt base w q m fa fc) (ok : StOk m) (hn : m.fs.length ≤ 1000) (hd : c.data.size ≤ 1000000000) (hk : I64 c.kind) (ho : m.off = false) (ha : ¬ (m.armed = true ∧ m.left = 0)) (hc : m.calls ≤ 4611686018427387904 ∧ m.written ≤ 4611686018427387904) (HR : Hid (R = actS b m c.kind c.name.data.toList c.to_.data.toList c.data)) (hb : badN c.name.data.toList = false) (h2 : c.kind = 2) (hu : badN c.to_.data.toList = false) (hne : c.name.data.toList ≠ c.to_.data.toList) (f : Fi) (hf : findF m.fs c.name.data.toList = some f) : Calls Try.prog 24 #[.pointer (some ⟨q, 0, none⟩), .agg (acC c).toArray] w fun x w' => x = .returned (.int .i64 R.1) ∧ MdDone base q fa w w' R.2 := by
  have HE : Hid (R = (0, { dropS (bs m) c.to_.data.toList with fs := insF ⟨c.to_.data.toList, f.data, f.safe, f.blk⟩ (delF c.name.data.toList (dropS (bs m) c.to_.data.toList).fs), mn := m.mn + 1 })) := by
    show R = _
    rw [HR.out, h2]; exact actS_name ho ha hb hu hne hf
  have HF : Hid (findF (bs m).fs c.name.data.toList = some f) := hf
  have H2 := Lib.hid h2
  have HNE := Lib.hid hne
  have hnn : (c.name.toList == c.to_.toList) = false := by rw [ByteArray.toList_eq, ByteArray.toList_eq]; simpa using hne
  clear h2 hk hf hne
  have HS := Lib.hid (do_start h c)
  have HN := Lib.hid hn
  have HOK := Lib.hid ok
  have HCC := Lib.hid hc
  have hcw : IntKind.i64.wrap (m.calls + 1) = m.calls + 1 := IntWalk.i64_in _ (by have := ok.wr; omega)
  have hlw : IntKind.i64.wrap (m.left - 1) = m.left - 1 := IntWalk.i64_in _ (by have := ok.lf; omega)
  clear h ok hn hc HR
  show Calls Try.prog 24 #[.pointer (some ⟨q, 0, none⟩), .agg #[.int .i64 c.kind, .string c.name, .string c.to_, .string c.data, .int .i64 c.n, .int .u32 c.bits, .slice c.ka c.kl c.kc]] w _
  go_enter Try.func24, Try.ntmps24
  go_upto_region 1 with (fail)
  have HS1 : Hid (DoSt base q w.heap.size c fa w (w.alloc (.cells #[.int .i64 c.kind, .string c.name, .string c.to_, .string c.data, .int .i64 c.n, .int .u32 c.bits, .slice c.ka c.kl c.kc] 54)) m fa fc) := HS.out
  clear HS
  generalize w.alloc (.cells #[.int .i64 c.kind, .string c.name, .string c.to_, .string c.data, .int .i64 c.n, .int .u32 c.bits, .slice c.ka c.kl c.kc] 54) = w1 at *
  obtain ⟨c0, c1, c2, c3, c4, c5, c6⟩ := md7 HS1.out.go.at_.ptr
  obtain ⟨f0, f1, f2, f3, f4, f5, f6⟩ := mdF HS1.out.go.at_.ptr
  have HS2 := Lib.hid (HS1.out.turn 6 (.int .i64 (m.calls + 1)) { m with calls := m.calls + 1 } rfl (fun v => rfl))
  rw [ho] at c2
  clear ho HS1
  go_upto_region 4 with (fail)
  generalize w1.setCell ⟨q, 6, none⟩ (.int .i64 (m.calls + 1)) = w2 at *
  clear c0 c1 c2 c3 c4 c5 c6 f0 f1 f2 f3 f4 f5 f6
  have c3 : w2.cell? ⟨q, 3, none⟩ = some (.bool m.armed) := (md7 HS2.out.go.at_.ptr).2.2.2.1
  have c4 : w2.cell? ⟨q, 4, none⟩ = some (.int .i64 m.left) := (md7 HS2.out.go.at_.ptr).2.2.2.2.1
  have f4 : w2.frozen? ⟨q, 4, none⟩ = false := HS2.out.go.at_.ptr.frozen 4
  cases harm : m.armed with
  | true =>
    have hl : ¬ m.left = 0 := fun e => ha ⟨harm, e⟩
    have HS3 : Hid (DoSt base q w.heap.size c fa w (w2.setCell ⟨q, 4, none⟩ (.int .i64 (m.left - 1))) (bs m) fa fc) := HS2.out.turn 4 _ (bs m) rfl (fun v => by unfold bs mdC; rw [harm]; rfl)
    rw [harm] at c3
    clear ha
    go_upto_region 9 with (fail)
    generalize w2.setCell ⟨q, 4, none⟩ (.int .i64 (m.left - 1)) = w3 at *
    clear hcw hlw c3 c4 f4 HS2 hl
    have HOK1 := Lib.hid (bs_ok HOK.out)
    have HN1 : Hid ((bs m).fs.length ≤ 1000) := HN.out
    clear HOK HN
    generalize bs m = m1 at *
    obtain ⟨q0, q1, q2, q3, q4, q5, q6⟩ := blk7 HS3.out.box
    rw [H2.out] at q0
    go_wp2_with fail
    go_at_call 18
    (with_reducible refine (right_any _ _).mono ?_)
    rintro x w4 ⟨rfl, hw⟩
    rw [hw]
    clear hw w4
    rw [hb]
    go_wp2_with fail
    go_at_call 18
    (with_reducible refine (right_any _ _).mono ?_)
    rintro x w4 ⟨rfl, hw⟩
    rw [hw]
    clear hw w4
    rw [hu]
    go_wp2_with fail
    go_at_call 25
    (with_reducible refine (find_any base q m1 fa fc c.name _ HS3.out.go.at_ HN1.out).mono ?_)
    rintro x w4 ⟨⟨i, rfl, hi⟩, hw⟩
    rw [hw]
    clear hw w4
    rcases hi with ⟨k, f', rfl, hk1, hk2⟩ | ⟨rfl, hk2⟩
    rotate_left
    · rw [HF.out] at hk2; cases hk2
    obtain rfl : f' = f := by rw [HF.out] at hk2; injection hk2 with hk2; exact hk2.symm
    have hkl : k < m1.fs.length := (List.getElem?_eq_some_iff.1 hk1).1
    have HFN := Lib.hid (findF_mem HF.out).2
    have c1 : w3.cell? ⟨q, 1, none⟩ = some (.slice fa m1.fs.length fc) := (md7 HS3.out.go.at_.ptr).2.1
    obtain ⟨g, f1, rfl, hf1, u0, u1, u2, hfz⟩ := HS3.out.go.at_.at k hkl
    obtain rfl : f1 = f' := by rw [hk1] at hf1; injection hf1 with hf1; exact hf1.symm
    have i0 : (0 : Int) ≤ (k : Int) := by omega
    have i1 : (k : Int) ≤ 1000 := by have := HN1.out; omega
    have hlt' : (k : Int) < (m1.fs.length : Int) := by omega
    have HK1 := Lib.hid hk1
    clear hf1 hk1 hk2
    have hal := (Below.refl w3.heap.size w3).alloc (Nat.le_refl _) (.cells #[.string ⟨f1.name.toArray⟩, .string f1.data, .int .i64 (f1.safe : Nat)] 58)
    have BF4 := Lib.hid (Mem.Blk.new w3 58 #[.string ⟨f1.name.toArray⟩, .string f1.data, .int .i64 (f1.safe : Nat)])
    have HZF4 : Hid (w3.heap.size ∉ mks q (some ⟨g, 0, none⟩)) := fun hm => by have := (HS3.out.go.at_.own _ hm).2; omega
    have HS4 := Lib.hid (HS3.out.below hal)
    have HZN : Hid (w.heap.size ≠ w3.heap.size) := by have := HS3.out.box.lt; show _ ≠ _; omega
    have HZW : Hid (w.heap.size ≤ w3.heap.size) := by have := HS3.out.box.lt; show _ ≤ _; omega
    have e1 : delF c.name.data.toList m1.fs = m1.fs.eraseIdx k := by rw [← HFN.out]; exact delF_erase HOK1.out.2.2.2.2.1 HK1.out
    have HP := Lib.hid (mdrop_any base q m1 _ fc k _ HS4.out.go.at_ HN1.out hkl)
    rw [← e1] at HP
    have HL1 : Hid ((delF c.name.data.toList m1.fs).length ≤ 1000) := by have := HN1.out; show _ ≤ _; rw [e1]; have := List.length_eraseIdx_le m1.fs k; omega
    have HU1 : Hid (UpF (delF c.name.data.toList m1.fs)) := delF_up HOK1.out.2.2.2.2.1
    have HF1 : Hid (findF (delF c.name.data.toList m1.fs) c.to_.data.toList = findF m1.fs c.to_.data.toList) := by
      show _ = _
      rw [findF_del HOK1.out.2.2.2.2.1, if_neg HNE.out]
    clear hal e1
    go_wp2_with fail
    generalize w3.alloc (.cells #[.string ⟨f1.name.toArray⟩, .string f1.data, .int .i64 (f1.safe : Nat)] 58) = w4 at *
    generalize w3.heap.size = zf at *
    clear HS3 c1 u0 u1 u2 hfz q0 q1 q2 q3 q4 q5 q6
    go_at_call 42
    (with_reducible refine HP.out.mono ?_)
    rintro x w6 ⟨rfl, hdn⟩
    obtain ⟨fa2, fc2, hs6, bf6, hz6⟩ := HS4.out.on2 BF4.out HZF4.out hdn
    have HS6 := Lib.hid hs6
    have BF6 := Lib.hid bf6
    have HZ6 := Lib.hid hz6
    clear hdn hs6 bf6 hz6 HP HS4 BF4 HZF4
    obtain ⟨q0, q1, q2, q3, q4, q5, q6⟩ := blk7 HS6.out.box
    have HD := Lib.hid (dropS_same m1 c.to_.data.toList)
    have HDF := Lib.hid (dropS_fs (s := m1) c.to_.data.toList)
    go_wp2_with fail
    go_at_call 25
    (with_reducible refine (find_any base q _ fa2 fc2 c.to_ w6 HS6.out.go.at_ HL1.out).mono ?_)
    rintro x w7 ⟨⟨i, rfl, hi⟩, hw⟩
    rw [hw]
    clear hw w7
    rcases hi with ⟨k2, f2, rfl, hk1, hk2⟩ | ⟨rfl, hk2⟩
    · have hk1' : (delF c.name.data.toList m1.fs)[k2]? = some f2 := hk1
      have hk2' : findF (delF c.name.data.toList m1.fs) c.to_.data.toList = some f2 := hk2
      have j0 : (0 : Int) ≤ (k2 : Int) := by omega
      have HP := Lib.hid (mdrop_any base q _ _ fc2 k2 w6 HS6.out.go.at_ HL1.out (List.getElem?_eq_some_iff.1 hk1').1)
      have e2 : delF c.to_.data.toList (delF c.name.data.toList m1.fs) = (delF c.name.data.toList m1.fs).eraseIdx k2 := by rw [← (findF_mem hk2').2]; exact delF_erase HU1.out hk1'
      have HEF : Hid (delF c.name.data.toList (dropS m1 c.to_.data.toList).fs = delF c.to_.data.toList (delF c.name.data.toList m1.fs)) := by
        show _ = _
        rw [HDF.out, ← HF1.out, hk2', delF_comm]
      have HL2 : Hid ((delF c.to_.data.toList (delF c.name.data.toList m1.fs)).length ≤ 1000) := by have := HL1.out; show _ ≤ _; rw [e2]; have := List.length_eraseIdx_le (delF c.name.data.toList m1.fs) k2; omega
      have HP2 : Hid (Calls Try.prog 42 #[.pointer (some ⟨q, 0, none⟩), .int .i64 (k2 : Nat)] w6 fun x w' => x = .returned (.tuple #[]) ∧ MdDone base q fa2 w6 w' { m1 with fs := delF c.to_.data.toList (delF c.name.data.toList m1.fs) }) := by rw [e2]; exact HP.out
      clear hk1 hk2 hk1' hk2' e2 HP
      go_wp2_with fail
      go_at_call 42
      (with_reducible refine HP2.out.mono ?_)
      rintro x w8 ⟨rfl, hdn⟩
      obtain ⟨fa3, fc3, hs8, bf8, hz8⟩ := HS6.out.on2 BF6.out HZ6.out hdn
      have HS8 := Lib.hid hs8
      have BF8 := Lib.hid bf8
      have HZ8 := Lib.hid hz8
      clear hdn hs8 bf8 hz8 HP2 HS6 BF6 HZ6 q0 q1 q2 q3 q4 q5 q6
      generalize hlx : delF c.name.data.toList (dropS m1 c.to_.data.toList).fs = lx at *
      rw [← HEF.out] at HS8 HL2
      clear HEF hlx
      obtain ⟨q0, q1, q2, q3, q4, q5, q6⟩ := blk7 HS8.out.box
      obtain ⟨b0, b1, b2⟩ := blkF BF8.out
      have y0 := BF8.out.frozen 0
      have HS9 := Lib.hid (HS8.out.side (Fr.setCell (X := [zf]) (p := ⟨zf, 0, none⟩) w8 (by simp) (.string c.to_)) HZ8.out HZN.out HZW.out)
      have BF9 := Lib.hid (BF8.out.set_ 0 (.string c.to_))
      go_upto_region 39 with (fail)
      clear q0 q1 q2 q3 q4 q5 q6 b0 b1 b2 y0 HS8 BF8
      generalize w8.setCell ⟨zf, 0, none⟩ (.string c.to_) = w9 at *
      have BF9' : Hid (Mem.Blk w9 zf 58 #[.string c.to_, .string f1.data, .int .i64 (f1.safe : Nat)]) := BF9.out
      obtain ⟨b0, b1, b2⟩ := blkF BF9'.out
      have HP : Hid (Calls Try.prog 41 #[.pointer (some ⟨q, 0, none⟩), .agg #[.string c.to_, .string f1.data, .int .i64 (f1.safe : Nat)]] w9 fun x w' => x = .returned (.tuple #[]) ∧ MdDone base q fa3 w9 w' { m1 with fs := insF ⟨c.to_.data.toList, f1.data, f1.safe, f1.blk⟩ lx }) := by
        have h := mput_any base q _ fa3 fc3 ⟨c.to_.data.toList, f1.data, f1.safe, f1.blk⟩ w9 HS9.out.go.at_ HL2.out
        dsimp only at h
        rw [Array.toArray_toList] at h
        exact h
      go_wp2_with fail
      go_at_call 41
      (with_reducible refine HP.out.mono ?_)
      rintro x w10 ⟨rfl, hdn⟩
      obtain ⟨fa4, fc4, hs10⟩ := HS9.out.on hdn
      have HSA := Lib.hid hs10
      clear hdn hs10 HP HS9 BF9 BF9' b0 b1 b2
      go_wp2_with fail
      go_ret
      rw [HE.out]
      refine ⟨rfl, MdDone.like HSA.out.go.done ?_ ?_⟩
      · rfl
      · exact ⟨HD.out.2.2.1, HD.out.2.2.2.2.2.2.1, HD.out.2.2.2.2.2.2.2, HD.out.2.2.2.2.2.1, HD.out.2.2.2.2.1, HD.out.2.2.2.1⟩
    · have hk2' : findF (delF c.name.data.toList m1.fs) c.to_.data.toList = none := hk2
      have HEF : Hid (delF c.name.data.toList (dropS m1 c.to_.data.toList).fs = delF c.name.data.toList m1.fs) := by
        show _ = _
        rw [HDF.out, ← HF1.out, hk2']
      clear hk2 hk2' q0 q1 q2 q3 q4 q5 q6
      have HS8 := HS6
      have BF8 := BF6
      have HZ8 := HZ6
      have HL2 := HL1
      clear HS6 BF6 HZ6 HL1
      generalize w6 = w8 at *
      generalize fa2 = fa3 at *
      generalize fc2 = fc3 at *
      generalize hlx : delF c.name.data.toList (dropS m1 c.to_.data.toList).fs = lx at *
      rw [← HEF.out] at HS8 HL2
      clear HEF hlx
      obtain ⟨q0, q1, q2, q3, q4, q5, q6⟩ := blk7 HS8.out.box
      obtain ⟨b0, b1, b2⟩ := blkF BF8.out
      have y0 := BF8.out.frozen 0
      have HS9 := Lib.hid (HS8.out.side (Fr.setCell (X := [zf]) (p := ⟨zf, 0, none⟩) w8 (by simp) (.string c.to_)) HZ8.out HZN.out HZW.out)
      have BF9 := Lib.hid (BF8.out.set_ 0 (.string c.to_))
      go_upto_region 39 with (fail)
      clear q0 q1 q2 q3 q4 q5 q6 b0 b1 b2 y0 HS8 BF8
      generalize w8.setCell ⟨zf, 0, none⟩ (.string c.to_) = w9 at *
      have BF9' : Hid (Mem.Blk w9 zf 58 #[.string c.to_, .string f1.data, .int .i64 (f1.safe : Nat)]) := BF9.out
      obtain ⟨b0, b1, b2⟩ := blkF BF9'.out
      have HP : Hid (Calls Try.prog 41 #[.pointer (some ⟨q, 0, none⟩), .agg #[.string c.to_, .string f1.data, .int .i64 (f1.safe : Nat)]] w9 fun x w' => x = .returned (.tuple #[]) ∧ MdDone base q fa3 w9 w' { m1 with fs := insF ⟨c.to_.data.toList, f1.data, f1.safe, f1.blk⟩ lx }) := by
        have h := mput_any base q _ fa3 fc3 ⟨c.to_.data.toList, f1.data, f1.safe, f1.blk⟩ w9 HS9.out.go.at_ HL2.out
        dsimp only at h
        rw [Array.toArray_toList] at h
        exact h
      go_wp2_with fail
      go_at_call 41
      (with_reducible refine HP.out.mono ?_)
      rintro x w10 ⟨rfl, hdn⟩
      obtain ⟨fa4, fc4, hs10⟩ := HS9.out.on hdn
      have HSA := Lib.hid hs10
      clear hdn hs10 HP HS9 BF9 BF9' b0 b1 b2
      go_wp2_with fail
      go_ret
      rw [HE.out]
      refine ⟨rfl, MdDone.like HSA.out.go.done ?_ ?_⟩
      · rfl
      · exact ⟨HD.out.2.2.1, HD.out.2.2.2.2.2.2.1, HD.out.2.2.2.2.2.2.2, HD.out.2.2.2.2.2.1, HD.out.2.2.2.2.1, HD.out.2.2.2.1⟩
  | false =>
    obtain ⟨w3, hw3⟩ : ∃ W, W = w2 := ⟨_, rfl⟩
    have HS3 : Hid (DoSt base q w.heap.size c fa w w3 (bs m) fa fc) := by
      rw [hw3]
      refine HS2.out.like rfl ⟨rfl, rfl, rfl, ?_, rfl, rfl⟩
      unfold bs; rw [harm]; rfl
    rw [harm] at c3
    clear ha
    go_upto_region 9 with (fail)
    rw [← hw3]
    clear hcw hlw c3 c4 f4 HS2 hw3
    have HOK1 := Lib.hid (bs_ok HOK.out)
    have HN1 : Hid ((bs m).fs.length ≤ 1000) := HN.out
    clear HOK HN
    generalize bs m = m1 at *
    obtain ⟨q0, q1, q2, q3, q4, q5, q6⟩ := blk7 HS3.out.box
    rw [H2.out] at q0
    go_wp2_with fail
    go_at_call 18
    (with_reducible refine (right_any _ _).mono ?_)
    rintro x w4 ⟨rfl, hw⟩
    rw [hw]
    clear hw w4
    rw [hb]
    go_wp2_with fail
    go_at_call 18
    (with_reducible refine (right_any _ _).mono ?_)
    rintro x w4 ⟨rfl, hw⟩
    rw [hw]
    clear hw w4
    rw [hu]
    go_wp2_with fail
    go_at_call 25
    (with_reducible refine (find_any base q m1 fa fc c.name _ HS3.out.go.at_ HN1.out).mono ?_)
    rintro x w4 ⟨⟨i, rfl, hi⟩, hw⟩
    rw [hw]
    clear hw w4
    rcases hi with ⟨k, f', rfl, hk1, hk2⟩ | ⟨rfl, hk2⟩
    rotate_left
    · rw [HF.out] at hk2; cases hk2
    obtain rfl : f' = f := by rw [HF.out] at hk2; injection hk2 with hk2; exact hk2.symm
    have hkl : k < m1.fs.length := (List.getElem?_eq_some_iff.1 hk1).1
    have HFN := Lib.hid (findF_mem HF.out).2
    have c1 : w3.cell? ⟨q, 1, none⟩ = some (.slice fa m1.fs.length fc) := (md7 HS3.out.go.at_.ptr).2.1
    obtain ⟨g, f1, rfl, hf1, u0, u1, u2, hfz⟩ := HS3.out.go.at_.at k hkl
    obtain rfl : f1 = f' := by rw [hk1] at hf1; injection hf1 with hf1; exact hf1.symm
    have i0 : (0 : Int) ≤ (k : Int) := by omega
    have i1 : (k : Int) ≤ 1000 := by have := HN1.out; omega
    have hlt' : (k : Int) < (m1.fs.length : Int) := by omega
    have HK1 := Lib.hid hk1
    clear hf1 hk1 hk2
    have hal := (Below.refl w3.heap.size w3).alloc (Nat.le_refl _) (.cells #[.string ⟨f1.name.toArray⟩, .string f1.data, .int .i64 (f1.safe : Nat)] 58)
    have BF4 := Lib.hid (Mem.Blk.new w3 58 #[.string ⟨f1.name.toArray⟩, .string f1.data, .int .i64 (f1.safe : Nat)])
    have HZF4 : Hid (w3.heap.size ∉ mks q (some ⟨g, 0, none⟩)) := fun hm => by have := (HS3.out.go.at_.own _ hm).2; omega
    have HS4 := Lib.hid (HS3.out.below hal)
    have HZN : Hid (w.heap.size ≠ w3.heap.size) := by have := HS3.out.box.lt; show _ ≠ _; omega
    have HZW : Hid (w.heap.size ≤ w3.heap.size) := by have := HS3.out.box.lt; show _ ≤ _; omega
    have e1 : delF c.name.data.toList m1.fs = m1.fs.eraseIdx k := by rw [← HFN.out]; exact delF_erase HOK1.out.2.2.2.2.1 HK1.out
    have HP := Lib.hid (mdrop_any base q m1 _ fc k _ HS4.out.go.at_ HN1.out hkl)
    rw [← e1] at HP
    have HL1 : Hid ((delF c.name.data.toList m1.fs).length ≤ 1000) := by have := HN1.out; show _ ≤ _; rw [e1]; have := List.length_eraseIdx_le m1.fs k; omega
    have HU1 : Hid (UpF (delF c.name.data.toList m1.fs)) := delF_up HOK1.out.2.2.2.2.1
    have HF1 : Hid (findF (delF c.name.data.toList m1.fs) c.to_.data.toList = findF m1.fs c.to_.data.toList) := by
      show _ = _
      rw [findF_del HOK1.out.2.2.2.2.1, if_neg HNE.out]
    clear hal e1
    go_wp2_with fail
    generalize w3.alloc (.cells #[.string ⟨f1.name.toArray⟩, .string f1.data, .int .i64 (f1.safe : Nat)] 58) = w4 at *
    generalize w3.heap.size = zf at *
    clear HS3 c1 u0 u1 u2 hfz q0 q1 q2 q3 q4 q5 q6
    go_at_call 42
    (with_reducible refine HP.out.mono ?_)
    rintro x w6 ⟨rfl, hdn⟩
    obtain ⟨fa2, fc2, hs6, bf6, hz6⟩ := HS4.out.on2 BF4.out HZF4.out hdn
    have HS6 := Lib.hid hs6
    have BF6 := Lib.hid bf6
    have HZ6 := Lib.hid hz6
    clear hdn hs6 bf6 hz6 HP HS4 BF4 HZF4
    obtain ⟨q0, q1, q2, q3, q4, q5, q6⟩ := blk7 HS6.out.box
    have HD := Lib.hid (dropS_same m1 c.to_.data.toList)
    have HDF := Lib.hid (dropS_fs (s := m1) c.to_.data.toList)
    go_wp2_with fail
    go_at_call 25
    (with_reducible refine (find_any base q _ fa2 fc2 c.to_ w6 HS6.out.go.at_ HL1.out).mono ?_)
    rintro x w7 ⟨⟨i, rfl, hi⟩, hw⟩
    rw [hw]
    clear hw w7
    rcases hi with ⟨k2, f2, rfl, hk1, hk2⟩ | ⟨rfl, hk2⟩
    · have hk1' : (delF c.name.data.toList m1.fs)[k2]? = some f2 := hk1
      have hk2' : findF (delF c.name.data.toList m1.fs) c.to_.data.toList = some f2 := hk2
      have j0 : (0 : Int) ≤ (k2 : Int) := by omega
      have HP := Lib.hid (mdrop_any base q _ _ fc2 k2 w6 HS6.out.go.at_ HL1.out (List.getElem?_eq_some_iff.1 hk1').1)
      have e2 : delF c.to_.data.toList (delF c.name.data.toList m1.fs) = (delF c.name.data.toList m1.fs).eraseIdx k2 := by rw [← (findF_mem hk2').2]; exact delF_erase HU1.out hk1'
      have HEF : Hid (delF c.name.data.toList (dropS m1 c.to_.data.toList).fs = delF c.to_.data.toList (delF c.name.data.toList m1.fs)) := by
        show _ = _
        rw [HDF.out, ← HF1.out, hk2', delF_comm]
      have HL2 : Hid ((delF c.to_.data.toList (delF c.name.data.toList m1.fs)).length ≤ 1000) := by have := HL1.out; show _ ≤ _; rw [e2]; have := List.length_eraseIdx_le (delF c.name.data.toList m1.fs) k2; omega
      have HP2 : Hid (Calls Try.prog 42 #[.pointer (some ⟨q, 0, none⟩), .int .i64 (k2 : Nat)] w6 fun x w' => x = .returned (.tuple #[]) ∧ MdDone base q fa2 w6 w' { m1 with fs := delF c.to_.data.toList (delF c.name.data.toList m1.fs) }) := by rw [e2]; exact HP.out
      clear hk1 hk2 hk1' hk2' e2 HP
      go_wp2_with fail
      go_at_call 42
      (with_reducible refine HP2.out.mono ?_)
      rintro x w8 ⟨rfl, hdn⟩
      obtain ⟨fa3, fc3, hs8, bf8, hz8⟩ := HS6.out.on2 BF6.out HZ6.out hdn
      have HS8 := Lib.hid hs8
      have BF8 := Lib.hid bf8
      have HZ8 := Lib.hid hz8
      clear hdn hs8 bf8 hz8 HP2 HS6 BF6 HZ6 q0 q1 q2 q3 q4 q5 q6
      generalize hlx : delF c.name.data.toList (dropS m1 c.to_.data.toList).fs = lx at *
      rw [← HEF.out] at HS8 HL2
      clear HEF hlx
      obtain ⟨q0, q1, q2, q3, q4, q5, q6⟩ := blk7 HS8.out.box
      obtain ⟨b0, b1, b2⟩ := blkF BF8.out
      have y0 := BF8.out.frozen 0
      have HS9 := Lib.hid (HS8.out.side (Fr.setCell (X := [zf]) (p := ⟨zf, 0, none⟩) w8 (by simp) (.string c.to_)) HZ8.out HZN.out HZW.out)
      have BF9 := Lib.hid (BF8.out.set_ 0 (.string c.to_))
      go_upto_region 39 with (fail)
      clear q0 q1 q2 q3 q4 q5 q6 b0 b1 b2 y0 HS8 BF8
      generalize w8.setCell ⟨zf, 0, none⟩ (.string c.to_) = w9 at *
      have BF9' : Hid (Mem.Blk w9 zf 58 #[.string c.to_, .string f1.data, .int .i64 (f1.safe : Nat)]) := BF9.out
      obtain ⟨b0, b1, b2⟩ := blkF BF9'.out
      have HP : Hid (Calls Try.prog 41 #[.pointer (some ⟨q, 0, none⟩), .agg #[.string c.to_, .string f1.data, .int .i64 (f1.safe : Nat)]] w9 fun x w' => x = .returned (.tuple #[]) ∧ MdDone base q fa3 w9 w' { m1 with fs := insF ⟨c.to_.data.toList, f1.data, f1.safe, f1.blk⟩ lx }) := by
        have h := mput_any base q _ fa3 fc3 ⟨c.to_.data.toList, f1.data, f1.safe, f1.blk⟩ w9 HS9.out.go.at_ HL2.out
        dsimp only at h
        rw [Array.toArray_toList] at h
        exact h
      go_wp2_with fail
      go_at_call 41
      (with_reducible refine HP.out.mono ?_)
      rintro x w10 ⟨rfl, hdn⟩
      obtain ⟨fa4, fc4, hs10⟩ := HS9.out.on hdn
      have HSA := Lib.hid hs10
      clear hdn hs10 HP HS9 BF9 BF9' b0 b1 b2
      go_wp2_with fail
      go_ret
      rw [HE.out]
      refine ⟨rfl, MdDone.like HSA.out.go.done ?_ ?_⟩
      · rfl
      · exact ⟨HD.out.2.2.1, HD.out.2.2.2.2.2.2.1, HD.out.2.2.2.2.2.2.2, HD.out.2.2.2.2.2.1, HD.out.2.2.2.2.1, HD.out.2.2.2.1⟩
    · have hk2' : findF (delF c.name.data.toList m1.fs) c.to_.data.toList = none := hk2
      have HEF : Hid (delF c.name.data.toList (dropS m1 c.to_.data.toList).fs = delF c.name.data.toList m1.fs) := by
        show _ = _
        rw [HDF.out, ← HF1.out, hk2']
      clear hk2 hk2' q0 q1 q2 q3 q4 q5 q6
      have HS8 := HS6
      have BF8 := BF6
      have HZ8 := HZ6
      have HL2 := HL1
      clear HS6 BF6 HZ6 HL1
      generalize w6 = w8 at *
      generalize fa2 = fa3 at *
      generalize fc2 = fc3 at *
      generalize hlx : delF c.name.data.toList (dropS m1 c.to_.data.toList).fs = lx at *
      rw [← HEF.out] at HS8 HL2
      clear HEF hlx
      obtain ⟨q0, q1, q2, q3, q4, q5, q6⟩ := blk7 HS8.out.box
      obtain ⟨b0, b1, b2⟩ := blkF BF8.out
      have y0 := BF8.out.frozen 0
      have HS9 := Lib.hid (HS8.out.side (Fr.setCell (X := [zf]) (p := ⟨zf, 0, none⟩) w8 (by simp) (.string c.to_)) HZ8.out HZN.out HZW.out)
      have BF9 := Lib.hid (BF8.out.set_ 0 (.string c.to_))
      go_upto_region 39 with (fail)
      clear q0 q1 q2 q3 q4 q5 q6 b0 b1 b2 y0 HS8 BF8
      generalize w8.setCell ⟨zf, 0, none⟩ (.string c.to_) = w9 at *
      have BF9' : Hid (Mem.Blk w9 zf 58 #[.string c.to_, .string f1.data, .int .i64 (f1.safe : Nat)]) := BF9.out
      obtain ⟨b0, b1, b2⟩ := blkF BF9'.out
      have HP : Hid (Calls Try.prog 41 #[.pointer (some ⟨q, 0, none⟩), .agg #[.string c.to_, .string f1.data, .int .i64 (f1.safe : Nat)]] w9 fun x w' => x = .returned (.tuple #[]) ∧ MdDone base q fa3 w9 w' { m1 with fs := insF ⟨c.to_.data.toList, f1.data, f1.safe, f1.blk⟩ lx }) := by
        have h := mput_any base q _ fa3 fc3 ⟨c.to_.data.toList, f1.data, f1.safe, f1.blk⟩ w9 HS9.out.go.at_ HL2.out
        dsimp only at h
        rw [Array.toArray_toList] at h
        exact h
      go_wp2_with fail
      go_at_call 41
      (with_reducible refine HP.out.mono ?_)
      rintro x w10 ⟨rfl, hdn⟩
      obtain ⟨fa4, fc4, hs10⟩ := HS9.out.on hdn
      have HSA := Lib.hid hs10
      clear hdn hs10 HP HS9 BF9 BF9' b0 b1 b2
      go_wp2_with fail
      go_ret
      rw [HE.out]
      refine ⟨rfl, MdDone.like HSA.out.go.done ?_ ?_⟩
      · rfl
      · exact ⟨HD.out.2.2.1, HD.out.2.2.2.2.2.2.1, HD.out.2.2.2.2.2.2.2, HD.out.2.2.2.2.2.1, HD.out.2.2.2.2.1, HD.out.2.2.2.1⟩
end Go.Proofs.Ytefpjdgfcgjbaaa

/- The document's disk: the contract of does, whole. -/
namespace Go.Proofs.Ytefpjdgfcgjbaaa
set_option linter.unusedVariables false
set_option linter.unusedSimpArgs false
open Go.RowKit
theorem does_any (base q : Nat) (m : Md) (fa : Option Addr) (fc : Nat) (c : Ac) (b : Nat) (w : World) (h : MdAt base w q m fa fc) (ok : StOk m) (hn : m.fs.length ≤ 1000) (hd : c.data.size ≤ 1000000000) (hk : I64 c.kind) (hc : m.calls ≤ 4611686018427387904 ∧ m.written ≤ 4611686018427387904) : Calls Try.prog 24 #[.pointer (some ⟨q, 0, none⟩), .agg (acC c).toArray] w fun x w' => x = .returned (.int .i64 (actS b m c.kind c.name.data.toList c.to_.data.toList c.data).1) ∧ MdDone base q fa w w' (actS b m c.kind c.name.data.toList c.to_.data.toList c.data).2 := by
  cases ho : m.off with
  | true =>
    rw [actS_off ho]
    exact does_off base q m fa fc c w h ho
  | false =>
    by_cases ha : m.armed = true ∧ m.left = 0
    · rw [actS_end ho ha.1 ha.2]
      exact does_end base q m fa fc c w h ho ha.1 ha.2 ⟨ok.wr.2, hc.1⟩
    · have HR : Hid (actS b m c.kind c.name.data.toList c.to_.data.toList c.data = actS b m c.kind c.name.data.toList c.to_.data.toList c.data) := rfl
      cases hb : badN c.name.data.toList with
      | true => exact does_bad base q m fa fc c b _ w h ok hn hd hk ho ha hc HR hb
      | false =>
        by_cases hu : c.kind = 2 ∧ badN c.to_.data.toList = true
        · exact does_bad2 base q m fa fc c b _ w h ok hn hd hk ho ha hc HR hb hu.1 hu.2
        · have hu' : c.kind = 2 → badN c.to_.data.toList = false := fun h2 => by
            cases hx : badN c.to_.data.toList with
            | true => exact absurd ⟨h2, hx⟩ hu
            | false => rfl
          cases hf : findF m.fs c.name.data.toList with
          | none =>
            by_cases h0 : c.kind = 0
            · exact does_new base q m fa fc c b _ w h ok hn hd hk ho ha hc HR hb h0 hf
            · exact does_none base q m fa fc c b _ w h ok hn hd hk ho ha hc HR hb h0 hu' hf
          | some f =>
            by_cases h0 : c.kind = 0
            · exact does_more base q m fa fc c b _ w h ok hn hd hk ho ha hc HR hb h0 f hf
            · by_cases h1 : c.kind = 1
              · exact does_sync base q m fa fc c b _ w h ok hn hd hk ho ha hc HR hb h1 f hf
              · by_cases h2 : c.kind = 2
                · by_cases he : c.name.data.toList = c.to_.data.toList
                  · have he' : c.to_ = c.name := by
                      rcases hx : c.to_ with ⟨⟨l⟩⟩
                      rcases hy : c.name with ⟨⟨l'⟩⟩
                      rw [hx, hy] at he
                      have he : l' = l := he
                      rw [he]
                    exact does_same base q m fa fc c b _ w h ok hn hd hk ho ha hc HR hb h2 he' f hf
                  · exact does_name base q m fa fc c b _ w h ok hn hd hk ho ha hc HR hb h2 (hu' h2) he f hf
                · exact does_gone base q m fa fc c b _ w h ok hn hd hk ho ha hc HR hb h0 h1 h2 f hf
end Go.Proofs.Ytefpjdgfcgjbaaa

/- What Rot does: some of a file's safe bits are turned; plain. -/
namespace Go.Proofs.Ytefpjdgfcgjbaaa
set_option linter.unusedVariables false
set_option linter.unusedSimpArgs false
open Go.RowKit
/-- Is the k-th bit turned? -/
def hitB (safe at_ bs : Nat) (k : Nat) : Bool := decide (bs / 2 ^ k % 2 = 1) && decide (at_ + k < 8 * safe)
def bitU (j : Nat) : UInt8 := UInt8.ofNat (2 ^ j)
def rotL (l : List UInt8) (safe at_ bs : Nat) : Nat → List UInt8
  | 0 => l
  | k + 1 => if hitB safe at_ bs k then (rotL l safe at_ bs k).modify ((at_ + k) / 8) (fun b => b ^^^ bitU ((at_ + k) % 8)) else rotL l safe at_ bs k
def rotT (safe at_ bs : Nat) : Nat → Bool
  | 0 => false
  | k + 1 => hitB safe at_ bs k || rotT safe at_ bs k
theorem rotL_len (l : List UInt8) (safe at_ bs k : Nat) : (rotL l safe at_ bs k).length = l.length := by
  induction k with
  | zero => rfl
  | succ k ih =>
    unfold rotL
    split
    · rw [List.length_modify, ih]
    · exact ih
def rotF (at_ bs : Nat) (f : Fi) : Fi := ⟨f.name, ⟨(rotL f.data.data.toList f.safe at_ bs 32).toArray⟩, f.safe, f.blk⟩
def rotS (s : St) (t : Nm) (at_ : Int) (bs : Nat) : Bool × St := match findF s.fs t with
  | none => (false, s)
  | some f => if at_ < 0 then (false, s) else (rotT f.safe at_.toNat bs 32, { s with fs := updF t (rotF at_.toNat bs) s.fs })
theorem rotF_size (at_ bs : Nat) (f : Fi) : (rotF at_ bs f).data.size = f.data.size := by
  show (rotL f.data.data.toList f.safe at_ bs 32).toArray.size = _
  rw [List.size_toArray, rotL_len, Array.length_toList]; rfl
theorem StOk.rot {s : St} (ok : StOk s) (t : Nm) (at_ bs : Nat) : StOk { s with fs := updF t (rotF at_ bs) s.fs } := by
  have hh : ∀ f, (rotF at_ bs f).name = f.name ∧ (rotF at_ bs f).blk = f.blk := fun f => ⟨rfl, rfl⟩
  have hsum : sumD (updF t (rotF at_ bs) s.fs) = sumD s.fs := by
    unfold sumD updF
    rw [List.map_map]
    congr 1
    refine List.map_congr_left (fun f _ => ?_)
    show (if f.name == t then rotF at_ bs f else f).data.size = _
    split
    · exact rotF_size at_ bs f
    · rfl
  refine ⟨by rw [updF_blk hh]; exact ok.one, ?_, fun g hg => ?_, fun g hg => ?_, by show s.used = _; rw [hsum]; exact ok.use, ok.rm, ok.lf, ok.wr⟩
  · have hn : (updF t (rotF at_ bs) s.fs).map (fun f => f.name) = s.fs.map (fun f => f.name) := by
      unfold updF
      rw [List.map_map]
      refine List.map_congr_left (fun f _ => ?_)
      show (if f.name == t then rotF at_ bs f else f).name = _
      split <;> rfl
    show UpF (updF t (rotF at_ bs) s.fs)
    rw [up_names, hn, ← up_names]; exact ok.up
  · rcases mem_updF hg with ⟨f, hf, -, rfl⟩ | ⟨hg, -⟩
    · exact ok.nam f hf
    · exact ok.nam g hg
  · rcases mem_updF hg with ⟨f, hf, -, rfl⟩ | ⟨hg, -⟩
    · rw [rotF_size]; exact ok.siz f hf
    · exact ok.siz g hg
theorem rowB_skip {w : World} {g : Nat} {l : List UInt8} {safe at_ bs k : Nat} (h : RowB w g (rotL l safe at_ bs k)) (hm : hitB safe at_ bs k = false) : RowB w g (rotL l safe at_ bs (k + 1)) := by
  unfold rotL
  rw [hm]; exact h
theorem rowB_turn {w : World} {g : Nat} {l : List UInt8} {safe at_ bs k : Nat} {b0 : UInt8} (h : RowB w g (rotL l safe at_ bs k)) (hm : hitB safe at_ bs k = true) (hb : (rotL l safe at_ bs k)[(at_ + k) / 8]? = some b0) :
    RowB (w.setCell ⟨g, (at_ + k) / 8, none⟩ (.int .u8 ((b0 ^^^ bitU ((at_ + k) % 8)).toNat : Int))) g (rotL l safe at_ bs (k + 1)) := by
  intro j b hj
  unfold rotL at hj
  rw [hm, if_pos rfl, List.getElem?_modify] at hj
  by_cases e : (at_ + k) / 8 = j
  · have hc := h j b0 (by rw [← e]; exact hb)
    rw [← e, hb] at hj
    simp only [if_pos] at hj
    have hj : some (b0 ^^^ bitU ((at_ + k) % 8)) = some b := hj
    injection hj with hj
    rw [← hj, ← e]
    rw [← e] at hc
    refine ⟨World.cell?_setCell_same w _ _ hc.1, ?_⟩
    rw [World.frozen?_setCell]; exact hc.2
  · have hc := h j b (by
      cases hx : (rotL l safe at_ bs k)[j]? with
      | none => rw [hx] at hj; cases hj
      | some x =>
        rw [hx] at hj
        have hj : some (if (at_ + k) / 8 = j then x ^^^ bitU ((at_ + k) % 8) else x) = some b := hj
        rw [if_neg e] at hj; exact hj)
    refine ⟨?_, ?_⟩
    · rw [World.cell?_setCell_other (h := show (⟨g, (at_ + k) / 8, none⟩ : Addr) ≠ ⟨g, j, none⟩ from by intro h; injection h with _ h; exact e h)]; exact hc.1
    · rw [World.frozen?_setCell]; exact hc.2
theorem bitU_nat {j : Nat} (h : j < 8) : (bitU j).toNat = 2 ^ j := by
  have : j = 0 ∨ j = 1 ∨ j = 2 ∨ j = 3 ∨ j = 4 ∨ j = 5 ∨ j = 6 ∨ j = 7 := by omega
  rcases this with rfl | rfl | rfl | rfl | rfl | rfl | rfl | rfl <;> rfl
theorem xor_bit (b : UInt8) {j : Nat} (h : j < 8) : bits .xor .u8 (b.toNat : Int) ((2 ^ j : Nat) : Int) = ((b ^^^ bitU j).toNat : Int) := by
  rw [u8_xor_nat _ _ b.toNat_lt (by rw [← bitU_nat h]; exact (bitU j).toNat_lt), UInt8.toNat_xor, bitU_nat h]
theorem rotT_len {l : List UInt8} {safe at_ bs k : Nat} (hm : hitB safe at_ bs k = true) (hs : safe ≤ l.length) : (at_ + k) / 8 < (rotL l safe at_ bs k).length := by
  rw [rotL_len]
  unfold hitB at hm
  rw [Bool.and_eq_true, decide_eq_true_iff, decide_eq_true_iff] at hm
  omega
end Go.Proofs.Ytefpjdgfcgjbaaa
