/- A part of the proof: DkMt, DkMu, DkMv, one behind another. -/
import Derived.Test.YtefpjdgfcgjbaaaMPA
import Derived.Test.YtefpjdgfcgjbaaaMPB
import Derived.Test.YtefpjdgfcgjbaaaMPC
import Derived.Test.YtefpjdgfcgjbaaaMPD
import Derived.Test.YtefpjdgfcgjbaaaMPE
import Derived.Test.YtefpjdgfcgjbaaaMPF
import Derived.Test.YtefpjdgfcgjbaaaMPG
/- The document's disk: does: names that may not be, and files that are not there. -/
namespace Go.Proofs.Ytefpjdgfcgjbaaa
set_option linter.unusedVariables false
set_option linter.unusedSimpArgs false
open Go.RowKit
set_option maxRecDepth 100000 in
set_option maxHeartbeats 4000000 in
theorem does_bad2 (base q : Nat) (m : Md) (fa : Option Addr) (fc : Nat) (c : Ac) (b : Nat) (R : Int × St) (w : World) (h : MdAt base w q m fa fc) (ok : StOk m) (hn : m.fs.length ≤ 1000) (hd : c.data.size ≤ 1000000000) (hk : I64 c.kind) (ho : m.off = false) (ha : ¬ (m.armed = true ∧ m.left = 0)) (hc : m.calls ≤ 4611686018427387904 ∧ m.written ≤ 4611686018427387904) (HR : Hid (R = actS b m c.kind c.name.data.toList c.to_.data.toList c.data)) (hb : badN c.name.data.toList = false) (h2 : c.kind = 2) (hu : badN c.to_.data.toList = true) : Calls Try.prog 24 #[.pointer (some ⟨q, 0, none⟩), .agg (acC c).toArray] w fun x w' => x = .returned (.int .i64 R.1) ∧ MdDone base q fa w w' R.2 := by
  have HE : Hid (R = (1, bs m)) := by show R = _; rw [HR.out, h2]; exact actS_bad2 ho ha hu
  have H2 := Lib.hid h2
  clear h2 hk
  have HS := Lib.hid (do_start h c)
  have HN := Lib.hid hn
  have HOK := Lib.hid ok
  have HCC := Lib.hid hc
  have hcw : IntKind.i64.wrap (m.calls + 1) = m.calls + 1 := IntWalk.i64_in _ (by have := ok.wr; omega)
  have hlw : IntKind.i64.wrap (m.left - 1) = m.left - 1 := IntWalk.i64_in _ (by have := ok.lf; omega)
  clear h ok hn hc HR
  show Calls Try.prog 24 #[.pointer (some ⟨q, 0, none⟩), .agg #[.int .i64 c.kind, .string c.name, .string c.to_, .string c.data, .int .i64 c.n, .int .u32 c.bits, .slice c.ka c.kl c.kc]] w _
  go_enter Try.func24, Try.ntmps24
  go_upto_region 1 with (fail)
  have HS1 : Hid (DoSt base q w.heap.size c fa w (w.alloc (.cells #[.int .i64 c.kind, .string c.name, .string c.to_, .string c.data, .int .i64 c.n, .int .u32 c.bits, .slice c.ka c.kl c.kc] 54)) m fa fc) := HS.out
  clear HS
  generalize w.alloc (.cells #[.int .i64 c.kind, .string c.name, .string c.to_, .string c.data, .int .i64 c.n, .int .u32 c.bits, .slice c.ka c.kl c.kc] 54) = w1 at *
  obtain ⟨c0, c1, c2, c3, c4, c5, c6⟩ := md7 HS1.out.go.at_.ptr
  obtain ⟨f0, f1, f2, f3, f4, f5, f6⟩ := mdF HS1.out.go.at_.ptr
  have HS2 := Lib.hid (HS1.out.turn 6 (.int .i64 (m.calls + 1)) { m with calls := m.calls + 1 } rfl (fun v => rfl))
  rw [ho] at c2
  clear ho HS1
  go_upto_region 4 with (fail)
  generalize w1.setCell ⟨q, 6, none⟩ (.int .i64 (m.calls + 1)) = w2 at *
  clear c0 c1 c2 c3 c4 c5 c6 f0 f1 f2 f3 f4 f5 f6
  have c3 : w2.cell? ⟨q, 3, none⟩ = some (.bool m.armed) := (md7 HS2.out.go.at_.ptr).2.2.2.1
  have c4 : w2.cell? ⟨q, 4, none⟩ = some (.int .i64 m.left) := (md7 HS2.out.go.at_.ptr).2.2.2.2.1
  have f4 : w2.frozen? ⟨q, 4, none⟩ = false := HS2.out.go.at_.ptr.frozen 4
  cases harm : m.armed with
  | true =>
    have hl : ¬ m.left = 0 := fun e => ha ⟨harm, e⟩
    have HS3 : Hid (DoSt base q w.heap.size c fa w (w2.setCell ⟨q, 4, none⟩ (.int .i64 (m.left - 1))) (bs m) fa fc) := HS2.out.turn 4 _ (bs m) rfl (fun v => by unfold bs mdC; rw [harm]; rfl)
    rw [harm] at c3
    clear ha
    go_upto_region 9 with (fail)
    generalize w2.setCell ⟨q, 4, none⟩ (.int .i64 (m.left - 1)) = w3 at *
    clear hcw hlw c3 c4 f4 HS2 hl
    obtain ⟨q0, q1, q2, q3, q4, q5, q6⟩ := blk7 HS3.out.box
    rw [H2.out] at q0
    go_wp2_with fail
    go_at_call 18
    (with_reducible refine (right_any _ _).mono ?_)
    rintro x w4 ⟨rfl, hw⟩
    rw [hw]
    clear hw w4
    rw [hb]
    go_wp2_with fail
    go_at_call 18
    (with_reducible refine (right_any _ _).mono ?_)
    rintro x w4 ⟨rfl, hw⟩
    rw [hw]
    clear hw w4
    rw [hu]
    go_wp2_with fail
    go_ret
    rw [HE.out]
    exact ⟨rfl, HS3.out.go.done⟩
  | false =>
    obtain ⟨w3, hw3⟩ : ∃ W, W = w2 := ⟨_, rfl⟩
    have HS3 : Hid (DoSt base q w.heap.size c fa w w3 (bs m) fa fc) := by
      rw [hw3]
      refine HS2.out.like rfl ⟨rfl, rfl, rfl, ?_, rfl, rfl⟩
      unfold bs; rw [harm]; rfl
    rw [harm] at c3
    clear ha
    go_upto_region 9 with (fail)
    rw [← hw3]
    clear hcw hlw c3 c4 f4 HS2 hw3
    obtain ⟨q0, q1, q2, q3, q4, q5, q6⟩ := blk7 HS3.out.box
    rw [H2.out] at q0
    go_wp2_with fail
    go_at_call 18
    (with_reducible refine (right_any _ _).mono ?_)
    rintro x w4 ⟨rfl, hw⟩
    rw [hw]
    clear hw w4
    rw [hb]
    go_wp2_with fail
    go_at_call 18
    (with_reducible refine (right_any _ _).mono ?_)
    rintro x w4 ⟨rfl, hw⟩
    rw [hw]
    clear hw w4
    rw [hu]
    go_wp2_with fail
    go_ret
    rw [HE.out]
    exact ⟨rfl, HS3.out.go.done⟩
set_option maxRecDepth 100000 in
set_option maxHeartbeats 4000000 in
theorem does_none (base q : Nat) (m : Md) (fa : Option Addr) (fc : Nat) (c : Ac) (b : Nat) (R : Int × St) (w : World) (h : MdAt base w q m fa fc) (ok : StOk m) (hn : m.fs.length ≤ 1000) (hd : c.data.size ≤ 1000000000) (hk : I64 c.kind) (ho : m.off = false) (ha : ¬ (m.armed = true ∧ m.left = 0)) (hc : m.calls ≤ 4611686018427387904 ∧ m.written ≤ 4611686018427387904) (HR : Hid (R = actS b m c.kind c.name.data.toList c.to_.data.toList c.data)) (hb : badN c.name.data.toList = false) (h0 : c.kind ≠ 0) (hu : c.kind = 2 → badN c.to_.data.toList = false) (hf : findF m.fs c.name.data.toList = none) : Calls Try.prog 24 #[.pointer (some ⟨q, 0, none⟩), .agg (acC c).toArray] w fun x w' => x = .returned (.int .i64 R.1) ∧ MdDone base q fa w w' R.2 := by
  have HE : Hid (R = (7, bs m)) := by show R = _; rw [HR.out]; exact actS_none ho ha hb h0 hu hf
  have HF : Hid (findF (bs m).fs c.name.data.toList = none) := hf
  by_cases h2 : c.kind = 2
  · have hu' := hu h2
    have H2 := Lib.hid h2
    clear h2 hk h0 hu hf
    have HS := Lib.hid (do_start h c)
    have HN := Lib.hid hn
    have HOK := Lib.hid ok
    have HCC := Lib.hid hc
    have hcw : IntKind.i64.wrap (m.calls + 1) = m.calls + 1 := IntWalk.i64_in _ (by have := ok.wr; omega)
    have hlw : IntKind.i64.wrap (m.left - 1) = m.left - 1 := IntWalk.i64_in _ (by have := ok.lf; omega)
    clear h ok hn hc HR
    show Calls Try.prog 24 #[.pointer (some ⟨q, 0, none⟩), .agg #[.int .i64 c.kind, .string c.name, .string c.to_, .string c.data, .int .i64 c.n, .int .u32 c.bits, .slice c.ka c.kl c.kc]] w _
    go_enter Try.func24, Try.ntmps24
    go_upto_region 1 with (fail)
    have HS1 : Hid (DoSt base q w.heap.size c fa w (w.alloc (.cells #[.int .i64 c.kind, .string c.name, .string c.to_, .string c.data, .int .i64 c.n, .int .u32 c.bits, .slice c.ka c.kl c.kc] 54)) m fa fc) := HS.out
    clear HS
    generalize w.alloc (.cells #[.int .i64 c.kind, .string c.name, .string c.to_, .string c.data, .int .i64 c.n, .int .u32 c.bits, .slice c.ka c.kl c.kc] 54) = w1 at *
    obtain ⟨c0, c1, c2, c3, c4, c5, c6⟩ := md7 HS1.out.go.at_.ptr
    obtain ⟨f0, f1, f2, f3, f4, f5, f6⟩ := mdF HS1.out.go.at_.ptr
    have HS2 := Lib.hid (HS1.out.turn 6 (.int .i64 (m.calls + 1)) { m with calls := m.calls + 1 } rfl (fun v => rfl))
    rw [ho] at c2
    clear ho HS1
    go_upto_region 4 with (fail)
    generalize w1.setCell ⟨q, 6, none⟩ (.int .i64 (m.calls + 1)) = w2 at *
    clear c0 c1 c2 c3 c4 c5 c6 f0 f1 f2 f3 f4 f5 f6
    have c3 : w2.cell? ⟨q, 3, none⟩ = some (.bool m.armed) := (md7 HS2.out.go.at_.ptr).2.2.2.1
    have c4 : w2.cell? ⟨q, 4, none⟩ = some (.int .i64 m.left) := (md7 HS2.out.go.at_.ptr).2.2.2.2.1
    have f4 : w2.frozen? ⟨q, 4, none⟩ = false := HS2.out.go.at_.ptr.frozen 4
    cases harm : m.armed with
    | true =>
      have hl : ¬ m.left = 0 := fun e => ha ⟨harm, e⟩
      have HS3 : Hid (DoSt base q w.heap.size c fa w (w2.setCell ⟨q, 4, none⟩ (.int .i64 (m.left - 1))) (bs m) fa fc) := HS2.out.turn 4 _ (bs m) rfl (fun v => by unfold bs mdC; rw [harm]; rfl)
      rw [harm] at c3
      clear ha
      go_upto_region 9 with (fail)
      generalize w2.setCell ⟨q, 4, none⟩ (.int .i64 (m.left - 1)) = w3 at *
      clear hcw hlw c3 c4 f4 HS2 hl
      have HOK1 := Lib.hid (bs_ok HOK.out)
      have HN1 : Hid ((bs m).fs.length ≤ 1000) := HN.out
      clear HOK HN
      generalize bs m = m1 at *
      obtain ⟨q0, q1, q2, q3, q4, q5, q6⟩ := blk7 HS3.out.box
      rw [H2.out] at q0
      go_wp2_with fail
      go_at_call 18
      (with_reducible refine (right_any _ _).mono ?_)
      rintro x w4 ⟨rfl, hw⟩
      rw [hw]
      clear hw w4
      rw [hb]
      go_wp2_with fail
      go_at_call 18
      (with_reducible refine (right_any _ _).mono ?_)
      rintro x w4 ⟨rfl, hw⟩
      rw [hw]
      clear hw w4
      rw [hu']
      go_wp2_with fail
      go_at_call 25
      (with_reducible refine (find_any base q m1 fa fc c.name _ HS3.out.go.at_ HN1.out).mono ?_)
      rintro x w4 ⟨⟨i, rfl, hi⟩, hw⟩
      rw [hw]
      clear hw w4
      rcases hi with ⟨k, f, rfl, hk1, hk2⟩ | ⟨rfl, -⟩
      · rw [HF.out] at hk2; cases hk2
      · go_wp2_with fail
        go_ret
        rw [HE.out]
        exact ⟨rfl, HS3.out.go.done⟩
    | false =>
      obtain ⟨w3, hw3⟩ : ∃ W, W = w2 := ⟨_, rfl⟩
      have HS3 : Hid (DoSt base q w.heap.size c fa w w3 (bs m) fa fc) := by
        rw [hw3]
        refine HS2.out.like rfl ⟨rfl, rfl, rfl, ?_, rfl, rfl⟩
        unfold bs; rw [harm]; rfl
      rw [harm] at c3
      clear ha
      go_upto_region 9 with (fail)
      rw [← hw3]
      clear hcw hlw c3 c4 f4 HS2 hw3
      have HOK1 := Lib.hid (bs_ok HOK.out)
      have HN1 : Hid ((bs m).fs.length ≤ 1000) := HN.out
      clear HOK HN
      generalize bs m = m1 at *
      obtain ⟨q0, q1, q2, q3, q4, q5, q6⟩ := blk7 HS3.out.box
      rw [H2.out] at q0
      go_wp2_with fail
      go_at_call 18
      (with_reducible refine (right_any _ _).mono ?_)
      rintro x w4 ⟨rfl, hw⟩
      rw [hw]
      clear hw w4
      rw [hb]
      go_wp2_with fail
      go_at_call 18
      (with_reducible refine (right_any _ _).mono ?_)
      rintro x w4 ⟨rfl, hw⟩
      rw [hw]
      clear hw w4
      rw [hu']
      go_wp2_with fail
      go_at_call 25
      (with_reducible refine (find_any base q m1 fa fc c.name _ HS3.out.go.at_ HN1.out).mono ?_)
      rintro x w4 ⟨⟨i, rfl, hi⟩, hw⟩
      rw [hw]
      clear hw w4
      rcases hi with ⟨k, f, rfl, hk1, hk2⟩ | ⟨rfl, -⟩
      · rw [HF.out] at hk2; cases hk2
      · go_wp2_with fail
        go_ret
        rw [HE.out]
        exact ⟨rfl, HS3.out.go.done⟩
  · clear hk hu hf
    have HS := Lib.hid (do_start h c)
    have HN := Lib.hid hn
    have HOK := Lib.hid ok
    have HCC := Lib.hid hc
    have hcw : IntKind.i64.wrap (m.calls + 1) = m.calls + 1 := IntWalk.i64_in _ (by have := ok.wr; omega)
    have hlw : IntKind.i64.wrap (m.left - 1) = m.left - 1 := IntWalk.i64_in _ (by have := ok.lf; omega)
    clear h ok hn hc HR
    show Calls Try.prog 24 #[.pointer (some ⟨q, 0, none⟩), .agg #[.int .i64 c.kind, .string c.name, .string c.to_, .string c.data, .int .i64 c.n, .int .u32 c.bits, .slice c.ka c.kl c.kc]] w _
    go_enter Try.func24, Try.ntmps24
    go_upto_region 1 with (fail)
    have HS1 : Hid (DoSt base q w.heap.size c fa w (w.alloc (.cells #[.int .i64 c.kind, .string c.name, .string c.to_, .string c.data, .int .i64 c.n, .int .u32 c.bits, .slice c.ka c.kl c.kc] 54)) m fa fc) := HS.out
    clear HS
    generalize w.alloc (.cells #[.int .i64 c.kind, .string c.name, .string c.to_, .string c.data, .int .i64 c.n, .int .u32 c.bits, .slice c.ka c.kl c.kc] 54) = w1 at *
    obtain ⟨c0, c1, c2, c3, c4, c5, c6⟩ := md7 HS1.out.go.at_.ptr
    obtain ⟨f0, f1, f2, f3, f4, f5, f6⟩ := mdF HS1.out.go.at_.ptr
    have HS2 := Lib.hid (HS1.out.turn 6 (.int .i64 (m.calls + 1)) { m with calls := m.calls + 1 } rfl (fun v => rfl))
    rw [ho] at c2
    clear ho HS1
    go_upto_region 4 with (fail)
    generalize w1.setCell ⟨q, 6, none⟩ (.int .i64 (m.calls + 1)) = w2 at *
    clear c0 c1 c2 c3 c4 c5 c6 f0 f1 f2 f3 f4 f5 f6
    have c3 : w2.cell? ⟨q, 3, none⟩ = some (.bool m.armed) := (md7 HS2.out.go.at_.ptr).2.2.2.1
    have c4 : w2.cell? ⟨q, 4, none⟩ = some (.int .i64 m.left) := (md7 HS2.out.go.at_.ptr).2.2.2.2.1
    have f4 : w2.frozen? ⟨q, 4, none⟩ = false := HS2.out.go.at_.ptr.frozen 4
    cases harm : m.armed with
    | true =>
      have hl : ¬ m.left = 0 := fun e => ha ⟨harm, e⟩
      have HS3 : Hid (DoSt base q w.heap.size c fa w (w2.setCell ⟨q, 4, none⟩ (.int .i64 (m.left - 1))) (bs m) fa fc) := HS2.out.turn 4 _ (bs m) rfl (fun v => by unfold bs mdC; rw [harm]; rfl)
      rw [harm] at c3
      clear ha
      go_upto_region 9 with (fail)
      generalize w2.setCell ⟨q, 4, none⟩ (.int .i64 (m.left - 1)) = w3 at *
      clear hcw hlw c3 c4 f4 HS2 hl
      have HOK1 := Lib.hid (bs_ok HOK.out)
      have HN1 : Hid ((bs m).fs.length ≤ 1000) := HN.out
      clear HOK HN
      generalize bs m = m1 at *
      obtain ⟨q0, q1, q2, q3, q4, q5, q6⟩ := blk7 HS3.out.box
      go_wp2_with fail
      go_at_call 18
      (with_reducible refine (right_any _ _).mono ?_)
      rintro x w4 ⟨rfl, hw⟩
      rw [hw]
      clear hw w4
      rw [hb]
      go_wp2_with fail
      go_at_call 25
      (with_reducible refine (find_any base q m1 fa fc c.name _ HS3.out.go.at_ HN1.out).mono ?_)
      rintro x w4 ⟨⟨i, rfl, hi⟩, hw⟩
      rw [hw]
      clear hw w4
      rcases hi with ⟨k, f, rfl, hk1, hk2⟩ | ⟨rfl, -⟩
      · rw [HF.out] at hk2; cases hk2
      · go_wp2_with fail
        go_ret
        rw [HE.out]
        exact ⟨rfl, HS3.out.go.done⟩
    | false =>
      obtain ⟨w3, hw3⟩ : ∃ W, W = w2 := ⟨_, rfl⟩
      have HS3 : Hid (DoSt base q w.heap.size c fa w w3 (bs m) fa fc) := by
        rw [hw3]
        refine HS2.out.like rfl ⟨rfl, rfl, rfl, ?_, rfl, rfl⟩
        unfold bs; rw [harm]; rfl
      rw [harm] at c3
      clear ha
      go_upto_region 9 with (fail)
      rw [← hw3]
      clear hcw hlw c3 c4 f4 HS2 hw3
      have HOK1 := Lib.hid (bs_ok HOK.out)
      have HN1 : Hid ((bs m).fs.length ≤ 1000) := HN.out
      clear HOK HN
      generalize bs m = m1 at *
      obtain ⟨q0, q1, q2, q3, q4, q5, q6⟩ := blk7 HS3.out.box
      go_wp2_with fail
      go_at_call 18
      (with_reducible refine (right_any _ _).mono ?_)
      rintro x w4 ⟨rfl, hw⟩
      rw [hw]
      clear hw w4
      rw [hb]
      go_wp2_with fail
      go_at_call 25
      (with_reducible refine (find_any base q m1 fa fc c.name _ HS3.out.go.at_ HN1.out).mono ?_)
      rintro x w4 ⟨⟨i, rfl, hi⟩, hw⟩
      rw [hw]
      clear hw w4
      rcases hi with ⟨k, f, rfl, hk1, hk2⟩ | ⟨rfl, -⟩
      · rw [HF.out] at hk2; cases hk2
      · go_wp2_with fail
        go_ret
        rw [HE.out]
        exact ⟨rfl, HS3.out.go.done⟩
end Go.Proofs.Ytefpjdgfcgjbaaa

/- The document's disk: does: Append. -/
namespace Go.Proofs.Ytefpjdgfcgjbaaa
set_option linter.unusedVariables false
set_option linter.unusedSimpArgs false
open Go.RowKit
set_option maxRecDepth 100000 in
set_option maxHeartbeats 4000000 in
theorem does_new (base q : Nat) (m : Md) (fa : Option Addr) (fc : Nat) (c : Ac) (b : Nat) (R : Int × St) (w : World) (h : MdAt base w q m fa fc) (ok : StOk m) (hn : m.fs.length ≤ 1000) (hd : c.data.size ≤ 1000000000) (hk : I64 c.kind) (ho : m.off = false) (ha : ¬ (m.armed = true ∧ m.left = 0)) (hc : m.calls ≤ 4611686018427387904 ∧ m.written ≤ 4611686018427387904) (HR : Hid (R = actS b m c.kind c.name.data.toList c.to_.data.toList c.data)) (hb : badN c.name.data.toList = false) (h0 : c.kind = 0) (hf : findF m.fs c.name.data.toList = none) : Calls Try.prog 24 #[.pointer (some ⟨q, 0, none⟩), .agg (acC c).toArray] w fun x w' => x = .returned (.int .i64 R.1) ∧ MdDone base q fa w w' R.2 := by
  have HE : Hid (R = if 200 ≤ (bs m).fs.length then (4, bs m) else if 1048576 < c.data.size then (4, bs m) else if (bs m).room - (bs m).used < (c.data.size : Nat) then (5, bs m) else (0, { bs m with used := (bs m).used + (c.data.size : Nat), written := (bs m).written + (c.data.size : Nat), fs := insF ⟨c.name.data.toList, c.data, 0, b⟩ (bs m).fs, mn := (bs m).mn + 1 })) := by
    show R = _
    rw [HR.out, h0]; exact actS_new ho ha hb hf
  have HF : Hid (findF (bs m).fs c.name.data.toList = none) := hf
  have H0 := Lib.hid h0
  have HCW : Hid ((bs m).written ≤ 4611686018427387904) := hc.2
  clear h0 hk hf
  have HS := Lib.hid (do_start h c)
  have HN := Lib.hid hn
  have HOK := Lib.hid ok
  have HCC := Lib.hid hc
  have hcw : IntKind.i64.wrap (m.calls + 1) = m.calls + 1 := IntWalk.i64_in _ (by have := ok.wr; omega)
  have hlw : IntKind.i64.wrap (m.left - 1) = m.left - 1 := IntWalk.i64_in _ (by have := ok.lf; omega)
  clear h ok hn hc HR
  show Calls Try.prog 24 #[.pointer (some ⟨q, 0, none⟩), .agg #[.int .i64 c.kind, .string c.name, .string c.to_, .string c.data, .int .i64 c.n, .int .u32 c.bits, .slice c.ka c.kl c.kc]] w _
  go_enter Try.func24, Try.ntmps24
  go_upto_region 1 with (fail)
  have HS1 : Hid (DoSt base q w.heap.size c fa w (w.alloc (.cells #[.int .i64 c.kind, .string c.name, .string c.to_, .string c.data, .int .i64 c.n, .int .u32 c.bits, .slice c.ka c.kl c.kc] 54)) m fa fc) := HS.out
  clear HS
  generalize w.alloc (.cells #[.int .i64 c.kind, .string c.name, .string c.to_, .string c.data, .int .i64 c.n, .int .u32 c.bits, .slice c.ka c.kl c.kc] 54) = w1 at *
  obtain ⟨c0, c1, c2, c3, c4, c5, c6⟩ := md7 HS1.out.go.at_.ptr
  obtain ⟨f0, f1, f2, f3, f4, f5, f6⟩ := mdF HS1.out.go.at_.ptr
  have HS2 := Lib.hid (HS1.out.turn 6 (.int .i64 (m.calls + 1)) { m with calls := m.calls + 1 } rfl (fun v => rfl))
  rw [ho] at c2
  clear ho HS1
  go_upto_region 4 with (fail)
  generalize w1.setCell ⟨q, 6, none⟩ (.int .i64 (m.calls + 1)) = w2 at *
  clear c0 c1 c2 c3 c4 c5 c6 f0 f1 f2 f3 f4 f5 f6
  have c3 : w2.cell? ⟨q, 3, none⟩ = some (.bool m.armed) := (md7 HS2.out.go.at_.ptr).2.2.2.1
  have c4 : w2.cell? ⟨q, 4, none⟩ = some (.int .i64 m.left) := (md7 HS2.out.go.at_.ptr).2.2.2.2.1
  have f4 : w2.frozen? ⟨q, 4, none⟩ = false := HS2.out.go.at_.ptr.frozen 4
  cases harm : m.armed with
  | true =>
    have hl : ¬ m.left = 0 := fun e => ha ⟨harm, e⟩
    have HS3 : Hid (DoSt base q w.heap.size c fa w (w2.setCell ⟨q, 4, none⟩ (.int .i64 (m.left - 1))) (bs m) fa fc) := HS2.out.turn 4 _ (bs m) rfl (fun v => by unfold bs mdC; rw [harm]; rfl)
    rw [harm] at c3
    clear ha
    go_upto_region 9 with (fail)
    generalize w2.setCell ⟨q, 4, none⟩ (.int .i64 (m.left - 1)) = w3 at *
    clear hcw hlw c3 c4 f4 HS2 hl
    have HOK1 := Lib.hid (bs_ok HOK.out)
    have HN1 : Hid ((bs m).fs.length ≤ 1000) := HN.out
    clear HOK HN
    generalize bs m = m1 at *
    obtain ⟨q0, q1, q2, q3, q4, q5, q6⟩ := blk7 HS3.out.box
    rw [H0.out] at q0
    go_wp2_with fail
    go_at_call 18
    (with_reducible refine (right_any _ _).mono ?_)
    rintro x w4 ⟨rfl, hw⟩
    rw [hw]
    clear hw w4
    rw [hb]
    go_wp2_with fail
    go_at_call 25
    (with_reducible refine (find_any base q m1 fa fc c.name _ HS3.out.go.at_ HN1.out).mono ?_)
    rintro x w4 ⟨⟨i, rfl, hi⟩, hw⟩
    rw [hw]
    clear hw w4
    rcases hi with ⟨k, f, rfl, hk1, hk2⟩ | ⟨rfl, -⟩
    · rw [HF.out] at hk2; cases hk2
    · have c1 : w3.cell? ⟨q, 1, none⟩ = some (.slice fa m1.fs.length fc) := (md7 HS3.out.go.at_.ptr).2.1
      by_cases h200 : 200 ≤ m1.fs.length
      · have h200' : (200 : Int) ≤ (m1.fs.length : Int) := by omega
        have HE2 : Hid (R = (4, m1)) := by show R = _; rw [HE.out, if_pos h200]
        clear HE
        go_wp2_with fail
        go_ret
        rw [HE2.out]
        exact ⟨rfl, HS3.out.go.done⟩
      · have h200' : ¬ (200 : Int) ≤ (m1.fs.length : Int) := by omega
        rw [if_neg h200] at HE
        go_wp2_with fail
        by_cases hlong : 1048576 < c.data.size
        · have hlong' : (1048576 : Int) < (c.data.size : Int) := by omega
          rw [if_pos hlong] at HE
          go_quiet (fail)
          have HS4 := Lib.hid (HS3.out.below (below_dN (Below.refl _ _) nq))
          clear c1 q0 q1 q2 q3 q4 q5 q6
          generalize w3.drewN nq = w4 at *
          go_wp2_with fail
          go_ret
          rw [HE.out]
          exact ⟨rfl, HS4.out.go.done⟩
        · have hlong' : decide ((1048576 : Int) < (c.data.size : Int)) = false := decide_eq_false (by omega)
          rw [if_neg hlong] at HE
          go_quiet (fail)
          have HS4 := Lib.hid (HS3.out.below (below_dN (Below.refl _ _) nq))
          clear c1 q0 q1 q2 q3 q4 q5 q6
          generalize w3.drewN nq = w4 at *
          obtain ⟨q0, q1, q2, q3, q4, q5, q6⟩ := blk7 HS4.out.box
          have c0 : w4.cell? ⟨q, 0, none⟩ = some (.int .i64 m1.room) := (md7 HS4.out.go.at_.ptr).1
          have HU : Hid (∀ n, MdAt base (w4.drewN n) q m1 fa fc) := fun n => HS4.out.go.at_.below (below_dN (Below.refl _ _) n)
          have HSUM : Hid (sumD m1.fs ≤ 1000000000) := by have := HOK1.out; show _ ≤ _; omega
          have hru : IntKind.i64.wrap (m1.room - (sumD m1.fs : Nat)) = m1.room - (sumD m1.fs : Nat) := IntWalk.i64_in _ (by have := HOK1.out; omega)
          have HSU : Hid (m1.used = (sumD m1.fs : Nat)) := HOK1.out.1
          rw [HSU.out] at HE
          go_wp2_with fail
          by_cases hfull : m1.room - (sumD m1.fs : Nat) < (c.data.size : Nat)
          · rw [if_pos hfull] at HE
            go_quiet ((go_at_call 40; exact Calls.quiet_of_same (musedd_any base q m1 fa fc _ (HU.out _) HN1.out HSUM.out)))
            have HS5 := Lib.hid (HS4.out.below (below_dN (Below.refl _ _) nq))
            go_wp2_with fail
            go_ret
            rw [HE.out]
            exact ⟨rfl, HS5.out.go.done⟩
          rw [if_neg hfull] at HE
          replace hfull : decide (m1.room - (sumD m1.fs : Nat) < (c.data.size : Nat)) = false := decide_eq_false hfull
          go_quiet ((go_at_call 40; exact Calls.quiet_of_same (musedd_any base q m1 fa fc _ (HU.out _) HN1.out HSUM.out)))
          have HS5 := Lib.hid (HS4.out.below (below_dN (Below.refl _ _) nq))
          clear c0 q0 q1 q2 q3 q4 q5 q6 hfull hru HU HS4
          generalize w4.drewN nq = w5 at *
          obtain ⟨q0, q1, q2, q3, q4, q5, q6⟩ := blk7 HS5.out.box
          go_wp2_with fail
          have HP : Hid (Calls Try.prog 41 #[.pointer (some ⟨q, 0, none⟩), .agg #[.string c.name, .string ⟨#[]⟩, .int .i64 0]] w5 fun x w' => x = .returned (.tuple #[]) ∧ MdDone base q fa w5 w' { m1 with fs := insF ⟨c.name.data.toList, ⟨#[]⟩, 0, b⟩ m1.fs }) := by
            have h := mput_any base q m1 fa fc ⟨c.name.data.toList, ⟨#[]⟩, 0, b⟩ w5 HS5.out.go.at_ HN1.out
            dsimp only at h
            rw [Array.toArray_toList] at h
            exact h
          go_at_call 41
          (with_reducible refine HP.out.mono ?_)
          rintro x w6 ⟨rfl, hdn⟩
          obtain ⟨fa2, fc2, hs6⟩ := HS5.out.on hdn
          have HS6 := Lib.hid hs6
          have hnn : ∀ g ∈ m1.fs, g.name ≠ (⟨c.name.data.toList, ⟨#[]⟩, 0, b⟩ : Fi).name := findF_none HF.out
          have hup := HOK1.out.2.2.2.2.1
          have HF2 : Hid (findF (insF ⟨c.name.data.toList, ⟨#[]⟩, 0, b⟩ m1.fs) c.name.data.toList = some ⟨c.name.data.toList, ⟨#[]⟩, 0, b⟩) := by
            show findF _ _ = _
            rw [findF_ins hup hnn, if_pos rfl]
          have HU2 : Hid (UpF (insF ⟨c.name.data.toList, ⟨#[]⟩, 0, b⟩ m1.fs)) := insF_up hup hnn
          have HN2 : Hid ((insF ⟨c.name.data.toList, ⟨#[]⟩, 0, b⟩ m1.fs).length ≤ 1000) := by
            show _ ≤ _
            rw [(insF_perm _ _).length_eq, List.length_cons]; omega
          have HUI : Hid (∀ h : Fi → Fi, (h ⟨c.name.data.toList, ⟨#[]⟩, 0, b⟩).name = c.name.data.toList → updF c.name.data.toList h (insF ⟨c.name.data.toList, ⟨#[]⟩, 0, b⟩ m1.fs) = insF (h ⟨c.name.data.toList, ⟨#[]⟩, 0, b⟩) m1.fs) := fun h hh => updF_ins rfl hh HF.out
          clear hdn hs6 HP hnn hup HS5 q0 q1 q2 q3 q4 q5 q6 h200 h200' hlong hlong'
          obtain ⟨q0, q1, q2, q3, q4, q5, q6⟩ := blk7 HS6.out.box
          go_wp2_with fail
          go_at_call 25
          (with_reducible refine (find_any base q _ fa2 fc2 c.name w6 HS6.out.go.at_ HN2.out).mono ?_)
          rintro x w7 ⟨⟨i, rfl, hi⟩, hw⟩
          rw [hw]
          clear hw w7
          rcases hi with ⟨k, f, rfl, hk1, hk2⟩ | ⟨rfl, hk2⟩
          rotate_left
          · have h := HF2.out; rw [show findF (insF ⟨c.name.data.toList, ⟨#[]⟩, 0, b⟩ m1.fs) c.name.data.toList = none from hk2] at h; cases h
          have hff : f = ⟨c.name.data.toList, ⟨#[]⟩, 0, b⟩ := by
            have h := HF2.out
            rw [show findF (insF ⟨c.name.data.toList, ⟨#[]⟩, 0, b⟩ m1.fs) c.name.data.toList = some f from hk2] at h
            injection h
          have HE2 : Hid (R = (0, { m1 with used := (sumD m1.fs : Nat) + (c.data.size : Nat), written := m1.written + (c.data.size : Nat), fs := (insF ⟨c.name.data.toList, ⟨#[]⟩, 0, b⟩ m1.fs).set k ⟨f.name, f.data ++ c.data, f.safe, f.blk⟩, mn := m1.mn + 1 })) := by
            have e := updF_set (h := fun g => ⟨g.name, g.data ++ c.data, g.safe, g.blk⟩) HU2.out hk1
            have hfn : f.name = c.name.data.toList := by rw [hff]
            rw [hfn, HUI.out _ rfl] at e
            show R = _
            rw [HE.out, hfn, ← e]
            dsimp only
            rw [empty_cat]
          obtain ⟨m2, hm2⟩ : ∃ m2 : Md, m2 = { m1 with fs := insF ⟨c.name.data.toList, ⟨#[]⟩, 0, b⟩ m1.fs } := ⟨_, rfl⟩
          have HM2 : Hid (m2.fs = insF ⟨c.name.data.toList, ⟨#[]⟩, 0, b⟩ m1.fs ∧ m2.room = m1.room ∧ m2.off = m1.off ∧ m2.armed = m1.armed ∧ m2.left = m1.left ∧ m2.written = m1.written ∧ m2.calls = m1.calls) := by rw [hm2]; exact ⟨rfl, rfl, rfl, rfl, rfl, rfl, rfl⟩
          rw [← HM2.out.1] at HN2 hk1
          rw [← hm2] at HS6
          rw [← HM2.out.1] at HE2
          have HZ : Hid (f.data.size + c.data.size ≤ 1000000000) := by show _ ≤ _; rw [hff]; show 0 + _ ≤ _; omega
          clear hm2 HUI HU2 HF2 HE hff hk2
          have HK1 := Lib.hid hk1
          have hkl : k < m2.fs.length := (List.getElem?_eq_some_iff.1 hk1).1
          obtain ⟨g, f1, rfl, hf1, u0, u1, u2, hfz⟩ := HS6.out.go.at_.at k hkl
          obtain rfl : f1 = f := by rw [hk1] at hf1; injection hf1 with hf1; exact hf1.symm
          have i0 : (0 : Int) ≤ (k : Int) := by omega
          have i1 : (k : Int) ≤ 1000 := by have := HN2.out; omega
          have hlt' : (k : Int) < (m2.fs.length : Int) := by omega
          have y1 := hfz (k * 3 + 1)
          have c1 : w6.cell? ⟨q, 1, none⟩ = some (.slice (some ⟨g, 0, none⟩) m2.fs.length fc2) := (md7 HS6.out.go.at_.ptr).2.1
          have HS7 := Lib.hid ((HS6.out.cell HK1.out 1 (by omega) (.string (f1.data ++ c.data)) (f' := ⟨f1.name, f1.data ++ c.data, f1.safe, f1.blk⟩) rfl).below (show Below _ _ (w6.setCell ⟨g, k * 3 + 1, none⟩ (.string (f1.data ++ c.data))).drew from below_dN (Below.refl _ _) 1))
          have hz1 : ¬ 9223372036854775807 < f1.data.size + c.data.size := by have := HZ.out; omega
          clear hk1 hf1 hfz u0 u2
          go_wp2_with fail
          go_still_tail 18, (by kernel_rfl)
          change wpList _ _ _ _ _ w6.drew
          go_wp2_with fail
          generalize (w6.setCell ⟨g, k * 3 + 1, none⟩ (.string (f1.data ++ c.data))).drew = w7 at *
          clear q0 q1 q2 q3 q4 q5 q6 c1 u1 y1 hz1
          obtain ⟨q0, q1, q2, q3, q4, q5, q6⟩ := blk7 HS7.out.box
          have c5 : w7.cell? ⟨q, 5, none⟩ = some (.int .i64 m1.written) := by rw [← HM2.out.2.2.2.2.2.1]; exact (md7 HS7.out.go.at_.ptr).2.2.2.2.2.1
          have y5 : w7.frozen? ⟨q, 5, none⟩ = false := HS7.out.go.at_.ptr.frozen 5
          have hww : IntKind.i64.wrap (m1.written + (c.data.size : Nat)) = m1.written + (c.data.size : Nat) := IntWalk.i64_in _ (by have h1 := HOK1.out.2.2.2.2.2.1; have h2 := HCW.out; omega)
          have HS8 := Lib.hid ((HS7.out.turn 5 (.int .i64 (m1.written + (c.data.size : Nat))) { m2 with fs := m2.fs.set k ⟨f1.name, f1.data ++ c.data, f1.safe, f1.blk⟩, written := m1.written + (c.data.size : Nat) } rfl (fun v => rfl)).below (show Below _ _ (w7.setCell ⟨q, 5, none⟩ (.int .i64 (m1.written + (c.data.size : Nat)))).drew from below_dN (Below.refl _ _) 1))
          go_still_tail 11, (by kernel_rfl)
          change wpList _ _ _ _ _ w7.drew
          go_wp2_with fail
          go_ret
          rw [HE2.out]
          refine ⟨rfl, MdDone.like HS8.out.go.done ?_ ?_⟩
          · rfl
          · exact ⟨HM2.out.2.1.symm, HM2.out.2.2.1.symm, HM2.out.2.2.2.1.symm, HM2.out.2.2.2.2.1.symm, rfl, HM2.out.2.2.2.2.2.2.symm⟩
  | false =>
    obtain ⟨w3, hw3⟩ : ∃ W, W = w2 := ⟨_, rfl⟩
    have HS3 : Hid (DoSt base q w.heap.size c fa w w3 (bs m) fa fc) := by
      rw [hw3]
      refine HS2.out.like rfl ⟨rfl, rfl, rfl, ?_, rfl, rfl⟩
      unfold bs; rw [harm]; rfl
    rw [harm] at c3
    clear ha
    go_upto_region 9 with (fail)
    rw [← hw3]
    clear hcw hlw c3 c4 f4 HS2 hw3
    have HOK1 := Lib.hid (bs_ok HOK.out)
    have HN1 : Hid ((bs m).fs.length ≤ 1000) := HN.out
    clear HOK HN
    generalize bs m = m1 at *
    obtain ⟨q0, q1, q2, q3, q4, q5, q6⟩ := blk7 HS3.out.box
    rw [H0.out] at q0
    go_wp2_with fail
    go_at_call 18
    (with_reducible refine (right_any _ _).mono ?_)
    rintro x w4 ⟨rfl, hw⟩
    rw [hw]
    clear hw w4
    rw [hb]
    go_wp2_with fail
    go_at_call 25
    (with_reducible refine (find_any base q m1 fa fc c.name _ HS3.out.go.at_ HN1.out).mono ?_)
    rintro x w4 ⟨⟨i, rfl, hi⟩, hw⟩
    rw [hw]
    clear hw w4
    rcases hi with ⟨k, f, rfl, hk1, hk2⟩ | ⟨rfl, -⟩
    · rw [HF.out] at hk2; cases hk2
    · have c1 : w3.cell? ⟨q, 1, none⟩ = some (.slice fa m1.fs.length fc) := (md7 HS3.out.go.at_.ptr).2.1
      by_cases h200 : 200 ≤ m1.fs.length
      · have h200' : (200 : Int) ≤ (m1.fs.length : Int) := by omega
        have HE2 : Hid (R = (4, m1)) := by show R = _; rw [HE.out, if_pos h200]
        clear HE
        go_wp2_with fail
        go_ret
        rw [HE2.out]
        exact ⟨rfl, HS3.out.go.done⟩
      · have h200' : ¬ (200 : Int) ≤ (m1.fs.length : Int) := by omega
        rw [if_neg h200] at HE
        go_wp2_with fail
        by_cases hlong : 1048576 < c.data.size
        · have hlong' : (1048576 : Int) < (c.data.size : Int) := by omega
          rw [if_pos hlong] at HE
          go_quiet (fail)
          have HS4 := Lib.hid (HS3.out.below (below_dN (Below.refl _ _) nq))
          clear c1 q0 q1 q2 q3 q4 q5 q6
          generalize w3.drewN nq = w4 at *
          go_wp2_with fail
          go_ret
          rw [HE.out]
          exact ⟨rfl, HS4.out.go.done⟩
        · have hlong' : decide ((1048576 : Int) < (c.data.size : Int)) = false := decide_eq_false (by omega)
          rw [if_neg hlong] at HE
          go_quiet (fail)
          have HS4 := Lib.hid (HS3.out.below (below_dN (Below.refl _ _) nq))
          clear c1 q0 q1 q2 q3 q4 q5 q6
          generalize w3.drewN nq = w4 at *
          obtain ⟨q0, q1, q2, q3, q4, q5, q6⟩ := blk7 HS4.out.box
          have c0 : w4.cell? ⟨q, 0, none⟩ = some (.int .i64 m1.room) := (md7 HS4.out.go.at_.ptr).1
          have HU : Hid (∀ n, MdAt base (w4.drewN n) q m1 fa fc) := fun n => HS4.out.go.at_.below (below_dN (Below.refl _ _) n)
          have HSUM : Hid (sumD m1.fs ≤ 1000000000) := by have := HOK1.out; show _ ≤ _; omega
          have hru : IntKind.i64.wrap (m1.room - (sumD m1.fs : Nat)) = m1.room - (sumD m1.fs : Nat) := IntWalk.i64_in _ (by have := HOK1.out; omega)
          have HSU : Hid (m1.used = (sumD m1.fs : Nat)) := HOK1.out.1
          rw [HSU.out] at HE
          go_wp2_with fail
          by_cases hfull : m1.room - (sumD m1.fs : Nat) < (c.data.size : Nat)
          · rw [if_pos hfull] at HE
            go_quiet ((go_at_call 40; exact Calls.quiet_of_same (musedd_any base q m1 fa fc _ (HU.out _) HN1.out HSUM.out)))
            have HS5 := Lib.hid (HS4.out.below (below_dN (Below.refl _ _) nq))
            go_wp2_with fail
            go_ret
            rw [HE.out]
            exact ⟨rfl, HS5.out.go.done⟩
          rw [if_neg hfull] at HE
          replace hfull : decide (m1.room - (sumD m1.fs : Nat) < (c.data.size : Nat)) = false := decide_eq_false hfull
          go_quiet ((go_at_call 40; exact Calls.quiet_of_same (musedd_any base q m1 fa fc _ (HU.out _) HN1.out HSUM.out)))
          have HS5 := Lib.hid (HS4.out.below (below_dN (Below.refl _ _) nq))
          clear c0 q0 q1 q2 q3 q4 q5 q6 hfull hru HU HS4
          generalize w4.drewN nq = w5 at *
          obtain ⟨q0, q1, q2, q3, q4, q5, q6⟩ := blk7 HS5.out.box
          go_wp2_with fail
          have HP : Hid (Calls Try.prog 41 #[.pointer (some ⟨q, 0, none⟩), .agg #[.string c.name, .string ⟨#[]⟩, .int .i64 0]] w5 fun x w' => x = .returned (.tuple #[]) ∧ MdDone base q fa w5 w' { m1 with fs := insF ⟨c.name.data.toList, ⟨#[]⟩, 0, b⟩ m1.fs }) := by
            have h := mput_any base q m1 fa fc ⟨c.name.data.toList, ⟨#[]⟩, 0, b⟩ w5 HS5.out.go.at_ HN1.out
            dsimp only at h
            rw [Array.toArray_toList] at h
            exact h
          go_at_call 41
          (with_reducible refine HP.out.mono ?_)
          rintro x w6 ⟨rfl, hdn⟩
          obtain ⟨fa2, fc2, hs6⟩ := HS5.out.on hdn
          have HS6 := Lib.hid hs6
          have hnn : ∀ g ∈ m1.fs, g.name ≠ (⟨c.name.data.toList, ⟨#[]⟩, 0, b⟩ : Fi).name := findF_none HF.out
          have hup := HOK1.out.2.2.2.2.1
          have HF2 : Hid (findF (insF ⟨c.name.data.toList, ⟨#[]⟩, 0, b⟩ m1.fs) c.name.data.toList = some ⟨c.name.data.toList, ⟨#[]⟩, 0, b⟩) := by
            show findF _ _ = _
            rw [findF_ins hup hnn, if_pos rfl]
          have HU2 : Hid (UpF (insF ⟨c.name.data.toList, ⟨#[]⟩, 0, b⟩ m1.fs)) := insF_up hup hnn
          have HN2 : Hid ((insF ⟨c.name.data.toList, ⟨#[]⟩, 0, b⟩ m1.fs).length ≤ 1000) := by
            show _ ≤ _
            rw [(insF_perm _ _).length_eq, List.length_cons]; omega
          have HUI : Hid (∀ h : Fi → Fi, (h ⟨c.name.data.toList, ⟨#[]⟩, 0, b⟩).name = c.name.data.toList → updF c.name.data.toList h (insF ⟨c.name.data.toList, ⟨#[]⟩, 0, b⟩ m1.fs) = insF (h ⟨c.name.data.toList, ⟨#[]⟩, 0, b⟩) m1.fs) := fun h hh => updF_ins rfl hh HF.out
          clear hdn hs6 HP hnn hup HS5 q0 q1 q2 q3 q4 q5 q6 h200 h200' hlong hlong'
          obtain ⟨q0, q1, q2, q3, q4, q5, q6⟩ := blk7 HS6.out.box
          go_wp2_with fail
          go_at_call 25
          (with_reducible refine (find_any base q _ fa2 fc2 c.name w6 HS6.out.go.at_ HN2.out).mono ?_)
          rintro x w7 ⟨⟨i, rfl, hi⟩, hw⟩
          rw [hw]
          clear hw w7
          rcases hi with ⟨k, f, rfl, hk1, hk2⟩ | ⟨rfl, hk2⟩
          rotate_left
          · have h := HF2.out; rw [show findF (insF ⟨c.name.data.toList, ⟨#[]⟩, 0, b⟩ m1.fs) c.name.data.toList = none from hk2] at h; cases h
          have hff : f = ⟨c.name.data.toList, ⟨#[]⟩, 0, b⟩ := by
            have h := HF2.out
            rw [show findF (insF ⟨c.name.data.toList, ⟨#[]⟩, 0, b⟩ m1.fs) c.name.data.toList = some f from hk2] at h
            injection h
          have HE2 : Hid (R = (0, { m1 with used := (sumD m1.fs : Nat) + (c.data.size : Nat), written := m1.written + (c.data.size : Nat), fs := (insF ⟨c.name.data.toList, ⟨#[]⟩, 0, b⟩ m1.fs).set k ⟨f.name, f.data ++ c.data, f.safe, f.blk⟩, mn := m1.mn + 1 })) := by
            have e := updF_set (h := fun g => ⟨g.name, g.data ++ c.data, g.safe, g.blk⟩) HU2.out hk1
            have hfn : f.name = c.name.data.toList := by rw [hff]
            rw [hfn, HUI.out _ rfl] at e
            show R = _
            rw [HE.out, hfn, ← e]
            dsimp only
            rw [empty_cat]
          obtain ⟨m2, hm2⟩ : ∃ m2 : Md, m2 = { m1 with fs := insF ⟨c.name.data.toList, ⟨#[]⟩, 0, b⟩ m1.fs } := ⟨_, rfl⟩
          have HM2 : Hid (m2.fs = insF ⟨c.name.data.toList, ⟨#[]⟩, 0, b⟩ m1.fs ∧ m2.room = m1.room ∧ m2.off = m1.off ∧ m2.armed = m1.armed ∧ m2.left = m1.left ∧ m2.written = m1.written ∧ m2.calls = m1.calls) := by rw [hm2]; exact ⟨rfl, rfl, rfl, rfl, rfl, rfl, rfl⟩
          rw [← HM2.out.1] at HN2 hk1
          rw [← hm2] at HS6
          rw [← HM2.out.1] at HE2
          have HZ : Hid (f.data.size + c.data.size ≤ 1000000000) := by show _ ≤ _; rw [hff]; show 0 + _ ≤ _; omega
          clear hm2 HUI HU2 HF2 HE hff hk2
          have HK1 := Lib.hid hk1
          have hkl : k < m2.fs.length := (List.getElem?_eq_some_iff.1 hk1).1
          obtain ⟨g, f1, rfl, hf1, u0, u1, u2, hfz⟩ := HS6.out.go.at_.at k hkl
          obtain rfl : f1 = f := by rw [hk1] at hf1; injection hf1 with hf1; exact hf1.symm
          have i0 : (0 : Int) ≤ (k : Int) := by omega
          have i1 : (k : Int) ≤ 1000 := by have := HN2.out; omega
          have hlt' : (k : Int) < (m2.fs.length : Int) := by omega
          have y1 := hfz (k * 3 + 1)
          have c1 : w6.cell? ⟨q, 1, none⟩ = some (.slice (some ⟨g, 0, none⟩) m2.fs.length fc2) := (md7 HS6.out.go.at_.ptr).2.1
          have HS7 := Lib.hid ((HS6.out.cell HK1.out 1 (by omega) (.string (f1.data ++ c.data)) (f' := ⟨f1.name, f1.data ++ c.data, f1.safe, f1.blk⟩) rfl).below (show Below _ _ (w6.setCell ⟨g, k * 3 + 1, none⟩ (.string (f1.data ++ c.data))).drew from below_dN (Below.refl _ _) 1))
          have hz1 : ¬ 9223372036854775807 < f1.data.size + c.data.size := by have := HZ.out; omega
          clear hk1 hf1 hfz u0 u2
          go_wp2_with fail
          go_still_tail 18, (by kernel_rfl)
          change wpList _ _ _ _ _ w6.drew
          go_wp2_with fail
          generalize (w6.setCell ⟨g, k * 3 + 1, none⟩ (.string (f1.data ++ c.data))).drew = w7 at *
          clear q0 q1 q2 q3 q4 q5 q6 c1 u1 y1 hz1
          obtain ⟨q0, q1, q2, q3, q4, q5, q6⟩ := blk7 HS7.out.box
          have c5 : w7.cell? ⟨q, 5, none⟩ = some (.int .i64 m1.written) := by rw [← HM2.out.2.2.2.2.2.1]; exact (md7 HS7.out.go.at_.ptr).2.2.2.2.2.1
          have y5 : w7.frozen? ⟨q, 5, none⟩ = false := HS7.out.go.at_.ptr.frozen 5
          have hww : IntKind.i64.wrap (m1.written + (c.data.size : Nat)) = m1.written + (c.data.size : Nat) := IntWalk.i64_in _ (by have h1 := HOK1.out.2.2.2.2.2.1; have h2 := HCW.out; omega)
          have HS8 := Lib.hid ((HS7.out.turn 5 (.int .i64 (m1.written + (c.data.size : Nat))) { m2 with fs := m2.fs.set k ⟨f1.name, f1.data ++ c.data, f1.safe, f1.blk⟩, written := m1.written + (c.data.size : Nat) } rfl (fun v => rfl)).below (show Below _ _ (w7.setCell ⟨q, 5, none⟩ (.int .i64 (m1.written + (c.data.size : Nat)))).drew from below_dN (Below.refl _ _) 1))
          go_still_tail 11, (by kernel_rfl)
          change wpList _ _ _ _ _ w7.drew
          go_wp2_with fail
          go_ret
          rw [HE2.out]
          refine ⟨rfl, MdDone.like HS8.out.go.done ?_ ?_⟩
          · rfl
          · exact ⟨HM2.out.2.1.symm, HM2.out.2.2.1.symm, HM2.out.2.2.2.1.symm, HM2.out.2.2.2.2.1.symm, rfl, HM2.out.2.2.2.2.2.2.symm⟩
end Go.Proofs.Ytefpjdgfcgjbaaa

/- The document's disk: does: Append to a file that is there. -/
namespace Go.Proofs.Ytefpjdgfcgjbaaa
set_option linter.unusedVariables false
set_option linter.unusedSimpArgs false
open Go.RowKit
set_option maxRecDepth 100000 in
set_option maxHeartbeats 4000000 in
theorem does_more (base q : Nat) (m : Md) (fa : Option Addr) (fc : Nat) (c : Ac) (b : Nat) (R : Int × St) (w : World) (h : MdAt base w q m fa fc) (ok : StOk m) (hn : m.fs.length ≤ 1000) (hd : c.data.size ≤ 1000000000) (hk : I64 c.kind) (ho : m.off = false) (ha : ¬ (m.armed = true ∧ m.left = 0)) (hc : m.calls ≤ 4611686018427387904 ∧ m.written ≤ 4611686018427387904) (HR : Hid (R = actS b m c.kind c.name.data.toList c.to_.data.toList c.data)) (hb : badN c.name.data.toList = false) (h0 : c.kind = 0) (f : Fi) (hf : findF m.fs c.name.data.toList = some f) : Calls Try.prog 24 #[.pointer (some ⟨q, 0, none⟩), .agg (acC c).toArray] w fun x w' => x = .returned (.int .i64 R.1) ∧ MdDone base q fa w w' R.2 := by
  have HE : Hid (R = if 1048576 < f.data.size + c.data.size then (4, bs m) else if (bs m).room - (bs m).used < (c.data.size : Nat) then (5, bs m) else (0, { bs m with used := (bs m).used + (c.data.size : Nat), written := (bs m).written + (c.data.size : Nat), fs := updF c.name.data.toList (fun g => ⟨g.name, g.data ++ c.data, g.safe, g.blk⟩) (bs m).fs, mn := (bs m).mn + 1 })) := by
    show R = _
    rw [HR.out, h0]; exact actS_more ho ha hb hf
  have HF : Hid (findF (bs m).fs c.name.data.toList = some f) := hf
  have H0 := Lib.hid h0
  have HCW : Hid ((bs m).written ≤ 4611686018427387904) := hc.2
  clear h0 hk hf
  have HS := Lib.hid (do_start h c)
  have HN := Lib.hid hn
  have HOK := Lib.hid ok
  have HCC := Lib.hid hc
  have hcw : IntKind.i64.wrap (m.calls + 1) = m.calls + 1 := IntWalk.i64_in _ (by have := ok.wr; omega)
  have hlw : IntKind.i64.wrap (m.left - 1) = m.left - 1 := IntWalk.i64_in _ (by have := ok.lf; omega)
  clear h ok hn hc HR
  show Calls Try.prog 24 #[.pointer (some ⟨q, 0, none⟩), .agg #[.int .i64 c.kind, .string c.name, .string c.to_, .string c.data, .int .i64 c.n, .int .u32 c.bits, .slice c.ka c.kl c.kc]] w _
  go_enter Try.func24, Try.ntmps24
  go_upto_region 1 with (fail)
  have HS1 : Hid (DoSt base q w.heap.size c fa w (w.alloc (.cells #[.int .i64 c.kind, .string c.name, .string c.to_, .string c.data, .int .i64 c.n, .int .u32 c.bits, .slice c.ka c.kl c.kc] 54)) m fa fc) := HS.out
  clear HS
  generalize w.alloc (.cells #[.int .i64 c.kind, .string c.name, .string c.to_, .string c.data, .int .i64 c.n, .int .u32 c.bits, .slice c.ka c.kl c.kc] 54) = w1 at *
  obtain ⟨c0, c1, c2, c3, c4, c5, c6⟩ := md7 HS1.out.go.at_.ptr
  obtain ⟨f0, f1, f2, f3, f4, f5, f6⟩ := mdF HS1.out.go.at_.ptr
  have HS2 := Lib.hid (HS1.out.turn 6 (.int .i64 (m.calls + 1)) { m with calls := m.calls + 1 } rfl (fun v => rfl))
  rw [ho] at c2
  clear ho HS1
  go_upto_region 4 with (fail)
  generalize w1.setCell ⟨q, 6, none⟩ (.int .i64 (m.calls + 1)) = w2 at *
  clear c0 c1 c2 c3 c4 c5 c6 f0 f1 f2 f3 f4 f5 f6
  have c3 : w2.cell? ⟨q, 3, none⟩ = some (.bool m.armed) := (md7 HS2.out.go.at_.ptr).2.2.2.1
  have c4 : w2.cell? ⟨q, 4, none⟩ = some (.int .i64 m.left) := (md7 HS2.out.go.at_.ptr).2.2.2.2.1
  have f4 : w2.frozen? ⟨q, 4, none⟩ = false := HS2.out.go.at_.ptr.frozen 4
  cases harm : m.armed with
  | true =>
    have hl : ¬ m.left = 0 := fun e => ha ⟨harm, e⟩
    have HS3 : Hid (DoSt base q w.heap.size c fa w (w2.setCell ⟨q, 4, none⟩ (.int .i64 (m.left - 1))) (bs m) fa fc) := HS2.out.turn 4 _ (bs m) rfl (fun v => by unfold bs mdC; rw [harm]; rfl)
    rw [harm] at c3
    clear ha
    go_upto_region 9 with (fail)
    generalize w2.setCell ⟨q, 4, none⟩ (.int .i64 (m.left - 1)) = w3 at *
    clear hcw hlw c3 c4 f4 HS2 hl
    have HOK1 := Lib.hid (bs_ok HOK.out)
    have HN1 : Hid ((bs m).fs.length ≤ 1000) := HN.out
    clear HOK HN
    generalize bs m = m1 at *
    obtain ⟨q0, q1, q2, q3, q4, q5, q6⟩ := blk7 HS3.out.box
    rw [H0.out] at q0
    go_wp2_with fail
    go_at_call 18
    (with_reducible refine (right_any _ _).mono ?_)
    rintro x w4 ⟨rfl, hw⟩
    rw [hw]
    clear hw w4
    rw [hb]
    go_wp2_with fail
    go_at_call 25
    (with_reducible refine (find_any base q m1 fa fc c.name _ HS3.out.go.at_ HN1.out).mono ?_)
    rintro x w4 ⟨⟨i, rfl, hi⟩, hw⟩
    rw [hw]
    clear hw w4
    rcases hi with ⟨k, f', rfl, hk1, hk2⟩ | ⟨rfl, hk2⟩
    rotate_left
    · rw [HF.out] at hk2; cases hk2
    obtain rfl : f' = f := by rw [HF.out] at hk2; injection hk2 with hk2; exact hk2.symm
    have hkl : k < m1.fs.length := (List.getElem?_eq_some_iff.1 hk1).1
    have HSZ := Lib.hid (HOK1.out.2.2.2.2.2.2 f' (List.mem_of_getElem? hk1))
    have HFN := Lib.hid (findF_mem HF.out).2
    have c1 : w3.cell? ⟨q, 1, none⟩ = some (.slice fa m1.fs.length fc) := (md7 HS3.out.go.at_.ptr).2.1
    obtain ⟨g, f1, rfl, hf1, u0, u1, u2, hfz⟩ := HS3.out.go.at_.at k hkl
    obtain rfl : f1 = f' := by rw [hk1] at hf1; injection hf1 with hf1; exact hf1.symm
    have i0 : (0 : Int) ≤ (k : Int) := by omega
    have i1 : (k : Int) ≤ 1000 := by have := HN1.out; omega
    have hlt' : (k : Int) < (m1.fs.length : Int) := by omega
    have hw1 : IntKind.i64.wrap ((1048576 : Int) - (f1.data.size : Int)) = (1048576 : Int) - (f1.data.size : Int) := IntWalk.i64_in _ (by have := HSZ.out; omega)
    have HK1 := Lib.hid hk1
    clear hf1 hfz hk1 hk2
    go_wp2_with fail
    by_cases hlong : 1048576 < f1.data.size + c.data.size
    · have hlong' : (1048576 : Int) - (f1.data.size : Int) < (c.data.size : Int) := by omega
      rw [if_pos hlong] at HE
      go_quiet (fail)
      have HS4 := Lib.hid (HS3.out.below (below_dN (Below.refl _ _) nq))
      clear c1 u0 u1 u2 q0 q1 q2 q3 q4 q5 q6
      generalize w3.drewN nq = w4 at *
      go_wp2_with fail
      go_ret
      rw [HE.out]
      exact ⟨rfl, HS4.out.go.done⟩
    have hlong' : decide ((1048576 : Int) - (f1.data.size : Int) < (c.data.size : Int)) = false := decide_eq_false (by omega)
    have hlong2 : decide ((1048576 : Int) < (c.data.size : Int)) = false := decide_eq_false (by omega)
    rw [if_neg hlong] at HE
    go_quiet (fail)
    have HS4 := Lib.hid (HS3.out.below (below_dN (Below.refl _ _) nq))
    clear c1 u0 u1 u2 q0 q1 q2 q3 q4 q5 q6
    generalize w3.drewN nq = w4 at *
    obtain ⟨q0, q1, q2, q3, q4, q5, q6⟩ := blk7 HS4.out.box
    have c0 : w4.cell? ⟨q, 0, none⟩ = some (.int .i64 m1.room) := (md7 HS4.out.go.at_.ptr).1
    have HU : Hid (∀ n, MdAt base (w4.drewN n) q m1 (some ⟨g, 0, none⟩) fc) := fun n => HS4.out.go.at_.below (below_dN (Below.refl _ _) n)
    have HSUM : Hid (sumD m1.fs ≤ 1000000000) := by have := HOK1.out; show _ ≤ _; omega
    have hru : IntKind.i64.wrap (m1.room - (sumD m1.fs : Nat)) = m1.room - (sumD m1.fs : Nat) := IntWalk.i64_in _ (by have := HOK1.out; omega)
    have HSU : Hid (m1.used = (sumD m1.fs : Nat)) := HOK1.out.1
    rw [HSU.out] at HE
    go_wp2_with fail
    by_cases hfull : m1.room - (sumD m1.fs : Nat) < (c.data.size : Nat)
    · rw [if_pos hfull] at HE
      go_quiet ((go_at_call 40; exact Calls.quiet_of_same (musedd_any base q m1 (some ⟨g, 0, none⟩) fc _ (HU.out _) HN1.out HSUM.out)))
      have HS5 := Lib.hid (HS4.out.below (below_dN (Below.refl _ _) nq))
      go_wp2_with fail
      go_ret
      rw [HE.out]
      exact ⟨rfl, HS5.out.go.done⟩
    rw [if_neg hfull] at HE
    replace hfull : decide (m1.room - (sumD m1.fs : Nat) < (c.data.size : Nat)) = false := decide_eq_false hfull
    go_quiet ((go_at_call 40; exact Calls.quiet_of_same (musedd_any base q m1 (some ⟨g, 0, none⟩) fc _ (HU.out _) HN1.out HSUM.out)))
    have HS5 := Lib.hid (HS4.out.below (below_dN (Below.refl _ _) nq))
    clear c0 q0 q1 q2 q3 q4 q5 q6 hfull hru HU HS4
    generalize w4.drewN nq = w5 at *
    obtain ⟨q0, q1, q2, q3, q4, q5, q6⟩ := blk7 HS5.out.box
    go_wp2_with fail
    have HZ : Hid (f1.data.size + c.data.size ≤ 1000000000) := by show _ ≤ _; omega
    have HE2 : Hid (R = (0, { m1 with used := (sumD m1.fs : Nat) + (c.data.size : Nat), written := m1.written + (c.data.size : Nat), fs := m1.fs.set k ⟨f1.name, f1.data ++ c.data, f1.safe, f1.blk⟩, mn := m1.mn + 1 })) := by
      have e := updF_set (h := fun g => ⟨g.name, g.data ++ c.data, g.safe, g.blk⟩) HOK1.out.2.2.2.2.1 HK1.out
      rw [HFN.out] at e
      show R = _
      rw [HE.out, e, HFN.out]
    clear HE hlong hlong' hlong2 hw1 i0 i1 hlt'
    obtain ⟨m2, hm2⟩ : ∃ m2 : Md, m2 = m1 := ⟨_, rfl⟩
    have HM2 : Hid (m2.fs = m1.fs ∧ m2.room = m1.room ∧ m2.off = m1.off ∧ m2.armed = m1.armed ∧ m2.left = m1.left ∧ m2.written = m1.written ∧ m2.calls = m1.calls) := by rw [hm2]; exact ⟨rfl, rfl, rfl, rfl, rfl, rfl, rfl⟩
    have HS6 := HS5
    rw [← hm2] at HS6
    have HN2 : Hid (m2.fs.length ≤ 1000) := by rw [hm2]; exact HN1.out
    have hk1 : m2.fs[k]? = some f1 := by rw [hm2]; exact HK1.out
    have HE3 : Hid (R = (0, { m1 with used := (sumD m1.fs : Nat) + (c.data.size : Nat), written := m1.written + (c.data.size : Nat), fs := m2.fs.set k ⟨f1.name, f1.data ++ c.data, f1.safe, f1.blk⟩, mn := m1.mn + 1 })) := by rw [hm2]; exact HE2.out
    clear HE2
    have HE2 := HE3
    clear HE3 hm2 HK1 hkl HS5
    generalize w5 = w6 at *
    generalize hfc2 : fc = fc2 at *
    have HK1 := Lib.hid hk1
    have hkl : k < m2.fs.length := (List.getElem?_eq_some_iff.1 hk1).1
    obtain ⟨g, f1, hg0, hf1, u0, u1, u2, hfz⟩ := HS6.out.go.at_.at k hkl
    injection hg0 with hg0
    injection hg0 with hg0
    subst hg0
    have hff1 := Option.some.inj (hf1.symm.trans hk1)
    subst hff1
    have i0 : (0 : Int) ≤ (k : Int) := by omega
    have i1 : (k : Int) ≤ 1000 := by have := HN2.out; omega
    have hlt' : (k : Int) < (m2.fs.length : Int) := by omega
    have y1 := hfz (k * 3 + 1)
    have c1 : w6.cell? ⟨q, 1, none⟩ = some (.slice (some ⟨g, 0, none⟩) m2.fs.length fc2) := (md7 HS6.out.go.at_.ptr).2.1
    have HS7 := Lib.hid ((HS6.out.cell HK1.out 1 (by omega) (.string (f1.data ++ c.data)) (f' := ⟨f1.name, f1.data ++ c.data, f1.safe, f1.blk⟩) rfl).below (show Below _ _ (w6.setCell ⟨g, k * 3 + 1, none⟩ (.string (f1.data ++ c.data))).drew from below_dN (Below.refl _ _) 1))
    have hz1 : ¬ 9223372036854775807 < f1.data.size + c.data.size := by have := HZ.out; omega
    clear hk1 hf1 hfz u0 u2
    try go_wp2_with fail
    go_still_tail 18, (by kernel_rfl)
    change wpList _ _ _ _ _ w6.drew
    go_wp2_with fail
    generalize (w6.setCell ⟨g, k * 3 + 1, none⟩ (.string (f1.data ++ c.data))).drew = w7 at *
    clear q0 q1 q2 q3 q4 q5 q6 c1 u1 y1 hz1
    obtain ⟨q0, q1, q2, q3, q4, q5, q6⟩ := blk7 HS7.out.box
    have c5 : w7.cell? ⟨q, 5, none⟩ = some (.int .i64 m1.written) := by rw [← HM2.out.2.2.2.2.2.1]; exact (md7 HS7.out.go.at_.ptr).2.2.2.2.2.1
    have y5 : w7.frozen? ⟨q, 5, none⟩ = false := HS7.out.go.at_.ptr.frozen 5
    have hww : IntKind.i64.wrap (m1.written + (c.data.size : Nat)) = m1.written + (c.data.size : Nat) := IntWalk.i64_in _ (by have h1 := HOK1.out.2.2.2.2.2.1; have h2 := HCW.out; omega)
    have HS8 := Lib.hid ((HS7.out.turn 5 (.int .i64 (m1.written + (c.data.size : Nat))) { m2 with fs := m2.fs.set k ⟨f1.name, f1.data ++ c.data, f1.safe, f1.blk⟩, written := m1.written + (c.data.size : Nat) } rfl (fun v => rfl)).below (show Below _ _ (w7.setCell ⟨q, 5, none⟩ (.int .i64 (m1.written + (c.data.size : Nat)))).drew from below_dN (Below.refl _ _) 1))
    go_still_tail 11, (by kernel_rfl)
    change wpList _ _ _ _ _ w7.drew
    go_wp2_with fail
    go_ret
    rw [HE2.out]
    refine ⟨rfl, MdDone.like HS8.out.go.done ?_ ?_⟩
    · rfl
    · exact ⟨HM2.out.2.1.symm, HM2.out.2.2.1.symm, HM2.out.2.2.2.1.symm, HM2.out.2.2.2.2.1.symm, rfl, HM2.out.2.2.2.2.2.2.symm⟩
  | false =>
    obtain ⟨w3, hw3⟩ : ∃ W, W = w2 := ⟨_, rfl⟩
    have HS3 : Hid (DoSt base q w.heap.size c fa w w3 (bs m) fa fc) := by
      rw [hw3]
      refine HS2.out.like rfl ⟨rfl, rfl, rfl, ?_, rfl, rfl⟩
      unfold bs; rw [harm]; rfl
    rw [harm] at c3
    clear ha
    go_upto_region 9 with (fail)
    rw [← hw3]
    clear hcw hlw c3 c4 f4 HS2 hw3
    have HOK1 := Lib.hid (bs_ok HOK.out)
    have HN1 : Hid ((bs m).fs.length ≤ 1000) := HN.out
    clear HOK HN
    generalize bs m = m1 at *
    obtain ⟨q0, q1, q2, q3, q4, q5, q6⟩ := blk7 HS3.out.box
    rw [H0.out] at q0
    go_wp2_with fail
    go_at_call 18
    (with_reducible refine (right_any _ _).mono ?_)
    rintro x w4 ⟨rfl, hw⟩
    rw [hw]
    clear hw w4
    rw [hb]
    go_wp2_with fail
    go_at_call 25
    (with_reducible refine (find_any base q m1 fa fc c.name _ HS3.out.go.at_ HN1.out).mono ?_)
    rintro x w4 ⟨⟨i, rfl, hi⟩, hw⟩
    rw [hw]
    clear hw w4
    rcases hi with ⟨k, f', rfl, hk1, hk2⟩ | ⟨rfl, hk2⟩
    rotate_left
    · rw [HF.out] at hk2; cases hk2
    obtain rfl : f' = f := by rw [HF.out] at hk2; injection hk2 with hk2; exact hk2.symm
    have hkl : k < m1.fs.length := (List.getElem?_eq_some_iff.1 hk1).1
    have HSZ := Lib.hid (HOK1.out.2.2.2.2.2.2 f' (List.mem_of_getElem? hk1))
    have HFN := Lib.hid (findF_mem HF.out).2
    have c1 : w3.cell? ⟨q, 1, none⟩ = some (.slice fa m1.fs.length fc) := (md7 HS3.out.go.at_.ptr).2.1
    obtain ⟨g, f1, rfl, hf1, u0, u1, u2, hfz⟩ := HS3.out.go.at_.at k hkl
    obtain rfl : f1 = f' := by rw [hk1] at hf1; injection hf1 with hf1; exact hf1.symm
    have i0 : (0 : Int) ≤ (k : Int) := by omega
    have i1 : (k : Int) ≤ 1000 := by have := HN1.out; omega
    have hlt' : (k : Int) < (m1.fs.length : Int) := by omega
    have hw1 : IntKind.i64.wrap ((1048576 : Int) - (f1.data.size : Int)) = (1048576 : Int) - (f1.data.size : Int) := IntWalk.i64_in _ (by have := HSZ.out; omega)
    have HK1 := Lib.hid hk1
    clear hf1 hfz hk1 hk2
    go_wp2_with fail
    by_cases hlong : 1048576 < f1.data.size + c.data.size
    · have hlong' : (1048576 : Int) - (f1.data.size : Int) < (c.data.size : Int) := by omega
      rw [if_pos hlong] at HE
      go_quiet (fail)
      have HS4 := Lib.hid (HS3.out.below (below_dN (Below.refl _ _) nq))
      clear c1 u0 u1 u2 q0 q1 q2 q3 q4 q5 q6
      generalize w3.drewN nq = w4 at *
      go_wp2_with fail
      go_ret
      rw [HE.out]
      exact ⟨rfl, HS4.out.go.done⟩
    have hlong' : decide ((1048576 : Int) - (f1.data.size : Int) < (c.data.size : Int)) = false := decide_eq_false (by omega)
    have hlong2 : decide ((1048576 : Int) < (c.data.size : Int)) = false := decide_eq_false (by omega)
    rw [if_neg hlong] at HE
    go_quiet (fail)
    have HS4 := Lib.hid (HS3.out.below (below_dN (Below.refl _ _) nq))
    clear c1 u0 u1 u2 q0 q1 q2 q3 q4 q5 q6
    generalize w3.drewN nq = w4 at *
    obtain ⟨q0, q1, q2, q3, q4, q5, q6⟩ := blk7 HS4.out.box
    have c0 : w4.cell? ⟨q, 0, none⟩ = some (.int .i64 m1.room) := (md7 HS4.out.go.at_.ptr).1
    have HU : Hid (∀ n, MdAt base (w4.drewN n) q m1 (some ⟨g, 0, none⟩) fc) := fun n => HS4.out.go.at_.below (below_dN (Below.refl _ _) n)
    have HSUM : Hid (sumD m1.fs ≤ 1000000000) := by have := HOK1.out; show _ ≤ _; omega
    have hru : IntKind.i64.wrap (m1.room - (sumD m1.fs : Nat)) = m1.room - (sumD m1.fs : Nat) := IntWalk.i64_in _ (by have := HOK1.out; omega)
    have HSU : Hid (m1.used = (sumD m1.fs : Nat)) := HOK1.out.1
    rw [HSU.out] at HE
    go_wp2_with fail
    by_cases hfull : m1.room - (sumD m1.fs : Nat) < (c.data.size : Nat)
    · rw [if_pos hfull] at HE
      go_quiet ((go_at_call 40; exact Calls.quiet_of_same (musedd_any base q m1 (some ⟨g, 0, none⟩) fc _ (HU.out _) HN1.out HSUM.out)))
      have HS5 := Lib.hid (HS4.out.below (below_dN (Below.refl _ _) nq))
      go_wp2_with fail
      go_ret
      rw [HE.out]
      exact ⟨rfl, HS5.out.go.done⟩
    rw [if_neg hfull] at HE
    replace hfull : decide (m1.room - (sumD m1.fs : Nat) < (c.data.size : Nat)) = false := decide_eq_false hfull
    go_quiet ((go_at_call 40; exact Calls.quiet_of_same (musedd_any base q m1 (some ⟨g, 0, none⟩) fc _ (HU.out _) HN1.out HSUM.out)))
    have HS5 := Lib.hid (HS4.out.below (below_dN (Below.refl _ _) nq))
    clear c0 q0 q1 q2 q3 q4 q5 q6 hfull hru HU HS4
    generalize w4.drewN nq = w5 at *
    obtain ⟨q0, q1, q2, q3, q4, q5, q6⟩ := blk7 HS5.out.box
    go_wp2_with fail
    have HZ : Hid (f1.data.size + c.data.size ≤ 1000000000) := by show _ ≤ _; omega
    have HE2 : Hid (R = (0, { m1 with used := (sumD m1.fs : Nat) + (c.data.size : Nat), written := m1.written + (c.data.size : Nat), fs := m1.fs.set k ⟨f1.name, f1.data ++ c.data, f1.safe, f1.blk⟩, mn := m1.mn + 1 })) := by
      have e := updF_set (h := fun g => ⟨g.name, g.data ++ c.data, g.safe, g.blk⟩) HOK1.out.2.2.2.2.1 HK1.out
      rw [HFN.out] at e
      show R = _
      rw [HE.out, e, HFN.out]
    clear HE hlong hlong' hlong2 hw1 i0 i1 hlt'
    obtain ⟨m2, hm2⟩ : ∃ m2 : Md, m2 = m1 := ⟨_, rfl⟩
    have HM2 : Hid (m2.fs = m1.fs ∧ m2.room = m1.room ∧ m2.off = m1.off ∧ m2.armed = m1.armed ∧ m2.left = m1.left ∧ m2.written = m1.written ∧ m2.calls = m1.calls) := by rw [hm2]; exact ⟨rfl, rfl, rfl, rfl, rfl, rfl, rfl⟩
    have HS6 := HS5
    rw [← hm2] at HS6
    have HN2 : Hid (m2.fs.length ≤ 1000) := by rw [hm2]; exact HN1.out
    have hk1 : m2.fs[k]? = some f1 := by rw [hm2]; exact HK1.out
    have HE3 : Hid (R = (0, { m1 with used := (sumD m1.fs : Nat) + (c.data.size : Nat), written := m1.written + (c.data.size : Nat), fs := m2.fs.set k ⟨f1.name, f1.data ++ c.data, f1.safe, f1.blk⟩, mn := m1.mn + 1 })) := by rw [hm2]; exact HE2.out
    clear HE2
    have HE2 := HE3
    clear HE3 hm2 HK1 hkl HS5
    generalize w5 = w6 at *
    generalize hfc2 : fc = fc2 at *
    have HK1 := Lib.hid hk1
    have hkl : k < m2.fs.length := (List.getElem?_eq_some_iff.1 hk1).1
    obtain ⟨g, f1, hg0, hf1, u0, u1, u2, hfz⟩ := HS6.out.go.at_.at k hkl
    injection hg0 with hg0
    injection hg0 with hg0
    subst hg0
    have hff1 := Option.some.inj (hf1.symm.trans hk1)
    subst hff1
    have i0 : (0 : Int) ≤ (k : Int) := by omega
    have i1 : (k : Int) ≤ 1000 := by have := HN2.out; omega
    have hlt' : (k : Int) < (m2.fs.length : Int) := by omega
    have y1 := hfz (k * 3 + 1)
    have c1 : w6.cell? ⟨q, 1, none⟩ = some (.slice (some ⟨g, 0, none⟩) m2.fs.length fc2) := (md7 HS6.out.go.at_.ptr).2.1
    have HS7 := Lib.hid ((HS6.out.cell HK1.out 1 (by omega) (.string (f1.data ++ c.data)) (f' := ⟨f1.name, f1.data ++ c.data, f1.safe, f1.blk⟩) rfl).below (show Below _ _ (w6.setCell ⟨g, k * 3 + 1, none⟩ (.string (f1.data ++ c.data))).drew from below_dN (Below.refl _ _) 1))
    have hz1 : ¬ 9223372036854775807 < f1.data.size + c.data.size := by have := HZ.out; omega
    clear hk1 hf1 hfz u0 u2
    try go_wp2_with fail
    go_still_tail 18, (by kernel_rfl)
    change wpList _ _ _ _ _ w6.drew
    go_wp2_with fail
    generalize (w6.setCell ⟨g, k * 3 + 1, none⟩ (.string (f1.data ++ c.data))).drew = w7 at *
    clear q0 q1 q2 q3 q4 q5 q6 c1 u1 y1 hz1
    obtain ⟨q0, q1, q2, q3, q4, q5, q6⟩ := blk7 HS7.out.box
    have c5 : w7.cell? ⟨q, 5, none⟩ = some (.int .i64 m1.written) := by rw [← HM2.out.2.2.2.2.2.1]; exact (md7 HS7.out.go.at_.ptr).2.2.2.2.2.1
    have y5 : w7.frozen? ⟨q, 5, none⟩ = false := HS7.out.go.at_.ptr.frozen 5
    have hww : IntKind.i64.wrap (m1.written + (c.data.size : Nat)) = m1.written + (c.data.size : Nat) := IntWalk.i64_in _ (by have h1 := HOK1.out.2.2.2.2.2.1; have h2 := HCW.out; omega)
    have HS8 := Lib.hid ((HS7.out.turn 5 (.int .i64 (m1.written + (c.data.size : Nat))) { m2 with fs := m2.fs.set k ⟨f1.name, f1.data ++ c.data, f1.safe, f1.blk⟩, written := m1.written + (c.data.size : Nat) } rfl (fun v => rfl)).below (show Below _ _ (w7.setCell ⟨q, 5, none⟩ (.int .i64 (m1.written + (c.data.size : Nat)))).drew from below_dN (Below.refl _ _) 1))
    go_still_tail 11, (by kernel_rfl)
    change wpList _ _ _ _ _ w7.drew
    go_wp2_with fail
    go_ret
    rw [HE2.out]
    refine ⟨rfl, MdDone.like HS8.out.go.done ?_ ?_⟩
    · rfl
    · exact ⟨HM2.out.2.1.symm, HM2.out.2.2.1.symm, HM2.out.2.2.2.1.symm, HM2.out.2.2.2.2.1.symm, rfl, HM2.out.2.2.2.2.2.2.symm⟩
end Go.Proofs.Ytefpjdgfcgjbaaa
