/- A part of the proof: LiH, one behind another. -/
import Derived.Test.YtmiinmndbkdjbaaMAA
import Derived.Test.YtmiinmndbkdjbaaMAB
import Derived.Test.YtmiinmndbkdjbaaMAC
import Derived.Test.YtmiinmndbkdjbaaMAD
import Derived.Test.YtmiinmndbkdjbaaMAE
import Derived.Test.YtmiinmndbkdjbaaMAF
import Derived.Test.YtmiinmndbkdjbaaMAG
import Derived.Test.YtmiinmndbkdjbaaMAH
import Derived.Test.YtmiinmndbkdjbaaMAI
import Derived.Test.YtmiinmndbkdjbaaMAJ
import Derived.Test.YtmiinmndbkdjbaaMAK
import Derived.Test.YtmiinmndbkdjbaaMAL
import Derived.Test.YtmiinmndbkdjbaaMAM
import Derived.Test.YtmiinmndbkdjbaaMAN
import Derived.Test.YtmiinmndbkdjbaaMAO
import Derived.Test.YtmiinmndbkdjbaaMAQ
/- The contract of life.Start. -/
namespace Go.Proofs.Ytmiinmndbkdjbaa
set_option linter.unusedVariables false
set_option linter.unusedSimpArgs false
open Go.RowKit
/-- What comes is told. -/
def OutS (w : World) (s : RS) (x : Ending) : Prop := ∃ pa pc qa qc, x = .returned (.tuple #[.slice pa s.ps.length pc, .slice qa s.fs.length qc, .int .i64 0]) ∧ SlR ptK w [] s.ps pa s.ps.length pc ∧ SlR flK w [] s.fs qa s.fs.length qc
def OutE (e : Int) : Ending := .returned (.tuple #[.slice none 0 0, .slice none 0 0, .int .i64 e])
def s0 : RS := ⟨[], [], false⟩
theorem RunJ.start {base : Nat} {day : Int} {fx : List Fx} {fa : Option Addr} {fl fc : Nat} {w : World} (hS : SlR fxK w [] fx fa fl fc) (hb : base ≤ w.heap.size) :
    RunJ base w.heap.size day fx fa fl fc (w.alloc (.cells #[.int .i64 day, .slice fa fl fc, .slice none 0 0, .slice none 0 0, .bool false] 68)) s0 (.slice none 0 0) (.slice none 0 0) := by
  have h1 : Sep w [sl fxK fx fa fl fc] := (Sep.nil w).add (o := sl fxK fx fa fl fc) rfl hS
  have h2 := h1.new 68 #[.int .i64 day, .slice fa fl fc, .slice none 0 0, .slice none 0 0, .bool false]
  have hb2 : base ≤ (w.alloc (.cells #[.int .i64 day, .slice fa fl fc, .slice none 0 0, .slice none 0 0, .bool false] 68)).heap.size := by simp; omega
  exact ⟨(h2.addGr flK 55 hb2).addGr ptK 71 hb2⟩
/-- What a run holds, as slices like any other. -/
theorem RunJ.out {base rb : Nat} {day : Int} {fx : List Fx} {fa : Option Addr} {fl fc : Nat} {w : World} {s : RS} {vP vF : Value} (h : RunJ base rb day fx fa fl fc w s vP vF) :
    ∃ pa pc qa qc, vP = .slice pa s.ps.length pc ∧ vF = .slice qa s.fs.length qc ∧ SlR ptK w [] s.ps pa s.ps.length pc ∧ SlR flK w [] s.fs qa s.fs.length qc := by
  obtain ⟨pa, pc, h1, h2⟩ := h.sep.still 0 rfl
  obtain ⟨qa, qc, h3, h4⟩ := h.sep.still 1 rfl
  exact ⟨pa, pc, qa, qc, h1, h3, h2.free, h4.free⟩
theorem rT_parts0 {t : Te} (h : rT t = true) : t.nd ≤ 200 ∧ t.rk ≤ 16 ∧ bT t = true := by
  have e : rT t = (decide (t.nd ≤ 200 ∧ t.rk ≤ 16) && bT t) := rfl
  rw [e, Bool.and_eq_true, decide_eq_true_eq] at h
  exact ⟨h.1.1, h.1.2, h.2⟩
theorem X3_nil (rb : Nat) : X3 rb (.slice none 0 0) (.slice none 0 0) = [rb] := rfl
set_option maxRecDepth 100000 in
set_option maxHeartbeats 4000000 in
theorem start_err (day : Int) (fa : Option Addr) (fl fc : Nat) (t : Te) (cs : List Value) (w : World) (hT : RepT w [] t cs) (hk : t.rk < 1000) (hf : fitC t ≠ 0) :
    Calls Try.prog 9 #[.agg cs.toArray, .agg #[.int .i64 day, .slice fa fl fc]] w fun x w' => x = OutE (fitC t) ∧ Below w.heap.size w w' := by
  have HF := Lib.hid (fun W (hW : Below w.heap.size w W) => fitsX_any t cs W (hT.kept (Kept.of_below hW [])) hk)
  obtain ⟨op, nm, exprs, terms, xa, xl, xc, ta, tl, tc, e1, rfl, -, -, -, -⟩ := hT.inv
  generalize fitC t = F at *
  have hb1 := below_nT w (.cells #[.int .i64 op, .string nm, .slice xa xl xc, .slice ta tl tc] 32)
  have hb2 := below_nT (w.alloc (.cells #[.int .i64 op, .string nm, .slice xa xl xc, .slice ta tl tc] 32)) (.cells #[.int .i64 day, .slice fa fl fc] 44)
  have HB := Lib.hid (hb1.trans (hb2.mono hb1.size))
  have B1 := Lib.hid ((Mem.Blk.new w 32 #[.int .i64 op, .string nm, .slice xa xl xc, .slice ta tl tc]).below hb2)
  have hne : (F != 0) = true := bne_iff_ne.2 hf
  clear hb1 hb2 hT e1 hf
  go_enter Try.func9, Try.ntmps9
  go_upto_region 1 with (fail)
  generalize (w.alloc (.cells #[.int .i64 op, .string nm, .slice xa xl xc, .slice ta tl tc] 32)).alloc (.cells #[.int .i64 day, .slice fa fl fc] 44) = w2 at *
  obtain ⟨c0, c1, c2, c3, -, -, -, -⟩ := blk4 B1.out
  go_wp2_with fail
  (with_reducible refine (HF.out _ HB.out).mono ?_)
  rintro y w3 ⟨rfl, b3⟩
  have HB3 := Lib.hid (HB.out.trans (b3.mono HB.out.size))
  clear b3 HB HF
  go_wp2_with fail
  go_ret3
  exact ⟨rfl, HB3.out⟩
set_option maxRecDepth 100000 in
set_option maxHeartbeats 4000000 in
theorem start_bad (day : Int) (fx : List Fx) (fa : Option Addr) (fl fc : Nat) (t : Te) (cs : List Value) (w : World) (hd : I64 day) (hS : SlR fxK w [] fx fa fl fc) (hT : RepT w [] t cs) (hf : fitC t = 0) (hbad : (acq day fx t 1 false [] s0).bad = true) :
    Calls Try.prog 9 #[.agg cs.toArray, .agg #[.int .i64 day, .slice fa fl fc]] w fun x w' => x = OutE 2 ∧ Below w.heap.size w w' := by
  have hr : rT t = true := by
    unfold fitC at hf
    split at hf
    · assumption
    · cases hf
  obtain ⟨hnd, hrk, hbt⟩ := rT_parts0 hr
  have HF := Lib.hid (fun W (hW : Below w.heap.size w W) => fitsX_any t cs W (hT.kept (Kept.of_below hW [])) (by omega))
  rw [hf] at HF
  have HBD := Lib.hid hbad
  obtain ⟨S9, hS9⟩ : ∃ S, S = acq day fx t 1 false [] s0 := ⟨_, rfl⟩
  have HS9 := Lib.hid hS9
  have HT0 := Lib.hid hT
  have HSS := Lib.hid hS
  obtain ⟨op, nm, exprs, terms, xa, xl, xc, ta, tl, tc, e1, rfl, -, -, -, -⟩ := hT.inv
  have hb1 := below_nT w (.cells #[.int .i64 op, .string nm, .slice xa xl xc, .slice ta tl tc] 32)
  have hb2 := below_nT (w.alloc (.cells #[.int .i64 op, .string nm, .slice xa xl xc, .slice ta tl tc] 32)) (.cells #[.int .i64 day, .slice fa fl fc] 44)
  have HB := Lib.hid (hb1.trans (hb2.mono hb1.size))
  have B1 := Lib.hid ((Mem.Blk.new w 32 #[.int .i64 op, .string nm, .slice xa xl xc, .slice ta tl tc]).below hb2)
  have e0 : (w.alloc (.cells #[.int .i64 op, .string nm, .slice xa xl xc, .slice ta tl tc] 32)).heap.size = w.heap.size + 1 := by simp
  have b2' := Mem.Blk.new (w.alloc (.cells #[.int .i64 op, .string nm, .slice xa xl xc, .slice ta tl tc] 32)) 44 #[.int .i64 day, .slice fa fl fc]
  rw [e0] at b2'
  have B2 := Lib.hid b2'
  have HD := Lib.hid hd
  have HBT := Lib.hid hbt
  have HSM := Lib.hid (And.intro hnd hrk)
  clear hb1 hb2 b2' e0 hT hS e1 hf hbad hd hbt hnd hrk hr hS9
  go_enter Try.func9, Try.ntmps9
  go_upto_region 1 with (fail)
  generalize (w.alloc (.cells #[.int .i64 op, .string nm, .slice xa xl xc, .slice ta tl tc] 32)).alloc (.cells #[.int .i64 day, .slice fa fl fc] 44) = w2 at *
  obtain ⟨c0, c1, c2, c3, -, -, -, -⟩ := blk4 B1.out
  go_wp2_with fail
  (with_reducible refine (HF.out _ HB.out).mono ?_)
  rintro y w3 ⟨rfl, b3⟩
  have HB3 := Lib.hid (HB.out.trans (b3.mono HB.out.size))
  have B13 := Lib.hid (B1.out.below b3)
  have B23 := Lib.hid (B2.out.below b3)
  clear b3 HB HF B1 B2 c0 c1 c2 c3
  obtain ⟨e0, e1, -, -⟩ := B23.out.two
  go_upto_region 4 with (fail)
  have HJ4 := Lib.hid (RunJ.start (day := day) (base := w3.heap.size) (HSS.out.kept (Kept.of_below HB3.out [])) (Nat.le_refl _))
  have b4 := below_nT w3 (.cells #[.int .i64 day, .slice fa fl fc, .slice none 0 0, .slice none 0 0, .bool false] 68)
  have HB4 := Lib.hid (HB3.out.trans (b4.mono HB3.out.size))
  have B14 := Lib.hid (B13.out.below b4)
  have HT4 : Hid (RepT (w3.alloc (.cells #[.int .i64 day, .slice fa fl fc, .slice none 0 0, .slice none 0 0, .bool false] 68)) (X3 w3.heap.size (.slice none 0 0) (.slice none 0 0)) t [.int .i64 op, .string nm, .slice xa xl xc, .slice ta tl tc]) := by
    have h1 : RepT w3 [w3.heap.size] t [.int .i64 op, .string nm, .slice xa xl xc, .slice ta tl tc] := (HT0.out.kept (Kept.of_below HB3.out [])).less (fun b hb hm => by rw [List.mem_singleton] at hm; omega)
    exact h1.kept (Kept.of_below b4 _)
  have HBS := Lib.hid HB3.out.size
  clear b4
  go_upto_region 5 with (fail)
  obtain ⟨base9, hbase9⟩ : ∃ b, b = w3.heap.size := ⟨_, rfl⟩
  obtain ⟨rb9, hrb9⟩ : ∃ b, b = w3.heap.size := ⟨_, rfl⟩
  generalize w3.alloc (.cells #[.int .i64 day, .slice fa fl fc, .slice none 0 0, .slice none 0 0, .bool false] 68) = w4 at *
  generalize w3.heap.size = rb9' at *
  subst hbase9
  obtain rfl : rb9 = base9 := hrb9

  obtain ⟨c0, c1, c2, c3, -, -, -, -⟩ := blk4 B14.out
  have hA : Calls Try.prog 22 #[.pointer (some ⟨rb9, 0, none⟩), .agg #[.int .i64 1, .bool false, .slice none 0 0, .int .i64 op, .string nm, .slice xa xl xc, .slice ta tl tc]] w4 fun x w' => x = .returned (.tuple #[]) ∧ ∃ vP' vF', RunTo rb9 rb9 day fx fa fl fc w4 w' (.slice none 0 0) (.slice none 0 0) S9 vP' vF' := by
    have h := acquire_any rb9 rb9 day fx fa fl fc HD.out t.rk t (Nat.le_refl _) HBT.out 1 false [] s0 (.slice none 0 0) (.slice none 0 0) none 0 [.int .i64 op, .string nm, .slice xa xl xc, .slice ta tl tc] w4 ⟨by omega, by omega⟩ HJ4.out HT4.out ⟨[], rfl, fun i x cs hx _ => by simp at hx, Sl.nil _ _ _⟩ (by have := HSM.out; simp; omega) (by have := HSM.out; show 0 + _ ≤ _; omega) (by have := HSM.out; show 0 + _ ≤ _; omega)
    rw [← HS9.out] at h
    exact h
  have HA := Lib.hid hA
  clear hA e0 e1 B23 B13
  go_wp2_with fail
  (with_reducible refine HA.out.mono ?_)
  rintro y w6 ⟨rfl, pV, fV, hR6⟩
  have HR6 := Lib.hid hR6
  have HB6 : Hid (Below w.heap.size w w6) := HB4.out.trans (hR6.fr.below (B := w.heap.size) HB4.out.size (fun b hb => by
    rw [X3_nil, List.mem_singleton] at hb
    have := HBS.out; omega))
  clear hR6 HA HB4 B14 c0 c1 c2 c3 HJ4 HT4 HB3
  have HTL := Lib.hid (told_bad rb9 rb9 day fx fa fl fc S9 pV fV w6 HR6.out.run (by rw [HS9.out]; exact HBD.out))
  go_wp2_with fail
  go_at_call 23
  (with_reducible refine HTL.out.mono ?_)
  rintro y w7 ⟨rfl, b7⟩
  have HB7 := Lib.hid (HB6.out.trans (b7.mono HB6.out.size))
  clear b7 HTL
  go_wp2_with fail
  go_ret3
  exact ⟨rfl, HB7.out⟩
set_option maxRecDepth 100000 in
set_option maxHeartbeats 4000000 in
theorem start_ok (day : Int) (fx : List Fx) (fa : Option Addr) (fl fc : Nat) (t : Te) (cs : List Value) (w : World) (hd : I64 day) (hS : SlR fxK w [] fx fa fl fc) (hT : RepT w [] t cs) (hf : fitC t = 0) (hbad : (acq day fx t 1 false [] s0).bad = false) :
    Calls Try.prog 9 #[.agg cs.toArray, .agg #[.int .i64 day, .slice fa fl fc]] w fun x w' => OutS w' (acq day fx t 1 false [] s0) x ∧ Below w.heap.size w w' := by
  have hr : rT t = true := by
    unfold fitC at hf
    split at hf
    · assumption
    · cases hf
  obtain ⟨hnd, hrk, hbt⟩ := rT_parts0 hr
  have HF := Lib.hid (fun W (hW : Below w.heap.size w W) => fitsX_any t cs W (hT.kept (Kept.of_below hW [])) (by omega))
  rw [hf] at HF
  have HBD := Lib.hid hbad
  obtain ⟨S9, hS9⟩ : ∃ S, S = acq day fx t 1 false [] s0 := ⟨_, rfl⟩
  have HS9 := Lib.hid hS9
  have HT0 := Lib.hid hT
  have HSS := Lib.hid hS
  obtain ⟨op, nm, exprs, terms, xa, xl, xc, ta, tl, tc, e1, rfl, -, -, -, -⟩ := hT.inv
  have hb1 := below_nT w (.cells #[.int .i64 op, .string nm, .slice xa xl xc, .slice ta tl tc] 32)
  have hb2 := below_nT (w.alloc (.cells #[.int .i64 op, .string nm, .slice xa xl xc, .slice ta tl tc] 32)) (.cells #[.int .i64 day, .slice fa fl fc] 44)
  have HB := Lib.hid (hb1.trans (hb2.mono hb1.size))
  have B1 := Lib.hid ((Mem.Blk.new w 32 #[.int .i64 op, .string nm, .slice xa xl xc, .slice ta tl tc]).below hb2)
  have e0 : (w.alloc (.cells #[.int .i64 op, .string nm, .slice xa xl xc, .slice ta tl tc] 32)).heap.size = w.heap.size + 1 := by simp
  have b2' := Mem.Blk.new (w.alloc (.cells #[.int .i64 op, .string nm, .slice xa xl xc, .slice ta tl tc] 32)) 44 #[.int .i64 day, .slice fa fl fc]
  rw [e0] at b2'
  have B2 := Lib.hid b2'
  have HD := Lib.hid hd
  have HBT := Lib.hid hbt
  have HSM := Lib.hid (And.intro hnd hrk)
  clear hb1 hb2 b2' e0 hT hS e1 hf hbad hd hbt hnd hrk hr hS9
  go_enter Try.func9, Try.ntmps9
  go_upto_region 1 with (fail)
  generalize (w.alloc (.cells #[.int .i64 op, .string nm, .slice xa xl xc, .slice ta tl tc] 32)).alloc (.cells #[.int .i64 day, .slice fa fl fc] 44) = w2 at *
  obtain ⟨c0, c1, c2, c3, -, -, -, -⟩ := blk4 B1.out
  go_wp2_with fail
  (with_reducible refine (HF.out _ HB.out).mono ?_)
  rintro y w3 ⟨rfl, b3⟩
  have HB3 := Lib.hid (HB.out.trans (b3.mono HB.out.size))
  have B13 := Lib.hid (B1.out.below b3)
  have B23 := Lib.hid (B2.out.below b3)
  clear b3 HB HF B1 B2 c0 c1 c2 c3
  obtain ⟨e0, e1, -, -⟩ := B23.out.two
  go_upto_region 4 with (fail)
  have HJ4 := Lib.hid (RunJ.start (day := day) (base := w3.heap.size) (HSS.out.kept (Kept.of_below HB3.out [])) (Nat.le_refl _))
  have b4 := below_nT w3 (.cells #[.int .i64 day, .slice fa fl fc, .slice none 0 0, .slice none 0 0, .bool false] 68)
  have HB4 := Lib.hid (HB3.out.trans (b4.mono HB3.out.size))
  have B14 := Lib.hid (B13.out.below b4)
  have HT4 : Hid (RepT (w3.alloc (.cells #[.int .i64 day, .slice fa fl fc, .slice none 0 0, .slice none 0 0, .bool false] 68)) (X3 w3.heap.size (.slice none 0 0) (.slice none 0 0)) t [.int .i64 op, .string nm, .slice xa xl xc, .slice ta tl tc]) := by
    have h1 : RepT w3 [w3.heap.size] t [.int .i64 op, .string nm, .slice xa xl xc, .slice ta tl tc] := (HT0.out.kept (Kept.of_below HB3.out [])).less (fun b hb hm => by rw [List.mem_singleton] at hm; omega)
    exact h1.kept (Kept.of_below b4 _)
  have HBS := Lib.hid HB3.out.size
  clear b4
  go_upto_region 5 with (fail)
  obtain ⟨base9, hbase9⟩ : ∃ b, b = w3.heap.size := ⟨_, rfl⟩
  obtain ⟨rb9, hrb9⟩ : ∃ b, b = w3.heap.size := ⟨_, rfl⟩
  generalize w3.alloc (.cells #[.int .i64 day, .slice fa fl fc, .slice none 0 0, .slice none 0 0, .bool false] 68) = w4 at *
  generalize w3.heap.size = rb9' at *
  subst hbase9
  obtain rfl : rb9 = base9 := hrb9

  obtain ⟨c0, c1, c2, c3, -, -, -, -⟩ := blk4 B14.out
  have hA : Calls Try.prog 22 #[.pointer (some ⟨rb9, 0, none⟩), .agg #[.int .i64 1, .bool false, .slice none 0 0, .int .i64 op, .string nm, .slice xa xl xc, .slice ta tl tc]] w4 fun x w' => x = .returned (.tuple #[]) ∧ ∃ vP' vF', RunTo rb9 rb9 day fx fa fl fc w4 w' (.slice none 0 0) (.slice none 0 0) S9 vP' vF' := by
    have h := acquire_any rb9 rb9 day fx fa fl fc HD.out t.rk t (Nat.le_refl _) HBT.out 1 false [] s0 (.slice none 0 0) (.slice none 0 0) none 0 [.int .i64 op, .string nm, .slice xa xl xc, .slice ta tl tc] w4 ⟨by omega, by omega⟩ HJ4.out HT4.out ⟨[], rfl, fun i x cs hx _ => by simp at hx, Sl.nil _ _ _⟩ (by have := HSM.out; simp; omega) (by have := HSM.out; show 0 + _ ≤ _; omega) (by have := HSM.out; show 0 + _ ≤ _; omega)
    rw [← HS9.out] at h
    exact h
  have HA := Lib.hid hA
  clear hA e0 e1 B23 B13
  go_wp2_with fail
  (with_reducible refine HA.out.mono ?_)
  rintro y w6 ⟨rfl, pV, fV, hR6⟩
  have HR6 := Lib.hid hR6
  have HB6 : Hid (Below w.heap.size w w6) := HB4.out.trans (hR6.fr.below (B := w.heap.size) HB4.out.size (fun b hb => by
    rw [X3_nil, List.mem_singleton] at hb
    have := HBS.out; omega))
  clear hR6 HA HB4 B14 c0 c1 c2 c3 HJ4 HT4 HB3
  obtain ⟨pa, pc, qa, qc, rfl, rfl, hO1, hO2⟩ := HR6.out.run.out
  have HO := Lib.hid (And.intro hO1 hO2)
  have HTL := Lib.hid (told_ok rb9 rb9 day fx fa fl fc S9 pa S9.ps.length pc qa S9.fs.length qc w6 HR6.out.run (by rw [HS9.out]; exact HBD.out))
  clear hO1 hO2
  go_wp2_with fail
  go_at_call 23
  (with_reducible refine HTL.out.mono ?_)
  rintro y w7 ⟨rfl, b7⟩
  have HB7 := Lib.hid (HB6.out.trans (b7.mono HB6.out.size))
  have HFN : Hid (OutS w7 (acq day fx t 1 false [] s0) (.returned (.tuple #[.slice pa S9.ps.length pc, .slice qa S9.fs.length qc, .int .i64 0]))) := by
    rw [← HS9.out]
    exact ⟨pa, pc, qa, qc, rfl, HO.out.1.kept (Kept.of_below b7 _), HO.out.2.kept (Kept.of_below b7 _)⟩
  clear b7 HTL HO
  go_wp2_with fail
  go_ret3
  exact ⟨HFN.out, HB7.out⟩
end Go.Proofs.Ytmiinmndbkdjbaa
