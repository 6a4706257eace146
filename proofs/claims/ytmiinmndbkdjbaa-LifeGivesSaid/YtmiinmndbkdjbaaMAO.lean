/- A part of the proof: LiC, LiD, one behind another. -/
import Derived.Test.YtmiinmndbkdjbaaMAA
import Derived.Test.YtmiinmndbkdjbaaMAB
import Derived.Test.YtmiinmndbkdjbaaMAC
import Derived.Test.YtmiinmndbkdjbaaMAD
import Derived.Test.YtmiinmndbkdjbaaMAE
import Derived.Test.YtmiinmndbkdjbaaMAF
import Derived.Test.YtmiinmndbkdjbaaMAG
import Derived.Test.YtmiinmndbkdjbaaMAH
import Derived.Test.YtmiinmndbkdjbaaMAI
import Derived.Test.YtmiinmndbkdjbaaMAJ
import Derived.Test.YtmiinmndbkdjbaaMAK
import Derived.Test.YtmiinmndbkdjbaaMAL
import Derived.Test.YtmiinmndbkdjbaaMAM
import Derived.Test.YtmiinmndbkdjbaaMAN
/- What acquiring a term comes to, by its kind: plain; and walked: nothing, an amount. -/
namespace Go.Proofs.Ytmiinmndbkdjbaa
set_option linter.unusedVariables false
set_option linter.unusedSimpArgs false
open Go.RowKit
section
variable {day : Int} {fx : List Fx} {t : Te} {f : Int} {tn : Bool} {un : List Ex} {s : RS}
theorem acq1 (hb : bT t = true) (h : t.op = 1) : acq day fx t f tn un s = s := by
  rw [acq_eq day fx hb, acqB]
  split
  · rfl
  · rw [if_neg (by omega), if_neg (by omega), if_neg (by omega), if_neg (by omega), if_neg (by omega), if_neg (by omega)]
theorem acq2z (hb : bT t = true) (h : t.op = 2) (hf : f = 0) : acq day fx t f tn un s = s := by
  rw [acq_eq day fx hb, acqB]
  by_cases hs : s.bad = true
  · rw [if_pos hs]
  · rw [if_neg hs, if_pos h, if_pos hf]
theorem acq2 (hb : bT t = true) (hs : s.bad = false) (h : t.op = 2) (hf : f ≠ 0) : acq day fx t f tn un s = { s with fs := s.fs ++ [⟨t.nm, f⟩] } := by
  rw [acq_eq day fx hb, acqB, hs, if_neg (by simp), if_pos h, if_neg hf]
theorem acq3 (hb : bT t = true) (hs : s.bad = false) (h : t.op = 3) : acq day fx t f tn un s = acq day fx (t0 t) (fitN (fitI (-f))) (!tn) un { s with bad := !(fitB (fitI (-f))) } := by
  rw [acq_eq day fx hb, acqB, hs, if_neg (by simp), if_neg (by omega), if_pos h]
theorem acq4 (hb : bT t = true) (hs : s.bad = false) (h : t.op = 4) : acq day fx t f tn un s = acq day fx (t1 t) f tn un (acq day fx (t0 t) f tn un s) := by
  rw [acq_eq day fx hb, acqB, hs, if_neg (by simp), if_neg (by omega), if_neg (by omega), if_pos h]
theorem acq8k (hb : bT t = true) (hs : s.bad = false) (h : t.op = 8) (hK : (evalX day fx (x0 t)).K = 3) : acq day fx t f tn un s = { s with bad := true } := by
  rw [acq_eq day fx hb, acqB, hs, if_neg (by simp), if_neg (by omega), if_neg (by omega), if_neg (by omega), if_pos h, if_pos hK]
theorem acq8e (hb : bT t = true) (hs : s.bad = false) (h : t.op = 8) (hK : (evalX day fx (x0 t)).K ≠ 3) (hB : (evalX day fx (x0 t)).B = true) : acq day fx t f tn un s = s := by
  rw [acq_eq day fx hb, acqB, hs, if_neg (by simp), if_neg (by omega), if_neg (by omega), if_neg (by omega), if_pos h, if_neg hK, if_pos hB]
theorem acq8 (hb : bT t = true) (hs : s.bad = false) (h : t.op = 8) (hK : (evalX day fx (x0 t)).K ≠ 3) (hB : (evalX day fx (x0 t)).B = false) : acq day fx t f tn un s = acq day fx (t0 t) f tn (un ++ [x0 t]) s := by
  rw [acq_eq day fx hb, acqB, hs, if_neg (by simp), if_neg (by omega), if_neg (by omega), if_neg (by omega), if_pos h, if_neg hK, hB, if_neg (by simp)]
theorem acq67 (hb : bT t = true) (hs : s.bad = false) (h : t.op = 6 ∨ t.op = 7) : acq day fx t f tn un s = waitW (acq day fx) (evalX day fx (x0 t)) t f tn un s := by
  rw [acq_eq day fx hb, acqB, hs, if_neg (by simp), if_neg (by omega), if_neg (by omega), if_neg (by omega), if_neg (by omega), if_pos h]
theorem acq59 (hb : bT t = true) (hs : s.bad = false) (h : t.op = 5 ∨ t.op = 9) : acq day fx t f tn un s = { s with ps := s.ps ++ [⟨f, tn, un, t⟩] } := by
  rw [acq_eq day fx hb, acqB, hs, if_neg (by simp), if_neg (by omega), if_neg (by omega), if_neg (by omega), if_neg (by omega), if_neg (by omega), if_pos h]
end
theorem kid0_at {t : Te} (hb : bT t = true) (h : t.op = 3 ∨ t.op = 4 ∨ t.op = 8) : t.terms[0]? = some (t0 t) := by
  obtain ⟨k1, k2, -⟩ := te_kids hb
  by_cases h4 : t.op = 4
  · rw [k2 (.inl h4)]; rfl
  · rw [k1 (by omega)]; rfl
theorem kid0_bd {t : Te} (hb : bT t = true) (h : t.op = 3 ∨ t.op = 4 ∨ t.op = 8) : (t0 t).rk + 1 ≤ t.rk ∧ (t0 t).nd + 1 ≤ t.nd := by
  have := rk_kid (List.mem_of_getElem? (kid0_at hb h))
  obtain ⟨n1, n2, -⟩ := nd_kids hb
  refine ⟨by omega, ?_⟩
  by_cases h4 : t.op = 4
  · have := n1 h4; omega
  · exact n2 (by omega)
section
variable (base rb : Nat) (day : Int) (fx : List Fx) (fa : Option Addr) (fl fc : Nat) (t : Te) (f : Int) (tn : Bool) (un : List Ex) (s : RS) (vP vF : Value) (ua : Option Addr) (uc : Nat) (cs : List Value) (w : World)
set_option maxRecDepth 100000 in
set_option maxHeartbeats 4000000 in
theorem acq_bad_any (hJ : RunJ base rb day fx fa fl fc w s vP vF) (hT : RepT w (X3 rb vP vF) t cs) (hbad : s.bad = true) :
    Calls Try.prog 22 #[.pointer (some ⟨rb, 0, none⟩), .agg (.int .i64 f :: .bool tn :: .slice ua un.length uc :: cs).toArray] w fun x w' => x = .returned (.tuple #[]) ∧ ∃ vP' vF', RunTo base rb day fx fa fl fc w w' vP vF (acq day fx t f tn un s) vP' vF' := by
  rw [acq_bad hbad]
  obtain ⟨op, nm, exprs, terms, xa, xl, xc, ta, tl, tc, e1, e2, -, hnm, hX, hL⟩ := hT.inv
  subst e2
  have HJ := Lib.hid hJ
  have HBD := Lib.hid hbad
  have HS1 := Lib.hid (hJ.sep.new 71 #[.int .i64 f, .bool tn, .slice ua un.length uc, .int .i64 op, .string nm, .slice xa xl xc, .slice ta tl tc])
  have HN1 := Lib.hid (below_nT w (.cells #[.int .i64 f, .bool tn, .slice ua un.length uc, .int .i64 op, .string nm, .slice xa xl xc, .slice ta tl tc] 71))
  have HN2 := Lib.hid (HN1.out.trans ((below_nT (w.alloc (.cells #[.int .i64 f, .bool tn, .slice ua un.length uc, .int .i64 op, .string nm, .slice xa xl xc, .slice ta tl tc] 71)) (.cells #[.int .i64 op, .string nm, .slice xa xl xc, .slice ta tl tc] 32)).mono HN1.out.size))
  clear e1 hT hJ hX hL hnm hbad
  go_enter Try.func22, Try.ntmps22
  go_upto_region 1 with (fail)
  generalize w.alloc (.cells #[.int .i64 f, .bool tn, .slice ua un.length uc, .int .i64 op, .string nm, .slice xa xl xc, .slice ta tl tc] 71) = w1 at *
  obtain ⟨c0, c1, c2, c3, c4, c5, c6⟩ := blk7 (HS1.out.blk 0 rfl)
  go_upto_region 2 with (fail)
  generalize w1.alloc (.cells #[.int .i64 op, .string nm, .slice xa xl xc, .slice ta tl tc] 32) = w2 at *
  have q4 : w2.cell? ⟨rb, 4, none⟩ = some (.bool s.bad) := (HJ.out.below HN2.out).run.cells.cell 4
  rw [HBD.out] at q4
  go_wp2_with fail
  go_end0
  exact ⟨rfl, vP, vF, HJ.out.below HN2.out⟩
variable (hd : I64 day) (hf : I64 f) (hJ : RunJ base rb day fx fa fl fc w s vP vF) (hT : RepT w (X3 rb vP vF) t cs) (hU : SlR exK w (X3 rb vP vF) un ua un.length uc) (hb : bT t = true) (hbad : s.bad = false) (hk : un.length + t.rk ≤ 1000) (hP : s.ps.length + t.nd ≤ 100000) (hF : s.fs.length + t.nd ≤ 100000)
include hd hf hJ hT hU hb hbad hk hP hF
set_option maxRecDepth 100000 in
set_option maxHeartbeats 4000000 in
theorem acq1_any (hop : t.op = 1) :
    Calls Try.prog 22 #[.pointer (some ⟨rb, 0, none⟩), .agg (.int .i64 f :: .bool tn :: .slice ua un.length uc :: cs).toArray] w fun x w' => x = .returned (.tuple #[]) ∧ ∃ vP' vF', RunTo base rb day fx fa fl fc w w' vP vF (acq day fx t f tn un s) vP' vF' := by
  obtain ⟨op, nm, exprs, terms, xa, xl, xc, ta, tl, tc, e1, e2, -, hnm, hX, hL⟩ := hT.inv
  have hoe : op = t.op := by rw [e1]; rfl
  have hne : nm = t.nm := by rw [e1]; rfl
  have hxe : exprs = t.exprs := by rw [e1]; rfl
  have hte : terms = t.terms := by rw [e1]; rfl
  have HPT : Hid (ptK.R w (X3 rb vP vF) ⟨f, tn, un, t⟩ (.int .i64 f :: .bool tn :: .slice ua un.length uc :: cs)) := ⟨ua, uc, cs, rfl, hf, hU, hT⟩
  subst e2
  rw [hxe] at hX
  rw [hte] at hL
  clear e1 hxe hte
  obtain rfl : op = 1 := hoe.trans hop
  have HT := Lib.hid hT
  have HU := Lib.hid hU
  have HX := Lib.hid hX
  have HL := Lib.hid hL
  have HJ := Lib.hid hJ
  have HSM := Lib.hid (And.intro hk (And.intro hP hF))
  have HFI := Lib.hid hf
  have HBT := Lib.hid hb
  have HNM := Lib.hid hnm
  have HDY := Lib.hid hd
  have HOP := Lib.hid hop
  have HNE := Lib.hid hne
  have HBD := Lib.hid hbad
  have HRB : Hid (rb < w.heap.size) := hJ.lt rb (by unfold X3; simp)
  obtain ⟨S9, hS9⟩ : ∃ S9, S9 = acq day fx t f tn un s := ⟨_, rfl⟩
  rw [← hS9]
  have HSS := Lib.hid hS9
  have HS1 := Lib.hid (hJ.sep.new 71 #[.int .i64 f, .bool tn, .slice ua un.length uc, .int .i64 1, .string nm, .slice xa xl xc, .slice ta tl tc])
  have HS2 := Lib.hid (HS1.out.new 32 #[.int .i64 1, .string nm, .slice xa xl xc, .slice ta tl tc])
  have HN1 := Lib.hid (below_nT w (.cells #[.int .i64 f, .bool tn, .slice ua un.length uc, .int .i64 1, .string nm, .slice xa xl xc, .slice ta tl tc] 71))
  have HN2 := Lib.hid (HN1.out.trans ((below_nT (w.alloc (.cells #[.int .i64 f, .bool tn, .slice ua un.length uc, .int .i64 1, .string nm, .slice xa xl xc, .slice ta tl tc] 71)) (.cells #[.int .i64 1, .string nm, .slice xa xl xc, .slice ta tl tc] 32)).mono HN1.out.size))
  have HSZ : Hid ((w.alloc (.cells #[.int .i64 f, .bool tn, .slice ua un.length uc, .int .i64 1, .string nm, .slice xa xl xc, .slice ta tl tc] 71)).heap.size = w.heap.size + 1) := by show _ = _; simp
  clear hT hU hX hL hJ hk hP hF hf hb hnm hd hoe hne hS9 hop hbad
  go_enter Try.func22, Try.ntmps22
  go_upto_region 1 with (fail)
  generalize w.alloc (.cells #[.int .i64 f, .bool tn, .slice ua un.length uc, .int .i64 1, .string nm, .slice xa xl xc, .slice ta tl tc] 71) = w1 at *
  obtain ⟨c0, c1, c2, c3, c4, c5, c6⟩ := blk7 (HS1.out.blk 0 rfl)
  go_upto_region 2 with (fail)
  generalize w1.alloc (.cells #[.int .i64 1, .string nm, .slice xa xl xc, .slice ta tl tc] 32) = w2 at *
  generalize w1.heap.size = g1 at *
  clear c0 c1 c2 c3 c4 c5 c6
  have HG1 : Hid (w.heap.size < g1) := by have := HSZ.out; show _ < _; omega
  have q4 : w2.cell? ⟨rb, 4, none⟩ = some (.bool s.bad) := (HS2.out.blk 4 rfl).cell 4
  rw [HBD.out] at q4
  have y0 : w2.cell? ⟨g1, 0, none⟩ = some (.int .i64 1) := (HS2.out.blk 0 rfl).cell 0
  go_wp2_with fail
  go_end0
  exact ⟨rfl, vP, vF, by rw [HSS.out, acq1 HBT.out HOP.out]; exact HJ.out.below HN2.out⟩
set_option maxRecDepth 100000 in
set_option maxHeartbeats 4000000 in
theorem acq2z_any (hop : t.op = 2) (hz : f = 0) :
    Calls Try.prog 22 #[.pointer (some ⟨rb, 0, none⟩), .agg (.int .i64 f :: .bool tn :: .slice ua un.length uc :: cs).toArray] w fun x w' => x = .returned (.tuple #[]) ∧ ∃ vP' vF', RunTo base rb day fx fa fl fc w w' vP vF (acq day fx t f tn un s) vP' vF' := by
  have HZ := Lib.hid hz
  clear hz
  obtain ⟨op, nm, exprs, terms, xa, xl, xc, ta, tl, tc, e1, e2, -, hnm, hX, hL⟩ := hT.inv
  have hoe : op = t.op := by rw [e1]; rfl
  have hne : nm = t.nm := by rw [e1]; rfl
  have hxe : exprs = t.exprs := by rw [e1]; rfl
  have hte : terms = t.terms := by rw [e1]; rfl
  have HPT : Hid (ptK.R w (X3 rb vP vF) ⟨f, tn, un, t⟩ (.int .i64 f :: .bool tn :: .slice ua un.length uc :: cs)) := ⟨ua, uc, cs, rfl, hf, hU, hT⟩
  subst e2
  rw [hxe] at hX
  rw [hte] at hL
  clear e1 hxe hte
  obtain rfl : op = 2 := hoe.trans hop
  have HT := Lib.hid hT
  have HU := Lib.hid hU
  have HX := Lib.hid hX
  have HL := Lib.hid hL
  have HJ := Lib.hid hJ
  have HSM := Lib.hid (And.intro hk (And.intro hP hF))
  have HFI := Lib.hid hf
  have HBT := Lib.hid hb
  have HNM := Lib.hid hnm
  have HDY := Lib.hid hd
  have HOP := Lib.hid hop
  have HNE := Lib.hid hne
  have HBD := Lib.hid hbad
  have HRB : Hid (rb < w.heap.size) := hJ.lt rb (by unfold X3; simp)
  obtain ⟨S9, hS9⟩ : ∃ S9, S9 = acq day fx t f tn un s := ⟨_, rfl⟩
  rw [← hS9]
  have HSS := Lib.hid hS9
  have HS1 := Lib.hid (hJ.sep.new 71 #[.int .i64 f, .bool tn, .slice ua un.length uc, .int .i64 2, .string nm, .slice xa xl xc, .slice ta tl tc])
  have HS2 := Lib.hid (HS1.out.new 32 #[.int .i64 2, .string nm, .slice xa xl xc, .slice ta tl tc])
  have HN1 := Lib.hid (below_nT w (.cells #[.int .i64 f, .bool tn, .slice ua un.length uc, .int .i64 2, .string nm, .slice xa xl xc, .slice ta tl tc] 71))
  have HN2 := Lib.hid (HN1.out.trans ((below_nT (w.alloc (.cells #[.int .i64 f, .bool tn, .slice ua un.length uc, .int .i64 2, .string nm, .slice xa xl xc, .slice ta tl tc] 71)) (.cells #[.int .i64 2, .string nm, .slice xa xl xc, .slice ta tl tc] 32)).mono HN1.out.size))
  have HSZ : Hid ((w.alloc (.cells #[.int .i64 f, .bool tn, .slice ua un.length uc, .int .i64 2, .string nm, .slice xa xl xc, .slice ta tl tc] 71)).heap.size = w.heap.size + 1) := by show _ = _; simp
  clear hT hU hX hL hJ hk hP hF hf hb hnm hd hoe hne hS9 hop hbad
  go_enter Try.func22, Try.ntmps22
  go_upto_region 1 with (fail)
  generalize w.alloc (.cells #[.int .i64 f, .bool tn, .slice ua un.length uc, .int .i64 2, .string nm, .slice xa xl xc, .slice ta tl tc] 71) = w1 at *
  obtain ⟨c0, c1, c2, c3, c4, c5, c6⟩ := blk7 (HS1.out.blk 0 rfl)
  go_upto_region 2 with (fail)
  generalize w1.alloc (.cells #[.int .i64 2, .string nm, .slice xa xl xc, .slice ta tl tc] 32) = w2 at *
  generalize w1.heap.size = g1 at *
  clear c0 c1 c2 c3 c4 c5 c6
  have HG1 : Hid (w.heap.size < g1) := by have := HSZ.out; show _ < _; omega
  have q4 : w2.cell? ⟨rb, 4, none⟩ = some (.bool s.bad) := (HS2.out.blk 4 rfl).cell 4
  rw [HBD.out] at q4
  have y0 : w2.cell? ⟨g1, 0, none⟩ = some (.int .i64 2) := (HS2.out.blk 0 rfl).cell 0
  have b0 : w2.cell? ⟨w.heap.size, 0, none⟩ = some (.int .i64 f) := (HS2.out.blk 1 rfl).cell 0
  rw [HZ.out] at b0
  go_wp2_with fail
  go_end0
  exact ⟨rfl, vP, vF, by rw [HSS.out, acq2z HBT.out HOP.out HZ.out]; exact HJ.out.below HN2.out⟩
set_option maxRecDepth 100000 in
set_option maxHeartbeats 4000000 in
theorem acq2_any (hop : t.op = 2) (hz : f ≠ 0) :
    Calls Try.prog 22 #[.pointer (some ⟨rb, 0, none⟩), .agg (.int .i64 f :: .bool tn :: .slice ua un.length uc :: cs).toArray] w fun x w' => x = .returned (.tuple #[]) ∧ ∃ vP' vF', RunTo base rb day fx fa fl fc w w' vP vF (acq day fx t f tn un s) vP' vF' := by
  have HZ := Lib.hid hz
  have hz' : (f != 0) = true := bne_iff_ne.2 hz
  clear hz
  obtain ⟨op, nm, exprs, terms, xa, xl, xc, ta, tl, tc, e1, e2, -, hnm, hX, hL⟩ := hT.inv
  have hoe : op = t.op := by rw [e1]; rfl
  have hne : nm = t.nm := by rw [e1]; rfl
  have hxe : exprs = t.exprs := by rw [e1]; rfl
  have hte : terms = t.terms := by rw [e1]; rfl
  have HPT : Hid (ptK.R w (X3 rb vP vF) ⟨f, tn, un, t⟩ (.int .i64 f :: .bool tn :: .slice ua un.length uc :: cs)) := ⟨ua, uc, cs, rfl, hf, hU, hT⟩
  subst e2
  rw [hxe] at hX
  rw [hte] at hL
  clear e1 hxe hte
  obtain rfl : op = 2 := hoe.trans hop
  have HT := Lib.hid hT
  have HU := Lib.hid hU
  have HX := Lib.hid hX
  have HL := Lib.hid hL
  have HJ := Lib.hid hJ
  have HSM := Lib.hid (And.intro hk (And.intro hP hF))
  have HFI := Lib.hid hf
  have HBT := Lib.hid hb
  have HNM := Lib.hid hnm
  have HDY := Lib.hid hd
  have HOP := Lib.hid hop
  have HNE := Lib.hid hne
  have HBD := Lib.hid hbad
  have HRB : Hid (rb < w.heap.size) := hJ.lt rb (by unfold X3; simp)
  obtain ⟨S9, hS9⟩ : ∃ S9, S9 = acq day fx t f tn un s := ⟨_, rfl⟩
  rw [← hS9]
  have HSS := Lib.hid hS9
  have HS1 := Lib.hid (hJ.sep.new 71 #[.int .i64 f, .bool tn, .slice ua un.length uc, .int .i64 2, .string nm, .slice xa xl xc, .slice ta tl tc])
  have HS2 := Lib.hid (HS1.out.new 32 #[.int .i64 2, .string nm, .slice xa xl xc, .slice ta tl tc])
  have HN1 := Lib.hid (below_nT w (.cells #[.int .i64 f, .bool tn, .slice ua un.length uc, .int .i64 2, .string nm, .slice xa xl xc, .slice ta tl tc] 71))
  have HN2 := Lib.hid (HN1.out.trans ((below_nT (w.alloc (.cells #[.int .i64 f, .bool tn, .slice ua un.length uc, .int .i64 2, .string nm, .slice xa xl xc, .slice ta tl tc] 71)) (.cells #[.int .i64 2, .string nm, .slice xa xl xc, .slice ta tl tc] 32)).mono HN1.out.size))
  have HSZ : Hid ((w.alloc (.cells #[.int .i64 f, .bool tn, .slice ua un.length uc, .int .i64 2, .string nm, .slice xa xl xc, .slice ta tl tc] 71)).heap.size = w.heap.size + 1) := by show _ = _; simp
  clear hT hU hX hL hJ hk hP hF hf hb hnm hd hoe hne hS9 hop hbad
  go_enter Try.func22, Try.ntmps22
  go_upto_region 1 with (fail)
  generalize w.alloc (.cells #[.int .i64 f, .bool tn, .slice ua un.length uc, .int .i64 2, .string nm, .slice xa xl xc, .slice ta tl tc] 71) = w1 at *
  obtain ⟨c0, c1, c2, c3, c4, c5, c6⟩ := blk7 (HS1.out.blk 0 rfl)
  go_upto_region 2 with (fail)
  generalize w1.alloc (.cells #[.int .i64 2, .string nm, .slice xa xl xc, .slice ta tl tc] 32) = w2 at *
  generalize w1.heap.size = g1 at *
  clear c0 c1 c2 c3 c4 c5 c6
  have HG1 : Hid (w.heap.size < g1) := by have := HSZ.out; show _ < _; omega
  have q4 : w2.cell? ⟨rb, 4, none⟩ = some (.bool s.bad) := (HS2.out.blk 4 rfl).cell 4
  rw [HBD.out] at q4
  have y0 : w2.cell? ⟨g1, 0, none⟩ = some (.int .i64 2) := (HS2.out.blk 0 rfl).cell 0
  have b0 : w2.cell? ⟨w.heap.size, 0, none⟩ = some (.int .i64 f) := (HS2.out.blk 1 rfl).cell 0
  have y1 : w2.cell? ⟨g1, 1, none⟩ = some (.string nm) := (HS2.out.blk 0 rfl).cell 1
  have HJ2 := Lib.hid (HJ.out.below HN2.out)
  go_upto_region 4 with (fail)
  clear hz' q4 y0
  have d1 : w2.cell? ⟨rb, 3, none⟩ = some vF := HJ2.out.run.cells.cell 3
  refine wp_region_any (by kernel_rfl) ?_
  refine any_take (i := 0) (v := ?_) rfl (by kernel_rfl) (fun _ _ _ h => h) (Or.inl ⟨by rfl, ?_⟩) ?_
  rotate_left
  · intro W
    go_simp
    try with_reducible rfl
  try simp only [Act.put, List.getElem_toArray, List.getElem_cons_zero, List.getElem_cons_succ, List.setIfInBounds_toArray, List.set_cons_zero, List.set_cons_succ]
  refine any_of_till (n := 11) (S := fun W => W.cell? ⟨rb, 3, none⟩ = some vF ∧ W.cell? ⟨w.heap.size, 0, none⟩ = some (.int .i64 f) ∧ W.cell? ⟨g1, 1, none⟩ = some (.string nm)) _ _ _ _ ?_
  refine till_take (i := 1) (v := ?_) rfl (by kernel_rfl) (fun _ _ _ h => h) (Or.inl ⟨by rfl, ?_⟩) ⟨d1,b0,y1⟩ ?_
  rotate_left
  · intro W hS
    try dsimp only at hS
    go_split_ands
    go_simp
    try with_reducible rfl
  try simp only [Act.put, List.getElem_toArray, List.getElem_cons_zero, List.getElem_cons_succ, List.setIfInBounds_toArray, List.set_cons_zero, List.set_cons_succ]
  refine till_take (i := 2) (v := ?_) rfl (by kernel_rfl) (fun _ _ _ h => h) (Or.inl ⟨by rfl, ?_⟩) ⟨d1,b0,y1⟩ ?_
  rotate_left
  · intro W hS
    try dsimp only at hS
    go_split_ands
    go_simp
    try with_reducible rfl
  try simp only [Act.put, List.getElem_toArray, List.getElem_cons_zero, List.getElem_cons_succ, List.setIfInBounds_toArray, List.set_cons_zero, List.set_cons_succ]
  refine till_take (i := 3) (v := ?_) rfl (by kernel_rfl) (fun _ _ _ h => h) (Or.inl ⟨by rfl, ?_⟩) ⟨d1,b0,y1⟩ ?_
  rotate_left
  · intro W hS
    try dsimp only at hS
    go_split_ands
    go_simp
    try with_reducible rfl
  try simp only [Act.put, List.getElem_toArray, List.getElem_cons_zero, List.getElem_cons_succ, List.setIfInBounds_toArray, List.set_cons_zero, List.set_cons_succ]
  refine till_take (i := 4) (v := ?_) rfl (by kernel_rfl) (fun _ _ _ h => h) (Or.inl ⟨by rfl, ?_⟩) ⟨d1,b0,y1⟩ ?_
  rotate_left
  · intro W hS
    try dsimp only at hS
    go_split_ands
    go_simp
    try with_reducible rfl
  try simp only [Act.put, List.getElem_toArray, List.getElem_cons_zero, List.getElem_cons_succ, List.setIfInBounds_toArray, List.set_cons_zero, List.set_cons_succ]
  refine till_take (i := 5) (v := ?_) rfl (by kernel_rfl) (fun _ _ _ h => h) (Or.inl ⟨by rfl, ?_⟩) ⟨d1,b0,y1⟩ ?_
  rotate_left
  · intro W hS
    try dsimp only at hS
    go_split_ands
    go_simp
    try with_reducible rfl
  try simp only [Act.put, List.getElem_toArray, List.getElem_cons_zero, List.getElem_cons_succ, List.setIfInBounds_toArray, List.set_cons_zero, List.set_cons_succ]
  refine till_take (i := 6) (v := ?_) rfl (by kernel_rfl) (fun _ _ _ h => h) (Or.inl ⟨by rfl, ?_⟩) ⟨d1,b0,y1⟩ ?_
  rotate_left
  · intro W hS
    try dsimp only at hS
    go_split_ands
    go_simp
    try with_reducible rfl
  try simp only [Act.put, List.getElem_toArray, List.getElem_cons_zero, List.getElem_cons_succ, List.setIfInBounds_toArray, List.set_cons_zero, List.set_cons_succ]
  refine till_take (i := 7) (v := ?_) rfl (by kernel_rfl) (fun _ _ _ h => h) (Or.inl ⟨by rfl, ?_⟩) ⟨d1,b0,y1⟩ ?_
  rotate_left
  · intro W hS
    try dsimp only at hS
    go_split_ands
    go_simp
    try with_reducible rfl
  try simp only [Act.put, List.getElem_toArray, List.getElem_cons_zero, List.getElem_cons_succ, List.setIfInBounds_toArray, List.set_cons_zero, List.set_cons_succ]
  refine till_take (i := 8) (v := ?_) rfl (by kernel_rfl) (fun _ _ _ h => h) (Or.inl ⟨by rfl, ?_⟩) ⟨d1,b0,y1⟩ ?_
  rotate_left
  · intro W hS
    try dsimp only at hS
    go_split_ands
    go_simp
    try with_reducible rfl
  try simp only [Act.put, List.getElem_toArray, List.getElem_cons_zero, List.getElem_cons_succ, List.setIfInBounds_toArray, List.set_cons_zero, List.set_cons_succ]
  refine till_take (i := 9) (v := ?_) rfl (by kernel_rfl) (fun _ _ _ h => h) (Or.inl ⟨by rfl, ?_⟩) ⟨d1,b0,y1⟩ ?_
  rotate_left
  · intro W hS
    try dsimp only at hS
    go_split_ands
    go_simp
    try with_reducible rfl
  try simp only [Act.put, List.getElem_toArray, List.getElem_cons_zero, List.getElem_cons_succ, List.setIfInBounds_toArray, List.set_cons_zero, List.set_cons_succ]
  refine till_one (i := 10) (by kernel_rfl) rfl (fun K' hK => ?_)
  go_simp
  have hbn : Below w2.heap.size w2 (w2.alloc (.cells #[.string nm, .int .i64 f] 55)).drew := (below_nT w2 (.cells #[.string nm, .int .i64 f] 55)).drew
  have HB2 := Lib.hid (HJ2.out.trans (HJ2.out.run.below hbn))
  have BZ := Lib.hid (Mem.Blk.new w2 55 #[.string nm, .int .i64 f]).drew
  refine hK _ _ ⟨cell_up d1 hbn, cell_up b0 hbn, cell_up y1 hbn⟩ ?_
  clear hK K' hbn d1 b0 y1
  generalize (w2.alloc (.cells #[.string nm, .int .i64 f] 55)).drew = w5 at *
  generalize w2.heap.size = zz at *
  try simp only [Act.put, List.getElem_toArray, List.getElem_cons_zero, List.getElem_cons_succ, List.setIfInBounds_toArray, List.set_cons_zero, List.set_cons_succ]
  refine till_last (by kernel_rfl) rfl (by kernel_rfl) (fun K' hK => ?_)
  obtain ⟨csl, hGr⟩ := HB2.out.run.sep.at 1 rfl
  have hRp : flK.R w5 (X3 rb vP vF) ⟨nm, f⟩ [.string nm, .int .i64 f] := ⟨rfl, by have := HNM.out; show nm.size ≤ maxLen; unfold maxLen; omega, HFI.out⟩
  refine step_ap infoLF Try.underlying38 rfl (by decide) rfl (.tmp 28) (.tmp 34) rfl rfl hGr.own hGr.room ⟨zz, 0, none⟩ 1 1 [.string nm, .int .i64 f] rfl rfl (fun m u hm => by rw [Mem.add0, BZ.out.cell]; simpa using hm) (by simp [Value.oneCell']) (by have := HSM.out; unfold maxLen; omega) (by have := HSM.out; omega) ?_
  intro v' w6 og gg hv'
  obtain ⟨gP, capn, rfl, -, -, -, -⟩ := own_form og (by omega)
  have MB := (HB2.out.run.sep.push 1 rfl hGr (x := ⟨nm, f⟩) (c := [.string nm, .int .i64 f]) (by rw [owns_famR]; exact hRp) og gg hv').blk 2 rfl
  have m4 : w6.cell? ⟨rb, 3, none⟩ = some vF := MB.cell 3
  have m5 : w6.frozen? ⟨rb, 3, none⟩ = false := MB.frozen 3
  have HB3 := Lib.hid (HB2.out.trans (HB2.out.run.pushF hGr (x := ⟨nm, f⟩) (c := [.string nm, .int .i64 f]) hRp og gg hv'))
  clear HB2 hGr og gg hv' BZ hRp MB
  refine hK _ _ ?_
  clear hK K'
  try simp only [Act.put, List.getElem_toArray, List.getElem_cons_zero, List.getElem_cons_succ, List.setIfInBounds_toArray, List.set_cons_zero, List.set_cons_succ]
  refine any_take (i := 12) (v := ?_) rfl (by kernel_rfl) (fun _ _ _ h => h) (Or.inl ⟨by rfl, ?_⟩) ?_
  rotate_left
  · intro W
    go_simp
    try with_reducible rfl
  try simp only [Act.put, List.getElem_toArray, List.getElem_cons_zero, List.getElem_cons_succ, List.setIfInBounds_toArray, List.set_cons_zero, List.set_cons_succ]
  refine any_take (i := 13) (v := ?_) rfl (by kernel_rfl) (fun _ _ _ h => h) (Or.inl ⟨by rfl, ?_⟩) ?_
  rotate_left
  · intro W
    go_simp
    try with_reducible rfl
  try simp only [Act.put, List.getElem_toArray, List.getElem_cons_zero, List.getElem_cons_succ, List.setIfInBounds_toArray, List.set_cons_zero, List.set_cons_succ]
  refine any_one (i := 14) (by kernel_rfl) rfl (fun K' hK => ?_)
  go_simp
  refine hK _ _ ?_
  clear hK K' m4 m5
  refine wpAny_done (by kernel_rfl) ?_ _
  go_wp2_with fail
  go_end0
  exact ⟨rfl, vP, _, by rw [HSS.out, acq2 HBT.out HBD.out HOP.out HZ.out, ← HNE.out]; exact HB3.out⟩
end
end Go.Proofs.Ytmiinmndbkdjbaa

/- What acquiring a term comes to, walked: a part; what waits; what is given; both. -/
namespace Go.Proofs.Ytmiinmndbkdjbaa
set_option linter.unusedVariables false
set_option linter.unusedSimpArgs false
open Go.RowKit
section
variable (base rb : Nat) (day : Int) (fx : List Fx) (fa : Option Addr) (fl fc : Nat) (t : Te) (f : Int) (tn : Bool) (un : List Ex) (s : RS) (vP vF : Value) (ua : Option Addr) (uc : Nat) (cs : List Value) (w : World)
variable (hd : I64 day) (hf : I64 f) (hJ : RunJ base rb day fx fa fl fc w s vP vF) (hT : RepT w (X3 rb vP vF) t cs) (hU : SlR exK w (X3 rb vP vF) un ua un.length uc) (hb : bT t = true) (hbad : s.bad = false) (hk : un.length + t.rk ≤ 1000) (hP : s.ps.length + t.nd ≤ 100000) (hF : s.fs.length + t.nd ≤ 100000)
include hd hf hJ hT hU hb hbad hk hP hF
set_option maxRecDepth 100000 in
set_option maxHeartbeats 4000000 in
theorem acq5_any (hop : t.op = 5) :
    Calls Try.prog 22 #[.pointer (some ⟨rb, 0, none⟩), .agg (.int .i64 f :: .bool tn :: .slice ua un.length uc :: cs).toArray] w fun x w' => x = .returned (.tuple #[]) ∧ ∃ vP' vF', RunTo base rb day fx fa fl fc w w' vP vF (acq day fx t f tn un s) vP' vF' := by
  obtain ⟨op, nm, exprs, terms, xa, xl, xc, ta, tl, tc, e1, e2, -, hnm, hX, hL⟩ := hT.inv
  have hoe : op = t.op := by rw [e1]; rfl
  have hne : nm = t.nm := by rw [e1]; rfl
  have hxe : exprs = t.exprs := by rw [e1]; rfl
  have hte : terms = t.terms := by rw [e1]; rfl
  have HPT : Hid (ptK.R w (X3 rb vP vF) ⟨f, tn, un, t⟩ (.int .i64 f :: .bool tn :: .slice ua un.length uc :: cs)) := ⟨ua, uc, cs, rfl, hf, hU, hT⟩
  subst e2
  rw [hxe] at hX
  rw [hte] at hL
  clear e1 hxe hte
  obtain rfl : op = 5 := hoe.trans hop
  have HT := Lib.hid hT
  have HU := Lib.hid hU
  have HX := Lib.hid hX
  have HL := Lib.hid hL
  have HJ := Lib.hid hJ
  have HSM := Lib.hid (And.intro hk (And.intro hP hF))
  have HFI := Lib.hid hf
  have HBT := Lib.hid hb
  have HNM := Lib.hid hnm
  have HDY := Lib.hid hd
  have HOP := Lib.hid hop
  have HNE := Lib.hid hne
  have HBD := Lib.hid hbad
  have HRB : Hid (rb < w.heap.size) := hJ.lt rb (by unfold X3; simp)
  obtain ⟨S9, hS9⟩ : ∃ S9, S9 = acq day fx t f tn un s := ⟨_, rfl⟩
  rw [← hS9]
  have HSS := Lib.hid hS9
  have HS1 := Lib.hid (hJ.sep.new 71 #[.int .i64 f, .bool tn, .slice ua un.length uc, .int .i64 5, .string nm, .slice xa xl xc, .slice ta tl tc])
  have HS2 := Lib.hid (HS1.out.new 32 #[.int .i64 5, .string nm, .slice xa xl xc, .slice ta tl tc])
  have HN1 := Lib.hid (below_nT w (.cells #[.int .i64 f, .bool tn, .slice ua un.length uc, .int .i64 5, .string nm, .slice xa xl xc, .slice ta tl tc] 71))
  have HN2 := Lib.hid (HN1.out.trans ((below_nT (w.alloc (.cells #[.int .i64 f, .bool tn, .slice ua un.length uc, .int .i64 5, .string nm, .slice xa xl xc, .slice ta tl tc] 71)) (.cells #[.int .i64 5, .string nm, .slice xa xl xc, .slice ta tl tc] 32)).mono HN1.out.size))
  have HSZ : Hid ((w.alloc (.cells #[.int .i64 f, .bool tn, .slice ua un.length uc, .int .i64 5, .string nm, .slice xa xl xc, .slice ta tl tc] 71)).heap.size = w.heap.size + 1) := by show _ = _; simp
  clear hT hU hX hL hJ hk hP hF hf hb hnm hd hoe hne hS9 hop hbad
  go_enter Try.func22, Try.ntmps22
  go_upto_region 1 with (fail)
  generalize w.alloc (.cells #[.int .i64 f, .bool tn, .slice ua un.length uc, .int .i64 5, .string nm, .slice xa xl xc, .slice ta tl tc] 71) = w1 at *
  obtain ⟨c0, c1, c2, c3, c4, c5, c6⟩ := blk7 (HS1.out.blk 0 rfl)
  go_upto_region 2 with (fail)
  generalize w1.alloc (.cells #[.int .i64 5, .string nm, .slice xa xl xc, .slice ta tl tc] 32) = w2 at *
  generalize w1.heap.size = g1 at *
  clear c0 c1 c2 c3 c4 c5 c6
  have HG1 : Hid (w.heap.size < g1) := by have := HSZ.out; show _ < _; omega
  have q4 : w2.cell? ⟨rb, 4, none⟩ = some (.bool s.bad) := (HS2.out.blk 4 rfl).cell 4
  rw [HBD.out] at q4
  have y0 : w2.cell? ⟨g1, 0, none⟩ = some (.int .i64 5) := (HS2.out.blk 0 rfl).cell 0
  have BP2 : Hid (Mem.Blk w2 w.heap.size 71 #[.int .i64 f, .bool tn, .slice ua un.length uc, .int .i64 5, .string nm, .slice xa xl xc, .slice ta tl tc]) := HS2.out.blk 1 rfl
  have HJ2 := Lib.hid (HJ.out.below HN2.out)
  go_upto_region 21 with (fail)
  clear q4 y0
  have d1 : w2.cell? ⟨rb, 2, none⟩ = some vP := HJ2.out.run.cells.cell 2
  obtain ⟨c0, c1, c2, c3, c4, c5, c6⟩ := blk7 BP2.out
  refine wp_region_any (by kernel_rfl) ?_
  refine any_take (i := 0) (v := ?_) rfl (by kernel_rfl) (fun _ _ _ h => h) (Or.inl ⟨by rfl, ?_⟩) ?_
  rotate_left
  · intro W
    go_simp
    try with_reducible rfl
  try simp only [Act.put, List.getElem_toArray, List.getElem_cons_zero, List.getElem_cons_succ, List.setIfInBounds_toArray, List.set_cons_zero, List.set_cons_succ]
  refine any_of_till (n := 7) (S := fun W => W.cell? ⟨rb, 2, none⟩ = some vP ∧ W.cell? ⟨w.heap.size, 0, none⟩ = some (.int .i64 f) ∧ W.cell? ⟨w.heap.size, 1, none⟩ = some (.bool tn) ∧ W.cell? ⟨w.heap.size, 2, none⟩ = some (.slice ua un.length uc) ∧ W.cell? ⟨w.heap.size, 3, none⟩ = some (.int .i64 5) ∧ W.cell? ⟨w.heap.size, 4, none⟩ = some (.string nm) ∧ W.cell? ⟨w.heap.size, 5, none⟩ = some (.slice xa xl xc) ∧ W.cell? ⟨w.heap.size, 6, none⟩ = some (.slice ta tl tc)) _ _ _ _ ?_
  refine till_take (i := 1) (v := ?_) rfl (by kernel_rfl) (fun _ _ _ h => h) (Or.inl ⟨by rfl, ?_⟩) ⟨d1,c0,c1,c2,c3,c4,c5,c6⟩ ?_
  rotate_left
  · intro W hS
    try dsimp only at hS
    go_split_ands
    go_simp
    try with_reducible rfl
  try simp only [Act.put, List.getElem_toArray, List.getElem_cons_zero, List.getElem_cons_succ, List.setIfInBounds_toArray, List.set_cons_zero, List.set_cons_succ]
  refine till_take (i := 2) (v := ?_) rfl (by kernel_rfl) (fun _ _ _ h => h) (Or.inl ⟨by rfl, ?_⟩) ⟨d1,c0,c1,c2,c3,c4,c5,c6⟩ ?_
  rotate_left
  · intro W hS
    try dsimp only at hS
    go_split_ands
    go_simp
    try with_reducible rfl
  try simp only [Act.put, List.getElem_toArray, List.getElem_cons_zero, List.getElem_cons_succ, List.setIfInBounds_toArray, List.set_cons_zero, List.set_cons_succ]
  refine till_take (i := 3) (v := ?_) rfl (by kernel_rfl) (fun _ _ _ h => h) (Or.inl ⟨by rfl, ?_⟩) ⟨d1,c0,c1,c2,c3,c4,c5,c6⟩ ?_
  rotate_left
  · intro W hS
    try dsimp only at hS
    go_split_ands
    go_simp
    try with_reducible rfl
  try simp only [Act.put, List.getElem_toArray, List.getElem_cons_zero, List.getElem_cons_succ, List.setIfInBounds_toArray, List.set_cons_zero, List.set_cons_succ]
  refine till_take (i := 4) (v := ?_) rfl (by kernel_rfl) (fun _ _ _ h => h) (Or.inl ⟨by rfl, ?_⟩) ⟨d1,c0,c1,c2,c3,c4,c5,c6⟩ ?_
  rotate_left
  · intro W hS
    try dsimp only at hS
    go_split_ands
    go_simp
    try with_reducible rfl
  try simp only [Act.put, List.getElem_toArray, List.getElem_cons_zero, List.getElem_cons_succ, List.setIfInBounds_toArray, List.set_cons_zero, List.set_cons_succ]
  refine till_take (i := 5) (v := ?_) rfl (by kernel_rfl) (fun _ _ _ h => h) (Or.inl ⟨by rfl, ?_⟩) ⟨d1,c0,c1,c2,c3,c4,c5,c6⟩ ?_
  rotate_left
  · intro W hS
    try dsimp only at hS
    go_split_ands
    go_simp
    try with_reducible rfl
  try simp only [Act.put, List.getElem_toArray, List.getElem_cons_zero, List.getElem_cons_succ, List.setIfInBounds_toArray, List.set_cons_zero, List.set_cons_succ]
  refine till_one (i := 6) (by kernel_rfl) rfl (fun K' hK => ?_)
  go_simp
  have hbn : Below w2.heap.size w2 (w2.alloc (.cells #[.int .i64 f, .bool tn, .slice ua un.length uc, .int .i64 5, .string nm, .slice xa xl xc, .slice ta tl tc] 71)).drew := (below_nT w2 (.cells #[.int .i64 f, .bool tn, .slice ua un.length uc, .int .i64 5, .string nm, .slice xa xl xc, .slice ta tl tc] 71)).drew
  have HB2 := Lib.hid (HJ2.out.trans (HJ2.out.run.below hbn))
  have BZ := Lib.hid (Mem.Blk.new w2 71 #[.int .i64 f, .bool tn, .slice ua un.length uc, .int .i64 5, .string nm, .slice xa xl xc, .slice ta tl tc]).drew
  refine hK _ _ ⟨cell_up d1 hbn, cell_up c0 hbn, cell_up c1 hbn, cell_up c2 hbn, cell_up c3 hbn, cell_up c4 hbn, cell_up c5 hbn, cell_up c6 hbn⟩ ?_
  clear hK K' hbn d1 c0 c1 c2 c3 c4 c5 c6
  generalize (w2.alloc (.cells #[.int .i64 f, .bool tn, .slice ua un.length uc, .int .i64 5, .string nm, .slice xa xl xc, .slice ta tl tc] 71)).drew = w5 at *
  generalize w2.heap.size = zz at *
  try simp only [Act.put, List.getElem_toArray, List.getElem_cons_zero, List.getElem_cons_succ, List.setIfInBounds_toArray, List.set_cons_zero, List.set_cons_succ]
  refine till_last (by kernel_rfl) rfl (by kernel_rfl) (fun K' hK => ?_)
  obtain ⟨csl, hGr⟩ := HB2.out.run.sep.at 0 rfl
  have hRp := HB2.out.rep (K := ptK) HPT.out
  refine step_ap infoPt Try.underlying37 rfl (by decide) rfl (.tmp 147) (.tmp 149) rfl rfl hGr.own hGr.room ⟨zz, 0, none⟩ 1 1 [.int .i64 f, .bool tn, .slice ua un.length uc, .int .i64 5, .string nm, .slice xa xl xc, .slice ta tl tc] rfl rfl (fun m u hm => by rw [Mem.add0, BZ.out.cell]; simpa using hm) (by simp [Value.oneCell']) (by have := HSM.out; unfold maxLen; omega) (by have := HSM.out; omega) ?_
  intro v' w6 og gg hv'
  obtain ⟨gP, capn, rfl, -, -, -, -⟩ := own_form og (by omega)
  have MB := (HB2.out.run.sep.push 0 rfl hGr (x := ⟨f, tn, un, t⟩) (c := [.int .i64 f, .bool tn, .slice ua un.length uc, .int .i64 5, .string nm, .slice xa xl xc, .slice ta tl tc]) (by rw [owns_famR]; exact hRp) og gg hv').blk 2 rfl
  have m4 : w6.cell? ⟨rb, 2, none⟩ = some vP := MB.cell 2
  have m5 : w6.frozen? ⟨rb, 2, none⟩ = false := MB.frozen 2
  have HB3 := Lib.hid (HB2.out.trans (HB2.out.run.pushP hGr (x := ⟨f, tn, un, t⟩) (c := [.int .i64 f, .bool tn, .slice ua un.length uc, .int .i64 5, .string nm, .slice xa xl xc, .slice ta tl tc]) hRp og gg hv'))
  clear HB2 hGr og gg hv' BZ hRp MB
  refine hK _ _ ?_
  clear hK K'
  try simp only [Act.put, List.getElem_toArray, List.getElem_cons_zero, List.getElem_cons_succ, List.setIfInBounds_toArray, List.set_cons_zero, List.set_cons_succ]
  refine any_take (i := 8) (v := ?_) rfl (by kernel_rfl) (fun _ _ _ h => h) (Or.inl ⟨by rfl, ?_⟩) ?_
  rotate_left
  · intro W
    go_simp
    try with_reducible rfl
  try simp only [Act.put, List.getElem_toArray, List.getElem_cons_zero, List.getElem_cons_succ, List.setIfInBounds_toArray, List.set_cons_zero, List.set_cons_succ]
  refine any_take (i := 9) (v := ?_) rfl (by kernel_rfl) (fun _ _ _ h => h) (Or.inl ⟨by rfl, ?_⟩) ?_
  rotate_left
  · intro W
    go_simp
    try with_reducible rfl
  try simp only [Act.put, List.getElem_toArray, List.getElem_cons_zero, List.getElem_cons_succ, List.setIfInBounds_toArray, List.set_cons_zero, List.set_cons_succ]
  refine any_one (i := 10) (by kernel_rfl) rfl (fun K' hK => ?_)
  go_simp
  refine hK _ _ ?_
  clear hK K' m4 m5
  refine wpAny_done (by kernel_rfl) ?_ _
  go_wp2_with fail
  go_end0
  exact ⟨rfl, _, vF, by rw [HSS.out, acq59 HBT.out HBD.out (.inl HOP.out)]; exact HB3.out⟩
set_option maxRecDepth 100000 in
set_option maxHeartbeats 4000000 in
theorem acq9_any (hop : t.op = 9) :
    Calls Try.prog 22 #[.pointer (some ⟨rb, 0, none⟩), .agg (.int .i64 f :: .bool tn :: .slice ua un.length uc :: cs).toArray] w fun x w' => x = .returned (.tuple #[]) ∧ ∃ vP' vF', RunTo base rb day fx fa fl fc w w' vP vF (acq day fx t f tn un s) vP' vF' := by
  obtain ⟨op, nm, exprs, terms, xa, xl, xc, ta, tl, tc, e1, e2, -, hnm, hX, hL⟩ := hT.inv
  have hoe : op = t.op := by rw [e1]; rfl
  have hne : nm = t.nm := by rw [e1]; rfl
  have hxe : exprs = t.exprs := by rw [e1]; rfl
  have hte : terms = t.terms := by rw [e1]; rfl
  have HPT : Hid (ptK.R w (X3 rb vP vF) ⟨f, tn, un, t⟩ (.int .i64 f :: .bool tn :: .slice ua un.length uc :: cs)) := ⟨ua, uc, cs, rfl, hf, hU, hT⟩
  subst e2
  rw [hxe] at hX
  rw [hte] at hL
  clear e1 hxe hte
  obtain rfl : op = 9 := hoe.trans hop
  have HT := Lib.hid hT
  have HU := Lib.hid hU
  have HX := Lib.hid hX
  have HL := Lib.hid hL
  have HJ := Lib.hid hJ
  have HSM := Lib.hid (And.intro hk (And.intro hP hF))
  have HFI := Lib.hid hf
  have HBT := Lib.hid hb
  have HNM := Lib.hid hnm
  have HDY := Lib.hid hd
  have HOP := Lib.hid hop
  have HNE := Lib.hid hne
  have HBD := Lib.hid hbad
  have HRB : Hid (rb < w.heap.size) := hJ.lt rb (by unfold X3; simp)
  obtain ⟨S9, hS9⟩ : ∃ S9, S9 = acq day fx t f tn un s := ⟨_, rfl⟩
  rw [← hS9]
  have HSS := Lib.hid hS9
  have HS1 := Lib.hid (hJ.sep.new 71 #[.int .i64 f, .bool tn, .slice ua un.length uc, .int .i64 9, .string nm, .slice xa xl xc, .slice ta tl tc])
  have HS2 := Lib.hid (HS1.out.new 32 #[.int .i64 9, .string nm, .slice xa xl xc, .slice ta tl tc])
  have HN1 := Lib.hid (below_nT w (.cells #[.int .i64 f, .bool tn, .slice ua un.length uc, .int .i64 9, .string nm, .slice xa xl xc, .slice ta tl tc] 71))
  have HN2 := Lib.hid (HN1.out.trans ((below_nT (w.alloc (.cells #[.int .i64 f, .bool tn, .slice ua un.length uc, .int .i64 9, .string nm, .slice xa xl xc, .slice ta tl tc] 71)) (.cells #[.int .i64 9, .string nm, .slice xa xl xc, .slice ta tl tc] 32)).mono HN1.out.size))
  have HSZ : Hid ((w.alloc (.cells #[.int .i64 f, .bool tn, .slice ua un.length uc, .int .i64 9, .string nm, .slice xa xl xc, .slice ta tl tc] 71)).heap.size = w.heap.size + 1) := by show _ = _; simp
  clear hT hU hX hL hJ hk hP hF hf hb hnm hd hoe hne hS9 hop hbad
  go_enter Try.func22, Try.ntmps22
  go_upto_region 1 with (fail)
  generalize w.alloc (.cells #[.int .i64 f, .bool tn, .slice ua un.length uc, .int .i64 9, .string nm, .slice xa xl xc, .slice ta tl tc] 71) = w1 at *
  obtain ⟨c0, c1, c2, c3, c4, c5, c6⟩ := blk7 (HS1.out.blk 0 rfl)
  go_upto_region 2 with (fail)
  generalize w1.alloc (.cells #[.int .i64 9, .string nm, .slice xa xl xc, .slice ta tl tc] 32) = w2 at *
  generalize w1.heap.size = g1 at *
  clear c0 c1 c2 c3 c4 c5 c6
  have HG1 : Hid (w.heap.size < g1) := by have := HSZ.out; show _ < _; omega
  have q4 : w2.cell? ⟨rb, 4, none⟩ = some (.bool s.bad) := (HS2.out.blk 4 rfl).cell 4
  rw [HBD.out] at q4
  have y0 : w2.cell? ⟨g1, 0, none⟩ = some (.int .i64 9) := (HS2.out.blk 0 rfl).cell 0
  have BP2 : Hid (Mem.Blk w2 w.heap.size 71 #[.int .i64 f, .bool tn, .slice ua un.length uc, .int .i64 9, .string nm, .slice xa xl xc, .slice ta tl tc]) := HS2.out.blk 1 rfl
  have HJ2 := Lib.hid (HJ.out.below HN2.out)
  go_upto_region 21 with (fail)
  clear q4 y0
  have d1 : w2.cell? ⟨rb, 2, none⟩ = some vP := HJ2.out.run.cells.cell 2
  obtain ⟨c0, c1, c2, c3, c4, c5, c6⟩ := blk7 BP2.out
  refine wp_region_any (by kernel_rfl) ?_
  refine any_take (i := 0) (v := ?_) rfl (by kernel_rfl) (fun _ _ _ h => h) (Or.inl ⟨by rfl, ?_⟩) ?_
  rotate_left
  · intro W
    go_simp
    try with_reducible rfl
  try simp only [Act.put, List.getElem_toArray, List.getElem_cons_zero, List.getElem_cons_succ, List.setIfInBounds_toArray, List.set_cons_zero, List.set_cons_succ]
  refine any_of_till (n := 7) (S := fun W => W.cell? ⟨rb, 2, none⟩ = some vP ∧ W.cell? ⟨w.heap.size, 0, none⟩ = some (.int .i64 f) ∧ W.cell? ⟨w.heap.size, 1, none⟩ = some (.bool tn) ∧ W.cell? ⟨w.heap.size, 2, none⟩ = some (.slice ua un.length uc) ∧ W.cell? ⟨w.heap.size, 3, none⟩ = some (.int .i64 9) ∧ W.cell? ⟨w.heap.size, 4, none⟩ = some (.string nm) ∧ W.cell? ⟨w.heap.size, 5, none⟩ = some (.slice xa xl xc) ∧ W.cell? ⟨w.heap.size, 6, none⟩ = some (.slice ta tl tc)) _ _ _ _ ?_
  refine till_take (i := 1) (v := ?_) rfl (by kernel_rfl) (fun _ _ _ h => h) (Or.inl ⟨by rfl, ?_⟩) ⟨d1,c0,c1,c2,c3,c4,c5,c6⟩ ?_
  rotate_left
  · intro W hS
    try dsimp only at hS
    go_split_ands
    go_simp
    try with_reducible rfl
  try simp only [Act.put, List.getElem_toArray, List.getElem_cons_zero, List.getElem_cons_succ, List.setIfInBounds_toArray, List.set_cons_zero, List.set_cons_succ]
  refine till_take (i := 2) (v := ?_) rfl (by kernel_rfl) (fun _ _ _ h => h) (Or.inl ⟨by rfl, ?_⟩) ⟨d1,c0,c1,c2,c3,c4,c5,c6⟩ ?_
  rotate_left
  · intro W hS
    try dsimp only at hS
    go_split_ands
    go_simp
    try with_reducible rfl
  try simp only [Act.put, List.getElem_toArray, List.getElem_cons_zero, List.getElem_cons_succ, List.setIfInBounds_toArray, List.set_cons_zero, List.set_cons_succ]
  refine till_take (i := 3) (v := ?_) rfl (by kernel_rfl) (fun _ _ _ h => h) (Or.inl ⟨by rfl, ?_⟩) ⟨d1,c0,c1,c2,c3,c4,c5,c6⟩ ?_
  rotate_left
  · intro W hS
    try dsimp only at hS
    go_split_ands
    go_simp
    try with_reducible rfl
  try simp only [Act.put, List.getElem_toArray, List.getElem_cons_zero, List.getElem_cons_succ, List.setIfInBounds_toArray, List.set_cons_zero, List.set_cons_succ]
  refine till_take (i := 4) (v := ?_) rfl (by kernel_rfl) (fun _ _ _ h => h) (Or.inl ⟨by rfl, ?_⟩) ⟨d1,c0,c1,c2,c3,c4,c5,c6⟩ ?_
  rotate_left
  · intro W hS
    try dsimp only at hS
    go_split_ands
    go_simp
    try with_reducible rfl
  try simp only [Act.put, List.getElem_toArray, List.getElem_cons_zero, List.getElem_cons_succ, List.setIfInBounds_toArray, List.set_cons_zero, List.set_cons_succ]
  refine till_take (i := 5) (v := ?_) rfl (by kernel_rfl) (fun _ _ _ h => h) (Or.inl ⟨by rfl, ?_⟩) ⟨d1,c0,c1,c2,c3,c4,c5,c6⟩ ?_
  rotate_left
  · intro W hS
    try dsimp only at hS
    go_split_ands
    go_simp
    try with_reducible rfl
  try simp only [Act.put, List.getElem_toArray, List.getElem_cons_zero, List.getElem_cons_succ, List.setIfInBounds_toArray, List.set_cons_zero, List.set_cons_succ]
  refine till_one (i := 6) (by kernel_rfl) rfl (fun K' hK => ?_)
  go_simp
  have hbn : Below w2.heap.size w2 (w2.alloc (.cells #[.int .i64 f, .bool tn, .slice ua un.length uc, .int .i64 9, .string nm, .slice xa xl xc, .slice ta tl tc] 71)).drew := (below_nT w2 (.cells #[.int .i64 f, .bool tn, .slice ua un.length uc, .int .i64 9, .string nm, .slice xa xl xc, .slice ta tl tc] 71)).drew
  have HB2 := Lib.hid (HJ2.out.trans (HJ2.out.run.below hbn))
  have BZ := Lib.hid (Mem.Blk.new w2 71 #[.int .i64 f, .bool tn, .slice ua un.length uc, .int .i64 9, .string nm, .slice xa xl xc, .slice ta tl tc]).drew
  refine hK _ _ ⟨cell_up d1 hbn, cell_up c0 hbn, cell_up c1 hbn, cell_up c2 hbn, cell_up c3 hbn, cell_up c4 hbn, cell_up c5 hbn, cell_up c6 hbn⟩ ?_
  clear hK K' hbn d1 c0 c1 c2 c3 c4 c5 c6
  generalize (w2.alloc (.cells #[.int .i64 f, .bool tn, .slice ua un.length uc, .int .i64 9, .string nm, .slice xa xl xc, .slice ta tl tc] 71)).drew = w5 at *
  generalize w2.heap.size = zz at *
  try simp only [Act.put, List.getElem_toArray, List.getElem_cons_zero, List.getElem_cons_succ, List.setIfInBounds_toArray, List.set_cons_zero, List.set_cons_succ]
  refine till_last (by kernel_rfl) rfl (by kernel_rfl) (fun K' hK => ?_)
  obtain ⟨csl, hGr⟩ := HB2.out.run.sep.at 0 rfl
  have hRp := HB2.out.rep (K := ptK) HPT.out
  refine step_ap infoPt Try.underlying37 rfl (by decide) rfl (.tmp 147) (.tmp 149) rfl rfl hGr.own hGr.room ⟨zz, 0, none⟩ 1 1 [.int .i64 f, .bool tn, .slice ua un.length uc, .int .i64 9, .string nm, .slice xa xl xc, .slice ta tl tc] rfl rfl (fun m u hm => by rw [Mem.add0, BZ.out.cell]; simpa using hm) (by simp [Value.oneCell']) (by have := HSM.out; unfold maxLen; omega) (by have := HSM.out; omega) ?_
  intro v' w6 og gg hv'
  obtain ⟨gP, capn, rfl, -, -, -, -⟩ := own_form og (by omega)
  have MB := (HB2.out.run.sep.push 0 rfl hGr (x := ⟨f, tn, un, t⟩) (c := [.int .i64 f, .bool tn, .slice ua un.length uc, .int .i64 9, .string nm, .slice xa xl xc, .slice ta tl tc]) (by rw [owns_famR]; exact hRp) og gg hv').blk 2 rfl
  have m4 : w6.cell? ⟨rb, 2, none⟩ = some vP := MB.cell 2
  have m5 : w6.frozen? ⟨rb, 2, none⟩ = false := MB.frozen 2
  have HB3 := Lib.hid (HB2.out.trans (HB2.out.run.pushP hGr (x := ⟨f, tn, un, t⟩) (c := [.int .i64 f, .bool tn, .slice ua un.length uc, .int .i64 9, .string nm, .slice xa xl xc, .slice ta tl tc]) hRp og gg hv'))
  clear HB2 hGr og gg hv' BZ hRp MB
  refine hK _ _ ?_
  clear hK K'
  try simp only [Act.put, List.getElem_toArray, List.getElem_cons_zero, List.getElem_cons_succ, List.setIfInBounds_toArray, List.set_cons_zero, List.set_cons_succ]
  refine any_take (i := 8) (v := ?_) rfl (by kernel_rfl) (fun _ _ _ h => h) (Or.inl ⟨by rfl, ?_⟩) ?_
  rotate_left
  · intro W
    go_simp
    try with_reducible rfl
  try simp only [Act.put, List.getElem_toArray, List.getElem_cons_zero, List.getElem_cons_succ, List.setIfInBounds_toArray, List.set_cons_zero, List.set_cons_succ]
  refine any_take (i := 9) (v := ?_) rfl (by kernel_rfl) (fun _ _ _ h => h) (Or.inl ⟨by rfl, ?_⟩) ?_
  rotate_left
  · intro W
    go_simp
    try with_reducible rfl
  try simp only [Act.put, List.getElem_toArray, List.getElem_cons_zero, List.getElem_cons_succ, List.setIfInBounds_toArray, List.set_cons_zero, List.set_cons_succ]
  refine any_one (i := 10) (by kernel_rfl) rfl (fun K' hK => ?_)
  go_simp
  refine hK _ _ ?_
  clear hK K' m4 m5
  refine wpAny_done (by kernel_rfl) ?_ _
  go_wp2_with fail
  go_end0
  exact ⟨rfl, _, vF, by rw [HSS.out, acq59 HBT.out HBD.out (.inr HOP.out)]; exact HB3.out⟩
set_option maxRecDepth 100000 in
set_option maxHeartbeats 4000000 in
theorem acq6_any (hop : t.op = 6) (IH : AcqC base rb day fx fa fl fc (t0 t)) :
    Calls Try.prog 22 #[.pointer (some ⟨rb, 0, none⟩), .agg (.int .i64 f :: .bool tn :: .slice ua un.length uc :: cs).toArray] w fun x w' => x = .returned (.tuple #[]) ∧ ∃ vP' vF', RunTo base rb day fx fa fl fc w w' vP vF (acq day fx t f tn un s) vP' vF' := by
  have HWT := Lib.hid (fun (W : World) (cs' : List Value) (hJ' : RunJ base rb day fx fa fl fc W s vP vF) (hT' : RepT W (X3 rb vP vF) t cs') (hU' : SlR exK W (X3 rb vP vF) un ua un.length uc) => wait_any base rb day fx fa fl fc t f tn un s vP vF ua uc cs' W hd hf hJ' hT' hU' hb (.inl hop) hk hP hF IH)
  clear IH
  obtain ⟨op, nm, exprs, terms, xa, xl, xc, ta, tl, tc, e1, e2, -, hnm, hX, hL⟩ := hT.inv
  have hoe : op = t.op := by rw [e1]; rfl
  have hne : nm = t.nm := by rw [e1]; rfl
  have hxe : exprs = t.exprs := by rw [e1]; rfl
  have hte : terms = t.terms := by rw [e1]; rfl
  have HPT : Hid (ptK.R w (X3 rb vP vF) ⟨f, tn, un, t⟩ (.int .i64 f :: .bool tn :: .slice ua un.length uc :: cs)) := ⟨ua, uc, cs, rfl, hf, hU, hT⟩
  subst e2
  rw [hxe] at hX
  rw [hte] at hL
  clear e1 hxe hte
  obtain rfl : op = 6 := hoe.trans hop
  have HT := Lib.hid hT
  have HU := Lib.hid hU
  have HX := Lib.hid hX
  have HL := Lib.hid hL
  have HJ := Lib.hid hJ
  have HSM := Lib.hid (And.intro hk (And.intro hP hF))
  have HFI := Lib.hid hf
  have HBT := Lib.hid hb
  have HNM := Lib.hid hnm
  have HDY := Lib.hid hd
  have HOP := Lib.hid hop
  have HNE := Lib.hid hne
  have HBD := Lib.hid hbad
  have HRB : Hid (rb < w.heap.size) := hJ.lt rb (by unfold X3; simp)
  obtain ⟨S9, hS9⟩ : ∃ S9, S9 = acq day fx t f tn un s := ⟨_, rfl⟩
  rw [← hS9]
  have HSS := Lib.hid hS9
  have HS1 := Lib.hid (hJ.sep.new 71 #[.int .i64 f, .bool tn, .slice ua un.length uc, .int .i64 6, .string nm, .slice xa xl xc, .slice ta tl tc])
  have HS2 := Lib.hid (HS1.out.new 32 #[.int .i64 6, .string nm, .slice xa xl xc, .slice ta tl tc])
  have HN1 := Lib.hid (below_nT w (.cells #[.int .i64 f, .bool tn, .slice ua un.length uc, .int .i64 6, .string nm, .slice xa xl xc, .slice ta tl tc] 71))
  have HN2 := Lib.hid (HN1.out.trans ((below_nT (w.alloc (.cells #[.int .i64 f, .bool tn, .slice ua un.length uc, .int .i64 6, .string nm, .slice xa xl xc, .slice ta tl tc] 71)) (.cells #[.int .i64 6, .string nm, .slice xa xl xc, .slice ta tl tc] 32)).mono HN1.out.size))
  have HSZ : Hid ((w.alloc (.cells #[.int .i64 f, .bool tn, .slice ua un.length uc, .int .i64 6, .string nm, .slice xa xl xc, .slice ta tl tc] 71)).heap.size = w.heap.size + 1) := by show _ = _; simp
  clear hT hU hX hL hJ hk hP hF hf hb hnm hd hoe hne hS9 hop hbad
  go_enter Try.func22, Try.ntmps22
  go_upto_region 1 with (fail)
  generalize w.alloc (.cells #[.int .i64 f, .bool tn, .slice ua un.length uc, .int .i64 6, .string nm, .slice xa xl xc, .slice ta tl tc] 71) = w1 at *
  obtain ⟨c0, c1, c2, c3, c4, c5, c6⟩ := blk7 (HS1.out.blk 0 rfl)
  go_upto_region 2 with (fail)
  generalize w1.alloc (.cells #[.int .i64 6, .string nm, .slice xa xl xc, .slice ta tl tc] 32) = w2 at *
  generalize w1.heap.size = g1 at *
  clear c0 c1 c2 c3 c4 c5 c6
  have HG1 : Hid (w.heap.size < g1) := by have := HSZ.out; show _ < _; omega
  have q4 : w2.cell? ⟨rb, 4, none⟩ = some (.bool s.bad) := (HS2.out.blk 4 rfl).cell 4
  rw [HBD.out] at q4
  have y0 : w2.cell? ⟨g1, 0, none⟩ = some (.int .i64 6) := (HS2.out.blk 0 rfl).cell 0
  obtain ⟨c0, c1, c2, c3, c4, c5, c6⟩ := blk7 (HS2.out.blk 1 rfl)
  have HJ2 := Lib.hid (HJ.out.below HN2.out)
  go_upto_region 19 with (fail)
  go_wp2_with fail
  go_at_call 29
  have hT2 : RepT w2 (X3 rb vP vF) t [.int .i64 6, .string nm, .slice xa xl xc, .slice ta tl tc] := HJ2.out.rep (K := teK) (x := t) HT.out
  (with_reducible refine (HWT.out w2 _ HJ2.out.run hT2 (HJ2.out.slr (K := exK) HU.out)).mono ?_)
  rintro y w3 ⟨rfl, vP', vF', hR9⟩
  have HR9 := Lib.hid (HJ2.out.trans hR9)
  clear hR9 hT2 c0 c1 c2 c3 c4 c5 c6 q4 y0
  go_wp2_with fail
  go_end0
  exact ⟨rfl, vP', vF', by rw [HSS.out, acq67 HBT.out HBD.out (.inl HOP.out)]; exact HR9.out⟩
set_option maxRecDepth 100000 in
set_option maxHeartbeats 4000000 in
theorem acq7_any (hop : t.op = 7) (IH : AcqC base rb day fx fa fl fc (t0 t)) :
    Calls Try.prog 22 #[.pointer (some ⟨rb, 0, none⟩), .agg (.int .i64 f :: .bool tn :: .slice ua un.length uc :: cs).toArray] w fun x w' => x = .returned (.tuple #[]) ∧ ∃ vP' vF', RunTo base rb day fx fa fl fc w w' vP vF (acq day fx t f tn un s) vP' vF' := by
  have HWT := Lib.hid (fun (W : World) (cs' : List Value) (hJ' : RunJ base rb day fx fa fl fc W s vP vF) (hT' : RepT W (X3 rb vP vF) t cs') (hU' : SlR exK W (X3 rb vP vF) un ua un.length uc) => wait_any base rb day fx fa fl fc t f tn un s vP vF ua uc cs' W hd hf hJ' hT' hU' hb (.inr hop) hk hP hF IH)
  clear IH
  obtain ⟨op, nm, exprs, terms, xa, xl, xc, ta, tl, tc, e1, e2, -, hnm, hX, hL⟩ := hT.inv
  have hoe : op = t.op := by rw [e1]; rfl
  have hne : nm = t.nm := by rw [e1]; rfl
  have hxe : exprs = t.exprs := by rw [e1]; rfl
  have hte : terms = t.terms := by rw [e1]; rfl
  have HPT : Hid (ptK.R w (X3 rb vP vF) ⟨f, tn, un, t⟩ (.int .i64 f :: .bool tn :: .slice ua un.length uc :: cs)) := ⟨ua, uc, cs, rfl, hf, hU, hT⟩
  subst e2
  rw [hxe] at hX
  rw [hte] at hL
  clear e1 hxe hte
  obtain rfl : op = 7 := hoe.trans hop
  have HT := Lib.hid hT
  have HU := Lib.hid hU
  have HX := Lib.hid hX
  have HL := Lib.hid hL
  have HJ := Lib.hid hJ
  have HSM := Lib.hid (And.intro hk (And.intro hP hF))
  have HFI := Lib.hid hf
  have HBT := Lib.hid hb
  have HNM := Lib.hid hnm
  have HDY := Lib.hid hd
  have HOP := Lib.hid hop
  have HNE := Lib.hid hne
  have HBD := Lib.hid hbad
  have HRB : Hid (rb < w.heap.size) := hJ.lt rb (by unfold X3; simp)
  obtain ⟨S9, hS9⟩ : ∃ S9, S9 = acq day fx t f tn un s := ⟨_, rfl⟩
  rw [← hS9]
  have HSS := Lib.hid hS9
  have HS1 := Lib.hid (hJ.sep.new 71 #[.int .i64 f, .bool tn, .slice ua un.length uc, .int .i64 7, .string nm, .slice xa xl xc, .slice ta tl tc])
  have HS2 := Lib.hid (HS1.out.new 32 #[.int .i64 7, .string nm, .slice xa xl xc, .slice ta tl tc])
  have HN1 := Lib.hid (below_nT w (.cells #[.int .i64 f, .bool tn, .slice ua un.length uc, .int .i64 7, .string nm, .slice xa xl xc, .slice ta tl tc] 71))
  have HN2 := Lib.hid (HN1.out.trans ((below_nT (w.alloc (.cells #[.int .i64 f, .bool tn, .slice ua un.length uc, .int .i64 7, .string nm, .slice xa xl xc, .slice ta tl tc] 71)) (.cells #[.int .i64 7, .string nm, .slice xa xl xc, .slice ta tl tc] 32)).mono HN1.out.size))
  have HSZ : Hid ((w.alloc (.cells #[.int .i64 f, .bool tn, .slice ua un.length uc, .int .i64 7, .string nm, .slice xa xl xc, .slice ta tl tc] 71)).heap.size = w.heap.size + 1) := by show _ = _; simp
  clear hT hU hX hL hJ hk hP hF hf hb hnm hd hoe hne hS9 hop hbad
  go_enter Try.func22, Try.ntmps22
  go_upto_region 1 with (fail)
  generalize w.alloc (.cells #[.int .i64 f, .bool tn, .slice ua un.length uc, .int .i64 7, .string nm, .slice xa xl xc, .slice ta tl tc] 71) = w1 at *
  obtain ⟨c0, c1, c2, c3, c4, c5, c6⟩ := blk7 (HS1.out.blk 0 rfl)
  go_upto_region 2 with (fail)
  generalize w1.alloc (.cells #[.int .i64 7, .string nm, .slice xa xl xc, .slice ta tl tc] 32) = w2 at *
  generalize w1.heap.size = g1 at *
  clear c0 c1 c2 c3 c4 c5 c6
  have HG1 : Hid (w.heap.size < g1) := by have := HSZ.out; show _ < _; omega
  have q4 : w2.cell? ⟨rb, 4, none⟩ = some (.bool s.bad) := (HS2.out.blk 4 rfl).cell 4
  rw [HBD.out] at q4
  have y0 : w2.cell? ⟨g1, 0, none⟩ = some (.int .i64 7) := (HS2.out.blk 0 rfl).cell 0
  obtain ⟨c0, c1, c2, c3, c4, c5, c6⟩ := blk7 (HS2.out.blk 1 rfl)
  have HJ2 := Lib.hid (HJ.out.below HN2.out)
  go_upto_region 19 with (fail)
  go_wp2_with fail
  go_at_call 29
  have hT2 : RepT w2 (X3 rb vP vF) t [.int .i64 7, .string nm, .slice xa xl xc, .slice ta tl tc] := HJ2.out.rep (K := teK) (x := t) HT.out
  (with_reducible refine (HWT.out w2 _ HJ2.out.run hT2 (HJ2.out.slr (K := exK) HU.out)).mono ?_)
  rintro y w3 ⟨rfl, vP', vF', hR9⟩
  have HR9 := Lib.hid (HJ2.out.trans hR9)
  clear hR9 hT2 c0 c1 c2 c3 c4 c5 c6 q4 y0
  go_wp2_with fail
  go_end0
  exact ⟨rfl, vP', vF', by rw [HSS.out, acq67 HBT.out HBD.out (.inr HOP.out)]; exact HR9.out⟩
set_option maxRecDepth 100000 in
set_option maxHeartbeats 8000000 in
theorem acq3_any (hop : t.op = 3) (IH : AcqC base rb day fx fa fl fc (t0 t)) :
    Calls Try.prog 22 #[.pointer (some ⟨rb, 0, none⟩), .agg (.int .i64 f :: .bool tn :: .slice ua un.length uc :: cs).toArray] w fun x w' => x = .returned (.tuple #[]) ∧ ∃ vP' vF', RunTo base rb day fx fa fl fc w w' vP vF (acq day fx t f tn un s) vP' vF' := by
  have HIH := Lib.hid IH
  clear IH
  have HKD : Hid ((t0 t).rk + 1 ≤ t.rk ∧ (t0 t).nd + 1 ≤ t.nd) := kid0_bd hb (.inl hop)
  have hte : t.terms[0]? = some (t0 t) := kid0_at hb (.inl hop)
  obtain ⟨op, nm, exprs, terms, xa, xl, xc, ta, tl, tc, e1, e2, -, hnm, hX, hL⟩ := hT.inv
  have hoe : op = t.op := by rw [e1]; rfl
  have hne : nm = t.nm := by rw [e1]; rfl
  have hxe : exprs = t.exprs := by rw [e1]; rfl
  have hte : terms = t.terms := by rw [e1]; rfl
  have HPT : Hid (ptK.R w (X3 rb vP vF) ⟨f, tn, un, t⟩ (.int .i64 f :: .bool tn :: .slice ua un.length uc :: cs)) := ⟨ua, uc, cs, rfl, hf, hU, hT⟩
  subst e2
  rw [hxe] at hX
  rw [hte] at hL
  clear e1 hxe hte
  obtain rfl : op = 3 := hoe.trans hop
  have HT := Lib.hid hT
  have HU := Lib.hid hU
  have HX := Lib.hid hX
  have HL := Lib.hid hL
  have HJ := Lib.hid hJ
  have HSM := Lib.hid (And.intro hk (And.intro hP hF))
  have HFI := Lib.hid hf
  have HBT := Lib.hid hb
  have HNM := Lib.hid hnm
  have HDY := Lib.hid hd
  have HOP := Lib.hid hop
  have HNE := Lib.hid hne
  have HBD := Lib.hid hbad
  have HRB : Hid (rb < w.heap.size) := hJ.lt rb (by unfold X3; simp)
  obtain ⟨S9, hS9⟩ : ∃ S9, S9 = acq day fx t f tn un s := ⟨_, rfl⟩
  rw [← hS9]
  have HSS := Lib.hid hS9
  have HS1 := Lib.hid (hJ.sep.new 71 #[.int .i64 f, .bool tn, .slice ua un.length uc, .int .i64 3, .string nm, .slice xa xl xc, .slice ta tl tc])
  have HS2 := Lib.hid (HS1.out.new 32 #[.int .i64 3, .string nm, .slice xa xl xc, .slice ta tl tc])
  have HN1 := Lib.hid (below_nT w (.cells #[.int .i64 f, .bool tn, .slice ua un.length uc, .int .i64 3, .string nm, .slice xa xl xc, .slice ta tl tc] 71))
  have HN2 := Lib.hid (HN1.out.trans ((below_nT (w.alloc (.cells #[.int .i64 f, .bool tn, .slice ua un.length uc, .int .i64 3, .string nm, .slice xa xl xc, .slice ta tl tc] 71)) (.cells #[.int .i64 3, .string nm, .slice xa xl xc, .slice ta tl tc] 32)).mono HN1.out.size))
  have HSZ : Hid ((w.alloc (.cells #[.int .i64 f, .bool tn, .slice ua un.length uc, .int .i64 3, .string nm, .slice xa xl xc, .slice ta tl tc] 71)).heap.size = w.heap.size + 1) := by show _ = _; simp
  clear hT hU hX hL hJ hk hP hF hf hb hnm hd hoe hne hS9 hop hbad
  go_enter Try.func22, Try.ntmps22
  go_upto_region 1 with (fail)
  generalize w.alloc (.cells #[.int .i64 f, .bool tn, .slice ua un.length uc, .int .i64 3, .string nm, .slice xa xl xc, .slice ta tl tc] 71) = w1 at *
  obtain ⟨c0, c1, c2, c3, c4, c5, c6⟩ := blk7 (HS1.out.blk 0 rfl)
  go_upto_region 2 with (fail)
  generalize w1.alloc (.cells #[.int .i64 3, .string nm, .slice xa xl xc, .slice ta tl tc] 32) = w2 at *
  generalize w1.heap.size = g1 at *
  clear c0 c1 c2 c3 c4 c5 c6
  have HG1 : Hid (w.heap.size < g1) := by have := HSZ.out; show _ < _; omega
  have q4 : w2.cell? ⟨rb, 4, none⟩ = some (.bool s.bad) := (HS2.out.blk 4 rfl).cell 4
  rw [HBD.out] at q4
  have y0 : w2.cell? ⟨g1, 0, none⟩ = some (.int .i64 3) := (HS2.out.blk 0 rfl).cell 0
  obtain ⟨htl, tb, hto, q1, q2, q3, q4', q5, q6, q7, q8, rfl, htX, hRT, v0, v1, v2, v3⟩ := te_one HL.out hte
  rw [Nat.zero_mul, Nat.add_zero] at v0 v1 v2 v3
  have HW : Hid (w.cell? ⟨tb, hto, none⟩ = some (.int .i64 q1) ∧ w.cell? ⟨tb, hto + 1, none⟩ = some (.string q2) ∧ w.cell? ⟨tb, hto + 2, none⟩ = some (.slice q3 q4' q5) ∧ w.cell? ⟨tb, hto + 3, none⟩ = some (.slice q6 q7 q8)) := ⟨v0, v1, v2, v3⟩
  have HRT := Lib.hid hRT
  have HNX : Hid (tb ∉ X3 rb vP vF) := htX
  have HLT := Lib.hid htl
  clear htl htX hRT v0 v1 v2 v3 hte
  have b0 : w2.cell? ⟨w.heap.size, 0, none⟩ = some (.int .i64 f) := (HS2.out.blk 1 rfl).cell 0
  go_upto_region 6 with (fail)
  go_wp2_with fail
  (with_reducible refine (numNeg_any f w2 HFI.out).mono ?_)
  rintro y w4 ⟨hy, rfl⟩
  unfold fitR at hy
  subst hy
  have HN9 := Lib.hid (fit_i64 (-f))
  have HE := Lib.hid (acq3 (day := day) (fx := fx) (f := f) (tn := tn) (un := un) HBT.out HBD.out HOP.out)
  rw [← HSS.out] at HE
  generalize fitN (fitI (-f)) = N9 at *
  generalize fitB (fitI (-f)) = b9 at *
  clear q4 y0 b0
  have q4 : w2.cell? ⟨rb, 4, none⟩ = some (.bool s.bad) := (HS2.out.blk 4 rfl).cell 4
  have f4 : w2.frozen? ⟨rb, 4, none⟩ = false := (HS2.out.blk 4 rfl).frozen 4
  have HS5 := Lib.hid (HS2.out.store 4 rfl 4 (.bool (!b9)))
  have HF5 : Hid (Fr (X3 rb vP vF) w (w2.setCell ⟨rb, 4, none⟩ (.bool (!b9)))) := (Fr.of_below HN2.out _).trans (Fr.setCell w2 (p := ⟨rb, 4, none⟩) (by unfold X3; simp) _)
  go_upto_region 8 with (fail)
  generalize w2.setCell ⟨rb, 4, none⟩ (.bool (!b9)) = w5 at *
  clear q4 f4 HS2
  have r0 : w5.cell? ⟨w.heap.size, 0, none⟩ = some (.int .i64 f) := (HS5.out.blk 1 rfl).cell 0
  have r1 : w5.cell? ⟨w.heap.size, 1, none⟩ = some (.bool tn) := (HS5.out.blk 1 rfl).cell 1
  have k0 : w5.frozen? ⟨w.heap.size, 0, none⟩ = false := (HS5.out.blk 1 rfl).frozen 0
  have k1 : w5.frozen? ⟨w.heap.size, 1, none⟩ = false := (HS5.out.blk 1 rfl).frozen 1
  have HS6 := Lib.hid ((HS5.out.store 1 rfl 0 (.int .i64 N9)).store 1 rfl 1 (.bool (!tn)))
  have HF6 := Lib.hid ((HF5.out.setNew (p := ⟨w.heap.size, 0, none⟩) (Nat.le_refl _) (.int .i64 N9)).setNew (p := ⟨w.heap.size, 1, none⟩) (Nat.le_refl _) (.bool (!tn)))
  go_upto_region 9 with (fail)
  generalize (w5.setCell ⟨w.heap.size, 0, none⟩ (.int .i64 N9)).setCell ⟨w.heap.size, 1, none⟩ (.bool (!tn)) = w6 at *
  clear r0 r1 k0 k1 HS5 HF5
  have BT6 : Hid (Mem.Blk w6 g1 32 #[.int .i64 3, .string nm, .slice xa xl xc, .slice (some ⟨tb, hto, none⟩) tl tc]) := HS6.out.blk 0 rfl
  have BP6 : Hid (Mem.Blk w6 w.heap.size 71 #[.int .i64 N9, .bool (!tn), .slice ua un.length uc, .int .i64 3, .string nm, .slice xa xl xc, .slice (some ⟨tb, hto, none⟩) tl tc]) := HS6.out.blk 1 rfl
  have HJ6 : Hid (RunTo base rb day fx fa fl fc w w6 vP vF { s with bad := !b9 } vP vF) := RunTo.of HJ.out ((HS6.out.drop 0).drop 0) HF6.out
  clear HS6 HF6
  obtain ⟨c0, c1, c2, c3, c4, c5, c6⟩ := blk7 BP6.out
  have y3 : w6.cell? ⟨g1, 3, none⟩ = some (.slice (some ⟨tb, hto, none⟩) tl tc) := BT6.out.cell 3
  obtain ⟨v0, v1, v2, v3⟩ := HW.out
  replace v0 := HJ6.out.fr.cell v0 HNX.out
  replace v1 := HJ6.out.fr.cell v1 HNX.out
  replace v2 := HJ6.out.fr.cell v2 HNX.out
  replace v3 := HJ6.out.fr.cell v3 HNX.out
  have hlt9 : 0 < tl := HLT.out
  refine wp_region_till (S := fun W => W.cell? ⟨g1, 3, none⟩ = some (.slice (some ⟨tb, hto, none⟩) tl tc) ∧ W.cell? ⟨w.heap.size, 0, none⟩ = some (.int .i64 N9) ∧ W.cell? ⟨w.heap.size, 1, none⟩ = some (.bool (!tn)) ∧ W.cell? ⟨w.heap.size, 2, none⟩ = some (.slice ua un.length uc) ∧ W.cell? ⟨w.heap.size, 3, none⟩ = some (.int .i64 3) ∧ W.cell? ⟨w.heap.size, 4, none⟩ = some (.string nm) ∧ W.cell? ⟨w.heap.size, 5, none⟩ = some (.slice xa xl xc) ∧ W.cell? ⟨w.heap.size, 6, none⟩ = some (.slice (some ⟨tb, hto, none⟩) tl tc) ∧ W.cell? ⟨tb, hto, none⟩ = some (.int .i64 q1) ∧ W.cell? ⟨tb, hto + 1, none⟩ = some (.string q2) ∧ W.cell? ⟨tb, hto + 2, none⟩ = some (.slice q3 q4' q5) ∧ W.cell? ⟨tb, hto + 3, none⟩ = some (.slice q6 q7 q8)) 7 (by kernel_rfl) ?_
  refine till_take (i := 0) (v := ?_) rfl (by kernel_rfl) (fun _ _ _ h => h) (Or.inl ⟨by rfl, ?_⟩) ⟨y3,c0,c1,c2,c3,c4,c5,c6,v0,v1,v2,v3⟩ ?_
  rotate_left
  · intro W hS
    try dsimp only at hS
    go_split_ands
    go_simp
    try with_reducible rfl
  try simp only [Act.put, List.getElem_toArray, List.getElem_cons_zero, List.getElem_cons_succ, List.setIfInBounds_toArray, List.set_cons_zero, List.set_cons_succ]
  refine till_take (i := 1) (v := ?_) rfl (by kernel_rfl) (fun _ _ _ h => h) (Or.inl ⟨by rfl, ?_⟩) ⟨y3,c0,c1,c2,c3,c4,c5,c6,v0,v1,v2,v3⟩ ?_
  rotate_left
  · intro W hS
    try dsimp only at hS
    go_split_ands
    go_simp
    try with_reducible rfl
  try simp only [Act.put, List.getElem_toArray, List.getElem_cons_zero, List.getElem_cons_succ, List.setIfInBounds_toArray, List.set_cons_zero, List.set_cons_succ]
  refine till_take (i := 2) (v := ?_) rfl (by kernel_rfl) (fun _ _ _ h => h) (Or.inl ⟨by rfl, ?_⟩) ⟨y3,c0,c1,c2,c3,c4,c5,c6,v0,v1,v2,v3⟩ ?_
  rotate_left
  · intro W hS
    try dsimp only at hS
    go_split_ands
    go_simp
    try with_reducible rfl
  try simp only [Act.put, List.getElem_toArray, List.getElem_cons_zero, List.getElem_cons_succ, List.setIfInBounds_toArray, List.set_cons_zero, List.set_cons_succ]
  refine till_take (i := 3) (v := ?_) rfl (by kernel_rfl) (fun _ _ _ h => h) (Or.inl ⟨by rfl, ?_⟩) ⟨y3,c0,c1,c2,c3,c4,c5,c6,v0,v1,v2,v3⟩ ?_
  rotate_left
  · intro W hS
    try dsimp only at hS
    go_split_ands
    go_simp
    try with_reducible rfl
  try simp only [Act.put, List.getElem_toArray, List.getElem_cons_zero, List.getElem_cons_succ, List.setIfInBounds_toArray, List.set_cons_zero, List.set_cons_succ]
  refine till_take (i := 4) (v := ?_) rfl (by kernel_rfl) (fun _ _ _ h => h) (Or.inl ⟨by rfl, ?_⟩) ⟨y3,c0,c1,c2,c3,c4,c5,c6,v0,v1,v2,v3⟩ ?_
  rotate_left
  · intro W hS
    try dsimp only at hS
    go_split_ands
    go_simp
    try with_reducible rfl
  try simp only [Act.put, List.getElem_toArray, List.getElem_cons_zero, List.getElem_cons_succ, List.setIfInBounds_toArray, List.set_cons_zero, List.set_cons_succ]
  refine till_take (i := 5) (v := ?_) rfl (by kernel_rfl) (fun _ _ _ h => h) (Or.inl ⟨by rfl, ?_⟩) ⟨y3,c0,c1,c2,c3,c4,c5,c6,v0,v1,v2,v3⟩ ?_
  rotate_left
  · intro W hS
    try dsimp only at hS
    go_split_ands
    go_simp
    try with_reducible rfl
  try simp only [Act.put, List.getElem_toArray, List.getElem_cons_zero, List.getElem_cons_succ, List.setIfInBounds_toArray, List.set_cons_zero, List.set_cons_succ]
  refine till_one (i := 6) (by kernel_rfl) rfl (fun K' hK => ?_)
  go_simp
  have b0 : Below w6.heap.size w6 w6.drew := (Below.refl w6.heap.size w6).drew
  (with_reducible refine (partWith_any _ _ _ _ _ _ _ _ _ _ _ _ _ _ _ _ _ _ _ _ _ _).mono ?_)
  rintro y w8 ⟨rfl, b1⟩
  have bt := b0.trans (b1.mono b0.size)
  have HJ8 := Lib.hid (HJ6.out.trans (HJ6.out.run.below bt))
  have BP8 := Lib.hid (BP6.out.below bt)
  have BT8 := Lib.hid (BT6.out.below bt)
  refine hK _ _ ⟨cell_up y3 bt, cell_up c0 bt, cell_up c1 bt, cell_up c2 bt, cell_up c3 bt, cell_up c4 bt, cell_up c5 bt, cell_up c6 bt, cell_up v0 bt, cell_up v1 bt, cell_up v2 bt, cell_up v3 bt⟩ ?_
  clear hK K' b0 b1 y3 c0 c1 c2 c3 c4 c5 c6 v0 v1 v2 v3 hlt9
  try simp only [Act.put, List.getElem_toArray, List.getElem_cons_zero, List.getElem_cons_succ, List.setIfInBounds_toArray, List.set_cons_zero, List.set_cons_succ]
  refine till_last (by kernel_rfl) rfl (by kernel_rfl) (fun K' hK => ?_)
  go_simp
  have hic := HIH.out
  have hrt8 : RepT w8 (X3 rb vP vF) (t0 t) [.int .i64 q1, .string q2, .slice q3 q4' q5, .slice q6 q7 q8] := HJ8.out.rep (K := teK) (x := (t0 t)) HRT.out
  have huu8 : SlR exK w8 (X3 rb vP vF) un ua un.length uc := (HJ8.out.slr (K := exK) HU.out)
  unfold AcqC at hic
  (with_reducible refine (hic N9 (!tn) un _ vP vF ua uc [.int .i64 q1, .string q2, .slice q3 q4' q5, .slice q6 q7 q8] w8 HN9.out HJ8.out.run hrt8 huu8 (by have := HSM.out; have := HKD.out; omega) (by have := HSM.out; have := HKD.out; first | omega | (show s.ps.length + _ ≤ _; omega)) (by have := HSM.out; have := HKD.out; first | omega | (show s.fs.length + _ ≤ _; omega))).mono ?_)
  rintro y w9 ⟨rfl, vP', vF', hR9⟩
  have HR9 := Lib.hid (HJ8.out.trans hR9)
  have HR98 := Lib.hid hR9
  clear hic hrt8 huu8
  refine hK _ _ ?_
  clear hK K' hR9 bt
  try simp only [Act.put, List.getElem_toArray, List.getElem_cons_zero, List.getElem_cons_succ, List.setIfInBounds_toArray, List.set_cons_zero, List.set_cons_succ]
  refine wpAny_done (by kernel_rfl) ?_ _
  go_wp2_with fail
  go_end0
  exact ⟨rfl, vP', vF', by rw [HE.out]; exact HR9.out⟩
end
end Go.Proofs.Ytmiinmndbkdjbaa
