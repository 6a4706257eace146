/- A part of the proof: LiE, SimpA, LiK, LiF, LiG, one behind another. -/
import Derived.Test.YtmiinmndbkdjbaaMAA
import Derived.Test.YtmiinmndbkdjbaaMAB
import Derived.Test.YtmiinmndbkdjbaaMAC
import Derived.Test.YtmiinmndbkdjbaaMAD
import Derived.Test.YtmiinmndbkdjbaaMAE
import Derived.Test.YtmiinmndbkdjbaaMAF
import Derived.Test.YtmiinmndbkdjbaaMAG
import Derived.Test.YtmiinmndbkdjbaaMAH
import Derived.Test.YtmiinmndbkdjbaaMAI
import Derived.Test.YtmiinmndbkdjbaaMAJ
import Derived.Test.YtmiinmndbkdjbaaMAK
import Derived.Test.YtmiinmndbkdjbaaMAL
import Derived.Test.YtmiinmndbkdjbaaMAM
import Derived.Test.YtmiinmndbkdjbaaMAN
import Derived.Test.YtmiinmndbkdjbaaMAO
import Derived.Test.YtmiinmndbkdjbaaProg
import Derived.Test.YtmiinmndbkdjbaaChecked
import Derived.WalkSpells
import Derived.LoopTactic
/- What acquiring a term comes to, walked: both. -/
namespace Go.Proofs.Ytmiinmndbkdjbaa
set_option linter.unusedVariables false
set_option linter.unusedSimpArgs false
open Go.RowKit
theorem kid1_at {t : Te} (hb : bT t = true) (h : t.op = 4) : t.terms[1]? = some (t1 t) := by
  obtain ⟨k1, k2, -⟩ := te_kids hb
  rw [k2 (.inl h)]; rfl
section
variable (base rb : Nat) (day : Int) (fx : List Fx) (fa : Option Addr) (fl fc : Nat) (t : Te) (f : Int) (tn : Bool) (un : List Ex) (s : RS) (vP vF : Value) (ua : Option Addr) (uc : Nat) (cs : List Value) (w : World)
variable (hd : I64 day) (hf : I64 f) (hJ : RunJ base rb day fx fa fl fc w s vP vF) (hT : RepT w (X3 rb vP vF) t cs) (hU : SlR exK w (X3 rb vP vF) un ua un.length uc) (hb : bT t = true) (hbad : s.bad = false) (hk : un.length + t.rk ≤ 1000) (hP : s.ps.length + t.nd ≤ 100000) (hF : s.fs.length + t.nd ≤ 100000)
include hd hf hJ hT hU hb hbad hk hP hF
set_option maxRecDepth 100000 in
set_option maxHeartbeats 8000000 in
theorem acq4_any (hop : t.op = 4) (IH : AcqC base rb day fx fa fl fc (t0 t)) (IH1 : AcqC base rb day fx fa fl fc (t1 t)) :
    Calls Try.prog 22 #[.pointer (some ⟨rb, 0, none⟩), .agg (.int .i64 f :: .bool tn :: .slice ua un.length uc :: cs).toArray] w fun x w' => x = .returned (.tuple #[]) ∧ ∃ vP' vF', RunTo base rb day fx fa fl fc w w' vP vF (acq day fx t f tn un s) vP' vF' := by
  have HIH := Lib.hid IH
  have HIH1 := Lib.hid IH1
  clear IH IH1
  have HKD : Hid ((t0 t).rk + 1 ≤ t.rk ∧ (t0 t).nd + 1 ≤ t.nd) := kid0_bd hb (.inr (.inl hop))
  have hte : t.terms[0]? = some (t0 t) := kid0_at hb (.inr (.inl hop))
  have hte1 : t.terms[1]? = some (t1 t) := kid1_at hb hop
  obtain ⟨S1, hS1⟩ : ∃ S1, S1 = acq day fx (t0 t) f tn un s := ⟨_, rfl⟩
  have HS1E := Lib.hid hS1
  have HKD1 : Hid ((t1 t).rk + 1 ≤ t.rk) := by
    have := rk_kid (List.mem_of_getElem? hte1)
    show _ ≤ _; omega
  have HSM1 : Hid (un.length + t.rk ≤ 1000 ∧ S1.ps.length + (t1 t).nd ≤ 100000 ∧ S1.fs.length + (t1 t).nd ≤ 100000) := by
    have h1 := acq_len day fx (t0 t).rk (t0 t) (Nat.le_refl _) (bT_kid hb (List.mem_of_getElem? hte)) f tn un s
    rw [← hS1] at h1
    obtain ⟨h2, h3⟩ := h1
    have h4 := (nd_kids hb).1 hop
    exact ⟨hk, by omega, by omega⟩
  clear hS1
  obtain ⟨op, nm, exprs, terms, xa, xl, xc, ta, tl, tc, e1, e2, -, hnm, hX, hL⟩ := hT.inv
  have hoe : op = t.op := by rw [e1]; rfl
  have hne : nm = t.nm := by rw [e1]; rfl
  have hxe : exprs = t.exprs := by rw [e1]; rfl
  have hte : terms = t.terms := by rw [e1]; rfl
  have HPT : Hid (ptK.R w (X3 rb vP vF) ⟨f, tn, un, t⟩ (.int .i64 f :: .bool tn :: .slice ua un.length uc :: cs)) := ⟨ua, uc, cs, rfl, hf, hU, hT⟩
  subst e2
  rw [hxe] at hX
  rw [hte] at hL
  clear e1 hxe hte
  obtain rfl : op = 4 := hoe.trans hop
  have HT := Lib.hid hT
  have HU := Lib.hid hU
  have HX := Lib.hid hX
  have HL := Lib.hid hL
  have HJ := Lib.hid hJ
  have HSM := Lib.hid (And.intro hk (And.intro hP hF))
  have HFI := Lib.hid hf
  have HBT := Lib.hid hb
  have HNM := Lib.hid hnm
  have HDY := Lib.hid hd
  have HOP := Lib.hid hop
  have HNE := Lib.hid hne
  have HBD := Lib.hid hbad
  have HRB : Hid (rb < w.heap.size) := hJ.lt rb (by unfold X3; simp)
  obtain ⟨S9, hS9⟩ : ∃ S9, S9 = acq day fx t f tn un s := ⟨_, rfl⟩
  rw [← hS9]
  have HSS := Lib.hid hS9
  have HS1 := Lib.hid (hJ.sep.new 71 #[.int .i64 f, .bool tn, .slice ua un.length uc, .int .i64 4, .string nm, .slice xa xl xc, .slice ta tl tc])
  have HS2 := Lib.hid (HS1.out.new 32 #[.int .i64 4, .string nm, .slice xa xl xc, .slice ta tl tc])
  have HN1 := Lib.hid (below_nT w (.cells #[.int .i64 f, .bool tn, .slice ua un.length uc, .int .i64 4, .string nm, .slice xa xl xc, .slice ta tl tc] 71))
  have HN2 := Lib.hid (HN1.out.trans ((below_nT (w.alloc (.cells #[.int .i64 f, .bool tn, .slice ua un.length uc, .int .i64 4, .string nm, .slice xa xl xc, .slice ta tl tc] 71)) (.cells #[.int .i64 4, .string nm, .slice xa xl xc, .slice ta tl tc] 32)).mono HN1.out.size))
  have HSZ : Hid ((w.alloc (.cells #[.int .i64 f, .bool tn, .slice ua un.length uc, .int .i64 4, .string nm, .slice xa xl xc, .slice ta tl tc] 71)).heap.size = w.heap.size + 1) := by show _ = _; simp
  clear hT hU hX hL hJ hk hP hF hf hb hnm hd hoe hne hS9 hop hbad
  go_enter Try.func22, Try.ntmps22
  go_upto_region 1 with (fail)
  generalize w.alloc (.cells #[.int .i64 f, .bool tn, .slice ua un.length uc, .int .i64 4, .string nm, .slice xa xl xc, .slice ta tl tc] 71) = w1 at *
  obtain ⟨c0, c1, c2, c3, c4, c5, c6⟩ := blk7 (HS1.out.blk 0 rfl)
  go_upto_region 2 with (fail)
  generalize w1.alloc (.cells #[.int .i64 4, .string nm, .slice xa xl xc, .slice ta tl tc] 32) = w2 at *
  generalize w1.heap.size = g1 at *
  clear c0 c1 c2 c3 c4 c5 c6
  have HG1 : Hid (w.heap.size < g1) := by have := HSZ.out; show _ < _; omega
  have q4 : w2.cell? ⟨rb, 4, none⟩ = some (.bool s.bad) := (HS2.out.blk 4 rfl).cell 4
  rw [HBD.out] at q4
  have y0 : w2.cell? ⟨g1, 0, none⟩ = some (.int .i64 4) := (HS2.out.blk 0 rfl).cell 0
  obtain ⟨htl, tb, hto, q1, q2, q3, q4', q5, q6, q7, q8, rfl, htX, hRT, v0, v1, v2, v3⟩ := te_one HL.out hte
  obtain ⟨htl1, tb1, hto1, p1, p2, p3, p4, p5, p6, p7, p8, htE, htX1, hRT1, x0, x1, x2, x3⟩ := te_one HL.out hte1
  injection htE with htE
  injection htE with htE1 htE2
  subst htE1
  subst htE2
  rw [Nat.zero_mul, Nat.add_zero] at v0 v1 v2 v3
  rw [Nat.one_mul] at x0 x1 x2 x3
  have HW : Hid (w.cell? ⟨tb, hto, none⟩ = some (.int .i64 q1) ∧ w.cell? ⟨tb, hto + 1, none⟩ = some (.string q2) ∧ w.cell? ⟨tb, hto + 2, none⟩ = some (.slice q3 q4' q5) ∧ w.cell? ⟨tb, hto + 3, none⟩ = some (.slice q6 q7 q8)) := ⟨v0, v1, v2, v3⟩
  have HW1 : Hid (w.cell? ⟨tb, hto + 4, none⟩ = some (.int .i64 p1) ∧ w.cell? ⟨tb, hto + 4 + 1, none⟩ = some (.string p2) ∧ w.cell? ⟨tb, hto + 4 + 2, none⟩ = some (.slice p3 p4 p5) ∧ w.cell? ⟨tb, hto + 4 + 3, none⟩ = some (.slice p6 p7 p8)) := ⟨x0, x1, x2, x3⟩
  have HRT := Lib.hid hRT
  have HRT1 := Lib.hid hRT1
  have HNX : Hid (tb ∉ X3 rb vP vF) := htX
  have HLT := Lib.hid htl
  have HLT1 := Lib.hid htl1
  clear htl htl1 htX htX1 hRT hRT1 v0 v1 v2 v3 x0 x1 x2 x3 hte hte1
  have BT2 : Hid (Mem.Blk w2 g1 32 #[.int .i64 4, .string nm, .slice xa xl xc, .slice (some ⟨tb, hto, none⟩) tl tc]) := HS2.out.blk 0 rfl
  have BP2 : Hid (Mem.Blk w2 w.heap.size 71 #[.int .i64 f, .bool tn, .slice ua un.length uc, .int .i64 4, .string nm, .slice xa xl xc, .slice (some ⟨tb, hto, none⟩) tl tc]) := HS2.out.blk 1 rfl
  have HJ2 := Lib.hid (HJ.out.below HN2.out)
  have HE := Lib.hid (acq4 (day := day) (fx := fx) (f := f) (tn := tn) (un := un) HBT.out HBD.out HOP.out)
  rw [← HSS.out, ← HS1E.out] at HE
  go_upto_region 11 with (fail)
  clear q4 y0
  obtain ⟨c0, c1, c2, c3, c4, c5, c6⟩ := blk7 BP2.out
  have y3 : w2.cell? ⟨g1, 3, none⟩ = some (.slice (some ⟨tb, hto, none⟩) tl tc) := BT2.out.cell 3
  obtain ⟨v0, v1, v2, v3⟩ := HW.out
  replace v0 := HJ2.out.fr.cell v0 HNX.out
  replace v1 := HJ2.out.fr.cell v1 HNX.out
  replace v2 := HJ2.out.fr.cell v2 HNX.out
  replace v3 := HJ2.out.fr.cell v3 HNX.out
  have hlt9 : 0 < tl := HLT.out
  refine wp_region_till (S := fun W => W.cell? ⟨g1, 3, none⟩ = some (.slice (some ⟨tb, hto, none⟩) tl tc) ∧ W.cell? ⟨w.heap.size, 0, none⟩ = some (.int .i64 f) ∧ W.cell? ⟨w.heap.size, 1, none⟩ = some (.bool tn) ∧ W.cell? ⟨w.heap.size, 2, none⟩ = some (.slice ua un.length uc) ∧ W.cell? ⟨w.heap.size, 3, none⟩ = some (.int .i64 4) ∧ W.cell? ⟨w.heap.size, 4, none⟩ = some (.string nm) ∧ W.cell? ⟨w.heap.size, 5, none⟩ = some (.slice xa xl xc) ∧ W.cell? ⟨w.heap.size, 6, none⟩ = some (.slice (some ⟨tb, hto, none⟩) tl tc) ∧ W.cell? ⟨tb, hto, none⟩ = some (.int .i64 q1) ∧ W.cell? ⟨tb, hto + 1, none⟩ = some (.string q2) ∧ W.cell? ⟨tb, hto + 2, none⟩ = some (.slice q3 q4' q5) ∧ W.cell? ⟨tb, hto + 3, none⟩ = some (.slice q6 q7 q8)) 7 (by kernel_rfl) ?_
  refine till_take (i := 0) (v := ?_) rfl (by kernel_rfl) (fun _ _ _ h => h) (Or.inl ⟨by rfl, ?_⟩) ⟨y3,c0,c1,c2,c3,c4,c5,c6,v0,v1,v2,v3⟩ ?_
  rotate_left
  · intro W hS
    try dsimp only at hS
    go_split_ands
    go_simp
    try with_reducible rfl
  try simp only [Act.put, List.getElem_toArray, List.getElem_cons_zero, List.getElem_cons_succ, List.setIfInBounds_toArray, List.set_cons_zero, List.set_cons_succ]
  refine till_take (i := 1) (v := ?_) rfl (by kernel_rfl) (fun _ _ _ h => h) (Or.inl ⟨by rfl, ?_⟩) ⟨y3,c0,c1,c2,c3,c4,c5,c6,v0,v1,v2,v3⟩ ?_
  rotate_left
  · intro W hS
    try dsimp only at hS
    go_split_ands
    go_simp
    try with_reducible rfl
  try simp only [Act.put, List.getElem_toArray, List.getElem_cons_zero, List.getElem_cons_succ, List.setIfInBounds_toArray, List.set_cons_zero, List.set_cons_succ]
  refine till_take (i := 2) (v := ?_) rfl (by kernel_rfl) (fun _ _ _ h => h) (Or.inl ⟨by rfl, ?_⟩) ⟨y3,c0,c1,c2,c3,c4,c5,c6,v0,v1,v2,v3⟩ ?_
  rotate_left
  · intro W hS
    try dsimp only at hS
    go_split_ands
    go_simp
    try with_reducible rfl
  try simp only [Act.put, List.getElem_toArray, List.getElem_cons_zero, List.getElem_cons_succ, List.setIfInBounds_toArray, List.set_cons_zero, List.set_cons_succ]
  refine till_take (i := 3) (v := ?_) rfl (by kernel_rfl) (fun _ _ _ h => h) (Or.inl ⟨by rfl, ?_⟩) ⟨y3,c0,c1,c2,c3,c4,c5,c6,v0,v1,v2,v3⟩ ?_
  rotate_left
  · intro W hS
    try dsimp only at hS
    go_split_ands
    go_simp
    try with_reducible rfl
  try simp only [Act.put, List.getElem_toArray, List.getElem_cons_zero, List.getElem_cons_succ, List.setIfInBounds_toArray, List.set_cons_zero, List.set_cons_succ]
  refine till_take (i := 4) (v := ?_) rfl (by kernel_rfl) (fun _ _ _ h => h) (Or.inl ⟨by rfl, ?_⟩) ⟨y3,c0,c1,c2,c3,c4,c5,c6,v0,v1,v2,v3⟩ ?_
  rotate_left
  · intro W hS
    try dsimp only at hS
    go_split_ands
    go_simp
    try with_reducible rfl
  try simp only [Act.put, List.getElem_toArray, List.getElem_cons_zero, List.getElem_cons_succ, List.setIfInBounds_toArray, List.set_cons_zero, List.set_cons_succ]
  refine till_take (i := 5) (v := ?_) rfl (by kernel_rfl) (fun _ _ _ h => h) (Or.inl ⟨by rfl, ?_⟩) ⟨y3,c0,c1,c2,c3,c4,c5,c6,v0,v1,v2,v3⟩ ?_
  rotate_left
  · intro W hS
    try dsimp only at hS
    go_split_ands
    go_simp
    try with_reducible rfl
  try simp only [Act.put, List.getElem_toArray, List.getElem_cons_zero, List.getElem_cons_succ, List.setIfInBounds_toArray, List.set_cons_zero, List.set_cons_succ]
  refine till_one (i := 6) (by kernel_rfl) rfl (fun K' hK => ?_)
  go_simp
  have b0 : Below w2.heap.size w2 w2.drew := (Below.refl w2.heap.size w2).drew
  (with_reducible refine (partWith_any _ _ _ _ _ _ _ _ _ _ _ _ _ _ _ _ _ _ _ _ _ _).mono ?_)
  rintro y w8 ⟨rfl, b1⟩
  have bt := b0.trans (b1.mono b0.size)
  have HJ8 := Lib.hid (HJ2.out.trans (HJ2.out.run.below bt))
  have BP8 := Lib.hid (BP2.out.below bt)
  have BT8 := Lib.hid (BT2.out.below bt)
  refine hK _ _ ⟨cell_up y3 bt, cell_up c0 bt, cell_up c1 bt, cell_up c2 bt, cell_up c3 bt, cell_up c4 bt, cell_up c5 bt, cell_up c6 bt, cell_up v0 bt, cell_up v1 bt, cell_up v2 bt, cell_up v3 bt⟩ ?_
  clear hK K' b0 b1 y3 c0 c1 c2 c3 c4 c5 c6 v0 v1 v2 v3 hlt9
  try simp only [Act.put, List.getElem_toArray, List.getElem_cons_zero, List.getElem_cons_succ, List.setIfInBounds_toArray, List.set_cons_zero, List.set_cons_succ]
  refine till_last (by kernel_rfl) rfl (by kernel_rfl) (fun K' hK => ?_)
  go_simp
  have hic := HIH.out
  have hrt8 : RepT w8 (X3 rb vP vF) (t0 t) [.int .i64 q1, .string q2, .slice q3 q4' q5, .slice q6 q7 q8] := HJ8.out.rep (K := teK) (x := (t0 t)) HRT.out
  have huu8 : SlR exK w8 (X3 rb vP vF) un ua un.length uc := (HJ8.out.slr (K := exK) HU.out)
  unfold AcqC at hic
  (with_reducible refine (hic f tn un _ vP vF ua uc [.int .i64 q1, .string q2, .slice q3 q4' q5, .slice q6 q7 q8] w8 HFI.out HJ8.out.run hrt8 huu8 (by have := HSM.out; have := HKD.out; omega) (by have := HSM.out; have := HKD.out; first | omega | (show s.ps.length + _ ≤ _; omega)) (by have := HSM.out; have := HKD.out; first | omega | (show s.fs.length + _ ≤ _; omega))).mono ?_)
  rintro y w9 ⟨rfl, vP', vF', hR9⟩
  have HR9 := Lib.hid (HJ8.out.trans hR9)
  have HR98 := Lib.hid hR9
  clear hic hrt8 huu8
  refine hK _ _ ?_
  clear hK K' hR9 bt
  try simp only [Act.put, List.getElem_toArray, List.getElem_cons_zero, List.getElem_cons_succ, List.setIfInBounds_toArray, List.set_cons_zero, List.set_cons_succ]
  refine wpAny_done (by kernel_rfl) ?_ _
  rw [← HS1E.out] at HR9
  have hnP : w.heap.size ∉ X3 rb vP vF := fun hm => by have := HJ.out.lt _ hm; omega
  have hnT : g1 ∉ X3 rb vP vF := fun hm => by have := HJ.out.lt _ hm; have := HG1.out; omega
  have BP9 := Lib.hid (HR98.out.fr.blk BP8.out hnP)
  have BT9 := Lib.hid (HR98.out.fr.blk BT8.out hnT)
  have HJ9 := HR9
  clear HR9 HR98 BP8 BT8 hnP hnT HJ8 HJ2 BP2 BT2
  obtain ⟨pV, hpV⟩ : ∃ v, v = vP' := ⟨_, rfl⟩
  subst hpV
  obtain ⟨fV, hfV⟩ : ∃ v, v = vF' := ⟨_, rfl⟩
  subst hfV
  obtain ⟨W9, hW9⟩ : ∃ v, v = w9 := ⟨_, rfl⟩
  subst hW9
  go_upto_region 12 with (fail)
  obtain ⟨c0, c1, c2, c3, c4, c5, c6⟩ := blk7 BP9.out
  have y3 : W9.cell? ⟨g1, 3, none⟩ = some (.slice (some ⟨tb, hto, none⟩) tl tc) := BT9.out.cell 3
  obtain ⟨v0, v1, v2, v3⟩ := HW1.out
  replace v0 := HJ9.out.fr.cell v0 HNX.out
  replace v1 := HJ9.out.fr.cell v1 HNX.out
  replace v2 := HJ9.out.fr.cell v2 HNX.out
  replace v3 := HJ9.out.fr.cell v3 HNX.out
  have hlt9 : (1 : Int) < (tl : Int) := by have := HLT1.out; omega
  refine wp_region_till (S := fun W => W.cell? ⟨g1, 3, none⟩ = some (.slice (some ⟨tb, hto, none⟩) tl tc) ∧ W.cell? ⟨w.heap.size, 0, none⟩ = some (.int .i64 f) ∧ W.cell? ⟨w.heap.size, 1, none⟩ = some (.bool tn) ∧ W.cell? ⟨w.heap.size, 2, none⟩ = some (.slice ua un.length uc) ∧ W.cell? ⟨w.heap.size, 3, none⟩ = some (.int .i64 4) ∧ W.cell? ⟨w.heap.size, 4, none⟩ = some (.string nm) ∧ W.cell? ⟨w.heap.size, 5, none⟩ = some (.slice xa xl xc) ∧ W.cell? ⟨w.heap.size, 6, none⟩ = some (.slice (some ⟨tb, hto, none⟩) tl tc) ∧ W.cell? ⟨tb, hto + 4, none⟩ = some (.int .i64 p1) ∧ W.cell? ⟨tb, hto + 4 + 1, none⟩ = some (.string p2) ∧ W.cell? ⟨tb, hto + 4 + 2, none⟩ = some (.slice p3 p4 p5) ∧ W.cell? ⟨tb, hto + 4 + 3, none⟩ = some (.slice p6 p7 p8)) 7 (by kernel_rfl) ?_
  refine till_take (i := 0) (v := ?_) rfl (by kernel_rfl) (fun _ _ _ h => h) (Or.inl ⟨by rfl, ?_⟩) ⟨y3,c0,c1,c2,c3,c4,c5,c6,v0,v1,v2,v3⟩ ?_
  rotate_left
  · intro W hS
    try dsimp only at hS
    go_split_ands
    go_simp
    try with_reducible rfl
  try simp only [Act.put, List.getElem_toArray, List.getElem_cons_zero, List.getElem_cons_succ, List.setIfInBounds_toArray, List.set_cons_zero, List.set_cons_succ]
  refine till_take (i := 1) (v := ?_) rfl (by kernel_rfl) (fun _ _ _ h => h) (Or.inl ⟨by rfl, ?_⟩) ⟨y3,c0,c1,c2,c3,c4,c5,c6,v0,v1,v2,v3⟩ ?_
  rotate_left
  · intro W hS
    try dsimp only at hS
    go_split_ands
    go_simp
    try with_reducible rfl
  try simp only [Act.put, List.getElem_toArray, List.getElem_cons_zero, List.getElem_cons_succ, List.setIfInBounds_toArray, List.set_cons_zero, List.set_cons_succ]
  refine till_take (i := 2) (v := ?_) rfl (by kernel_rfl) (fun _ _ _ h => h) (Or.inl ⟨by rfl, ?_⟩) ⟨y3,c0,c1,c2,c3,c4,c5,c6,v0,v1,v2,v3⟩ ?_
  rotate_left
  · intro W hS
    try dsimp only at hS
    go_split_ands
    go_simp
    try with_reducible rfl
  try simp only [Act.put, List.getElem_toArray, List.getElem_cons_zero, List.getElem_cons_succ, List.setIfInBounds_toArray, List.set_cons_zero, List.set_cons_succ]
  refine till_take (i := 3) (v := ?_) rfl (by kernel_rfl) (fun _ _ _ h => h) (Or.inl ⟨by rfl, ?_⟩) ⟨y3,c0,c1,c2,c3,c4,c5,c6,v0,v1,v2,v3⟩ ?_
  rotate_left
  · intro W hS
    try dsimp only at hS
    go_split_ands
    go_simp
    try with_reducible rfl
  try simp only [Act.put, List.getElem_toArray, List.getElem_cons_zero, List.getElem_cons_succ, List.setIfInBounds_toArray, List.set_cons_zero, List.set_cons_succ]
  refine till_take (i := 4) (v := ?_) rfl (by kernel_rfl) (fun _ _ _ h => h) (Or.inl ⟨by rfl, ?_⟩) ⟨y3,c0,c1,c2,c3,c4,c5,c6,v0,v1,v2,v3⟩ ?_
  rotate_left
  · intro W hS
    try dsimp only at hS
    go_split_ands
    go_simp
    try with_reducible rfl
  try simp only [Act.put, List.getElem_toArray, List.getElem_cons_zero, List.getElem_cons_succ, List.setIfInBounds_toArray, List.set_cons_zero, List.set_cons_succ]
  refine till_take (i := 5) (v := ?_) rfl (by kernel_rfl) (fun _ _ _ h => h) (Or.inl ⟨by rfl, ?_⟩) ⟨y3,c0,c1,c2,c3,c4,c5,c6,v0,v1,v2,v3⟩ ?_
  rotate_left
  · intro W hS
    try dsimp only at hS
    go_split_ands
    go_simp
    try with_reducible rfl
  try simp only [Act.put, List.getElem_toArray, List.getElem_cons_zero, List.getElem_cons_succ, List.setIfInBounds_toArray, List.set_cons_zero, List.set_cons_succ]
  refine till_one (i := 6) (by kernel_rfl) rfl (fun K' hK => ?_)
  go_simp
  have b0 : Below W9.heap.size W9 W9.drew := (Below.refl W9.heap.size W9).drew
  (with_reducible refine (partWith_any _ _ _ _ _ _ _ _ _ _ _ _ _ _ _ _ _ _ _ _ _ _).mono ?_)
  rintro y w8 ⟨rfl, b1⟩
  have bt := b0.trans (b1.mono b0.size)
  have HJ8 := Lib.hid (HJ9.out.trans (HJ9.out.run.below bt))
  have BP8 := Lib.hid (BP9.out.below bt)
  have BT8 := Lib.hid (BT9.out.below bt)
  refine hK _ _ ⟨cell_up y3 bt, cell_up c0 bt, cell_up c1 bt, cell_up c2 bt, cell_up c3 bt, cell_up c4 bt, cell_up c5 bt, cell_up c6 bt, cell_up v0 bt, cell_up v1 bt, cell_up v2 bt, cell_up v3 bt⟩ ?_
  clear hK K' b0 b1 y3 c0 c1 c2 c3 c4 c5 c6 v0 v1 v2 v3 hlt9
  try simp only [Act.put, List.getElem_toArray, List.getElem_cons_zero, List.getElem_cons_succ, List.setIfInBounds_toArray, List.set_cons_zero, List.set_cons_succ]
  refine till_last (by kernel_rfl) rfl (by kernel_rfl) (fun K' hK => ?_)
  go_simp
  have hic := HIH1.out
  have hrt8 : RepT w8 (X3 rb pV fV) (t1 t) [.int .i64 p1, .string p2, .slice p3 p4 p5, .slice p6 p7 p8] := HJ8.out.rep (K := teK) (x := (t1 t)) HRT1.out
  have huu8 : SlR exK w8 (X3 rb pV fV) un ua un.length uc := (HJ8.out.slr (K := exK) HU.out)
  unfold AcqC at hic
  (with_reducible refine (hic f tn un _ pV fV ua uc [.int .i64 p1, .string p2, .slice p3 p4 p5, .slice p6 p7 p8] w8 HFI.out HJ8.out.run hrt8 huu8 (by have := HSM1.out; have := HKD1.out; omega) (by have := HSM1.out; have := HKD1.out; first | omega | (show s.ps.length + _ ≤ _; omega)) (by have := HSM1.out; have := HKD1.out; first | omega | (show s.fs.length + _ ≤ _; omega))).mono ?_)
  rintro y w9 ⟨rfl, vP', vF', hR9⟩
  have HR9 := Lib.hid (HJ8.out.trans hR9)
  have HR98 := Lib.hid hR9
  clear hic hrt8 huu8
  refine hK _ _ ?_
  clear hK K' hR9 bt
  try simp only [Act.put, List.getElem_toArray, List.getElem_cons_zero, List.getElem_cons_succ, List.setIfInBounds_toArray, List.set_cons_zero, List.set_cons_succ]
  refine wpAny_done (by kernel_rfl) ?_ _
  go_wp2_with fail
  go_end0
  exact ⟨rfl, vP', vF', by rw [HE.out]; exact HR9.out⟩
end
end Go.Proofs.Ytmiinmndbkdjbaa

/- slices.Clone over expressions. -/
namespace Go.Proofs.Ytmiinmndbkdjbaa
set_option linter.unusedVariables false
set_option linter.unusedSimpArgs false
open Go.RowKit
set_option maxRecDepth 100000 in
set_option maxHeartbeats 1000000 in
/-- Clone; condition: not more elements than 1000000. -/
theorem cloneE_any (l : List Ex) (X : List Nat) (a : Option Addr) (len cap : Nat) (w : World) (hS : SlE w X l a len cap) (hX : ∀ b ∈ X, b < w.heap.size) (hb : len ≤ 1000000) :
    Calls Try.prog 43 #[.slice a len cap] w fun e w' => (∃ a' cap', e = .returned (.slice a' len cap') ∧ SlE w' X l a' len cap') ∧ Below w.heap.size w w' := by
  obtain ⟨f1, f2, f3⟩ := hS.facts
  have HS := Lib.hid hS
  have HXX := Lib.hid hX
  cases a with
  | none =>
    have h0 : len = 0 := by
      obtain ⟨vs, h1, _, h3⟩ := hS
      rcases Nat.eq_zero_or_pos len with h | h
      · exact h
      · obtain ⟨b, o, ha, _⟩ := h3.2.2.2 h; cases ha
    subst h0
    have hl : l = [] := List.length_eq_zero_iff.1 f1
    subst hl
    clear hS hX f1
    have hnil : ∀ W, (binOp .eql 29 (.slice none 0 cap) (.slice none 0 0)).run Try.prog W = .ok (.bool true) W := fun W => Lib.run_eql_slice_nil W _ _ none 0 cap 0 0 Try.underlying29
    go_enter Try.func43, Try.ntmps43
    go_wp2
    go_ret
    exact ⟨⟨none, 0, rfl, SlE.nil _ _⟩, Below.refl _ _⟩
  | some ad =>
    obtain ⟨vs, h1, h2, h3⟩ := hS
    have HV := Lib.hid h3
    have HL := Lib.hid (flat_len 4 vs h3.len4)
    have H1 := Lib.hid h1
    have H2 := Lib.hid h2
    have H4 := Lib.hid h3.len4
    have HO : Hid (∀ u ∈ vs.flatten, u.oneCell' = true) := flat_one (fun c hc => by
      obtain ⟨i, hi, rfl⟩ := List.getElem_of_mem hc
      exact (h2 i _ _ (List.getElem?_eq_getElem (by omega)) (List.getElem?_eq_getElem hi)).one.2)
    have hvl : vs.length = len := h3.1
    have HVL := Lib.hid hvl
    have HN := Lib.hid (Mem.Own.lit (e := 53) (size := 4) (Below.refl w.heap.size w) #[] 0 (by decide) rfl)
    have HA : Hid (∃ b o, ad = ⟨b, o, none⟩ ∨ len = 0) := by
      rcases Nat.eq_zero_or_pos len with h | h
      · exact ⟨0, 0, .inr h⟩
      · obtain ⟨b, o, ha, _⟩ := h3.2.2.2 h; injection ha with ha; exact ⟨b, o, .inl ha⟩
    have HCL : Hid (∀ j u, vs.flatten[j]? = some u → (w.alloc (.cells #[] 53)).cell? (ad.add j) = some u) := by
      intro j u hu
      have hj : j < vs.flatten.length := (List.getElem?_eq_some_iff.1 hu).1
      have hp : 0 < len := by rw [HL.out, hvl] at hj; omega
      obtain ⟨b, o, ha, hblt, _⟩ := h3.2.2.2 hp
      injection ha with ha; subst ha
      rw [Mem.add_off, World.cell?_alloc_lt w _ ⟨b, o + j, none⟩ hblt, ← Mem.add_off]
      exact h3.cells (by decide) j u hu
    clear h3 h2 h1 hX f1 hvl
    have hnil : ∀ W, (binOp .eql 29 (.slice (some ad) len cap) (.slice none 0 0)).run Try.prog W = .ok (.bool false) W := fun W => Lib.run_eql_slice_nil W _ _ (some ad) len cap 0 0 Try.underlying29
    go_enter Try.func43, Try.ntmps43
    go_wp2_with (at_builtin; refine Mem.ap infoE Try.underlying29 rfl (by decide) rfl (.tmp 5) (.tmp 6) rfl rfl HN.out ad len cap vs.flatten rfl (by rw [HL.out, HVL.out]) HCL.out HO.out (by unfold maxLen; omega) (by omega) ?_; intro v' w' o' g' _ _; rw [Nat.zero_add] at o')
    obtain ⟨a2, cap2, rfl, hsl, _⟩ := own_sl o' HVL.out H4.out HXX.out
    have R := Lib.hid (show SlE w' X l a2 len cap2 from ⟨vs, H1.out, fun i e cs he hc => (H2.out i e cs he hc).kept (Kept.of_below o'.below X), hsl⟩)
    have B := Lib.hid o'.below
    clear o' g' hsl
    go_wp2
    go_ret
    exact ⟨⟨_, _, rfl, R.out⟩, B.out⟩
end Go.Proofs.Ytmiinmndbkdjbaa

/- slices.Clone over expressions: a row of the call's own. -/
namespace Go.Proofs.Ytmiinmndbkdjbaa
set_option linter.unusedVariables false
set_option linter.unusedSimpArgs false
open Go.RowKit
set_option maxRecDepth 100000 in
set_option maxHeartbeats 1000000 in
theorem cloneEo_any (l : List Ex) (X : List Nat) (a : Option Addr) (len cap : Nat) (w : World) (hS : SlR exK w X l a len cap) (hX : ∀ b ∈ X, b < w.heap.size) (hb : len ≤ 1000000) :
    Calls Try.prog 43 #[.slice a len cap] w fun e w' => (∃ v, e = .returned v ∧ ∃ csl, Grow exK 53 w.heap.size w' X l v csl) ∧ Below w.heap.size w w' := by
  obtain ⟨f1, f2, f3⟩ := hS.facts
  have HXX := Lib.hid hX
  cases a with
  | none =>
    have h0 : len = 0 := by
      rcases Nat.eq_zero_or_pos len with h | h
      · exact h
      · obtain ⟨b, o, x, cs, ha, -⟩ := hS.at 0 h; cases ha
    subst h0
    have hl : l = [] := List.length_eq_zero_iff.1 f1
    subst hl
    clear hS hX f1
    have hnil : ∀ W, (binOp .eql 29 (.slice none 0 cap) (.slice none 0 0)).run Try.prog W = .ok (.bool true) W := fun W => Lib.run_eql_slice_nil W _ _ none 0 cap 0 0 Try.underlying29
    go_enter Try.func43, Try.ntmps43
    go_wp2
    go_ret
    exact ⟨⟨_, rfl, [], Grow.start exK 53 (Nat.le_refl _) HXX.out⟩, Below.refl _ _⟩
  | some ad =>
    obtain ⟨vs, h1, h2, h3⟩ := hS
    have h3' : Sl w X 4 (some ad) len cap vs := h3
    have HL := Lib.hid (flat_len 4 vs h3'.len4)
    have H1 := Lib.hid h1
    have H2 := Lib.hid h2
    have HO : Hid (∀ u ∈ vs.flatten, u.oneCell' = true) := flat_one (fun c hc => by
      obtain ⟨i, hi, rfl⟩ := List.getElem_of_mem hc
      exact (exK.one (h2 i _ _ (List.getElem?_eq_getElem (by omega)) (List.getElem?_eq_getElem hi))).2)
    have hvl : vs.length = len := h3.1
    have HVL := Lib.hid hvl
    have HLN := Lib.hid f1
    have HN := Lib.hid (Mem.Own.lit (e := 53) (size := 4) (Below.refl w.heap.size w) #[] 0 (by decide) rfl)
    have HCL : Hid (∀ j u, vs.flatten[j]? = some u → (w.alloc (.cells #[] 53)).cell? (ad.add j) = some u) := by
      intro j u hu
      have hj : j < vs.flatten.length := (List.getElem?_eq_some_iff.1 hu).1
      have hp : 0 < len := by rw [HL.out, hvl] at hj; omega
      obtain ⟨b, o, ha, hblt, _⟩ := h3.2.2.2 hp
      injection ha with ha; subst ha
      rw [Mem.add_off, World.cell?_alloc_lt w _ ⟨b, o + j, none⟩ hblt, ← Mem.add_off]
      exact h3'.cells (by decide) j u hu
    clear h3 h3' h2 h1 hX f1 hvl
    have hnil : ∀ W, (binOp .eql 29 (.slice (some ad) len cap) (.slice none 0 0)).run Try.prog W = .ok (.bool false) W := fun W => Lib.run_eql_slice_nil W _ _ (some ad) len cap 0 0 Try.underlying29
    go_enter Try.func43, Try.ntmps43
    go_wp2_with (at_builtin; refine Mem.ap infoE Try.underlying29 rfl (by decide) rfl (.tmp 5) (.tmp 6) rfl rfl HN.out ad len cap vs.flatten rfl (by rw [HL.out, HVL.out]) HCL.out HO.out (by unfold maxLen; omega) (by omega) ?_; intro v' w' o' g' _ _; rw [Nat.zero_add] at o')
    obtain ⟨a2, cap2, rfl⟩ := own_slice o'.own
    have HG : Hid (Grow exK 53 w.heap.size w' X l (.slice a2 len cap2) vs) := by
      have hlt : ∀ {g : Nat}, (Value.slice a2 len cap2).ownBlock = some g → w.heap.size ≤ g := fun hg => (own_lt o'.own hg).1
      have e1 : ([] : List Value) ++ vs.flatten = vs.flatten := rfl
      refine ⟨by rw [HLN.out]; exact o'.own, o'.below.size, fun g hg hm => by have := hlt hg; have := HXX.out g hm; omega, fun b hb => Nat.lt_of_lt_of_le (HXX.out b hb) o'.below.size, H1.out, fun i x cs hx hc => ?_⟩
      have hR := H2.out i x cs hx hc
      have hR2 : exK.R w (busy (.slice a2 len cap2) X) x cs := exK.less hR (fun b hb hm => by
        rcases busy_mem.1 hm with h1 | h1
        · have := hlt h1; omega
        · exact h1)
      exact exK.kept hR2 (Kept.of_below o'.below _)
    have B := Lib.hid o'.below
    clear o' g'
    go_wp2
    go_ret
    exact ⟨⟨_, rfl, vs, HG.out⟩, B.out⟩
end Go.Proofs.Ytmiinmndbkdjbaa

/- What acquiring a term comes to, walked: an end to it. -/
namespace Go.Proofs.Ytmiinmndbkdjbaa
set_option linter.unusedVariables false
set_option linter.unusedSimpArgs false
open Go.RowKit
theorem Grow.lower {α : Type} {K : Elt α} {e : TypeId} {base base' : Nat} {w : World} {X : List Nat} {l : List α} {v : Value} {csl : List (List Value)} (h : Grow K e base w X l v csl) (hb : base' ≤ base) : Grow K e base' w X l v csl :=
  ⟨⟨h.own.1, h.own.2.imp id (fun ⟨g, cap, cur, h1, h2, h3⟩ => ⟨g, cap, cur, h1, Nat.le_trans hb h2, h3⟩)⟩, Nat.le_trans hb h.room, h.apart, h.lt, h.count, h.elts⟩
section
variable (base rb : Nat) (day : Int) (fx : List Fx) (fa : Option Addr) (fl fc : Nat) (t : Te) (f : Int) (tn : Bool) (un : List Ex) (s : RS) (vP vF : Value) (ua : Option Addr) (uc : Nat) (cs : List Value) (w : World)
variable (hd : I64 day) (hf : I64 f) (hJ : RunJ base rb day fx fa fl fc w s vP vF) (hT : RepT w (X3 rb vP vF) t cs) (hU : SlR exK w (X3 rb vP vF) un ua un.length uc) (hb : bT t = true) (hbad : s.bad = false) (hk : un.length + t.rk ≤ 1000) (hP : s.ps.length + t.nd ≤ 100000) (hF : s.fs.length + t.nd ≤ 100000)
include hd hf hJ hT hU hb hbad hk hP hF
set_option maxRecDepth 100000 in
set_option maxHeartbeats 4000000 in
theorem acq8k_any (hop : t.op = 8) (hK : evalX day fx (x0 t) = .brk) :
    Calls Try.prog 22 #[.pointer (some ⟨rb, 0, none⟩), .agg (.int .i64 f :: .bool tn :: .slice ua un.length uc :: cs).toArray] w fun x w' => x = .returned (.tuple #[]) ∧ ∃ vP' vF', RunTo base rb day fx fa fl fc w w' vP vF (acq day fx t f tn un s) vP' vF' := by
  have HRES := Lib.hid (acq8k (day := day) (fx := fx) (f := f) (tn := tn) (un := un) hb hbad hop (by rw [hK]; rfl))
  have ho : orB s (evalX day fx (x0 t)) = { s with bad := true } := by rw [hK]; unfold orB; rw [hbad]; rfl
  have hv : (evalX day fx (x0 t)).B = false := by rw [hK]; rfl
  have hxe : t.exprs = [x0 t] := (te_kids hb).2.2.1 (by omega)
  have hxk : (x0 t).rk ≤ 1000 := by have := rk_kidX (t := t) (e := x0 t) (by rw [hxe]; exact List.mem_cons_self ..); omega
  have HTR : Hid (∀ (W : World) (cs' : List Value), RunJ base rb day fx fa fl fc W s vP vF → RepE W (X3 rb vP vF) (x0 t) cs' → Calls Try.prog 42 #[.pointer (some ⟨rb, 0, none⟩), .agg cs'.toArray] W fun x w' => x = .returned (.bool false) ∧ RunTo base rb day fx fa fl fc W w' vP vF { s with bad := true } vP vF ∧ Fr [rb] W w') := fun W cs' h1 h2 => by
    have h3 := runTruth_any base rb day fx fa fl fc s vP vF (x0 t) cs' W hd h1 h2 hxk
    rw [ho, hv] at h3
    exact h3
  clear ho hv hxk
  obtain ⟨op, nm, exprs, terms, xa, xl, xc, ta, tl, tc, e1, e2, -, hnm, hX, hL⟩ := hT.inv
  have hoe : op = t.op := by rw [e1]; rfl
  have hne : nm = t.nm := by rw [e1]; rfl
  have hxe : exprs = t.exprs := by rw [e1]; rfl
  have hte : terms = t.terms := by rw [e1]; rfl
  have HPT : Hid (ptK.R w (X3 rb vP vF) ⟨f, tn, un, t⟩ (.int .i64 f :: .bool tn :: .slice ua un.length uc :: cs)) := ⟨ua, uc, cs, rfl, hf, hU, hT⟩
  subst e2
  rw [hxe] at hX
  rw [hte] at hL
  clear e1 hxe hte
  obtain rfl : op = 8 := hoe.trans hop
  have HT := Lib.hid hT
  have HU := Lib.hid hU
  have HX := Lib.hid hX
  have HL := Lib.hid hL
  have HJ := Lib.hid hJ
  have HSM := Lib.hid (And.intro hk (And.intro hP hF))
  have HFI := Lib.hid hf
  have HBT := Lib.hid hb
  have HNM := Lib.hid hnm
  have HDY := Lib.hid hd
  have HOP := Lib.hid hop
  have HNE := Lib.hid hne
  have HBD := Lib.hid hbad
  have HRB : Hid (rb < w.heap.size) := hJ.lt rb (by unfold X3; simp)
  obtain ⟨S9, hS9⟩ : ∃ S9, S9 = acq day fx t f tn un s := ⟨_, rfl⟩
  rw [← hS9]
  have HSS := Lib.hid hS9
  have HS1 := Lib.hid (hJ.sep.new 71 #[.int .i64 f, .bool tn, .slice ua un.length uc, .int .i64 8, .string nm, .slice xa xl xc, .slice ta tl tc])
  have HS2 := Lib.hid (HS1.out.new 32 #[.int .i64 8, .string nm, .slice xa xl xc, .slice ta tl tc])
  have HN1 := Lib.hid (below_nT w (.cells #[.int .i64 f, .bool tn, .slice ua un.length uc, .int .i64 8, .string nm, .slice xa xl xc, .slice ta tl tc] 71))
  have HN2 := Lib.hid (HN1.out.trans ((below_nT (w.alloc (.cells #[.int .i64 f, .bool tn, .slice ua un.length uc, .int .i64 8, .string nm, .slice xa xl xc, .slice ta tl tc] 71)) (.cells #[.int .i64 8, .string nm, .slice xa xl xc, .slice ta tl tc] 32)).mono HN1.out.size))
  have HSZ : Hid ((w.alloc (.cells #[.int .i64 f, .bool tn, .slice ua un.length uc, .int .i64 8, .string nm, .slice xa xl xc, .slice ta tl tc] 71)).heap.size = w.heap.size + 1) := by show _ = _; simp
  clear hT hU hX hL hJ hk hP hF hf hb hnm hd hoe hne hS9 hop hbad
  go_enter Try.func22, Try.ntmps22
  go_upto_region 1 with (fail)
  generalize w.alloc (.cells #[.int .i64 f, .bool tn, .slice ua un.length uc, .int .i64 8, .string nm, .slice xa xl xc, .slice ta tl tc] 71) = w1 at *
  obtain ⟨c0, c1, c2, c3, c4, c5, c6⟩ := blk7 (HS1.out.blk 0 rfl)
  go_upto_region 2 with (fail)
  generalize w1.alloc (.cells #[.int .i64 8, .string nm, .slice xa xl xc, .slice ta tl tc] 32) = w2 at *
  generalize w1.heap.size = g1 at *
  clear c0 c1 c2 c3 c4 c5 c6
  have HG1 : Hid (w.heap.size < g1) := by have := HSZ.out; show _ < _; omega
  have q4 : w2.cell? ⟨rb, 4, none⟩ = some (.bool s.bad) := (HS2.out.blk 4 rfl).cell 4
  rw [HBD.out] at q4
  have y0 : w2.cell? ⟨g1, 0, none⟩ = some (.int .i64 8) := (HS2.out.blk 0 rfl).cell 0
  obtain ⟨rfl, b, o, xo, xn, xs, aa, al, ac, rfl, hbX, hRX, u0, u1, u2, u3⟩ := ex_one HX.out hxe
  have HRX := Lib.hid hRX
  have HBX : Hid (b ∉ X3 rb vP vF) := hbX
  have HUS : Hid (w.cell? ⟨b, o, none⟩ = some (.int .i64 xo) ∧ w.cell? ⟨b, o + 1, none⟩ = some (.int .i64 xn) ∧ w.cell? ⟨b, o + 2, none⟩ = some (.string xs) ∧ w.cell? ⟨b, o + 3, none⟩ = some (.slice aa al ac)) := ⟨u0, u1, u2, u3⟩
  replace u0 := cellT u0 HN2.out
  replace u1 := cellT u1 HN2.out
  replace u2 := cellT u2 HN2.out
  replace u3 := cellT u3 HN2.out
  have HJ2 := Lib.hid (HJ.out.below HN2.out)
  have s2 : w2.cell? ⟨g1, 2, none⟩ = some (.slice (some ⟨b, o, none⟩) 1 xc) := (HS2.out.blk 0 rfl).cell 2
  clear hRX hbX hxe
  go_upto_region 14 with (fail)
  go_wp2_with fail
  go_at_call 42
  have hR2 : RepE w2 (X3 rb vP vF) (x0 t) [.int .i64 xo, .int .i64 xn, .string xs, .slice aa al ac] := HJ2.out.rep (K := exK) (x := x0 t) HRX.out
  (with_reducible refine (HTR.out w2 _ HJ2.out.run hR2).mono ?_)
  rintro y w3 ⟨rfl, ht, hfr⟩
  have HJ3 := Lib.hid (HJ2.out.trans ht)
  have HFR := Lib.hid hfr
  clear ht hfr hR2 u0 u1 u2 u3 s2 q4 y0 HTR
  have q4 : w3.cell? ⟨rb, 4, none⟩ = some (.bool true) := HJ3.out.run.cells.cell 4
  go_wp2_with fail
  (try simp only [Exit.inBlock, Exit.then])
  refine bodyPost_ret (results_none rfl _ _ _) rfl ?_
  exact ⟨rfl, vP, vF, by rw [HSS.out, HRES.out]; exact HJ3.out⟩
set_option maxRecDepth 100000 in
set_option maxHeartbeats 4000000 in
theorem acq8e_any (hop : t.op = 8) (hK : evalX day fx (x0 t) = .tru true) :
    Calls Try.prog 22 #[.pointer (some ⟨rb, 0, none⟩), .agg (.int .i64 f :: .bool tn :: .slice ua un.length uc :: cs).toArray] w fun x w' => x = .returned (.tuple #[]) ∧ ∃ vP' vF', RunTo base rb day fx fa fl fc w w' vP vF (acq day fx t f tn un s) vP' vF' := by
  have HRES := Lib.hid (acq8e (day := day) (fx := fx) (f := f) (tn := tn) (un := un) hb hbad hop (by rw [hK]; show (2 : Int) ≠ 3; omega) (by rw [hK]; rfl))
  have ho : orB s (evalX day fx (x0 t)) = s := by rw [hK]; unfold orB; rw [show decide ((Vl.tru true).K = 3) = false from rfl, Bool.or_false]
  have hv : (evalX day fx (x0 t)).B = true := by rw [hK]; rfl
  have hxe : t.exprs = [x0 t] := (te_kids hb).2.2.1 (by omega)
  have hxk : (x0 t).rk ≤ 1000 := by have := rk_kidX (t := t) (e := x0 t) (by rw [hxe]; exact List.mem_cons_self ..); omega
  have HTR : Hid (∀ (W : World) (cs' : List Value), RunJ base rb day fx fa fl fc W s vP vF → RepE W (X3 rb vP vF) (x0 t) cs' → Calls Try.prog 42 #[.pointer (some ⟨rb, 0, none⟩), .agg cs'.toArray] W fun x w' => x = .returned (.bool true) ∧ RunTo base rb day fx fa fl fc W w' vP vF s vP vF ∧ Fr [rb] W w') := fun W cs' h1 h2 => by
    have h3 := runTruth_any base rb day fx fa fl fc s vP vF (x0 t) cs' W hd h1 h2 hxk
    rw [ho, hv] at h3
    exact h3
  clear ho hv hxk
  obtain ⟨op, nm, exprs, terms, xa, xl, xc, ta, tl, tc, e1, e2, -, hnm, hX, hL⟩ := hT.inv
  have hoe : op = t.op := by rw [e1]; rfl
  have hne : nm = t.nm := by rw [e1]; rfl
  have hxe : exprs = t.exprs := by rw [e1]; rfl
  have hte : terms = t.terms := by rw [e1]; rfl
  have HPT : Hid (ptK.R w (X3 rb vP vF) ⟨f, tn, un, t⟩ (.int .i64 f :: .bool tn :: .slice ua un.length uc :: cs)) := ⟨ua, uc, cs, rfl, hf, hU, hT⟩
  subst e2
  rw [hxe] at hX
  rw [hte] at hL
  clear e1 hxe hte
  obtain rfl : op = 8 := hoe.trans hop
  have HT := Lib.hid hT
  have HU := Lib.hid hU
  have HX := Lib.hid hX
  have HL := Lib.hid hL
  have HJ := Lib.hid hJ
  have HSM := Lib.hid (And.intro hk (And.intro hP hF))
  have HFI := Lib.hid hf
  have HBT := Lib.hid hb
  have HNM := Lib.hid hnm
  have HDY := Lib.hid hd
  have HOP := Lib.hid hop
  have HNE := Lib.hid hne
  have HBD := Lib.hid hbad
  have HRB : Hid (rb < w.heap.size) := hJ.lt rb (by unfold X3; simp)
  obtain ⟨S9, hS9⟩ : ∃ S9, S9 = acq day fx t f tn un s := ⟨_, rfl⟩
  rw [← hS9]
  have HSS := Lib.hid hS9
  have HS1 := Lib.hid (hJ.sep.new 71 #[.int .i64 f, .bool tn, .slice ua un.length uc, .int .i64 8, .string nm, .slice xa xl xc, .slice ta tl tc])
  have HS2 := Lib.hid (HS1.out.new 32 #[.int .i64 8, .string nm, .slice xa xl xc, .slice ta tl tc])
  have HN1 := Lib.hid (below_nT w (.cells #[.int .i64 f, .bool tn, .slice ua un.length uc, .int .i64 8, .string nm, .slice xa xl xc, .slice ta tl tc] 71))
  have HN2 := Lib.hid (HN1.out.trans ((below_nT (w.alloc (.cells #[.int .i64 f, .bool tn, .slice ua un.length uc, .int .i64 8, .string nm, .slice xa xl xc, .slice ta tl tc] 71)) (.cells #[.int .i64 8, .string nm, .slice xa xl xc, .slice ta tl tc] 32)).mono HN1.out.size))
  have HSZ : Hid ((w.alloc (.cells #[.int .i64 f, .bool tn, .slice ua un.length uc, .int .i64 8, .string nm, .slice xa xl xc, .slice ta tl tc] 71)).heap.size = w.heap.size + 1) := by show _ = _; simp
  clear hT hU hX hL hJ hk hP hF hf hb hnm hd hoe hne hS9 hop hbad
  go_enter Try.func22, Try.ntmps22
  go_upto_region 1 with (fail)
  generalize w.alloc (.cells #[.int .i64 f, .bool tn, .slice ua un.length uc, .int .i64 8, .string nm, .slice xa xl xc, .slice ta tl tc] 71) = w1 at *
  obtain ⟨c0, c1, c2, c3, c4, c5, c6⟩ := blk7 (HS1.out.blk 0 rfl)
  go_upto_region 2 with (fail)
  generalize w1.alloc (.cells #[.int .i64 8, .string nm, .slice xa xl xc, .slice ta tl tc] 32) = w2 at *
  generalize w1.heap.size = g1 at *
  clear c0 c1 c2 c3 c4 c5 c6
  have HG1 : Hid (w.heap.size < g1) := by have := HSZ.out; show _ < _; omega
  have q4 : w2.cell? ⟨rb, 4, none⟩ = some (.bool s.bad) := (HS2.out.blk 4 rfl).cell 4
  rw [HBD.out] at q4
  have y0 : w2.cell? ⟨g1, 0, none⟩ = some (.int .i64 8) := (HS2.out.blk 0 rfl).cell 0
  obtain ⟨rfl, b, o, xo, xn, xs, aa, al, ac, rfl, hbX, hRX, u0, u1, u2, u3⟩ := ex_one HX.out hxe
  have HRX := Lib.hid hRX
  have HBX : Hid (b ∉ X3 rb vP vF) := hbX
  have HUS : Hid (w.cell? ⟨b, o, none⟩ = some (.int .i64 xo) ∧ w.cell? ⟨b, o + 1, none⟩ = some (.int .i64 xn) ∧ w.cell? ⟨b, o + 2, none⟩ = some (.string xs) ∧ w.cell? ⟨b, o + 3, none⟩ = some (.slice aa al ac)) := ⟨u0, u1, u2, u3⟩
  replace u0 := cellT u0 HN2.out
  replace u1 := cellT u1 HN2.out
  replace u2 := cellT u2 HN2.out
  replace u3 := cellT u3 HN2.out
  have HJ2 := Lib.hid (HJ.out.below HN2.out)
  have s2 : w2.cell? ⟨g1, 2, none⟩ = some (.slice (some ⟨b, o, none⟩) 1 xc) := (HS2.out.blk 0 rfl).cell 2
  clear hRX hbX hxe
  go_upto_region 14 with (fail)
  go_wp2_with fail
  go_at_call 42
  have hR2 : RepE w2 (X3 rb vP vF) (x0 t) [.int .i64 xo, .int .i64 xn, .string xs, .slice aa al ac] := HJ2.out.rep (K := exK) (x := x0 t) HRX.out
  (with_reducible refine (HTR.out w2 _ HJ2.out.run hR2).mono ?_)
  rintro y w3 ⟨rfl, ht, hfr⟩
  have HJ3 := Lib.hid (HJ2.out.trans ht)
  have HFR := Lib.hid hfr
  clear ht hfr hR2 u0 u1 u2 u3 s2 q4 y0 HTR
  go_wp2_with fail
  (try simp only [Exit.inBlock, Exit.then])
  refine bodyPost_ret (results_none rfl _ _ _) rfl ?_
  exact ⟨rfl, vP, vF, by rw [HSS.out, HRES.out]; exact HJ3.out⟩
set_option maxRecDepth 100000 in
set_option maxHeartbeats 8000000 in
theorem acq8_any (hop : t.op = 8) (hK : (evalX day fx (x0 t)).K ≠ 3) (hB : (evalX day fx (x0 t)).B = false) (IH : AcqC base rb day fx fa fl fc (t0 t)) :
    Calls Try.prog 22 #[.pointer (some ⟨rb, 0, none⟩), .agg (.int .i64 f :: .bool tn :: .slice ua un.length uc :: cs).toArray] w fun x w' => x = .returned (.tuple #[]) ∧ ∃ vP' vF', RunTo base rb day fx fa fl fc w w' vP vF (acq day fx t f tn un s) vP' vF' := by
  have HRES := Lib.hid (acq8 (day := day) (fx := fx) (f := f) (tn := tn) (un := un) hb hbad hop hK hB)
  have ho : orB s (evalX day fx (x0 t)) = s := by unfold orB; rw [decide_eq_false hK, Bool.or_false]
  have hv : (evalX day fx (x0 t)).B = false := hB
  have HIH := Lib.hid IH
  clear hK hB IH
  have HKD : Hid ((t0 t).rk + 1 ≤ t.rk ∧ (t0 t).nd + 1 ≤ t.nd) := kid0_bd hb (.inr (.inr hop))
  have hte : t.terms[0]? = some (t0 t) := kid0_at hb (.inr (.inr hop))
  have hxe : t.exprs = [x0 t] := (te_kids hb).2.2.1 (by omega)
  have hxk : (x0 t).rk ≤ 1000 := by have := rk_kidX (t := t) (e := x0 t) (by rw [hxe]; exact List.mem_cons_self ..); omega
  have HTR : Hid (∀ (W : World) (cs' : List Value), RunJ base rb day fx fa fl fc W s vP vF → RepE W (X3 rb vP vF) (x0 t) cs' → Calls Try.prog 42 #[.pointer (some ⟨rb, 0, none⟩), .agg cs'.toArray] W fun x w' => x = .returned (.bool false) ∧ RunTo base rb day fx fa fl fc W w' vP vF s vP vF ∧ Fr [rb] W w') := fun W cs' h1 h2 => by
    have h3 := runTruth_any base rb day fx fa fl fc s vP vF (x0 t) cs' W hd h1 h2 hxk
    rw [ho, hv] at h3
    exact h3
  clear ho hv hxk
  obtain ⟨op, nm, exprs, terms, xa, xl, xc, ta, tl, tc, e1, e2, -, hnm, hX, hL⟩ := hT.inv
  have hoe : op = t.op := by rw [e1]; rfl
  have hne : nm = t.nm := by rw [e1]; rfl
  have hxe : exprs = t.exprs := by rw [e1]; rfl
  have hte : terms = t.terms := by rw [e1]; rfl
  have HPT : Hid (ptK.R w (X3 rb vP vF) ⟨f, tn, un, t⟩ (.int .i64 f :: .bool tn :: .slice ua un.length uc :: cs)) := ⟨ua, uc, cs, rfl, hf, hU, hT⟩
  subst e2
  rw [hxe] at hX
  rw [hte] at hL
  clear e1 hxe hte
  obtain rfl : op = 8 := hoe.trans hop
  have HT := Lib.hid hT
  have HU := Lib.hid hU
  have HX := Lib.hid hX
  have HL := Lib.hid hL
  have HJ := Lib.hid hJ
  have HSM := Lib.hid (And.intro hk (And.intro hP hF))
  have HFI := Lib.hid hf
  have HBT := Lib.hid hb
  have HNM := Lib.hid hnm
  have HDY := Lib.hid hd
  have HOP := Lib.hid hop
  have HNE := Lib.hid hne
  have HBD := Lib.hid hbad
  have HRB : Hid (rb < w.heap.size) := hJ.lt rb (by unfold X3; simp)
  obtain ⟨S9, hS9⟩ : ∃ S9, S9 = acq day fx t f tn un s := ⟨_, rfl⟩
  rw [← hS9]
  have HSS := Lib.hid hS9
  have HS1 := Lib.hid (hJ.sep.new 71 #[.int .i64 f, .bool tn, .slice ua un.length uc, .int .i64 8, .string nm, .slice xa xl xc, .slice ta tl tc])
  have HS2 := Lib.hid (HS1.out.new 32 #[.int .i64 8, .string nm, .slice xa xl xc, .slice ta tl tc])
  have HN1 := Lib.hid (below_nT w (.cells #[.int .i64 f, .bool tn, .slice ua un.length uc, .int .i64 8, .string nm, .slice xa xl xc, .slice ta tl tc] 71))
  have HN2 := Lib.hid (HN1.out.trans ((below_nT (w.alloc (.cells #[.int .i64 f, .bool tn, .slice ua un.length uc, .int .i64 8, .string nm, .slice xa xl xc, .slice ta tl tc] 71)) (.cells #[.int .i64 8, .string nm, .slice xa xl xc, .slice ta tl tc] 32)).mono HN1.out.size))
  have HSZ : Hid ((w.alloc (.cells #[.int .i64 f, .bool tn, .slice ua un.length uc, .int .i64 8, .string nm, .slice xa xl xc, .slice ta tl tc] 71)).heap.size = w.heap.size + 1) := by show _ = _; simp
  clear hT hU hX hL hJ hk hP hF hf hb hnm hd hoe hne hS9 hop hbad
  go_enter Try.func22, Try.ntmps22
  go_upto_region 1 with (fail)
  generalize w.alloc (.cells #[.int .i64 f, .bool tn, .slice ua un.length uc, .int .i64 8, .string nm, .slice xa xl xc, .slice ta tl tc] 71) = w1 at *
  obtain ⟨c0, c1, c2, c3, c4, c5, c6⟩ := blk7 (HS1.out.blk 0 rfl)
  go_upto_region 2 with (fail)
  generalize w1.alloc (.cells #[.int .i64 8, .string nm, .slice xa xl xc, .slice ta tl tc] 32) = w2 at *
  generalize w1.heap.size = g1 at *
  clear c0 c1 c2 c3 c4 c5 c6
  have HG1 : Hid (w.heap.size < g1) := by have := HSZ.out; show _ < _; omega
  have q4 : w2.cell? ⟨rb, 4, none⟩ = some (.bool s.bad) := (HS2.out.blk 4 rfl).cell 4
  rw [HBD.out] at q4
  have y0 : w2.cell? ⟨g1, 0, none⟩ = some (.int .i64 8) := (HS2.out.blk 0 rfl).cell 0
  obtain ⟨rfl, b, o, xo, xn, xs, aa, al, ac, rfl, hbX, hRX, u0, u1, u2, u3⟩ := ex_one HX.out hxe
  have HRX := Lib.hid hRX
  have HBX : Hid (b ∉ X3 rb vP vF) := hbX
  have HUS : Hid (w.cell? ⟨b, o, none⟩ = some (.int .i64 xo) ∧ w.cell? ⟨b, o + 1, none⟩ = some (.int .i64 xn) ∧ w.cell? ⟨b, o + 2, none⟩ = some (.string xs) ∧ w.cell? ⟨b, o + 3, none⟩ = some (.slice aa al ac)) := ⟨u0, u1, u2, u3⟩
  replace u0 := cellT u0 HN2.out
  replace u1 := cellT u1 HN2.out
  replace u2 := cellT u2 HN2.out
  replace u3 := cellT u3 HN2.out
  have HJ2 := Lib.hid (HJ.out.below HN2.out)
  have s2 : w2.cell? ⟨g1, 2, none⟩ = some (.slice (some ⟨b, o, none⟩) 1 xc) := (HS2.out.blk 0 rfl).cell 2
  clear hRX hbX hxe
  go_upto_region 14 with (fail)
  go_wp2_with fail
  go_at_call 42
  have hR2 : RepE w2 (X3 rb vP vF) (x0 t) [.int .i64 xo, .int .i64 xn, .string xs, .slice aa al ac] := HJ2.out.rep (K := exK) (x := x0 t) HRX.out
  (with_reducible refine (HTR.out w2 _ HJ2.out.run hR2).mono ?_)
  rintro y w3 ⟨rfl, ht, hfr⟩
  have HJ3 := Lib.hid (HJ2.out.trans ht)
  have HFR := Lib.hid hfr
  clear ht hfr hR2 u0 u1 u2 u3 s2 q4 y0 HTR
  obtain ⟨htl, tb, hto, q1, q2, q3, q4', q5, q6, q7, q8, rfl, htX, hRT, v0, v1, v2, v3⟩ := te_one HL.out hte
  rw [Nat.zero_mul, Nat.add_zero] at v0 v1 v2 v3
  have HW : Hid (w.cell? ⟨tb, hto, none⟩ = some (.int .i64 q1) ∧ w.cell? ⟨tb, hto + 1, none⟩ = some (.string q2) ∧ w.cell? ⟨tb, hto + 2, none⟩ = some (.slice q3 q4' q5) ∧ w.cell? ⟨tb, hto + 3, none⟩ = some (.slice q6 q7 q8)) := ⟨v0, v1, v2, v3⟩
  have HRT := Lib.hid hRT
  have HNX : Hid (tb ∉ X3 rb vP vF) := htX
  have HLT := Lib.hid htl
  clear htl htX hRT v0 v1 v2 v3 hte
  have HS3 : Hid (Sep w3 (bx g1 32 #[.int .i64 8, .string nm, .slice (some ⟨b, o, none⟩) 1 xc, .slice (some ⟨tb, hto, none⟩) tl tc] :: bx w.heap.size 71 #[.int .i64 f, .bool tn, .slice ua un.length uc, .int .i64 8, .string nm, .slice (some ⟨b, o, none⟩) 1 xc, .slice (some ⟨tb, hto, none⟩) tl tc] :: famR base rb day fx fa fl fc s vP vF)) := by
    have hrb := (HS2.out.at 4 rfl).2
    have h4 := HS2.out.set_ (Y := [rb]) 4 rfl HFR.out.kept (fun b hb => .inl hb) (fun b hb => .inl hb) (o' := bx rb 68 #[.int .i64 day, .slice fa fl fc, vP, vF, .bool s.bad]) ⟨HJ3.out.run.cells, hrb⟩
    exact h4
  have HR3 : Hid (Fr (X3 rb vP vF) w w3) := HJ3.out.fr
  have hK13 : Kept (w.heap.size :: X3 rb vP vF) w w3 := HR3.out.kept.more (fun b hb => List.mem_cons_of_mem _ hb)
  have HU3 : Hid (SlR exK w3 (w.heap.size :: X3 rb vP vF) un ua un.length uc) := (HU.out.less (fun b hb hm => by
    rcases List.mem_cons.1 hm with h1 | h1
    · omega
    · exact h1)).kept hK13
  have HX3 : Hid (RepE w3 (w.heap.size :: X3 rb vP vF) (x0 t) [.int .i64 xo, .int .i64 xn, .string xs, .slice aa al ac]) := (HRX.out.less (fun b hb hm => by
    rcases List.mem_cons.1 hm with h1 | h1
    · omega
    · exact h1)).kept hK13
  have HXL : Hid (∀ b ∈ w.heap.size :: X3 rb vP vF, b < w3.heap.size) := fun b hb => by
    have h1 := HR3.out.size
    have h2 := HN2.out.size
    have h3 : w.heap.size < w3.heap.size := by
      have := (HS3.out.blk 1 rfl).lt
      exact this
    rcases List.mem_cons.1 hb with h4 | h4
    · omega
    · have := HJ.out.lt b h4; omega
  have HCL := Lib.hid (fun (W : World) (hW : Below w3.heap.size w3 W) => cloneEo_any un (w.heap.size :: X3 rb vP vF) ua un.length uc W (HU3.out.kept (Kept.of_below hW _)) (fun b hb => Nat.lt_of_lt_of_le (HXL.out b hb) hW.size) (by have := HSM.out; omega))
  obtain ⟨U9, hU9⟩ : ∃ U, U = un ++ [x0 t] := ⟨_, rfl⟩
  have HU9 := Lib.hid hU9
  have HKL : Hid (U9.length + (t0 t).rk ≤ 1000) := by
    have := HSM.out
    have := HKD.out
    show _ ≤ _
    rw [hU9, List.length_append, List.length_singleton]; omega
  clear hU9 hK13
  have s2 : w3.cell? ⟨g1, 2, none⟩ = some (.slice (some ⟨b, o, none⟩) 1 xc) := (HS3.out.blk 0 rfl).cell 2
  have c2 : w3.cell? ⟨w.heap.size, 2, none⟩ = some (.slice ua un.length uc) := (HS3.out.blk 1 rfl).cell 2
  obtain ⟨u0, u1, u2, u3⟩ := HUS.out
  replace u0 := HR3.out.cell u0 HBX.out
  replace u1 := HR3.out.cell u1 HBX.out
  replace u2 := HR3.out.cell u2 HBX.out
  replace u3 := HR3.out.cell u3 HBX.out
  have q4 : w3.cell? ⟨rb, 4, none⟩ = some (.bool s.bad) := HJ3.out.run.cells.cell 4
  rw [HBD.out] at q4
  go_upto_region 16 with (fail)
  clear q4
  go_cut [4] (fun p W7 => ∃ (a9 : Option Addr) (c9 : Nat), p = .pointer (some ⟨g1, 0, none⟩) ∧ Hid (SlR exK W7 (X3 rb vP vF) U9 a9 U9.length c9) ∧ Hid (Sep W7 (bx g1 32 #[.int .i64 8, .string nm, .slice (some ⟨b, o, none⟩) 1 xc, .slice (some ⟨tb, hto, none⟩) tl tc] :: bx w.heap.size 71 #[.int .i64 f, .bool tn, .slice a9 U9.length c9, .int .i64 8, .string nm, .slice (some ⟨b, o, none⟩) 1 xc, .slice (some ⟨tb, hto, none⟩) tl tc] :: famR base rb day fx fa fl fc s vP vF)) ∧ Hid (Fr (X3 rb vP vF) w W7))
  case first =>
    refine wp_region_till (S := fun W => W.cell? ⟨g1, 2, none⟩ = some (.slice (some ⟨b, o, none⟩) 1 xc) ∧ W.cell? ⟨w.heap.size, 2, none⟩ = some (.slice ua un.length uc) ∧ W.cell? ⟨b, o, none⟩ = some (.int .i64 xo) ∧ W.cell? ⟨b, o + 1, none⟩ = some (.int .i64 xn) ∧ W.cell? ⟨b, o + 2, none⟩ = some (.string xs) ∧ W.cell? ⟨b, o + 3, none⟩ = some (.slice aa al ac)) 8 (by kernel_rfl) ?_
    refine till_take (i := 0) (v := ?_) rfl (by kernel_rfl) (fun _ _ _ h => h) (Or.inl ⟨by rfl, ?_⟩) ⟨s2,c2,u0,u1,u2,u3⟩ ?_
    rotate_left
    · intro W hS
      try dsimp only at hS
      go_split_ands
      go_simp
      try with_reducible rfl
    try simp only [Act.put, List.getElem_toArray, List.getElem_cons_zero, List.getElem_cons_succ, List.setIfInBounds_toArray, List.set_cons_zero, List.set_cons_succ]
    refine till_take (i := 1) (v := ?_) rfl (by kernel_rfl) (fun _ _ _ h => h) (Or.inl ⟨by rfl, ?_⟩) ⟨s2,c2,u0,u1,u2,u3⟩ ?_
    rotate_left
    · intro W hS
      try dsimp only at hS
      go_split_ands
      go_simp
      try with_reducible rfl
    try simp only [Act.put, List.getElem_toArray, List.getElem_cons_zero, List.getElem_cons_succ, List.setIfInBounds_toArray, List.set_cons_zero, List.set_cons_succ]
    refine till_take (i := 3) (v := ?_) rfl (by kernel_rfl) (fun _ _ _ h => h) (Or.inl ⟨by rfl, ?_⟩) ⟨s2,c2,u0,u1,u2,u3⟩ ?_
    rotate_left
    · intro W hS
      try dsimp only at hS
      go_split_ands
      go_simp
      try with_reducible rfl
    try simp only [Act.put, List.getElem_toArray, List.getElem_cons_zero, List.getElem_cons_succ, List.setIfInBounds_toArray, List.set_cons_zero, List.set_cons_succ]
    refine till_take (i := 4) (v := ?_) rfl (by kernel_rfl) (fun _ _ _ h => h) (Or.inl ⟨by rfl, ?_⟩) ⟨s2,c2,u0,u1,u2,u3⟩ ?_
    rotate_left
    · intro W hS
      try dsimp only at hS
      go_split_ands
      go_simp
      try with_reducible rfl
    try simp only [Act.put, List.getElem_toArray, List.getElem_cons_zero, List.getElem_cons_succ, List.setIfInBounds_toArray, List.set_cons_zero, List.set_cons_succ]
    refine till_take (i := 5) (v := ?_) rfl (by kernel_rfl) (fun _ _ _ h => h) (Or.inl ⟨by rfl, ?_⟩) ⟨s2,c2,u0,u1,u2,u3⟩ ?_
    rotate_left
    · intro W hS
      try dsimp only at hS
      go_split_ands
      go_simp
      try with_reducible rfl
    try simp only [Act.put, List.getElem_toArray, List.getElem_cons_zero, List.getElem_cons_succ, List.setIfInBounds_toArray, List.set_cons_zero, List.set_cons_succ]
    refine till_take (i := 6) (v := ?_) rfl (by kernel_rfl) (fun _ _ _ h => h) (Or.inl ⟨by rfl, ?_⟩) ⟨s2,c2,u0,u1,u2,u3⟩ ?_
    rotate_left
    · intro W hS
      try dsimp only at hS
      go_split_ands
      go_simp
      try with_reducible rfl
    try simp only [Act.put, List.getElem_toArray, List.getElem_cons_zero, List.getElem_cons_succ, List.setIfInBounds_toArray, List.set_cons_zero, List.set_cons_succ]
    refine till_two (i := 2) (j := 7) (by kernel_rfl) rfl rfl (fun K' hK => ?_) (fun K' hK => ?_)
    · go_simp
      go_at_call 43
      have b0 : Below w3.heap.size w3 w3.drew := (Below.refl w3.heap.size w3).drew
      (with_reducible refine (HCL.out _ b0).mono ?_)
      rintro y w4 ⟨⟨v, rfl, csl, hG⟩, b1⟩
      have bt : Below w3.heap.size w3 w4 := b0.trans (b1.mono b0.size)
      replace s2 := cell_up s2 bt
      replace c2 := cell_up c2 bt
      replace u0 := cell_up u0 bt
      replace u1 := cell_up u1 bt
      replace u2 := cell_up u2 bt
      replace u3 := cell_up u3 bt
      have hG4 : Grow exK 53 w3.heap.size w4 (w.heap.size :: X3 rb vP vF) un v csl := hG
      have HB4 := Lib.hid bt
      refine hK _ _ ⟨s2, c2, u0, u1, u2, u3⟩ ?_
      clear hK K' b0 b1 bt hG
      try simp only [Act.put, List.getElem_toArray, List.getElem_cons_zero, List.getElem_cons_succ, List.setIfInBounds_toArray, List.set_cons_zero, List.set_cons_succ]
      refine till_one (i := 7) (by kernel_rfl) rfl (fun K' hK => ?_)
      go_simp
      have bn := below_nT w4 (.cells #[.int .i64 xo, .int .i64 xn, .string xs, .slice aa al ac] 53)
      have BZ := Lib.hid (Mem.Blk.new w4 53 #[.int .i64 xo, .int .i64 xn, .string xs, .slice aa al ac])
      have HB5 := Lib.hid (HB4.out.trans (bn.mono HB4.out.size))
      have HG5 := Lib.hid (hG4.below bn)
      replace s2 := cell_up s2 bn
      replace c2 := cell_up c2 bn
      replace u0 := cell_up u0 bn
      replace u1 := cell_up u1 bn
      replace u2 := cell_up u2 bn
      replace u3 := cell_up u3 bn
      refine hK _ _ ⟨s2, c2, u0, u1, u2, u3⟩ ?_
      clear hK K' bn HB4 hG4 s2 c2 u0 u1 u2 u3
      generalize w4.alloc (.cells #[.int .i64 xo, .int .i64 xn, .string xs, .slice aa al ac] 53) = w5 at *
      generalize w4.heap.size = z at *
      try simp only [Act.put, List.getElem_toArray, List.getElem_cons_zero, List.getElem_cons_succ, List.setIfInBounds_toArray, List.set_cons_zero, List.set_cons_succ]
      refine till_last (by kernel_rfl) rfl (by kernel_rfl) (fun K' hK => ?_)
      refine step_ap infoE Try.underlying29 rfl (by decide) rfl (.tmp 106) (.tmp 111) rfl rfl HG5.out.own HG5.out.room ⟨z, 0, none⟩ 1 1 [.int .i64 xo, .int .i64 xn, .string xs, .slice aa al ac] rfl rfl (fun m u hm => by rw [Mem.add0, BZ.out.cell]; simpa using hm) (by simp [Value.oneCell']) (by have := HSM.out; unfold maxLen; omega) (by have := HSM.out; omega) ?_
      intro v' w6 og gg hv'
      have HFIN : ∃ a9 c9, v' = .slice a9 U9.length c9 ∧ Hid (SlR exK (w6.setCell ⟨w.heap.size, 2, none⟩ v') (X3 rb vP vF) U9 a9 U9.length c9) ∧ Hid (Sep w6 (bx g1 32 #[.int .i64 8, .string nm, .slice (some ⟨b, o, none⟩) 1 xc, .slice (some ⟨tb, hto, none⟩) tl tc] :: bx w.heap.size 71 #[.int .i64 f, .bool tn, .slice ua un.length uc, .int .i64 8, .string nm, .slice (some ⟨b, o, none⟩) 1 xc, .slice (some ⟨tb, hto, none⟩) tl tc] :: famR base rb day fx fa fl fc s vP vF)) ∧ Hid (Fr (X3 rb vP vF) w w6) := by
        have hRb : exK.R w5 (busy v (w.heap.size :: X3 rb vP vF)) (x0 t) [.int .i64 xo, .int .i64 xn, .string xs, .slice aa al ac] := by
          have h1 : RepE w3 (busy v (w.heap.size :: X3 rb vP vF)) (x0 t) [.int .i64 xo, .int .i64 xn, .string xs, .slice aa al ac] := HX3.out.less (fun b hb hm => by
            rcases busy_mem.1 hm with h2 | h2
            · have := (HG5.out.blt h2).1; omega
            · exact h2)
          exact h1.kept (Kept.of_below HB5.out _)
        have hG6 := HG5.out.push hRb og gg hv'
        have hB6 : Below w3.heap.size w3 w6 := HB5.out.grown gg HB5.out.size (fun b hb => (HG5.out.blt hb).1)
        obtain ⟨a9, c9, rfl, hS⟩ := hG6.slR
        have e9 : (un ++ [x0 t]).length = U9.length := by rw [HU9.out]
        rw [e9] at hS ⊢
        rw [← HU9.out] at hS
        refine ⟨a9, c9, rfl, ?_, HS3.out.below hB6, HR3.out.trans (Fr.of_below hB6 _)⟩
        exact (hS.kept (Kept.setCell w6 (p := ⟨w.heap.size, 2, none⟩) (List.mem_cons_self ..) _)).less (fun b _ hm => List.mem_cons_of_mem _ hm)
      obtain ⟨a9, c9, rfl, HUU, HS6, HF6⟩ := HFIN
      have m4 : w6.cell? ⟨w.heap.size, 2, none⟩ = some (.slice ua un.length uc) := (HS6.out.blk 1 rfl).cell 2
      have m5 : w6.frozen? ⟨w.heap.size, 2, none⟩ = false := (HS6.out.blk 1 rfl).frozen 2
      have HS7 := Lib.hid (HS6.out.store 1 rfl 2 (.slice a9 U9.length c9))
      have HF7 := Lib.hid (HF6.out.setNew (p := ⟨w.heap.size, 2, none⟩) (Nat.le_refl _) (.slice a9 U9.length c9))
      clear HG5 og gg hv' BZ HB5
      refine hK _ _ ?_
      clear hK K'
      try simp only [Act.put, List.getElem_toArray, List.getElem_cons_zero, List.getElem_cons_succ, List.setIfInBounds_toArray, List.set_cons_zero, List.set_cons_succ]
      refine any_take (i := 9) (v := ?_) rfl (by kernel_rfl) (fun _ _ _ h => h) (Or.inl ⟨by rfl, ?_⟩) ?_
      rotate_left
      · intro W
        go_simp
        try with_reducible rfl
      try simp only [Act.put, List.getElem_toArray, List.getElem_cons_zero, List.getElem_cons_succ, List.setIfInBounds_toArray, List.set_cons_zero, List.set_cons_succ]
      refine any_one (i := 10) (by kernel_rfl) rfl (fun K' hK => ?_)
      go_simp
      refine hK _ _ ?_
      clear hK K' m4 m5
      refine wpAny_done (by kernel_rfl) ?_ _
      go_wp2_with fail
      go_meet
      case rel => exact ⟨a9, c9, rfl, HUU.out, HS7.out, HF7.out⟩
    · go_simp
      have bn : Below w3.heap.size w3 (w3.alloc (.cells #[.int .i64 xo, .int .i64 xn, .string xs, .slice aa al ac] 53)).drew := (below_nT w3 (.cells #[.int .i64 xo, .int .i64 xn, .string xs, .slice aa al ac] 53)).drew
      have BZ1 := Lib.hid (Mem.Blk.new w3 53 #[.int .i64 xo, .int .i64 xn, .string xs, .slice aa al ac]).drew
      have HB4 := Lib.hid bn
      replace s2 := cell_up s2 bn
      replace c2 := cell_up c2 bn
      replace u0 := cell_up u0 bn
      replace u1 := cell_up u1 bn
      replace u2 := cell_up u2 bn
      replace u3 := cell_up u3 bn
      refine hK _ _ ⟨s2, c2, u0, u1, u2, u3⟩ ?_
      clear hK K' bn
      obtain ⟨z, hz⟩ : ∃ z, z = w3.heap.size := ⟨_, rfl⟩
      rw [← hz] at BZ1
      rw [show Value.slice (some ⟨w3.heap.size, 0, none⟩) 1 1 = .slice (some ⟨z, 0, none⟩) 1 1 by rw [hz]]
      clear hz
      generalize (w3.alloc (.cells #[.int .i64 xo, .int .i64 xn, .string xs, .slice aa al ac] 53)).drew = w4 at *
      try simp only [Act.put, List.getElem_toArray, List.getElem_cons_zero, List.getElem_cons_succ, List.setIfInBounds_toArray, List.set_cons_zero, List.set_cons_succ]
      refine till_one (i := 2) (by kernel_rfl) rfl (fun K' hK => ?_)
      go_simp
      go_at_call 43
      (with_reducible refine (HCL.out _ HB4.out).mono ?_)
      rintro y w5 ⟨⟨v, rfl, csl, hG⟩, b1⟩
      have HB5 := Lib.hid (HB4.out.trans (b1.mono HB4.out.size))
      have HG4 := Lib.hid hG
      have HZZ := Lib.hid HB4.out.size
      have BZ := Lib.hid (BZ1.out.below b1)
      replace s2 := cell_up s2 b1
      replace c2 := cell_up c2 b1
      replace u0 := cell_up u0 b1
      replace u1 := cell_up u1 b1
      replace u2 := cell_up u2 b1
      replace u3 := cell_up u3 b1
      refine hK _ _ ⟨s2, c2, u0, u1, u2, u3⟩ ?_
      have HG5 : Hid (Grow exK 53 w3.heap.size w5 (w.heap.size :: X3 rb vP vF) un v csl) := HG4.out.lower HZZ.out
      clear hK K' b1 hG HB4 HG4 HZZ BZ1 s2 c2 u0 u1 u2 u3
      try simp only [Act.put, List.getElem_toArray, List.getElem_cons_zero, List.getElem_cons_succ, List.setIfInBounds_toArray, List.set_cons_zero, List.set_cons_succ]
      refine till_last (by kernel_rfl) rfl (by kernel_rfl) (fun K' hK => ?_)
      refine step_ap infoE Try.underlying29 rfl (by decide) rfl (.tmp 106) (.tmp 111) rfl rfl HG5.out.own HG5.out.room ⟨z, 0, none⟩ 1 1 [.int .i64 xo, .int .i64 xn, .string xs, .slice aa al ac] rfl rfl (fun m u hm => by rw [Mem.add0, BZ.out.cell]; simpa using hm) (by simp [Value.oneCell']) (by have := HSM.out; unfold maxLen; omega) (by have := HSM.out; omega) ?_
      intro v' w6 og gg hv'
      have HFIN : ∃ a9 c9, v' = .slice a9 U9.length c9 ∧ Hid (SlR exK (w6.setCell ⟨w.heap.size, 2, none⟩ v') (X3 rb vP vF) U9 a9 U9.length c9) ∧ Hid (Sep w6 (bx g1 32 #[.int .i64 8, .string nm, .slice (some ⟨b, o, none⟩) 1 xc, .slice (some ⟨tb, hto, none⟩) tl tc] :: bx w.heap.size 71 #[.int .i64 f, .bool tn, .slice ua un.length uc, .int .i64 8, .string nm, .slice (some ⟨b, o, none⟩) 1 xc, .slice (some ⟨tb, hto, none⟩) tl tc] :: famR base rb day fx fa fl fc s vP vF)) ∧ Hid (Fr (X3 rb vP vF) w w6) := by
        have hRb : exK.R w5 (busy v (w.heap.size :: X3 rb vP vF)) (x0 t) [.int .i64 xo, .int .i64 xn, .string xs, .slice aa al ac] := by
          have h1 : RepE w3 (busy v (w.heap.size :: X3 rb vP vF)) (x0 t) [.int .i64 xo, .int .i64 xn, .string xs, .slice aa al ac] := HX3.out.less (fun b hb hm => by
            rcases busy_mem.1 hm with h2 | h2
            · have := (HG5.out.blt h2).1; omega
            · exact h2)
          exact h1.kept (Kept.of_below HB5.out _)
        have hG6 := HG5.out.push hRb og gg hv'
        have hB6 : Below w3.heap.size w3 w6 := HB5.out.grown gg HB5.out.size (fun b hb => (HG5.out.blt hb).1)
        obtain ⟨a9, c9, rfl, hS⟩ := hG6.slR
        have e9 : (un ++ [x0 t]).length = U9.length := by rw [HU9.out]
        rw [e9] at hS ⊢
        rw [← HU9.out] at hS
        refine ⟨a9, c9, rfl, ?_, HS3.out.below hB6, HR3.out.trans (Fr.of_below hB6 _)⟩
        exact (hS.kept (Kept.setCell w6 (p := ⟨w.heap.size, 2, none⟩) (List.mem_cons_self ..) _)).less (fun b _ hm => List.mem_cons_of_mem _ hm)
      obtain ⟨a9, c9, rfl, HUU, HS6, HF6⟩ := HFIN
      have m4 : w6.cell? ⟨w.heap.size, 2, none⟩ = some (.slice ua un.length uc) := (HS6.out.blk 1 rfl).cell 2
      have m5 : w6.frozen? ⟨w.heap.size, 2, none⟩ = false := (HS6.out.blk 1 rfl).frozen 2
      have HS7 := Lib.hid (HS6.out.store 1 rfl 2 (.slice a9 U9.length c9))
      have HF7 := Lib.hid (HF6.out.setNew (p := ⟨w.heap.size, 2, none⟩) (Nat.le_refl _) (.slice a9 U9.length c9))
      clear HG5 og gg hv' BZ HB5
      refine hK _ _ ?_
      clear hK K'
      try simp only [Act.put, List.getElem_toArray, List.getElem_cons_zero, List.getElem_cons_succ, List.setIfInBounds_toArray, List.set_cons_zero, List.set_cons_succ]
      refine any_take (i := 9) (v := ?_) rfl (by kernel_rfl) (fun _ _ _ h => h) (Or.inl ⟨by rfl, ?_⟩) ?_
      rotate_left
      · intro W
        go_simp
        try with_reducible rfl
      try simp only [Act.put, List.getElem_toArray, List.getElem_cons_zero, List.getElem_cons_succ, List.setIfInBounds_toArray, List.set_cons_zero, List.set_cons_succ]
      refine any_one (i := 10) (by kernel_rfl) rfl (fun K' hK => ?_)
      go_simp
      refine hK _ _ ?_
      clear hK K' m4 m5
      refine wpAny_done (by kernel_rfl) ?_ _
      go_wp2_with fail
      go_meet
      case rel => exact ⟨a9, c9, rfl, HUU.out, HS7.out, HF7.out⟩
  obtain ⟨a9, c9, rfl, HUU, HS7, HF7⟩ := hcut
  obtain ⟨w7, rfl⟩ : ∃ W : World, W = wc := ⟨_, rfl⟩
  clear s2 c2 u0 u1 u2 u3 HCL HS3 HJ3 HR3 HU3 HX3 HXL HFR HS2 HJ2
  have BT7 : Hid (Mem.Blk w7 g1 32 #[.int .i64 8, .string nm, .slice (some ⟨b, o, none⟩) 1 xc, .slice (some ⟨tb, hto, none⟩) tl tc]) := HS7.out.blk 0 rfl
  have BP7 : Hid (Mem.Blk w7 w.heap.size 71 #[.int .i64 f, .bool tn, .slice a9 U9.length c9, .int .i64 8, .string nm, .slice (some ⟨b, o, none⟩) 1 xc, .slice (some ⟨tb, hto, none⟩) tl tc]) := HS7.out.blk 1 rfl
  have HJ7 : Hid (RunTo base rb day fx fa fl fc w w7 vP vF s vP vF) := RunTo.of HJ.out ((HS7.out.drop 0).drop 0) HF7.out
  have HSM9 := Lib.hid (And.intro HKL.out HSM.out)
  rw [← HU9.out] at HRES
  go_upto_region 17 with (fail)
  obtain ⟨c0, c1, c2, c3, c4, c5, c6⟩ := blk7 BP7.out
  have y3 : w7.cell? ⟨g1, 3, none⟩ = some (.slice (some ⟨tb, hto, none⟩) tl tc) := BT7.out.cell 3
  obtain ⟨v0, v1, v2, v3⟩ := HW.out
  replace v0 := HJ7.out.fr.cell v0 HNX.out
  replace v1 := HJ7.out.fr.cell v1 HNX.out
  replace v2 := HJ7.out.fr.cell v2 HNX.out
  replace v3 := HJ7.out.fr.cell v3 HNX.out
  have hlt9 : 0 < tl := HLT.out
  refine wp_region_till (S := fun W => W.cell? ⟨g1, 3, none⟩ = some (.slice (some ⟨tb, hto, none⟩) tl tc) ∧ W.cell? ⟨w.heap.size, 0, none⟩ = some (.int .i64 f) ∧ W.cell? ⟨w.heap.size, 1, none⟩ = some (.bool tn) ∧ W.cell? ⟨w.heap.size, 2, none⟩ = some (.slice a9 U9.length c9) ∧ W.cell? ⟨w.heap.size, 3, none⟩ = some (.int .i64 8) ∧ W.cell? ⟨w.heap.size, 4, none⟩ = some (.string nm) ∧ W.cell? ⟨w.heap.size, 5, none⟩ = some (.slice (some ⟨b, o, none⟩) 1 xc) ∧ W.cell? ⟨w.heap.size, 6, none⟩ = some (.slice (some ⟨tb, hto, none⟩) tl tc) ∧ W.cell? ⟨tb, hto, none⟩ = some (.int .i64 q1) ∧ W.cell? ⟨tb, hto + 1, none⟩ = some (.string q2) ∧ W.cell? ⟨tb, hto + 2, none⟩ = some (.slice q3 q4' q5) ∧ W.cell? ⟨tb, hto + 3, none⟩ = some (.slice q6 q7 q8)) 7 (by kernel_rfl) ?_
  refine till_take (i := 0) (v := ?_) rfl (by kernel_rfl) (fun _ _ _ h => h) (Or.inl ⟨by rfl, ?_⟩) ⟨y3,c0,c1,c2,c3,c4,c5,c6,v0,v1,v2,v3⟩ ?_
  rotate_left
  · intro W hS
    try dsimp only at hS
    go_split_ands
    go_simp
    try with_reducible rfl
  try simp only [Act.put, List.getElem_toArray, List.getElem_cons_zero, List.getElem_cons_succ, List.setIfInBounds_toArray, List.set_cons_zero, List.set_cons_succ]
  refine till_take (i := 1) (v := ?_) rfl (by kernel_rfl) (fun _ _ _ h => h) (Or.inl ⟨by rfl, ?_⟩) ⟨y3,c0,c1,c2,c3,c4,c5,c6,v0,v1,v2,v3⟩ ?_
  rotate_left
  · intro W hS
    try dsimp only at hS
    go_split_ands
    go_simp
    try with_reducible rfl
  try simp only [Act.put, List.getElem_toArray, List.getElem_cons_zero, List.getElem_cons_succ, List.setIfInBounds_toArray, List.set_cons_zero, List.set_cons_succ]
  refine till_take (i := 2) (v := ?_) rfl (by kernel_rfl) (fun _ _ _ h => h) (Or.inl ⟨by rfl, ?_⟩) ⟨y3,c0,c1,c2,c3,c4,c5,c6,v0,v1,v2,v3⟩ ?_
  rotate_left
  · intro W hS
    try dsimp only at hS
    go_split_ands
    go_simp
    try with_reducible rfl
  try simp only [Act.put, List.getElem_toArray, List.getElem_cons_zero, List.getElem_cons_succ, List.setIfInBounds_toArray, List.set_cons_zero, List.set_cons_succ]
  refine till_take (i := 3) (v := ?_) rfl (by kernel_rfl) (fun _ _ _ h => h) (Or.inl ⟨by rfl, ?_⟩) ⟨y3,c0,c1,c2,c3,c4,c5,c6,v0,v1,v2,v3⟩ ?_
  rotate_left
  · intro W hS
    try dsimp only at hS
    go_split_ands
    go_simp
    try with_reducible rfl
  try simp only [Act.put, List.getElem_toArray, List.getElem_cons_zero, List.getElem_cons_succ, List.setIfInBounds_toArray, List.set_cons_zero, List.set_cons_succ]
  refine till_take (i := 4) (v := ?_) rfl (by kernel_rfl) (fun _ _ _ h => h) (Or.inl ⟨by rfl, ?_⟩) ⟨y3,c0,c1,c2,c3,c4,c5,c6,v0,v1,v2,v3⟩ ?_
  rotate_left
  · intro W hS
    try dsimp only at hS
    go_split_ands
    go_simp
    try with_reducible rfl
  try simp only [Act.put, List.getElem_toArray, List.getElem_cons_zero, List.getElem_cons_succ, List.setIfInBounds_toArray, List.set_cons_zero, List.set_cons_succ]
  refine till_take (i := 5) (v := ?_) rfl (by kernel_rfl) (fun _ _ _ h => h) (Or.inl ⟨by rfl, ?_⟩) ⟨y3,c0,c1,c2,c3,c4,c5,c6,v0,v1,v2,v3⟩ ?_
  rotate_left
  · intro W hS
    try dsimp only at hS
    go_split_ands
    go_simp
    try with_reducible rfl
  try simp only [Act.put, List.getElem_toArray, List.getElem_cons_zero, List.getElem_cons_succ, List.setIfInBounds_toArray, List.set_cons_zero, List.set_cons_succ]
  refine till_one (i := 6) (by kernel_rfl) rfl (fun K' hK => ?_)
  go_simp
  have b0 : Below w7.heap.size w7 w7.drew := (Below.refl w7.heap.size w7).drew
  (with_reducible refine (partWith_any _ _ _ _ _ _ _ _ _ _ _ _ _ _ _ _ _ _ _ _ _ _).mono ?_)
  rintro y w8 ⟨rfl, b1⟩
  have bt := b0.trans (b1.mono b0.size)
  have HJ8 := Lib.hid (HJ7.out.trans (HJ7.out.run.below bt))
  have BP8 := Lib.hid (BP7.out.below bt)
  have BT8 := Lib.hid (BT7.out.below bt)
  refine hK _ _ ⟨cell_up y3 bt, cell_up c0 bt, cell_up c1 bt, cell_up c2 bt, cell_up c3 bt, cell_up c4 bt, cell_up c5 bt, cell_up c6 bt, cell_up v0 bt, cell_up v1 bt, cell_up v2 bt, cell_up v3 bt⟩ ?_
  clear hK K' b0 b1 y3 c0 c1 c2 c3 c4 c5 c6 v0 v1 v2 v3 hlt9
  try simp only [Act.put, List.getElem_toArray, List.getElem_cons_zero, List.getElem_cons_succ, List.setIfInBounds_toArray, List.set_cons_zero, List.set_cons_succ]
  refine till_last (by kernel_rfl) rfl (by kernel_rfl) (fun K' hK => ?_)
  go_simp
  have hic := HIH.out
  have hrt8 : RepT w8 (X3 rb vP vF) (t0 t) [.int .i64 q1, .string q2, .slice q3 q4' q5, .slice q6 q7 q8] := HJ8.out.rep (K := teK) (x := (t0 t)) HRT.out
  have huu8 : SlR exK w8 (X3 rb vP vF) U9 a9 U9.length c9 := (HUU.out.kept (Kept.of_below bt _))
  unfold AcqC at hic
  (with_reducible refine (hic f tn U9 _ vP vF a9 c9 [.int .i64 q1, .string q2, .slice q3 q4' q5, .slice q6 q7 q8] w8 HFI.out HJ8.out.run hrt8 huu8 (by have := HSM9.out; have := HKD.out; omega) (by have := HSM9.out; have := HKD.out; first | omega | (show s.ps.length + _ ≤ _; omega)) (by have := HSM9.out; have := HKD.out; first | omega | (show s.fs.length + _ ≤ _; omega))).mono ?_)
  rintro y w9 ⟨rfl, vP', vF', hR9⟩
  have HR9 := Lib.hid (HJ8.out.trans hR9)
  have HR98 := Lib.hid hR9
  clear hic hrt8 huu8
  refine hK _ _ ?_
  clear hK K' hR9 bt
  try simp only [Act.put, List.getElem_toArray, List.getElem_cons_zero, List.getElem_cons_succ, List.setIfInBounds_toArray, List.set_cons_zero, List.set_cons_succ]
  refine wpAny_done (by kernel_rfl) ?_ _
  go_wp2_with fail
  go_end0
  exact ⟨rfl, vP', vF', by rw [HSS.out, HRES.out]; exact HR9.out⟩
end
end Go.Proofs.Ytmiinmndbkdjbaa

/- The contract of acquire: of any built term. -/
namespace Go.Proofs.Ytmiinmndbkdjbaa
set_option linter.unusedVariables false
set_option linter.unusedSimpArgs false
open Go.RowKit
theorem evalX_cases (day : Int) (fx : List Fx) (e : Ex) : evalX day fx e = .brk ∨ evalX day fx e = .tru true ∨ ((evalX day fx e).K ≠ 3 ∧ (evalX day fx e).B = false) := by
  cases h : evalX day fx e with
  | unk => exact .inr (.inr ⟨by show (0 : Int) ≠ 3; omega, rfl⟩)
  | num n => exact .inr (.inr ⟨by show (1 : Int) ≠ 3; omega, rfl⟩)
  | tru b =>
    cases b with
    | true => exact .inr (.inl rfl)
    | false => exact .inr (.inr ⟨by show (2 : Int) ≠ 3; omega, rfl⟩)
  | brk => exact .inl rfl
theorem acquire_any (base rb : Nat) (day : Int) (fx : List Fx) (fa : Option Addr) (fl fc : Nat) (hd : I64 day) : ∀ (r : Nat) (t : Te), t.rk ≤ r → bT t = true → AcqC base rb day fx fa fl fc t := by
  intro r
  induction r with
  | zero =>
    intro t hr
    obtain ⟨op, nm, x, l⟩ := t
    have h2 : (Te.mk op nm x l).rk = 1 + max (Ex.rk.go x) (Te.rk.go l) := rfl
    omega
  | succ r ih =>
    intro t hr hb f tn un s vP vF ua uc cs w hf hJ hT hU hk hP hF
    obtain ⟨k1, k2, -, k4, k5⟩ := te_kids hb
    have kid : ∀ u ∈ t.terms, AcqC base rb day fx fa fl fc u := fun u hu => ih u (by have := rk_kid hu; omega) (bT_kid hb hu)
    have m0 : t.op = 3 ∨ t.op = 4 ∨ t.op = 6 ∨ t.op = 7 ∨ t.op = 8 → AcqC base rb day fx fa fl fc (t0 t) := fun h' => kid _ (by
      by_cases h4 : t.op = 4
      · rw [k2 (.inl h4)]; exact List.mem_cons_self ..
      · rw [k1 (by omega)]; exact List.mem_cons_self ..)
    cases hbad : s.bad with
    | true => exact acq_bad_any base rb day fx fa fl fc t f tn un s vP vF ua uc cs w hJ hT hbad
    | false =>
      have h9 : t.op = 1 ∨ t.op = 2 ∨ t.op = 3 ∨ t.op = 4 ∨ t.op = 5 ∨ t.op = 6 ∨ t.op = 7 ∨ t.op = 8 ∨ t.op = 9 := by omega
      rcases h9 with h | h | h | h | h | h | h | h | h
      · exact acq1_any base rb day fx fa fl fc t f tn un s vP vF ua uc cs w hd hf hJ hT hU hb hbad hk hP hF h
      · by_cases hz : f = 0
        · exact acq2z_any base rb day fx fa fl fc t f tn un s vP vF ua uc cs w hd hf hJ hT hU hb hbad hk hP hF h hz
        · exact acq2_any base rb day fx fa fl fc t f tn un s vP vF ua uc cs w hd hf hJ hT hU hb hbad hk hP hF h hz
      · exact acq3_any base rb day fx fa fl fc t f tn un s vP vF ua uc cs w hd hf hJ hT hU hb hbad hk hP hF h (m0 (by omega))
      · exact acq4_any base rb day fx fa fl fc t f tn un s vP vF ua uc cs w hd hf hJ hT hU hb hbad hk hP hF h (m0 (by omega)) (kid _ (by rw [k2 (.inl h)]; exact List.mem_cons_of_mem _ (List.mem_cons_self ..)))
      · exact acq5_any base rb day fx fa fl fc t f tn un s vP vF ua uc cs w hd hf hJ hT hU hb hbad hk hP hF h
      · exact acq6_any base rb day fx fa fl fc t f tn un s vP vF ua uc cs w hd hf hJ hT hU hb hbad hk hP hF h (m0 (by omega))
      · exact acq7_any base rb day fx fa fl fc t f tn un s vP vF ua uc cs w hd hf hJ hT hU hb hbad hk hP hF h (m0 (by omega))
      · rcases evalX_cases day fx (x0 t) with h' | h' | ⟨h', h''⟩
        · exact acq8k_any base rb day fx fa fl fc t f tn un s vP vF ua uc cs w hd hf hJ hT hU hb hbad hk hP hF h h'
        · exact acq8e_any base rb day fx fa fl fc t f tn un s vP vF ua uc cs w hd hf hJ hT hU hb hbad hk hP hF h h'
        · exact acq8_any base rb day fx fa fl fc t f tn un s vP vF ua uc cs w hd hf hJ hT hU hb hbad hk hP hF h h' h'' (m0 (by omega))
      · exact acq9_any base rb day fx fa fl fc t f tn un s vP vF ua uc cs w hd hf hJ hT hU hb hbad hk hP hF h
end Go.Proofs.Ytmiinmndbkdjbaa
