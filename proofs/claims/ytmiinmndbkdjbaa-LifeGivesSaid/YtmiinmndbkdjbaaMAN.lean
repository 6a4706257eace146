/- A part of the proof: LiB, one behind another. -/
import Derived.Test.YtmiinmndbkdjbaaMAA
import Derived.Test.YtmiinmndbkdjbaaMAB
import Derived.Test.YtmiinmndbkdjbaaMAC
import Derived.Test.YtmiinmndbkdjbaaMAD
import Derived.Test.YtmiinmndbkdjbaaMAE
import Derived.Test.YtmiinmndbkdjbaaMAF
import Derived.Test.YtmiinmndbkdjbaaMAG
import Derived.Test.YtmiinmndbkdjbaaMAH
import Derived.Test.YtmiinmndbkdjbaaMAI
import Derived.Test.YtmiinmndbkdjbaaMAJ
import Derived.Test.YtmiinmndbkdjbaaMAK
import Derived.Test.YtmiinmndbkdjbaaMAL
import Derived.Test.YtmiinmndbkdjbaaMAM
/- wait, walked (begun). -/
namespace Go.Proofs.Ytmiinmndbkdjbaa
set_option linter.unusedVariables false
set_option linter.unusedSimpArgs false
open Go.RowKit
theorem infoPt : (Try.prog.info? 71).map (fun i => (i.zero, i.size, i.bytes)) = some (some (.agg #[.int .i64 0, .bool false, .slice none 0 0, .int .i64 0, .string ⟨#[]⟩, .slice none 0 0, .slice none 0 0]), 7, 112) := by kernel_rfl
set_option maxRecDepth 100000 in
set_option maxHeartbeats 8000000 in
theorem wait_any (base rb : Nat) (day : Int) (fx : List Fx) (fa : Option Addr) (fl fc : Nat) (t : Te) (f : Int) (tn : Bool) (un : List Ex) (s : RS) (vP vF : Value) (ua : Option Addr) (uc : Nat) (cs : List Value) (w : World) (hd : I64 day) (hf : I64 f)
    (hJ : RunJ base rb day fx fa fl fc w s vP vF) (hT : RepT w (X3 rb vP vF) t cs) (hU : SlR exK w (X3 rb vP vF) un ua un.length uc) (hb : bT t = true) (hop : t.op = 6 ∨ t.op = 7) (hk : un.length + t.rk ≤ 1000) (hP : s.ps.length + t.nd ≤ 100000) (hF : s.fs.length + t.nd ≤ 100000) (IH : AcqC base rb day fx fa fl fc (t0 t)) :
    Calls Try.prog 29 #[.pointer (some ⟨rb, 0, none⟩), .agg (.int .i64 f :: .bool tn :: .slice ua un.length uc :: cs).toArray] w fun x w' => x = .returned (.tuple #[]) ∧ ∃ vP' vF', RunTo base rb day fx fa fl fc w w' vP vF (waitW (acq day fx) (evalX day fx (x0 t)) t f tn un s) vP' vF' := by
  obtain ⟨k1, -, k3, -, -⟩ := te_kids hb
  have hxk : (x0 t).rk ≤ 1000 := by
    have hm : x0 t ∈ t.exprs := by rw [k3 (by omega)]; exact List.mem_cons_self ..
    have := rk_kidX hm
    omega
  have HJ := Lib.hid hJ
  have HT := Lib.hid hT
  have HU := Lib.hid hU
  have HSM := Lib.hid (And.intro hk (And.intro hP hF))
  have HIH := Lib.hid IH
  have HBT := Lib.hid hb
  have HOP := Lib.hid hop
  have HFI := Lib.hid hf
  obtain ⟨op, nm, exprs, terms, xa, xl, xc, ta, tl, tc, e1, e2, -, -, hX, hL⟩ := hT.inv
  have hxe : exprs = [x0 t] := by have := k3 (by omega); rw [e1] at this ⊢; exact this
  have hte : terms[0]? = some (t0 t) := by
    have := k1 (by omega)
    rw [e1] at this ⊢
    have h2 : terms = [t0 (Te.mk op nm exprs terms)] := this
    rw [h2]; rfl
  have hoe : t.op = op := by rw [e1]; rfl
  obtain ⟨rfl, b, o, xo, xn, xs, aa, al, ac, rfl, -, hRX, u0, u1, u2, u3⟩ := ex_one hX hxe
  obtain ⟨htl, tb, hto, q1, q2, q3, q4', q5, q6, q7, q8, rfl, htX, hRT, v0, v1, v2, v3⟩ := te_one hL hte
  rw [Nat.zero_mul, Nat.add_zero] at v0 v1 v2 v3
  subst e2
  rw [hoe] at HOP
  have HOE := Lib.hid hoe
  have HNX : Hid (tb ∉ X3 rb vP vF) := htX
  have HPT : Hid (ptK.R w (X3 rb vP vF) ⟨f, tn, un, t⟩ [.int .i64 f, .bool tn, .slice ua un.length uc, .int .i64 op, .string nm, .slice (some ⟨b, o, none⟩) 1 xc, .slice (some ⟨tb, hto, none⟩) tl tc]) := ⟨ua, uc, _, rfl, hf, hU, hT⟩
  have HNI := Lib.hid (evalX_i64 hd (fxs_i64 hJ.seen) hRX)
  have hRX0 : RepE w [] (x0 t) [.int .i64 xo, .int .i64 xn, .string xs, .slice aa al ac] := hRX.less (fun b _ hm => nomatch hm)
  have HQ := Lib.hid (fun W (hW : Below w.heap.size w W) => obsEval_any day fx fa fl fc (x0 t) _ W hd (hRX0.kept (Kept.of_below hW [])) hxk (hJ.seen.kept (Kept.of_below hW [])))
  have HRT := Lib.hid hRT
  have HLT := Lib.hid htl
  have HKD : Hid ((t0 t).rk + 1 ≤ t.rk ∧ (t0 t).nd + 1 ≤ t.nd) := ⟨by have := rk_kid (t := t) (u := t0 t) (by rw [k1 (by omega)]; exact List.mem_cons_self ..); omega, (nd_kids hb).2.1 (by omega)⟩
  obtain ⟨V, hV⟩ : ∃ V, V = evalX day fx (x0 t) := ⟨_, rfl⟩
  rw [← hV] at HQ HNI ⊢
  obtain ⟨S9, hS9⟩ : ∃ S9, S9 = waitW (acq day fx) V t f tn un s := ⟨_, rfl⟩
  rw [← hS9]
  have HSS := Lib.hid hS9
  have n1 := below_nT w (.cells #[.int .i64 f, .bool tn, .slice ua un.length uc, .int .i64 op, .string nm, .slice (some ⟨b, o, none⟩) 1 xc, .slice (some ⟨tb, hto, none⟩) tl tc] 71)
  have B1 := Lib.hid (Mem.Blk.new w 71 #[.int .i64 f, .bool tn, .slice ua un.length uc, .int .i64 op, .string nm, .slice (some ⟨b, o, none⟩) 1 xc, .slice (some ⟨tb, hto, none⟩) tl tc])
  have N1 := Lib.hid n1
  have HRB : Hid (rb < w.heap.size) := hJ.lt rb (by unfold X3; simp)
  have HS1 := Lib.hid (hJ.sep.new 71 #[.int .i64 f, .bool tn, .slice ua un.length uc, .int .i64 op, .string nm, .slice (some ⟨b, o, none⟩) 1 xc, .slice (some ⟨tb, hto, none⟩) tl tc])
  have HX : Hid (w.cell? ⟨b, o, none⟩ = some (.int .i64 xo) ∧ w.cell? ⟨b, o + 1, none⟩ = some (.int .i64 xn) ∧ w.cell? ⟨b, o + 2, none⟩ = some (.string xs) ∧ w.cell? ⟨b, o + 3, none⟩ = some (.slice aa al ac)) := ⟨u0, u1, u2, u3⟩
  have HW : Hid (w.cell? ⟨tb, hto, none⟩ = some (.int .i64 q1) ∧ w.cell? ⟨tb, hto + 1, none⟩ = some (.string q2) ∧ w.cell? ⟨tb, hto + 2, none⟩ = some (.slice q3 q4' q5) ∧ w.cell? ⟨tb, hto + 3, none⟩ = some (.slice q6 q7 q8)) := ⟨v0, v1, v2, v3⟩
  have h1s : (w.alloc (.cells #[.int .i64 f, .bool tn, .slice ua un.length uc, .int .i64 op, .string nm, .slice (some ⟨b, o, none⟩) 1 xc, .slice (some ⟨tb, hto, none⟩) tl tc] 71)).heap.size = w.heap.size + 1 := by simp
  have HSZ := Lib.hid h1s
  have HGZ := Lib.hid h1s
  clear hJ hT hU hb hop hk hP hF IH k1 k3 hxk e1 hxe hte hoe hX hL hRX hRX0 hRT htl htX u0 u1 u2 u3 v0 v1 v2 v3 n1 h1s hV hS9
  go_enter Try.func29, Try.ntmps29
  go_upto_region 1 with (fail)
  generalize w.alloc (.cells #[.int .i64 f, .bool tn, .slice ua un.length uc, .int .i64 op, .string nm, .slice (some ⟨b, o, none⟩) 1 xc, .slice (some ⟨tb, hto, none⟩) tl tc] 71) = w1 at *
  obtain ⟨c0, c1, c2, c3, c4, c5, c6⟩ := blk7 B1.out
  have n2 := below_nT w1 (.cells #[.int .i64 op, .string nm, .slice (some ⟨b, o, none⟩) 1 xc, .slice (some ⟨tb, hto, none⟩) tl tc] 32)
  have B2 := Lib.hid (Mem.Blk.new w1 32 #[.int .i64 op, .string nm, .slice (some ⟨b, o, none⟩) 1 xc, .slice (some ⟨tb, hto, none⟩) tl tc])
  have N2 := Lib.hid (N1.out.trans (n2.mono N1.out.size))
  have B3 := Lib.hid (B1.out.below n2)
  have HZ2 : Hid ((w1.alloc (.cells #[.int .i64 op, .string nm, .slice (some ⟨b, o, none⟩) 1 xc, .slice (some ⟨tb, hto, none⟩) tl tc] 32)).heap.size = w.heap.size + 1 + 1) := by show _ = _; rw [← HSZ.out]; simp
  have HS2 := Lib.hid (HS1.out.below n2)
  clear n2
  go_upto_region 2 with (fail)
  generalize w1.alloc (.cells #[.int .i64 op, .string nm, .slice (some ⟨b, o, none⟩) 1 xc, .slice (some ⟨tb, hto, none⟩) tl tc] 32) = w2 at *
  generalize w1.heap.size = g1 at *
  clear c0 c1 c2 c3 c4 c5 c6
  have HJ2 := Lib.hid (HJ.out.below N2.out)
  have q0 : w2.cell? ⟨rb, 0, none⟩ = some (.int .i64 day) := HJ2.out.run.cells.cell 0
  have q1' : w2.cell? ⟨rb, 1, none⟩ = some (.slice fa fl fc) := HJ2.out.run.cells.cell 1
  have s2 : w2.cell? ⟨g1, 2, none⟩ = some (.slice (some ⟨b, o, none⟩) 1 xc) := B2.out.cell 2
  obtain ⟨u0, u1, u2, u3⟩ := HX.out
  replace u0 := cellT u0 N2.out
  replace u1 := cellT u1 N2.out
  replace u2 := cellT u2 N2.out
  replace u3 := cellT u3 N2.out
  go_cut [5] (fun p W0 => ∃ z, p = .pointer (some ⟨z, 0, none⟩) ∧ Hid (Below w2.heap.size w2 W0) ∧ Hid (w2.heap.size ≤ z) ∧ Hid (Mem.Blk W0 z 98 #[.int .i64 V.K, .int .i64 V.N, .bool V.B]))
  case first =>
    refine wp_region_till (S := fun W => W.cell? ⟨g1, 2, none⟩ = some (.slice (some ⟨b, o, none⟩) 1 xc) ∧ W.cell? ⟨b, o, none⟩ = some (.int .i64 xo) ∧ W.cell? ⟨b, o + 1, none⟩ = some (.int .i64 xn) ∧ W.cell? ⟨b, o + 2, none⟩ = some (.string xs) ∧ W.cell? ⟨b, o + 3, none⟩ = some (.slice aa al ac) ∧ W.cell? ⟨rb, 0, none⟩ = some (.int .i64 day) ∧ W.cell? ⟨rb, 1, none⟩ = some (.slice fa fl fc)) 10 (by kernel_rfl) ?_
    refine till_take (i := 0) (v := ?_) rfl (by kernel_rfl) (fun _ _ _ h => h) (Or.inl ⟨by rfl, ?_⟩) ⟨s2,u0,u1,u2,u3,q0,q1'⟩ ?_
    rotate_left
    · intro W hS
      try dsimp only at hS
      go_split_ands
      go_simp
      try with_reducible rfl
    try simp only [Act.put, List.getElem_toArray, List.getElem_cons_zero, List.getElem_cons_succ, List.setIfInBounds_toArray, List.set_cons_zero, List.set_cons_succ]
    refine till_take (i := 1) (v := ?_) rfl (by kernel_rfl) (fun _ _ _ h => h) (Or.inl ⟨by rfl, ?_⟩) ⟨s2,u0,u1,u2,u3,q0,q1'⟩ ?_
    rotate_left
    · intro W hS
      try dsimp only at hS
      go_split_ands
      go_simp
      try with_reducible rfl
    try simp only [Act.put, List.getElem_toArray, List.getElem_cons_zero, List.getElem_cons_succ, List.setIfInBounds_toArray, List.set_cons_zero, List.set_cons_succ]
    refine till_take (i := 2) (v := ?_) rfl (by kernel_rfl) (fun _ _ _ h => h) (Or.inl ⟨by rfl, ?_⟩) ⟨s2,u0,u1,u2,u3,q0,q1'⟩ ?_
    rotate_left
    · intro W hS
      try dsimp only at hS
      go_split_ands
      go_simp
      try with_reducible rfl
    try simp only [Act.put, List.getElem_toArray, List.getElem_cons_zero, List.getElem_cons_succ, List.setIfInBounds_toArray, List.set_cons_zero, List.set_cons_succ]
    refine till_take (i := 3) (v := ?_) rfl (by kernel_rfl) (fun _ _ _ h => h) (Or.inl ⟨by rfl, ?_⟩) ⟨s2,u0,u1,u2,u3,q0,q1'⟩ ?_
    rotate_left
    · intro W hS
      try dsimp only at hS
      go_split_ands
      go_simp
      try with_reducible rfl
    try simp only [Act.put, List.getElem_toArray, List.getElem_cons_zero, List.getElem_cons_succ, List.setIfInBounds_toArray, List.set_cons_zero, List.set_cons_succ]
    refine till_take (i := 4) (v := ?_) rfl (by kernel_rfl) (fun _ _ _ h => h) (Or.inl ⟨by rfl, ?_⟩) ⟨s2,u0,u1,u2,u3,q0,q1'⟩ ?_
    rotate_left
    · intro W hS
      try dsimp only at hS
      go_split_ands
      go_simp
      try with_reducible rfl
    try simp only [Act.put, List.getElem_toArray, List.getElem_cons_zero, List.getElem_cons_succ, List.setIfInBounds_toArray, List.set_cons_zero, List.set_cons_succ]
    refine till_take (i := 5) (v := ?_) rfl (by kernel_rfl) (fun _ _ _ h => h) (Or.inl ⟨by rfl, ?_⟩) ⟨s2,u0,u1,u2,u3,q0,q1'⟩ ?_
    rotate_left
    · intro W hS
      try dsimp only at hS
      go_split_ands
      go_simp
      try with_reducible rfl
    try simp only [Act.put, List.getElem_toArray, List.getElem_cons_zero, List.getElem_cons_succ, List.setIfInBounds_toArray, List.set_cons_zero, List.set_cons_succ]
    refine till_take (i := 6) (v := ?_) rfl (by kernel_rfl) (fun _ _ _ h => h) (Or.inl ⟨by rfl, ?_⟩) ⟨s2,u0,u1,u2,u3,q0,q1'⟩ ?_
    rotate_left
    · intro W hS
      try dsimp only at hS
      go_split_ands
      go_simp
      try with_reducible rfl
    try simp only [Act.put, List.getElem_toArray, List.getElem_cons_zero, List.getElem_cons_succ, List.setIfInBounds_toArray, List.set_cons_zero, List.set_cons_succ]
    refine till_take (i := 7) (v := ?_) rfl (by kernel_rfl) (fun _ _ _ h => h) (Or.inl ⟨by rfl, ?_⟩) ⟨s2,u0,u1,u2,u3,q0,q1'⟩ ?_
    rotate_left
    · intro W hS
      try dsimp only at hS
      go_split_ands
      go_simp
      try with_reducible rfl
    try simp only [Act.put, List.getElem_toArray, List.getElem_cons_zero, List.getElem_cons_succ, List.setIfInBounds_toArray, List.set_cons_zero, List.set_cons_succ]
    refine till_two (i := 8) (j := 9) (by kernel_rfl) rfl rfl (fun K' hK => ?_) (fun K' hK => ?_)
    · go_simp
      have b0 : Below w2.heap.size w2 w2.drew := (Below.refl w2.heap.size w2).drew
      (with_reducible refine (HQ.out _ (N2.out.trans (b0.mono N2.out.size))).mono ?_)
      rintro y w3 ⟨hy, b1⟩
      unfold RetV at hy
      subst hy
      have bt : Below w2.heap.size w2 w3 := b0.trans (b1.mono b0.size)
      replace s2 := cell_up s2 bt
      replace u0 := cell_up u0 bt
      replace u1 := cell_up u1 bt
      replace u2 := cell_up u2 bt
      replace u3 := cell_up u3 bt
      replace q0 := cell_up q0 bt
      replace q1' := cell_up q1' bt
      have HB2 := Lib.hid bt
      refine hK _ _ ⟨s2, u0, u1, u2, u3, q0, q1'⟩ ?_
      clear hK K' b0 b1 bt
      try simp only [Act.put, List.getElem_toArray, List.getElem_cons_zero, List.getElem_cons_succ, List.setIfInBounds_toArray, List.set_cons_zero, List.set_cons_succ]
      refine till_one (i := 9) (by kernel_rfl) rfl (fun K' hK => ?_)
      go_simp
      have bn := below_nT w3 (.cells #[.int .i64 0, .int .i64 0, .bool false] 98)
      have BZ := Lib.hid (Mem.Blk.new w3 98 #[.int .i64 0, .int .i64 0, .bool false])
      have HZ : Hid (w2.heap.size ≤ w3.heap.size) := HB2.out.size
      have HB3 := Lib.hid (HB2.out.trans (bn.mono HB2.out.size))
      replace s2 := cell_up s2 bn
      replace u0 := cell_up u0 bn
      replace u1 := cell_up u1 bn
      replace u2 := cell_up u2 bn
      replace u3 := cell_up u3 bn
      replace q0 := cell_up q0 bn
      replace q1' := cell_up q1' bn
      refine hK _ _ ⟨s2, u0, u1, u2, u3, q0, q1'⟩ ?_
      clear hK K' bn HB2 s2 u0 u1 u2 u3 q0 q1'
      generalize w3.alloc (.cells #[.int .i64 0, .int .i64 0, .bool false] 98) = w4 at *
      generalize w3.heap.size = z at *
      try simp only [Act.put, List.getElem_toArray, List.getElem_cons_zero, List.getElem_cons_succ, List.setIfInBounds_toArray, List.set_cons_zero, List.set_cons_succ]
      obtain ⟨t0, t1, t2, t3, t4, t5⟩ := blk3 BZ.out
      refine till_last (by kernel_rfl) rfl (by kernel_rfl) (fun K' hK => ?_)
      go_simp
      have HB9 := Lib.hid (((HB3.out.setCell (p := ⟨z, 0, none⟩) HZ.out (.int .i64 V.K)).setCell (p := ⟨z, 1, none⟩) HZ.out (.int .i64 V.N)).setCell (p := ⟨z, 2, none⟩) HZ.out (.bool V.B))
      have BZ9 := Lib.hid (((BZ.out.set_ 0 (.int .i64 V.K)).set_ 1 (.int .i64 V.N)).set_ 2 (.bool V.B))
      refine hK _ _ ?_
      clear hK K'
      try simp only [Act.put, List.getElem_toArray, List.getElem_cons_zero, List.getElem_cons_succ, List.setIfInBounds_toArray, List.set_cons_zero, List.set_cons_succ]
      refine wpAny_done (by kernel_rfl) ?_ _
      go_wp2_with fail
      go_meet
      case rel => exact ⟨z, rfl, HB9.out, HZ.out, BZ9.out⟩
    · go_simp
      have bn : Below w2.heap.size w2 (w2.alloc (.cells #[.int .i64 0, .int .i64 0, .bool false] 98)).drew := (below_nT w2 (.cells #[.int .i64 0, .int .i64 0, .bool false] 98)).drew
      have BZ1 := Lib.hid (Mem.Blk.new w2 98 #[.int .i64 0, .int .i64 0, .bool false]).drew
      have HB2 := Lib.hid bn
      replace s2 := cell_up s2 bn
      replace u0 := cell_up u0 bn
      replace u1 := cell_up u1 bn
      replace u2 := cell_up u2 bn
      replace u3 := cell_up u3 bn
      replace q0 := cell_up q0 bn
      replace q1' := cell_up q1' bn
      refine hK _ _ ⟨s2, u0, u1, u2, u3, q0, q1'⟩ ?_
      clear hK K' bn
      obtain ⟨z, hz⟩ : ∃ z, z = w2.heap.size := ⟨_, rfl⟩
      have HZ : Hid (w2.heap.size ≤ z) := by show _ ≤ _; omega
      rw [← hz] at BZ1
      rw [show Value.pointer (some ⟨w2.heap.size, 0, none⟩) = .pointer (some ⟨z, 0, none⟩) by rw [hz]]
      clear hz
      generalize (w2.alloc (.cells #[.int .i64 0, .int .i64 0, .bool false] 98)).drew = w3 at *
      try simp only [Act.put, List.getElem_toArray, List.getElem_cons_zero, List.getElem_cons_succ, List.setIfInBounds_toArray, List.set_cons_zero, List.set_cons_succ]
      refine till_one (i := 8) (by kernel_rfl) rfl (fun K' hK => ?_)
      go_simp
      (with_reducible refine (HQ.out _ (N2.out.trans (HB2.out.mono N2.out.size))).mono ?_)
      rintro y w4 ⟨hy, b1⟩
      unfold RetV at hy
      subst hy
      have BZ := Lib.hid (BZ1.out.below b1)
      have HB3 := Lib.hid (HB2.out.trans (b1.mono HB2.out.size))
      replace s2 := cell_up s2 b1
      replace u0 := cell_up u0 b1
      replace u1 := cell_up u1 b1
      replace u2 := cell_up u2 b1
      replace u3 := cell_up u3 b1
      replace q0 := cell_up q0 b1
      replace q1' := cell_up q1' b1
      refine hK _ _ ⟨s2, u0, u1, u2, u3, q0, q1'⟩ ?_
      clear hK K' b1 HB2 BZ1 s2 u0 u1 u2 u3 q0 q1'
      try simp only [Act.put, List.getElem_toArray, List.getElem_cons_zero, List.getElem_cons_succ, List.setIfInBounds_toArray, List.set_cons_zero, List.set_cons_succ]
      obtain ⟨t0, t1, t2, t3, t4, t5⟩ := blk3 BZ.out
      refine till_last (by kernel_rfl) rfl (by kernel_rfl) (fun K' hK => ?_)
      go_simp
      have HB9 := Lib.hid (((HB3.out.setCell (p := ⟨z, 0, none⟩) HZ.out (.int .i64 V.K)).setCell (p := ⟨z, 1, none⟩) HZ.out (.int .i64 V.N)).setCell (p := ⟨z, 2, none⟩) HZ.out (.bool V.B))
      have BZ9 := Lib.hid (((BZ.out.set_ 0 (.int .i64 V.K)).set_ 1 (.int .i64 V.N)).set_ 2 (.bool V.B))
      refine hK _ _ ?_
      clear hK K'
      try simp only [Act.put, List.getElem_toArray, List.getElem_cons_zero, List.getElem_cons_succ, List.setIfInBounds_toArray, List.set_cons_zero, List.set_cons_succ]
      refine wpAny_done (by kernel_rfl) ?_ _
      go_wp2_with fail
      go_meet
      case rel => exact ⟨z, rfl, HB9.out, HZ.out, BZ9.out⟩
  obtain ⟨z, rfl, HB, HZ, BZ⟩ := hcut
  obtain ⟨w3, rfl⟩ : ∃ W : World, W = wc := ⟨_, rfl⟩
  have HJ3 := Lib.hid (HJ2.out.trans (HJ2.out.run.below HB.out))
  have B3' := Lib.hid (B3.out.below HB.out)
  have B2' := Lib.hid (B2.out.below HB.out)
  clear q0 q1' s2 u0 u1 u2 u3 HQ
  have HGR : Hid (g1 ≠ rb) := by have := HGZ.out; have := HRB.out; show _ ≠ _; omega
  have HGW : Hid (g1 ≠ w.heap.size) := by have := HGZ.out; show _ ≠ _; omega
  have q4 : w3.cell? ⟨rb, 4, none⟩ = some (.bool s.bad) := HJ3.out.run.cells.cell 4
  have f4 : w3.frozen? ⟨rb, 4, none⟩ = false := HJ3.out.run.cells.frozen 4
  have HSB := Lib.hid (HS2.out.below HB.out)
  cases V with
  | brk =>
    have z0 : w3.cell? ⟨z, 0, none⟩ = some (.int .i64 3) := BZ.out.cell 0
    have HS := Lib.hid (HJ3.out.trans (HJ3.out.run.setBad true))
    go_wp2_with fail
    go_end0
    exact ⟨rfl, vP, vF, by rw [HSS.out, waitW_brk]; exact HS.out⟩
  | unk =>
    have z0 : w3.cell? ⟨z, 0, none⟩ = some (.int .i64 0) := BZ.out.cell 0
    have z2 : w3.cell? ⟨z, 2, none⟩ = some (.bool false) := BZ.out.cell 2
    have y0 : w3.cell? ⟨g1, 0, none⟩ = some (.int .i64 op) := B2'.out.cell 0
    have HSP : Hid (S9 = { s with ps := s.ps ++ [⟨f, tn, un, t⟩] }) := HSS.out.trans (waitW_part (by show (0 : Int) ≠ 3; omega) (fun _ => by show (0 : Int) ≠ 1; omega) (fun _ => rfl))
    rcases HOP.out with hop | hop
    · subst hop
      go_upto_region 3 with (fail)
      clear z0 z2 y0 q4 f4
      have d1 : w3.cell? ⟨rb, 2, none⟩ = some vP := HJ3.out.run.cells.cell 2
      obtain ⟨c0, c1, c2, c3, c4, c5, c6⟩ := blk7 B3'.out
      refine wp_region_any (by kernel_rfl) ?_
      refine any_take (i := 0) (v := ?_) rfl (by kernel_rfl) (fun _ _ _ h => h) (Or.inl ⟨by rfl, ?_⟩) ?_
      rotate_left
      · intro W
        go_simp
        try with_reducible rfl
      try simp only [Act.put, List.getElem_toArray, List.getElem_cons_zero, List.getElem_cons_succ, List.setIfInBounds_toArray, List.set_cons_zero, List.set_cons_succ]
      refine any_of_till (n := 7) (S := fun W => W.cell? ⟨rb, 2, none⟩ = some vP ∧ W.cell? ⟨w.heap.size, 0, none⟩ = some (.int .i64 f) ∧ W.cell? ⟨w.heap.size, 1, none⟩ = some (.bool tn) ∧ W.cell? ⟨w.heap.size, 2, none⟩ = some (.slice ua un.length uc) ∧ W.cell? ⟨w.heap.size, 3, none⟩ = some (.int .i64 6) ∧ W.cell? ⟨w.heap.size, 4, none⟩ = some (.string nm) ∧ W.cell? ⟨w.heap.size, 5, none⟩ = some (.slice (some ⟨b, o, none⟩) 1 xc) ∧ W.cell? ⟨w.heap.size, 6, none⟩ = some (.slice (some ⟨tb, hto, none⟩) tl tc)) _ _ _ _ ?_
      refine till_take (i := 1) (v := ?_) rfl (by kernel_rfl) (fun _ _ _ h => h) (Or.inl ⟨by rfl, ?_⟩) ⟨d1,c0,c1,c2,c3,c4,c5,c6⟩ ?_
      rotate_left
      · intro W hS
        try dsimp only at hS
        go_split_ands
        go_simp
        try with_reducible rfl
      try simp only [Act.put, List.getElem_toArray, List.getElem_cons_zero, List.getElem_cons_succ, List.setIfInBounds_toArray, List.set_cons_zero, List.set_cons_succ]
      refine till_take (i := 2) (v := ?_) rfl (by kernel_rfl) (fun _ _ _ h => h) (Or.inl ⟨by rfl, ?_⟩) ⟨d1,c0,c1,c2,c3,c4,c5,c6⟩ ?_
      rotate_left
      · intro W hS
        try dsimp only at hS
        go_split_ands
        go_simp
        try with_reducible rfl
      try simp only [Act.put, List.getElem_toArray, List.getElem_cons_zero, List.getElem_cons_succ, List.setIfInBounds_toArray, List.set_cons_zero, List.set_cons_succ]
      refine till_take (i := 3) (v := ?_) rfl (by kernel_rfl) (fun _ _ _ h => h) (Or.inl ⟨by rfl, ?_⟩) ⟨d1,c0,c1,c2,c3,c4,c5,c6⟩ ?_
      rotate_left
      · intro W hS
        try dsimp only at hS
        go_split_ands
        go_simp
        try with_reducible rfl
      try simp only [Act.put, List.getElem_toArray, List.getElem_cons_zero, List.getElem_cons_succ, List.setIfInBounds_toArray, List.set_cons_zero, List.set_cons_succ]
      refine till_take (i := 4) (v := ?_) rfl (by kernel_rfl) (fun _ _ _ h => h) (Or.inl ⟨by rfl, ?_⟩) ⟨d1,c0,c1,c2,c3,c4,c5,c6⟩ ?_
      rotate_left
      · intro W hS
        try dsimp only at hS
        go_split_ands
        go_simp
        try with_reducible rfl
      try simp only [Act.put, List.getElem_toArray, List.getElem_cons_zero, List.getElem_cons_succ, List.setIfInBounds_toArray, List.set_cons_zero, List.set_cons_succ]
      refine till_take (i := 5) (v := ?_) rfl (by kernel_rfl) (fun _ _ _ h => h) (Or.inl ⟨by rfl, ?_⟩) ⟨d1,c0,c1,c2,c3,c4,c5,c6⟩ ?_
      rotate_left
      · intro W hS
        try dsimp only at hS
        go_split_ands
        go_simp
        try with_reducible rfl
      try simp only [Act.put, List.getElem_toArray, List.getElem_cons_zero, List.getElem_cons_succ, List.setIfInBounds_toArray, List.set_cons_zero, List.set_cons_succ]
      refine till_one (i := 6) (by kernel_rfl) rfl (fun K' hK => ?_)
      go_simp
      have hbn : Below w3.heap.size w3 (w3.alloc (.cells #[.int .i64 f, .bool tn, .slice ua un.length uc, .int .i64 6, .string nm, .slice (some ⟨b, o, none⟩) 1 xc, .slice (some ⟨tb, hto, none⟩) tl tc] 71)).drew := (below_nT w3 (.cells #[.int .i64 f, .bool tn, .slice ua un.length uc, .int .i64 6, .string nm, .slice (some ⟨b, o, none⟩) 1 xc, .slice (some ⟨tb, hto, none⟩) tl tc] 71)).drew
      have HB2 := Lib.hid (HJ3.out.trans (HJ3.out.run.below hbn))
      have BZ := Lib.hid (Mem.Blk.new w3 71 #[.int .i64 f, .bool tn, .slice ua un.length uc, .int .i64 6, .string nm, .slice (some ⟨b, o, none⟩) 1 xc, .slice (some ⟨tb, hto, none⟩) tl tc]).drew
      refine hK _ _ ⟨cell_up d1 hbn, cell_up c0 hbn, cell_up c1 hbn, cell_up c2 hbn, cell_up c3 hbn, cell_up c4 hbn, cell_up c5 hbn, cell_up c6 hbn⟩ ?_
      clear hK K' hbn d1 c0 c1 c2 c3 c4 c5 c6
      generalize (w3.alloc (.cells #[.int .i64 f, .bool tn, .slice ua un.length uc, .int .i64 6, .string nm, .slice (some ⟨b, o, none⟩) 1 xc, .slice (some ⟨tb, hto, none⟩) tl tc] 71)).drew = w5 at *
      generalize w3.heap.size = zz at *
      try simp only [Act.put, List.getElem_toArray, List.getElem_cons_zero, List.getElem_cons_succ, List.setIfInBounds_toArray, List.set_cons_zero, List.set_cons_succ]
      refine till_last (by kernel_rfl) rfl (by kernel_rfl) (fun K' hK => ?_)
      obtain ⟨csl, hGr⟩ := HB2.out.run.sep.at 0 rfl
      have hRp := HB2.out.rep (K := ptK) HPT.out
      refine step_ap infoPt Try.underlying37 rfl (by decide) rfl (.tmp 23) (.tmp 25) rfl rfl hGr.own hGr.room ⟨zz, 0, none⟩ 1 1 [.int .i64 f, .bool tn, .slice ua un.length uc, .int .i64 6, .string nm, .slice (some ⟨b, o, none⟩) 1 xc, .slice (some ⟨tb, hto, none⟩) tl tc] rfl rfl (fun m u hm => by rw [Mem.add0, BZ.out.cell]; simpa using hm) (by simp [Value.oneCell']) (by have := HSM.out; unfold maxLen; omega) (by have := HSM.out; omega) ?_
      intro v' w6 og gg hv'
      obtain ⟨gP, capn, rfl, -, -, -, -⟩ := own_form og (by omega)
      have MB := (HB2.out.run.sep.push 0 rfl hGr (x := ⟨f, tn, un, t⟩) (c := [.int .i64 f, .bool tn, .slice ua un.length uc, .int .i64 6, .string nm, .slice (some ⟨b, o, none⟩) 1 xc, .slice (some ⟨tb, hto, none⟩) tl tc]) (by rw [owns_famR]; exact hRp) og gg hv').blk 2 rfl
      have m4 : w6.cell? ⟨rb, 2, none⟩ = some vP := MB.cell 2
      have m5 : w6.frozen? ⟨rb, 2, none⟩ = false := MB.frozen 2
      have HB3 := Lib.hid (HB2.out.trans (HB2.out.run.pushP hGr (x := ⟨f, tn, un, t⟩) (c := [.int .i64 f, .bool tn, .slice ua un.length uc, .int .i64 6, .string nm, .slice (some ⟨b, o, none⟩) 1 xc, .slice (some ⟨tb, hto, none⟩) tl tc]) hRp og gg hv'))
      clear HB2 hGr og gg hv' BZ hRp MB
      refine hK _ _ ?_
      clear hK K'
      try simp only [Act.put, List.getElem_toArray, List.getElem_cons_zero, List.getElem_cons_succ, List.setIfInBounds_toArray, List.set_cons_zero, List.set_cons_succ]
      refine any_take (i := 8) (v := ?_) rfl (by kernel_rfl) (fun _ _ _ h => h) (Or.inl ⟨by rfl, ?_⟩) ?_
      rotate_left
      · intro W
        go_simp
        try with_reducible rfl
      try simp only [Act.put, List.getElem_toArray, List.getElem_cons_zero, List.getElem_cons_succ, List.setIfInBounds_toArray, List.set_cons_zero, List.set_cons_succ]
      refine any_take (i := 9) (v := ?_) rfl (by kernel_rfl) (fun _ _ _ h => h) (Or.inl ⟨by rfl, ?_⟩) ?_
      rotate_left
      · intro W
        go_simp
        try with_reducible rfl
      try simp only [Act.put, List.getElem_toArray, List.getElem_cons_zero, List.getElem_cons_succ, List.setIfInBounds_toArray, List.set_cons_zero, List.set_cons_succ]
      refine any_one (i := 10) (by kernel_rfl) rfl (fun K' hK => ?_)
      go_simp
      refine hK _ _ ?_
      clear hK K' m4 m5
      refine wpAny_done (by kernel_rfl) ?_ _
      go_wp2_with fail
      go_end0
      exact ⟨rfl, _, vF, by rw [HSP.out]; exact HB3.out⟩
    · subst hop
      go_upto_region 3 with (fail)
      clear z0 z2 y0 q4 f4
      have d1 : w3.cell? ⟨rb, 2, none⟩ = some vP := HJ3.out.run.cells.cell 2
      obtain ⟨c0, c1, c2, c3, c4, c5, c6⟩ := blk7 B3'.out
      refine wp_region_any (by kernel_rfl) ?_
      refine any_take (i := 0) (v := ?_) rfl (by kernel_rfl) (fun _ _ _ h => h) (Or.inl ⟨by rfl, ?_⟩) ?_
      rotate_left
      · intro W
        go_simp
        try with_reducible rfl
      try simp only [Act.put, List.getElem_toArray, List.getElem_cons_zero, List.getElem_cons_succ, List.setIfInBounds_toArray, List.set_cons_zero, List.set_cons_succ]
      refine any_of_till (n := 7) (S := fun W => W.cell? ⟨rb, 2, none⟩ = some vP ∧ W.cell? ⟨w.heap.size, 0, none⟩ = some (.int .i64 f) ∧ W.cell? ⟨w.heap.size, 1, none⟩ = some (.bool tn) ∧ W.cell? ⟨w.heap.size, 2, none⟩ = some (.slice ua un.length uc) ∧ W.cell? ⟨w.heap.size, 3, none⟩ = some (.int .i64 7) ∧ W.cell? ⟨w.heap.size, 4, none⟩ = some (.string nm) ∧ W.cell? ⟨w.heap.size, 5, none⟩ = some (.slice (some ⟨b, o, none⟩) 1 xc) ∧ W.cell? ⟨w.heap.size, 6, none⟩ = some (.slice (some ⟨tb, hto, none⟩) tl tc)) _ _ _ _ ?_
      refine till_take (i := 1) (v := ?_) rfl (by kernel_rfl) (fun _ _ _ h => h) (Or.inl ⟨by rfl, ?_⟩) ⟨d1,c0,c1,c2,c3,c4,c5,c6⟩ ?_
      rotate_left
      · intro W hS
        try dsimp only at hS
        go_split_ands
        go_simp
        try with_reducible rfl
      try simp only [Act.put, List.getElem_toArray, List.getElem_cons_zero, List.getElem_cons_succ, List.setIfInBounds_toArray, List.set_cons_zero, List.set_cons_succ]
      refine till_take (i := 2) (v := ?_) rfl (by kernel_rfl) (fun _ _ _ h => h) (Or.inl ⟨by rfl, ?_⟩) ⟨d1,c0,c1,c2,c3,c4,c5,c6⟩ ?_
      rotate_left
      · intro W hS
        try dsimp only at hS
        go_split_ands
        go_simp
        try with_reducible rfl
      try simp only [Act.put, List.getElem_toArray, List.getElem_cons_zero, List.getElem_cons_succ, List.setIfInBounds_toArray, List.set_cons_zero, List.set_cons_succ]
      refine till_take (i := 3) (v := ?_) rfl (by kernel_rfl) (fun _ _ _ h => h) (Or.inl ⟨by rfl, ?_⟩) ⟨d1,c0,c1,c2,c3,c4,c5,c6⟩ ?_
      rotate_left
      · intro W hS
        try dsimp only at hS
        go_split_ands
        go_simp
        try with_reducible rfl
      try simp only [Act.put, List.getElem_toArray, List.getElem_cons_zero, List.getElem_cons_succ, List.setIfInBounds_toArray, List.set_cons_zero, List.set_cons_succ]
      refine till_take (i := 4) (v := ?_) rfl (by kernel_rfl) (fun _ _ _ h => h) (Or.inl ⟨by rfl, ?_⟩) ⟨d1,c0,c1,c2,c3,c4,c5,c6⟩ ?_
      rotate_left
      · intro W hS
        try dsimp only at hS
        go_split_ands
        go_simp
        try with_reducible rfl
      try simp only [Act.put, List.getElem_toArray, List.getElem_cons_zero, List.getElem_cons_succ, List.setIfInBounds_toArray, List.set_cons_zero, List.set_cons_succ]
      refine till_take (i := 5) (v := ?_) rfl (by kernel_rfl) (fun _ _ _ h => h) (Or.inl ⟨by rfl, ?_⟩) ⟨d1,c0,c1,c2,c3,c4,c5,c6⟩ ?_
      rotate_left
      · intro W hS
        try dsimp only at hS
        go_split_ands
        go_simp
        try with_reducible rfl
      try simp only [Act.put, List.getElem_toArray, List.getElem_cons_zero, List.getElem_cons_succ, List.setIfInBounds_toArray, List.set_cons_zero, List.set_cons_succ]
      refine till_one (i := 6) (by kernel_rfl) rfl (fun K' hK => ?_)
      go_simp
      have hbn : Below w3.heap.size w3 (w3.alloc (.cells #[.int .i64 f, .bool tn, .slice ua un.length uc, .int .i64 7, .string nm, .slice (some ⟨b, o, none⟩) 1 xc, .slice (some ⟨tb, hto, none⟩) tl tc] 71)).drew := (below_nT w3 (.cells #[.int .i64 f, .bool tn, .slice ua un.length uc, .int .i64 7, .string nm, .slice (some ⟨b, o, none⟩) 1 xc, .slice (some ⟨tb, hto, none⟩) tl tc] 71)).drew
      have HB2 := Lib.hid (HJ3.out.trans (HJ3.out.run.below hbn))
      have BZ := Lib.hid (Mem.Blk.new w3 71 #[.int .i64 f, .bool tn, .slice ua un.length uc, .int .i64 7, .string nm, .slice (some ⟨b, o, none⟩) 1 xc, .slice (some ⟨tb, hto, none⟩) tl tc]).drew
      refine hK _ _ ⟨cell_up d1 hbn, cell_up c0 hbn, cell_up c1 hbn, cell_up c2 hbn, cell_up c3 hbn, cell_up c4 hbn, cell_up c5 hbn, cell_up c6 hbn⟩ ?_
      clear hK K' hbn d1 c0 c1 c2 c3 c4 c5 c6
      generalize (w3.alloc (.cells #[.int .i64 f, .bool tn, .slice ua un.length uc, .int .i64 7, .string nm, .slice (some ⟨b, o, none⟩) 1 xc, .slice (some ⟨tb, hto, none⟩) tl tc] 71)).drew = w5 at *
      generalize w3.heap.size = zz at *
      try simp only [Act.put, List.getElem_toArray, List.getElem_cons_zero, List.getElem_cons_succ, List.setIfInBounds_toArray, List.set_cons_zero, List.set_cons_succ]
      refine till_last (by kernel_rfl) rfl (by kernel_rfl) (fun K' hK => ?_)
      obtain ⟨csl, hGr⟩ := HB2.out.run.sep.at 0 rfl
      have hRp := HB2.out.rep (K := ptK) HPT.out
      refine step_ap infoPt Try.underlying37 rfl (by decide) rfl (.tmp 23) (.tmp 25) rfl rfl hGr.own hGr.room ⟨zz, 0, none⟩ 1 1 [.int .i64 f, .bool tn, .slice ua un.length uc, .int .i64 7, .string nm, .slice (some ⟨b, o, none⟩) 1 xc, .slice (some ⟨tb, hto, none⟩) tl tc] rfl rfl (fun m u hm => by rw [Mem.add0, BZ.out.cell]; simpa using hm) (by simp [Value.oneCell']) (by have := HSM.out; unfold maxLen; omega) (by have := HSM.out; omega) ?_
      intro v' w6 og gg hv'
      obtain ⟨gP, capn, rfl, -, -, -, -⟩ := own_form og (by omega)
      have MB := (HB2.out.run.sep.push 0 rfl hGr (x := ⟨f, tn, un, t⟩) (c := [.int .i64 f, .bool tn, .slice ua un.length uc, .int .i64 7, .string nm, .slice (some ⟨b, o, none⟩) 1 xc, .slice (some ⟨tb, hto, none⟩) tl tc]) (by rw [owns_famR]; exact hRp) og gg hv').blk 2 rfl
      have m4 : w6.cell? ⟨rb, 2, none⟩ = some vP := MB.cell 2
      have m5 : w6.frozen? ⟨rb, 2, none⟩ = false := MB.frozen 2
      have HB3 := Lib.hid (HB2.out.trans (HB2.out.run.pushP hGr (x := ⟨f, tn, un, t⟩) (c := [.int .i64 f, .bool tn, .slice ua un.length uc, .int .i64 7, .string nm, .slice (some ⟨b, o, none⟩) 1 xc, .slice (some ⟨tb, hto, none⟩) tl tc]) hRp og gg hv'))
      clear HB2 hGr og gg hv' BZ hRp MB
      refine hK _ _ ?_
      clear hK K'
      try simp only [Act.put, List.getElem_toArray, List.getElem_cons_zero, List.getElem_cons_succ, List.setIfInBounds_toArray, List.set_cons_zero, List.set_cons_succ]
      refine any_take (i := 8) (v := ?_) rfl (by kernel_rfl) (fun _ _ _ h => h) (Or.inl ⟨by rfl, ?_⟩) ?_
      rotate_left
      · intro W
        go_simp
        try with_reducible rfl
      try simp only [Act.put, List.getElem_toArray, List.getElem_cons_zero, List.getElem_cons_succ, List.setIfInBounds_toArray, List.set_cons_zero, List.set_cons_succ]
      refine any_take (i := 9) (v := ?_) rfl (by kernel_rfl) (fun _ _ _ h => h) (Or.inl ⟨by rfl, ?_⟩) ?_
      rotate_left
      · intro W
        go_simp
        try with_reducible rfl
      try simp only [Act.put, List.getElem_toArray, List.getElem_cons_zero, List.getElem_cons_succ, List.setIfInBounds_toArray, List.set_cons_zero, List.set_cons_succ]
      refine any_one (i := 10) (by kernel_rfl) rfl (fun K' hK => ?_)
      go_simp
      refine hK _ _ ?_
      clear hK K' m4 m5
      refine wpAny_done (by kernel_rfl) ?_ _
      go_wp2_with fail
      go_end0
      exact ⟨rfl, _, vF, by rw [HSP.out]; exact HB3.out⟩
  | num n =>
    have z0 : w3.cell? ⟨z, 0, none⟩ = some (.int .i64 1) := BZ.out.cell 0
    have z1 : w3.cell? ⟨z, 1, none⟩ = some (.int .i64 n) := BZ.out.cell 1
    have z2 : w3.cell? ⟨z, 2, none⟩ = some (.bool false) := BZ.out.cell 2
    have y0 : w3.cell? ⟨g1, 0, none⟩ = some (.int .i64 op) := B2'.out.cell 0
    rcases HOP.out with hop | hop
    · subst hop
      have HSP : Hid (S9 = acq day fx (t0 t) (fitN (fitI (f * n))) tn un { s with bad := !(fitB (fitI (f * n))) }) := HSS.out.trans (waitW_mul HOE.out)
      obtain ⟨c0, -, -, -, -, -, -⟩ := blk7 B3'.out
      go_upto_region 7 with (fail)
      go_wp2_with fail
      have hn9 : I64 n := HNI.out
      (with_reducible refine (numMul_any f n w3 HFI.out hn9).mono ?_)
      rintro y w4 ⟨hy, bm⟩
      unfold fitR at hy
      subst hy
      have HN9 := Lib.hid (fit_i64 (f * n))
      generalize fitN (fitI (f * n)) = N9 at *
      generalize fitB (fitI (f * n)) = b9 at *
      have HS4 := Lib.hid (HSB.out.below bm)
      have HF4 : Hid (Fr (X3 rb vP vF) w w4) := (HJ3.out.fr.trans (Fr.of_below bm _))
      have HT4 := Lib.hid (B2'.out.below bm)
      clear z0 z1 z2 y0 c0 q4 f4 bm hn9 HSB BZ B3' B2' HJ3 HJ2
      have q4 : w4.cell? ⟨rb, 4, none⟩ = some (.bool s.bad) := (HS4.out.blk 3 rfl).cell 4
      have f4 : w4.frozen? ⟨rb, 4, none⟩ = false := (HS4.out.blk 3 rfl).frozen 4
      have HS5 := Lib.hid (HS4.out.store 3 rfl 4 (.bool (!b9)))
      have HF5 : Hid (Fr (X3 rb vP vF) w (w4.setCell ⟨rb, 4, none⟩ (.bool (!b9)))) := HF4.out.trans (Fr.setCell w4 (p := ⟨rb, 4, none⟩) (by unfold X3; simp) _)
      have HT5 := Lib.hid (HT4.out.far (p := ⟨rb, 4, none⟩) HGR.out (.bool (!b9)))
      go_upto_region 9 with (fail)
      generalize w4.setCell ⟨rb, 4, none⟩ (.bool (!b9)) = w5 at *
      clear q4 f4 HS4 HF4 HT4
      have q4 : w5.cell? ⟨w.heap.size, 0, none⟩ = some (.int .i64 f) := (HS5.out.blk 0 rfl).cell 0
      have f4 : w5.frozen? ⟨w.heap.size, 0, none⟩ = false := (HS5.out.blk 0 rfl).frozen 0
      have HS6 := Lib.hid (HS5.out.store 0 rfl 0 (.int .i64 N9))
      have HF6 := Lib.hid (HF5.out.setNew (p := ⟨w.heap.size, 0, none⟩) (Nat.le_refl _) (.int .i64 N9))
      have HT6 := Lib.hid (HT5.out.far (p := ⟨w.heap.size, 0, none⟩) HGW.out (.int .i64 N9))
      go_upto_region 10 with (fail)
      generalize w5.setCell ⟨w.heap.size, 0, none⟩ (.int .i64 N9) = w6 at *
      clear q4 f4 HS5 HF5 HT5
      have BP6 : Hid (Mem.Blk w6 w.heap.size 71 #[.int .i64 N9, .bool tn, .slice ua un.length uc, .int .i64 6, .string nm, .slice (some ⟨b, o, none⟩) 1 xc, .slice (some ⟨tb, hto, none⟩) tl tc]) := HS6.out.blk 0 rfl
      have HJ6 : Hid (RunTo base rb day fx fa fl fc w w6 vP vF { s with bad := !b9 } vP vF) := RunTo.of HJ.out (HS6.out.drop 0) HF6.out
      clear HS6 HF6
      obtain ⟨c0, c1, c2, c3, c4, c5, c6⟩ := blk7 BP6.out
      have y3 : w6.cell? ⟨g1, 3, none⟩ = some (.slice (some ⟨tb, hto, none⟩) tl tc) := HT6.out.cell 3
      obtain ⟨v0, v1, v2, v3⟩ := HW.out
      replace v0 := HJ6.out.fr.cell v0 HNX.out
      replace v1 := HJ6.out.fr.cell v1 HNX.out
      replace v2 := HJ6.out.fr.cell v2 HNX.out
      replace v3 := HJ6.out.fr.cell v3 HNX.out
      have hlt9 : 0 < tl := HLT.out
      refine wp_region_till (S := fun W => W.cell? ⟨g1, 3, none⟩ = some (.slice (some ⟨tb, hto, none⟩) tl tc) ∧ W.cell? ⟨w.heap.size, 0, none⟩ = some (.int .i64 N9) ∧ W.cell? ⟨w.heap.size, 1, none⟩ = some (.bool tn) ∧ W.cell? ⟨w.heap.size, 2, none⟩ = some (.slice ua un.length uc) ∧ W.cell? ⟨w.heap.size, 3, none⟩ = some (.int .i64 6) ∧ W.cell? ⟨w.heap.size, 4, none⟩ = some (.string nm) ∧ W.cell? ⟨w.heap.size, 5, none⟩ = some (.slice (some ⟨b, o, none⟩) 1 xc) ∧ W.cell? ⟨w.heap.size, 6, none⟩ = some (.slice (some ⟨tb, hto, none⟩) tl tc) ∧ W.cell? ⟨tb, hto, none⟩ = some (.int .i64 q1) ∧ W.cell? ⟨tb, hto + 1, none⟩ = some (.string q2) ∧ W.cell? ⟨tb, hto + 2, none⟩ = some (.slice q3 q4' q5) ∧ W.cell? ⟨tb, hto + 3, none⟩ = some (.slice q6 q7 q8)) 7 (by kernel_rfl) ?_
      refine till_take (i := 0) (v := ?_) rfl (by kernel_rfl) (fun _ _ _ h => h) (Or.inl ⟨by rfl, ?_⟩) ⟨y3,c0,c1,c2,c3,c4,c5,c6,v0,v1,v2,v3⟩ ?_
      rotate_left
      · intro W hS
        try dsimp only at hS
        go_split_ands
        go_simp
        try with_reducible rfl
      try simp only [Act.put, List.getElem_toArray, List.getElem_cons_zero, List.getElem_cons_succ, List.setIfInBounds_toArray, List.set_cons_zero, List.set_cons_succ]
      refine till_take (i := 1) (v := ?_) rfl (by kernel_rfl) (fun _ _ _ h => h) (Or.inl ⟨by rfl, ?_⟩) ⟨y3,c0,c1,c2,c3,c4,c5,c6,v0,v1,v2,v3⟩ ?_
      rotate_left
      · intro W hS
        try dsimp only at hS
        go_split_ands
        go_simp
        try with_reducible rfl
      try simp only [Act.put, List.getElem_toArray, List.getElem_cons_zero, List.getElem_cons_succ, List.setIfInBounds_toArray, List.set_cons_zero, List.set_cons_succ]
      refine till_take (i := 2) (v := ?_) rfl (by kernel_rfl) (fun _ _ _ h => h) (Or.inl ⟨by rfl, ?_⟩) ⟨y3,c0,c1,c2,c3,c4,c5,c6,v0,v1,v2,v3⟩ ?_
      rotate_left
      · intro W hS
        try dsimp only at hS
        go_split_ands
        go_simp
        try with_reducible rfl
      try simp only [Act.put, List.getElem_toArray, List.getElem_cons_zero, List.getElem_cons_succ, List.setIfInBounds_toArray, List.set_cons_zero, List.set_cons_succ]
      refine till_take (i := 3) (v := ?_) rfl (by kernel_rfl) (fun _ _ _ h => h) (Or.inl ⟨by rfl, ?_⟩) ⟨y3,c0,c1,c2,c3,c4,c5,c6,v0,v1,v2,v3⟩ ?_
      rotate_left
      · intro W hS
        try dsimp only at hS
        go_split_ands
        go_simp
        try with_reducible rfl
      try simp only [Act.put, List.getElem_toArray, List.getElem_cons_zero, List.getElem_cons_succ, List.setIfInBounds_toArray, List.set_cons_zero, List.set_cons_succ]
      refine till_take (i := 4) (v := ?_) rfl (by kernel_rfl) (fun _ _ _ h => h) (Or.inl ⟨by rfl, ?_⟩) ⟨y3,c0,c1,c2,c3,c4,c5,c6,v0,v1,v2,v3⟩ ?_
      rotate_left
      · intro W hS
        try dsimp only at hS
        go_split_ands
        go_simp
        try with_reducible rfl
      try simp only [Act.put, List.getElem_toArray, List.getElem_cons_zero, List.getElem_cons_succ, List.setIfInBounds_toArray, List.set_cons_zero, List.set_cons_succ]
      refine till_take (i := 5) (v := ?_) rfl (by kernel_rfl) (fun _ _ _ h => h) (Or.inl ⟨by rfl, ?_⟩) ⟨y3,c0,c1,c2,c3,c4,c5,c6,v0,v1,v2,v3⟩ ?_
      rotate_left
      · intro W hS
        try dsimp only at hS
        go_split_ands
        go_simp
        try with_reducible rfl
      try simp only [Act.put, List.getElem_toArray, List.getElem_cons_zero, List.getElem_cons_succ, List.setIfInBounds_toArray, List.set_cons_zero, List.set_cons_succ]
      refine till_one (i := 6) (by kernel_rfl) rfl (fun K' hK => ?_)
      go_simp
      have b0 : Below w6.heap.size w6 w6.drew := (Below.refl w6.heap.size w6).drew
      (with_reducible refine (partWith_any _ _ _ _ _ _ _ _ _ _ _ _ _ _ _ _ _ _ _ _ _ _).mono ?_)
      rintro y w8 ⟨rfl, b1⟩
      have bt := b0.trans (b1.mono b0.size)
      have HJ8 := Lib.hid (HJ6.out.trans (HJ6.out.run.below bt))
      have BP8 := Lib.hid (BP6.out.below bt)
      have BT8 := Lib.hid (HT6.out.below bt)
      refine hK _ _ ⟨cell_up y3 bt, cell_up c0 bt, cell_up c1 bt, cell_up c2 bt, cell_up c3 bt, cell_up c4 bt, cell_up c5 bt, cell_up c6 bt, cell_up v0 bt, cell_up v1 bt, cell_up v2 bt, cell_up v3 bt⟩ ?_
      clear hK K' b0 b1 y3 c0 c1 c2 c3 c4 c5 c6 v0 v1 v2 v3 hlt9
      try simp only [Act.put, List.getElem_toArray, List.getElem_cons_zero, List.getElem_cons_succ, List.setIfInBounds_toArray, List.set_cons_zero, List.set_cons_succ]
      refine till_last (by kernel_rfl) rfl (by kernel_rfl) (fun K' hK => ?_)
      go_simp
      have hic := HIH.out
      have hrt8 : RepT w8 (X3 rb vP vF) (t0 t) [.int .i64 q1, .string q2, .slice q3 q4' q5, .slice q6 q7 q8] := HJ8.out.rep (K := teK) (x := (t0 t)) HRT.out
      have huu8 : SlR exK w8 (X3 rb vP vF) un ua un.length uc := (HJ8.out.slr (K := exK) HU.out)
      unfold AcqC at hic
      (with_reducible refine (hic N9 tn un _ vP vF ua uc [.int .i64 q1, .string q2, .slice q3 q4' q5, .slice q6 q7 q8] w8 HN9.out HJ8.out.run hrt8 huu8 (by have := HSM.out; have := HKD.out; omega) (by have := HSM.out; have := HKD.out; first | omega | (show s.ps.length + _ ≤ _; omega)) (by have := HSM.out; have := HKD.out; first | omega | (show s.fs.length + _ ≤ _; omega))).mono ?_)
      rintro y w9 ⟨rfl, vP', vF', hR9⟩
      have HR9 := Lib.hid (HJ8.out.trans hR9)
      have HR98 := Lib.hid hR9
      clear hic hrt8 huu8
      refine hK _ _ ?_
      clear hK K' hR9 bt
      try simp only [Act.put, List.getElem_toArray, List.getElem_cons_zero, List.getElem_cons_succ, List.setIfInBounds_toArray, List.set_cons_zero, List.set_cons_succ]
      refine wpAny_done (by kernel_rfl) ?_ _
      go_wp2_with fail
      go_end0
      exact ⟨rfl, vP', vF', by rw [HSP.out]; exact HR9.out⟩
    · have HSP : Hid (S9 = { s with ps := s.ps ++ [⟨f, tn, un, t⟩] }) := HSS.out.trans (waitW_part (by show (1 : Int) ≠ 3; omega) (fun h => by have := HOE.out; omega) (fun _ => rfl))
      subst hop
      go_upto_region 3 with (fail)
      clear z0 z2 y0 q4 f4
      have d1 : w3.cell? ⟨rb, 2, none⟩ = some vP := HJ3.out.run.cells.cell 2
      obtain ⟨c0, c1, c2, c3, c4, c5, c6⟩ := blk7 B3'.out
      refine wp_region_any (by kernel_rfl) ?_
      refine any_take (i := 0) (v := ?_) rfl (by kernel_rfl) (fun _ _ _ h => h) (Or.inl ⟨by rfl, ?_⟩) ?_
      rotate_left
      · intro W
        go_simp
        try with_reducible rfl
      try simp only [Act.put, List.getElem_toArray, List.getElem_cons_zero, List.getElem_cons_succ, List.setIfInBounds_toArray, List.set_cons_zero, List.set_cons_succ]
      refine any_of_till (n := 7) (S := fun W => W.cell? ⟨rb, 2, none⟩ = some vP ∧ W.cell? ⟨w.heap.size, 0, none⟩ = some (.int .i64 f) ∧ W.cell? ⟨w.heap.size, 1, none⟩ = some (.bool tn) ∧ W.cell? ⟨w.heap.size, 2, none⟩ = some (.slice ua un.length uc) ∧ W.cell? ⟨w.heap.size, 3, none⟩ = some (.int .i64 7) ∧ W.cell? ⟨w.heap.size, 4, none⟩ = some (.string nm) ∧ W.cell? ⟨w.heap.size, 5, none⟩ = some (.slice (some ⟨b, o, none⟩) 1 xc) ∧ W.cell? ⟨w.heap.size, 6, none⟩ = some (.slice (some ⟨tb, hto, none⟩) tl tc)) _ _ _ _ ?_
      refine till_take (i := 1) (v := ?_) rfl (by kernel_rfl) (fun _ _ _ h => h) (Or.inl ⟨by rfl, ?_⟩) ⟨d1,c0,c1,c2,c3,c4,c5,c6⟩ ?_
      rotate_left
      · intro W hS
        try dsimp only at hS
        go_split_ands
        go_simp
        try with_reducible rfl
      try simp only [Act.put, List.getElem_toArray, List.getElem_cons_zero, List.getElem_cons_succ, List.setIfInBounds_toArray, List.set_cons_zero, List.set_cons_succ]
      refine till_take (i := 2) (v := ?_) rfl (by kernel_rfl) (fun _ _ _ h => h) (Or.inl ⟨by rfl, ?_⟩) ⟨d1,c0,c1,c2,c3,c4,c5,c6⟩ ?_
      rotate_left
      · intro W hS
        try dsimp only at hS
        go_split_ands
        go_simp
        try with_reducible rfl
      try simp only [Act.put, List.getElem_toArray, List.getElem_cons_zero, List.getElem_cons_succ, List.setIfInBounds_toArray, List.set_cons_zero, List.set_cons_succ]
      refine till_take (i := 3) (v := ?_) rfl (by kernel_rfl) (fun _ _ _ h => h) (Or.inl ⟨by rfl, ?_⟩) ⟨d1,c0,c1,c2,c3,c4,c5,c6⟩ ?_
      rotate_left
      · intro W hS
        try dsimp only at hS
        go_split_ands
        go_simp
        try with_reducible rfl
      try simp only [Act.put, List.getElem_toArray, List.getElem_cons_zero, List.getElem_cons_succ, List.setIfInBounds_toArray, List.set_cons_zero, List.set_cons_succ]
      refine till_take (i := 4) (v := ?_) rfl (by kernel_rfl) (fun _ _ _ h => h) (Or.inl ⟨by rfl, ?_⟩) ⟨d1,c0,c1,c2,c3,c4,c5,c6⟩ ?_
      rotate_left
      · intro W hS
        try dsimp only at hS
        go_split_ands
        go_simp
        try with_reducible rfl
      try simp only [Act.put, List.getElem_toArray, List.getElem_cons_zero, List.getElem_cons_succ, List.setIfInBounds_toArray, List.set_cons_zero, List.set_cons_succ]
      refine till_take (i := 5) (v := ?_) rfl (by kernel_rfl) (fun _ _ _ h => h) (Or.inl ⟨by rfl, ?_⟩) ⟨d1,c0,c1,c2,c3,c4,c5,c6⟩ ?_
      rotate_left
      · intro W hS
        try dsimp only at hS
        go_split_ands
        go_simp
        try with_reducible rfl
      try simp only [Act.put, List.getElem_toArray, List.getElem_cons_zero, List.getElem_cons_succ, List.setIfInBounds_toArray, List.set_cons_zero, List.set_cons_succ]
      refine till_one (i := 6) (by kernel_rfl) rfl (fun K' hK => ?_)
      go_simp
      have hbn : Below w3.heap.size w3 (w3.alloc (.cells #[.int .i64 f, .bool tn, .slice ua un.length uc, .int .i64 7, .string nm, .slice (some ⟨b, o, none⟩) 1 xc, .slice (some ⟨tb, hto, none⟩) tl tc] 71)).drew := (below_nT w3 (.cells #[.int .i64 f, .bool tn, .slice ua un.length uc, .int .i64 7, .string nm, .slice (some ⟨b, o, none⟩) 1 xc, .slice (some ⟨tb, hto, none⟩) tl tc] 71)).drew
      have HB2 := Lib.hid (HJ3.out.trans (HJ3.out.run.below hbn))
      have BZ := Lib.hid (Mem.Blk.new w3 71 #[.int .i64 f, .bool tn, .slice ua un.length uc, .int .i64 7, .string nm, .slice (some ⟨b, o, none⟩) 1 xc, .slice (some ⟨tb, hto, none⟩) tl tc]).drew
      refine hK _ _ ⟨cell_up d1 hbn, cell_up c0 hbn, cell_up c1 hbn, cell_up c2 hbn, cell_up c3 hbn, cell_up c4 hbn, cell_up c5 hbn, cell_up c6 hbn⟩ ?_
      clear hK K' hbn d1 c0 c1 c2 c3 c4 c5 c6
      generalize (w3.alloc (.cells #[.int .i64 f, .bool tn, .slice ua un.length uc, .int .i64 7, .string nm, .slice (some ⟨b, o, none⟩) 1 xc, .slice (some ⟨tb, hto, none⟩) tl tc] 71)).drew = w5 at *
      generalize w3.heap.size = zz at *
      try simp only [Act.put, List.getElem_toArray, List.getElem_cons_zero, List.getElem_cons_succ, List.setIfInBounds_toArray, List.set_cons_zero, List.set_cons_succ]
      refine till_last (by kernel_rfl) rfl (by kernel_rfl) (fun K' hK => ?_)
      obtain ⟨csl, hGr⟩ := HB2.out.run.sep.at 0 rfl
      have hRp := HB2.out.rep (K := ptK) HPT.out
      refine step_ap infoPt Try.underlying37 rfl (by decide) rfl (.tmp 23) (.tmp 25) rfl rfl hGr.own hGr.room ⟨zz, 0, none⟩ 1 1 [.int .i64 f, .bool tn, .slice ua un.length uc, .int .i64 7, .string nm, .slice (some ⟨b, o, none⟩) 1 xc, .slice (some ⟨tb, hto, none⟩) tl tc] rfl rfl (fun m u hm => by rw [Mem.add0, BZ.out.cell]; simpa using hm) (by simp [Value.oneCell']) (by have := HSM.out; unfold maxLen; omega) (by have := HSM.out; omega) ?_
      intro v' w6 og gg hv'
      obtain ⟨gP, capn, rfl, -, -, -, -⟩ := own_form og (by omega)
      have MB := (HB2.out.run.sep.push 0 rfl hGr (x := ⟨f, tn, un, t⟩) (c := [.int .i64 f, .bool tn, .slice ua un.length uc, .int .i64 7, .string nm, .slice (some ⟨b, o, none⟩) 1 xc, .slice (some ⟨tb, hto, none⟩) tl tc]) (by rw [owns_famR]; exact hRp) og gg hv').blk 2 rfl
      have m4 : w6.cell? ⟨rb, 2, none⟩ = some vP := MB.cell 2
      have m5 : w6.frozen? ⟨rb, 2, none⟩ = false := MB.frozen 2
      have HB3 := Lib.hid (HB2.out.trans (HB2.out.run.pushP hGr (x := ⟨f, tn, un, t⟩) (c := [.int .i64 f, .bool tn, .slice ua un.length uc, .int .i64 7, .string nm, .slice (some ⟨b, o, none⟩) 1 xc, .slice (some ⟨tb, hto, none⟩) tl tc]) hRp og gg hv'))
      clear HB2 hGr og gg hv' BZ hRp MB
      refine hK _ _ ?_
      clear hK K'
      try simp only [Act.put, List.getElem_toArray, List.getElem_cons_zero, List.getElem_cons_succ, List.setIfInBounds_toArray, List.set_cons_zero, List.set_cons_succ]
      refine any_take (i := 8) (v := ?_) rfl (by kernel_rfl) (fun _ _ _ h => h) (Or.inl ⟨by rfl, ?_⟩) ?_
      rotate_left
      · intro W
        go_simp
        try with_reducible rfl
      try simp only [Act.put, List.getElem_toArray, List.getElem_cons_zero, List.getElem_cons_succ, List.setIfInBounds_toArray, List.set_cons_zero, List.set_cons_succ]
      refine any_take (i := 9) (v := ?_) rfl (by kernel_rfl) (fun _ _ _ h => h) (Or.inl ⟨by rfl, ?_⟩) ?_
      rotate_left
      · intro W
        go_simp
        try with_reducible rfl
      try simp only [Act.put, List.getElem_toArray, List.getElem_cons_zero, List.getElem_cons_succ, List.setIfInBounds_toArray, List.set_cons_zero, List.set_cons_succ]
      refine any_one (i := 10) (by kernel_rfl) rfl (fun K' hK => ?_)
      go_simp
      refine hK _ _ ?_
      clear hK K' m4 m5
      refine wpAny_done (by kernel_rfl) ?_ _
      go_wp2_with fail
      go_end0
      exact ⟨rfl, _, vF, by rw [HSP.out]; exact HB3.out⟩
  | tru b9 =>
    have z0 : w3.cell? ⟨z, 0, none⟩ = some (.int .i64 2) := BZ.out.cell 0
    have z2 : w3.cell? ⟨z, 2, none⟩ = some (.bool b9) := BZ.out.cell 2
    have y0 : w3.cell? ⟨g1, 0, none⟩ = some (.int .i64 op) := B2'.out.cell 0
    rcases HOP.out with hop | hop
    · have HSP : Hid (S9 = { s with ps := s.ps ++ [⟨f, tn, un, t⟩] }) := HSS.out.trans (waitW_part (by show (2 : Int) ≠ 3; omega) (fun _ => by show (2 : Int) ≠ 1; omega) (fun h => by have := HOE.out; omega))
      subst hop
      go_upto_region 3 with (fail)
      clear z0 z2 y0 q4 f4
      have d1 : w3.cell? ⟨rb, 2, none⟩ = some vP := HJ3.out.run.cells.cell 2
      obtain ⟨c0, c1, c2, c3, c4, c5, c6⟩ := blk7 B3'.out
      refine wp_region_any (by kernel_rfl) ?_
      refine any_take (i := 0) (v := ?_) rfl (by kernel_rfl) (fun _ _ _ h => h) (Or.inl ⟨by rfl, ?_⟩) ?_
      rotate_left
      · intro W
        go_simp
        try with_reducible rfl
      try simp only [Act.put, List.getElem_toArray, List.getElem_cons_zero, List.getElem_cons_succ, List.setIfInBounds_toArray, List.set_cons_zero, List.set_cons_succ]
      refine any_of_till (n := 7) (S := fun W => W.cell? ⟨rb, 2, none⟩ = some vP ∧ W.cell? ⟨w.heap.size, 0, none⟩ = some (.int .i64 f) ∧ W.cell? ⟨w.heap.size, 1, none⟩ = some (.bool tn) ∧ W.cell? ⟨w.heap.size, 2, none⟩ = some (.slice ua un.length uc) ∧ W.cell? ⟨w.heap.size, 3, none⟩ = some (.int .i64 6) ∧ W.cell? ⟨w.heap.size, 4, none⟩ = some (.string nm) ∧ W.cell? ⟨w.heap.size, 5, none⟩ = some (.slice (some ⟨b, o, none⟩) 1 xc) ∧ W.cell? ⟨w.heap.size, 6, none⟩ = some (.slice (some ⟨tb, hto, none⟩) tl tc)) _ _ _ _ ?_
      refine till_take (i := 1) (v := ?_) rfl (by kernel_rfl) (fun _ _ _ h => h) (Or.inl ⟨by rfl, ?_⟩) ⟨d1,c0,c1,c2,c3,c4,c5,c6⟩ ?_
      rotate_left
      · intro W hS
        try dsimp only at hS
        go_split_ands
        go_simp
        try with_reducible rfl
      try simp only [Act.put, List.getElem_toArray, List.getElem_cons_zero, List.getElem_cons_succ, List.setIfInBounds_toArray, List.set_cons_zero, List.set_cons_succ]
      refine till_take (i := 2) (v := ?_) rfl (by kernel_rfl) (fun _ _ _ h => h) (Or.inl ⟨by rfl, ?_⟩) ⟨d1,c0,c1,c2,c3,c4,c5,c6⟩ ?_
      rotate_left
      · intro W hS
        try dsimp only at hS
        go_split_ands
        go_simp
        try with_reducible rfl
      try simp only [Act.put, List.getElem_toArray, List.getElem_cons_zero, List.getElem_cons_succ, List.setIfInBounds_toArray, List.set_cons_zero, List.set_cons_succ]
      refine till_take (i := 3) (v := ?_) rfl (by kernel_rfl) (fun _ _ _ h => h) (Or.inl ⟨by rfl, ?_⟩) ⟨d1,c0,c1,c2,c3,c4,c5,c6⟩ ?_
      rotate_left
      · intro W hS
        try dsimp only at hS
        go_split_ands
        go_simp
        try with_reducible rfl
      try simp only [Act.put, List.getElem_toArray, List.getElem_cons_zero, List.getElem_cons_succ, List.setIfInBounds_toArray, List.set_cons_zero, List.set_cons_succ]
      refine till_take (i := 4) (v := ?_) rfl (by kernel_rfl) (fun _ _ _ h => h) (Or.inl ⟨by rfl, ?_⟩) ⟨d1,c0,c1,c2,c3,c4,c5,c6⟩ ?_
      rotate_left
      · intro W hS
        try dsimp only at hS
        go_split_ands
        go_simp
        try with_reducible rfl
      try simp only [Act.put, List.getElem_toArray, List.getElem_cons_zero, List.getElem_cons_succ, List.setIfInBounds_toArray, List.set_cons_zero, List.set_cons_succ]
      refine till_take (i := 5) (v := ?_) rfl (by kernel_rfl) (fun _ _ _ h => h) (Or.inl ⟨by rfl, ?_⟩) ⟨d1,c0,c1,c2,c3,c4,c5,c6⟩ ?_
      rotate_left
      · intro W hS
        try dsimp only at hS
        go_split_ands
        go_simp
        try with_reducible rfl
      try simp only [Act.put, List.getElem_toArray, List.getElem_cons_zero, List.getElem_cons_succ, List.setIfInBounds_toArray, List.set_cons_zero, List.set_cons_succ]
      refine till_one (i := 6) (by kernel_rfl) rfl (fun K' hK => ?_)
      go_simp
      have hbn : Below w3.heap.size w3 (w3.alloc (.cells #[.int .i64 f, .bool tn, .slice ua un.length uc, .int .i64 6, .string nm, .slice (some ⟨b, o, none⟩) 1 xc, .slice (some ⟨tb, hto, none⟩) tl tc] 71)).drew := (below_nT w3 (.cells #[.int .i64 f, .bool tn, .slice ua un.length uc, .int .i64 6, .string nm, .slice (some ⟨b, o, none⟩) 1 xc, .slice (some ⟨tb, hto, none⟩) tl tc] 71)).drew
      have HB2 := Lib.hid (HJ3.out.trans (HJ3.out.run.below hbn))
      have BZ := Lib.hid (Mem.Blk.new w3 71 #[.int .i64 f, .bool tn, .slice ua un.length uc, .int .i64 6, .string nm, .slice (some ⟨b, o, none⟩) 1 xc, .slice (some ⟨tb, hto, none⟩) tl tc]).drew
      refine hK _ _ ⟨cell_up d1 hbn, cell_up c0 hbn, cell_up c1 hbn, cell_up c2 hbn, cell_up c3 hbn, cell_up c4 hbn, cell_up c5 hbn, cell_up c6 hbn⟩ ?_
      clear hK K' hbn d1 c0 c1 c2 c3 c4 c5 c6
      generalize (w3.alloc (.cells #[.int .i64 f, .bool tn, .slice ua un.length uc, .int .i64 6, .string nm, .slice (some ⟨b, o, none⟩) 1 xc, .slice (some ⟨tb, hto, none⟩) tl tc] 71)).drew = w5 at *
      generalize w3.heap.size = zz at *
      try simp only [Act.put, List.getElem_toArray, List.getElem_cons_zero, List.getElem_cons_succ, List.setIfInBounds_toArray, List.set_cons_zero, List.set_cons_succ]
      refine till_last (by kernel_rfl) rfl (by kernel_rfl) (fun K' hK => ?_)
      obtain ⟨csl, hGr⟩ := HB2.out.run.sep.at 0 rfl
      have hRp := HB2.out.rep (K := ptK) HPT.out
      refine step_ap infoPt Try.underlying37 rfl (by decide) rfl (.tmp 23) (.tmp 25) rfl rfl hGr.own hGr.room ⟨zz, 0, none⟩ 1 1 [.int .i64 f, .bool tn, .slice ua un.length uc, .int .i64 6, .string nm, .slice (some ⟨b, o, none⟩) 1 xc, .slice (some ⟨tb, hto, none⟩) tl tc] rfl rfl (fun m u hm => by rw [Mem.add0, BZ.out.cell]; simpa using hm) (by simp [Value.oneCell']) (by have := HSM.out; unfold maxLen; omega) (by have := HSM.out; omega) ?_
      intro v' w6 og gg hv'
      obtain ⟨gP, capn, rfl, -, -, -, -⟩ := own_form og (by omega)
      have MB := (HB2.out.run.sep.push 0 rfl hGr (x := ⟨f, tn, un, t⟩) (c := [.int .i64 f, .bool tn, .slice ua un.length uc, .int .i64 6, .string nm, .slice (some ⟨b, o, none⟩) 1 xc, .slice (some ⟨tb, hto, none⟩) tl tc]) (by rw [owns_famR]; exact hRp) og gg hv').blk 2 rfl
      have m4 : w6.cell? ⟨rb, 2, none⟩ = some vP := MB.cell 2
      have m5 : w6.frozen? ⟨rb, 2, none⟩ = false := MB.frozen 2
      have HB3 := Lib.hid (HB2.out.trans (HB2.out.run.pushP hGr (x := ⟨f, tn, un, t⟩) (c := [.int .i64 f, .bool tn, .slice ua un.length uc, .int .i64 6, .string nm, .slice (some ⟨b, o, none⟩) 1 xc, .slice (some ⟨tb, hto, none⟩) tl tc]) hRp og gg hv'))
      clear HB2 hGr og gg hv' BZ hRp MB
      refine hK _ _ ?_
      clear hK K'
      try simp only [Act.put, List.getElem_toArray, List.getElem_cons_zero, List.getElem_cons_succ, List.setIfInBounds_toArray, List.set_cons_zero, List.set_cons_succ]
      refine any_take (i := 8) (v := ?_) rfl (by kernel_rfl) (fun _ _ _ h => h) (Or.inl ⟨by rfl, ?_⟩) ?_
      rotate_left
      · intro W
        go_simp
        try with_reducible rfl
      try simp only [Act.put, List.getElem_toArray, List.getElem_cons_zero, List.getElem_cons_succ, List.setIfInBounds_toArray, List.set_cons_zero, List.set_cons_succ]
      refine any_take (i := 9) (v := ?_) rfl (by kernel_rfl) (fun _ _ _ h => h) (Or.inl ⟨by rfl, ?_⟩) ?_
      rotate_left
      · intro W
        go_simp
        try with_reducible rfl
      try simp only [Act.put, List.getElem_toArray, List.getElem_cons_zero, List.getElem_cons_succ, List.setIfInBounds_toArray, List.set_cons_zero, List.set_cons_succ]
      refine any_one (i := 10) (by kernel_rfl) rfl (fun K' hK => ?_)
      go_simp
      refine hK _ _ ?_
      clear hK K' m4 m5
      refine wpAny_done (by kernel_rfl) ?_ _
      go_wp2_with fail
      go_end0
      exact ⟨rfl, _, vF, by rw [HSP.out]; exact HB3.out⟩
    · cases b9 with
      | false =>
        have HSP : Hid (S9 = { s with ps := s.ps ++ [⟨f, tn, un, t⟩] }) := HSS.out.trans (waitW_part (by show (2 : Int) ≠ 3; omega) (fun h => by have := HOE.out; omega) (fun _ => rfl))
        subst hop
        go_upto_region 3 with (fail)
        clear z0 z2 y0 q4 f4
        have d1 : w3.cell? ⟨rb, 2, none⟩ = some vP := HJ3.out.run.cells.cell 2
        obtain ⟨c0, c1, c2, c3, c4, c5, c6⟩ := blk7 B3'.out
        refine wp_region_any (by kernel_rfl) ?_
        refine any_take (i := 0) (v := ?_) rfl (by kernel_rfl) (fun _ _ _ h => h) (Or.inl ⟨by rfl, ?_⟩) ?_
        rotate_left
        · intro W
          go_simp
          try with_reducible rfl
        try simp only [Act.put, List.getElem_toArray, List.getElem_cons_zero, List.getElem_cons_succ, List.setIfInBounds_toArray, List.set_cons_zero, List.set_cons_succ]
        refine any_of_till (n := 7) (S := fun W => W.cell? ⟨rb, 2, none⟩ = some vP ∧ W.cell? ⟨w.heap.size, 0, none⟩ = some (.int .i64 f) ∧ W.cell? ⟨w.heap.size, 1, none⟩ = some (.bool tn) ∧ W.cell? ⟨w.heap.size, 2, none⟩ = some (.slice ua un.length uc) ∧ W.cell? ⟨w.heap.size, 3, none⟩ = some (.int .i64 7) ∧ W.cell? ⟨w.heap.size, 4, none⟩ = some (.string nm) ∧ W.cell? ⟨w.heap.size, 5, none⟩ = some (.slice (some ⟨b, o, none⟩) 1 xc) ∧ W.cell? ⟨w.heap.size, 6, none⟩ = some (.slice (some ⟨tb, hto, none⟩) tl tc)) _ _ _ _ ?_
        refine till_take (i := 1) (v := ?_) rfl (by kernel_rfl) (fun _ _ _ h => h) (Or.inl ⟨by rfl, ?_⟩) ⟨d1,c0,c1,c2,c3,c4,c5,c6⟩ ?_
        rotate_left
        · intro W hS
          try dsimp only at hS
          go_split_ands
          go_simp
          try with_reducible rfl
        try simp only [Act.put, List.getElem_toArray, List.getElem_cons_zero, List.getElem_cons_succ, List.setIfInBounds_toArray, List.set_cons_zero, List.set_cons_succ]
        refine till_take (i := 2) (v := ?_) rfl (by kernel_rfl) (fun _ _ _ h => h) (Or.inl ⟨by rfl, ?_⟩) ⟨d1,c0,c1,c2,c3,c4,c5,c6⟩ ?_
        rotate_left
        · intro W hS
          try dsimp only at hS
          go_split_ands
          go_simp
          try with_reducible rfl
        try simp only [Act.put, List.getElem_toArray, List.getElem_cons_zero, List.getElem_cons_succ, List.setIfInBounds_toArray, List.set_cons_zero, List.set_cons_succ]
        refine till_take (i := 3) (v := ?_) rfl (by kernel_rfl) (fun _ _ _ h => h) (Or.inl ⟨by rfl, ?_⟩) ⟨d1,c0,c1,c2,c3,c4,c5,c6⟩ ?_
        rotate_left
        · intro W hS
          try dsimp only at hS
          go_split_ands
          go_simp
          try with_reducible rfl
        try simp only [Act.put, List.getElem_toArray, List.getElem_cons_zero, List.getElem_cons_succ, List.setIfInBounds_toArray, List.set_cons_zero, List.set_cons_succ]
        refine till_take (i := 4) (v := ?_) rfl (by kernel_rfl) (fun _ _ _ h => h) (Or.inl ⟨by rfl, ?_⟩) ⟨d1,c0,c1,c2,c3,c4,c5,c6⟩ ?_
        rotate_left
        · intro W hS
          try dsimp only at hS
          go_split_ands
          go_simp
          try with_reducible rfl
        try simp only [Act.put, List.getElem_toArray, List.getElem_cons_zero, List.getElem_cons_succ, List.setIfInBounds_toArray, List.set_cons_zero, List.set_cons_succ]
        refine till_take (i := 5) (v := ?_) rfl (by kernel_rfl) (fun _ _ _ h => h) (Or.inl ⟨by rfl, ?_⟩) ⟨d1,c0,c1,c2,c3,c4,c5,c6⟩ ?_
        rotate_left
        · intro W hS
          try dsimp only at hS
          go_split_ands
          go_simp
          try with_reducible rfl
        try simp only [Act.put, List.getElem_toArray, List.getElem_cons_zero, List.getElem_cons_succ, List.setIfInBounds_toArray, List.set_cons_zero, List.set_cons_succ]
        refine till_one (i := 6) (by kernel_rfl) rfl (fun K' hK => ?_)
        go_simp
        have hbn : Below w3.heap.size w3 (w3.alloc (.cells #[.int .i64 f, .bool tn, .slice ua un.length uc, .int .i64 7, .string nm, .slice (some ⟨b, o, none⟩) 1 xc, .slice (some ⟨tb, hto, none⟩) tl tc] 71)).drew := (below_nT w3 (.cells #[.int .i64 f, .bool tn, .slice ua un.length uc, .int .i64 7, .string nm, .slice (some ⟨b, o, none⟩) 1 xc, .slice (some ⟨tb, hto, none⟩) tl tc] 71)).drew
        have HB2 := Lib.hid (HJ3.out.trans (HJ3.out.run.below hbn))
        have BZ := Lib.hid (Mem.Blk.new w3 71 #[.int .i64 f, .bool tn, .slice ua un.length uc, .int .i64 7, .string nm, .slice (some ⟨b, o, none⟩) 1 xc, .slice (some ⟨tb, hto, none⟩) tl tc]).drew
        refine hK _ _ ⟨cell_up d1 hbn, cell_up c0 hbn, cell_up c1 hbn, cell_up c2 hbn, cell_up c3 hbn, cell_up c4 hbn, cell_up c5 hbn, cell_up c6 hbn⟩ ?_
        clear hK K' hbn d1 c0 c1 c2 c3 c4 c5 c6
        generalize (w3.alloc (.cells #[.int .i64 f, .bool tn, .slice ua un.length uc, .int .i64 7, .string nm, .slice (some ⟨b, o, none⟩) 1 xc, .slice (some ⟨tb, hto, none⟩) tl tc] 71)).drew = w5 at *
        generalize w3.heap.size = zz at *
        try simp only [Act.put, List.getElem_toArray, List.getElem_cons_zero, List.getElem_cons_succ, List.setIfInBounds_toArray, List.set_cons_zero, List.set_cons_succ]
        refine till_last (by kernel_rfl) rfl (by kernel_rfl) (fun K' hK => ?_)
        obtain ⟨csl, hGr⟩ := HB2.out.run.sep.at 0 rfl
        have hRp := HB2.out.rep (K := ptK) HPT.out
        refine step_ap infoPt Try.underlying37 rfl (by decide) rfl (.tmp 23) (.tmp 25) rfl rfl hGr.own hGr.room ⟨zz, 0, none⟩ 1 1 [.int .i64 f, .bool tn, .slice ua un.length uc, .int .i64 7, .string nm, .slice (some ⟨b, o, none⟩) 1 xc, .slice (some ⟨tb, hto, none⟩) tl tc] rfl rfl (fun m u hm => by rw [Mem.add0, BZ.out.cell]; simpa using hm) (by simp [Value.oneCell']) (by have := HSM.out; unfold maxLen; omega) (by have := HSM.out; omega) ?_
        intro v' w6 og gg hv'
        obtain ⟨gP, capn, rfl, -, -, -, -⟩ := own_form og (by omega)
        have MB := (HB2.out.run.sep.push 0 rfl hGr (x := ⟨f, tn, un, t⟩) (c := [.int .i64 f, .bool tn, .slice ua un.length uc, .int .i64 7, .string nm, .slice (some ⟨b, o, none⟩) 1 xc, .slice (some ⟨tb, hto, none⟩) tl tc]) (by rw [owns_famR]; exact hRp) og gg hv').blk 2 rfl
        have m4 : w6.cell? ⟨rb, 2, none⟩ = some vP := MB.cell 2
        have m5 : w6.frozen? ⟨rb, 2, none⟩ = false := MB.frozen 2
        have HB3 := Lib.hid (HB2.out.trans (HB2.out.run.pushP hGr (x := ⟨f, tn, un, t⟩) (c := [.int .i64 f, .bool tn, .slice ua un.length uc, .int .i64 7, .string nm, .slice (some ⟨b, o, none⟩) 1 xc, .slice (some ⟨tb, hto, none⟩) tl tc]) hRp og gg hv'))
        clear HB2 hGr og gg hv' BZ hRp MB
        refine hK _ _ ?_
        clear hK K'
        try simp only [Act.put, List.getElem_toArray, List.getElem_cons_zero, List.getElem_cons_succ, List.setIfInBounds_toArray, List.set_cons_zero, List.set_cons_succ]
        refine any_take (i := 8) (v := ?_) rfl (by kernel_rfl) (fun _ _ _ h => h) (Or.inl ⟨by rfl, ?_⟩) ?_
        rotate_left
        · intro W
          go_simp
          try with_reducible rfl
        try simp only [Act.put, List.getElem_toArray, List.getElem_cons_zero, List.getElem_cons_succ, List.setIfInBounds_toArray, List.set_cons_zero, List.set_cons_succ]
        refine any_take (i := 9) (v := ?_) rfl (by kernel_rfl) (fun _ _ _ h => h) (Or.inl ⟨by rfl, ?_⟩) ?_
        rotate_left
        · intro W
          go_simp
          try with_reducible rfl
        try simp only [Act.put, List.getElem_toArray, List.getElem_cons_zero, List.getElem_cons_succ, List.setIfInBounds_toArray, List.set_cons_zero, List.set_cons_succ]
        refine any_one (i := 10) (by kernel_rfl) rfl (fun K' hK => ?_)
        go_simp
        refine hK _ _ ?_
        clear hK K' m4 m5
        refine wpAny_done (by kernel_rfl) ?_ _
        go_wp2_with fail
        go_end0
        exact ⟨rfl, _, vF, by rw [HSP.out]; exact HB3.out⟩
      | true =>
        have HSP : Hid (S9 = acq day fx (t0 t) f tn un s) := HSS.out.trans (waitW_when (HOE.out.trans hop))
        subst hop
        go_upto_region 12 with (fail)
        clear z0 z2 y0 q4 f4
        obtain ⟨c0, c1, c2, c3, c4, c5, c6⟩ := blk7 B3'.out
        have y3 : w3.cell? ⟨g1, 3, none⟩ = some (.slice (some ⟨tb, hto, none⟩) tl tc) := B2'.out.cell 3
        obtain ⟨v0, v1, v2, v3⟩ := HW.out
        replace v0 := HJ3.out.fr.cell v0 HNX.out
        replace v1 := HJ3.out.fr.cell v1 HNX.out
        replace v2 := HJ3.out.fr.cell v2 HNX.out
        replace v3 := HJ3.out.fr.cell v3 HNX.out
        have hlt9 : 0 < tl := HLT.out
        refine wp_region_till (S := fun W => W.cell? ⟨g1, 3, none⟩ = some (.slice (some ⟨tb, hto, none⟩) tl tc) ∧ W.cell? ⟨w.heap.size, 0, none⟩ = some (.int .i64 f) ∧ W.cell? ⟨w.heap.size, 1, none⟩ = some (.bool tn) ∧ W.cell? ⟨w.heap.size, 2, none⟩ = some (.slice ua un.length uc) ∧ W.cell? ⟨w.heap.size, 3, none⟩ = some (.int .i64 7) ∧ W.cell? ⟨w.heap.size, 4, none⟩ = some (.string nm) ∧ W.cell? ⟨w.heap.size, 5, none⟩ = some (.slice (some ⟨b, o, none⟩) 1 xc) ∧ W.cell? ⟨w.heap.size, 6, none⟩ = some (.slice (some ⟨tb, hto, none⟩) tl tc) ∧ W.cell? ⟨tb, hto, none⟩ = some (.int .i64 q1) ∧ W.cell? ⟨tb, hto + 1, none⟩ = some (.string q2) ∧ W.cell? ⟨tb, hto + 2, none⟩ = some (.slice q3 q4' q5) ∧ W.cell? ⟨tb, hto + 3, none⟩ = some (.slice q6 q7 q8)) 7 (by kernel_rfl) ?_
        refine till_take (i := 0) (v := ?_) rfl (by kernel_rfl) (fun _ _ _ h => h) (Or.inl ⟨by rfl, ?_⟩) ⟨y3,c0,c1,c2,c3,c4,c5,c6,v0,v1,v2,v3⟩ ?_
        rotate_left
        · intro W hS
          try dsimp only at hS
          go_split_ands
          go_simp
          try with_reducible rfl
        try simp only [Act.put, List.getElem_toArray, List.getElem_cons_zero, List.getElem_cons_succ, List.setIfInBounds_toArray, List.set_cons_zero, List.set_cons_succ]
        refine till_take (i := 1) (v := ?_) rfl (by kernel_rfl) (fun _ _ _ h => h) (Or.inl ⟨by rfl, ?_⟩) ⟨y3,c0,c1,c2,c3,c4,c5,c6,v0,v1,v2,v3⟩ ?_
        rotate_left
        · intro W hS
          try dsimp only at hS
          go_split_ands
          go_simp
          try with_reducible rfl
        try simp only [Act.put, List.getElem_toArray, List.getElem_cons_zero, List.getElem_cons_succ, List.setIfInBounds_toArray, List.set_cons_zero, List.set_cons_succ]
        refine till_take (i := 2) (v := ?_) rfl (by kernel_rfl) (fun _ _ _ h => h) (Or.inl ⟨by rfl, ?_⟩) ⟨y3,c0,c1,c2,c3,c4,c5,c6,v0,v1,v2,v3⟩ ?_
        rotate_left
        · intro W hS
          try dsimp only at hS
          go_split_ands
          go_simp
          try with_reducible rfl
        try simp only [Act.put, List.getElem_toArray, List.getElem_cons_zero, List.getElem_cons_succ, List.setIfInBounds_toArray, List.set_cons_zero, List.set_cons_succ]
        refine till_take (i := 3) (v := ?_) rfl (by kernel_rfl) (fun _ _ _ h => h) (Or.inl ⟨by rfl, ?_⟩) ⟨y3,c0,c1,c2,c3,c4,c5,c6,v0,v1,v2,v3⟩ ?_
        rotate_left
        · intro W hS
          try dsimp only at hS
          go_split_ands
          go_simp
          try with_reducible rfl
        try simp only [Act.put, List.getElem_toArray, List.getElem_cons_zero, List.getElem_cons_succ, List.setIfInBounds_toArray, List.set_cons_zero, List.set_cons_succ]
        refine till_take (i := 4) (v := ?_) rfl (by kernel_rfl) (fun _ _ _ h => h) (Or.inl ⟨by rfl, ?_⟩) ⟨y3,c0,c1,c2,c3,c4,c5,c6,v0,v1,v2,v3⟩ ?_
        rotate_left
        · intro W hS
          try dsimp only at hS
          go_split_ands
          go_simp
          try with_reducible rfl
        try simp only [Act.put, List.getElem_toArray, List.getElem_cons_zero, List.getElem_cons_succ, List.setIfInBounds_toArray, List.set_cons_zero, List.set_cons_succ]
        refine till_take (i := 5) (v := ?_) rfl (by kernel_rfl) (fun _ _ _ h => h) (Or.inl ⟨by rfl, ?_⟩) ⟨y3,c0,c1,c2,c3,c4,c5,c6,v0,v1,v2,v3⟩ ?_
        rotate_left
        · intro W hS
          try dsimp only at hS
          go_split_ands
          go_simp
          try with_reducible rfl
        try simp only [Act.put, List.getElem_toArray, List.getElem_cons_zero, List.getElem_cons_succ, List.setIfInBounds_toArray, List.set_cons_zero, List.set_cons_succ]
        refine till_one (i := 6) (by kernel_rfl) rfl (fun K' hK => ?_)
        go_simp
        have b0 : Below w3.heap.size w3 w3.drew := (Below.refl w3.heap.size w3).drew
        (with_reducible refine (partWith_any _ _ _ _ _ _ _ _ _ _ _ _ _ _ _ _ _ _ _ _ _ _).mono ?_)
        rintro y w8 ⟨rfl, b1⟩
        have bt := b0.trans (b1.mono b0.size)
        have HJ8 := Lib.hid (HJ3.out.trans (HJ3.out.run.below bt))
        have BP8 := Lib.hid (B3'.out.below bt)
        have BT8 := Lib.hid (B2'.out.below bt)
        refine hK _ _ ⟨cell_up y3 bt, cell_up c0 bt, cell_up c1 bt, cell_up c2 bt, cell_up c3 bt, cell_up c4 bt, cell_up c5 bt, cell_up c6 bt, cell_up v0 bt, cell_up v1 bt, cell_up v2 bt, cell_up v3 bt⟩ ?_
        clear hK K' b0 b1 y3 c0 c1 c2 c3 c4 c5 c6 v0 v1 v2 v3 hlt9
        try simp only [Act.put, List.getElem_toArray, List.getElem_cons_zero, List.getElem_cons_succ, List.setIfInBounds_toArray, List.set_cons_zero, List.set_cons_succ]
        refine till_last (by kernel_rfl) rfl (by kernel_rfl) (fun K' hK => ?_)
        go_simp
        have hic := HIH.out
        have hrt8 : RepT w8 (X3 rb vP vF) (t0 t) [.int .i64 q1, .string q2, .slice q3 q4' q5, .slice q6 q7 q8] := HJ8.out.rep (K := teK) (x := (t0 t)) HRT.out
        have huu8 : SlR exK w8 (X3 rb vP vF) un ua un.length uc := (HJ8.out.slr (K := exK) HU.out)
        unfold AcqC at hic
        (with_reducible refine (hic f tn un _ vP vF ua uc [.int .i64 q1, .string q2, .slice q3 q4' q5, .slice q6 q7 q8] w8 HFI.out HJ8.out.run hrt8 huu8 (by have := HSM.out; have := HKD.out; omega) (by have := HSM.out; have := HKD.out; first | omega | (show s.ps.length + _ ≤ _; omega)) (by have := HSM.out; have := HKD.out; first | omega | (show s.fs.length + _ ≤ _; omega))).mono ?_)
        rintro y w9 ⟨rfl, vP', vF', hR9⟩
        have HR9 := Lib.hid (HJ8.out.trans hR9)
        have HR98 := Lib.hid hR9
        clear hic hrt8 huu8
        refine hK _ _ ?_
        clear hK K' hR9 bt
        try simp only [Act.put, List.getElem_toArray, List.getElem_cons_zero, List.getElem_cons_succ, List.setIfInBounds_toArray, List.set_cons_zero, List.set_cons_succ]
        refine wpAny_done (by kernel_rfl) ?_ _
        go_wp2_with fail
        go_end0
        exact ⟨rfl, vP', vF', by rw [HSP.out]; exact HR9.out⟩
end Go.Proofs.Ytmiinmndbkdjbaa
