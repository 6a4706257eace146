/- A part of the proof: LvG, one behind another. -/
import Derived.Test.YtmiinmndbkdjbaaMAA
import Derived.Test.YtmiinmndbkdjbaaMAB
import Derived.Test.YtmiinmndbkdjbaaMAC
import Derived.Test.YtmiinmndbkdjbaaMAD
import Derived.Test.YtmiinmndbkdjbaaMAE
import Derived.Test.YtmiinmndbkdjbaaMAF
import Derived.Test.YtmiinmndbkdjbaaMAG
import Derived.Test.YtmiinmndbkdjbaaMAH
import Derived.Test.YtmiinmndbkdjbaaMAI
import Derived.Test.YtmiinmndbkdjbaaMAJ
import Derived.Test.YtmiinmndbkdjbaaMAK
import Derived.Test.YtmiinmndbkdjbaaMAL
import Derived.Test.YtmiinmndbkdjbaaMAM
import Derived.Test.YtmiinmndbkdjbaaMAN
import Derived.Test.YtmiinmndbkdjbaaMAO
import Derived.Test.YtmiinmndbkdjbaaMAQ
import Derived.Test.YtmiinmndbkdjbaaMAR
import Derived.Test.YtmiinmndbkdjbaaMAS
import Derived.Test.YtmiinmndbkdjbaaMAT
import Derived.Test.YtmiinmndbkdjbaaMAU
import Derived.Test.YtmiinmndbkdjbaaMAV
import Derived.Test.YtmiinmndbkdjbaaMAW
import Derived.Test.YtmiinmndbkdjbaaMAX
/- LifeGives, walked. -/
namespace Go.Proofs.Ytmiinmndbkdjbaa
set_option linter.unusedVariables false
set_option linter.unusedSimpArgs false
open Go.RowKit
/-- What comes is told, or that it is beyond. -/
def OutB (w : World) (s : RS) (x : Ending) : Prop := ∃ pa pn pc qa qn qc, x = .returned (.tuple #[.slice pa pn pc, .slice qa qn qc, .int .i64 (if s.bad = true then 2 else 0)]) ∧ (s.bad = false → pn = s.ps.length ∧ qn = s.fs.length ∧ SlR ptK w [] s.ps pa pn pc ∧ SlR flK w [] s.fs qa qn qc)
theorem OutB.of_bad {w : World} {s : RS} (hb : s.bad = true) : OutB w s (OutE 2) := ⟨none, 0, 0, none, 0, 0, by rw [if_pos hb]; rfl, fun h => by rw [hb] at h; cases h⟩
theorem OutB.of_ok {w : World} {s : RS} {x : Ending} (hb : s.bad = false) (h : OutS w s x) : OutB w s x := by
  obtain ⟨pa, pc, qa, qc, h1, h2, h3⟩ := h
  exact ⟨pa, _, pc, qa, _, qc, by rw [h1, if_neg (by rw [hb]; simp)], fun _ => ⟨rfl, rfl, h2, h3⟩⟩
theorem start_both (day : Int) (fx : List Fx) (fa : Option Addr) (fl fc : Nat) (t : Te) (cs : List Value) (w : World) (hd : I64 day) (hS : SlR fxK w [] fx fa fl fc) (hT : RepT w [] t cs) (hf : fitC t = 0) :
    Calls Try.prog 9 #[.agg cs.toArray, .agg #[.int .i64 day, .slice fa fl fc]] w fun x w' => OutB w' (acq day fx t 1 false [] s0) x ∧ Below w.heap.size w w' := by
  cases hb : (acq day fx t 1 false [] s0).bad with
  | true => exact (start_bad day fx fa fl fc t cs w hd hS hT hf hb).mono fun x w' ⟨h1, h2⟩ => ⟨by rw [h1]; exact .of_bad hb, h2⟩
  | false => exact (start_ok day fx fa fl fc t cs w hd hS hT hf hb).mono fun x w' ⟨h1, h2⟩ => ⟨.of_ok hb h1, h2⟩
theorem step_both (day : Int) (fx : List Fx) (fa : Option Addr) (fl fc : Nat) (l : List Prt) (a : Option Addr) (len cap : Nat) (w : World) (hd : I64 day) (hF : SlR fxK w [] fx fa fl fc) (hS : SlR ptK w [] l a len cap) (hk : Shal l) (hlen : len ≤ 1000) (hr : rightP l = true) :
    Calls Try.prog 13 #[.slice a len cap, .agg #[.int .i64 day, .slice fa fl fc]] w fun x w' => OutB w' (stepL day fx l s0) x ∧ Below w.heap.size w w' := by
  cases hb : (stepL day fx l s0).bad with
  | true => exact (step_bad day fx fa fl fc l a len cap w hd hF hS hk hlen hr hb).mono fun x w' ⟨h1, h2⟩ => ⟨by rw [h1]; exact .of_bad hb, h2⟩
  | false => exact (step_ok day fx fa fl fc l a len cap w hd hF hS hk hlen hr hb).mono fun x w' ⟨h1, h2⟩ => ⟨.of_ok hb h1, h2⟩
def gvT (t : Te) : Te := .mk 3 ⟨#[]⟩ [] [t]
theorem acq_gv (day : Int) (fx : List Fx) {t : Te} (hb : bT t = true) (hr : rT (gvT t) = true) : acq day fx (gvT t) 1 false [] s0 = acq day fx t (-1) (!false) [] s0 := by
  rw [acq3 (rT_get hr).2.2 rfl rfl]
  have e : fitI (-1) = some (-1) := by unfold fitI; rw [if_pos (by decide)]
  rw [e]; rfl
theorem opp_start {day : Int} {fx : List Fx} {t : Te} (hb : bT t = true) (hr : rT (gvT t) = true) (h : (acq day fx t 1 false [] s0).bad = false) (h' : (acq day fx (gvT t) 1 false [] s0).bad = false) : Opp (acq day fx t 1 false [] s0) (acq day fx (gvT t) 1 false [] s0) := by
  rw [acq_gv day fx hb hr] at h' ⊢
  exact acq_opp t.rk t (Nat.le_refl _) hb 1 false [] s0 s0 ⟨rfl, rfl⟩ h h'
theorem prt_neg {p : Prt} (h : PrtOk p) : PrtOk (negP p) := ⟨h.op, h.right, h.fit, h.til, h.len⟩
theorem neg_ok {l : List Prt} (h : ∀ p ∈ l, PrtOk p) : ∀ p ∈ l.map negP, PrtOk p := fun p hp => by
  obtain ⟨q, hq, rfl⟩ := List.mem_map.1 hp
  exact prt_neg (h q hq)
theorem ndL_neg (l : List Prt) : ndL (l.map negP) = ndL l := by
  induction l with
  | nil => rfl
  | cons p t ih => rw [List.map_cons, ndL, ndL, ih]; rfl
set_option maxRecDepth 100000 in
set_option maxHeartbeats 16000000 in
theorem lifeGives_any (a : Option Addr) (len cap : Nat) (lfs : List Lf) (a' : Option Addr) (len' cap' : Nat) (kns : List Kn) (day1 : Int) (f1 : Option Addr) (l1 c1 : Nat) (fx1 : List Fx) (day2 : Int) (f2 : Option Addr) (l2 c2 : Nat) (fx2 : List Fx) (W : World)
    (h1 : SlR lfK W [] lfs a len cap) (h2 : SlR knK W [] kns a' len' cap') (h3 : SlR fxK W [] fx1 f1 l1 c1) (d1 : I64 day1) (h4 : SlR fxK W [] fx2 f2 l2 c2) (d2 : I64 day2) :
    Calls Try.prog 4 #[.slice a len cap, .slice a' len' cap', .agg #[.int .i64 day1, .slice f1 l1 c1], .agg #[.int .i64 day2, .slice f2 l2 c2]] W fun x w' => x = .returned (.bool true) ∧ Below W.heap.size W w' := by
  have hb1 := below_nT W (.cells #[.int .i64 day1, .slice f1 l1 c1] 26)
  have hb2 := below_nT (W.alloc (.cells #[.int .i64 day1, .slice f1 l1 c1] 26)) (.cells #[.int .i64 day2, .slice f2 l2 c2] 26)
  have HB0 := Lib.hid (hb1.trans (hb2.mono hb1.size))
  have E1 := Lib.hid ((Mem.Blk.new W 26 #[.int .i64 day1, .slice f1 l1 c1]).below hb2)
  have e2' := Mem.Blk.new (W.alloc (.cells #[.int .i64 day1, .slice f1 l1 c1] 26)) 26 #[.int .i64 day2, .slice f2 l2 c2]
  rw [show (W.alloc (.cells #[.int .i64 day1, .slice f1 l1 c1] 26)).heap.size = W.heap.size + 1 by simp] at e2'
  have E2 := Lib.hid e2'
  have H1 := Lib.hid h1
  have H2 := Lib.hid h2
  have H3 := Lib.hid h3
  have H4 := Lib.hid h4
  have D1 := Lib.hid d1
  have D2 := Lib.hid d2
  clear h1 h2 h3 h4 d1 d2 hb1 hb2 e2'
  go_enter Try.func4, Try.ntmps4
  go_upto_region 1 with (fail)
  generalize (W.alloc (.cells #[.int .i64 day1, .slice f1 l1 c1] 26)).alloc (.cells #[.int .i64 day2, .slice f2 l2 c2] 26) = w0 at *
  obtain ⟨m0, m1, -, -⟩ := E1.out.two
  obtain ⟨n0, n1, -, -⟩ := E2.out.two
  go_wp2_with fail
  go_at_call 5
  (with_reducible refine (great23_any day1 a a' f1 len cap len' cap' l1 c1 w0).mono ?_)
  rintro y w1 ⟨rfl, b1⟩
  have HB1 := Lib.hid (HB0.out.trans (b1.mono HB0.out.size))
  have E11 := Lib.hid (E1.out.below b1)
  have E21 := Lib.hid (E2.out.below b1)
  clear m0 m1 n0 n1 b1 HB0 E1 E2
  obtain ⟨m0, m1, -, -⟩ := E11.out.two
  obtain ⟨n0, n1, -, -⟩ := E21.out.two
  by_cases hg : 60 < len ∨ 60 < len' ∨ 60 < l1
  · rw [decide_eq_true hg]
    clear hg
    go_wp2_with fail
    go_at_call 6
    (with_reducible refine (awake23_any w1).mono ?_)
    rintro y w9 ⟨rfl, b9⟩
    have HB9 := Lib.hid (HB1.out.trans (b9.mono HB1.out.size))
    clear b9
    go_wp2_with fail
    go_ret
    exact ⟨rfl, HB9.out⟩
  rw [decide_eq_false hg]
  have HG := Lib.hid hg
  clear hg
  by_cases hg2 : 60 < l2
  · have hg3 : (60 : Int) < (l2 : Int) := by omega
    clear hg2
    go_wp2_with fail
    go_at_call 6
    (with_reducible refine (awake23_any w1).mono ?_)
    rintro y w9 ⟨rfl, b9⟩
    have HB9 := Lib.hid (HB1.out.trans (b9.mono HB1.out.size))
    clear b9
    go_wp2_with fail
    go_ret
    exact ⟨rfl, HB9.out⟩
  have HG2 := Lib.hid hg2
  have hg3 : ¬ (60 : Int) < (l2 : Int) := by omega
  clear hg2
  go_wp2_with fail
  go_at_call 7
  (with_reducible refine (last23_any lfs kns a a' len cap len' cap' w1 (H1.out.kept (Kept.of_below HB1.out [])) (H2.out.kept (Kept.of_below HB1.out []))).mono ?_)
  rintro y w2 ⟨hy, b2⟩
  have HB2 := Lib.hid (HB1.out.trans (b2.mono HB1.out.size))
  have E12 := Lib.hid (E11.out.below b2)
  have E22 := Lib.hid (E21.out.below b2)
  clear m0 m1 n0 n1 b2 HB1 E11 E21 hg3
  rcases hy with ⟨q1, q2, q3, q4, q5, q6, q7, q8, rfl⟩ | ⟨t, cs, rfl, hT, hrt, hft⟩
  · have bn := below_nT w2 (.cells #[.int .i64 q1, .string q2, .slice q3 q4 q5, .slice q6 q7 q8] 32)
    have HB3 := Lib.hid (HB2.out.trans (bn.mono HB2.out.size))
    clear bn
    have BT3 := Lib.hid (Mem.Blk.new w2 32 #[.int .i64 q1, .string q2, .slice q3 q4 q5, .slice q6 q7 q8])
    go_upto_region 4 with (fail)
    generalize w2.alloc (.cells #[.int .i64 q1, .string q2, .slice q3 q4 q5, .slice q6 q7 q8] 32) = w3 at *
    obtain ⟨k0, k1, k2, k3, -, -, -, -⟩ := blk4 BT3.out
    have hb4 := below_nT w3 (.cells #[.int .i64 q1, .string q2, .slice q3 q4 q5, .slice q6 q7 q8] 32)
    have hb5 := below_nT (w3.alloc (.cells #[.int .i64 q1, .string q2, .slice q3 q4 q5, .slice q6 q7 q8] 32)) (.cells #[.int .i64 3, .string ⟨#[]⟩, .slice none 0 0, .slice (some ⟨w3.heap.size, 0, none⟩) 1 1] 32)
    have HB5 := Lib.hid (HB3.out.trans ((hb4.trans (hb5.mono hb4.size)).mono HB3.out.size))
    clear hb4 hb5
    go_upto_region 5 with (fail)
    generalize (w3.alloc (.cells #[.int .i64 q1, .string q2, .slice q3 q4 q5, .slice q6 q7 q8] 32)).alloc (.cells #[.int .i64 3, .string ⟨#[]⟩, .slice none 0 0, .slice (some ⟨w3.heap.size, 0, none⟩) 1 1] 32) = w5 at *
    clear k0 k1 k2 k3
    go_wp2_with fail
    go_at_call 6
    (with_reducible refine (awake23_any w5).mono ?_)
    rintro y w9 ⟨rfl, b9⟩
    have HB9 := Lib.hid (HB5.out.trans (b9.mono HB5.out.size))
    clear b9
    go_wp2_with fail
    go_ret
    exact ⟨rfl, HB9.out⟩
  obtain ⟨q1, q2, q3, q4, q5, q6, q7, q8, q9, q10, -, rfl, -, -, -, -⟩ := hT.inv
  have HRT := Lib.hid hrt
  have HFT := Lib.hid hft
  have bn := below_nT w2 (.cells #[.int .i64 q1, .string q2, .slice q5 q6 q7, .slice q8 q9 q10] 32)
  have HB3 := Lib.hid (HB2.out.trans (bn.mono HB2.out.size))
  have BT3 := Lib.hid (Mem.Blk.new w2 32 #[.int .i64 q1, .string q2, .slice q5 q6 q7, .slice q8 q9 q10])
  have HT3 := Lib.hid (hT.kept (Kept.of_below bn []))
  have E13 := Lib.hid (E12.out.below bn)
  have E23 := Lib.hid (E22.out.below bn)
  clear hT hrt hft bn HB2 E12 E22
  go_upto_region 4 with (fail)
  generalize w2.alloc (.cells #[.int .i64 q1, .string q2, .slice q5 q6 q7, .slice q8 q9 q10] 32) = w3 at *
  generalize w2.heap.size = tb at *
  obtain ⟨k0, k1, k2, k3, -, -, -, -⟩ := blk4 BT3.out
  have hb4 := below_nT w3 (.cells #[.int .i64 q1, .string q2, .slice q5 q6 q7, .slice q8 q9 q10] 32)
  have hz4 : (w3.alloc (.cells #[.int .i64 q1, .string q2, .slice q5 q6 q7, .slice q8 q9 q10] 32)).heap.size = w3.heap.size + 1 := by simp
  have hb5 := below_nT (w3.alloc (.cells #[.int .i64 q1, .string q2, .slice q5 q6 q7, .slice q8 q9 q10] 32)) (.cells #[.int .i64 3, .string ⟨#[]⟩, .slice none 0 0, .slice (some ⟨w3.heap.size, 0, none⟩) 1 1] 32)
  have hs5 := SlR.lit1 (K := teK) (X := []) (x := t) ((Mem.Blk.new w3 32 #[.int .i64 q1, .string q2, .slice q5 q6 q7, .slice q8 q9 q10]).below hb5) (by simp) (HT3.out.kept (Kept.of_below (hb4.trans (hb5.mono hb4.size)) []))
  have HG5 : Hid (RepT ((w3.alloc (.cells #[.int .i64 q1, .string q2, .slice q5 q6 q7, .slice q8 q9 q10] 32)).alloc (.cells #[.int .i64 3, .string ⟨#[]⟩, .slice none 0 0, .slice (some ⟨w3.heap.size, 0, none⟩) 1 1] 32)) [] (gvT t) [.int .i64 3, .string ⟨#[]⟩, .slice none 0 0, .slice (some ⟨w3.heap.size, 0, none⟩) 1 1]) :=
    RepT.mk' (by unfold I64; omega) (by decide) (SlE.nil _ _) hs5
  have bg5 := Mem.Blk.new (w3.alloc (.cells #[.int .i64 q1, .string q2, .slice q5 q6 q7, .slice q8 q9 q10] 32)) 32 #[.int .i64 3, .string ⟨#[]⟩, .slice none 0 0, .slice (some ⟨w3.heap.size, 0, none⟩) 1 1]
  rw [hz4] at bg5
  have BG5 := Lib.hid bg5
  have b35 := hb4.trans (hb5.mono hb4.size)
  have HB5 := Lib.hid (HB3.out.trans (b35.mono HB3.out.size))
  have BT5 := Lib.hid (BT3.out.below b35)
  have HT5 := Lib.hid (HT3.out.kept (Kept.of_below b35 []))
  have E15 := Lib.hid (E13.out.below b35)
  have E25 := Lib.hid (E23.out.below b35)
  clear hb4 hz4 hb5 hs5 bg5 b35 HB3 BT3 HT3 E13 E23
  go_upto_region 5 with (fail)
  generalize (w3.alloc (.cells #[.int .i64 q1, .string q2, .slice q5 q6 q7, .slice q8 q9 q10] 32)).alloc (.cells #[.int .i64 3, .string ⟨#[]⟩, .slice none 0 0, .slice (some ⟨w3.heap.size, 0, none⟩) 1 1] 32) = w5 at *
  clear k0 k1 k2 k3
  obtain ⟨zz, hzz⟩ : ∃ z, z = w3.heap.size := ⟨_, rfl⟩
  rw [← hzz] at HG5 BG5 ⊢
  clear hzz
  have hbt := (rT_get HRT.out).2.2
  have hgk : (gvT t).rk ≤ 1000 := by
    have h := (rT_get HRT.out).2.1
    have e : (gvT t).rk = 1 + max (Ex.rk.go []) (max t.rk 0) := rfl
    have e2 : Ex.rk.go [] = 0 := rfl
    omega
  have HRG := Lib.hid (right_any (gvT t) _ w5 HG5.out hgk)
  have HFG : Hid (fitT (gvT t) = true) := by
    have e : fitT (gvT t) = (fitT t && true) := rfl
    show _ = _
    rw [e, HFT.out]; rfl
  have HBT := Lib.hid hbt
  clear hbt hgk
  obtain ⟨g0, g1, g2, g3, -, -, -, -⟩ := blk4 BG5.out
  go_wp2_with fail
  go_at_call 14
  (with_reducible refine HRG.out.mono ?_)
  rintro y w6 ⟨rfl, b6⟩
  have HB6 := Lib.hid (HB5.out.trans (b6.mono HB5.out.size))
  have BT6 := Lib.hid (BT5.out.below b6)
  have BG6 := Lib.hid (BG5.out.below b6)
  have HT6 := Lib.hid (HT5.out.kept (Kept.of_below b6 []))
  have HG6 := Lib.hid (HG5.out.kept (Kept.of_below b6 []))
  have E16 := Lib.hid (E15.out.below b6)
  have E26 := Lib.hid (E25.out.below b6)
  clear g0 g1 g2 g3 b6 HB5 BT5 BG5 HT5 HG5 E15 E25 HRG
  cases hrg : rT (gvT t) with
  | false =>
    clear hrg
    go_wp2_with fail
    go_at_call 6
    (with_reducible refine (awake23_any w6).mono ?_)
    rintro y w9 ⟨rfl, b9⟩
    have HB9 := Lib.hid (HB6.out.trans (b9.mono HB6.out.size))
    clear b9
    go_wp2_with fail
    go_ret
    exact ⟨rfl, HB9.out⟩
  | true =>
    have HRG := Lib.hid hrg
    clear hrg
    go_upto_region 7 with (fail)
    obtain ⟨k0, k1, k2, k3, -, -, -, -⟩ := blk4 BT6.out
    obtain ⟨m0, m1, -, -⟩ := E16.out.two
    refine wp_region_till (S := fun W' => W'.cell? ⟨tb, 0, none⟩ = some (.int .i64 q1) ∧ W'.cell? ⟨tb, 1, none⟩ = some (.string q2) ∧ W'.cell? ⟨tb, 2, none⟩ = some (.slice q5 q6 q7) ∧ W'.cell? ⟨tb, 3, none⟩ = some (.slice q8 q9 q10) ∧ W'.cell? ⟨W.heap.size, 0, none⟩ = some (.int .i64 day1) ∧ W'.cell? ⟨W.heap.size, 1, none⟩ = some (.slice f1 l1 c1)) 3 (by kernel_rfl) ?_
    refine till_take (i := 0) (v := ?_) rfl (by kernel_rfl) (fun _ _ _ h => h) (Or.inl ⟨by rfl, ?_⟩) ⟨k0,k1,k2,k3,m0,m1⟩ ?_
    rotate_left
    · intro W hS
      try dsimp only at hS
      go_split_ands
      go_simp
      try with_reducible rfl
    try simp only [Act.put, List.getElem_toArray, List.getElem_cons_zero, List.getElem_cons_succ, List.setIfInBounds_toArray, List.set_cons_zero, List.set_cons_succ]
    refine till_take (i := 1) (v := ?_) rfl (by kernel_rfl) (fun _ _ _ h => h) (Or.inl ⟨by rfl, ?_⟩) ⟨k0,k1,k2,k3,m0,m1⟩ ?_
    rotate_left
    · intro W hS
      try dsimp only at hS
      go_split_ands
      go_simp
      try with_reducible rfl
    try simp only [Act.put, List.getElem_toArray, List.getElem_cons_zero, List.getElem_cons_succ, List.setIfInBounds_toArray, List.set_cons_zero, List.set_cons_succ]
    refine till_one (i := 2) (by kernel_rfl) rfl (fun K' hK => ?_)
    go_simp
    have b0 : Below w6.heap.size w6 w6.drew := (Below.refl w6.heap.size w6).drew
    go_at_call 10
    (with_reducible refine (env_any day1 fx1 f1 l1 c1 _ (H3.out.kept (Kept.of_below (HB6.out.trans (b0.mono HB6.out.size)) [])) (by have := HG.out; omega)).mono ?_)
    rintro y w5 ⟨⟨ea, ec, rfl, hE⟩, b5⟩
    have bt5 : Below w6.heap.size w6 w5 := b0.trans (b5.mono b0.size)
    have HE5 := Lib.hid hE
    have HB5 := Lib.hid (HB6.out.trans (bt5.mono HB6.out.size))
    have HT5 := Lib.hid (HT6.out.kept (Kept.of_below bt5 []))
    refine hK _ _ ⟨cell_up k0 bt5, cell_up k1 bt5, cell_up k2 bt5, cell_up k3 bt5, cell_up m0 bt5, cell_up m1 bt5⟩ ?_
    clear hK K' k0 k1 k2 k3 m0 m1 hE b0 b5
    try simp only [Act.put, List.getElem_toArray, List.getElem_cons_zero, List.getElem_cons_succ, List.setIfInBounds_toArray, List.set_cons_zero, List.set_cons_succ]
    refine till_last (by kernel_rfl) rfl (by kernel_rfl) (fun K' hK => ?_)
    go_simp
    go_at_call 9
    (with_reducible refine (start_both day1 fx1 ea fx1.length ec t _ w5 D1.out HE5.out HT5.out (fitC_of HRT.out HFT.out)).mono ?_)
    rintro y w7 ⟨⟨pa, pn, pc, qa, qn, qc, rfl, hO1⟩, b7⟩
    obtain ⟨eA, hEA⟩ : ∃ e : Int, e = if (acq day1 fx1 t 1 false [] s0).bad = true then 2 else 0 := ⟨_, rfl⟩
    rw [← hEA]
    have HEA := Lib.hid hEA
    have HO1 := Lib.hid hO1
    have b67 := bt5.trans (b7.mono bt5.size)
    have HB7 := Lib.hid (HB6.out.trans (b67.mono HB6.out.size))
    have BG7 := Lib.hid (BG6.out.below b67)
    have HG7 := Lib.hid (HG6.out.kept (Kept.of_below b67 []))
    have E17 := Lib.hid (E16.out.below b67)
    have E27 := Lib.hid (E26.out.below b67)
    refine hK _ _ ?_
    clear hEA hK K' hO1 b67 b7 bt5 HB6 BT6 BG6 HT6 HG6 E16 E26 HE5 HT5 HB5
    try simp only [Act.put, List.getElem_toArray, List.getElem_cons_zero, List.getElem_cons_succ, List.setIfInBounds_toArray, List.set_cons_zero, List.set_cons_succ]
    refine any_take (i := 4) (v := ?_) rfl (by kernel_rfl) (fun _ _ _ h => h) (Or.inl ⟨by rfl, ?_⟩) ?_
    rotate_left
    · intro W
      go_simp
      try with_reducible rfl
    try simp only [Act.put, List.getElem_toArray, List.getElem_cons_zero, List.getElem_cons_succ, List.setIfInBounds_toArray, List.set_cons_zero, List.set_cons_succ]
    refine any_take (i := 5) (v := ?_) rfl (by kernel_rfl) (fun _ _ _ h => h) (Or.inl ⟨by rfl, ?_⟩) ?_
    rotate_left
    · intro W
      go_simp
      try with_reducible rfl
    try simp only [Act.put, List.getElem_toArray, List.getElem_cons_zero, List.getElem_cons_succ, List.setIfInBounds_toArray, List.set_cons_zero, List.set_cons_succ]
    refine any_take (i := 6) (v := ?_) rfl (by kernel_rfl) (fun _ _ _ h => h) (Or.inl ⟨by rfl, ?_⟩) ?_
    rotate_left
    · intro W
      go_simp
      try with_reducible rfl
    try simp only [Act.put, List.getElem_toArray, List.getElem_cons_zero, List.getElem_cons_succ, List.setIfInBounds_toArray, List.set_cons_zero, List.set_cons_succ]
    refine any_take (i := 7) (v := ?_) rfl (by kernel_rfl) (fun _ _ _ h => h) (Or.inl ⟨by rfl, ?_⟩) ?_
    rotate_left
    · intro W
      go_simp
      try with_reducible rfl
    try simp only [Act.put, List.getElem_toArray, List.getElem_cons_zero, List.getElem_cons_succ, List.setIfInBounds_toArray, List.set_cons_zero, List.set_cons_succ]
    refine any_take (i := 8) (v := ?_) rfl (by kernel_rfl) (fun _ _ _ h => h) (Or.inl ⟨by rfl, ?_⟩) ?_
    rotate_left
    · intro W
      go_simp
      try with_reducible rfl
    try simp only [Act.put, List.getElem_toArray, List.getElem_cons_zero, List.getElem_cons_succ, List.setIfInBounds_toArray, List.set_cons_zero, List.set_cons_succ]
    refine any_take (i := 9) (v := ?_) rfl (by kernel_rfl) (fun _ _ _ h => h) (Or.inl ⟨by rfl, ?_⟩) ?_
    rotate_left
    · intro W
      go_simp
      try with_reducible rfl
    try simp only [Act.put, List.getElem_toArray, List.getElem_cons_zero, List.getElem_cons_succ, List.setIfInBounds_toArray, List.set_cons_zero, List.set_cons_succ]
    refine any_take (i := 10) (v := ?_) rfl (by kernel_rfl) (fun _ _ _ h => h) (Or.inl ⟨by rfl, ?_⟩) ?_
    rotate_left
    · intro W
      go_simp
      try with_reducible rfl
    try simp only [Act.put, List.getElem_toArray, List.getElem_cons_zero, List.getElem_cons_succ, List.setIfInBounds_toArray, List.set_cons_zero, List.set_cons_succ]
    refine wpAny_done (by kernel_rfl) ?_ _
    obtain ⟨v1, hv1⟩ : ∃ v, v = w5 := ⟨_, rfl⟩
    clear hv1
    go_upto_region 8 with (fail)
    obtain ⟨k0, k1, k2, k3, -, -, -, -⟩ := blk4 BG7.out
    obtain ⟨m0, m1, -, -⟩ := E17.out.two
    refine wp_region_till (S := fun W' => W'.cell? ⟨zz + 1, 0, none⟩ = some (.int .i64 3) ∧ W'.cell? ⟨zz + 1, 1, none⟩ = some (.string ⟨#[]⟩) ∧ W'.cell? ⟨zz + 1, 2, none⟩ = some (.slice none 0 0) ∧ W'.cell? ⟨zz + 1, 3, none⟩ = some (.slice (some ⟨zz, 0, none⟩) 1 1) ∧ W'.cell? ⟨W.heap.size, 0, none⟩ = some (.int .i64 day1) ∧ W'.cell? ⟨W.heap.size, 1, none⟩ = some (.slice f1 l1 c1)) 3 (by kernel_rfl) ?_
    refine till_take (i := 0) (v := ?_) rfl (by kernel_rfl) (fun _ _ _ h => h) (Or.inl ⟨by rfl, ?_⟩) ⟨k0,k1,k2,k3,m0,m1⟩ ?_
    rotate_left
    · intro W hS
      try dsimp only at hS
      go_split_ands
      go_simp
      try with_reducible rfl
    try simp only [Act.put, List.getElem_toArray, List.getElem_cons_zero, List.getElem_cons_succ, List.setIfInBounds_toArray, List.set_cons_zero, List.set_cons_succ]
    refine till_take (i := 1) (v := ?_) rfl (by kernel_rfl) (fun _ _ _ h => h) (Or.inl ⟨by rfl, ?_⟩) ⟨k0,k1,k2,k3,m0,m1⟩ ?_
    rotate_left
    · intro W hS
      try dsimp only at hS
      go_split_ands
      go_simp
      try with_reducible rfl
    try simp only [Act.put, List.getElem_toArray, List.getElem_cons_zero, List.getElem_cons_succ, List.setIfInBounds_toArray, List.set_cons_zero, List.set_cons_succ]
    refine till_one (i := 2) (by kernel_rfl) rfl (fun K' hK => ?_)
    go_simp
    have b0 : Below w7.heap.size w7 w7.drew := (Below.refl w7.heap.size w7).drew
    go_at_call 10
    (with_reducible refine (env_any day1 fx1 f1 l1 c1 _ (H3.out.kept (Kept.of_below (HB7.out.trans (b0.mono HB7.out.size)) [])) (by have := HG.out; omega)).mono ?_)
    rintro y w5 ⟨⟨ea, ec, rfl, hE⟩, b5⟩
    have bt5 : Below w7.heap.size w7 w5 := b0.trans (b5.mono b0.size)
    have HE5 := Lib.hid hE
    have HB5 := Lib.hid (HB7.out.trans (bt5.mono HB7.out.size))
    have HT5 := Lib.hid (HG7.out.kept (Kept.of_below bt5 []))
    refine hK _ _ ⟨cell_up k0 bt5, cell_up k1 bt5, cell_up k2 bt5, cell_up k3 bt5, cell_up m0 bt5, cell_up m1 bt5⟩ ?_
    clear hK K' k0 k1 k2 k3 m0 m1 hE b0 b5
    try simp only [Act.put, List.getElem_toArray, List.getElem_cons_zero, List.getElem_cons_succ, List.setIfInBounds_toArray, List.set_cons_zero, List.set_cons_succ]
    refine till_last (by kernel_rfl) rfl (by kernel_rfl) (fun K' hK => ?_)
    go_simp
    go_at_call 9
    (with_reducible refine (start_both day1 fx1 ea fx1.length ec (gvT t) _ w5 D1.out HE5.out HT5.out (fitC_of HRG.out HFG.out)).mono ?_)
    rintro y w8 ⟨⟨ra, rn, rc, ua, un, uc, rfl, hO2⟩, b8⟩
    obtain ⟨eB, hEB⟩ : ∃ e : Int, e = if (acq day1 fx1 (gvT t) 1 false [] s0).bad = true then 2 else 0 := ⟨_, rfl⟩
    rw [← hEB]
    have HEB := Lib.hid hEB
    have HO2 := Lib.hid hO2
    have b78 := bt5.trans (b8.mono bt5.size)
    have HW78 := Lib.hid b78
    have HB8 := Lib.hid (HB7.out.trans (b78.mono HB7.out.size))
    have E28 := Lib.hid (E27.out.below b78)
    have H48 := Lib.hid (H4.out.kept (Kept.of_below HB8.out []))
    have HPL := Lib.hid (start_rest (day := day1) (fx := fx1) HRT.out HFT.out)
    have HOP := Lib.hid (opp_start (day := day1) (fx := fx1) HBT.out HRG.out)
    obtain ⟨SA, hSA⟩ : ∃ S, S = acq day1 fx1 t 1 false [] s0 := ⟨_, rfl⟩
    obtain ⟨SB, hSB⟩ : ∃ S, S = acq day1 fx1 (gvT t) 1 false [] s0 := ⟨_, rfl⟩
    rw [← hSA] at HO1 HPL HOP HEA
    rw [← hSB] at HO2 HOP HEB
    refine hK _ _ ?_
    clear hEB hK K' hO2 b78 b8 bt5 HB7 BG7 HG7 E17 E27 HE5 HT5 HB5 hSA hSB
    try simp only [Act.put, List.getElem_toArray, List.getElem_cons_zero, List.getElem_cons_succ, List.setIfInBounds_toArray, List.set_cons_zero, List.set_cons_succ]
    refine any_take (i := 4) (v := ?_) rfl (by kernel_rfl) (fun _ _ _ h => h) (Or.inl ⟨by rfl, ?_⟩) ?_
    rotate_left
    · intro W
      go_simp
      try with_reducible rfl
    try simp only [Act.put, List.getElem_toArray, List.getElem_cons_zero, List.getElem_cons_succ, List.setIfInBounds_toArray, List.set_cons_zero, List.set_cons_succ]
    refine any_take (i := 5) (v := ?_) rfl (by kernel_rfl) (fun _ _ _ h => h) (Or.inl ⟨by rfl, ?_⟩) ?_
    rotate_left
    · intro W
      go_simp
      try with_reducible rfl
    try simp only [Act.put, List.getElem_toArray, List.getElem_cons_zero, List.getElem_cons_succ, List.setIfInBounds_toArray, List.set_cons_zero, List.set_cons_succ]
    refine any_take (i := 6) (v := ?_) rfl (by kernel_rfl) (fun _ _ _ h => h) (Or.inl ⟨by rfl, ?_⟩) ?_
    rotate_left
    · intro W
      go_simp
      try with_reducible rfl
    try simp only [Act.put, List.getElem_toArray, List.getElem_cons_zero, List.getElem_cons_succ, List.setIfInBounds_toArray, List.set_cons_zero, List.set_cons_succ]
    refine any_take (i := 7) (v := ?_) rfl (by kernel_rfl) (fun _ _ _ h => h) (Or.inl ⟨by rfl, ?_⟩) ?_
    rotate_left
    · intro W
      go_simp
      try with_reducible rfl
    try simp only [Act.put, List.getElem_toArray, List.getElem_cons_zero, List.getElem_cons_succ, List.setIfInBounds_toArray, List.set_cons_zero, List.set_cons_succ]
    refine any_take (i := 8) (v := ?_) rfl (by kernel_rfl) (fun _ _ _ h => h) (Or.inl ⟨by rfl, ?_⟩) ?_
    rotate_left
    · intro W
      go_simp
      try with_reducible rfl
    try simp only [Act.put, List.getElem_toArray, List.getElem_cons_zero, List.getElem_cons_succ, List.setIfInBounds_toArray, List.set_cons_zero, List.set_cons_succ]
    refine any_take (i := 9) (v := ?_) rfl (by kernel_rfl) (fun _ _ _ h => h) (Or.inl ⟨by rfl, ?_⟩) ?_
    rotate_left
    · intro W
      go_simp
      try with_reducible rfl
    try simp only [Act.put, List.getElem_toArray, List.getElem_cons_zero, List.getElem_cons_succ, List.setIfInBounds_toArray, List.set_cons_zero, List.set_cons_succ]
    refine any_take (i := 10) (v := ?_) rfl (by kernel_rfl) (fun _ _ _ h => h) (Or.inl ⟨by rfl, ?_⟩) ?_
    rotate_left
    · intro W
      go_simp
      try with_reducible rfl
    try simp only [Act.put, List.getElem_toArray, List.getElem_cons_zero, List.getElem_cons_succ, List.setIfInBounds_toArray, List.set_cons_zero, List.set_cons_succ]
    refine wpAny_done (by kernel_rfl) ?_ _
    cases hba : SA.bad with
    | true =>
      obtain rfl : eA = 2 := by rw [HEA.out, hba]; rfl
      clear hba
      go_wp2_with fail
      go_at_call 6
      (with_reducible refine (awake23_any w8).mono ?_)
      rintro y w9 ⟨rfl, b9⟩
      have HB9 := Lib.hid (HB8.out.trans (b9.mono HB8.out.size))
      clear b9
      go_wp2_with fail
      go_ret
      exact ⟨rfl, HB9.out⟩
    | false =>
      cases hbb : SB.bad with
      | true =>
        obtain rfl : eA = 0 := by rw [HEA.out, hba]; rfl
        obtain rfl : eB = 2 := by rw [HEB.out, hbb]; rfl
        clear hba hbb
        go_wp2_with fail
        go_at_call 6
        (with_reducible refine (awake23_any w8).mono ?_)
        rintro y w9 ⟨rfl, b9⟩
        have HB9 := Lib.hid (HB8.out.trans (b9.mono HB8.out.size))
        clear b9
        go_wp2_with fail
        go_ret
        exact ⟨rfl, HB9.out⟩
      | false =>
        obtain rfl : eA = 0 := by rw [HEA.out, hba]; rfl
        obtain rfl : eB = 0 := by rw [HEB.out, hbb]; rfl
        obtain ⟨rfl, rfl, hP, hF⟩ := HO1.out hba
        obtain ⟨rfl, rfl, hQ, hG⟩ := HO2.out hbb
        obtain ⟨g1, g2⟩ := HPL.out hba
        obtain ⟨o1, o2⟩ := HOP.out hba hbb
        obtain ⟨P, hP9⟩ : ∃ P, P = SA.ps := ⟨_, rfl⟩
        obtain ⟨F, hF9⟩ : ∃ F, F = SA.fs := ⟨_, rfl⟩
        rw [← hP9] at g1 g2 o1 hP ⊢
        rw [← hF9] at o2 hF ⊢
        rw [o1] at hQ ⊢
        rw [o2] at hG ⊢
        rw [List.length_map] at hQ hG ⊢
        rw [List.length_map]
        have HW8 := Lib.hid (Below.refl w8.heap.size w8)
        have HP := Lib.hid (hP.kept (Kept.of_below HW78.out []))
        have HF := Lib.hid (hF.kept (Kept.of_below HW78.out []))
        have HQ := Lib.hid hQ
        have HGG := Lib.hid hG
        have G1 := Lib.hid g1
        have hnt := (rT_get HRT.out).1
        have G2 : Hid (ndL P ≤ 200 ∧ P.length ≤ 200) := ⟨by omega, by have := len_ndL P; omega⟩
        have GK : Hid (∀ p ∈ P, p.term.rk < 1000) := fun p hp => (ok_size g1 p hp).1
        have HOPP := Lib.hid (fun W' (hW : Below w8.heap.size w8 W') => opposite_any P F pa qa ra ua P.length pc F.length qc rc uc W' (HP.out.kept (Kept.of_below hW [])) (HF.out.kept (Kept.of_below hW [])) (HQ.out.kept (Kept.of_below hW [])) (HGG.out.kept (Kept.of_below hW [])) GK.out)
        clear hba hbb hP hF hQ hG g1 g2 o1 o2 hP9 hF9 hnt HO1 HO2 HPL HOP HEA HEB HW78
        go_wp2_with fail
        go_at_call 15
        (with_reducible refine (HOPP.out _ (Below.refl _ _)).mono ?_)
        rintro y w9 ⟨rfl, b9⟩
        have HB9 := Lib.hid b9
        clear b9 HOPP
        obtain ⟨n0, n1, -, -⟩ := (E28.out.below HB9.out).two
        go_upto_region 13 with (fail)
        go_wp2_with fail
        go_at_call 10
        (with_reducible refine (env_any day2 fx2 f2 l2 c2 w9 (H48.out.kept (Kept.of_below HB9.out [])) (by have := HG2.out; omega)).mono ?_)
        rintro y w10 ⟨⟨ea2, ec2, rfl, hE2⟩, b10⟩
        have HE10 := Lib.hid hE2
        have HB10 := Lib.hid (HB9.out.trans (b10.mono HB9.out.size))
        clear hE2 b10 n0 n1
        go_wp2_with fail
        go_at_call 13
        (with_reducible refine (step_both day2 fx2 ea2 fx2.length ec2 P pa P.length pc w10 D2.out HE10.out (HP.out.kept (Kept.of_below HB10.out [])) (ok_shal G1.out) (by have := G2.out; omega) (ok_right G1.out G2.out.1)).mono ?_)
        rintro y w11 ⟨⟨pa2, pn2, pc2, qa2, qn2, qc2, rfl, hO3⟩, b11⟩
        have HO3 := Lib.hid hO3
        have HB11 := Lib.hid (HB10.out.trans (b11.mono HB10.out.size))
        obtain ⟨eC, hEC⟩ : ∃ e : Int, e = if (stepL day2 fx2 P s0).bad = true then 2 else 0 := ⟨_, rfl⟩
        rw [← hEC]
        have HEC := Lib.hid hEC
        clear hO3 b11 hEC HE10 HB10
        obtain ⟨n0, n1, -, -⟩ := (E28.out.below HB11.out).two
        go_upto_region 14 with (fail)
        go_wp2_with fail
        go_at_call 10
        (with_reducible refine (env_any day2 fx2 f2 l2 c2 w11 (H48.out.kept (Kept.of_below HB11.out [])) (by have := HG2.out; omega)).mono ?_)
        rintro y w12 ⟨⟨ea3, ec3, rfl, hE3⟩, b12⟩
        have HE12 := Lib.hid hE3
        have HB12 := Lib.hid (HB11.out.trans (b12.mono HB11.out.size))
        have HW12 := Lib.hid b12
        clear hE3 b12 n0 n1
        go_wp2_with fail
        go_at_call 13
        (with_reducible refine (step_both day2 fx2 ea3 fx2.length ec3 (P.map negP) ra P.length rc w12 D2.out HE12.out (HQ.out.kept (Kept.of_below HB12.out [])) (ok_shal (neg_ok G1.out)) (by have := G2.out; omega) (ok_right (neg_ok G1.out) (by rw [ndL_neg]; exact G2.out.1))).mono ?_)
        rintro y w13 ⟨⟨ra2, rn2, rc2, ua2, un2, uc2, rfl, hO4⟩, b13⟩
        have HO4 := Lib.hid hO4
        have HW13 := Lib.hid (HW12.out.trans (b13.mono HW12.out.size))
        have HB13 := Lib.hid (HB8.out.trans ((HB12.out.trans (b13.mono HB12.out.size)).mono HB8.out.size))
        obtain ⟨eD, hED⟩ : ∃ e : Int, e = if (stepL day2 fx2 (P.map negP) s0).bad = true then 2 else 0 := ⟨_, rfl⟩
        rw [← hED]
        have HED := Lib.hid hED
        clear hO4 b13 hED HE12 HB12 HW12
        have HPL := Lib.hid (step_rest (day := day2) (fx := fx2) G1.out)
        have HOP := Lib.hid (fun h h' => stepL_opp (day := day2) (fx := fx2) (l := P) (fun p hp => (rT_get (G1.out p hp).right).2.2) (s := s0) (s' := s0) ⟨rfl, rfl⟩ h h')
        obtain ⟨SC, hSC⟩ : ∃ S, S = stepL day2 fx2 P s0 := ⟨_, rfl⟩
        obtain ⟨SD, hSD⟩ : ∃ S, S = stepL day2 fx2 (P.map negP) s0 := ⟨_, rfl⟩
        rw [← hSC] at HO3 HPL HOP HEC
        rw [← hSD] at HO4 HOP HED
        clear hSC hSD
        cases hbc : SC.bad with
        | true =>
          obtain rfl : eC = 2 := by rw [HEC.out, hbc]; rfl
          clear hbc
          go_wp2_with fail
          go_at_call 6
          (with_reducible refine (awake23_any w13).mono ?_)
          rintro y w9 ⟨rfl, b9⟩
          have HB9 := Lib.hid (HB13.out.trans (b9.mono HB13.out.size))
          clear b9
          go_wp2_with fail
          go_ret
          exact ⟨rfl, HB9.out⟩
        | false =>
          cases hbd : SD.bad with
          | true =>
            obtain rfl : eC = 0 := by rw [HEC.out, hbc]; rfl
            obtain rfl : eD = 2 := by rw [HED.out, hbd]; rfl
            clear hbc hbd
            go_wp2_with fail
            go_at_call 6
            (with_reducible refine (awake23_any w13).mono ?_)
            rintro y w9 ⟨rfl, b9⟩
            have HB9 := Lib.hid (HB13.out.trans (b9.mono HB13.out.size))
            clear b9
            go_wp2_with fail
            go_ret
            exact ⟨rfl, HB9.out⟩
          | false =>
            obtain rfl : eC = 0 := by rw [HEC.out, hbc]; rfl
            obtain rfl : eD = 0 := by rw [HED.out, hbd]; rfl
            obtain ⟨rfl, rfl, hP, hF⟩ := HO3.out hbc
            obtain ⟨rfl, rfl, hQ, hG⟩ := HO4.out hbd
            obtain ⟨g1, g2⟩ := HPL.out hbc
            obtain ⟨o1, o2⟩ := HOP.out hbc hbd
            rw [o1] at hQ ⊢
            rw [o2] at hG ⊢
            rw [List.length_map] at hQ hG ⊢
            rw [List.length_map]
            have HOPP := Lib.hid (opposite_any SC.ps SC.fs pa2 qa2 ra2 ua2 SC.ps.length pc2 SC.fs.length qc2 rc2 uc2 w13 (hP.kept (Kept.of_below HW13.out [])) (hF.kept (Kept.of_below HW13.out [])) hQ hG (fun p hp => (ok_size (fun q hq => (g1 q hq).1) p hp).1))
            clear hbc hbd hP hF hQ hG g1 g2 o1 o2
            go_wp2_with fail
            go_at_call 15
            (with_reducible refine HOPP.out.mono ?_)
            rintro y w14 ⟨rfl, b14⟩
            have HB14 := Lib.hid (HB13.out.trans (b14.mono HB13.out.size))
            clear b14 HOPP
            go_wp2_with fail
            go_at_call 6
            (with_reducible refine (awake23_any w14).mono ?_)
            rintro y w9 ⟨rfl, b9⟩
            have HB9 := Lib.hid (HB14.out.trans (b9.mono HB14.out.size))
            clear b9
            go_wp2_with fail
            go_ret
            exact ⟨rfl, HB9.out⟩
end Go.Proofs.Ytmiinmndbkdjbaa
