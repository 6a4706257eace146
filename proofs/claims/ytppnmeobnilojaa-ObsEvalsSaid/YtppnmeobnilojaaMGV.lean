/- A part of the proof: RvX, LawE, Open, OpenV, one behind another. -/
import Derived.Test.YtppnmeobnilojaaMGA
import Derived.Test.YtppnmeobnilojaaMGB
import Derived.Test.YtppnmeobnilojaaMGC
import Derived.Test.YtppnmeobnilojaaMGD
import Derived.Test.YtppnmeobnilojaaMGE
import Derived.Test.YtppnmeobnilojaaMGF
import Derived.Test.YtppnmeobnilojaaMGG
import Derived.Test.YtppnmeobnilojaaMGH
import Derived.Test.YtppnmeobnilojaaMGI
import Derived.Test.YtppnmeobnilojaaMGJ
import Derived.Test.YtppnmeobnilojaaMGK
import Derived.Test.YtppnmeobnilojaaMGL
import Derived.Test.YtppnmeobnilojaaMGM
import Derived.Test.YtppnmeobnilojaaMGN
import Derived.Test.YtppnmeobnilojaaMGO
import Derived.Test.YtppnmeobnilojaaMGQ
import Derived.Test.YtppnmeobnilojaaMGR
import Derived.Test.YtppnmeobnilojaaMGS
import Derived.Test.YtppnmeobnilojaaMGT
import Derived.Test.YtppnmeobnilojaaMGU
import Derived.IntWalk
import Derived.WalkKit
import Derived.ProofKit
import Derived.OpenShut
import Derived.ShutString
import Derived.ChangeOld
import Derived.Below
import Derived.Deep.Slices
import Derived.Deep.Fields
import Derived.ChangeSame
/- The contract of ref22.Eval: of a right expression with a kind. -/
namespace Go.Proofs.Ytppnmeobnilojaa
set_option linter.unusedVariables false
set_option linter.unusedSimpArgs false
open Go.RowKit
/-- By the document's rules, of what is typed: what the last step is. -/
theorem tail_of {day : Int} {fx : List Fx} {op n : Int} {nm : ByteArray} {ks : List Int} {vs : List Vl} {k : Int} (h : Shape op ks vs k) (h17 : op ≠ 17) (h18 : op ≠ 18) (h21 : op ≠ 21) (hI : ∀ v ∈ vs, I64 v.N) :
    (vs.any (fun v => decide (v = .brk)) = true → opV op vs = .brk) ∧ (vs.any (fun v => decide (v = .brk)) = false → vs.any (fun v => decide (v = .unk)) = true → opV op vs = .unk) ∧
    (vs.any (fun v => decide (v = .brk)) = false → vs.any (fun v => decide (v = .unk)) = false → TailP day fx op n nm vs (opV op vs)) := by
  cases h with
  | two1 h ha hb =>
    rw [opV_two (by omega)]
    rcases ha.of1 with rfl | rfl | ⟨x, rfl⟩ <;> rcases hb.of1 with rfl | rfl | ⟨y, rfl⟩ <;> simp [twoV, h, Vl.N]
    exact .ar x y _ h (hI (.num x) (by simp)) (hI (.num y) (by simp)) rfl
  | cmp h ha hb =>
    rw [opV_two (by omega)]
    have h5 : ¬ (5 ≤ op ∧ op ≤ 10) := by omega
    rcases ha.of1 with rfl | rfl | ⟨x, rfl⟩ <;> rcases hb.of1 with rfl | rfl | ⟨y, rfl⟩ <;> simp [twoV, h5, Vl.N]
    exact .cmp x y _ h rfl
  | both h => omega
  | not ha =>
    rcases ha.of2 with rfl | rfl | ⟨t, rfl⟩
    · simp [opV]
    · simp [opV]
    · refine ⟨by simp, by simp, fun _ _ => .not t _ rfl rfl⟩
  | neg ha =>
    rcases ha.of1 with rfl | rfl | ⟨x, rfl⟩
    · simp [opV]
    · simp [opV]
    · refine ⟨by simp, by simp, fun _ _ => .neg x _ rfl (hI (.num x) (by simp)) rfl⟩
  | cond => exact absurd rfl h21
theorem reval_any (day : Int) (fx : List Fx) (a : Option Addr) (len cap : Nat) (hd : I64 day) : ∀ (r : Nat) (e : Ex), e.rk ≤ r → bE e = true → kE e ≠ 0 → ∀ (cs : List Value) (w : World), RepE w [] e cs → SlR fxK w [] fx a len cap →
    Calls Try.prog 39 #[.agg cs.toArray, .agg #[.int .i64 day, .slice a len cap]] w fun x w' => RetW (evalE day fx e) x ∧ Below w.heap.size w w' := by
  intro r
  induction r with
  | zero => intro e h; have := e.rk_pos; omega
  | succ r ih =>
    intro e hr hb hk cs w hR hS
    have hnum := RepE.nums _ e (Nat.le_refl _) cs hR
    have hfx := fxs_i64 hS
    obtain ⟨op, n, nm, args, a', len', cap', rfl, rfl, i1, i2, i3, hSA⟩ := hR.inv
    obtain ⟨g1, -, g3⟩ := bE_inv hb
    have hkids := kid_kinds hb hk
    have hop := ar_op (by omega : 0 ≤ ar op)
    have hlen := hSA.facts.1
    have hsh := fun h4 => eval_shape day fx hb hk (op := op) h4
    obtain ⟨-, hnk⟩ := hnum
    rw [evalE_mk]
    have hC : ∀ (k : Nat) (x : Ex) (c0 c1 : Int) (c2 : ByteArray) (s0 : Option Addr) (s1 s2 : Nat), args[k]? = some x → RepE w [] x [.int .i64 c0, .int .i64 c1, .string c2, .slice s0 s1 s2] → RvC w day a len cap (.int .i64 c0) (.int .i64 c1) (.string c2) (.slice s0 s1 s2) (evalE day fx x) := by
      intro k x c0 c1 c2 s0 s1 s2 hx hrep W hW
      exact ih x (by have := Ex.rk_lt (op := op) (n := n) (nm := nm) hx; omega) (g3 x (List.mem_of_getElem? hx)) (hkids x (List.mem_of_getElem? hx)) _ W (hrep.kept (Kept.of_below hW [])) (hS.kept (Kept.of_below hW []))
    have hI : ∀ v ∈ args.map (evalE day fx), I64 v.N := by
      intro v hv
      obtain ⟨x, hx, rfl⟩ := List.mem_map.1 hv
      exact eval_i64 hd hfx x.rk x (Nat.le_refl _) (nums_go.1 hnk x hx)
    have hl3 : args.length ≤ 3 := by
      unfold ar at g1
      repeat' split at g1
      all_goals omega
    by_cases h4 : op ≤ 4
    · have hl : args = [] := List.length_eq_zero_iff.1 (by rw [ar_nil hop.1 h4] at g1; omega)
      subst hl
      refine rv_rest w day fx a len cap op n nm [] a' len' cap' (evalE day fx) _ hSA (by omega) hC (by omega) (by omega) (by omega) (by simp) (by simp) hS (fun _ _ => ?_)
      unfold evO
      by_cases h12 : op = 1 ∨ op = 2
      · rw [if_pos h12]; exact .lit h12
      rw [if_neg h12]
      by_cases h44 : op = 4
      · rw [if_pos h44]; exact .day h44
      rw [if_neg h44, if_pos (by omega)]
      exact .obs _ (by omega) rfl
    · have hs := hsh (by omega)
      have hev : evO day fx op n nm (args.map (evalE day fx)) = opV op (args.map (evalE day fx)) := by unfold evO; rw [if_neg (by omega), if_neg (by omega), if_neg (by omega)]
      rw [hev]
      by_cases h178 : op = 17 ∨ op = 18
      · have hc : args.length = 2 := by rw [ar_two (by omega)] at g1; omega
        obtain ⟨x, y, rfl⟩ := two_of hc
        obtain rfl : len' = 2 := by omega
        obtain ⟨b, o, x', c0, c1, c2, s0, s1, s2, rfl, -, hx, hrep, hF⟩ := arg_at hSA 0 (by omega)
        obtain rfl : x = x' := by simpa using hx
        obtain ⟨b', o', y', d0, d1, d2, t0, t1, t2, e, -, hy, hrep', hF'⟩ := arg_at hSA 1 (by omega)
        obtain rfl : y = y' := by simpa using hy
        injection e with e; injection e with e1 e2; subst e1; subst e2
        rw [Nat.zero_mul, Nat.add_zero] at hF
        rw [Nat.one_mul] at hF'
        have h0 := hC 0 x _ _ _ _ _ _ rfl hrep
        have h1 := hC 1 y _ _ _ _ _ _ rfl hrep'
        simp only [List.map_cons, List.map_nil] at hs ⊢
        generalize evalE day fx x = A at *
        generalize evalE day fx y = B at *
        generalize kE x = kx at *
        generalize kE y = ky at *
        generalize kE (Ex.mk op n nm [x, y]) = kk at *
        rw [opV_both h178]
        cases hs with
        | two1 h ha hb' => omega
        | cmp h ha hb' => omega
        | both h ha hb' =>
          rcases h178 with rfl | rfl
          · exact rv_and17 w day a len cap n nm b o cap' c0 c1 d0 d1 c2 d2 s0 t0 s1 s2 t1 t2 A B ha hb' hF hF' h0 h1
          · exact rv_and18 w day a len cap n nm b o cap' c0 c1 d0 d1 c2 d2 s0 t0 s1 s2 t1 t2 A B ha hb' hF hF' h0 h1
      · by_cases h21 : op = 21
        · subst h21
          have hc : args.length = 3 := by rw [show ar 21 = 3 by decide] at g1; omega
          obtain ⟨x, y, z, rfl⟩ := three_of hc
          obtain rfl : len' = 3 := by omega
          obtain ⟨b, o, x', c0, c1, c2, s0, s1, s2, rfl, -, hx, hrep, hF⟩ := arg_at hSA 0 (by omega)
          obtain rfl : x = x' := by simpa using hx
          obtain ⟨b', o', y', d0, d1, d2, t0, t1, t2, e, -, hy, hrep', hF'⟩ := arg_at hSA 1 (by omega)
          obtain rfl : y = y' := by simpa using hy
          injection e with e; injection e with e1 e2; subst e1; subst e2
          obtain ⟨b', o', z', f0, f1, f2, u0, u1, u2, e, -, hz, hrep2, hF2⟩ := arg_at hSA 2 (by omega)
          obtain rfl : z = z' := by simpa using hz
          injection e with e; injection e with e1 e2; subst e1; subst e2
          rw [Nat.zero_mul, Nat.add_zero] at hF
          rw [Nat.one_mul] at hF'
          have h0 := hC 0 x _ _ _ _ _ _ rfl hrep
          have h1 := hC 1 y _ _ _ _ _ _ rfl hrep'
          have h2 := hC 2 z _ _ _ _ _ _ rfl hrep2
          simp only [List.map_cons, List.map_nil] at hs ⊢
          generalize evalE day fx x = A at *
          generalize evalE day fx y = B at *
          generalize evalE day fx z = C at *
          generalize kE x = kx at *
          generalize kE y = ky at *
          generalize kE z = kz at *
          generalize kE (Ex.mk 21 n nm [x, y, z]) = kk at *
          cases hs with
          | cond ha hb' hc' => exact rv_if w day a len cap n nm b o cap' c0 c1 d0 d1 f0 f1 c2 d2 f2 s0 t0 u0 s1 s2 t1 t2 u1 u2 A B C ha hF hF' hF2 h0 h1 h2
        · obtain ⟨q1, q2, q3⟩ := tail_of (day := day) (fx := fx) (n := n) (nm := nm) hs (by omega) (by omega) h21 hI
          exact rv_rest w day fx a len cap op n nm args a' len' cap' (evalE day fx) _ hSA (by omega) hC (by omega) (by omega) h21 q1 q2 hS q3
end Go.Proofs.Ytppnmeobnilojaa

/- The walk of ObsEvals, for any leaves and fixings. -/
namespace Go.Proofs.Ytppnmeobnilojaa
set_option linter.unusedVariables false
set_option linter.unusedSimpArgs false
open Go.RowKit
theorem evalX_yes (day : Int) (fx : List Fx) (e : Ex) (h : rE e = true) (h2 : kE e ≠ 0) : evalX day fx e = evalE day fx e := by unfold evalX kI; rw [if_pos h, if_neg h2]
theorem evalX_no (day : Int) (fx : List Fx) (e : Ex) (h : rE e = false) : evalX day fx e = .brk := by unfold evalX kI; rw [h]; simp
theorem evalX_zero (day : Int) (fx : List Fx) (e : Ex) (h : kE e = 0) : evalX day fx e = .brk := by unfold evalX kI; rw [h]; simp
set_option maxRecDepth 100000 in
set_option maxHeartbeats 8000000 in
theorem obsEvals_any (lfs : List Lf) (al : Option Addr) (ll cl : Nat) (day : Int) (fx : List Fx) (a : Option Addr) (len cap : Nat) (w : World) (hl : SlR lfK w [] lfs al ll cl) (hS : SlR fxK w [] fx a len cap) (hd : I64 day) :
    Calls Try.prog 9 #[.slice al ll cl, .agg #[.int .i64 day, .slice a len cap]] w fun e w' => e = .returned (.bool true) ∧ Below w.heap.size w w' := by
  have hal := (Below.refl w.heap.size w).alloc (Nat.le_refl _) (.cells #[.int .i64 day, .slice a len cap] 58)
  have HS0 := Lib.hid (hS.kept (Kept.of_below hal []))
  have HLF := Lib.hid (hl.kept (Kept.of_below hal []))
  have HB0 := Lib.hid hal
  have BX := Lib.hid (Mem.Blk.new w 58 #[.int .i64 day, .slice a len cap])
  have HD := Lib.hid hd
  clear hal hS hl hd
  go_enter Try.func9, Try.ntmps9
  go_upto_region 1 with (fail)
  generalize w.alloc (.cells #[.int .i64 day, .slice a len cap] 58) = v at *
  obtain ⟨c0, c1, -, -⟩ := BX.out.two
  go_wp2_with fail
  go_at_call 38
  (with_reducible refine (great22_any _ _ _ _ _ _ _ _).mono ?_)
  rintro e w1 ⟨rfl, b1⟩
  have HB1 := Lib.hid (HB0.out.trans (b1.mono HB0.out.size))
  have HS1 := Lib.hid (HS0.out.kept (Kept.of_below b1 []))
  have HL1 := Lib.hid (HLF.out.kept (Kept.of_below b1 []))
  have BX1 := Lib.hid (BX.out.below b1)
  clear b1 HB0 HS0 HLF BX c0 c1
  by_cases hg : 60 < ll ∨ 60 < len
  · rw [decide_eq_true hg]
    go_wp2_with fail
    go_at_call 34
    (with_reducible refine (awake22_any _).mono ?_)
    rintro e w9 ⟨rfl, b9⟩
    have HB9 := Lib.hid (HB1.out.trans (b9.mono HB1.out.size))
    clear b9
    go_wp2_with fail
    go_ret
    exact ⟨rfl, HB9.out⟩
  · rw [decide_eq_false hg]
    have hlen : len ≤ 200 := by omega
    have HBU := Lib.hid (build_any lfs [] al none ll cl 0 0 w1 HL1.out (SlR.nil _ _ _))
    clear hg HL1
    go_wp2_with fail
    go_at_call 15
    (with_reducible refine HBU.out.mono ?_)
    rintro e w2 ⟨⟨es, ts, cs, rfl, hT, hle, -, hrk, -⟩, b1⟩
    obtain ⟨aE, cE, aN, cN, aD, cD, aT, cT, aM, cM, aP, cP, hcs, -⟩ := id hT
    have hal := (Below.refl w2.heap.size w2).alloc (Nat.le_refl _) (.cells #[.slice aE es.length cE, .slice aN (nds es).length cN, .slice aD (rks es).length cD, .slice aT ts.length cT, .slice aM (ndsT ts).length cM, .slice aP (rksT ts).length cP] 30)
    have b2 := b1.trans (hal.mono b1.size)
    have HB2 := Lib.hid (HB1.out.trans (b2.mono HB1.out.size))
    have HS2 := Lib.hid (HS1.out.kept (Kept.of_below b2 []))
    have BX2 := Lib.hid (BX1.out.below b2)
    have HT0 := Lib.hid (hT.kept (Kept.of_below hal []))
    have BT0 := Lib.hid (Mem.Blk.new w2 30 #[.slice aE es.length cE, .slice aN (nds es).length cN, .slice aD (rks es).length cD, .slice aT ts.length cT, .slice aM (ndsT ts).length cM, .slice aP (rksT ts).length cP])
    have HRK := Lib.hid hrk
    subst hcs
    clear hT b1 b2 hrk HBU hal HB1 HS1 BX1
    go_wp2_with fail
    generalize w2.alloc (.cells #[.slice aE es.length cE, .slice aN (nds es).length cN, .slice aD (rks es).length cD, .slice aT ts.length cT, .slice aM (ndsT ts).length cM, .slice aP (rksT ts).length cP] 30) = v2 at *
    generalize w2.heap.size = tb at *
    go_loopw [6] (fun i wr => ∃ (k : Nat), i = .int .i64 (k : Nat) ∧ k ≤ es.length ∧ Hid (Below v2.heap.size v2 wr)) (fun i _ => es.length - (intOf i).toNat)
    case atStart => exact ⟨0, rfl, Nat.zero_le _, Below.refl _ _⟩
    case round =>
      obtain ⟨k, rfl, hk, HR⟩ := hrel
      have d0 : wr.cell? ⟨tb, 0, none⟩ = some (.slice aE es.length cE) := (BT0.out.below HR.out).cell 0
      by_cases hlt : k < es.length
      · have hk' : (k : Int) < (es.length : Int) := by omega
        have i0 : (0 : Int) ≤ (k : Int) := by omega
        obtain ⟨t, ht⟩ : ∃ t, es[k]? = some t := ⟨_, List.getElem?_eq_getElem hlt⟩
        have HRt := Lib.hid (HRK.out t (List.mem_of_getElem? ht))
        have HRE := Lib.hid (fun W (hW : Below v2.heap.size v2 W) => treeRightE_any (HT0.out.kept (Kept.of_below hW [])) k ht (by have := HRt.out; omega))
        obtain ⟨_, _, _, _, _, _, _, _, _, _, _, _, e, h4, -⟩ := id (HT0.out.kept (Kept.of_below HR.out []))
        injection e with e3 e
        injection e3 with e3 _ e3'
        subst e3; subst e3'
        clear e
        obtain ⟨bt, ot, xt, ct, rfl, -, -, hxt, hRt, -, hct⟩ := h4.at k hlt
        obtain rfl : t = xt := by rw [ht] at hxt; injection hxt
        have HRT := Lib.hid (show RepE wr [] t ct from hRt)
        obtain ⟨o5, n5, m5, r5, a5, l5, p5, -, rfl, -, -, -, -⟩ := HRT.out.inv
        have HV0 := Lib.hid (show Four wr bt (ot + k * 4) (.int .i64 o5) (.int .i64 n5) (.string m5) (.slice a5 l5 p5) from four_of hct)
        have HE1 := Lib.hid (evalX_yes day fx t)
        have HE0 := Lib.hid (evalX_no day fx t)
        have HEZ := Lib.hid (evalX_zero day fx t)
        have HBE := Lib.hid (@rE_blt t)
        have HKB := Lib.hid (kE_bd t.rk t (Nat.le_refl _))
        clear h4 hxt hRt hct ht
        -- the wanted value, at first broken
        have hal := (Below.refl wr.heap.size wr).alloc (Nat.le_refl _) (.cells #[.string ⟨#[33]⟩, .int .i64 0] 69)
        have HR2 := Lib.hid (HR.out.trans (hal.mono HR.out.size))
        have HW2 := Lib.hid hal
        have BZ := Lib.hid (Mem.Blk.new wr 69 #[.string ⟨#[33]⟩, .int .i64 0])
        have hzh : v2.heap.size ≤ wr.heap.size := HR.out.size
        clear hal
        go_upto_region 8 with (fail)
        clear d0
        generalize wr.alloc (.cells #[.string ⟨#[33]⟩, .int .i64 0] 69) = v3 at *
        have c0 : v3.cell? ⟨tb, 0, none⟩ = _ := (BT0.out.below HR2.out).cell 0
        have c1 : v3.cell? ⟨tb, 1, none⟩ = _ := (BT0.out.below HR2.out).cell 1
        have c2 : v3.cell? ⟨tb, 2, none⟩ = _ := (BT0.out.below HR2.out).cell 2
        have c3 : v3.cell? ⟨tb, 3, none⟩ = _ := (BT0.out.below HR2.out).cell 3
        have c4 : v3.cell? ⟨tb, 4, none⟩ = _ := (BT0.out.below HR2.out).cell 4
        have c5 : v3.cell? ⟨tb, 5, none⟩ = _ := (BT0.out.below HR2.out).cell 5
        simp only [List.getElem?_toArray, List.getElem?_cons_zero, List.getElem?_cons_succ] at c0 c1 c2 c3 c4 c5
        go_wp2_with fail
        go_at_call 24
        (with_reducible refine (HRE.out v3 HR2.out).mono ?_)
        rintro y w3 ⟨rfl, b3⟩
        have HR3 := Lib.hid (HR2.out.trans (b3.mono HR2.out.size))
        have HW3 := Lib.hid (HW2.out.trans (b3.mono HW2.out.size))
        have BZ3 := Lib.hid (BZ.out.below b3)
        clear b3 c0 c1 c2 c3 c4 c5 HRE BZ HR2 HW2 HR
        obtain ⟨re, hre⟩ : ∃ re, re = rE t := ⟨_, rfl⟩
        rw [← hre] at ⊢
        have HRE' := Lib.hid hre
        clear hre
        have d0 : w3.cell? ⟨tb, 0, none⟩ = some (.slice (some ⟨bt, ot, none⟩) es.length cE) := (BT0.out.below HR3.out).cell 0
        have v0 := cell_up HV0.out.1 HW3.out
        have v1 := cell_up HV0.out.2.1 HW3.out
        have v2' := cell_up HV0.out.2.2.1 HW3.out
        have v3' := cell_up HV0.out.2.2.2 HW3.out
        obtain ⟨e0, e1, -, -⟩ := (BX2.out.below HR3.out).two
        cases re with
        | false =>
          have HA := Lib.hid (HE0.out HRE'.out.symm)
          go_upto_region 10 with (fail)
          have z0 : w3.cell? ⟨wr.heap.size, 0, none⟩ = some (.string ⟨#[33]⟩) := BZ3.out.cell 0
          have z1 : w3.cell? ⟨wr.heap.size, 1, none⟩ = some (.int .i64 0) := BZ3.out.cell 1
          refine wp_region_till (S := fun W => W.cell? ⟨tb, 0, none⟩ = some (.slice (some ⟨bt, ot, none⟩) es.length cE) ∧ (W.cell? ⟨bt, ot + k * 4, none⟩ = some (.int .i64 o5) ∧ W.cell? ⟨bt, ot + k * 4 + 1, none⟩ = some (.int .i64 n5) ∧ W.cell? ⟨bt, ot + k * 4 + 2, none⟩ = some (.string m5) ∧ W.cell? ⟨bt, ot + k * 4 + 3, none⟩ = some (.slice a5 l5 p5)) ∧ (W.cell? ⟨w.heap.size, 0, none⟩ = some (.int .i64 day) ∧ W.cell? ⟨w.heap.size, 1, none⟩ = some (.slice a len cap)) ∧ W.cell? ⟨wr.heap.size, 0, none⟩ = some (.string ⟨#[33]⟩) ∧ W.cell? ⟨wr.heap.size, 1, none⟩ = some (.int .i64 0)) 9 (by kernel_rfl) ?_
          refine till_take (i := 0) (v := ?_) rfl (by kernel_rfl) (fun _ _ _ h => h) (Or.inl ⟨by rfl, ?_⟩) ⟨d0,⟨v0,v1,v2',v3'⟩,⟨e0,e1⟩,z0,z1⟩ ?_
          rotate_left
          · intro W hS
            try dsimp only at hS
            go_split_ands
            go_simp
            try with_reducible rfl
          try simp only [Act.put, List.getElem_toArray, List.getElem_cons_zero, List.getElem_cons_succ, List.setIfInBounds_toArray, List.set_cons_zero, List.set_cons_succ]
          refine till_take (i := 1) (v := ?_) rfl (by kernel_rfl) (fun _ _ _ h => h) (Or.inl ⟨by rfl, ?_⟩) ⟨d0,⟨v0,v1,v2',v3'⟩,⟨e0,e1⟩,z0,z1⟩ ?_
          rotate_left
          · intro W hS
            try dsimp only at hS
            go_split_ands
            go_simp
            try with_reducible rfl
          try simp only [Act.put, List.getElem_toArray, List.getElem_cons_zero, List.getElem_cons_succ, List.setIfInBounds_toArray, List.set_cons_zero, List.set_cons_succ]
          refine till_take (i := 2) (v := ?_) rfl (by kernel_rfl) (fun _ _ _ h => h) (Or.inl ⟨by rfl, ?_⟩) ⟨d0,⟨v0,v1,v2',v3'⟩,⟨e0,e1⟩,z0,z1⟩ ?_
          rotate_left
          · intro W hS
            try dsimp only at hS
            go_split_ands
            go_simp
            try with_reducible rfl
          try simp only [Act.put, List.getElem_toArray, List.getElem_cons_zero, List.getElem_cons_succ, List.setIfInBounds_toArray, List.set_cons_zero, List.set_cons_succ]
          refine till_take (i := 3) (v := ?_) rfl (by kernel_rfl) (fun _ _ _ h => h) (Or.inl ⟨by rfl, ?_⟩) ⟨d0,⟨v0,v1,v2',v3'⟩,⟨e0,e1⟩,z0,z1⟩ ?_
          rotate_left
          · intro W hS
            try dsimp only at hS
            go_split_ands
            go_simp
            try with_reducible rfl
          try simp only [Act.put, List.getElem_toArray, List.getElem_cons_zero, List.getElem_cons_succ, List.setIfInBounds_toArray, List.set_cons_zero, List.set_cons_succ]
          refine till_take (i := 4) (v := ?_) rfl (by kernel_rfl) (fun _ _ _ h => h) (Or.inl ⟨by rfl, ?_⟩) ⟨d0,⟨v0,v1,v2',v3'⟩,⟨e0,e1⟩,z0,z1⟩ ?_
          rotate_left
          · intro W hS
            try dsimp only at hS
            go_split_ands
            go_simp
            try with_reducible rfl
          try simp only [Act.put, List.getElem_toArray, List.getElem_cons_zero, List.getElem_cons_succ, List.setIfInBounds_toArray, List.set_cons_zero, List.set_cons_succ]
          refine till_take (i := 5) (v := ?_) rfl (by kernel_rfl) (fun _ _ _ h => h) (Or.inl ⟨by rfl, ?_⟩) ⟨d0,⟨v0,v1,v2',v3'⟩,⟨e0,e1⟩,z0,z1⟩ ?_
          rotate_left
          · intro W hS
            try dsimp only at hS
            go_split_ands
            go_simp
            try with_reducible rfl
          try simp only [Act.put, List.getElem_toArray, List.getElem_cons_zero, List.getElem_cons_succ, List.setIfInBounds_toArray, List.set_cons_zero, List.set_cons_succ]
          refine till_take (i := 8) (v := ?_) rfl (by kernel_rfl) (fun _ _ _ h => h) (Or.inl ⟨by rfl, ?_⟩) ⟨d0,⟨v0,v1,v2',v3'⟩,⟨e0,e1⟩,z0,z1⟩ ?_
          rotate_left
          · intro W hS
            try dsimp only at hS
            go_split_ands
            go_simp
            try with_reducible rfl
          try simp only [Act.put, List.getElem_toArray, List.getElem_cons_zero, List.getElem_cons_succ, List.setIfInBounds_toArray, List.set_cons_zero, List.set_cons_succ]
          refine till_one (i := 6) (by kernel_rfl) rfl (fun K' hK => ?_)
          go_simp
          have hd8 := (Below.refl w3.heap.size w3).drew
          go_at_call 36
          (with_reducible refine (env_any day fx a len cap _ (HS2.out.kept (Kept.of_below (HR3.out.trans (hd8.mono HR3.out.size)) [])) hlen).mono ?_)
          rintro y w8 ⟨⟨a8, p8, rfl, hV⟩, b8⟩
          have bt := hd8.trans (b8.mono hd8.size)
          have HR8 := Lib.hid (HR3.out.trans (bt.mono HR3.out.size))
          have HW8 := Lib.hid (HW3.out.trans (bt.mono HW3.out.size))
          have HV8 := Lib.hid hV
          replace d0 := cell_up d0 bt
          replace v0 := cell_up v0 bt
          replace v1 := cell_up v1 bt
          replace v2' := cell_up v2' bt
          replace v3' := cell_up v3' bt
          replace e0 := cell_up e0 bt
          replace e1 := cell_up e1 bt
          replace z0 := cell_up z0 bt
          replace z1 := cell_up z1 bt
          refine hK _ _ ⟨d0,⟨v0,v1,v2',v3'⟩,⟨e0,e1⟩,z0,z1⟩ ?_
          clear hK K' b8 bt hd8 hV
          try simp only [Act.put, List.getElem_toArray, List.getElem_cons_zero, List.getElem_cons_succ, List.setIfInBounds_toArray, List.set_cons_zero, List.set_cons_succ]
          refine till_one (i := 7) (by kernel_rfl) rfl (fun K' hK => ?_)
          go_simp
          go_at_call 41
          (with_reducible refine (obsEval_any day fx a8 _ p8 t _ w8 HD.out (HRT.out.kept (Kept.of_below HW8.out [])) (by have := HRt.out; omega) HV8.out).mono ?_)
          rintro y w9 ⟨hy, b9⟩
          rw [HA.out] at hy
          unfold RetV at hy
          subst hy
          have HR9 := Lib.hid (HR8.out.trans (b9.mono HR8.out.size))
          replace d0 := cell_up d0 b9
          replace v0 := cell_up v0 b9
          replace v1 := cell_up v1 b9
          replace v2' := cell_up v2' b9
          replace v3' := cell_up v3' b9
          replace e0 := cell_up e0 b9
          replace e1 := cell_up e1 b9
          replace z0 := cell_up z0 b9
          replace z1 := cell_up z1 b9
          refine hK _ _ ⟨d0,⟨v0,v1,v2',v3'⟩,⟨e0,e1⟩,z0,z1⟩ ?_
          clear hK K' b9 HR8 HW8 HV8 d0 v0 v1 v2' v3' e0 e1 z0 z1
          try simp only [Act.put, List.getElem_toArray, List.getElem_cons_zero, List.getElem_cons_succ, List.setIfInBounds_toArray, List.set_cons_zero, List.set_cons_succ]
          refine till_last (by kernel_rfl) rfl (by kernel_rfl) (fun K' hK => ?_)
          go_simp
          go_at_call 40
          refine (told_any .brk _).mono ?_
          rintro y w10 ⟨rfl, b10⟩
          have HR10 := Lib.hid (HR9.out.trans (b10.mono HR9.out.size))
          refine hK _ _ ?_
          clear hK K' b10 HR9
          try simp only [Act.put, List.getElem_toArray, List.getElem_cons_zero, List.getElem_cons_succ, List.setIfInBounds_toArray, List.set_cons_zero, List.set_cons_succ]
          refine any_take (i := 10) (v := ?_) rfl (by kernel_rfl) (fun _ _ _ h => h) (Or.inl ⟨by rfl, ?_⟩) ?_
          rotate_left
          · intro W
            go_simp
            try with_reducible rfl
          try simp only [Act.put, List.getElem_toArray, List.getElem_cons_zero, List.getElem_cons_succ, List.setIfInBounds_toArray, List.set_cons_zero, List.set_cons_succ]
          refine wpAny_done (by kernel_rfl) ?_ _
          go_wp2_with fail
          go_roundw
          case rel => exact ⟨k + 1, by go_num, by omega, HR10.out⟩
          case measure => simp [intOf]; omega
        | true =>
          have hb := HBE.out HRE'.out.symm
          have HQ := Lib.hid (rkind_any t.rk t (Nat.le_refl _) hb _ w3 (HRT.out.kept (Kept.of_below HW3.out [])))
          have HEV := Lib.hid (fun W (hW : Below wr.heap.size wr W) (hk : kE t ≠ 0) (hSW : SlR fxK W [] fx a len cap) => reval_any day fx a len cap HD.out t.rk t (Nat.le_refl _) hb hk _ W (HRT.out.kept (Kept.of_below hW [])) hSW)
          clear hb
          go_wp2_with fail
          go_at_call 25
          (with_reducible refine HQ.out.mono ?_)
          rintro y w4 ⟨rfl, b4⟩
          have HR4 := Lib.hid (HR3.out.trans (b4.mono HR3.out.size))
          have HW4 := Lib.hid (HW3.out.trans (b4.mono HW3.out.size))
          have BZ4 := Lib.hid (BZ3.out.below b4)
          clear b4 HQ HR3 HW3 BZ3 d0 v0 v1 v2' v3' e0 e1
          have d0 : w4.cell? ⟨tb, 0, none⟩ = some (.slice (some ⟨bt, ot, none⟩) es.length cE) := (BT0.out.below HR4.out).cell 0
          have v0 := cell_up HV0.out.1 HW4.out
          have v1 := cell_up HV0.out.2.1 HW4.out
          have v2' := cell_up HV0.out.2.2.1 HW4.out
          have v3' := cell_up HV0.out.2.2.2 HW4.out
          obtain ⟨e0, e1, -, -⟩ := (BX2.out.below HR4.out).two
          by_cases hk0 : kE t = 0
          · have HA := Lib.hid (HEZ.out hk0)
            rw [hk0]
            go_upto_region 10 with (fail)
            have z0 : w4.cell? ⟨wr.heap.size, 0, none⟩ = some (.string ⟨#[33]⟩) := BZ4.out.cell 0
            have z1 : w4.cell? ⟨wr.heap.size, 1, none⟩ = some (.int .i64 0) := BZ4.out.cell 1
            refine wp_region_till (S := fun W => W.cell? ⟨tb, 0, none⟩ = some (.slice (some ⟨bt, ot, none⟩) es.length cE) ∧ (W.cell? ⟨bt, ot + k * 4, none⟩ = some (.int .i64 o5) ∧ W.cell? ⟨bt, ot + k * 4 + 1, none⟩ = some (.int .i64 n5) ∧ W.cell? ⟨bt, ot + k * 4 + 2, none⟩ = some (.string m5) ∧ W.cell? ⟨bt, ot + k * 4 + 3, none⟩ = some (.slice a5 l5 p5)) ∧ (W.cell? ⟨w.heap.size, 0, none⟩ = some (.int .i64 day) ∧ W.cell? ⟨w.heap.size, 1, none⟩ = some (.slice a len cap)) ∧ W.cell? ⟨wr.heap.size, 0, none⟩ = some (.string ⟨#[33]⟩) ∧ W.cell? ⟨wr.heap.size, 1, none⟩ = some (.int .i64 0)) 9 (by kernel_rfl) ?_
            refine till_take (i := 0) (v := ?_) rfl (by kernel_rfl) (fun _ _ _ h => h) (Or.inl ⟨by rfl, ?_⟩) ⟨d0,⟨v0,v1,v2',v3'⟩,⟨e0,e1⟩,z0,z1⟩ ?_
            rotate_left
            · intro W hS
              try dsimp only at hS
              go_split_ands
              go_simp
              try with_reducible rfl
            try simp only [Act.put, List.getElem_toArray, List.getElem_cons_zero, List.getElem_cons_succ, List.setIfInBounds_toArray, List.set_cons_zero, List.set_cons_succ]
            refine till_take (i := 1) (v := ?_) rfl (by kernel_rfl) (fun _ _ _ h => h) (Or.inl ⟨by rfl, ?_⟩) ⟨d0,⟨v0,v1,v2',v3'⟩,⟨e0,e1⟩,z0,z1⟩ ?_
            rotate_left
            · intro W hS
              try dsimp only at hS
              go_split_ands
              go_simp
              try with_reducible rfl
            try simp only [Act.put, List.getElem_toArray, List.getElem_cons_zero, List.getElem_cons_succ, List.setIfInBounds_toArray, List.set_cons_zero, List.set_cons_succ]
            refine till_take (i := 2) (v := ?_) rfl (by kernel_rfl) (fun _ _ _ h => h) (Or.inl ⟨by rfl, ?_⟩) ⟨d0,⟨v0,v1,v2',v3'⟩,⟨e0,e1⟩,z0,z1⟩ ?_
            rotate_left
            · intro W hS
              try dsimp only at hS
              go_split_ands
              go_simp
              try with_reducible rfl
            try simp only [Act.put, List.getElem_toArray, List.getElem_cons_zero, List.getElem_cons_succ, List.setIfInBounds_toArray, List.set_cons_zero, List.set_cons_succ]
            refine till_take (i := 3) (v := ?_) rfl (by kernel_rfl) (fun _ _ _ h => h) (Or.inl ⟨by rfl, ?_⟩) ⟨d0,⟨v0,v1,v2',v3'⟩,⟨e0,e1⟩,z0,z1⟩ ?_
            rotate_left
            · intro W hS
              try dsimp only at hS
              go_split_ands
              go_simp
              try with_reducible rfl
            try simp only [Act.put, List.getElem_toArray, List.getElem_cons_zero, List.getElem_cons_succ, List.setIfInBounds_toArray, List.set_cons_zero, List.set_cons_succ]
            refine till_take (i := 4) (v := ?_) rfl (by kernel_rfl) (fun _ _ _ h => h) (Or.inl ⟨by rfl, ?_⟩) ⟨d0,⟨v0,v1,v2',v3'⟩,⟨e0,e1⟩,z0,z1⟩ ?_
            rotate_left
            · intro W hS
              try dsimp only at hS
              go_split_ands
              go_simp
              try with_reducible rfl
            try simp only [Act.put, List.getElem_toArray, List.getElem_cons_zero, List.getElem_cons_succ, List.setIfInBounds_toArray, List.set_cons_zero, List.set_cons_succ]
            refine till_take (i := 5) (v := ?_) rfl (by kernel_rfl) (fun _ _ _ h => h) (Or.inl ⟨by rfl, ?_⟩) ⟨d0,⟨v0,v1,v2',v3'⟩,⟨e0,e1⟩,z0,z1⟩ ?_
            rotate_left
            · intro W hS
              try dsimp only at hS
              go_split_ands
              go_simp
              try with_reducible rfl
            try simp only [Act.put, List.getElem_toArray, List.getElem_cons_zero, List.getElem_cons_succ, List.setIfInBounds_toArray, List.set_cons_zero, List.set_cons_succ]
            refine till_take (i := 8) (v := ?_) rfl (by kernel_rfl) (fun _ _ _ h => h) (Or.inl ⟨by rfl, ?_⟩) ⟨d0,⟨v0,v1,v2',v3'⟩,⟨e0,e1⟩,z0,z1⟩ ?_
            rotate_left
            · intro W hS
              try dsimp only at hS
              go_split_ands
              go_simp
              try with_reducible rfl
            try simp only [Act.put, List.getElem_toArray, List.getElem_cons_zero, List.getElem_cons_succ, List.setIfInBounds_toArray, List.set_cons_zero, List.set_cons_succ]
            refine till_one (i := 6) (by kernel_rfl) rfl (fun K' hK => ?_)
            go_simp
            have hd8 := (Below.refl w4.heap.size w4).drew
            go_at_call 36
            (with_reducible refine (env_any day fx a len cap _ (HS2.out.kept (Kept.of_below (HR4.out.trans (hd8.mono HR4.out.size)) [])) hlen).mono ?_)
            rintro y w8 ⟨⟨a8, p8, rfl, hV⟩, b8⟩
            have bt := hd8.trans (b8.mono hd8.size)
            have HR8 := Lib.hid (HR4.out.trans (bt.mono HR4.out.size))
            have HW8 := Lib.hid (HW4.out.trans (bt.mono HW4.out.size))
            have HV8 := Lib.hid hV
            replace d0 := cell_up d0 bt
            replace v0 := cell_up v0 bt
            replace v1 := cell_up v1 bt
            replace v2' := cell_up v2' bt
            replace v3' := cell_up v3' bt
            replace e0 := cell_up e0 bt
            replace e1 := cell_up e1 bt
            replace z0 := cell_up z0 bt
            replace z1 := cell_up z1 bt
            refine hK _ _ ⟨d0,⟨v0,v1,v2',v3'⟩,⟨e0,e1⟩,z0,z1⟩ ?_
            clear hK K' b8 bt hd8 hV
            try simp only [Act.put, List.getElem_toArray, List.getElem_cons_zero, List.getElem_cons_succ, List.setIfInBounds_toArray, List.set_cons_zero, List.set_cons_succ]
            refine till_one (i := 7) (by kernel_rfl) rfl (fun K' hK => ?_)
            go_simp
            go_at_call 41
            (with_reducible refine (obsEval_any day fx a8 _ p8 t _ w8 HD.out (HRT.out.kept (Kept.of_below HW8.out [])) (by have := HRt.out; omega) HV8.out).mono ?_)
            rintro y w9 ⟨hy, b9⟩
            rw [HA.out] at hy
            unfold RetV at hy
            subst hy
            have HR9 := Lib.hid (HR8.out.trans (b9.mono HR8.out.size))
            replace d0 := cell_up d0 b9
            replace v0 := cell_up v0 b9
            replace v1 := cell_up v1 b9
            replace v2' := cell_up v2' b9
            replace v3' := cell_up v3' b9
            replace e0 := cell_up e0 b9
            replace e1 := cell_up e1 b9
            replace z0 := cell_up z0 b9
            replace z1 := cell_up z1 b9
            refine hK _ _ ⟨d0,⟨v0,v1,v2',v3'⟩,⟨e0,e1⟩,z0,z1⟩ ?_
            clear hK K' b9 HR8 HW8 HV8 d0 v0 v1 v2' v3' e0 e1 z0 z1
            try simp only [Act.put, List.getElem_toArray, List.getElem_cons_zero, List.getElem_cons_succ, List.setIfInBounds_toArray, List.set_cons_zero, List.set_cons_succ]
            refine till_last (by kernel_rfl) rfl (by kernel_rfl) (fun K' hK => ?_)
            go_simp
            go_at_call 40
            refine (told_any .brk _).mono ?_
            rintro y w10 ⟨rfl, b10⟩
            have HR10 := Lib.hid (HR9.out.trans (b10.mono HR9.out.size))
            refine hK _ _ ?_
            clear hK K' b10 HR9
            try simp only [Act.put, List.getElem_toArray, List.getElem_cons_zero, List.getElem_cons_succ, List.setIfInBounds_toArray, List.set_cons_zero, List.set_cons_succ]
            refine any_take (i := 10) (v := ?_) rfl (by kernel_rfl) (fun _ _ _ h => h) (Or.inl ⟨by rfl, ?_⟩) ?_
            rotate_left
            · intro W
              go_simp
              try with_reducible rfl
            try simp only [Act.put, List.getElem_toArray, List.getElem_cons_zero, List.getElem_cons_succ, List.setIfInBounds_toArray, List.set_cons_zero, List.set_cons_succ]
            refine wpAny_done (by kernel_rfl) ?_ _
            go_wp2_with fail
            go_roundw
            case rel => exact ⟨k + 1, by go_num, by omega, HR10.out⟩
            case measure => simp [intOf]; omega
          · have HA := Lib.hid (HE1.out HRE'.out.symm hk0)
            have hkp : (0 : Int) < kE t := by have := HKB.out; omega
            have HE2 := Lib.hid (fun W hW hSW => HEV.out W hW hk0 hSW)
            clear HEV hk0 HKB HE1 HE0 HEZ
            generalize kE t = kk at *
            generalize evalE day fx t = A at *
            go_upto_region 9 with (fail)
            refine wp_region_till (S := fun W => W.cell? ⟨tb, 0, none⟩ = some (.slice (some ⟨bt, ot, none⟩) es.length cE) ∧ (W.cell? ⟨bt, ot + k * 4, none⟩ = some (.int .i64 o5) ∧ W.cell? ⟨bt, ot + k * 4 + 1, none⟩ = some (.int .i64 n5) ∧ W.cell? ⟨bt, ot + k * 4 + 2, none⟩ = some (.string m5) ∧ W.cell? ⟨bt, ot + k * 4 + 3, none⟩ = some (.slice a5 l5 p5)) ∧ (W.cell? ⟨w.heap.size, 0, none⟩ = some (.int .i64 day) ∧ W.cell? ⟨w.heap.size, 1, none⟩ = some (.slice a len cap))) 7 (by kernel_rfl) ?_
            refine till_take (i := 0) (v := ?_) rfl (by kernel_rfl) (fun _ _ _ h => h) (Or.inl ⟨by rfl, ?_⟩) ⟨d0,⟨v0,v1,v2',v3'⟩,⟨e0,e1⟩⟩ ?_
            rotate_left
            · intro W hS
              try dsimp only at hS
              go_split_ands
              go_simp
              try with_reducible rfl
            try simp only [Act.put, List.getElem_toArray, List.getElem_cons_zero, List.getElem_cons_succ, List.setIfInBounds_toArray, List.set_cons_zero, List.set_cons_succ]
            refine till_take (i := 1) (v := ?_) rfl (by kernel_rfl) (fun _ _ _ h => h) (Or.inl ⟨by rfl, ?_⟩) ⟨d0,⟨v0,v1,v2',v3'⟩,⟨e0,e1⟩⟩ ?_
            rotate_left
            · intro W hS
              try dsimp only at hS
              go_split_ands
              go_simp
              try with_reducible rfl
            try simp only [Act.put, List.getElem_toArray, List.getElem_cons_zero, List.getElem_cons_succ, List.setIfInBounds_toArray, List.set_cons_zero, List.set_cons_succ]
            refine till_take (i := 2) (v := ?_) rfl (by kernel_rfl) (fun _ _ _ h => h) (Or.inl ⟨by rfl, ?_⟩) ⟨d0,⟨v0,v1,v2',v3'⟩,⟨e0,e1⟩⟩ ?_
            rotate_left
            · intro W hS
              try dsimp only at hS
              go_split_ands
              go_simp
              try with_reducible rfl
            try simp only [Act.put, List.getElem_toArray, List.getElem_cons_zero, List.getElem_cons_succ, List.setIfInBounds_toArray, List.set_cons_zero, List.set_cons_succ]
            refine till_take (i := 3) (v := ?_) rfl (by kernel_rfl) (fun _ _ _ h => h) (Or.inl ⟨by rfl, ?_⟩) ⟨d0,⟨v0,v1,v2',v3'⟩,⟨e0,e1⟩⟩ ?_
            rotate_left
            · intro W hS
              try dsimp only at hS
              go_split_ands
              go_simp
              try with_reducible rfl
            try simp only [Act.put, List.getElem_toArray, List.getElem_cons_zero, List.getElem_cons_succ, List.setIfInBounds_toArray, List.set_cons_zero, List.set_cons_succ]
            refine till_take (i := 4) (v := ?_) rfl (by kernel_rfl) (fun _ _ _ h => h) (Or.inl ⟨by rfl, ?_⟩) ⟨d0,⟨v0,v1,v2',v3'⟩,⟨e0,e1⟩⟩ ?_
            rotate_left
            · intro W hS
              try dsimp only at hS
              go_split_ands
              go_simp
              try with_reducible rfl
            try simp only [Act.put, List.getElem_toArray, List.getElem_cons_zero, List.getElem_cons_succ, List.setIfInBounds_toArray, List.set_cons_zero, List.set_cons_succ]
            refine till_take (i := 5) (v := ?_) rfl (by kernel_rfl) (fun _ _ _ h => h) (Or.inl ⟨by rfl, ?_⟩) ⟨d0,⟨v0,v1,v2',v3'⟩,⟨e0,e1⟩⟩ ?_
            rotate_left
            · intro W hS
              try dsimp only at hS
              go_split_ands
              go_simp
              try with_reducible rfl
            try simp only [Act.put, List.getElem_toArray, List.getElem_cons_zero, List.getElem_cons_succ, List.setIfInBounds_toArray, List.set_cons_zero, List.set_cons_succ]
            refine till_one (i := 6) (by kernel_rfl) rfl (fun K' hK => ?_)
            go_simp
            have hd4 := (Below.refl w4.heap.size w4).drew
            go_at_call 39
            (with_reducible refine (HE2.out _ (HW4.out.trans (hd4.mono HW4.out.size)) (HS2.out.kept (Kept.of_below (HR4.out.trans (hd4.mono HR4.out.size)) []))).mono ?_)
            rintro y w5 ⟨hy, b5⟩
            unfold RetW at hy
            subst hy
            have bt := hd4.trans (b5.mono hd4.size)
            have HR5 := Lib.hid (HR4.out.trans (bt.mono HR4.out.size))
            have HW5 := Lib.hid (HW4.out.trans (bt.mono HW4.out.size))
            have BZ5 := Lib.hid (BZ4.out.below bt)
            replace d0 := cell_up d0 bt
            replace v0 := cell_up v0 bt
            replace v1 := cell_up v1 bt
            replace v2' := cell_up v2' bt
            replace v3' := cell_up v3' bt
            replace e0 := cell_up e0 bt
            replace e1 := cell_up e1 bt
            refine hK _ _ ⟨d0,⟨v0,v1,v2',v3'⟩,⟨e0,e1⟩⟩ ?_
            clear hK K' b5 bt hd4 HR4 HW4 BZ4 HE2 d0 v0 v1 v2' v3' e0 e1
            obtain ⟨t0, t1, t2, t3⟩ := BZ5.out.two
            have hm := BZ5.out.lt
            try simp only [Act.put, List.getElem_toArray, List.getElem_cons_zero, List.getElem_cons_succ, List.setIfInBounds_toArray, List.set_cons_zero, List.set_cons_succ]
            refine till_last (by kernel_rfl) rfl (by kernel_rfl) (fun K' hK => ?_)
            go_simp
            have HR6 := Lib.hid ((HR5.out.setCell hzh (p := ⟨wr.heap.size, 0, none⟩) (.string (wd A))).setCell hzh (p := ⟨wr.heap.size, 1, none⟩) (.int .i64 A.N))
            have HW6 := Lib.hid ((HW5.out.setCell (Nat.le_refl _) (p := ⟨wr.heap.size, 0, none⟩) (.string (wd A))).setCell (Nat.le_refl _) (p := ⟨wr.heap.size, 1, none⟩) (.int .i64 A.N))
            have BZ6 := Lib.hid ((BZ5.out.set_ 0 (.string (wd A))).set_ 1 (.int .i64 A.N))
            refine hK _ _ ?_
            clear hK K' t0 t1 t2 t3 hm HR5 HW5 BZ5
            try simp only [Act.put, List.getElem_toArray, List.getElem_cons_zero, List.getElem_cons_succ, List.setIfInBounds_toArray, List.set_cons_zero, List.set_cons_succ]
            refine wpAny_done (by kernel_rfl) ?_ _
            generalize (w5.setCell ⟨wr.heap.size, 0, none⟩ (.string (wd A))).setCell ⟨wr.heap.size, 1, none⟩ (.int .i64 A.N) = w6 at *
            have d0 : w6.cell? ⟨tb, 0, none⟩ = some (.slice (some ⟨bt, ot, none⟩) es.length cE) := (BT0.out.below HR6.out).cell 0
            have v0 := cell_up HV0.out.1 HW6.out
            have v1 := cell_up HV0.out.2.1 HW6.out
            have v2' := cell_up HV0.out.2.2.1 HW6.out
            have v3' := cell_up HV0.out.2.2.2 HW6.out
            obtain ⟨e0, e1, -, -⟩ := (BX2.out.below HR6.out).two
            go_upto_region 10 with (fail)
            have z0 : w6.cell? ⟨wr.heap.size, 0, none⟩ = some (.string (wd A)) := BZ6.out.cell 0
            have z1 : w6.cell? ⟨wr.heap.size, 1, none⟩ = some (.int .i64 A.N) := BZ6.out.cell 1
            refine wp_region_till (S := fun W => W.cell? ⟨tb, 0, none⟩ = some (.slice (some ⟨bt, ot, none⟩) es.length cE) ∧ (W.cell? ⟨bt, ot + k * 4, none⟩ = some (.int .i64 o5) ∧ W.cell? ⟨bt, ot + k * 4 + 1, none⟩ = some (.int .i64 n5) ∧ W.cell? ⟨bt, ot + k * 4 + 2, none⟩ = some (.string m5) ∧ W.cell? ⟨bt, ot + k * 4 + 3, none⟩ = some (.slice a5 l5 p5)) ∧ (W.cell? ⟨w.heap.size, 0, none⟩ = some (.int .i64 day) ∧ W.cell? ⟨w.heap.size, 1, none⟩ = some (.slice a len cap)) ∧ W.cell? ⟨wr.heap.size, 0, none⟩ = some (.string (wd A)) ∧ W.cell? ⟨wr.heap.size, 1, none⟩ = some (.int .i64 A.N)) 9 (by kernel_rfl) ?_
            refine till_take (i := 0) (v := ?_) rfl (by kernel_rfl) (fun _ _ _ h => h) (Or.inl ⟨by rfl, ?_⟩) ⟨d0,⟨v0,v1,v2',v3'⟩,⟨e0,e1⟩,z0,z1⟩ ?_
            rotate_left
            · intro W hS
              try dsimp only at hS
              go_split_ands
              go_simp
              try with_reducible rfl
            try simp only [Act.put, List.getElem_toArray, List.getElem_cons_zero, List.getElem_cons_succ, List.setIfInBounds_toArray, List.set_cons_zero, List.set_cons_succ]
            refine till_take (i := 1) (v := ?_) rfl (by kernel_rfl) (fun _ _ _ h => h) (Or.inl ⟨by rfl, ?_⟩) ⟨d0,⟨v0,v1,v2',v3'⟩,⟨e0,e1⟩,z0,z1⟩ ?_
            rotate_left
            · intro W hS
              try dsimp only at hS
              go_split_ands
              go_simp
              try with_reducible rfl
            try simp only [Act.put, List.getElem_toArray, List.getElem_cons_zero, List.getElem_cons_succ, List.setIfInBounds_toArray, List.set_cons_zero, List.set_cons_succ]
            refine till_take (i := 2) (v := ?_) rfl (by kernel_rfl) (fun _ _ _ h => h) (Or.inl ⟨by rfl, ?_⟩) ⟨d0,⟨v0,v1,v2',v3'⟩,⟨e0,e1⟩,z0,z1⟩ ?_
            rotate_left
            · intro W hS
              try dsimp only at hS
              go_split_ands
              go_simp
              try with_reducible rfl
            try simp only [Act.put, List.getElem_toArray, List.getElem_cons_zero, List.getElem_cons_succ, List.setIfInBounds_toArray, List.set_cons_zero, List.set_cons_succ]
            refine till_take (i := 3) (v := ?_) rfl (by kernel_rfl) (fun _ _ _ h => h) (Or.inl ⟨by rfl, ?_⟩) ⟨d0,⟨v0,v1,v2',v3'⟩,⟨e0,e1⟩,z0,z1⟩ ?_
            rotate_left
            · intro W hS
              try dsimp only at hS
              go_split_ands
              go_simp
              try with_reducible rfl
            try simp only [Act.put, List.getElem_toArray, List.getElem_cons_zero, List.getElem_cons_succ, List.setIfInBounds_toArray, List.set_cons_zero, List.set_cons_succ]
            refine till_take (i := 4) (v := ?_) rfl (by kernel_rfl) (fun _ _ _ h => h) (Or.inl ⟨by rfl, ?_⟩) ⟨d0,⟨v0,v1,v2',v3'⟩,⟨e0,e1⟩,z0,z1⟩ ?_
            rotate_left
            · intro W hS
              try dsimp only at hS
              go_split_ands
              go_simp
              try with_reducible rfl
            try simp only [Act.put, List.getElem_toArray, List.getElem_cons_zero, List.getElem_cons_succ, List.setIfInBounds_toArray, List.set_cons_zero, List.set_cons_succ]
            refine till_take (i := 5) (v := ?_) rfl (by kernel_rfl) (fun _ _ _ h => h) (Or.inl ⟨by rfl, ?_⟩) ⟨d0,⟨v0,v1,v2',v3'⟩,⟨e0,e1⟩,z0,z1⟩ ?_
            rotate_left
            · intro W hS
              try dsimp only at hS
              go_split_ands
              go_simp
              try with_reducible rfl
            try simp only [Act.put, List.getElem_toArray, List.getElem_cons_zero, List.getElem_cons_succ, List.setIfInBounds_toArray, List.set_cons_zero, List.set_cons_succ]
            refine till_take (i := 8) (v := ?_) rfl (by kernel_rfl) (fun _ _ _ h => h) (Or.inl ⟨by rfl, ?_⟩) ⟨d0,⟨v0,v1,v2',v3'⟩,⟨e0,e1⟩,z0,z1⟩ ?_
            rotate_left
            · intro W hS
              try dsimp only at hS
              go_split_ands
              go_simp
              try with_reducible rfl
            try simp only [Act.put, List.getElem_toArray, List.getElem_cons_zero, List.getElem_cons_succ, List.setIfInBounds_toArray, List.set_cons_zero, List.set_cons_succ]
            refine till_one (i := 6) (by kernel_rfl) rfl (fun K' hK => ?_)
            go_simp
            have hd8 := (Below.refl w6.heap.size w6).drew
            go_at_call 36
            (with_reducible refine (env_any day fx a len cap _ (HS2.out.kept (Kept.of_below (HR6.out.trans (hd8.mono HR6.out.size)) [])) hlen).mono ?_)
            rintro y w8 ⟨⟨a8, p8, rfl, hV⟩, b8⟩
            have bt := hd8.trans (b8.mono hd8.size)
            have HR8 := Lib.hid (HR6.out.trans (bt.mono HR6.out.size))
            have HW8 := Lib.hid (HW6.out.trans (bt.mono HW6.out.size))
            have HV8 := Lib.hid hV
            replace d0 := cell_up d0 bt
            replace v0 := cell_up v0 bt
            replace v1 := cell_up v1 bt
            replace v2' := cell_up v2' bt
            replace v3' := cell_up v3' bt
            replace e0 := cell_up e0 bt
            replace e1 := cell_up e1 bt
            replace z0 := cell_up z0 bt
            replace z1 := cell_up z1 bt
            refine hK _ _ ⟨d0,⟨v0,v1,v2',v3'⟩,⟨e0,e1⟩,z0,z1⟩ ?_
            clear hK K' b8 bt hd8 hV
            try simp only [Act.put, List.getElem_toArray, List.getElem_cons_zero, List.getElem_cons_succ, List.setIfInBounds_toArray, List.set_cons_zero, List.set_cons_succ]
            refine till_one (i := 7) (by kernel_rfl) rfl (fun K' hK => ?_)
            go_simp
            go_at_call 41
            (with_reducible refine (obsEval_any day fx a8 _ p8 t _ w8 HD.out (HRT.out.kept (Kept.of_below HW8.out [])) (by have := HRt.out; omega) HV8.out).mono ?_)
            rintro y w9 ⟨hy, b9⟩
            rw [HA.out] at hy
            unfold RetV at hy
            subst hy
            have HR9 := Lib.hid (HR8.out.trans (b9.mono HR8.out.size))
            replace d0 := cell_up d0 b9
            replace v0 := cell_up v0 b9
            replace v1 := cell_up v1 b9
            replace v2' := cell_up v2' b9
            replace v3' := cell_up v3' b9
            replace e0 := cell_up e0 b9
            replace e1 := cell_up e1 b9
            replace z0 := cell_up z0 b9
            replace z1 := cell_up z1 b9
            refine hK _ _ ⟨d0,⟨v0,v1,v2',v3'⟩,⟨e0,e1⟩,z0,z1⟩ ?_
            clear hK K' b9 HR8 HW8 HV8 d0 v0 v1 v2' v3' e0 e1 z0 z1
            try simp only [Act.put, List.getElem_toArray, List.getElem_cons_zero, List.getElem_cons_succ, List.setIfInBounds_toArray, List.set_cons_zero, List.set_cons_succ]
            refine till_last (by kernel_rfl) rfl (by kernel_rfl) (fun K' hK => ?_)
            go_simp
            go_at_call 40
            refine (told_any A _).mono ?_
            rintro y w10 ⟨rfl, b10⟩
            have HR10 := Lib.hid (HR9.out.trans (b10.mono HR9.out.size))
            refine hK _ _ ?_
            clear hK K' b10 HR9
            try simp only [Act.put, List.getElem_toArray, List.getElem_cons_zero, List.getElem_cons_succ, List.setIfInBounds_toArray, List.set_cons_zero, List.set_cons_succ]
            refine any_take (i := 10) (v := ?_) rfl (by kernel_rfl) (fun _ _ _ h => h) (Or.inl ⟨by rfl, ?_⟩) ?_
            rotate_left
            · intro W
              go_simp
              try with_reducible rfl
            try simp only [Act.put, List.getElem_toArray, List.getElem_cons_zero, List.getElem_cons_succ, List.setIfInBounds_toArray, List.set_cons_zero, List.set_cons_succ]
            refine wpAny_done (by kernel_rfl) ?_ _
            go_wp2_with fail
            go_roundw
            case rel => exact ⟨k + 1, by go_num, by omega, HR10.out⟩
            case measure => simp [intOf]; omega
      · have hk' : ¬ (k : Int) < (es.length : Int) := by omega
        have HB := Lib.hid (HB2.out.trans (HR.out.mono HB2.out.size))
        clear HR hlt
        go_wp2_with fail
        go_at_call 34
        (with_reducible refine (awake22_any _).mono ?_)
        rintro e w9 ⟨rfl, b9⟩
        have HB9 := Lib.hid (HB.out.trans (b9.mono HB.out.size))
        clear b9
        go_wp2_with fail
        go_ret
        exact ⟨rfl, HB9.out⟩
end Go.Proofs.Ytppnmeobnilojaa

/- What came in, opened: slices of ints, of strings, of structs of such. -/
namespace Go.Proofs.Ytppnmeobnilojaa
set_option linter.unusedVariables false
set_option linter.unusedSimpArgs false
open Go.ChangeShapes Go.WideShapes Go.ChangeAt Go.RowKit Go.Deep
def Opens {α : Type} (P : Program) (e : TypeId) (K : Elt α) : Prop :=
  ∀ (H : Type) (enc : TypeId × Value → H) (W : World) (fuel : Nat) (cs : List Value) (x : DataW H × List MemPlace), DataW.trod enc P W 0 (fun _ => true) true fuel e cs = some x → ∃ d, K.R W [] d cs
theorem i64_of {n : Int} (h : (Lit.int .i64 n).wf = true) : I64 n := by
  simp [Lit.wf, IntKind.min, IntKind.max, IntKind.signed, IntKind.bits] at h
  unfold I64
  omega
theorem opens_int {P : Program} {t : TypeId} (ht : P.underlying t = some (.int .i64)) : Opens P t i64K := by
  intro H enc W fuel cs x h
  obtain ⟨n, rfl, _, hw⟩ := DataW.trod_int ht h
  exact ⟨n, rfl, i64_of hw⟩
theorem pick_all {α : Type} {Q : Nat → α → List Value → Prop} : ∀ (len : Nat), (∀ i, i < len → ∃ d c, Q i d c) → ∃ (l : List α) (vs : List (List Value)), l.length = len ∧ vs.length = len ∧ ∀ i d c, l[i]? = some d → vs[i]? = some c → Q i d c := by
  intro len
  induction len with
  | zero => intro _; exact ⟨[], [], rfl, rfl, fun i d c h _ => by simp at h⟩
  | succ n ih =>
    intro h
    obtain ⟨l, vs, h1, h2, h3⟩ := ih (fun i hi => h i (by omega))
    obtain ⟨d, c, hq⟩ := h n (by omega)
    refine ⟨l ++ [d], vs ++ [c], by simp [h1], by simp [h2], fun i d' c' hd hc => ?_⟩
    rcases Nat.lt_or_ge i n with hi | hi
    · rw [List.getElem?_append_left (by omega)] at hd hc
      exact h3 i d' c' hd hc
    · have hin : i = n := by
        have := (List.getElem?_eq_some_iff.1 hd).1; simp at this; omega
      subst hin
      rw [List.getElem?_append_right (by omega), h1, Nat.sub_self] at hd
      rw [List.getElem?_append_right (by omega), h2, Nat.sub_self] at hc
      injection hd with hd; injection hc with hc
      subst hd; subst hc
      exact hq
theorem opens_slice {α : Type} {K : Elt α} {P : Program} {t e : TypeId} (ht : P.underlying t = some (.slice e)) (hK : P.cellsOf e = K.sz) (he : Opens P e K) {H : Type} {enc : TypeId × Value → H} {W : World} {fuel : Nat} {cs : List Value} {x : DataW H × List MemPlace}
    (h : DataW.trod enc P W 0 (fun _ => true) true fuel t cs = some x) : ∃ a len cap l, cs = [.slice a len cap] ∧ SlR K W [] l a len cap := by
  rcases open_slice ht h with ⟨rfl, _⟩ | ⟨a, len, cap, m, n, D, Pl, rfl, _, hl, hm, hmm, _, hi⟩
  · exact ⟨none, 0, 0, [], rfl, SlR.nil K W []⟩
  · have hmx : cap ≤ 9223372036854775807 := by
      have : maxLen = 9223372036854775807 := by decide
      omega
    rw [if_pos rfl] at hmm
    obtain ⟨l, vs, h1, h2, h3⟩ := pick_all (Q := fun i d c => K.R W [] d c ∧ c.length = K.sz ∧ ∀ j u, c[j]? = some u → W.cell? (a.add (i * K.sz + j)) = some u) len (fun i hi' => by
      obtain ⟨c, hc, ht'⟩ := hi i (by omega)
      obtain ⟨d, hd⟩ := he H enc W n c _ ht'
      obtain ⟨_, hcl, hat⟩ := World.cells?_some hc
      rw [hK] at hcl hat
      refine ⟨d, c, hd, hcl, fun j u hj => ?_⟩
      have hjs : j < K.sz := by rw [← hcl]; exact (List.getElem?_eq_some_iff.1 hj).1
      rw [← Go.Deep.add_add, hat j hjs]
      exact hj)
    refine ⟨some a, len, cap, l, rfl, vs, by rw [h1, h2], fun i d c hd hc => (h3 i d c hd hc).1, h2, hl, hmx, fun hp => ?_⟩
    have hv0 : vs[0]? = some (vs[0]'(by omega)) := List.getElem?_eq_getElem (by omega)
    have hl0 : l[0]? = some (l[0]'(by omega)) := List.getElem?_eq_getElem (by omega)
    obtain ⟨_, hlen0, hcell0⟩ := h3 0 _ _ hl0 hv0
    have hK0 := K.pos
    have hz := hcell0 0 _ (List.getElem?_eq_getElem (by omega))
    obtain ⟨b, off, spot⟩ := a
    obtain rfl : spot = none := by simpa [Addr.add] using World.cell?_spot hz
    have hblt := cell_lt hz
    rw [show (⟨b, off, none⟩ : Addr).add (0 * K.sz + 0) = ⟨b, off + (0 * K.sz + 0), none⟩ from Mem.add_off _ _ _] at hblt
    refine ⟨b, off, rfl, hblt, List.not_mem_nil, fun i c hc => ?_⟩
    have hlt : i < l.length := by rw [h1, ← h2]; exact (List.getElem?_eq_some_iff.1 hc).1
    obtain ⟨_, g2, g3⟩ := h3 i _ c (List.getElem?_eq_getElem hlt) hc
    refine ⟨g2, fun j u hj => ?_⟩
    have := g3 j u hj
    rw [Mem.add_off, ← Nat.add_assoc] at this
    exact this
/-- A struct of one-cell fields: each field's cell. -/
theorem opens_struct {P : Program} {e : TypeId} {fs : Array Field} (he : P.underlying e = some (.struct fs)) (hone : oneCellFields P fs = true) (hC : P.cellsOf e = fs.size) {H : Type} {enc : TypeId × Value → H} {W : World} {fuel : Nat} {cs : List Value} {x : DataW H × List MemPlace}
    (h : DataW.trod enc P W 0 (fun _ => true) true fuel e cs = some x) : cs.length = fs.size ∧ ∀ (j : Nat) (f : Field), fs[j]? = some f → ∃ v n y, cs[j]? = some v ∧ DataW.trod enc P W 0 (fun _ => true) true n f.type [v] = some y := by
  obtain ⟨ys, n', hn', hy, hlen, hyl, hf⟩ := DataW.trod_struct he h
  refine ⟨by rw [hlen, hC], fun j f hj => ?_⟩
  obtain ⟨ho, hk⟩ := hone_of hone j f hj
  have hjl : j < fs.size := (Array.getElem?_eq_some_iff.1 hj).1
  have hv : cs[j]? = some (cs[j]'(by omega)) := List.getElem?_eq_getElem (by omega)
  have h1 := hf j f hj
  rw [ho, hk] at h1
  have hone' : (cs.drop j).take 1 = [cs[j]'(by omega)] := by
    rw [List.drop_eq_getElem_cons (by omega)]
    rfl
  rw [hone'] at h1
  have hys : ys[j]? = some (ys[j]'(by omega)) := List.getElem?_eq_getElem (by omega)
  exact ⟨_, _, _, hv, h1.trans hys⟩
theorem four_list {α : Type} {cs : List α} (h : cs.length = 4) {a b c d : α} (h0 : cs[0]? = some a) (h1 : cs[1]? = some b) (h2 : cs[2]? = some c) (h3 : cs[3]? = some d) : cs = [a, b, c, d] := by
  match cs, h with
  | [p, q, r, s], _ => simp at h0 h1 h2 h3; subst h0; subst h1; subst h2; subst h3; rfl
theorem opens_leaf : Opens Try.prog 86 lfK := by
  intro H enc W fuel cs x h
  obtain ⟨hl, hf⟩ := opens_struct Try.underlying86 (by kernel_rfl) (by kernel_rfl) h
  obtain ⟨v0, n0, y0, c0, t0⟩ := hf 0 _ rfl
  obtain ⟨v1, n1, y1, c1, t1⟩ := hf 1 _ rfl
  obtain ⟨v2, n2, y2, c2, t2⟩ := hf 2 _ rfl
  obtain ⟨v3, n3, y3, c3, t3⟩ := hf 3 _ rfl
  obtain ⟨a, e0, _, w0⟩ := DataW.trod_int (k := .i64) Try.underlying3 t0
  obtain ⟨b, e1, _, w1⟩ := DataW.trod_int (k := .i64) Try.underlying2 t1
  obtain ⟨s, e2, _, w2⟩ := DataW.trod_string Try.underlying9 t2
  obtain ⟨p, len, cap, l, e3, hS⟩ := opens_slice (K := i64K) Try.underlying27 (by kernel_rfl) (opens_int Try.underlying3) t3
  injection e0 with e0; injection e1 with e1; injection e2 with e2; injection e3 with e3
  subst e0; subst e1; subst e2; subst e3
  have hll := hS.facts.1
  subst hll
  exact ⟨⟨a, b, s, l⟩, p, cap, four_list hl c0 c1 c2 c3, i64_of w0, i64_of w1, (show s.size ≤ 9223372036854775807 by unfold maxLen at w2; omega), hS⟩
theorem opens_knot : Opens Try.prog 90 knK := by
  intro H enc W fuel cs x h
  obtain ⟨hl, hf⟩ := opens_struct Try.underlying90 (by kernel_rfl) (by kernel_rfl) h
  obtain ⟨v0, n0, y0, c0, t0⟩ := hf 0 _ rfl
  obtain ⟨v1, n1, y1, c1, t1⟩ := hf 1 _ rfl
  obtain ⟨v2, n2, y2, c2, t2⟩ := hf 2 _ rfl
  obtain ⟨v3, n3, y3, c3, t3⟩ := hf 3 _ rfl
  obtain ⟨a, e0, _, w0⟩ := DataW.trod_int (k := .i64) Try.underlying3 t0
  obtain ⟨s, e1, _, w1⟩ := DataW.trod_string Try.underlying9 t1
  obtain ⟨p, len, cap, l, e2, hS⟩ := opens_slice (K := i64K) Try.underlying27 (by kernel_rfl) (opens_int Try.underlying3) t2
  obtain ⟨p2, len2, cap2, l2, e3, hS2⟩ := opens_slice (K := i64K) Try.underlying27 (by kernel_rfl) (opens_int Try.underlying3) t3
  injection e0 with e0; injection e1 with e1; injection e2 with e2; injection e3 with e3
  subst e0; subst e1; subst e2; subst e3
  have hll := hS.facts.1
  subst hll
  have hll2 := hS2.facts.1
  subst hll2
  exact ⟨⟨a, s, l, l2⟩, p, cap, p2, cap2, four_list hl c0 c1 c2 c3, i64_of w0, (show s.size ≤ 9223372036854775807 by unfold maxLen at w1; omega), hS, hS2⟩
theorem leaves_of {H : Type} {enc : TypeId × Value → H} {W : World} {a : Option Addr} {len cap : Nat} {x : DataW H × List MemPlace} (k : ∃ fuel, DataW.trod enc Try.prog W 0 (fun _ => true) true fuel 22 (Value.cells (.slice a len cap)).toList = some x) :
    ∃ l, SlR lfK W [] l a len cap := by
  obtain ⟨fuel, hf⟩ := k
  obtain ⟨a', len', cap', l, e, hS⟩ := opens_slice (K := lfK) Try.underlying22 (by kernel_rfl) opens_leaf hf
  simp [Value.cells] at e
  obtain ⟨rfl, rfl, rfl⟩ := e
  exact ⟨l, hS⟩
theorem knots_of {H : Type} {enc : TypeId × Value → H} {W : World} {a : Option Addr} {len cap : Nat} {x : DataW H × List MemPlace} (k : ∃ fuel, DataW.trod enc Try.prog W 0 (fun _ => true) true fuel 23 (Value.cells (.slice a len cap)).toList = some x) :
    ∃ l, SlR knK W [] l a len cap := by
  obtain ⟨fuel, hf⟩ := k
  obtain ⟨a', len', cap', l, e, hS⟩ := opens_slice (K := knK) Try.underlying23 (by kernel_rfl) opens_knot hf
  simp [Value.cells] at e
  obtain ⟨rfl, rfl, rfl⟩ := e
  exact ⟨l, hS⟩
end Go.Proofs.Ytppnmeobnilojaa

/- What came in, opened: fixings, and what is seen. -/
namespace Go.Proofs.Ytppnmeobnilojaa
set_option linter.unusedVariables false
set_option linter.unusedSimpArgs false
open Go.ChangeShapes Go.WideShapes Go.ChangeAt Go.RowKit Go.Deep
theorem three_list {α : Type} {cs : List α} (h : cs.length = 3) {a b c : α} (h0 : cs[0]? = some a) (h1 : cs[1]? = some b) (h2 : cs[2]? = some c) : cs = [a, b, c] := by
  match cs, h with
  | [p, q, r], _ => simp at h0 h1 h2; subst h0; subst h1; subst h2; rfl
theorem two_list {α : Type} {cs : List α} (h : cs.length = 2) {a b : α} (h0 : cs[0]? = some a) (h1 : cs[1]? = some b) : cs = [a, b] := by
  match cs, h with
  | [p, q], _ => simp at h0 h1; subst h0; subst h1; rfl
theorem opens_fixing : Opens Try.prog 82 fxK := by
  intro H enc W fuel cs x h
  obtain ⟨hl, hf⟩ := opens_struct Try.underlying82 (by kernel_rfl) (by kernel_rfl) h
  obtain ⟨v0, n0, y0, c0, t0⟩ := hf 0 _ rfl
  obtain ⟨v1, n1, y1, c1, t1⟩ := hf 1 _ rfl
  obtain ⟨v2, n2, y2, c2, t2⟩ := hf 2 _ rfl
  obtain ⟨s, e0, _, w0⟩ := DataW.trod_string Try.underlying9 t0
  obtain ⟨a, e1, _, w1⟩ := DataW.trod_int (k := .i64) Try.underlying3 t1
  obtain ⟨b, e2, _, w2⟩ := DataW.trod_int (k := .i64) Try.underlying2 t2
  injection e0 with e0; injection e1 with e1; injection e2 with e2
  subst e0; subst e1; subst e2
  exact ⟨⟨s, a, b⟩, three_list hl c0 c1 c2, (show s.size ≤ 9223372036854775807 by unfold maxLen at w0; omega), i64_of w1, i64_of w2⟩
set_option maxRecDepth 100000 in
theorem env_of {H : Type} {enc : TypeId × Value → H} {W : World} {base : Nat} {v : Value} {x : DataW H × List MemPlace} (hv : Value.okWide Try.prog W .any base 58 v) (k : ∃ fuel, DataW.trod enc Try.prog W 0 (fun _ => true) true fuel 58 (Value.cells v).toList = some x) :
    ∃ day a len cap fx, v = .agg #[.int .i64 day, .slice a len cap] ∧ I64 day ∧ SlR fxK W [] fx a len cap := by
  obtain ⟨cs, rfl, -⟩ := okWide_struct Try.underlying58 hv
  obtain ⟨fuel, h⟩ := k
  obtain ⟨hl, hf⟩ := opens_struct Try.underlying58 (by kernel_rfl) (by kernel_rfl) h
  obtain ⟨v0, n0, y0, c0, t0⟩ := hf 0 _ rfl
  obtain ⟨v1, n1, y1, c1, t1⟩ := hf 1 _ rfl
  obtain ⟨a, e0, _, w0⟩ := DataW.trod_int (k := .i64) Try.underlying3 t0
  obtain ⟨p, len, cap, l, e1, hS⟩ := opens_slice (K := fxK) Try.underlying56 (by kernel_rfl) opens_fixing t1
  injection e0 with e0; injection e1 with e1
  subst e0; subst e1
  refine ⟨a, p, len, cap, l, ?_, i64_of w0, hS⟩
  have hcs : cs.toList = [.int .i64 a, .slice p len cap] := two_list hl c0 c1
  rw [show cs = #[.int .i64 a, .slice p len cap] by rw [← Array.toArray_toList (xs := cs), hcs]]
set_option maxRecDepth 100000 in
theorem fixing_of {H : Type} {enc : TypeId × Value → H} {W : World} {base : Nat} {v : Value} {x : DataW H × List MemPlace} (hv : Value.okWide Try.prog W .any base 82 v) (k : ∃ fuel, DataW.trod enc Try.prog W 0 (fun _ => true) true fuel 82 (Value.cells v).toList = some x) :
    ∃ f : Fx, v = .agg #[.string f.name, .int .i64 f.day, .int .i64 f.val] ∧ f.name.size ≤ 9223372036854775807 ∧ I64 f.day ∧ I64 f.val := by
  obtain ⟨cs, rfl, -⟩ := okWide_struct Try.underlying82 hv
  obtain ⟨fuel, h⟩ := k
  obtain ⟨f, hf, h1, h2, h3⟩ := opens_fixing H enc W fuel _ x h
  refine ⟨f, ?_, h1, h2, h3⟩
  have hcs : cs.toList = [.string f.name, .int .i64 f.day, .int .i64 f.val] := hf
  rw [show cs = #[.string f.name, .int .i64 f.day, .int .i64 f.val] by rw [← Array.toArray_toList (xs := cs), hcs]]
end Go.Proofs.Ytppnmeobnilojaa
