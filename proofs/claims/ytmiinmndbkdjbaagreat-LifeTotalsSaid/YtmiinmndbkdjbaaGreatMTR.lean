/- A part of the proof: SameS, LvS, LdP, LdQ, LdS, StK, one behind another. -/
import Derived.Test.YtmiinmndbkdjbaaGreatMTA
import Derived.Test.YtmiinmndbkdjbaaGreatMTB
import Derived.Test.YtmiinmndbkdjbaaGreatMTC
import Derived.Test.YtmiinmndbkdjbaaGreatMTD
import Derived.Test.YtmiinmndbkdjbaaGreatMTE
import Derived.Test.YtmiinmndbkdjbaaGreatMTF
import Derived.Test.YtmiinmndbkdjbaaGreatMTG
import Derived.Test.YtmiinmndbkdjbaaGreatMTH
import Derived.Test.YtmiinmndbkdjbaaGreatMTI
import Derived.Test.YtmiinmndbkdjbaaGreatMTJ
import Derived.Test.YtmiinmndbkdjbaaGreatMTK
import Derived.Test.YtmiinmndbkdjbaaGreatMTL
import Derived.Test.YtmiinmndbkdjbaaGreatMTM
import Derived.Test.YtmiinmndbkdjbaaGreatMTN
import Derived.Test.YtmiinmndbkdjbaaGreatMTO
import Derived.Test.YtmiinmndbkdjbaaGreatMTQ
import Derived.Sort.EncStr
import Derived.Deep.Draws
/- Same of the document's answer. -/
namespace Go.Proofs.YtmiinmndbkdjbaaGreat
set_option linter.unusedVariables false
set_option linter.unusedSimpArgs false
open Go.RowKit
set_option maxRecDepth 100000 in
set_option maxHeartbeats 4000000 in
theorem rsame_any : ∀ (r : Nat) (e : Te), e.rk ≤ r → ∀ (e2 : Te) (cs cs2 : List Value) (w : World), RepT w [] e cs → RepT w [] e2 cs2 →
    Calls Tryz.prog 33 #[.agg cs.toArray, .agg cs2.toArray] w fun x w' => x = .returned (.bool (eqv e e2)) ∧ Below w.heap.size w w' := by
  intro r
  induction r with
  | zero => intro e h; have := e.rk_pos'; omega
  | succ r ih =>
    intro e hr e2 cs cs2 w hR hR2
    obtain ⟨op, nm, ex, te, a, len, cap, b, ben, bap, rfl, rfl, i1, i3, hS, hB⟩ := hR.inv
    obtain ⟨op2, nm2, ex2, te2, a2, len2, cap2, b2, ben2, bap2, rfl, rfl, i12, i32, hS2, hB2⟩ := hR2.inv
    have HI : Hid (∀ (k : Nat) e1 e1' cs1 cs1' W, te[k]? = some e1 → RepT W [] e1 cs1 → RepT W [] e1' cs1' → Calls Tryz.prog 33 #[.agg cs1.toArray, .agg cs1'.toArray] W fun x w' => x = .returned (.bool (eqv e1 e1')) ∧ Below W.heap.size W w') := by
      intro k e1 e1' cs1 cs1' W hk hR1 hR1'
      exact ih e1 (by have := Te.rk_lt (op := op) (nm := nm) (x := ex) hk; omega) e1' cs1 cs1' W hR1 hR1'
    have HF : Hid (∀ x, eqv (Te.mk op nm ex te) (Te.mk op2 nm2 ex2 te2) = x → Ending.returned (.bool x) = .returned (.bool (eqv (Te.mk op nm ex te) (Te.mk op2 nm2 ex2 te2)))) := fun x h => by rw [h]
    have HS := Lib.hid hS
    have HS2 := Lib.hid hS2
    have HB := Lib.hid hB
    have HB2 := Lib.hid hB2
    obtain ⟨f1, f2, f3⟩ := hS.facts
    obtain ⟨f4, f5, f6⟩ := hS2.facts
    obtain ⟨f1', f2', f3'⟩ := hB.facts
    obtain ⟨f4', f5', f6'⟩ := hB2.facts
    have HL := Lib.hid f1
    have HL2 := Lib.hid f4
    have HM := Lib.hid f1'
    have HM2 := Lib.hid f4'
    have HW0 := Lib.hid (((Below.refl w.heap.size w).alloc (Nat.le_refl _) (.cells #[.int .i64 op, .string nm, .slice a len cap, .slice b ben bap] 41)).alloc (by simp) (.cells #[.int .i64 op2, .string nm2, .slice a2 len2 cap2, .slice b2 ben2 bap2] 41))
    have BX := Lib.hid ((Mem.Blk.new w 41 #[.int .i64 op, .string nm, .slice a len cap, .slice b ben bap]).alloc (.cells #[.int .i64 op2, .string nm2, .slice a2 len2 cap2, .slice b2 ben2 bap2] 41))
    have BY := Lib.hid (Mem.Blk.new (w.alloc (.cells #[.int .i64 op, .string nm, .slice a len cap, .slice b ben bap] 41)) 41 #[.int .i64 op2, .string nm2, .slice a2 len2 cap2, .slice b2 ben2 bap2])
    rw [show (w.alloc (.cells #[.int .i64 op, .string nm, .slice a len cap, .slice b ben bap] 41)).heap.size = w.heap.size + 1 by simp] at BY
    clear ih hr hR hR2 hS hS2 hB hB2 i1 i12 f1 f4 f1' f4'
    by_cases ho : op = op2
    case neg =>
      have F := Lib.hid (HF.out false (eqv_no (fun h => ho (by injection h))))
      have t1 : (op != op2) = true := by simp [ho]
      clear ho
      go_enter Tryz.func33, Tryz.ntmps33
      go_wp2
      go_ret
      exact ⟨F.out, HW0.out⟩
    by_cases hm : nm = nm2
    case neg =>
      have F := Lib.hid (HF.out false (eqv_no (fun h => hm (by injection h))))
      have t1 : (nm.toList == nm2.toList) = false := tl_ne hm
      have t2 : (nm.toList != nm2.toList) = true := by rw [bne, t1]; rfl
      subst ho
      clear hm
      go_enter Tryz.func33, Tryz.ntmps33
      go_wp2
      go_ret
      exact ⟨F.out, HW0.out⟩
    subst ho hm
    have F : Hid (∀ x, (eqv ex ex2 && eqv te te2) = x → Ending.returned (.bool x) = .returned (.bool (eqv (Te.mk op nm ex te) (Te.mk op nm ex2 te2)))) := fun x hx => by rw [eqT, hx]
    clear HF
    generalize eqv (Te.mk op nm ex te) (Te.mk op nm ex2 te2) = R at *
    by_cases hl : len = len2
    case neg =>
      have F := Lib.hid (F.out false (by rw [eqv_no (fun h => hl (by rw [← HL.out, ← HL2.out, h]))]; rfl))
      have t1 : ((len : Int) != (len2 : Int)) = true := by rw [bne_iff_ne]; omega
      clear hl
      go_enter Tryz.func33, Tryz.ntmps33
      go_wp2
      go_ret
      exact ⟨F.out, HW0.out⟩
    by_cases hl2 : ben = ben2
    case neg =>
      have F := Lib.hid (F.out false (by rw [eqv_no (a := te) (fun h => hl2 (by rw [← HM.out, ← HM2.out, h]))]; simp))
      have t1 : ((ben : Int) != (ben2 : Int)) = true := by rw [bne_iff_ne]; omega
      subst hl
      clear hl2
      go_enter Tryz.func33, Tryz.ntmps33
      go_wp2
      go_ret
      exact ⟨F.out, HW0.out⟩
    subst hl hl2
    go_enter Tryz.func33, Tryz.ntmps33
    go_wp2_with fail
    go_loopw [5] (fun i wr => ∃ k : Nat, i = .int .i64 (k : Nat) ∧ k ≤ len ∧ Hid (Below w.heap.size w wr) ∧ Hid (Mem.Blk wr w.heap.size 41 #[.int .i64 op, .string nm, .slice a len cap, .slice b ben bap]) ∧ Hid (Mem.Blk wr (w.heap.size + 1) 41 #[.int .i64 op, .string nm, .slice a2 len cap2, .slice b2 ben bap2]) ∧ Hid (∀ (j : Nat) x, j < k → ex[j]? = some x → ex2[j]? = some x)) (fun i _ => len - (intOf i).toNat)
    case atStart => exact ⟨0, rfl, Nat.zero_le _, HW0.out, BX.out, BY.out, fun j y hj => absurd hj (Nat.not_lt_zero _)⟩
    case round =>
      clear BX BY HW0
      obtain ⟨k, rfl, hk, HW, HX, HY, HN⟩ := hrel
      have x2 : wr.cell? ⟨w.heap.size, 2, none⟩ = some (.slice a len cap) := HX.out.cell 2
      have y2 : wr.cell? ⟨w.heap.size + 1, 2, none⟩ = some (.slice a2 len cap2) := HY.out.cell 2
      by_cases hlt : k < len
      · obtain ⟨bb, o, op', n', nm', args', a', len', cap', rfl, hb, hbx, hle, j1, j2, j3, hS', g0, g1, g2, g3⟩ := (HS.out.kept (Kept.of_below HW.out [])).at k hlt
        obtain ⟨b4, o4, op4, n4, nm4, args4, a4, len4, cap4, rfl, hb4, hbx4, hle4, j41, j42, j43, hS4, g40, g41, g42, g43⟩ := (HS2.out.kept (Kept.of_below HW.out [])).at k hlt
        have HC := Lib.hid (fun W hW => rsameExpr_any (Ex.mk op' n' nm' args').rk (Ex.mk op' n' nm' args') (Nat.le_refl _) (Ex.mk op4 n4 nm4 args4) _ [.int .i64 op4, .int .i64 n4, .string nm4, .slice a4 len4 cap4] W (RepE.mk' j1 j2 j3 (hS'.kept hW)) (RepE.mk' j41 j42 j43 (hS4.kept hW)))
        have HK : Hid (Kept [] wr wr.drew) := ⟨Nat.le_refl _, fun _ _ _ => rfl⟩
        have HWD := Lib.hid HW.out.drew
        have HXD := Lib.hid HX.out.drew
        have HYD := Lib.hid HY.out.drew
        have HLE := Lib.hid hle
        have HLE4 := Lib.hid hle4
        have hidx : (0 : Int) ≤ (k : Int) := by omega
        have hidx2 : (k : Int) < (len : Int) := by omega
        clear hle hle4 hS' hS4
        generalize Ex.mk op' n' nm' args' = e' at *
        generalize Ex.mk op4 n4 nm4 args4 = e4 at *
        by_cases hp : e' = e4
        · have HN2 : Hid (∀ (j : Nat) x, j < k + 1 → ex[j]? = some x → ex2[j]? = some x) := by
            intro j y hj hy
            rcases Nat.lt_or_ge j k with h | h
            · exact HN.out j y h hy
            · obtain rfl : j = k := by omega
              rw [HLE.out] at hy; injection hy with hy; subst hy; rw [HLE4.out, hp]
          rw [eqv_yes hp] at HC
          clear hp
          go_wp2_with fail
          go_still_tail 10, (by kernel_rfl)
          change wpList _ _ _ _ _ wr.drew
          go_wp2_with fail
          refine (HC.out _ HK.out).mono ?_; rintro r w1 ⟨rfl, b1⟩
          go_wp2
          go_roundw
          case rel => exact ⟨k + 1, by go_num, by omega, HWD.out.trans (b1.mono HWD.out.size), HXD.out.below b1, HYD.out.below b1, HN2⟩
          case measure => simp [intOf]; omega
        · have F := Lib.hid (F.out false (by rw [eqv_no (list_ne HLE.out HLE4.out hp)]; rfl))
          rw [eqv_no hp] at HC
          clear hp
          go_wp2_with fail
          go_still_tail 10, (by kernel_rfl)
          change wpList _ _ _ _ _ wr.drew
          go_wp2_with fail
          refine (HC.out _ HK.out).mono ?_; rintro r w1 ⟨rfl, b1⟩
          go_wp2
          go_ret
          exact ⟨F.out, HWD.out.trans (b1.mono HWD.out.size)⟩
      · have F3 : Hid (∀ x, eqv te te2 = x → Ending.returned (.bool x) = .returned (.bool R)) := fun x hx => F.out x (by rw [eqv_yes (list_eq_of (by rw [HL.out, HL2.out]) (fun j x hj hx => HN.out j x (by rw [HL.out] at hj; omega) hx)), hx]; rfl)
        have W2 := HW
        have X2 := HX
        have Y2 := HY
        clear HW HX HY HN F HS HS2 HL HL2
        go_wp2_with fail
        clear x2 y2
        go_loopw [6] (fun i wr => ∃ k : Nat, i = .int .i64 (k : Nat) ∧ k ≤ ben ∧ Hid (Below w.heap.size w wr) ∧ Hid (Mem.Blk wr w.heap.size 41 #[.int .i64 op, .string nm, .slice a len cap, .slice b ben bap]) ∧ Hid (Mem.Blk wr (w.heap.size + 1) 41 #[.int .i64 op, .string nm, .slice a2 len cap2, .slice b2 ben bap2]) ∧ Hid (∀ (j : Nat) x, j < k → te[j]? = some x → te2[j]? = some x)) (fun i _ => ben - (intOf i).toNat)
        case atStart => exact ⟨0, rfl, Nat.zero_le _, W2.out, X2.out, Y2.out, fun j y hj => absurd hj (Nat.not_lt_zero _)⟩
        case round =>
          clear X2 Y2 W2
          obtain ⟨k2, rfl, hk2, HW, HX, HY, HN⟩ := hrel
          have x3 : wr.cell? ⟨w.heap.size, 3, none⟩ = some (.slice b ben bap) := HX.out.cell 3
          have y3 : wr.cell? ⟨w.heap.size + 1, 3, none⟩ = some (.slice b2 ben bap2) := HY.out.cell 3
          by_cases hlt2 : k2 < ben
          · obtain ⟨bb, o, op', nm', ex', te', a', len', cap', a3, len3, cap3, rfl, hb, hbx, hle, j1, j3, hS', hS3, g0, g1, g2, g3⟩ := (HB.out.kept (Kept.of_below HW.out [])).at k2 hlt2
            obtain ⟨b4, o4, op4, nm4, ex4, te4, a4, len4, cap4, a5, len5, cap5, rfl, hb4, hbx4, hle4, j41, j43, hS4, hS5, g40, g41, g42, g43⟩ := (HB2.out.kept (Kept.of_below HW.out [])).at k2 hlt2
            have HC := Lib.hid (fun W hW => HI.out k2 _ (Te.mk op4 nm4 ex4 te4) _ [.int .i64 op4, .string nm4, .slice a4 len4 cap4, .slice a5 len5 cap5] W hle (RepT.mk' j1 j3 (hS'.kept hW) (hS3.kept hW)) (RepT.mk' j41 j43 (hS4.kept hW) (hS5.kept hW)))
            have HK : Hid (Kept [] wr wr.drew) := ⟨Nat.le_refl _, fun _ _ _ => rfl⟩
            have HWD := Lib.hid HW.out.drew
            have HXD := Lib.hid HX.out.drew
            have HYD := Lib.hid HY.out.drew
            have HLE := Lib.hid hle
            have HLE4 := Lib.hid hle4
            have hidx : (0 : Int) ≤ (k2 : Int) := by omega
            have hidx2 : (k2 : Int) < (ben : Int) := by omega
            clear hle hle4 hS' hS4 hS3 hS5
            generalize Te.mk op' nm' ex' te' = e' at *
            generalize Te.mk op4 nm4 ex4 te4 = e4 at *
            by_cases hp : e' = e4
            · have HN2 : Hid (∀ (j : Nat) x, j < k2 + 1 → te[j]? = some x → te2[j]? = some x) := by
                intro j y hj hy
                rcases Nat.lt_or_ge j k2 with h | h
                · exact HN.out j y h hy
                · obtain rfl : j = k2 := by omega
                  rw [HLE.out] at hy; injection hy with hy; subst hy; rw [HLE4.out, hp]
              rw [eqv_yes hp] at HC
              clear hp
              go_wp2_with fail
              go_still_tail 10, (by kernel_rfl)
              change wpList _ _ _ _ _ wr.drew
              go_wp2_with fail
              refine (HC.out _ HK.out).mono ?_; rintro r w1 ⟨rfl, b1⟩
              go_wp2
              go_roundw
              case rel => exact ⟨k2 + 1, by go_num, by omega, HWD.out.trans (b1.mono HWD.out.size), HXD.out.below b1, HYD.out.below b1, HN2⟩
              case measure => simp [intOf]; omega
            · have F := Lib.hid (F3.out false (eqv_no (list_ne HLE.out HLE4.out hp)))
              rw [eqv_no hp] at HC
              clear hp
              go_wp2_with fail
              go_still_tail 10, (by kernel_rfl)
              change wpList _ _ _ _ _ wr.drew
              go_wp2_with fail
              refine (HC.out _ HK.out).mono ?_; rintro r w1 ⟨rfl, b1⟩
              go_wp2
              go_ret
              exact ⟨F.out, HWD.out.trans (b1.mono HWD.out.size)⟩
          · have F := Lib.hid (F3.out true (eqv_yes (list_eq_of (by rw [HM.out, HM2.out]) (fun j x hj hx => HN.out j x (by rw [HM.out] at hj; omega) hx))))
            go_wp2
            go_ret
            exact ⟨F.out, HW.out⟩
end Go.Proofs.YtmiinmndbkdjbaaGreat

/- The contract of law23.same, of what is the same. -/
namespace Go.Proofs.YtmiinmndbkdjbaaGreat
set_option linter.unusedVariables false
set_option linter.unusedSimpArgs false
open Go.RowKit
theorem ex_at9 {w : World} {X : List Nat} {l : List Ex} {a : Option Addr} {len cap : Nat} (h : SlR exK w X l a len cap) (k : Nat) (hk : k < len) : ∃ b o e op n nm aa al ac, a = some ⟨b, o, none⟩ ∧ l[k]? = some e ∧ RepE w X e [.int .i64 op, .int .i64 n, .string nm, .slice aa al ac] ∧
    w.cell? ⟨b, o + k * 4, none⟩ = some (.int .i64 op) ∧ w.cell? ⟨b, o + k * 4 + 1, none⟩ = some (.int .i64 n) ∧ w.cell? ⟨b, o + k * 4 + 2, none⟩ = some (.string nm) ∧ w.cell? ⟨b, o + k * 4 + 3, none⟩ = some (.slice aa al ac) := by
  obtain ⟨b, o, x, cs, ha, -, -, hx, hRx, -, hc⟩ := h.at k hk
  have hR : RepE w X x cs := hRx
  obtain ⟨op, no, nm, args, aa, al, ac, -, e2, -, -, -, -⟩ := hR.inv
  subst e2
  exact ⟨b, o, x, op, no, nm, aa, al, ac, ha, hx, hR, hc 0 _ rfl, hc 1 _ rfl, hc 2 _ rfl, hc 3 _ rfl⟩
set_option maxRecDepth 100000 in
set_option maxHeartbeats 16000000 in
theorem same23_any (P : List Prt) (F : List Flw) (pa fa qa ga : Option Addr) (n pc m fc qc gc : Nat) (w : World) (h1 : SlR ptK w [] P pa n pc) (h2 : SlR flK w [] F fa m fc) (h3 : SlR ptK w [] P qa n qc) (h4 : SlR flK w [] F ga m gc) :
    Calls Tryz.prog 14 #[.slice pa n pc, .slice fa m fc, .slice qa n qc, .slice ga m gc] w fun x w' => x = .returned (.bool true) ∧ Below w.heap.size w w' := by
  have HP := Lib.hid h1
  have HF := Lib.hid h2
  have HQ := Lib.hid h3
  have HG := Lib.hid h4
  have HM := Lib.hid (And.intro h1.facts.2 h2.facts.2)
  clear h1 h2 h3 h4
  go_enter Tryz.func14, Tryz.ntmps14
  go_wp2_with fail
  go_loopw [9] (fun i wr => ∃ (k : Nat), i = .int .i64 (k : Nat) ∧ k ≤ m ∧ Hid (Below w.heap.size w wr)) (fun i _ => m - (intOf i).toNat)
  case atStart => exact ⟨0, rfl, Nat.zero_le _, Below.refl _ _⟩
  case round =>
    rename World => w3
    obtain ⟨k, rfl, hk, HB⟩ := hrel
    by_cases hlt : k < m
    · as_aux_lemma =>
        have hlt' : (k : Int) < (m : Int) := by omega
        have k0 : (0 : Int) ≤ (k : Int) := by omega
        have k1 : (k : Int) ≤ 9223372036854775806 := by have := HM.out; omega
        obtain ⟨b, o, x, rfl, hx, hxo, u0, u1⟩ := fl_at (HF.out.kept (Kept.of_below HB.out [])) k hlt
        obtain ⟨b', o', y, rfl, hy, -, v0, v1⟩ := fl_at (HG.out.kept (Kept.of_below HB.out [])) k hlt
        rw [hx] at hy
        injection hy with hy
        subst hy
        generalize x.amt = xa at *
        generalize x.coin = xc at *
        have HLT := Lib.hid hlt
        clear hx hxo hlt
        go_upto_region 6 with (fail)
        go_quiet (fail)
        have bq : Below w3.heap.size w3 (w3.drewN nq) := below_drewN (Below.refl w3.heap.size w3) nq
        have HB4 := Lib.hid (HB.out.trans (bq.mono HB.out.size))
        clear bq u0 u1 v0 v1
        generalize w3.drewN nq = w4 at *
        go_wp2_with fail
        go_roundw
        case rel => exact ⟨k + 1, by go_num, by have := HLT.out; omega, HB4.out⟩
        case measure => simp [intOf]; have := HLT.out; omega
    · have hlt' : ¬ (k : Int) < (m : Int) := by omega
      obtain rfl : k = m := by omega
      clear hlt
      go_wp2_with fail
      go_loopw [10] (fun i wr => ∃ (k : Nat), i = .int .i64 (k : Nat) ∧ k ≤ n ∧ Hid (Below w.heap.size w wr)) (fun i _ => n - (intOf i).toNat)
      case atStart => exact ⟨0, rfl, Nat.zero_le _, HB.out⟩
      case round =>
        clear HB hlt'
        rename World => w3
        obtain ⟨j, rfl, hj, HB⟩ := hrel
        by_cases hlt : j < n
        · have hlt' : (j : Int) < (n : Int) := by omega
          have k0 : (0 : Int) ≤ (j : Int) := by omega
          have k1 : (j : Int) ≤ 9223372036854775806 := by have := HM.out; omega
          obtain ⟨b, o, p, ua, uc, op, nm, xa, xl, xc, ta, tl, tc, rfl, -, -, hp, hop, hf, hU, hT, u0, u1, u2, u3, u4, u5, u6⟩ := pt_at (HP.out.kept (Kept.of_below HB.out [])) j hlt
          obtain ⟨b', o', q, ua', uc', op', nm', xa', xl', xc', ta', tl', tc', rfl, -, -, hq, hop', hf', hU', hT', v0, v1, v2, v3, v4, v5, v6⟩ := pt_at (HQ.out.kept (Kept.of_below HB.out [])) j hlt
          rw [hp] at hq
          injection hq with hq
          subst hq
          have HSM := Lib.hid (rsame_any p.term.rk p.term (Nat.le_refl _) p.term _ _ w3.drew (hT.kept (Kept.of_below (Below.refl w3.heap.size w3).drew [])) (hT'.kept (Kept.of_below (Below.refl w3.heap.size w3).drew [])))
          rw [eqv_yes (rfl : p.term = p.term)] at HSM
          generalize p.factor = pf at *
          generalize p.turned = pt at *
          have HU := Lib.hid hU
          have HU' := Lib.hid hU'
          generalize p.til = U at *
          generalize hul : U.length = un at *
          have HUL := Lib.hid hul
          have HLT := Lib.hid hlt
          have HUM := Lib.hid HU.out.facts.2
          clear hul hp hop hf hU hT hop' hf' hU' hT' hlt
          go_upto_region 11 with (fail)
          go_cut [112] from 54 to 140 (fun v W4 => v = .bool false ∧ Hid (Below w3.heap.size w3 W4))
          case first =>
            as_aux_lemma =>
              refine wp_region_till (S := fun W => (W.cell? ⟨b, o + j * 7, none⟩ = some (.int .i64 pf) ∧ W.cell? ⟨b, o + j * 7 + 1, none⟩ = some (.bool pt) ∧ W.cell? ⟨b, o + j * 7 + 2, none⟩ = some (.slice ua un uc) ∧ W.cell? ⟨b, o + j * 7 + 3, none⟩ = some (.int .i64 op) ∧ W.cell? ⟨b, o + j * 7 + 4, none⟩ = some (.string nm) ∧ W.cell? ⟨b, o + j * 7 + 5, none⟩ = some (.slice xa xl xc) ∧ W.cell? ⟨b, o + j * 7 + 6, none⟩ = some (.slice ta tl tc)) ∧
                (W.cell? ⟨b', o' + j * 7, none⟩ = some (.int .i64 pf) ∧ W.cell? ⟨b', o' + j * 7 + 1, none⟩ = some (.bool pt) ∧ W.cell? ⟨b', o' + j * 7 + 2, none⟩ = some (.slice ua' un uc') ∧ W.cell? ⟨b', o' + j * 7 + 3, none⟩ = some (.int .i64 op') ∧ W.cell? ⟨b', o' + j * 7 + 4, none⟩ = some (.string nm') ∧ W.cell? ⟨b', o' + j * 7 + 5, none⟩ = some (.slice xa' xl' xc') ∧ W.cell? ⟨b', o' + j * 7 + 6, none⟩ = some (.slice ta' tl' tc'))) 50 (by kernel_rfl) ?_
              refine till_take (i := 0) (v := ?_) rfl (by kernel_rfl) (fun _ _ _ h => h) (Or.inl ⟨by rfl, ?_⟩) ⟨⟨u0,u1,u2,u3,u4,u5,u6⟩,v0,v1,v2,v3,v4,v5,v6⟩ ?_
              rotate_left
              · intro W hS
                try dsimp only at hS
                go_split_ands
                go_simp
                try with_reducible rfl
              try simp only [Act.put, List.getElem_toArray, List.getElem_cons_zero, List.getElem_cons_succ, List.setIfInBounds_toArray, List.set_cons_zero, List.set_cons_succ]
              refine till_take (i := 1) (v := ?_) rfl (by kernel_rfl) (fun _ _ _ h => h) (Or.inl ⟨by rfl, ?_⟩) ⟨⟨u0,u1,u2,u3,u4,u5,u6⟩,v0,v1,v2,v3,v4,v5,v6⟩ ?_
              rotate_left
              · intro W hS
                try dsimp only at hS
                go_split_ands
                go_simp
                try with_reducible rfl
              try simp only [Act.put, List.getElem_toArray, List.getElem_cons_zero, List.getElem_cons_succ, List.setIfInBounds_toArray, List.set_cons_zero, List.set_cons_succ]
              refine till_take (i := 2) (v := ?_) rfl (by kernel_rfl) (fun _ _ _ h => h) (Or.inl ⟨by rfl, ?_⟩) ⟨⟨u0,u1,u2,u3,u4,u5,u6⟩,v0,v1,v2,v3,v4,v5,v6⟩ ?_
              rotate_left
              · intro W hS
                try dsimp only at hS
                go_split_ands
                go_simp
                try with_reducible rfl
              try simp only [Act.put, List.getElem_toArray, List.getElem_cons_zero, List.getElem_cons_succ, List.setIfInBounds_toArray, List.set_cons_zero, List.set_cons_succ]
              refine till_take (i := 3) (v := ?_) rfl (by kernel_rfl) (fun _ _ _ h => h) (Or.inl ⟨by rfl, ?_⟩) ⟨⟨u0,u1,u2,u3,u4,u5,u6⟩,v0,v1,v2,v3,v4,v5,v6⟩ ?_
              rotate_left
              · intro W hS
                try dsimp only at hS
                go_split_ands
                go_simp
                try with_reducible rfl
              try simp only [Act.put, List.getElem_toArray, List.getElem_cons_zero, List.getElem_cons_succ, List.setIfInBounds_toArray, List.set_cons_zero, List.set_cons_succ]
              refine till_take (i := 4) (v := ?_) rfl (by kernel_rfl) (fun _ _ _ h => h) (Or.inl ⟨by rfl, ?_⟩) ⟨⟨u0,u1,u2,u3,u4,u5,u6⟩,v0,v1,v2,v3,v4,v5,v6⟩ ?_
              rotate_left
              · intro W hS
                try dsimp only at hS
                go_split_ands
                go_simp
                try with_reducible rfl
              try simp only [Act.put, List.getElem_toArray, List.getElem_cons_zero, List.getElem_cons_succ, List.setIfInBounds_toArray, List.set_cons_zero, List.set_cons_succ]
              refine till_take (i := 5) (v := ?_) rfl (by kernel_rfl) (fun _ _ _ h => h) (Or.inl ⟨by rfl, ?_⟩) ⟨⟨u0,u1,u2,u3,u4,u5,u6⟩,v0,v1,v2,v3,v4,v5,v6⟩ ?_
              rotate_left
              · intro W hS
                try dsimp only at hS
                go_split_ands
                go_simp
                try with_reducible rfl
              try simp only [Act.put, List.getElem_toArray, List.getElem_cons_zero, List.getElem_cons_succ, List.setIfInBounds_toArray, List.set_cons_zero, List.set_cons_succ]
              refine till_take (i := 6) (v := ?_) rfl (by kernel_rfl) (fun _ _ _ h => h) (Or.inl ⟨by rfl, ?_⟩) ⟨⟨u0,u1,u2,u3,u4,u5,u6⟩,v0,v1,v2,v3,v4,v5,v6⟩ ?_
              rotate_left
              · intro W hS
                try dsimp only at hS
                go_split_ands
                go_simp
                try with_reducible rfl
              try simp only [Act.put, List.getElem_toArray, List.getElem_cons_zero, List.getElem_cons_succ, List.setIfInBounds_toArray, List.set_cons_zero, List.set_cons_succ]
              refine till_take (i := 7) (v := ?_) rfl (by kernel_rfl) (fun _ _ _ h => h) (Or.inl ⟨by rfl, ?_⟩) ⟨⟨u0,u1,u2,u3,u4,u5,u6⟩,v0,v1,v2,v3,v4,v5,v6⟩ ?_
              rotate_left
              · intro W hS
                try dsimp only at hS
                go_split_ands
                go_simp
                try with_reducible rfl
              try simp only [Act.put, List.getElem_toArray, List.getElem_cons_zero, List.getElem_cons_succ, List.setIfInBounds_toArray, List.set_cons_zero, List.set_cons_succ]
              refine till_take (i := 8) (v := ?_) rfl (by kernel_rfl) (fun _ _ _ h => h) (Or.inl ⟨by rfl, ?_⟩) ⟨⟨u0,u1,u2,u3,u4,u5,u6⟩,v0,v1,v2,v3,v4,v5,v6⟩ ?_
              rotate_left
              · intro W hS
                try dsimp only at hS
                go_split_ands
                go_simp
                try with_reducible rfl
              try simp only [Act.put, List.getElem_toArray, List.getElem_cons_zero, List.getElem_cons_succ, List.setIfInBounds_toArray, List.set_cons_zero, List.set_cons_succ]
              refine till_take (i := 9) (v := ?_) rfl (by kernel_rfl) (fun _ _ _ h => h) (Or.inl ⟨by rfl, ?_⟩) ⟨⟨u0,u1,u2,u3,u4,u5,u6⟩,v0,v1,v2,v3,v4,v5,v6⟩ ?_
              rotate_left
              · intro W hS
                try dsimp only at hS
                go_split_ands
                go_simp
                try with_reducible rfl
              try simp only [Act.put, List.getElem_toArray, List.getElem_cons_zero, List.getElem_cons_succ, List.setIfInBounds_toArray, List.set_cons_zero, List.set_cons_succ]
              refine till_take (i := 10) (v := ?_) rfl (by kernel_rfl) (fun _ _ _ h => h) (Or.inl ⟨by rfl, ?_⟩) ⟨⟨u0,u1,u2,u3,u4,u5,u6⟩,v0,v1,v2,v3,v4,v5,v6⟩ ?_
              rotate_left
              · intro W hS
                try dsimp only at hS
                go_split_ands
                go_simp
                try with_reducible rfl
              try simp only [Act.put, List.getElem_toArray, List.getElem_cons_zero, List.getElem_cons_succ, List.setIfInBounds_toArray, List.set_cons_zero, List.set_cons_succ]
              refine till_take (i := 11) (v := ?_) rfl (by kernel_rfl) (fun _ _ _ h => h) (Or.inl ⟨by rfl, ?_⟩) ⟨⟨u0,u1,u2,u3,u4,u5,u6⟩,v0,v1,v2,v3,v4,v5,v6⟩ ?_
              rotate_left
              · intro W hS
                try dsimp only at hS
                go_split_ands
                go_simp
                try with_reducible rfl
              try simp only [Act.put, List.getElem_toArray, List.getElem_cons_zero, List.getElem_cons_succ, List.setIfInBounds_toArray, List.set_cons_zero, List.set_cons_succ]
              refine till_take (i := 12) (v := ?_) rfl (by kernel_rfl) (fun _ _ _ h => h) (Or.inl ⟨by rfl, ?_⟩) ⟨⟨u0,u1,u2,u3,u4,u5,u6⟩,v0,v1,v2,v3,v4,v5,v6⟩ ?_
              rotate_left
              · intro W hS
                try dsimp only at hS
                go_split_ands
                go_simp
                try with_reducible rfl
              try simp only [Act.put, List.getElem_toArray, List.getElem_cons_zero, List.getElem_cons_succ, List.setIfInBounds_toArray, List.set_cons_zero, List.set_cons_succ]
              refine till_take (i := 13) (v := ?_) rfl (by kernel_rfl) (fun _ _ _ h => h) (Or.inl ⟨by rfl, ?_⟩) ⟨⟨u0,u1,u2,u3,u4,u5,u6⟩,v0,v1,v2,v3,v4,v5,v6⟩ ?_
              rotate_left
              · intro W hS
                try dsimp only at hS
                go_split_ands
                go_simp
                try with_reducible rfl
              try simp only [Act.put, List.getElem_toArray, List.getElem_cons_zero, List.getElem_cons_succ, List.setIfInBounds_toArray, List.set_cons_zero, List.set_cons_succ]
              refine till_take (i := 14) (v := ?_) rfl (by kernel_rfl) (fun _ _ _ h => h) (Or.inl ⟨by rfl, ?_⟩) ⟨⟨u0,u1,u2,u3,u4,u5,u6⟩,v0,v1,v2,v3,v4,v5,v6⟩ ?_
              rotate_left
              · intro W hS
                try dsimp only at hS
                go_split_ands
                go_simp
                try with_reducible rfl
              try simp only [Act.put, List.getElem_toArray, List.getElem_cons_zero, List.getElem_cons_succ, List.setIfInBounds_toArray, List.set_cons_zero, List.set_cons_succ]
              refine till_take (i := 15) (v := ?_) rfl (by kernel_rfl) (fun _ _ _ h => h) (Or.inl ⟨by rfl, ?_⟩) ⟨⟨u0,u1,u2,u3,u4,u5,u6⟩,v0,v1,v2,v3,v4,v5,v6⟩ ?_
              rotate_left
              · intro W hS
                try dsimp only at hS
                go_split_ands
                go_simp
                try with_reducible rfl
              try simp only [Act.put, List.getElem_toArray, List.getElem_cons_zero, List.getElem_cons_succ, List.setIfInBounds_toArray, List.set_cons_zero, List.set_cons_succ]
              refine till_take (i := 16) (v := ?_) rfl (by kernel_rfl) (fun _ _ _ h => h) (Or.inl ⟨by rfl, ?_⟩) ⟨⟨u0,u1,u2,u3,u4,u5,u6⟩,v0,v1,v2,v3,v4,v5,v6⟩ ?_
              rotate_left
              · intro W hS
                try dsimp only at hS
                go_split_ands
                go_simp
                try with_reducible rfl
              try simp only [Act.put, List.getElem_toArray, List.getElem_cons_zero, List.getElem_cons_succ, List.setIfInBounds_toArray, List.set_cons_zero, List.set_cons_succ]
              refine till_take (i := 17) (v := ?_) rfl (by kernel_rfl) (fun _ _ _ h => h) (Or.inl ⟨by rfl, ?_⟩) ⟨⟨u0,u1,u2,u3,u4,u5,u6⟩,v0,v1,v2,v3,v4,v5,v6⟩ ?_
              rotate_left
              · intro W hS
                try dsimp only at hS
                go_split_ands
                go_simp
                try with_reducible rfl
              try simp only [Act.put, List.getElem_toArray, List.getElem_cons_zero, List.getElem_cons_succ, List.setIfInBounds_toArray, List.set_cons_zero, List.set_cons_succ]
              refine till_take (i := 18) (v := ?_) rfl (by kernel_rfl) (fun _ _ _ h => h) (Or.inl ⟨by rfl, ?_⟩) ⟨⟨u0,u1,u2,u3,u4,u5,u6⟩,v0,v1,v2,v3,v4,v5,v6⟩ ?_
              rotate_left
              · intro W hS
                try dsimp only at hS
                go_split_ands
                go_simp
                try with_reducible rfl
              try simp only [Act.put, List.getElem_toArray, List.getElem_cons_zero, List.getElem_cons_succ, List.setIfInBounds_toArray, List.set_cons_zero, List.set_cons_succ]
              refine till_take (i := 19) (v := ?_) rfl (by kernel_rfl) (fun _ _ _ h => h) (Or.inl ⟨by rfl, ?_⟩) ⟨⟨u0,u1,u2,u3,u4,u5,u6⟩,v0,v1,v2,v3,v4,v5,v6⟩ ?_
              rotate_left
              · intro W hS
                try dsimp only at hS
                go_split_ands
                go_simp
                try with_reducible rfl
              try simp only [Act.put, List.getElem_toArray, List.getElem_cons_zero, List.getElem_cons_succ, List.setIfInBounds_toArray, List.set_cons_zero, List.set_cons_succ]
              refine till_take (i := 20) (v := ?_) rfl (by kernel_rfl) (fun _ _ _ h => h) (Or.inl ⟨by rfl, ?_⟩) ⟨⟨u0,u1,u2,u3,u4,u5,u6⟩,v0,v1,v2,v3,v4,v5,v6⟩ ?_
              rotate_left
              · intro W hS
                try dsimp only at hS
                go_split_ands
                go_simp
                try with_reducible rfl
              try simp only [Act.put, List.getElem_toArray, List.getElem_cons_zero, List.getElem_cons_succ, List.setIfInBounds_toArray, List.set_cons_zero, List.set_cons_succ]
              refine till_take (i := 21) (v := ?_) rfl (by kernel_rfl) (fun _ _ _ h => h) (Or.inl ⟨by rfl, ?_⟩) ⟨⟨u0,u1,u2,u3,u4,u5,u6⟩,v0,v1,v2,v3,v4,v5,v6⟩ ?_
              rotate_left
              · intro W hS
                try dsimp only at hS
                go_split_ands
                go_simp
                try with_reducible rfl
              try simp only [Act.put, List.getElem_toArray, List.getElem_cons_zero, List.getElem_cons_succ, List.setIfInBounds_toArray, List.set_cons_zero, List.set_cons_succ]
              refine till_take (i := 22) (v := ?_) rfl (by kernel_rfl) (fun _ _ _ h => h) (Or.inl ⟨by rfl, ?_⟩) ⟨⟨u0,u1,u2,u3,u4,u5,u6⟩,v0,v1,v2,v3,v4,v5,v6⟩ ?_
              rotate_left
              · intro W hS
                try dsimp only at hS
                go_split_ands
                go_simp
                try with_reducible rfl
              try simp only [Act.put, List.getElem_toArray, List.getElem_cons_zero, List.getElem_cons_succ, List.setIfInBounds_toArray, List.set_cons_zero, List.set_cons_succ]
              refine till_take (i := 23) (v := ?_) rfl (by kernel_rfl) (fun _ _ _ h => h) (Or.inl ⟨by rfl, ?_⟩) ⟨⟨u0,u1,u2,u3,u4,u5,u6⟩,v0,v1,v2,v3,v4,v5,v6⟩ ?_
              rotate_left
              · intro W hS
                try dsimp only at hS
                go_split_ands
                go_simp
                try with_reducible rfl
              try simp only [Act.put, List.getElem_toArray, List.getElem_cons_zero, List.getElem_cons_succ, List.setIfInBounds_toArray, List.set_cons_zero, List.set_cons_succ]
              refine till_take (i := 24) (v := ?_) rfl (by kernel_rfl) (fun _ _ _ h => h) (Or.inl ⟨by rfl, ?_⟩) ⟨⟨u0,u1,u2,u3,u4,u5,u6⟩,v0,v1,v2,v3,v4,v5,v6⟩ ?_
              rotate_left
              · intro W hS
                try dsimp only at hS
                go_split_ands
                go_simp
                try with_reducible rfl
              try simp only [Act.put, List.getElem_toArray, List.getElem_cons_zero, List.getElem_cons_succ, List.setIfInBounds_toArray, List.set_cons_zero, List.set_cons_succ]
              refine till_take (i := 25) (v := ?_) rfl (by kernel_rfl) (fun _ _ _ h => h) (Or.inl ⟨by rfl, ?_⟩) ⟨⟨u0,u1,u2,u3,u4,u5,u6⟩,v0,v1,v2,v3,v4,v5,v6⟩ ?_
              rotate_left
              · intro W hS
                try dsimp only at hS
                go_split_ands
                go_simp
                try with_reducible rfl
              try simp only [Act.put, List.getElem_toArray, List.getElem_cons_zero, List.getElem_cons_succ, List.setIfInBounds_toArray, List.set_cons_zero, List.set_cons_succ]
              refine till_take (i := 26) (v := ?_) rfl (by kernel_rfl) (fun _ _ _ h => h) (Or.inl ⟨by rfl, ?_⟩) ⟨⟨u0,u1,u2,u3,u4,u5,u6⟩,v0,v1,v2,v3,v4,v5,v6⟩ ?_
              rotate_left
              · intro W hS
                try dsimp only at hS
                go_split_ands
                go_simp
                try with_reducible rfl
              try simp only [Act.put, List.getElem_toArray, List.getElem_cons_zero, List.getElem_cons_succ, List.setIfInBounds_toArray, List.set_cons_zero, List.set_cons_succ]
              refine till_take (i := 27) (v := ?_) rfl (by kernel_rfl) (fun _ _ _ h => h) (Or.inl ⟨by rfl, ?_⟩) ⟨⟨u0,u1,u2,u3,u4,u5,u6⟩,v0,v1,v2,v3,v4,v5,v6⟩ ?_
              rotate_left
              · intro W hS
                try dsimp only at hS
                go_split_ands
                go_simp
                try with_reducible rfl
              try simp only [Act.put, List.getElem_toArray, List.getElem_cons_zero, List.getElem_cons_succ, List.setIfInBounds_toArray, List.set_cons_zero, List.set_cons_succ]
              refine till_take (i := 28) (v := ?_) rfl (by kernel_rfl) (fun _ _ _ h => h) (Or.inl ⟨by rfl, ?_⟩) ⟨⟨u0,u1,u2,u3,u4,u5,u6⟩,v0,v1,v2,v3,v4,v5,v6⟩ ?_
              rotate_left
              · intro W hS
                try dsimp only at hS
                go_split_ands
                go_simp
                try with_reducible rfl
              try simp only [Act.put, List.getElem_toArray, List.getElem_cons_zero, List.getElem_cons_succ, List.setIfInBounds_toArray, List.set_cons_zero, List.set_cons_succ]
              refine till_take (i := 29) (v := ?_) rfl (by kernel_rfl) (fun _ _ _ h => h) (Or.inl ⟨by rfl, ?_⟩) ⟨⟨u0,u1,u2,u3,u4,u5,u6⟩,v0,v1,v2,v3,v4,v5,v6⟩ ?_
              rotate_left
              · intro W hS
                try dsimp only at hS
                go_split_ands
                go_simp
                try with_reducible rfl
              try simp only [Act.put, List.getElem_toArray, List.getElem_cons_zero, List.getElem_cons_succ, List.setIfInBounds_toArray, List.set_cons_zero, List.set_cons_succ]
              refine till_take (i := 30) (v := ?_) rfl (by kernel_rfl) (fun _ _ _ h => h) (Or.inl ⟨by rfl, ?_⟩) ⟨⟨u0,u1,u2,u3,u4,u5,u6⟩,v0,v1,v2,v3,v4,v5,v6⟩ ?_
              rotate_left
              · intro W hS
                try dsimp only at hS
                go_split_ands
                go_simp
                try with_reducible rfl
              try simp only [Act.put, List.getElem_toArray, List.getElem_cons_zero, List.getElem_cons_succ, List.setIfInBounds_toArray, List.set_cons_zero, List.set_cons_succ]
              refine till_take (i := 31) (v := ?_) rfl (by kernel_rfl) (fun _ _ _ h => h) (Or.inl ⟨by rfl, ?_⟩) ⟨⟨u0,u1,u2,u3,u4,u5,u6⟩,v0,v1,v2,v3,v4,v5,v6⟩ ?_
              rotate_left
              · intro W hS
                try dsimp only at hS
                go_split_ands
                go_simp
                try with_reducible rfl
              try simp only [Act.put, List.getElem_toArray, List.getElem_cons_zero, List.getElem_cons_succ, List.setIfInBounds_toArray, List.set_cons_zero, List.set_cons_succ]
              refine till_take (i := 32) (v := ?_) rfl (by kernel_rfl) (fun _ _ _ h => h) (Or.inl ⟨by rfl, ?_⟩) ⟨⟨u0,u1,u2,u3,u4,u5,u6⟩,v0,v1,v2,v3,v4,v5,v6⟩ ?_
              rotate_left
              · intro W hS
                try dsimp only at hS
                go_split_ands
                go_simp
                try with_reducible rfl
              try simp only [Act.put, List.getElem_toArray, List.getElem_cons_zero, List.getElem_cons_succ, List.setIfInBounds_toArray, List.set_cons_zero, List.set_cons_succ]
              refine till_take (i := 33) (v := ?_) rfl (by kernel_rfl) (fun _ _ _ h => h) (Or.inl ⟨by rfl, ?_⟩) ⟨⟨u0,u1,u2,u3,u4,u5,u6⟩,v0,v1,v2,v3,v4,v5,v6⟩ ?_
              rotate_left
              · intro W hS
                try dsimp only at hS
                go_split_ands
                go_simp
                try with_reducible rfl
              try simp only [Act.put, List.getElem_toArray, List.getElem_cons_zero, List.getElem_cons_succ, List.setIfInBounds_toArray, List.set_cons_zero, List.set_cons_succ]
              refine till_take (i := 34) (v := ?_) rfl (by kernel_rfl) (fun _ _ _ h => h) (Or.inl ⟨by rfl, ?_⟩) ⟨⟨u0,u1,u2,u3,u4,u5,u6⟩,v0,v1,v2,v3,v4,v5,v6⟩ ?_
              rotate_left
              · intro W hS
                try dsimp only at hS
                go_split_ands
                go_simp
                try with_reducible rfl
              try simp only [Act.put, List.getElem_toArray, List.getElem_cons_zero, List.getElem_cons_succ, List.setIfInBounds_toArray, List.set_cons_zero, List.set_cons_succ]
              refine till_take (i := 35) (v := ?_) rfl (by kernel_rfl) (fun _ _ _ h => h) (Or.inl ⟨by rfl, ?_⟩) ⟨⟨u0,u1,u2,u3,u4,u5,u6⟩,v0,v1,v2,v3,v4,v5,v6⟩ ?_
              rotate_left
              · intro W hS
                try dsimp only at hS
                go_split_ands
                go_simp
                try with_reducible rfl
              try simp only [Act.put, List.getElem_toArray, List.getElem_cons_zero, List.getElem_cons_succ, List.setIfInBounds_toArray, List.set_cons_zero, List.set_cons_succ]
              refine till_take (i := 36) (v := ?_) rfl (by kernel_rfl) (fun _ _ _ h => h) (Or.inl ⟨by rfl, ?_⟩) ⟨⟨u0,u1,u2,u3,u4,u5,u6⟩,v0,v1,v2,v3,v4,v5,v6⟩ ?_
              rotate_left
              · intro W hS
                try dsimp only at hS
                go_split_ands
                go_simp
                try with_reducible rfl
              try simp only [Act.put, List.getElem_toArray, List.getElem_cons_zero, List.getElem_cons_succ, List.setIfInBounds_toArray, List.set_cons_zero, List.set_cons_succ]
              refine till_take (i := 37) (v := ?_) rfl (by kernel_rfl) (fun _ _ _ h => h) (Or.inl ⟨by rfl, ?_⟩) ⟨⟨u0,u1,u2,u3,u4,u5,u6⟩,v0,v1,v2,v3,v4,v5,v6⟩ ?_
              rotate_left
              · intro W hS
                try dsimp only at hS
                go_split_ands
                go_simp
                try with_reducible rfl
              try simp only [Act.put, List.getElem_toArray, List.getElem_cons_zero, List.getElem_cons_succ, List.setIfInBounds_toArray, List.set_cons_zero, List.set_cons_succ]
              refine till_take (i := 38) (v := ?_) rfl (by kernel_rfl) (fun _ _ _ h => h) (Or.inl ⟨by rfl, ?_⟩) ⟨⟨u0,u1,u2,u3,u4,u5,u6⟩,v0,v1,v2,v3,v4,v5,v6⟩ ?_
              rotate_left
              · intro W hS
                try dsimp only at hS
                go_split_ands
                go_simp
                try with_reducible rfl
              try simp only [Act.put, List.getElem_toArray, List.getElem_cons_zero, List.getElem_cons_succ, List.setIfInBounds_toArray, List.set_cons_zero, List.set_cons_succ]
              refine till_take (i := 39) (v := ?_) rfl (by kernel_rfl) (fun _ _ _ h => h) (Or.inl ⟨by rfl, ?_⟩) ⟨⟨u0,u1,u2,u3,u4,u5,u6⟩,v0,v1,v2,v3,v4,v5,v6⟩ ?_
              rotate_left
              · intro W hS
                try dsimp only at hS
                go_split_ands
                go_simp
                try with_reducible rfl
              try simp only [Act.put, List.getElem_toArray, List.getElem_cons_zero, List.getElem_cons_succ, List.setIfInBounds_toArray, List.set_cons_zero, List.set_cons_succ]
              refine till_take (i := 40) (v := ?_) rfl (by kernel_rfl) (fun _ _ _ h => h) (Or.inl ⟨by rfl, ?_⟩) ⟨⟨u0,u1,u2,u3,u4,u5,u6⟩,v0,v1,v2,v3,v4,v5,v6⟩ ?_
              rotate_left
              · intro W hS
                try dsimp only at hS
                go_split_ands
                go_simp
                try with_reducible rfl
              try simp only [Act.put, List.getElem_toArray, List.getElem_cons_zero, List.getElem_cons_succ, List.setIfInBounds_toArray, List.set_cons_zero, List.set_cons_succ]
              refine till_take (i := 41) (v := ?_) rfl (by kernel_rfl) (fun _ _ _ h => h) (Or.inl ⟨by rfl, ?_⟩) ⟨⟨u0,u1,u2,u3,u4,u5,u6⟩,v0,v1,v2,v3,v4,v5,v6⟩ ?_
              rotate_left
              · intro W hS
                try dsimp only at hS
                go_split_ands
                go_simp
                try with_reducible rfl
              try simp only [Act.put, List.getElem_toArray, List.getElem_cons_zero, List.getElem_cons_succ, List.setIfInBounds_toArray, List.set_cons_zero, List.set_cons_succ]
              refine till_take (i := 42) (v := ?_) rfl (by kernel_rfl) (fun _ _ _ h => h) (Or.inl ⟨by rfl, ?_⟩) ⟨⟨u0,u1,u2,u3,u4,u5,u6⟩,v0,v1,v2,v3,v4,v5,v6⟩ ?_
              rotate_left
              · intro W hS
                try dsimp only at hS
                go_split_ands
                go_simp
                try with_reducible rfl
              try simp only [Act.put, List.getElem_toArray, List.getElem_cons_zero, List.getElem_cons_succ, List.setIfInBounds_toArray, List.set_cons_zero, List.set_cons_succ]
              refine till_take (i := 43) (v := ?_) rfl (by kernel_rfl) (fun _ _ _ h => h) (Or.inl ⟨by rfl, ?_⟩) ⟨⟨u0,u1,u2,u3,u4,u5,u6⟩,v0,v1,v2,v3,v4,v5,v6⟩ ?_
              rotate_left
              · intro W hS
                try dsimp only at hS
                go_split_ands
                go_simp
                try with_reducible rfl
              try simp only [Act.put, List.getElem_toArray, List.getElem_cons_zero, List.getElem_cons_succ, List.setIfInBounds_toArray, List.set_cons_zero, List.set_cons_succ]
              refine till_take (i := 44) (v := ?_) rfl (by kernel_rfl) (fun _ _ _ h => h) (Or.inl ⟨by rfl, ?_⟩) ⟨⟨u0,u1,u2,u3,u4,u5,u6⟩,v0,v1,v2,v3,v4,v5,v6⟩ ?_
              rotate_left
              · intro W hS
                try dsimp only at hS
                go_split_ands
                go_simp
                try with_reducible rfl
              try simp only [Act.put, List.getElem_toArray, List.getElem_cons_zero, List.getElem_cons_succ, List.setIfInBounds_toArray, List.set_cons_zero, List.set_cons_succ]
              refine till_take (i := 45) (v := ?_) rfl (by kernel_rfl) (fun _ _ _ h => h) (Or.inl ⟨by rfl, ?_⟩) ⟨⟨u0,u1,u2,u3,u4,u5,u6⟩,v0,v1,v2,v3,v4,v5,v6⟩ ?_
              rotate_left
              · intro W hS
                try dsimp only at hS
                go_split_ands
                go_simp
                try with_reducible rfl
              try simp only [Act.put, List.getElem_toArray, List.getElem_cons_zero, List.getElem_cons_succ, List.setIfInBounds_toArray, List.set_cons_zero, List.set_cons_succ]
              refine till_take (i := 46) (v := ?_) rfl (by kernel_rfl) (fun _ _ _ h => h) (Or.inl ⟨by rfl, ?_⟩) ⟨⟨u0,u1,u2,u3,u4,u5,u6⟩,v0,v1,v2,v3,v4,v5,v6⟩ ?_
              rotate_left
              · intro W hS
                try dsimp only at hS
                go_split_ands
                go_simp
                try with_reducible rfl
              try simp only [Act.put, List.getElem_toArray, List.getElem_cons_zero, List.getElem_cons_succ, List.setIfInBounds_toArray, List.set_cons_zero, List.set_cons_succ]
              refine till_take (i := 47) (v := ?_) rfl (by kernel_rfl) (fun _ _ _ h => h) (Or.inl ⟨by rfl, ?_⟩) ⟨⟨u0,u1,u2,u3,u4,u5,u6⟩,v0,v1,v2,v3,v4,v5,v6⟩ ?_
              rotate_left
              · intro W hS
                try dsimp only at hS
                go_split_ands
                go_simp
                try with_reducible rfl
              try simp only [Act.put, List.getElem_toArray, List.getElem_cons_zero, List.getElem_cons_succ, List.setIfInBounds_toArray, List.set_cons_zero, List.set_cons_succ]
              refine till_take (i := 48) (v := ?_) rfl (by kernel_rfl) (fun _ _ _ h => h) (Or.inl ⟨by rfl, ?_⟩) ⟨⟨u0,u1,u2,u3,u4,u5,u6⟩,v0,v1,v2,v3,v4,v5,v6⟩ ?_
              rotate_left
              · intro W hS
                try dsimp only at hS
                go_split_ands
                go_simp
                try with_reducible rfl
              try simp only [Act.put, List.getElem_toArray, List.getElem_cons_zero, List.getElem_cons_succ, List.setIfInBounds_toArray, List.set_cons_zero, List.set_cons_succ]
              refine till_take (i := 49) (v := ?_) rfl (by kernel_rfl) (fun _ _ _ h => h) (Or.inl ⟨by rfl, ?_⟩) ⟨⟨u0,u1,u2,u3,u4,u5,u6⟩,v0,v1,v2,v3,v4,v5,v6⟩ ?_
              rotate_left
              · intro W hS
                try dsimp only at hS
                go_split_ands
                go_simp
                try with_reducible rfl
              try simp only [Act.put, List.getElem_toArray, List.getElem_cons_zero, List.getElem_cons_succ, List.setIfInBounds_toArray, List.set_cons_zero, List.set_cons_succ]
              refine till_last (by kernel_rfl) rfl (by kernel_rfl) (fun K' hK => ?_)
              go_simp
              (with_reducible refine HSM.out.mono ?_)
              rintro y w4 ⟨rfl, b4⟩
              have bq : Below w3.heap.size w3 w4 := (Below.refl w3.heap.size w3).drew.trans b4
              have HBQ := Lib.hid bq
              refine hK _ _ ?_
              clear hK K' b4 bq u0 u1 u2 u3 u4 u5 u6 v0 v1 v2 v3 v4 v5 v6 HSM
              try simp only [Act.put, List.getElem_toArray, List.getElem_cons_zero, List.getElem_cons_succ, List.setIfInBounds_toArray, List.set_cons_zero, List.set_cons_succ]
              refine any_take (i := 51) (v := ?_) rfl (by kernel_rfl) (fun _ _ _ h => h) (Or.inl ⟨by rfl, ?_⟩) ?_
              rotate_left
              · intro W
                go_simp
                try with_reducible rfl
              try simp only [Act.put, List.getElem_toArray, List.getElem_cons_zero, List.getElem_cons_succ, List.setIfInBounds_toArray, List.set_cons_zero, List.set_cons_succ]
              refine any_take (i := 52) (v := ?_) rfl (by kernel_rfl) (fun _ _ _ h => h) (Or.inl ⟨by rfl, ?_⟩) ?_
              rotate_left
              · intro W
                go_simp
                try with_reducible rfl
              try simp only [Act.put, List.getElem_toArray, List.getElem_cons_zero, List.getElem_cons_succ, List.setIfInBounds_toArray, List.set_cons_zero, List.set_cons_succ]
              refine wpAny_done (by kernel_rfl) ?_ _
              go_wp2_with fail
              go_meet
              case rel => exact ⟨rfl, HBQ.out⟩
          obtain ⟨rfl, HBQ⟩ := hcut
          obtain ⟨w4, rfl⟩ : ∃ W4 : World, W4 = wc := ⟨_, rfl⟩
          have bq := HBQ.out
          have HB4 := Lib.hid (HB.out.trans (bq.mono HB.out.size))
          have HV := Lib.hid (HU.out.kept (Kept.of_below bq []))
          have HV' := Lib.hid (HU'.out.kept (Kept.of_below bq []))
          have HC : Hid (w4.cell? ⟨b, o + j * 7 + 2, none⟩ = some (.slice ua un uc) ∧ w4.cell? ⟨b', o' + j * 7 + 2, none⟩ = some (.slice ua' un uc')) := ⟨cell_up u2 bq, cell_up v2 bq⟩
          clear bq u0 u1 u2 u3 u4 u5 u6 v0 v1 v2 v3 v4 v5 v6 HSM HU HU' HB
          go_wp2_with fail
          go_loopw [11] (fun i wr => ∃ (k : Nat), i = .int .i64 (k : Nat) ∧ k ≤ un ∧ Hid (Below w4.heap.size w4 wr)) (fun i _ => un - (intOf i).toNat)
          case atStart => exact ⟨0, rfl, Nat.zero_le _, Below.refl _ _⟩
          case round =>
            rename World => w5
            obtain ⟨q, rfl, hq, HB5⟩ := hrel
            have c0 := cell_up HC.out.1 HB5.out
            by_cases hqt : q < un
            · as_aux_lemma =>
                have hqt' : (q : Int) < (un : Int) := by omega
                have q0 : (0 : Int) ≤ (q : Int) := by omega
                have q1 : (q : Int) ≤ 9223372036854775806 := by have := HUM.out; omega
                obtain ⟨e, oe, x, xo, xn, xs, aa, al, ac, rfl, hx, hX, x0, x1, x2, x3⟩ := ex_at9 (HV.out.kept (Kept.of_below HB5.out [])) q hqt
                obtain ⟨e', oe', x', xo', xn', xs', aa', al', ac', rfl, hx', hX', y0, y1, y2, y3⟩ := ex_at9 (HV'.out.kept (Kept.of_below HB5.out [])) q hqt
                rw [hx] at hx'
                injection hx' with hx'
                subst hx'
                have HSE := Lib.hid (rsameExpr_any x.rk x (Nat.le_refl _) x _ _ w5.drew (hX.kept (Kept.of_below (Below.refl w5.heap.size w5).drew [])) (hX'.kept (Kept.of_below (Below.refl w5.heap.size w5).drew [])))
                rw [eqv_yes (rfl : x = x)] at HSE
                have c1 := cell_up HC.out.2 HB5.out
                have HQT := Lib.hid hqt
                clear hx hX hX' hqt
                go_upto_region 16 with (fail)
                refine wp_region_till (S := fun W => (W.cell? ⟨b, o + j * 7 + 2, none⟩ = some (.slice (some ⟨e, oe, none⟩) un uc) ∧ W.cell? ⟨b', o' + j * 7 + 2, none⟩ = some (.slice (some ⟨e', oe', none⟩) un uc')) ∧ (W.cell? ⟨e, oe + q * 4, none⟩ = some (.int .i64 xo) ∧ W.cell? ⟨e, oe + q * 4 + 1, none⟩ = some (.int .i64 xn) ∧ W.cell? ⟨e, oe + q * 4 + 2, none⟩ = some (.string xs) ∧ W.cell? ⟨e, oe + q * 4 + 3, none⟩ = some (.slice aa al ac)) ∧
                  (W.cell? ⟨e', oe' + q * 4, none⟩ = some (.int .i64 xo') ∧ W.cell? ⟨e', oe' + q * 4 + 1, none⟩ = some (.int .i64 xn') ∧ W.cell? ⟨e', oe' + q * 4 + 2, none⟩ = some (.string xs') ∧ W.cell? ⟨e', oe' + q * 4 + 3, none⟩ = some (.slice aa' al' ac'))) 16 (by kernel_rfl) ?_
                refine till_take (i := 0) (v := ?_) rfl (by kernel_rfl) (fun _ _ _ h => h) (Or.inl ⟨by rfl, ?_⟩) ⟨⟨c0,c1⟩,⟨x0,x1,x2,x3⟩,y0,y1,y2,y3⟩ ?_
                rotate_left
                · intro W hS
                  try dsimp only at hS
                  go_split_ands
                  go_simp
                  try with_reducible rfl
                try simp only [Act.put, List.getElem_toArray, List.getElem_cons_zero, List.getElem_cons_succ, List.setIfInBounds_toArray, List.set_cons_zero, List.set_cons_succ]
                refine till_take (i := 1) (v := ?_) rfl (by kernel_rfl) (fun _ _ _ h => h) (Or.inl ⟨by rfl, ?_⟩) ⟨⟨c0,c1⟩,⟨x0,x1,x2,x3⟩,y0,y1,y2,y3⟩ ?_
                rotate_left
                · intro W hS
                  try dsimp only at hS
                  go_split_ands
                  go_simp
                  try with_reducible rfl
                try simp only [Act.put, List.getElem_toArray, List.getElem_cons_zero, List.getElem_cons_succ, List.setIfInBounds_toArray, List.set_cons_zero, List.set_cons_succ]
                refine till_take (i := 2) (v := ?_) rfl (by kernel_rfl) (fun _ _ _ h => h) (Or.inl ⟨by rfl, ?_⟩) ⟨⟨c0,c1⟩,⟨x0,x1,x2,x3⟩,y0,y1,y2,y3⟩ ?_
                rotate_left
                · intro W hS
                  try dsimp only at hS
                  go_split_ands
                  go_simp
                  try with_reducible rfl
                try simp only [Act.put, List.getElem_toArray, List.getElem_cons_zero, List.getElem_cons_succ, List.setIfInBounds_toArray, List.set_cons_zero, List.set_cons_succ]
                refine till_take (i := 3) (v := ?_) rfl (by kernel_rfl) (fun _ _ _ h => h) (Or.inl ⟨by rfl, ?_⟩) ⟨⟨c0,c1⟩,⟨x0,x1,x2,x3⟩,y0,y1,y2,y3⟩ ?_
                rotate_left
                · intro W hS
                  try dsimp only at hS
                  go_split_ands
                  go_simp
                  try with_reducible rfl
                try simp only [Act.put, List.getElem_toArray, List.getElem_cons_zero, List.getElem_cons_succ, List.setIfInBounds_toArray, List.set_cons_zero, List.set_cons_succ]
                refine till_take (i := 4) (v := ?_) rfl (by kernel_rfl) (fun _ _ _ h => h) (Or.inl ⟨by rfl, ?_⟩) ⟨⟨c0,c1⟩,⟨x0,x1,x2,x3⟩,y0,y1,y2,y3⟩ ?_
                rotate_left
                · intro W hS
                  try dsimp only at hS
                  go_split_ands
                  go_simp
                  try with_reducible rfl
                try simp only [Act.put, List.getElem_toArray, List.getElem_cons_zero, List.getElem_cons_succ, List.setIfInBounds_toArray, List.set_cons_zero, List.set_cons_succ]
                refine till_take (i := 5) (v := ?_) rfl (by kernel_rfl) (fun _ _ _ h => h) (Or.inl ⟨by rfl, ?_⟩) ⟨⟨c0,c1⟩,⟨x0,x1,x2,x3⟩,y0,y1,y2,y3⟩ ?_
                rotate_left
                · intro W hS
                  try dsimp only at hS
                  go_split_ands
                  go_simp
                  try with_reducible rfl
                try simp only [Act.put, List.getElem_toArray, List.getElem_cons_zero, List.getElem_cons_succ, List.setIfInBounds_toArray, List.set_cons_zero, List.set_cons_succ]
                refine till_take (i := 6) (v := ?_) rfl (by kernel_rfl) (fun _ _ _ h => h) (Or.inl ⟨by rfl, ?_⟩) ⟨⟨c0,c1⟩,⟨x0,x1,x2,x3⟩,y0,y1,y2,y3⟩ ?_
                rotate_left
                · intro W hS
                  try dsimp only at hS
                  go_split_ands
                  go_simp
                  try with_reducible rfl
                try simp only [Act.put, List.getElem_toArray, List.getElem_cons_zero, List.getElem_cons_succ, List.setIfInBounds_toArray, List.set_cons_zero, List.set_cons_succ]
                refine till_take (i := 7) (v := ?_) rfl (by kernel_rfl) (fun _ _ _ h => h) (Or.inl ⟨by rfl, ?_⟩) ⟨⟨c0,c1⟩,⟨x0,x1,x2,x3⟩,y0,y1,y2,y3⟩ ?_
                rotate_left
                · intro W hS
                  try dsimp only at hS
                  go_split_ands
                  go_simp
                  try with_reducible rfl
                try simp only [Act.put, List.getElem_toArray, List.getElem_cons_zero, List.getElem_cons_succ, List.setIfInBounds_toArray, List.set_cons_zero, List.set_cons_succ]
                refine till_take (i := 8) (v := ?_) rfl (by kernel_rfl) (fun _ _ _ h => h) (Or.inl ⟨by rfl, ?_⟩) ⟨⟨c0,c1⟩,⟨x0,x1,x2,x3⟩,y0,y1,y2,y3⟩ ?_
                rotate_left
                · intro W hS
                  try dsimp only at hS
                  go_split_ands
                  go_simp
                  try with_reducible rfl
                try simp only [Act.put, List.getElem_toArray, List.getElem_cons_zero, List.getElem_cons_succ, List.setIfInBounds_toArray, List.set_cons_zero, List.set_cons_succ]
                refine till_take (i := 9) (v := ?_) rfl (by kernel_rfl) (fun _ _ _ h => h) (Or.inl ⟨by rfl, ?_⟩) ⟨⟨c0,c1⟩,⟨x0,x1,x2,x3⟩,y0,y1,y2,y3⟩ ?_
                rotate_left
                · intro W hS
                  try dsimp only at hS
                  go_split_ands
                  go_simp
                  try with_reducible rfl
                try simp only [Act.put, List.getElem_toArray, List.getElem_cons_zero, List.getElem_cons_succ, List.setIfInBounds_toArray, List.set_cons_zero, List.set_cons_succ]
                refine till_take (i := 10) (v := ?_) rfl (by kernel_rfl) (fun _ _ _ h => h) (Or.inl ⟨by rfl, ?_⟩) ⟨⟨c0,c1⟩,⟨x0,x1,x2,x3⟩,y0,y1,y2,y3⟩ ?_
                rotate_left
                · intro W hS
                  try dsimp only at hS
                  go_split_ands
                  go_simp
                  try with_reducible rfl
                try simp only [Act.put, List.getElem_toArray, List.getElem_cons_zero, List.getElem_cons_succ, List.setIfInBounds_toArray, List.set_cons_zero, List.set_cons_succ]
                refine till_take (i := 11) (v := ?_) rfl (by kernel_rfl) (fun _ _ _ h => h) (Or.inl ⟨by rfl, ?_⟩) ⟨⟨c0,c1⟩,⟨x0,x1,x2,x3⟩,y0,y1,y2,y3⟩ ?_
                rotate_left
                · intro W hS
                  try dsimp only at hS
                  go_split_ands
                  go_simp
                  try with_reducible rfl
                try simp only [Act.put, List.getElem_toArray, List.getElem_cons_zero, List.getElem_cons_succ, List.setIfInBounds_toArray, List.set_cons_zero, List.set_cons_succ]
                refine till_take (i := 12) (v := ?_) rfl (by kernel_rfl) (fun _ _ _ h => h) (Or.inl ⟨by rfl, ?_⟩) ⟨⟨c0,c1⟩,⟨x0,x1,x2,x3⟩,y0,y1,y2,y3⟩ ?_
                rotate_left
                · intro W hS
                  try dsimp only at hS
                  go_split_ands
                  go_simp
                  try with_reducible rfl
                try simp only [Act.put, List.getElem_toArray, List.getElem_cons_zero, List.getElem_cons_succ, List.setIfInBounds_toArray, List.set_cons_zero, List.set_cons_succ]
                refine till_take (i := 13) (v := ?_) rfl (by kernel_rfl) (fun _ _ _ h => h) (Or.inl ⟨by rfl, ?_⟩) ⟨⟨c0,c1⟩,⟨x0,x1,x2,x3⟩,y0,y1,y2,y3⟩ ?_
                rotate_left
                · intro W hS
                  try dsimp only at hS
                  go_split_ands
                  go_simp
                  try with_reducible rfl
                try simp only [Act.put, List.getElem_toArray, List.getElem_cons_zero, List.getElem_cons_succ, List.setIfInBounds_toArray, List.set_cons_zero, List.set_cons_succ]
                refine till_take (i := 14) (v := ?_) rfl (by kernel_rfl) (fun _ _ _ h => h) (Or.inl ⟨by rfl, ?_⟩) ⟨⟨c0,c1⟩,⟨x0,x1,x2,x3⟩,y0,y1,y2,y3⟩ ?_
                rotate_left
                · intro W hS
                  try dsimp only at hS
                  go_split_ands
                  go_simp
                  try with_reducible rfl
                try simp only [Act.put, List.getElem_toArray, List.getElem_cons_zero, List.getElem_cons_succ, List.setIfInBounds_toArray, List.set_cons_zero, List.set_cons_succ]
                refine till_take (i := 15) (v := ?_) rfl (by kernel_rfl) (fun _ _ _ h => h) (Or.inl ⟨by rfl, ?_⟩) ⟨⟨c0,c1⟩,⟨x0,x1,x2,x3⟩,y0,y1,y2,y3⟩ ?_
                rotate_left
                · intro W hS
                  try dsimp only at hS
                  go_split_ands
                  go_simp
                  try with_reducible rfl
                try simp only [Act.put, List.getElem_toArray, List.getElem_cons_zero, List.getElem_cons_succ, List.setIfInBounds_toArray, List.set_cons_zero, List.set_cons_succ]
                refine till_last (by kernel_rfl) rfl (by kernel_rfl) (fun K' hK => ?_)
                go_simp
                (with_reducible refine HSE.out.mono ?_)
                rintro y w6 ⟨rfl, b6⟩
                have bq : Below w5.heap.size w5 w6 := (Below.refl w5.heap.size w5).drew.trans b6
                have HB6 := Lib.hid (HB5.out.trans (bq.mono HB5.out.size))
                refine hK _ _ ?_
                clear hK K' b6 bq x0 x1 x2 x3 y0 y1 y2 y3 HSE
                try simp only [Act.put, List.getElem_toArray, List.getElem_cons_zero, List.getElem_cons_succ, List.setIfInBounds_toArray, List.set_cons_zero, List.set_cons_succ]
                refine any_take (i := 17) (v := ?_) rfl (by kernel_rfl) (fun _ _ _ h => h) (Or.inl ⟨by rfl, ?_⟩) ?_
                rotate_left
                · intro W
                  go_simp
                  try with_reducible rfl
                try simp only [Act.put, List.getElem_toArray, List.getElem_cons_zero, List.getElem_cons_succ, List.setIfInBounds_toArray, List.set_cons_zero, List.set_cons_succ]
                refine wpAny_done (by kernel_rfl) ?_ _
                clear c0 c1
                go_wp2_with fail
                go_roundw
                case rel => exact ⟨q + 1, by go_num, by have := HQT.out; omega, HB6.out⟩
                case measure => simp [intOf]; have := HQT.out; omega
            · have hqt' : ¬ (q : Int) < (un : Int) := by omega
              obtain rfl : q = un := by omega
              have HB7 := Lib.hid (HB4.out.trans (HB5.out.mono HB4.out.size))
              clear hqt
              go_wp2_with fail
              go_roundw
              case rel => exact ⟨j + 1, by go_num, by have := HLT.out; omega, HB7.out⟩
              case measure => simp [intOf]; have := HLT.out; omega
        · have hlt' : ¬ (j : Int) < (n : Int) := by omega
          obtain rfl : j = n := by omega
          clear hlt
          go_wp2_with fail
          go_ret
          exact ⟨rfl, HB.out⟩
end Go.Proofs.YtmiinmndbkdjbaaGreat

/- The ledger: accounts, moves, entries; what put gives: plain. -/
namespace Go.Proofs.YtmiinmndbkdjbaaGreat
set_option linter.unusedVariables false
set_option linter.unusedSimpArgs false
open Go.RowKit
abbrev Ky := List UInt8 × List UInt8
structure Acct where
  party : ByteArray
  coin : ByteArray
  amt : Int
structure Mv where
  src : ByteArray
  dst : ByteArray
  coin : ByteArray
  amt : Int
def Acct.key (a : Acct) : Ky := (a.party.data.toList, a.coin.data.toList)
def scmp (x y : List UInt8) : Int := if x < y then -1 else if y < x then 1 else 0
def kcmp (x y : Ky) : Int := if scmp x.1 y.1 ≠ 0 then scmp x.1 y.1 else scmp x.2 y.2
theorem scmp_range (x y : List UInt8) : scmp x y = -1 ∨ scmp x y = 0 ∨ scmp x y = 1 := by
  unfold scmp
  split
  · exact .inl rfl
  · split
    · exact .inr (.inr rfl)
    · exact .inr (.inl rfl)
theorem scmp_zero {x y : List UInt8} : scmp x y = 0 ↔ x = y := by
  unfold scmp
  constructor
  · intro h
    split at h
    · cases h
    · split at h
      · cases h
      · rename_i h1 h2
        exact List.le_antisymm h2 h1
  · rintro rfl
    rw [if_neg (List.lt_irrefl x), if_neg (List.lt_irrefl x)]
theorem scmp_neg {x y : List UInt8} : scmp x y < 0 ↔ x < y := by
  unfold scmp
  constructor
  · intro h
    split at h
    · assumption
    · split at h <;> omega
  · intro h
    rw [if_pos h]; omega
/-- Strictly ahead. -/
def klt (x y : Ky) : Prop := x.1 < y.1 ∨ (x.1 = y.1 ∧ x.2 < y.2)
theorem kcmp_neg {x y : Ky} : kcmp x y < 0 ↔ klt x y := by
  unfold kcmp klt
  by_cases h : scmp x.1 y.1 ≠ 0
  · rw [if_pos h, scmp_neg]
    constructor
    · exact .inl
    · rintro (h1 | ⟨h1, -⟩)
      · exact h1
      · exact absurd (scmp_zero.2 h1) h
  · rw [if_neg h, scmp_neg]
    have h0 : x.1 = y.1 := scmp_zero.1 (by omega)
    constructor
    · exact fun h1 => .inr ⟨h0, h1⟩
    · rintro (h1 | ⟨-, h1⟩)
      · rw [h0] at h1; exact absurd h1 (List.lt_irrefl _)
      · exact h1
theorem kcmp_zero {x y : Ky} : kcmp x y = 0 ↔ x = y := by
  unfold kcmp
  by_cases h : scmp x.1 y.1 ≠ 0
  · rw [if_pos h]
    constructor
    · exact fun h1 => absurd h1 h
    · intro e; exact scmp_zero.2 (by rw [e])
  · rw [if_neg h, scmp_zero]
    have h0 : x.1 = y.1 := scmp_zero.1 (by omega)
    constructor
    · intro h1; exact Prod.ext h0 h1
    · intro e; rw [e]
theorem kcmp_range (x y : Ky) : kcmp x y = -1 ∨ kcmp x y = 0 ∨ kcmp x y = 1 := by
  unfold kcmp
  split
  · exact scmp_range _ _
  · exact scmp_range _ _
theorem klt_irrefl (x : Ky) : ¬ klt x x := by
  rintro (h | ⟨-, h⟩)
  · exact List.lt_irrefl _ h
  · exact List.lt_irrefl _ h
theorem klt_trans {x y z : Ky} (h : klt x y) (k : klt y z) : klt x z := by
  rcases h with h | ⟨h1, h2⟩
  · rcases k with k | ⟨k1, k2⟩
    · exact .inl (List.lt_trans h k)
    · exact .inl (by rw [← k1]; exact h)
  · rcases k with k | ⟨k1, k2⟩
    · exact .inl (by rw [h1]; exact k)
    · exact .inr ⟨h1.trans k1, List.lt_trans h2 k2⟩
theorem klt_total (x y : Ky) : klt x y ∨ x = y ∨ klt y x := by
  rcases kcmp_range x y with h | h | h
  · exact .inl (kcmp_neg.1 (by omega))
  · exact .inr (.inl (kcmp_zero.1 h))
  · right; right
    unfold kcmp at h
    by_cases h0 : scmp x.1 y.1 ≠ 0
    · rw [if_pos h0] at h
      left
      unfold scmp at h
      split at h
      · cases h
      · split at h
        · assumption
        · cases h
    · rw [if_neg h0] at h
      right
      refine ⟨(scmp_zero.1 (by omega)).symm, ?_⟩
      unfold scmp at h
      split at h
      · cases h
      · split at h
        · assumption
        · cases h
/-- An account, and all that comes to it; where its amounts lie. -/
structure Ent where
  party : ByteArray
  coin : ByteArray
  all : List Int
  av : Value
def Ent.key (e : Ent) : Ky := (e.party.data.toList, e.coin.data.toList)
/-- Rising strictly, by a key. -/
def UpK {α : Type} (key : α → Ky) (l : List α) : Prop := l.Pairwise (fun x y => klt (key x) (key y))
/-- The place that a search finds. -/
structure AtK {α : Type} (key : α → Ky) (l : List α) (t : Ky) (i : Nat) : Prop where
  le : i ≤ l.length
  lo : ∀ x, 0 < i → l[i - 1]? = some x → kcmp (key x) t < 0
  hi : ∀ x, l[i]? = some x → ¬ kcmp (key x) t < 0
def hitK {α : Type} (key : α → Ky) (l : List α) (t : Ky) (i : Nat) : Bool := match l[i]? with | some x => decide (kcmp (key x) t = 0) | none => false
theorem UpK.at {α : Type} {key : α → Ky} {l : List α} (h : UpK key l) {i j : Nat} {x y : α} (hx : l[i]? = some x) (hy : l[j]? = some y) (hij : i < j) : klt (key x) (key y) := by
  obtain ⟨h1, e1⟩ := List.getElem?_eq_some_iff.1 hx
  obtain ⟨h2, e2⟩ := List.getElem?_eq_some_iff.1 hy
  have := List.pairwise_iff_getElem.1 h i j h1 h2 hij
  rw [e1, e2] at this; exact this
section
variable {α : Type} {key : α → Ky} {l : List α} {t : Ky} {i : Nat}
theorem AtK.below (a : AtK key l t i) (h : UpK key l) : ∀ (j : Nat) x, j < i → l[j]? = some x → klt (key x) t := by
  intro j x hj hx
  have hi1 : l[i - 1]? = some (l[i - 1]'(by have := a.le; omega)) := List.getElem?_eq_getElem (by have := a.le; omega)
  have h1 := kcmp_neg.1 (a.lo _ (by omega) hi1)
  by_cases e : j = i - 1
  · rw [e, hi1] at hx
    injection hx with hx; rw [← hx]; exact h1
  · exact klt_trans (h.at hx hi1 (by omega)) h1
theorem AtK.above (a : AtK key l t i) (h : UpK key l) : ∀ (j : Nat) x, i < j → l[j]? = some x → klt t (key x) := by
  intro j x hj hx
  have hjl : j < l.length := (List.getElem?_eq_some_iff.1 hx).1
  have hi1 : l[i]? = some (l[i]'(by omega)) := List.getElem?_eq_getElem (by omega)
  have h1 := a.hi _ hi1
  have h2 := h.at hi1 hx hj
  rcases klt_total (key l[i]) t with h3 | h3 | h3
  · exact absurd (kcmp_neg.2 h3) h1
  · rw [← h3]; exact h2
  · exact klt_trans h3 h2
theorem AtK.here (a : AtK key l t i) (hh : hitK key l t i = false) {x : α} (hx : l[i]? = some x) : klt t (key x) := by
  unfold hitK at hh
  rw [hx] at hh
  have hne : kcmp (key x) t ≠ 0 := by simpa using hh
  have h1 := a.hi _ hx
  rcases klt_total (key x) t with h3 | h3 | h3
  · exact absurd (kcmp_neg.2 h3) h1
  · exact absurd (kcmp_zero.2 h3) hne
  · exact h3
theorem hitK_key (hh : hitK key l t i = true) : ∃ x, l[i]? = some x ∧ key x = t := by
  unfold hitK at hh
  cases hx : l[i]? with
  | none => rw [hx] at hh; cases hh
  | some x =>
    rw [hx] at hh
    exact ⟨x, rfl, kcmp_zero.1 (by simpa using hh)⟩
end
/-- put: an amount to an account. -/
def insI (l : List Ent) (i : Nat) (x : Ent) : List Ent := l.take i ++ x :: l.drop i
theorem insI_up {l : List Ent} (h : UpK Ent.key l) {i : Nat} {x : Ent} (a : AtK Ent.key l x.key i) (hh : hitK Ent.key l x.key i = false) : UpK Ent.key (insI l i x) := by
  unfold insI UpK
  rw [List.pairwise_append]
  refine ⟨h.sublist (List.take_sublist ..), List.pairwise_cons.2 ⟨fun y hy => ?_, h.sublist (List.drop_sublist ..)⟩, fun y hy z hz => ?_⟩
  · obtain ⟨j, hj⟩ := List.getElem?_of_mem hy
    rw [List.getElem?_drop] at hj
    cases j with
    | zero => exact a.here hh hj
    | succ j => exact a.above h _ _ (by omega) hj
  · obtain ⟨j, hj⟩ := List.getElem?_of_mem hy
    rw [List.getElem?_take] at hj
    split at hj
    · rename_i hji
      have h1 := a.below h j y hji hj
      rcases List.mem_cons.1 hz with rfl | hz
      · exact h1
      · obtain ⟨k, hk⟩ := List.getElem?_of_mem hz
        rw [List.getElem?_drop] at hk
        exact h.at hj hk (by omega)
    · cases hj
/-- What has come to an account. -/
def totK (es : List Ent) (k : Ky) : Int := ((es.filter (fun e => e.key == k)).map (fun e => e.all.sum)).sum
end Go.Proofs.YtmiinmndbkdjbaaGreat

/- What comes to accounts; what Post gives: plain. -/
namespace Go.Proofs.YtmiinmndbkdjbaaGreat
set_option linter.unusedVariables false
set_option linter.unusedSimpArgs false
open Go.RowKit
/-- What has come to an account. -/
def tot (L : List (Ky × Int)) (k : Ky) : Int := ((L.filter (fun p => p.1 == k)).map (fun p => p.2)).sum
theorem tot_nil (k : Ky) : tot [] k = 0 := rfl
theorem tot_append (L M : List (Ky × Int)) (k : Ky) : tot (L ++ M) k = tot L k + tot M k := by
  unfold tot
  rw [List.filter_append, List.map_append, List.sum_append]
theorem tot_one (x : Ky) (n : Int) (k : Ky) : tot [(x, n)] k = if x = k then n else 0 := by
  unfold tot
  by_cases h : x = k
  · rw [if_pos h, List.filter_cons_of_pos (by simpa using h)]; simp
  · rw [if_neg h, List.filter_cons_of_neg (by simpa using h)]; rfl
theorem tot_none {L : List (Ky × Int)} {k : Ky} (h : ∀ p ∈ L, p.1 ≠ k) : tot L k = 0 := by
  unfold tot
  rw [List.filter_eq_nil_iff.2 (fun p hp => by simpa using h p hp)]; rfl
/-- Entries are what came. -/
structure LsE (es : List Ent) (L : List (Ky × Int)) : Prop where
  up : UpK Ent.key es
  sum : ∀ e ∈ es, e.all.sum = tot L e.key
  has : ∀ p ∈ L, ∃ e ∈ es, e.key = p.1
  of : ∀ e ∈ es, ∃ p ∈ L, p.1 = e.key
  rng : ∀ e ∈ es, ∀ n ∈ e.all, -9223372036854775808 ≤ n ∧ n ≤ 9223372036854775807
  len : es.length ≤ L.length ∧ ∀ e ∈ es, e.all.length ≤ L.length
theorem LsE.nil : LsE [] [] := ⟨List.Pairwise.nil, (fun _ h => nomatch h), (fun _ h => nomatch h), (fun _ h => nomatch h), (fun _ h => nomatch h), ⟨Nat.le_refl _, (fun _ h => nomatch h)⟩⟩
theorem insI_len (l : List Ent) (i : Nat) (x : Ent) (h : i ≤ l.length) : (insI l i x).length = l.length + 1 := by
  unfold insI
  rw [List.length_append, List.length_cons, List.length_take, List.length_drop, Nat.min_eq_left h]; omega
theorem mem_insI {l : List Ent} {i : Nat} {x y : Ent} : y ∈ insI l i x ↔ y = x ∨ y ∈ l := by
  unfold insI
  rw [List.mem_append, List.mem_cons]
  constructor
  · rintro (h | h | h)
    · exact .inr (List.mem_of_mem_take h)
    · exact .inl h
    · exact .inr (List.mem_of_mem_drop h)
  · rintro (h | h)
    · exact .inr (.inl h)
    · rw [← List.take_append_drop i l] at h
      rcases List.mem_append.1 h with h | h
      · exact .inl h
      · exact .inr (.inr h)
/-- A new account. -/
theorem LsE.new {es : List Ent} {L : List (Ky × Int)} (h : LsE es L) {i : Nat} {p c : ByteArray} {n : Int} {av : Value} (a : AtK Ent.key es (p.data.toList, c.data.toList) i) (hh : hitK Ent.key es (p.data.toList, c.data.toList) i = false) (hn : -9223372036854775808 ≤ n ∧ n ≤ 9223372036854775807) :
    LsE (insI es i ⟨p, c, [n], av⟩) (L ++ [((p.data.toList, c.data.toList), n)]) := by
  have hnk : ∀ e ∈ es, e.key ≠ (p.data.toList, c.data.toList) := by
    intro e he hk
    obtain ⟨j, hj⟩ := List.getElem?_of_mem he
    by_cases h1 : j < i
    · have := a.below h.up j e h1 hj
      rw [hk] at this; exact klt_irrefl _ this
    · by_cases h2 : j = i
      · subst h2
        have := a.here hh hj
        rw [hk] at this; exact klt_irrefl _ this
      · have := a.above h.up j e (by omega) hj
        rw [hk] at this; exact klt_irrefl _ this
  have hL0 : tot L (p.data.toList, c.data.toList) = 0 := tot_none (fun q hq hqk => by
    obtain ⟨e, he, hek⟩ := h.has q hq
    exact hnk e he (hek.trans hqk))
  refine ⟨insI_up h.up a hh, fun e he => ?_, fun q hq => ?_, fun e he => ?_, fun e he => ?_, ⟨?_, fun e he => ?_⟩⟩
  · rw [tot_append, tot_one]
    rcases mem_insI.1 he with rfl | he
    · show [n].sum = tot L (p.data.toList, c.data.toList) + (if (p.data.toList, c.data.toList) = (p.data.toList, c.data.toList) then n else 0)
      rw [hL0, if_pos rfl]; simp
    · rw [if_neg (fun e' => hnk e he e'.symm), h.sum e he]; omega
  · rcases List.mem_append.1 hq with hq | hq
    · obtain ⟨e, he, hek⟩ := h.has q hq
      exact ⟨e, mem_insI.2 (.inr he), hek⟩
    · rw [List.mem_singleton] at hq; subst hq
      exact ⟨_, mem_insI.2 (.inl rfl), rfl⟩
  · rcases mem_insI.1 he with rfl | he
    · exact ⟨_, List.mem_append.2 (.inr (List.mem_singleton.2 rfl)), rfl⟩
    · obtain ⟨q, hq, hqk⟩ := h.of e he
      exact ⟨q, List.mem_append.2 (.inl hq), hqk⟩
  · rcases mem_insI.1 he with rfl | he
    · intro x hx
      have hx : x ∈ [n] := hx
      rw [List.mem_singleton] at hx; subst hx; exact hn
    · exact h.rng e he
  · rw [insI_len _ _ _ a.le, List.length_append]
    have := h.len.1
    show _ ≤ L.length + 1
    omega
  · rw [List.length_append]
    rcases mem_insI.1 he with rfl | he
    · show 1 ≤ L.length + 1; omega
    · have := h.len.2 e he
      show _ ≤ L.length + 1
      omega
/-- One amount more. -/
theorem LsE.more {es : List Ent} {L : List (Ky × Int)} (h : LsE es L) {i : Nat} {e : Ent} {n : Int} {av : Value} (he : es[i]? = some e) (hn : -9223372036854775808 ≤ n ∧ n ≤ 9223372036854775807) :
    LsE (es.set i ⟨e.party, e.coin, e.all ++ [n], av⟩) (L ++ [(e.key, n)]) := by
  have hil := (List.getElem?_eq_some_iff.1 he).1
  have hkey : ∀ (j : Nat) x, (es.set i ⟨e.party, e.coin, e.all ++ [n], av⟩)[j]? = some x → ∃ y, es[j]? = some y ∧ y.key = x.key ∧ ((j = i ∧ x = ⟨e.party, e.coin, e.all ++ [n], av⟩) ∨ (j ≠ i ∧ x = y)) := by
    intro j x hx
    rw [List.getElem?_set] at hx
    by_cases e1 : i = j
    · subst e1
      rw [if_pos rfl, if_pos hil] at hx
      injection hx with hx
      exact ⟨e, he, by rw [← hx]; rfl, .inl ⟨rfl, hx.symm⟩⟩
    · rw [if_neg e1] at hx
      exact ⟨x, hx, rfl, .inr ⟨fun e2 => e1 e2.symm, rfl⟩⟩
  have hmem : ∀ x ∈ es.set i ⟨e.party, e.coin, e.all ++ [n], av⟩, x = ⟨e.party, e.coin, e.all ++ [n], av⟩ ∨ (x ∈ es ∧ x.key ≠ e.key) := by
    intro x hx
    obtain ⟨j, hj⟩ := List.getElem?_of_mem hx
    obtain ⟨y, hy, -, ⟨-, h2⟩ | ⟨h1, h2⟩⟩ := hkey j x hj
    · exact .inl h2
    · subst h2
      refine .inr ⟨List.mem_of_getElem? hy, fun hk => ?_⟩
      rcases Nat.lt_or_gt_of_ne h1 with h3 | h3
      · have := h.up.at hy he h3
        rw [hk] at this; exact klt_irrefl _ this
      · have := h.up.at he hy h3
        rw [hk] at this; exact klt_irrefl _ this
  refine ⟨?_, fun x hx => ?_, fun q hq => ?_, fun x hx => ?_, fun x hx => ?_, ⟨?_, fun x hx => ?_⟩⟩
  · unfold UpK
    rw [List.pairwise_iff_getElem]
    intro a b ha hb hab
    obtain ⟨y, hy, hyk, -⟩ := hkey a _ (List.getElem?_eq_getElem ha)
    obtain ⟨z, hz, hzk, -⟩ := hkey b _ (List.getElem?_eq_getElem hb)
    rw [← hyk, ← hzk]
    exact h.up.at hy hz hab
  · rw [tot_append, tot_one]
    rcases hmem x hx with rfl | ⟨hx, hxk⟩
    · show (e.all ++ [n]).sum = tot L e.key + (if e.key = e.key then n else 0)
      rw [if_pos rfl, List.sum_append, h.sum e (List.mem_of_getElem? he)]; simp
    · rw [if_neg (fun e' => hxk e'.symm), h.sum x hx]; omega
  · have hin : ∀ k, (∃ y ∈ es, y.key = k) → ∃ x ∈ es.set i ⟨e.party, e.coin, e.all ++ [n], av⟩, x.key = k := by
      rintro k ⟨y, hy, hyk⟩
      obtain ⟨j, hj⟩ := List.getElem?_of_mem hy
      by_cases e1 : i = j
      · subst e1
        rw [he] at hj; injection hj with hj; subst hj
        exact ⟨_, List.mem_set hil _, hyk⟩
      · exact ⟨y, List.mem_of_getElem? (by rw [List.getElem?_set, if_neg e1]; exact hj), hyk⟩
    rcases List.mem_append.1 hq with hq | hq
    · exact hin _ (h.has q hq)
    · rw [List.mem_singleton] at hq; subst hq
      exact hin _ ⟨e, List.mem_of_getElem? he, rfl⟩
  · rcases hmem x hx with rfl | ⟨hx, -⟩
    · exact ⟨_, List.mem_append.2 (.inr (List.mem_singleton.2 rfl)), rfl⟩
    · obtain ⟨q, hq, hqk⟩ := h.of x hx
      exact ⟨q, List.mem_append.2 (.inl hq), hqk⟩
  · rcases hmem x hx with rfl | ⟨hx, -⟩
    · intro y hy
      have hy : y ∈ e.all ++ [n] := hy
      rcases List.mem_append.1 hy with hy | hy
      · exact h.rng e (List.mem_of_getElem? he) y hy
      · rw [List.mem_singleton] at hy; subst hy; exact hn
    · exact h.rng x hx
  · rw [List.length_set, List.length_append]
    have := h.len.1
    omega
  · rw [List.length_append]
    rcases hmem x hx with rfl | ⟨hx, -⟩
    · show (e.all ++ [n]).length ≤ _
      rw [List.length_append]
      have := h.len.2 e (List.mem_of_getElem? he)
      show _ + 1 ≤ L.length + 1
      omega
    · have := h.len.2 x hx
      omega
/-- What has come of a currency. -/
def coinL (L : List (Ky × Int)) (c : List UInt8) : Int := ((L.filter (fun p => p.1.2 == c)).map (fun p => p.2)).sum
def coinE (es : List Ent) (c : List UInt8) : Int := ((es.filter (fun e => e.key.2 == c)).map (fun e => e.all.sum)).sum
def CoE (es : List Ent) (L : List (Ky × Int)) : Prop := ∀ c, coinE es c = coinL L c
theorem coinL_append (L M : List (Ky × Int)) (c : List UInt8) : coinL (L ++ M) c = coinL L c + coinL M c := by
  unfold coinL
  rw [List.filter_append, List.map_append, List.sum_append]
theorem coinE_append (L M : List Ent) (c : List UInt8) : coinE (L ++ M) c = coinE L c + coinE M c := by
  unfold coinE
  rw [List.filter_append, List.map_append, List.sum_append]
theorem coinE_cons (e : Ent) (M : List Ent) (c : List UInt8) : coinE (e :: M) c = (if e.key.2 = c then e.all.sum else 0) + coinE M c := by
  unfold coinE
  by_cases h : e.key.2 = c
  · rw [if_pos h, List.filter_cons_of_pos (by simpa using h)]; simp
  · rw [if_neg h, List.filter_cons_of_neg (by simpa using h)]; omega
theorem coinL_one (x : Ky) (n : Int) (c : List UInt8) : coinL [(x, n)] c = if x.2 = c then n else 0 := by
  unfold coinL
  by_cases h : x.2 = c
  · rw [if_pos h, List.filter_cons_of_pos (by simpa using h)]; simp
  · rw [if_neg h, List.filter_cons_of_neg (by simpa using h)]; rfl
theorem CoE.new {es : List Ent} {L : List (Ky × Int)} (h : CoE es L) (i : Nat) (p c : ByteArray) (n : Int) (av : Value) : CoE (insI es i ⟨p, c, [n], av⟩) (L ++ [((p.data.toList, c.data.toList), n)]) := by
  intro x
  have h1 : coinE es x = coinE (es.take i) x + coinE (es.drop i) x := by rw [← coinE_append, List.take_append_drop]
  have h2 := h x
  unfold insI
  rw [coinE_append, coinE_cons, coinL_append, coinL_one]
  have e1 : (⟨p, c, [n], av⟩ : Ent).key.2 = c.data.toList := rfl
  have e2 : (⟨p, c, [n], av⟩ : Ent).all.sum = n := by show [n].sum = n; simp
  rw [e1, e2]
  show _ = coinL L x + (if c.data.toList = x then n else 0)
  by_cases hx : c.data.toList = x
  · rw [if_pos hx]; omega
  · rw [if_neg hx]; omega
theorem CoE.more {es : List Ent} {L : List (Ky × Int)} (h : CoE es L) {i : Nat} {e : Ent} (n : Int) (av : Value) (he : es[i]? = some e) : CoE (es.set i ⟨e.party, e.coin, e.all ++ [n], av⟩) (L ++ [(e.key, n)]) := by
  intro x
  obtain ⟨hil, hi⟩ := List.getElem?_eq_some_iff.1 he
  have h1 : es = es.take i ++ e :: es.drop (i + 1) := by
    have h5 := List.drop_eq_getElem_cons hil
    rw [hi] at h5
    rw [← h5, List.take_append_drop]
  have h2 := h x
  have h3 : es.set i ⟨e.party, e.coin, e.all ++ [n], av⟩ = es.take i ++ ⟨e.party, e.coin, e.all ++ [n], av⟩ :: es.drop (i + 1) := List.set_eq_take_append_cons_drop .. |>.trans (if_pos hil)
  rw [h3, coinE_append, coinE_cons, coinL_append, coinL_one]
  have h4 : coinE es x = coinE (es.take i) x + ((if e.key.2 = x then e.all.sum else 0) + coinE (es.drop (i + 1)) x) := by
    conv => lhs; rw [h1]
    rw [coinE_append, coinE_cons]
  have e2 : (⟨e.party, e.coin, e.all ++ [n], av⟩ : Ent).all.sum = e.all.sum + n := by show (e.all ++ [n]).sum = _; rw [List.sum_append]; simp
  have e1 : (⟨e.party, e.coin, e.all ++ [n], av⟩ : Ent).key = e.key := rfl
  rw [e1, e2]
  by_cases hx : e.key.2 = x
  · rw [if_pos hx] at h4 ⊢
    rw [if_pos hx]; omega
  · rw [if_neg hx] at h4 ⊢
    rw [if_neg hx]; omega
/-- The books that come of what came. -/
structure OutOf (out : List Acct) (L : List (Ky × Int)) : Prop where
  up : UpK Acct.key out
  amt : ∀ a ∈ out, a.amt = tot L a.key ∧ a.amt ≠ 0
  all : ∀ k, tot L k ≠ 0 → ∃ a ∈ out, a.key = k
def outA (es : List Ent) : List Acct := es.filterMap (fun e => if e.all.sum = 0 then none else some ⟨e.party, e.coin, e.all.sum⟩)
theorem outA_mem {es : List Ent} {a : Acct} : a ∈ outA es ↔ ∃ e ∈ es, e.all.sum ≠ 0 ∧ a = ⟨e.party, e.coin, e.all.sum⟩ := by
  unfold outA
  rw [List.mem_filterMap]
  constructor
  · rintro ⟨e, he, h⟩
    by_cases h0 : e.all.sum = 0
    · rw [if_pos h0] at h; cases h
    · rw [if_neg h0] at h; injection h with h
      exact ⟨e, he, h0, h.symm⟩
  · rintro ⟨e, he, h0, rfl⟩
    exact ⟨e, he, by rw [if_neg h0]⟩
theorem LsE.out {es : List Ent} {L : List (Ky × Int)} (h : LsE es L) : OutOf (outA es) L := by
  refine ⟨?_, fun a ha => ?_, fun k hk => ?_⟩
  · unfold outA UpK
    rw [List.pairwise_filterMap]
    refine h.up.imp (fun {x y} hxy b hb b' hb' => ?_)
    split at hb
    · cases hb
    · split at hb'
      · cases hb'
      · injection hb with hb; injection hb' with hb'
        subst hb; subst hb'; exact hxy
  · obtain ⟨e, he, h0, rfl⟩ := outA_mem.1 ha
    exact ⟨h.sum e he, h0⟩
  · have : ∃ p ∈ L, p.1 = k := by
      refine Classical.byContradiction (fun hn => hk (tot_none (fun p hp e => hn ⟨p, hp, e⟩)))
    obtain ⟨p, hp, hpk⟩ := this
    obtain ⟨e, he, hek⟩ := h.has p hp
    refine ⟨⟨e.party, e.coin, e.all.sum⟩, outA_mem.2 ⟨e, he, ?_, rfl⟩, hek.trans hpk⟩
    rw [h.sum e he, hek, hpk]; exact hk
theorem acct_ext {a b : Acct} (hk : a.key = b.key) (hn : a.amt = b.amt) : a = b := by
  obtain ⟨⟨⟨p⟩⟩, ⟨⟨c⟩⟩, n⟩ := a
  obtain ⟨⟨⟨p'⟩⟩, ⟨⟨c'⟩⟩, n'⟩ := b
  have h1 : p = p' := congrArg (fun x : Ky => x.1) hk
  have h2 : c = c' := congrArg (fun x : Ky => x.2) hk
  have h3 : n = n' := hn
  rw [h1, h2, h3]
theorem up_ext {α : Type} {key : α → Ky} (hx : ∀ a b : α, a ∈ ([] : List α) → a = b) : ∀ {l m : List α}, UpK key l → UpK key m → (∀ a, a ∈ l ↔ a ∈ m) → l = m
  | [], [], _, _, _ => rfl
  | [], b :: m, _, _, h => by have := (h b).2 (List.mem_cons_self ..); cases this
  | a :: l, [], _, _, h => by have := (h a).1 (List.mem_cons_self ..); cases this
  | a :: l, b :: m, hl, hm, h => by
    unfold UpK at hl hm
    rw [List.pairwise_cons] at hl hm
    have hab : a = b := by
      rcases List.mem_cons.1 ((h a).1 (List.mem_cons_self ..)) with e | h1
      · exact e
      · rcases List.mem_cons.1 ((h b).2 (List.mem_cons_self ..)) with e | h2
        · exact e.symm
        · exact absurd (klt_trans (hl.1 b h2) (hm.1 a h1)) (klt_irrefl _)
    subst hab
    congr 1
    refine up_ext hx hl.2 hm.2 (fun x => ?_)
    constructor
    · intro hxl
      rcases List.mem_cons.1 ((h x).1 (List.mem_cons_of_mem _ hxl)) with e | h1
      · subst e; exact absurd (hl.1 x hxl) (klt_irrefl _)
      · exact h1
    · intro hxm
      rcases List.mem_cons.1 ((h x).2 (List.mem_cons_of_mem _ hxm)) with e | h1
      · subst e; exact absurd (hm.1 x hxm) (klt_irrefl _)
      · exact h1
theorem OutOf.uniq {out out' : List Acct} {L L' : List (Ky × Int)} (h : OutOf out L) (h' : OutOf out' L') (e : ∀ k, tot L k = tot L' k) : out = out' := by
  refine up_ext (key := Acct.key) (fun a b h => nomatch h) h.up h'.up (fun a => ?_)
  constructor
  · intro ha
    obtain ⟨h1, h2⟩ := h.amt a ha
    obtain ⟨b, hb, hbk⟩ := h'.all a.key (by rw [← e, ← h1]; exact h2)
    have : a = b := acct_ext hbk.symm (by rw [h1, (h'.amt b hb).1, hbk, e])
    rw [this]; exact hb
  · intro ha
    obtain ⟨h1, h2⟩ := h'.amt a ha
    obtain ⟨b, hb, hbk⟩ := h.all a.key (by rw [e, ← h1]; exact h2)
    have : a = b := acct_ext hbk.symm (by rw [h1, (h.amt b hb).1, hbk, e])
    rw [this]; exact hb
/-- What has come of a currency, in books. -/
def coinA (l : List Acct) (c : List UInt8) : Int := ((l.filter (fun a => a.key.2 == c)).map (fun a => a.amt)).sum
theorem coinA_cons (a : Acct) (M : List Acct) (c : List UInt8) : coinA (a :: M) c = (if a.key.2 = c then a.amt else 0) + coinA M c := by
  unfold coinA
  by_cases h : a.key.2 = c
  · rw [if_pos h, List.filter_cons_of_pos (by simpa using h)]; simp
  · rw [if_neg h, List.filter_cons_of_neg (by simpa using h)]; omega
theorem outA_coin (es : List Ent) (c : List UInt8) : coinA (outA es) c = coinE es c := by
  induction es with
  | nil => rfl
  | cons e t ih =>
    rw [coinE_cons]
    by_cases h0 : e.all.sum = 0
    · have : outA (e :: t) = outA t := by unfold outA; rw [List.filterMap_cons, if_pos h0]
      rw [this, ih, h0]; split <;> omega
    · have : outA (e :: t) = ⟨e.party, e.coin, e.all.sum⟩ :: outA t := by unfold outA; rw [List.filterMap_cons, if_neg h0]
      rw [this, coinA_cons, ih]; rfl
def fits64 (n : Int) : Bool := decide (-9223372036854775808 ≤ n) && decide (n ≤ 9223372036854775807)
end Go.Proofs.YtmiinmndbkdjbaaGreat

/- A sum of many numbers of 64 bits, held in 128 bits: plain. -/
namespace Go.Proofs.YtmiinmndbkdjbaaGreat
set_option linter.unusedVariables false
set_option linter.unusedSimpArgs false
open Go.RowKit
/-- Two words hold a number. -/
structure Two64 (T : Int) (hi lo : Nat) : Prop where
  lo : (lo : Int) = T % 18446744073709551616
  hi : (hi : Int) = (T / 18446744073709551616) % 18446744073709551616
theorem Two64.nil : Two64 0 0 0 := ⟨rfl, rfl⟩
theorem Two64.lt {T : Int} {hi lo : Nat} (h : Two64 T hi lo) : hi < 18446744073709551616 ∧ lo < 18446744073709551616 := by
  have h1 := h.lo
  have h2 := h.hi
  omega
/-- A number as a word without a sign. -/
def uw (n : Int) : Nat := (n % 18446744073709551616).toNat
def sw (n : Int) : Nat := if n < 0 then 18446744073709551615 else 0
theorem Two64.add {T n : Int} {hi lo : Nat} (h : Two64 T hi lo) (hn : -9223372036854775808 ≤ n ∧ n ≤ 9223372036854775807) :
    Two64 (T + n) ((hi + sw n + (lo + uw n + 0) / 18446744073709551616) % 18446744073709551616) ((lo + uw n + 0) % 18446744073709551616) := by
  have h1 := h.lo
  have h2 := h.hi
  have h3 : (uw n : Int) = n % 18446744073709551616 := by unfold uw; omega
  obtain ⟨u, hu⟩ : ∃ u, u = uw n := ⟨_, rfl⟩
  rw [← hu] at h3 ⊢
  unfold sw
  by_cases hneg : n < 0
  · rw [if_pos hneg]
    exact ⟨by omega, by omega⟩
  · rw [if_neg hneg]
    exact ⟨by omega, by omega⟩
/-- The lower word as a number with its sign; its sign in a word. -/
def lowI (lo : Nat) : Int := if lo < 9223372036854775808 then (lo : Int) else (lo : Int) - 18446744073709551616
theorem Two64.fit {T : Int} {hi lo : Nat} (h : Two64 T hi lo) (hT : -170141183460469231731687303715884105728 ≤ T ∧ T < 170141183460469231731687303715884105728) : (hi = sw (lowI lo)) ↔ (-9223372036854775808 ≤ T ∧ T ≤ 9223372036854775807) := by
  have h1 := h.lo
  have h2 := h.hi
  unfold sw lowI
  by_cases hl : lo < 9223372036854775808
  · rw [if_pos hl, if_neg (by omega)]
    constructor
    · intro e; omega
    · intro e; omega
  · rw [if_neg hl, if_pos (by have := h.lt; omega)]
    constructor
    · intro e; omega
    · intro e; omega
theorem Two64.val {T : Int} {hi lo : Nat} (h : Two64 T hi lo) (hT : -9223372036854775808 ≤ T ∧ T ≤ 9223372036854775807) : lowI lo = T := by
  have h1 := h.lo
  unfold lowI
  split <;> omega
theorem sum_bound (l : List Int) (h : ∀ n ∈ l, -9223372036854775808 ≤ n ∧ n ≤ 9223372036854775807) : -9223372036854775808 * (l.length : Int) ≤ l.sum ∧ l.sum ≤ 9223372036854775807 * (l.length : Int) := by
  induction l with
  | nil => simp
  | cons x t ih =>
    have h1 := h x (List.mem_cons_self ..)
    have h2 := ih (fun n hn => h n (List.mem_cons_of_mem _ hn))
    rw [List.sum_cons, List.length_cons]
    push_cast
    omega
theorem sum_take {l : List Int} {k : Nat} {n : Int} (h : l[k]? = some n) : (l.take (k + 1)).sum = (l.take k).sum + n := by
  obtain ⟨hk, e⟩ := List.getElem?_eq_some_iff.1 h
  rw [← List.take_append_getElem hk, e, List.sum_append]; simp
end Go.Proofs.YtmiinmndbkdjbaaGreat

/- Slices of texts, read as bytes. -/
namespace Go.Proofs.YtmiinmndbkdjbaaGreat
set_option linter.unusedVariables false
set_option linter.unusedSimpArgs false
open Go.RowKit
/-- A text as its bytes. -/
def strK : Elt (List UInt8) where
  sz := 1
  pos := by decide
  R := fun _ _ s cs => cs = [encStr s]
  kept := fun h _ => h
  less := fun h _ => h
  one := fun h => by subst h; exact ⟨rfl, by simp [encStr, Value.oneCell']⟩
theorem below_dN {B : Nat} {a w : World} (h : Below B a w) (n : Nat) : Below B a (w.drewN n) := ⟨h.os, h.tape, h.output, h.size, h.block⟩
end Go.Proofs.YtmiinmndbkdjbaaGreat
