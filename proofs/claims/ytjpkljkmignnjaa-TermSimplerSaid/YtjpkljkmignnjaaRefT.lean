/- The document's answer: Built. -/
import Derived.Test.YtjpkljkmignnjaaRefB
import Derived.Test.YtjpkljkmignnjaaBuiltT
namespace Go.Proofs.Ytjpkljkmignnjaa
set_option linter.unusedVariables false
set_option linter.unusedSimpArgs false
open Go.RowKit
theorem bT_all (l : List Te) (h : ∀ (j : Nat) y, l[j]? = some y → bT y = true) : bT.go l = true := by
  rw [bT_go]
  have : (l.any fun e => !bT e) = false := by
    rw [List.any_eq_false]; intro x hx
    obtain ⟨j, hj, rfl⟩ := List.getElem_of_mem hx
    simp [h j _ (List.getElem?_eq_getElem hj)]
  rw [this]; rfl
theorem bT_not (l : List Te) (k : Nat) (y : Te) (h : l[k]? = some y) (hy : bT y = false) : bT.go l = false := by
  rw [bT_go]
  have : (l.any fun e => !bT e) = true := by
    rw [List.any_eq_true]; exact ⟨y, List.mem_of_getElem? h, by rw [hy]; rfl⟩
  rw [this]; rfl
set_option maxRecDepth 100000 in
set_option maxHeartbeats 8000000 in
theorem rbuilt_any : ∀ (r : Nat) (e : Te), e.rk ≤ r → ∀ (cs : List Value) (w : World), RepT w [] e cs →
    Calls Try.prog 25 #[.agg cs.toArray] w fun x w' => x = .returned (.bool (bT e)) ∧ Below w.heap.size w w' := by
  intro r
  induction r with
  | zero => intro e h; have := e.rk_pos; omega
  | succ r ih =>
    intro e hr cs w hR
    obtain ⟨op, nm, exprs, terms, a, len, cap, a2, len2, cap2, rfl, rfl, i1, i3, hS, hS2⟩ := hR.inv
    obtain ⟨f1, f2, f3⟩ := hS.facts
    obtain ⟨f4, f5, f6⟩ := hS2.facts
    have HS := Lib.hid hS
    have HS2 := Lib.hid hS2
    have HW0 := Lib.hid ((Below.refl w.heap.size w).alloc (Nat.le_refl _) (.cells #[.int .i64 op, .string nm, .slice a len cap, .slice a2 len2 cap2] 33))
    have BX := Lib.hid (Mem.Blk.new w 33 #[.int .i64 op, .string nm, .slice a len cap, .slice a2 len2 cap2])
    have HI : Hid (∀ (k : Nat) e' cs' W, terms[k]? = some e' → RepT W [] e' cs' → Calls Try.prog 25 #[.agg cs'.toArray] W fun x w' => x = .returned (.bool (bT e')) ∧ Below W.heap.size W w') := by
      intro k e' cs' W hk hR'
      exact ih e' (by have := Te.rk_lt (op := op) (nm := nm) (x := exprs) hk; omega) cs' W hR'
    have HFR := Lib.hid (fun W => rfree_any nm W i3)
    have HL := Lib.hid f1
    have HL2 := Lib.hid f4
    have HB := Lib.hid (show bT (.mk op nm exprs terms) = ((arX op == (len : Nat)) && (arT op == (len2 : Nat)) && (!(op == 2 && !fre nm) && !(op != 2 && !nm.toList.isEmpty)) && bE.go exprs && bT.go terms) by rw [bE_go, ← f1, ← f4]; rfl)
    have HT := Lib.hid (bE_all exprs)
    have HN := Lib.hid (bE_not exprs)
    have HT2 := Lib.hid (bT_all terms)
    have HN2 := Lib.hid (bT_not terms)
    have HF : Hid (∀ x, bT (.mk op nm exprs terms) = x → Ending.returned (.bool x) = .returned (.bool (bT (.mk op nm exprs terms)))) := fun x h => by rw [h]
    generalize bT (.mk op nm exprs terms) = R at *
    generalize bE.go exprs = C at *
    generalize bT.go terms = D at *
    generalize fre nm = FR at *
    clear ih hr hR hS hS2 f1 f4 i1
    by_cases hlo : op < 1
    · have F := Lib.hid (HF.out false (by rw [HB.out, show arX op = -1 by unfold arX; rw [if_neg (by omega), if_neg (by omega)]]; rw [show ((-1 : Int) == (len : Nat)) = false by rw [beq_eq_false_iff_ne]; omega]; rfl))
      have g3 : (op == 3) = false := by simp; omega
      have g4 : (op == 4) = false := by simp; omega
      have g5 : (op == 5) = false := by simp; omega
      go_enter Try.func25, Try.ntmps25
      go_wp2
      go_ret
      exact ⟨F.out, HW0.out⟩
    by_cases hhi : 9 < op
    · have F := Lib.hid (HF.out false (by rw [HB.out, show arX op = -1 by unfold arX; rw [if_neg (by omega), if_neg (by omega)]]; rw [show ((-1 : Int) == (len : Nat)) = false by rw [beq_eq_false_iff_ne]; omega]; rfl))
      have g3 : (op == 3) = false := by simp; omega
      have g4 : (op == 4) = false := by simp; omega
      have g5 : (op == 5) = false := by simp; omega
      go_enter Try.func25, Try.ntmps25
      go_wp2
      go_ret
      exact ⟨F.out, HW0.out⟩
    by_cases o2 : op = 2
    · subst o2
      have HX : Hid (arX 2 = 0) := by show _ = _; unfold arX; first | decide | (rw [if_neg (by omega), if_pos (by omega)])
      have HY : Hid (arT 2 = 0) := by show _ = _; unfold arT; first | decide | (rw [if_neg (by omega), if_neg (by omega), if_neg (by omega), if_pos (by omega)])
      by_cases hL : len = 0
      case neg =>
        have F := Lib.hid (HF.out false (by rw [HB.out, HX.out, show ((0 : Int) == (len : Nat)) = false by rw [beq_eq_false_iff_ne]; omega]; rfl))
        have t1 : ((len : Int) != 0) = true := by rw [bne_iff_ne]; omega
        clear hL
        go_enter Try.func25, Try.ntmps25
        go_wp2
        go_ret
        exact ⟨F.out, HW0.out⟩
      subst hL
      by_cases hL2 : len2 = 0
      case neg =>
        have F := Lib.hid (HF.out false (by rw [HB.out, HY.out, show ((0 : Int) == (len2 : Nat)) = false by rw [beq_eq_false_iff_ne]; omega]; simp))
        have t1 : ((len2 : Int) != 0) = true := by rw [bne_iff_ne]; omega
        clear hL2
        go_enter Try.func25, Try.ntmps25
        go_wp2
        go_ret
        exact ⟨F.out, HW0.out⟩
      subst hL2
      cases FR
      · have F := Lib.hid (HF.out false (by rw [HB.out]; simp))
        go_enter Try.func25, Try.ntmps25
        go_wp2_with fail
        refine (HFR.out _).mono ?_; rintro x B1 ⟨rfl, b1⟩
        go_wp2
        go_ret
        exact ⟨F.out, HW0.out.trans (b1.mono HW0.out.size)⟩
      · have F := Lib.hid (HF.out (C && D) (by rw [HB.out, HX.out, HY.out]; simp))
        go_enter Try.func25, Try.ntmps25
        go_wp2_with fail
        refine (HFR.out _).mono ?_; rintro x B1 ⟨rfl, b1⟩
        have W1 := Lib.hid (HW0.out.trans (b1.mono HW0.out.size))
        have BX1 := Lib.hid (BX.out.below b1)
        have c0 : B1.cell? ⟨w.heap.size, 0, none⟩ = some (.int .i64 2) := BX1.out.cell 0
        clear b1
        go_wp2_with fail
        clear c0
        go_loopw [5] (fun i wr => ∃ k : Nat, i = .int .i64 (k : Nat) ∧ k ≤ 0 ∧ Hid (Below w.heap.size w wr) ∧ Hid (Mem.Blk wr w.heap.size 33 #[.int .i64 2, .string nm, .slice a 0 cap, .slice a2 0 cap2]) ∧ Hid (∀ (j : Nat) y, j < k → exprs[j]? = some y → bE y = true)) (fun i _ => 0 - (intOf i).toNat)
        case atStart => exact ⟨0, rfl, Nat.zero_le _, W1.out, BX1.out, fun j y hj => absurd hj (Nat.not_lt_zero _)⟩
        case round =>
          clear W1 BX1
          obtain ⟨k, rfl, hk, HW, HXB, HP⟩ := hrel
          have c2 : wr.cell? ⟨w.heap.size, 2, none⟩ = some (.slice a 0 cap) := HXB.out.cell 2
          by_cases hlt : k < 0
          · obtain ⟨b, o, op', n', nm', args', a', len', cap', rfl, hb, hbx, hle, j1, j2, j3, hS', g0, g1, g2, g3⟩ := (HS.out.kept (Kept.of_below HW.out [])).at k hlt
            have HC := Lib.hid (rbuiltExpr_any (Ex.mk op' n' nm' args').rk _ (Nat.le_refl _) _ wr (RepE.mk' j1 j2 j3 hS'))
            have HLE := Lib.hid hle
            clear hle hS' j1 j2 j3
            generalize Ex.mk op' n' nm' args' = e' at *
            cases hp : bE e'
            · rw [hp] at HC
              have hC : C = false := HN.out k e' HLE.out hp
              have F2 : Hid (Ending.returned (.bool false) = .returned (.bool R)) := by show _ = _; rw [← F.out, hC]; rfl
              clear hp hC
              go_wp2_with fail
              all_goals
                refine HC.out.mono ?_; rintro r w1 ⟨rfl, b1⟩
                go_wp2
                go_ret
                exact ⟨F2.out, HW.out.trans (b1.mono HW.out.size)⟩
            · rw [hp] at HC
              have HP2 : Hid (∀ (j : Nat) y, j < k + 1 → exprs[j]? = some y → bE y = true) := by
                intro j y hj hy
                rcases Nat.lt_or_ge j k with h | h
                · exact HP.out j y h hy
                · obtain rfl : j = k := by omega
                  rw [HLE.out] at hy; injection hy with hy; subst hy; exact hp
              clear hp
              go_wp2_with fail
              all_goals
                refine HC.out.mono ?_; rintro r w1 ⟨rfl, b1⟩
                go_wp2
                go_roundw
                case rel => exact ⟨k + 1, by go_num, by omega, HW.out.trans (b1.mono HW.out.size), HXB.out.below b1, HP2⟩
                case measure => simp [intOf]; omega
          · have hC : C = true := HT.out (fun j y hy => HP.out j y (by have := (List.getElem?_eq_some_iff.1 hy).1; have := HL.out; omega) hy)
            have F3 : Hid (∀ b, D = b → Ending.returned (.bool b) = .returned (.bool R)) := by
              intro b hb; rw [← F.out, hC, hb]; rfl
            have W2 := HW
            have B2 := HXB
            clear hC c2 HP HW HXB
            go_wp2_with fail
            go_loopw [6] (fun i wr => ∃ k : Nat, i = .int .i64 (k : Nat) ∧ k ≤ 0 ∧ Hid (Below w.heap.size w wr) ∧ Hid (Mem.Blk wr w.heap.size 33 #[.int .i64 2, .string nm, .slice a 0 cap, .slice a2 0 cap2]) ∧ Hid (∀ (j : Nat) y, j < k → terms[j]? = some y → bT y = true)) (fun i _ => 0 - (intOf i).toNat)
            case atStart => exact ⟨0, rfl, Nat.zero_le _, W2.out, B2.out, fun j y hj => absurd hj (Nat.not_lt_zero _)⟩
            case round =>
              clear W2 B2
              obtain ⟨k2, rfl, hk2, HW, HXB, HP⟩ := hrel
              have c3 : wr.cell? ⟨w.heap.size, 3, none⟩ = some (.slice a2 0 cap2) := HXB.out.cell 3
              by_cases hlt2 : k2 < 0
              · obtain ⟨b, o, op', nm', ex', te', a', len', cap', a3, len3, cap3, rfl, hb, hbx, hle, j1, j3, hS', hS3, g0, g1, g2, g3⟩ := (HS2.out.kept (Kept.of_below HW.out [])).at k2 hlt2
                have HC := Lib.hid (HI.out k2 _ _ wr hle (RepT.mk' j1 j3 hS' hS3))
                have HLE := Lib.hid hle
                clear hle hS' hS3 j1 j3
                generalize Te.mk op' nm' ex' te' = e' at *
                cases hp : bT e'
                · rw [hp] at HC
                  have F4 := Lib.hid (F3.out false (HN2.out k2 e' HLE.out hp))
                  clear hp
                  go_wp2_with fail
                  all_goals
                    refine HC.out.mono ?_; rintro r w1 ⟨rfl, b1⟩
                    go_wp2
                    go_ret
                    exact ⟨F4.out, HW.out.trans (b1.mono HW.out.size)⟩
                · rw [hp] at HC
                  have HP2 : Hid (∀ (j : Nat) y, j < k2 + 1 → terms[j]? = some y → bT y = true) := by
                    intro j y hj hy
                    rcases Nat.lt_or_ge j k2 with h | h
                    · exact HP.out j y h hy
                    · obtain rfl : j = k2 := by omega
                      rw [HLE.out] at hy; injection hy with hy; subst hy; exact hp
                  clear hp
                  go_wp2_with fail
                  all_goals
                    refine HC.out.mono ?_; rintro r w1 ⟨rfl, b1⟩
                    go_wp2
                    go_roundw
                    case rel => exact ⟨k2 + 1, by go_num, by omega, HW.out.trans (b1.mono HW.out.size), HXB.out.below b1, HP2⟩
                    case measure => simp [intOf]; omega
              · have F4 := Lib.hid (F3.out true (HT2.out (fun j y hy => HP.out j y (by have := (List.getElem?_eq_some_iff.1 hy).1; have := HL2.out; omega) hy)))
                go_wp2
                go_ret
                exact ⟨F4.out, HW.out⟩
    have g2 : (op == 2) = false := by simp [o2]
    have g2' : (op != 2) = true := by simp [o2]
    obtain h | h | h | h : op = 1 ∨ op = 3 ∨ (op = 4 ∨ op = 5) ∨ 6 ≤ op := by omega
    · subst h
      have HX : Hid (arX 1 = 0) := by show _ = _; unfold arX; first | decide | (rw [if_neg (by omega), if_pos (by omega)])
      have HY : Hid (arT 1 = 0) := by show _ = _; unfold arT; first | decide | (rw [if_neg (by omega), if_neg (by omega), if_neg (by omega), if_pos (by omega)])
      by_cases hL : len = 0
      case neg =>
        have F := Lib.hid (HF.out false (by rw [HB.out, HX.out, show ((0 : Int) == (len : Nat)) = false by rw [beq_eq_false_iff_ne]; omega]; rfl))
        have t1 : ((len : Int) != 0) = true := by rw [bne_iff_ne]; omega
        clear hL
        go_enter Try.func25, Try.ntmps25
        go_wp2
        go_ret
        exact ⟨F.out, HW0.out⟩
      subst hL
      by_cases hL2 : len2 = 0
      case neg =>
        have F := Lib.hid (HF.out false (by rw [HB.out, HY.out, show ((0 : Int) == (len2 : Nat)) = false by rw [beq_eq_false_iff_ne]; omega]; simp))
        have t1 : ((len2 : Int) != 0) = true := by rw [bne_iff_ne]; omega
        clear hL2
        go_enter Try.func25, Try.ntmps25
        go_wp2
        go_ret
        exact ⟨F.out, HW0.out⟩
      subst hL2
      cases he : nm.toList with
      | cons c0 ct =>
        have he2 : nm.toList.isEmpty = false := by rw [he]; rfl
        have he3 : (!nm.toList.isEmpty) = true := by rw [he2]; rfl
        have F := Lib.hid (HF.out false (by rw [HB.out, he2, g2, g2']; simp))
        clear he
        go_enter Try.func25, Try.ntmps25
        go_wp2
        go_ret
        exact ⟨F.out, HW0.out⟩
      | nil =>
        have he2 : nm.toList.isEmpty = true := by rw [he]; rfl
        have F := Lib.hid (HF.out (C && D) (by rw [HB.out, HX.out, HY.out, he2, g2, g2']; simp))
        have W1 := HW0
        have BX1 := BX
        go_enter Try.func25, Try.ntmps25
        go_wp2_with fail
        generalize w.alloc (.cells #[.int .i64 1, .string nm, .slice a 0 cap, .slice a2 0 cap2] 33) = B1 at *
        go_loopw [5] (fun i wr => ∃ k : Nat, i = .int .i64 (k : Nat) ∧ k ≤ 0 ∧ Hid (Below w.heap.size w wr) ∧ Hid (Mem.Blk wr w.heap.size 33 #[.int .i64 1, .string nm, .slice a 0 cap, .slice a2 0 cap2]) ∧ Hid (∀ (j : Nat) y, j < k → exprs[j]? = some y → bE y = true)) (fun i _ => 0 - (intOf i).toNat)
        case atStart => exact ⟨0, rfl, Nat.zero_le _, W1.out, BX1.out, fun j y hj => absurd hj (Nat.not_lt_zero _)⟩
        case round =>
          clear W1 BX1
          obtain ⟨k, rfl, hk, HW, HXB, HP⟩ := hrel
          have c2 : wr.cell? ⟨w.heap.size, 2, none⟩ = some (.slice a 0 cap) := HXB.out.cell 2
          by_cases hlt : k < 0
          · obtain ⟨b, o, op', n', nm', args', a', len', cap', rfl, hb, hbx, hle, j1, j2, j3, hS', g0, g1, g2, g3⟩ := (HS.out.kept (Kept.of_below HW.out [])).at k hlt
            have HC := Lib.hid (rbuiltExpr_any (Ex.mk op' n' nm' args').rk _ (Nat.le_refl _) _ wr (RepE.mk' j1 j2 j3 hS'))
            have HLE := Lib.hid hle
            clear hle hS' j1 j2 j3
            generalize Ex.mk op' n' nm' args' = e' at *
            cases hp : bE e'
            · rw [hp] at HC
              have hC : C = false := HN.out k e' HLE.out hp
              have F2 : Hid (Ending.returned (.bool false) = .returned (.bool R)) := by show _ = _; rw [← F.out, hC]; rfl
              clear hp hC
              go_wp2_with fail
              all_goals
                refine HC.out.mono ?_; rintro r w1 ⟨rfl, b1⟩
                go_wp2
                go_ret
                exact ⟨F2.out, HW.out.trans (b1.mono HW.out.size)⟩
            · rw [hp] at HC
              have HP2 : Hid (∀ (j : Nat) y, j < k + 1 → exprs[j]? = some y → bE y = true) := by
                intro j y hj hy
                rcases Nat.lt_or_ge j k with h | h
                · exact HP.out j y h hy
                · obtain rfl : j = k := by omega
                  rw [HLE.out] at hy; injection hy with hy; subst hy; exact hp
              clear hp
              go_wp2_with fail
              all_goals
                refine HC.out.mono ?_; rintro r w1 ⟨rfl, b1⟩
                go_wp2
                go_roundw
                case rel => exact ⟨k + 1, by go_num, by omega, HW.out.trans (b1.mono HW.out.size), HXB.out.below b1, HP2⟩
                case measure => simp [intOf]; omega
          · have hC : C = true := HT.out (fun j y hy => HP.out j y (by have := (List.getElem?_eq_some_iff.1 hy).1; have := HL.out; omega) hy)
            have F3 : Hid (∀ b, D = b → Ending.returned (.bool b) = .returned (.bool R)) := by
              intro b hb; rw [← F.out, hC, hb]; rfl
            have W2 := HW
            have B2 := HXB
            clear hC c2 HP HW HXB
            go_wp2_with fail
            go_loopw [6] (fun i wr => ∃ k : Nat, i = .int .i64 (k : Nat) ∧ k ≤ 0 ∧ Hid (Below w.heap.size w wr) ∧ Hid (Mem.Blk wr w.heap.size 33 #[.int .i64 1, .string nm, .slice a 0 cap, .slice a2 0 cap2]) ∧ Hid (∀ (j : Nat) y, j < k → terms[j]? = some y → bT y = true)) (fun i _ => 0 - (intOf i).toNat)
            case atStart => exact ⟨0, rfl, Nat.zero_le _, W2.out, B2.out, fun j y hj => absurd hj (Nat.not_lt_zero _)⟩
            case round =>
              clear W2 B2
              obtain ⟨k2, rfl, hk2, HW, HXB, HP⟩ := hrel
              have c3 : wr.cell? ⟨w.heap.size, 3, none⟩ = some (.slice a2 0 cap2) := HXB.out.cell 3
              by_cases hlt2 : k2 < 0
              · obtain ⟨b, o, op', nm', ex', te', a', len', cap', a3, len3, cap3, rfl, hb, hbx, hle, j1, j3, hS', hS3, g0, g1, g2, g3⟩ := (HS2.out.kept (Kept.of_below HW.out [])).at k2 hlt2
                have HC := Lib.hid (HI.out k2 _ _ wr hle (RepT.mk' j1 j3 hS' hS3))
                have HLE := Lib.hid hle
                clear hle hS' hS3 j1 j3
                generalize Te.mk op' nm' ex' te' = e' at *
                cases hp : bT e'
                · rw [hp] at HC
                  have F4 := Lib.hid (F3.out false (HN2.out k2 e' HLE.out hp))
                  clear hp
                  go_wp2_with fail
                  all_goals
                    refine HC.out.mono ?_; rintro r w1 ⟨rfl, b1⟩
                    go_wp2
                    go_ret
                    exact ⟨F4.out, HW.out.trans (b1.mono HW.out.size)⟩
                · rw [hp] at HC
                  have HP2 : Hid (∀ (j : Nat) y, j < k2 + 1 → terms[j]? = some y → bT y = true) := by
                    intro j y hj hy
                    rcases Nat.lt_or_ge j k2 with h | h
                    · exact HP.out j y h hy
                    · obtain rfl : j = k2 := by omega
                      rw [HLE.out] at hy; injection hy with hy; subst hy; exact hp
                  clear hp
                  go_wp2_with fail
                  all_goals
                    refine HC.out.mono ?_; rintro r w1 ⟨rfl, b1⟩
                    go_wp2
                    go_roundw
                    case rel => exact ⟨k2 + 1, by go_num, by omega, HW.out.trans (b1.mono HW.out.size), HXB.out.below b1, HP2⟩
                    case measure => simp [intOf]; omega
              · have F4 := Lib.hid (F3.out true (HT2.out (fun j y hy => HP.out j y (by have := (List.getElem?_eq_some_iff.1 hy).1; have := HL2.out; omega) hy)))
                go_wp2
                go_ret
                exact ⟨F4.out, HW.out⟩
    · subst h
      have HX : Hid (arX 3 = 0) := by show _ = _; unfold arX; first | decide | (rw [if_neg (by omega), if_pos (by omega)])
      have HY : Hid (arT 3 = 1) := by show _ = _; unfold arT; first | decide | (rw [if_neg (by omega), if_neg (by omega), if_neg (by omega), if_pos (by omega)])
      by_cases hL : len = 0
      case neg =>
        have F := Lib.hid (HF.out false (by rw [HB.out, HX.out, show ((0 : Int) == (len : Nat)) = false by rw [beq_eq_false_iff_ne]; omega]; rfl))
        have t1 : ((len : Int) != 0) = true := by rw [bne_iff_ne]; omega
        clear hL
        go_enter Try.func25, Try.ntmps25
        go_wp2
        go_ret
        exact ⟨F.out, HW0.out⟩
      subst hL
      by_cases hL2 : len2 = 1
      case neg =>
        have F := Lib.hid (HF.out false (by rw [HB.out, HY.out, show ((1 : Int) == (len2 : Nat)) = false by rw [beq_eq_false_iff_ne]; omega]; simp))
        have t1 : ((len2 : Int) != 1) = true := by rw [bne_iff_ne]; omega
        clear hL2
        go_enter Try.func25, Try.ntmps25
        go_wp2
        go_ret
        exact ⟨F.out, HW0.out⟩
      subst hL2
      cases he : nm.toList with
      | cons c0 ct =>
        have he2 : nm.toList.isEmpty = false := by rw [he]; rfl
        have he3 : (!nm.toList.isEmpty) = true := by rw [he2]; rfl
        have F := Lib.hid (HF.out false (by rw [HB.out, he2, g2, g2']; simp))
        clear he
        go_enter Try.func25, Try.ntmps25
        go_wp2
        go_ret
        exact ⟨F.out, HW0.out⟩
      | nil =>
        have he2 : nm.toList.isEmpty = true := by rw [he]; rfl
        have F := Lib.hid (HF.out (C && D) (by rw [HB.out, HX.out, HY.out, he2, g2, g2']; simp))
        have W1 := HW0
        have BX1 := BX
        go_enter Try.func25, Try.ntmps25
        go_wp2_with fail
        generalize w.alloc (.cells #[.int .i64 3, .string nm, .slice a 0 cap, .slice a2 1 cap2] 33) = B1 at *
        go_loopw [5] (fun i wr => ∃ k : Nat, i = .int .i64 (k : Nat) ∧ k ≤ 0 ∧ Hid (Below w.heap.size w wr) ∧ Hid (Mem.Blk wr w.heap.size 33 #[.int .i64 3, .string nm, .slice a 0 cap, .slice a2 1 cap2]) ∧ Hid (∀ (j : Nat) y, j < k → exprs[j]? = some y → bE y = true)) (fun i _ => 0 - (intOf i).toNat)
        case atStart => exact ⟨0, rfl, Nat.zero_le _, W1.out, BX1.out, fun j y hj => absurd hj (Nat.not_lt_zero _)⟩
        case round =>
          clear W1 BX1
          obtain ⟨k, rfl, hk, HW, HXB, HP⟩ := hrel
          have c2 : wr.cell? ⟨w.heap.size, 2, none⟩ = some (.slice a 0 cap) := HXB.out.cell 2
          by_cases hlt : k < 0
          · obtain ⟨b, o, op', n', nm', args', a', len', cap', rfl, hb, hbx, hle, j1, j2, j3, hS', g0, g1, g2, g3⟩ := (HS.out.kept (Kept.of_below HW.out [])).at k hlt
            have HC := Lib.hid (rbuiltExpr_any (Ex.mk op' n' nm' args').rk _ (Nat.le_refl _) _ wr (RepE.mk' j1 j2 j3 hS'))
            have HLE := Lib.hid hle
            clear hle hS' j1 j2 j3
            generalize Ex.mk op' n' nm' args' = e' at *
            cases hp : bE e'
            · rw [hp] at HC
              have hC : C = false := HN.out k e' HLE.out hp
              have F2 : Hid (Ending.returned (.bool false) = .returned (.bool R)) := by show _ = _; rw [← F.out, hC]; rfl
              clear hp hC
              go_wp2_with fail
              all_goals
                refine HC.out.mono ?_; rintro r w1 ⟨rfl, b1⟩
                go_wp2
                go_ret
                exact ⟨F2.out, HW.out.trans (b1.mono HW.out.size)⟩
            · rw [hp] at HC
              have HP2 : Hid (∀ (j : Nat) y, j < k + 1 → exprs[j]? = some y → bE y = true) := by
                intro j y hj hy
                rcases Nat.lt_or_ge j k with h | h
                · exact HP.out j y h hy
                · obtain rfl : j = k := by omega
                  rw [HLE.out] at hy; injection hy with hy; subst hy; exact hp
              clear hp
              go_wp2_with fail
              all_goals
                refine HC.out.mono ?_; rintro r w1 ⟨rfl, b1⟩
                go_wp2
                go_roundw
                case rel => exact ⟨k + 1, by go_num, by omega, HW.out.trans (b1.mono HW.out.size), HXB.out.below b1, HP2⟩
                case measure => simp [intOf]; omega
          · have hC : C = true := HT.out (fun j y hy => HP.out j y (by have := (List.getElem?_eq_some_iff.1 hy).1; have := HL.out; omega) hy)
            have F3 : Hid (∀ b, D = b → Ending.returned (.bool b) = .returned (.bool R)) := by
              intro b hb; rw [← F.out, hC, hb]; rfl
            have W2 := HW
            have B2 := HXB
            clear hC c2 HP HW HXB
            go_wp2_with fail
            go_loopw [6] (fun i wr => ∃ k : Nat, i = .int .i64 (k : Nat) ∧ k ≤ 1 ∧ Hid (Below w.heap.size w wr) ∧ Hid (Mem.Blk wr w.heap.size 33 #[.int .i64 3, .string nm, .slice a 0 cap, .slice a2 1 cap2]) ∧ Hid (∀ (j : Nat) y, j < k → terms[j]? = some y → bT y = true)) (fun i _ => 1 - (intOf i).toNat)
            case atStart => exact ⟨0, rfl, Nat.zero_le _, W2.out, B2.out, fun j y hj => absurd hj (Nat.not_lt_zero _)⟩
            case round =>
              clear W2 B2
              obtain ⟨k2, rfl, hk2, HW, HXB, HP⟩ := hrel
              have c3 : wr.cell? ⟨w.heap.size, 3, none⟩ = some (.slice a2 1 cap2) := HXB.out.cell 3
              by_cases hlt2 : k2 < 1
              · obtain ⟨b, o, op', nm', ex', te', a', len', cap', a3, len3, cap3, rfl, hb, hbx, hle, j1, j3, hS', hS3, g0, g1, g2, g3⟩ := (HS2.out.kept (Kept.of_below HW.out [])).at k2 hlt2
                have HC := Lib.hid (HI.out k2 _ _ wr hle (RepT.mk' j1 j3 hS' hS3))
                have HLE := Lib.hid hle
                clear hle hS' hS3 j1 j3
                generalize Te.mk op' nm' ex' te' = e' at *
                cases hp : bT e'
                · rw [hp] at HC
                  have F4 := Lib.hid (F3.out false (HN2.out k2 e' HLE.out hp))
                  clear hp
                  go_wp2_with fail
                  all_goals
                    refine HC.out.mono ?_; rintro r w1 ⟨rfl, b1⟩
                    go_wp2
                    go_ret
                    exact ⟨F4.out, HW.out.trans (b1.mono HW.out.size)⟩
                · rw [hp] at HC
                  have HP2 : Hid (∀ (j : Nat) y, j < k2 + 1 → terms[j]? = some y → bT y = true) := by
                    intro j y hj hy
                    rcases Nat.lt_or_ge j k2 with h | h
                    · exact HP.out j y h hy
                    · obtain rfl : j = k2 := by omega
                      rw [HLE.out] at hy; injection hy with hy; subst hy; exact hp
                  clear hp
                  go_wp2_with fail
                  all_goals
                    refine HC.out.mono ?_; rintro r w1 ⟨rfl, b1⟩
                    go_wp2
                    go_roundw
                    case rel => exact ⟨k2 + 1, by go_num, by omega, HW.out.trans (b1.mono HW.out.size), HXB.out.below b1, HP2⟩
                    case measure => simp [intOf]; omega
              · have F4 := Lib.hid (F3.out true (HT2.out (fun j y hy => HP.out j y (by have := (List.getElem?_eq_some_iff.1 hy).1; have := HL2.out; omega) hy)))
                go_wp2
                go_ret
                exact ⟨F4.out, HW.out⟩
    · have g3 : (op == 3) = false := by simp; omega
      have g9 : decide (9 < op) = false := by simp; omega
      have g1 : decide (op < 1) = false := by simp; omega
      rcases h with h | h
      · subst h
        have HX : Hid (arX 4 = 0) := by show _ = _; unfold arX; first | decide | (rw [if_neg (by omega), if_pos (by omega)])
        have HY : Hid (arT 4 = 2) := by show _ = _; unfold arT; first | decide | (rw [if_neg (by omega), if_neg (by omega), if_neg (by omega), if_pos (by omega)])
        by_cases hL : len = 0
        case neg =>
          have F := Lib.hid (HF.out false (by rw [HB.out, HX.out, show ((0 : Int) == (len : Nat)) = false by rw [beq_eq_false_iff_ne]; omega]; rfl))
          have t1 : ((len : Int) != 0) = true := by rw [bne_iff_ne]; omega
          clear hL
          go_enter Try.func25, Try.ntmps25
          go_wp2
          go_ret
          exact ⟨F.out, HW0.out⟩
        subst hL
        by_cases hL2 : len2 = 2
        case neg =>
          have F := Lib.hid (HF.out false (by rw [HB.out, HY.out, show ((2 : Int) == (len2 : Nat)) = false by rw [beq_eq_false_iff_ne]; omega]; simp))
          have t1 : ((len2 : Int) != 2) = true := by rw [bne_iff_ne]; omega
          clear hL2
          go_enter Try.func25, Try.ntmps25
          go_wp2
          go_ret
          exact ⟨F.out, HW0.out⟩
        subst hL2
        cases he : nm.toList with
        | cons c0 ct =>
          have he2 : nm.toList.isEmpty = false := by rw [he]; rfl
          have he3 : (!nm.toList.isEmpty) = true := by rw [he2]; rfl
          have F := Lib.hid (HF.out false (by rw [HB.out, he2, g2, g2']; simp))
          clear he
          go_enter Try.func25, Try.ntmps25
          go_wp2
          go_ret
          exact ⟨F.out, HW0.out⟩
        | nil =>
          have he2 : nm.toList.isEmpty = true := by rw [he]; rfl
          have F := Lib.hid (HF.out (C && D) (by rw [HB.out, HX.out, HY.out, he2, g2, g2']; simp))
          have W1 := HW0
          have BX1 := BX
          go_enter Try.func25, Try.ntmps25
          go_wp2_with fail
          generalize w.alloc (.cells #[.int .i64 4, .string nm, .slice a 0 cap, .slice a2 2 cap2] 33) = B1 at *
          go_loopw [5] (fun i wr => ∃ k : Nat, i = .int .i64 (k : Nat) ∧ k ≤ 0 ∧ Hid (Below w.heap.size w wr) ∧ Hid (Mem.Blk wr w.heap.size 33 #[.int .i64 4, .string nm, .slice a 0 cap, .slice a2 2 cap2]) ∧ Hid (∀ (j : Nat) y, j < k → exprs[j]? = some y → bE y = true)) (fun i _ => 0 - (intOf i).toNat)
          case atStart => exact ⟨0, rfl, Nat.zero_le _, W1.out, BX1.out, fun j y hj => absurd hj (Nat.not_lt_zero _)⟩
          case round =>
            clear W1 BX1
            obtain ⟨k, rfl, hk, HW, HXB, HP⟩ := hrel
            have c2 : wr.cell? ⟨w.heap.size, 2, none⟩ = some (.slice a 0 cap) := HXB.out.cell 2
            by_cases hlt : k < 0
            · obtain ⟨b, o, op', n', nm', args', a', len', cap', rfl, hb, hbx, hle, j1, j2, j3, hS', g0, g1, g2, g3⟩ := (HS.out.kept (Kept.of_below HW.out [])).at k hlt
              have HC := Lib.hid (rbuiltExpr_any (Ex.mk op' n' nm' args').rk _ (Nat.le_refl _) _ wr (RepE.mk' j1 j2 j3 hS'))
              have HLE := Lib.hid hle
              clear hle hS' j1 j2 j3
              generalize Ex.mk op' n' nm' args' = e' at *
              cases hp : bE e'
              · rw [hp] at HC
                have hC : C = false := HN.out k e' HLE.out hp
                have F2 : Hid (Ending.returned (.bool false) = .returned (.bool R)) := by show _ = _; rw [← F.out, hC]; rfl
                clear hp hC
                go_wp2_with fail
                all_goals
                  refine HC.out.mono ?_; rintro r w1 ⟨rfl, b1⟩
                  go_wp2
                  go_ret
                  exact ⟨F2.out, HW.out.trans (b1.mono HW.out.size)⟩
              · rw [hp] at HC
                have HP2 : Hid (∀ (j : Nat) y, j < k + 1 → exprs[j]? = some y → bE y = true) := by
                  intro j y hj hy
                  rcases Nat.lt_or_ge j k with h | h
                  · exact HP.out j y h hy
                  · obtain rfl : j = k := by omega
                    rw [HLE.out] at hy; injection hy with hy; subst hy; exact hp
                clear hp
                go_wp2_with fail
                all_goals
                  refine HC.out.mono ?_; rintro r w1 ⟨rfl, b1⟩
                  go_wp2
                  go_roundw
                  case rel => exact ⟨k + 1, by go_num, by omega, HW.out.trans (b1.mono HW.out.size), HXB.out.below b1, HP2⟩
                  case measure => simp [intOf]; omega
            · have hC : C = true := HT.out (fun j y hy => HP.out j y (by have := (List.getElem?_eq_some_iff.1 hy).1; have := HL.out; omega) hy)
              have F3 : Hid (∀ b, D = b → Ending.returned (.bool b) = .returned (.bool R)) := by
                intro b hb; rw [← F.out, hC, hb]; rfl
              have W2 := HW
              have B2 := HXB
              clear hC c2 HP HW HXB
              go_wp2_with fail
              go_loopw [6] (fun i wr => ∃ k : Nat, i = .int .i64 (k : Nat) ∧ k ≤ 2 ∧ Hid (Below w.heap.size w wr) ∧ Hid (Mem.Blk wr w.heap.size 33 #[.int .i64 4, .string nm, .slice a 0 cap, .slice a2 2 cap2]) ∧ Hid (∀ (j : Nat) y, j < k → terms[j]? = some y → bT y = true)) (fun i _ => 2 - (intOf i).toNat)
              case atStart => exact ⟨0, rfl, Nat.zero_le _, W2.out, B2.out, fun j y hj => absurd hj (Nat.not_lt_zero _)⟩
              case round =>
                clear W2 B2
                obtain ⟨k2, rfl, hk2, HW, HXB, HP⟩ := hrel
                have c3 : wr.cell? ⟨w.heap.size, 3, none⟩ = some (.slice a2 2 cap2) := HXB.out.cell 3
                by_cases hlt2 : k2 < 2
                · obtain ⟨b, o, op', nm', ex', te', a', len', cap', a3, len3, cap3, rfl, hb, hbx, hle, j1, j3, hS', hS3, g0, g1, g2, g3⟩ := (HS2.out.kept (Kept.of_below HW.out [])).at k2 hlt2
                  have HC := Lib.hid (HI.out k2 _ _ wr hle (RepT.mk' j1 j3 hS' hS3))
                  have HLE := Lib.hid hle
                  clear hle hS' hS3 j1 j3
                  generalize Te.mk op' nm' ex' te' = e' at *
                  cases hp : bT e'
                  · rw [hp] at HC
                    have F4 := Lib.hid (F3.out false (HN2.out k2 e' HLE.out hp))
                    clear hp
                    go_wp2_with fail
                    all_goals
                      refine HC.out.mono ?_; rintro r w1 ⟨rfl, b1⟩
                      go_wp2
                      go_ret
                      exact ⟨F4.out, HW.out.trans (b1.mono HW.out.size)⟩
                  · rw [hp] at HC
                    have HP2 : Hid (∀ (j : Nat) y, j < k2 + 1 → terms[j]? = some y → bT y = true) := by
                      intro j y hj hy
                      rcases Nat.lt_or_ge j k2 with h | h
                      · exact HP.out j y h hy
                      · obtain rfl : j = k2 := by omega
                        rw [HLE.out] at hy; injection hy with hy; subst hy; exact hp
                    clear hp
                    go_wp2_with fail
                    all_goals
                      refine HC.out.mono ?_; rintro r w1 ⟨rfl, b1⟩
                      go_wp2
                      go_roundw
                      case rel => exact ⟨k2 + 1, by go_num, by omega, HW.out.trans (b1.mono HW.out.size), HXB.out.below b1, HP2⟩
                      case measure => simp [intOf]; omega
                · have F4 := Lib.hid (F3.out true (HT2.out (fun j y hy => HP.out j y (by have := (List.getElem?_eq_some_iff.1 hy).1; have := HL2.out; omega) hy)))
                  go_wp2
                  go_ret
                  exact ⟨F4.out, HW.out⟩
      · subst h
        have HX : Hid (arX 5 = 0) := by show _ = _; unfold arX; first | decide | (rw [if_neg (by omega), if_pos (by omega)])
        have HY : Hid (arT 5 = 2) := by show _ = _; unfold arT; first | decide | (rw [if_neg (by omega), if_neg (by omega), if_neg (by omega), if_pos (by omega)])
        by_cases hL : len = 0
        case neg =>
          have F := Lib.hid (HF.out false (by rw [HB.out, HX.out, show ((0 : Int) == (len : Nat)) = false by rw [beq_eq_false_iff_ne]; omega]; rfl))
          have t1 : ((len : Int) != 0) = true := by rw [bne_iff_ne]; omega
          clear hL
          go_enter Try.func25, Try.ntmps25
          go_wp2
          go_ret
          exact ⟨F.out, HW0.out⟩
        subst hL
        by_cases hL2 : len2 = 2
        case neg =>
          have F := Lib.hid (HF.out false (by rw [HB.out, HY.out, show ((2 : Int) == (len2 : Nat)) = false by rw [beq_eq_false_iff_ne]; omega]; simp))
          have t1 : ((len2 : Int) != 2) = true := by rw [bne_iff_ne]; omega
          clear hL2
          go_enter Try.func25, Try.ntmps25
          go_wp2
          go_ret
          exact ⟨F.out, HW0.out⟩
        subst hL2
        cases he : nm.toList with
        | cons c0 ct =>
          have he2 : nm.toList.isEmpty = false := by rw [he]; rfl
          have he3 : (!nm.toList.isEmpty) = true := by rw [he2]; rfl
          have F := Lib.hid (HF.out false (by rw [HB.out, he2, g2, g2']; simp))
          clear he
          go_enter Try.func25, Try.ntmps25
          go_wp2
          go_ret
          exact ⟨F.out, HW0.out⟩
        | nil =>
          have he2 : nm.toList.isEmpty = true := by rw [he]; rfl
          have F := Lib.hid (HF.out (C && D) (by rw [HB.out, HX.out, HY.out, he2, g2, g2']; simp))
          have W1 := HW0
          have BX1 := BX
          go_enter Try.func25, Try.ntmps25
          go_wp2_with fail
          generalize w.alloc (.cells #[.int .i64 5, .string nm, .slice a 0 cap, .slice a2 2 cap2] 33) = B1 at *
          go_loopw [5] (fun i wr => ∃ k : Nat, i = .int .i64 (k : Nat) ∧ k ≤ 0 ∧ Hid (Below w.heap.size w wr) ∧ Hid (Mem.Blk wr w.heap.size 33 #[.int .i64 5, .string nm, .slice a 0 cap, .slice a2 2 cap2]) ∧ Hid (∀ (j : Nat) y, j < k → exprs[j]? = some y → bE y = true)) (fun i _ => 0 - (intOf i).toNat)
          case atStart => exact ⟨0, rfl, Nat.zero_le _, W1.out, BX1.out, fun j y hj => absurd hj (Nat.not_lt_zero _)⟩
          case round =>
            clear W1 BX1
            obtain ⟨k, rfl, hk, HW, HXB, HP⟩ := hrel
            have c2 : wr.cell? ⟨w.heap.size, 2, none⟩ = some (.slice a 0 cap) := HXB.out.cell 2
            by_cases hlt : k < 0
            · obtain ⟨b, o, op', n', nm', args', a', len', cap', rfl, hb, hbx, hle, j1, j2, j3, hS', g0, g1, g2, g3⟩ := (HS.out.kept (Kept.of_below HW.out [])).at k hlt
              have HC := Lib.hid (rbuiltExpr_any (Ex.mk op' n' nm' args').rk _ (Nat.le_refl _) _ wr (RepE.mk' j1 j2 j3 hS'))
              have HLE := Lib.hid hle
              clear hle hS' j1 j2 j3
              generalize Ex.mk op' n' nm' args' = e' at *
              cases hp : bE e'
              · rw [hp] at HC
                have hC : C = false := HN.out k e' HLE.out hp
                have F2 : Hid (Ending.returned (.bool false) = .returned (.bool R)) := by show _ = _; rw [← F.out, hC]; rfl
                clear hp hC
                go_wp2_with fail
                all_goals
                  refine HC.out.mono ?_; rintro r w1 ⟨rfl, b1⟩
                  go_wp2
                  go_ret
                  exact ⟨F2.out, HW.out.trans (b1.mono HW.out.size)⟩
              · rw [hp] at HC
                have HP2 : Hid (∀ (j : Nat) y, j < k + 1 → exprs[j]? = some y → bE y = true) := by
                  intro j y hj hy
                  rcases Nat.lt_or_ge j k with h | h
                  · exact HP.out j y h hy
                  · obtain rfl : j = k := by omega
                    rw [HLE.out] at hy; injection hy with hy; subst hy; exact hp
                clear hp
                go_wp2_with fail
                all_goals
                  refine HC.out.mono ?_; rintro r w1 ⟨rfl, b1⟩
                  go_wp2
                  go_roundw
                  case rel => exact ⟨k + 1, by go_num, by omega, HW.out.trans (b1.mono HW.out.size), HXB.out.below b1, HP2⟩
                  case measure => simp [intOf]; omega
            · have hC : C = true := HT.out (fun j y hy => HP.out j y (by have := (List.getElem?_eq_some_iff.1 hy).1; have := HL.out; omega) hy)
              have F3 : Hid (∀ b, D = b → Ending.returned (.bool b) = .returned (.bool R)) := by
                intro b hb; rw [← F.out, hC, hb]; rfl
              have W2 := HW
              have B2 := HXB
              clear hC c2 HP HW HXB
              go_wp2_with fail
              go_loopw [6] (fun i wr => ∃ k : Nat, i = .int .i64 (k : Nat) ∧ k ≤ 2 ∧ Hid (Below w.heap.size w wr) ∧ Hid (Mem.Blk wr w.heap.size 33 #[.int .i64 5, .string nm, .slice a 0 cap, .slice a2 2 cap2]) ∧ Hid (∀ (j : Nat) y, j < k → terms[j]? = some y → bT y = true)) (fun i _ => 2 - (intOf i).toNat)
              case atStart => exact ⟨0, rfl, Nat.zero_le _, W2.out, B2.out, fun j y hj => absurd hj (Nat.not_lt_zero _)⟩
              case round =>
                clear W2 B2
                obtain ⟨k2, rfl, hk2, HW, HXB, HP⟩ := hrel
                have c3 : wr.cell? ⟨w.heap.size, 3, none⟩ = some (.slice a2 2 cap2) := HXB.out.cell 3
                by_cases hlt2 : k2 < 2
                · obtain ⟨b, o, op', nm', ex', te', a', len', cap', a3, len3, cap3, rfl, hb, hbx, hle, j1, j3, hS', hS3, g0, g1, g2, g3⟩ := (HS2.out.kept (Kept.of_below HW.out [])).at k2 hlt2
                  have HC := Lib.hid (HI.out k2 _ _ wr hle (RepT.mk' j1 j3 hS' hS3))
                  have HLE := Lib.hid hle
                  clear hle hS' hS3 j1 j3
                  generalize Te.mk op' nm' ex' te' = e' at *
                  cases hp : bT e'
                  · rw [hp] at HC
                    have F4 := Lib.hid (F3.out false (HN2.out k2 e' HLE.out hp))
                    clear hp
                    go_wp2_with fail
                    all_goals
                      refine HC.out.mono ?_; rintro r w1 ⟨rfl, b1⟩
                      go_wp2
                      go_ret
                      exact ⟨F4.out, HW.out.trans (b1.mono HW.out.size)⟩
                  · rw [hp] at HC
                    have HP2 : Hid (∀ (j : Nat) y, j < k2 + 1 → terms[j]? = some y → bT y = true) := by
                      intro j y hj hy
                      rcases Nat.lt_or_ge j k2 with h | h
                      · exact HP.out j y h hy
                      · obtain rfl : j = k2 := by omega
                        rw [HLE.out] at hy; injection hy with hy; subst hy; exact hp
                    clear hp
                    go_wp2_with fail
                    all_goals
                      refine HC.out.mono ?_; rintro r w1 ⟨rfl, b1⟩
                      go_wp2
                      go_roundw
                      case rel => exact ⟨k2 + 1, by go_num, by omega, HW.out.trans (b1.mono HW.out.size), HXB.out.below b1, HP2⟩
                      case measure => simp [intOf]; omega
                · have F4 := Lib.hid (F3.out true (HT2.out (fun j y hy => HP.out j y (by have := (List.getElem?_eq_some_iff.1 hy).1; have := HL2.out; omega) hy)))
                  go_wp2
                  go_ret
                  exact ⟨F4.out, HW.out⟩
    · have g3 : (op == 3) = false := by simp; omega
      have g4 : (op == 4) = false := by simp; omega
      have g5 : (op == 5) = false := by simp; omega
      have HX : Hid (arX op = 1) := by show _ = _; unfold arX; first | decide | (rw [if_neg (by omega), if_pos (by omega)])
      have HY : Hid (arT op = 1) := by show _ = _; unfold arT; first | decide | (rw [if_neg (by omega), if_neg (by omega), if_neg (by omega), if_pos (by omega)])
      by_cases hL : len = 1
      case neg =>
        have F := Lib.hid (HF.out false (by rw [HB.out, HX.out, show ((1 : Int) == (len : Nat)) = false by rw [beq_eq_false_iff_ne]; omega]; rfl))
        have t1 : ((len : Int) != 1) = true := by rw [bne_iff_ne]; omega
        clear hL
        go_enter Try.func25, Try.ntmps25
        go_wp2
        go_ret
        exact ⟨F.out, HW0.out⟩
      subst hL
      by_cases hL2 : len2 = 1
      case neg =>
        have F := Lib.hid (HF.out false (by rw [HB.out, HY.out, show ((1 : Int) == (len2 : Nat)) = false by rw [beq_eq_false_iff_ne]; omega]; simp))
        have t1 : ((len2 : Int) != 1) = true := by rw [bne_iff_ne]; omega
        clear hL2
        go_enter Try.func25, Try.ntmps25
        go_wp2
        go_ret
        exact ⟨F.out, HW0.out⟩
      subst hL2
      cases he : nm.toList with
      | cons c0 ct =>
        have he2 : nm.toList.isEmpty = false := by rw [he]; rfl
        have he3 : (!nm.toList.isEmpty) = true := by rw [he2]; rfl
        have F := Lib.hid (HF.out false (by rw [HB.out, he2, g2, g2']; simp))
        clear he
        go_enter Try.func25, Try.ntmps25
        go_wp2
        go_ret
        exact ⟨F.out, HW0.out⟩
      | nil =>
        have he2 : nm.toList.isEmpty = true := by rw [he]; rfl
        have F := Lib.hid (HF.out (C && D) (by rw [HB.out, HX.out, HY.out, he2, g2, g2']; simp))
        have W1 := HW0
        have BX1 := BX
        go_enter Try.func25, Try.ntmps25
        go_wp2_with fail
        generalize w.alloc (.cells #[.int .i64 op, .string nm, .slice a 1 cap, .slice a2 1 cap2] 33) = B1 at *
        go_loopw [5] (fun i wr => ∃ k : Nat, i = .int .i64 (k : Nat) ∧ k ≤ 1 ∧ Hid (Below w.heap.size w wr) ∧ Hid (Mem.Blk wr w.heap.size 33 #[.int .i64 op, .string nm, .slice a 1 cap, .slice a2 1 cap2]) ∧ Hid (∀ (j : Nat) y, j < k → exprs[j]? = some y → bE y = true)) (fun i _ => 1 - (intOf i).toNat)
        case atStart => exact ⟨0, rfl, Nat.zero_le _, W1.out, BX1.out, fun j y hj => absurd hj (Nat.not_lt_zero _)⟩
        case round =>
          clear W1 BX1
          obtain ⟨k, rfl, hk, HW, HXB, HP⟩ := hrel
          have c2 : wr.cell? ⟨w.heap.size, 2, none⟩ = some (.slice a 1 cap) := HXB.out.cell 2
          by_cases hlt : k < 1
          · obtain ⟨b, o, op', n', nm', args', a', len', cap', rfl, hb, hbx, hle, j1, j2, j3, hS', g0, g1, g2, g3⟩ := (HS.out.kept (Kept.of_below HW.out [])).at k hlt
            have HC := Lib.hid (rbuiltExpr_any (Ex.mk op' n' nm' args').rk _ (Nat.le_refl _) _ wr (RepE.mk' j1 j2 j3 hS'))
            have HLE := Lib.hid hle
            clear hle hS' j1 j2 j3
            generalize Ex.mk op' n' nm' args' = e' at *
            cases hp : bE e'
            · rw [hp] at HC
              have hC : C = false := HN.out k e' HLE.out hp
              have F2 : Hid (Ending.returned (.bool false) = .returned (.bool R)) := by show _ = _; rw [← F.out, hC]; rfl
              clear hp hC
              go_wp2_with fail
              all_goals
                refine HC.out.mono ?_; rintro r w1 ⟨rfl, b1⟩
                go_wp2
                go_ret
                exact ⟨F2.out, HW.out.trans (b1.mono HW.out.size)⟩
            · rw [hp] at HC
              have HP2 : Hid (∀ (j : Nat) y, j < k + 1 → exprs[j]? = some y → bE y = true) := by
                intro j y hj hy
                rcases Nat.lt_or_ge j k with h | h
                · exact HP.out j y h hy
                · obtain rfl : j = k := by omega
                  rw [HLE.out] at hy; injection hy with hy; subst hy; exact hp
              clear hp
              go_wp2_with fail
              all_goals
                refine HC.out.mono ?_; rintro r w1 ⟨rfl, b1⟩
                go_wp2
                go_roundw
                case rel => exact ⟨k + 1, by go_num, by omega, HW.out.trans (b1.mono HW.out.size), HXB.out.below b1, HP2⟩
                case measure => simp [intOf]; omega
          · have hC : C = true := HT.out (fun j y hy => HP.out j y (by have := (List.getElem?_eq_some_iff.1 hy).1; have := HL.out; omega) hy)
            have F3 : Hid (∀ b, D = b → Ending.returned (.bool b) = .returned (.bool R)) := by
              intro b hb; rw [← F.out, hC, hb]; rfl
            have W2 := HW
            have B2 := HXB
            clear hC c2 HP HW HXB
            go_wp2_with fail
            go_loopw [6] (fun i wr => ∃ k : Nat, i = .int .i64 (k : Nat) ∧ k ≤ 1 ∧ Hid (Below w.heap.size w wr) ∧ Hid (Mem.Blk wr w.heap.size 33 #[.int .i64 op, .string nm, .slice a 1 cap, .slice a2 1 cap2]) ∧ Hid (∀ (j : Nat) y, j < k → terms[j]? = some y → bT y = true)) (fun i _ => 1 - (intOf i).toNat)
            case atStart => exact ⟨0, rfl, Nat.zero_le _, W2.out, B2.out, fun j y hj => absurd hj (Nat.not_lt_zero _)⟩
            case round =>
              clear W2 B2
              obtain ⟨k2, rfl, hk2, HW, HXB, HP⟩ := hrel
              have c3 : wr.cell? ⟨w.heap.size, 3, none⟩ = some (.slice a2 1 cap2) := HXB.out.cell 3
              by_cases hlt2 : k2 < 1
              · obtain ⟨b, o, op', nm', ex', te', a', len', cap', a3, len3, cap3, rfl, hb, hbx, hle, j1, j3, hS', hS3, g0, g1, g2, g3⟩ := (HS2.out.kept (Kept.of_below HW.out [])).at k2 hlt2
                have HC := Lib.hid (HI.out k2 _ _ wr hle (RepT.mk' j1 j3 hS' hS3))
                have HLE := Lib.hid hle
                clear hle hS' hS3 j1 j3
                generalize Te.mk op' nm' ex' te' = e' at *
                cases hp : bT e'
                · rw [hp] at HC
                  have F4 := Lib.hid (F3.out false (HN2.out k2 e' HLE.out hp))
                  clear hp
                  go_wp2_with fail
                  all_goals
                    refine HC.out.mono ?_; rintro r w1 ⟨rfl, b1⟩
                    go_wp2
                    go_ret
                    exact ⟨F4.out, HW.out.trans (b1.mono HW.out.size)⟩
                · rw [hp] at HC
                  have HP2 : Hid (∀ (j : Nat) y, j < k2 + 1 → terms[j]? = some y → bT y = true) := by
                    intro j y hj hy
                    rcases Nat.lt_or_ge j k2 with h | h
                    · exact HP.out j y h hy
                    · obtain rfl : j = k2 := by omega
                      rw [HLE.out] at hy; injection hy with hy; subst hy; exact hp
                  clear hp
                  go_wp2_with fail
                  all_goals
                    refine HC.out.mono ?_; rintro r w1 ⟨rfl, b1⟩
                    go_wp2
                    go_roundw
                    case rel => exact ⟨k2 + 1, by go_num, by omega, HW.out.trans (b1.mono HW.out.size), HXB.out.below b1, HP2⟩
                    case measure => simp [intOf]; omega
              · have F4 := Lib.hid (F3.out true (HT2.out (fun j y hy => HP.out j y (by have := (List.getElem?_eq_some_iff.1 hy).1; have := HL2.out; omega) hy)))
                go_wp2
                go_ret
                exact ⟨F4.out, HW.out⟩
end Go.Proofs.Ytjpkljkmignnjaa
