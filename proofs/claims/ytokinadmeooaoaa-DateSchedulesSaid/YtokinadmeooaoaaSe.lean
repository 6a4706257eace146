/- The contract of the document's Schedule; condition: the numbers lie within 64 bits, not more than a hundred holidays. -/
import Derived.Test.YtokinadmeooaoaaSd
namespace Go.Proofs.Ytokinadmeooaoaa
set_option linter.unusedVariables false
set_option linter.unusedSimpArgs false
open Go.RowKit
set_option maxRecDepth 100000 in
set_option maxHeartbeats 8000000 in
theorem rsched_any (frm til months rule : Int) (a : Option Addr) (len cap : Nat) (hol : List Int) (w : World) (hl : Ints w a len hol) :
    Calls Try.prog 36 #[.int .i64 frm, .int .i64 til, .int .i64 months, .int .i64 rule, .slice a len cap] w fun e w' => SchedR w w' e frm til months rule hol ∧ Below w.heap.size w w' := by
  have HH := Lib.hid hl
  have HNO : Hid (¬ GdS frm til months → ∀ W, SchedR w W (.returned (.tuple #[.slice none 0 0, .bool false])) frm til months rule hol) := fun h W => ⟨none, .inl ⟨rfl, .inl h⟩, .inl ⟨rfl, rfl⟩⟩
  have HGI := Lib.hid (gd_iff frm til months)
  clear hl
  by_cases h1 : frm < 0
  · have HN := Lib.hid (HNO.out (fun g => by have := HGI.out.1 g; omega))
    clear HNO
    go_enter Try.func36, Try.ntmps36
    go_wp2_with fail
    go_ret2
    exact ⟨HN.out _, Below.refl _ _⟩
  by_cases h2 : 2932896 < til
  · have HN := Lib.hid (HNO.out (fun g => by have := HGI.out.1 g; omega))
    clear HNO
    go_enter Try.func36, Try.ntmps36
    go_wp2_with fail
    go_ret2
    exact ⟨HN.out _, Below.refl _ _⟩
  by_cases h3 : til ≤ frm
  · have HN := Lib.hid (HNO.out (fun g => by have := HGI.out.1 g; omega))
    clear HNO
    go_enter Try.func36, Try.ntmps36
    go_wp2_with fail
    go_ret2
    exact ⟨HN.out _, Below.refl _ _⟩
  by_cases h4 : months < 1
  · have HN := Lib.hid (HNO.out (fun g => by have := HGI.out.1 g; omega))
    clear HNO
    go_enter Try.func36, Try.ntmps36
    go_wp2_with fail
    go_ret2
    exact ⟨HN.out _, Below.refl _ _⟩
  by_cases h5 : 1200 < months
  · have HN := Lib.hid (HNO.out (fun g => by have := HGI.out.1 g; omega))
    clear HNO
    go_enter Try.func36, Try.ntmps36
    go_wp2_with fail
    go_ret2
    exact ⟨HN.out _, Below.refl _ _⟩
  have HGD := Lib.hid (HGI.out.2 ⟨by omega, by omega, by omega, by omega, by omega⟩)
  clear HNO HGI
  go_enter Try.func36, Try.ntmps36
  go_upto_block 0 with (fail)
  have HO : Hid (Mem.Own w (w.alloc (.cells #[.int .i64 frm] 3)) 3 1 (.slice (some ⟨w.heap.size, 0, none⟩) 1 1) 1 (ivs (Ls frm (gS frm months) 0))) := Mem.Own.lit (Below.refl w.heap.size w) #[.int .i64 frm] 1 (by unfold maxLen; omega) rfl
  generalize w.alloc (.cells #[.int .i64 frm] 3) = w0 at *
  go_cut [12] (fun v wc => ∃ (c g cap1 : Nat), v = .slice (some ⟨g, 0, none⟩) (c + 1) cap1 ∧ c ≤ 400 ∧ Hid (Run til (gS frm months) c ∧ (c = 400 ∨ ¬ OkS til (gS frm months) (c + 1)) ∧ Mem.Own w wc 3 1 (.slice (some ⟨g, 0, none⟩) (c + 1) cap1) (c + 1) (ivs (Ls frm (gS frm months) c))))
  case first =>
    go_wp2_with fail
    go_loopw [12, 13] (fun v i wr => ∃ (k c g cap1 : Nat), v = .slice (some ⟨g, 0, none⟩) k cap1 ∧ i = .int .i64 (k : Nat) ∧ k ≤ 401 ∧ Hid (c + 1 = k ∧ Run til (gS frm months) c ∧ Mem.Own w wr 3 1 (.slice (some ⟨g, 0, none⟩) k cap1) k (ivs (Ls frm (gS frm months) c)))) (fun _ i _ => 402 - (intOf i).toNat)
    case atStart => exact ⟨1, 0, _, _, rfl, rfl, by omega, rfl, fun j a b => by omega, HO.out⟩
    case round =>
      clear HO
      obtain ⟨k, c, g, cap1, rfl, rfl, hk, HR⟩ := hrel
      have hk1 : 1 ≤ k := by have := HR.out.1; omega
      by_cases hk4 : k ≤ 400
      · have hk4' : (k : Int) ≤ 400 := by omega
        have hp0 : 0 ≤ (k : Int) * months := Int.mul_nonneg (by omega) (by omega)
        have hp1 : (k : Int) * months ≤ 400 * 1200 := Int.mul_le_mul (by omega) (by omega) (by omega) (by omega)
        have hw : wrap64 ((k : Int) * months) = (k : Int) * months := IntWalk.wrap64_in _ ⟨by omega, by omega⟩
        have HG : Hid (gS frm months (c + 1) = refMon frm ((k : Int) * months)) := by show _ = _; rw [HR.out.1]; rfl
        by_cases hn : refMon frm ((k : Int) * months) < 0
        · have HST : Hid (¬ OkS til (gS frm months) (c + 1)) := by show ¬ _; unfold OkS; rw [HG.out]; omega
          clear HG
          go_wp2_with fail
          refine (rmon_any _ _ _).mono ?_; rintro e w1 ⟨rfl, b1⟩
          have HB1 := Lib.hid b1
          clear b1
          go_wp2_with fail
          go_meet
          case rel => exact ⟨c, g, cap1, by rw [HR.out.1], by have := HR.out.1; omega, HR.out.2.1, .inr HST.out, by have := HR.out.2.2.call HB1.out; rw [← HR.out.1] at this; exact this⟩
        · by_cases hlt : refMon frm ((k : Int) * months) < til
          · have HS : Hid (Run til (gS frm months) (c + 1) ∧ Ls frm (gS frm months) (c + 1) = Ls frm (gS frm months) c ++ [refMon frm ((k : Int) * months)]) := by
              have hg := HG.out
              refine ⟨Run.succ _ _ HR.out.2.1 (by unfold OkS; rw [hg]; omega), by rw [Ls_succ, hg]⟩
            have hlt' : ¬ til ≤ refMon frm ((k : Int) * months) := by omega
            clear HG
            go_wp2_with fail
            refine (rmon_any _ _ _).mono ?_; rintro e w1 ⟨rfl, b1⟩
            have HO1 := Lib.hid (HR.out.2.2.call b1)
            clear b1 hw hp0 hp1
            generalize refMon frm ((k : Int) * months) = y at *
            go_upto_region 6 with (at_builtin; refine Mem.ap info3 Try.underlying50 rfl (by decide) rfl (.tmp 57) (.tmp 59) rfl rfl (HO1.out.alloc _) ⟨w1.heap.size, 0, none⟩ 1 1 [.int .i64 y] rfl rfl (Mem.lit_cells w1 #[.int .i64 y] 3) (by simp [Value.oneCell']) (by unfold maxLen; omega) (by omega) ?_; intro v' w' o' _ _ _; obtain ⟨g', cap', rfl⟩ := own_some o' (by omega); rw [ivs_snoc, ← HS.out.2] at o'; have HO' := Lib.hid o'; clear o')
            have HC : Hid (c + 1 = k) := HR.out.1
            clear HR HO1
            go_wp2_with fail
            go_roundw
            case rel => exact ⟨k + 1, c + 1, g', cap', rfl, by go_num, by omega, by have := HC.out; omega, HS.out.1, HO'.out⟩
            case measure => simp [intOf]; omega
          · have HST : Hid (¬ OkS til (gS frm months) (c + 1)) := by show ¬ _; unfold OkS; rw [HG.out]; omega
            have hlt' : til ≤ refMon frm ((k : Int) * months) := by omega
            clear HG
            go_wp2_with fail
            refine (rmon_any _ _ _).mono ?_; rintro e w1 ⟨rfl, b1⟩
            have HB1 := Lib.hid b1
            clear b1
            go_wp2_with fail
            go_meet
            case rel => exact ⟨c, g, cap1, by rw [HR.out.1], by have := HR.out.1; omega, HR.out.2.1, .inr HST.out, by have := HR.out.2.2.call HB1.out; rw [← HR.out.1] at this; exact this⟩
      · have hk4' : ¬ (k : Int) ≤ 400 := by omega
        go_wp2_with fail
        go_meet
        case rel => exact ⟨c, g, cap1, by rw [HR.out.1], by have := HR.out.1; omega, HR.out.2.1, .inl (by have := HR.out.1; omega), by have := HR.out.2.2; rw [← HR.out.1] at this; exact this⟩
  case rest =>
    clear HO
    obtain ⟨c, g, cap1, rfl, hc, HR⟩ := hcut
    obtain ⟨W0, rfl⟩ : ∃ W : World, W = wc := ⟨_, rfl⟩
    go_upto_region 11 with (at_builtin; refine Mem.ap info3 Try.underlying50 rfl (by decide) rfl (.tmp 61) (.tmp 63) rfl rfl (HR.out.2.2.alloc _) ⟨W0.heap.size, 0, none⟩ 1 1 [.int .i64 til] rfl rfl (Mem.lit_cells W0 #[.int .i64 til] 3) (by simp [Value.oneCell']) (by unfold maxLen; omega) (by omega) ?_; intro v' w' o' _ _ _; obtain ⟨g', cap', rfl⟩ := own_some o' (by omega); rw [ivs_snoc] at o'; have HO' := Lib.hid o'; clear o')
    by_cases hc4 : 399 ≤ c
    · have HN : Hid (∀ W, SchedR w W (.returned (.tuple #[.slice none 0 0, .bool false])) frm til months rule hol) := by
        intro W
        exact ⟨none, .inl ⟨rfl, .inr (.inl (fun j h1 h2 => HR.out.1 j h1 (by omega)))⟩, .inl ⟨rfl, rfl⟩⟩
      have HB := Lib.hid HO'.out.below
      have hc5 : (400 : Int) < (c : Int) + 1 + 1 := by omega
      clear HR HO' HH
      go_wp2_with fail
      go_ret2
      exact ⟨HN.out _, HB.out⟩
    · have HST : Hid (Stops til (gS frm months) c ∧ c ≤ 398) := ⟨⟨HR.out.1, HR.out.2.1.resolve_left (by omega)⟩, by omega⟩
      obtain ⟨A, hA⟩ : ∃ A, Ls frm (gS frm months) c ++ [til] = A := ⟨_, rfl⟩
      rw [hA] at HO'
      have HA : Hid (A = All frm til (gS frm months) c) := hA.symm
      have HLA : Hid (A.length = c + 1 + 1) := by show _ = _; rw [HA.out, All_len]
      have hn4 : c + 1 + 1 ≤ 400 := by omega
      clear HR hA hc hc4
      generalize c + 1 + 1 = n at *
      have HIN : Hid (Ints w' (some ⟨g', 0, none⟩) n A) := by
        obtain ⟨b, cp, hv, hi⟩ := own_ints HO'.out HLA.out
        injection hv with hv
        subst hv
        exact hi
      have HB0 := Lib.hid HO'.out.below
      have HHW := Lib.hid (HH.out.below HO'.out.below)
      clear HO' HH
      have hn5 : ¬ (400 : Int) < (n : Int) := by omega
      go_wp2_with fail
      go_loopw [15, 16] (fun v i wr => ∃ (k : Nat) (out : List Int) (b : Option Addr) (cp : Nat), v = .slice b out.length cp ∧ i = .int .i64 (k : Nat) ∧ k ≤ n ∧ Hid (Mem.Own w' wr 3 1 (.slice b out.length cp) out.length (ivs out) ∧ out.length ≤ k ∧ out.Pairwise (· < ·) ∧ (∀ z, z ∈ out ↔ z ∈ (A.take k).map fun x => adj x rule hol) ∧ ∀ x ∈ A.take k, 0 ≤ adj x rule hol)) (fun _ i _ => n - (intOf i).toNat)
      case atStart => exact ⟨0, [], _, _, rfl, rfl, Nat.zero_le _, Mem.Own.nil (Below.refl _ _), Nat.le_refl _, List.Pairwise.nil, by simp, by simp⟩
      case round =>
        obtain ⟨k, out, b, cp, rfl, rfl, hk, HR⟩ := hrel
        by_cases hlt : k < n
        · obtain ⟨x, hx⟩ : ∃ x, A[k]? = some x := ⟨_, List.getElem?_eq_getElem (by rw [HLA.out]; exact hlt)⟩
          have y0 : wr.cell? ⟨g', k, none⟩ = some (.int .i64 x) := by
            obtain ⟨b', o', ha, -, hc⟩ := (HIN.out.below HR.out.1.below).2.2 (by omega)
            injection ha with ha
            injection ha with ha1 ha2
            subst ha1; subst ha2
            have := hc k x hx
            rwa [Nat.zero_add] at this
          have j0 : (0 : Int) ≤ (k : Int) := by omega
          have j1 : (k : Int) < (n : Int) := by omega
          have HX := Lib.hid hx
          have HHR := Lib.hid (HHW.out.below HR.out.1.below)
          clear hx
          go_wp2_with fail
          refine (radjust_any _ _ _ _ _ hol _ HHR.out).mono ?_; rintro e w1 ⟨rfl, b1⟩
          have HO1 := Lib.hid (HR.out.1.call b1)
          have HR2 := Lib.hid HR.out.2
          clear b1 HR y0
          generalize hY : adj x rule hol = y at *
          have HY := Lib.hid hY
          clear hY
          have hlen : out.length ≤ 400 := by have := HR2.out.1; omega
          by_cases hy : y < 0
          · have HN : Hid (∀ W, SchedR w W (.returned (.tuple #[.slice none 0 0, .bool false])) frm til months rule hol) := by
              intro W
              exact ⟨none, .inl ⟨rfl, .inr (.inr ⟨c, HST.out.2, HST.out.1, x, by rw [← HA.out]; exact List.mem_of_getElem? HX.out, by show adj x rule hol < 0; rw [HY.out]; exact hy⟩)⟩, .inl ⟨rfl, rfl⟩⟩
            have HB := Lib.hid (HB0.out.trans (HO1.out.below.mono HB0.out.size))
            clear HO1 HR2
            go_wp2_with fail
            go_ret2
            exact ⟨HN.out _, HB.out⟩
          · go_upto_block 4 with (fail)
            have HI1 : Hid (Ints w1 b out.length out) := by
              obtain ⟨b', cp', hv, hi⟩ := own_ints HO1.out rfl
              injection hv with hv
              subst hv
              exact hi
            go_cut [18] (fun p wc => ∃ q : Nat, p = .int .i64 (q : Nat) ∧ q ≤ out.length ∧ wc = w1 ∧ Hid (Spot out y q))
            case first =>
              go_wp2_with fail
              go_loopw [18] (fun p wr2 => ∃ q : Nat, p = .int .i64 (q : Nat) ∧ q ≤ out.length ∧ wr2 = w1 ∧ Hid (∀ j z, q ≤ j → out[j]? = some z → y ≤ z)) (fun p _ => (intOf p).toNat)
              case atStart => exact ⟨out.length, rfl, Nat.le_refl _, rfl, fun j z h1 h2 => by rw [List.getElem?_eq_none (by omega)] at h2; cases h2⟩
              case round =>
                obtain ⟨q, rfl, hq, hw2, HQ⟩ := hrel
                subst hw2
                rcases Nat.eq_zero_or_pos q with hq0 | hq0
                · subst hq0
                  go_wp2_with fail
                  go_meet
                  case rel => exact ⟨0, rfl, Nat.zero_le _, rfl, HQ.out, fun j z h1 _ => by omega⟩
                · obtain ⟨q', rfl⟩ : ∃ q', q = q' + 1 := ⟨q - 1, by omega⟩
                  obtain ⟨z, hz⟩ : ∃ z, out[q']? = some z := ⟨_, List.getElem?_eq_getElem (by omega)⟩
                  obtain ⟨bo, oo, rfl, -, hco⟩ := HI1.out.2.2 (by omega)
                  have c0 := hco q' z hz
                  have k0 : (0 : Int) < (q' : Int) + 1 := by omega
                  have k1 : (0 : Int) ≤ (q' : Int) := by omega
                  have k2 : (q' : Int) < (out.length : Int) := by omega
                  have HZ := Lib.hid hz
                  clear hz hco
                  by_cases hyz : y ≤ z
                  · go_wp2_with fail
                    go_roundw
                    case rel => exact ⟨q', by go_num, by omega, trivial, fun j t h1 h2 => by
                      rcases Nat.eq_or_lt_of_le h1 with rfl | h3
                      · rw [HZ.out] at h2; injection h2 with h2; omega
                      · exact HQ.out j t h3 h2⟩
                    case measure => simp [intOf]
                  · go_wp2_with fail
                    go_meet
                    case rel => exact ⟨q' + 1, by go_num, hq, rfl, HQ.out, fun j t h1 h2 => by
                      rcases Nat.eq_or_lt_of_le (Nat.le_of_lt_succ h1) with rfl | h3
                      · rw [HZ.out] at h2; injection h2 with h2; omega
                      · have := inc_get HR2.out.2.1 h3 h2 HZ.out; omega⟩
            case rest =>
              obtain ⟨q, rfl, hq, hw2, HS⟩ := hcut
              subst hw2
              by_cases hql : q < out.length
              · obtain ⟨z, hz⟩ : ∃ z, out[q]? = some z := ⟨_, List.getElem?_eq_getElem hql⟩
                obtain ⟨bo, oo, rfl, -, hco⟩ := HI1.out.2.2 (by omega)
                have c0 := hco q z hz
                have k1 : (0 : Int) ≤ (q : Int) := by omega
                have k2 : (q : Int) < (out.length : Int) := by omega
                have HZ := Lib.hid hz
                clear hz hco HI1
                by_cases hzy : z = y
                · subst hzy
                  have FIN : Hid (out.length ≤ k + 1 ∧ out.Pairwise (· < ·) ∧ (∀ t, t ∈ out ↔ t ∈ (A.take (k + 1)).map fun x => adj x rule hol) ∧ ∀ x ∈ A.take (k + 1), 0 ≤ adj x rule hol) := by
                    refine ⟨by have := HR2.out.1; omega, HR2.out.2.1, fun t => ?_, fun x' hx => ?_⟩
                    · rw [List.take_add_one, HX.out, List.map_append, List.mem_append, ← HR2.out.2.2.1]
                      constructor
                      · exact .inl
                      · rintro (h | h)
                        · exact h
                        · simp at h; rw [h, HY.out]; exact List.mem_of_getElem? HZ.out
                    · rw [List.take_add_one, HX.out] at hx
                      rcases List.mem_append.1 hx with hx | hx
                      · exact HR2.out.2.2.2 x' hx
                      · simp at hx; subst hx; rw [HY.out]; omega
                  clear HR2 HS HZ
                  go_wp2_with fail
                  go_roundw
                  case rel => exact ⟨k + 1, out, _, _, rfl, by go_num, by omega, HO1.out, FIN.out⟩
                  case measure => simp [intOf]; omega
                · have hzy' : (z == y) = false := beq_eq_false_iff_ne.2 hzy
                  have HNE : Hid (out[q]? ≠ some y) := by show _ ≠ _; rw [HZ.out]; intro h; injection h with h; exact hzy h
                  clear HZ
                  have HOA := HO1
                  have HQI : Hid (q ≤ out.length) := hq
                  have hlen2 : out.length ≤ 400 := hlen
                  go_upto_region 25 with (at_builtin; refine Mem.ap info3 Try.underlying50 rfl (by decide) rfl (.tmp 110) (.tmp 111) rfl rfl (HOA.out.alloc _) ⟨wc.heap.size, 0, none⟩ 1 1 [.int .i64 0] rfl rfl (Mem.lit_cells wc #[.int .i64 0] 3) (by simp [Value.oneCell']) (by unfold maxLen; omega) (by omega) ?_; intro v2 w2 o2 _ _ _; obtain ⟨g2, cap2, rfl⟩ := own_some o2 (by omega); rw [ivs_snoc, ← put_end] at o2; have HO2 := Lib.hid o2; clear o2)
                  clear HOA
                  go_wp2_with fail
                  go_loopw [19] (fun p wr2 => ∃ (q2 : Nat) (z : Int), p = .int .i64 (q2 : Nat) ∧ q ≤ q2 ∧ q2 ≤ out.length ∧ Hid (Mem.Own w' wr2 3 1 (.slice (some ⟨g2, 0, none⟩) (out.length + 1) cap2) (out.length + 1) (ivs (putAt out q2 z)))) (fun p _ => (intOf p).toNat)
                  case atStart => exact ⟨out.length, 0, by go_num, hq, Nat.le_refl _, HO2.out⟩
                  case round =>
                    clear HO2
                    obtain ⟨q2, z, rfl, hq1, hq2, HP⟩ := hrel
                    by_cases hgt : q < q2
                    · obtain ⟨q3, rfl⟩ : ∃ q3, q2 = q3 + 1 := ⟨q2 - 1, by omega⟩
                      obtain ⟨x3, hx3⟩ : ∃ x3, out[q3]? = some x3 := ⟨_, List.getElem?_eq_getElem (by omega)⟩
                      have c0 : wr.cell? ⟨g2, q3, none⟩ = some (.int .i64 x3) := by rw [HP.out.cell q3 (by omega)]; exact put_get hx3
                      have c1 : wr.frozen? ⟨g2, q3 + 1, none⟩ = false := own_unfrozen HP.out _
                      have c2 : wr.cell? ⟨g2, q3 + 1, none⟩ = some (.int .i64 z) := by rw [HP.out.cell (q3 + 1) (by omega)]; exact put_at hq2
                      have k0 : (q : Int) < (q3 : Int) + 1 := by omega
                      have k1 : (0 : Int) ≤ (q3 : Int) := by omega
                      have k2 : (q3 : Int) < (out.length : Int) + 1 := by omega
                      have k3 : (q3 : Int) + 1 < (out.length : Int) + 1 := by omega
                      have k4 : (0 : Int) ≤ (q3 : Int) + 1 := by omega
                      have FIN : Hid (Mem.Own w' (wr.setCell ⟨g2, q3 + 1, none⟩ (.int .i64 x3)) 3 1 (.slice (some ⟨g2, 0, none⟩) (out.length + 1) cap2) (out.length + 1) (ivs (putAt out q3 x3))) := by
                        have := own_stored HP.out (q3 + 1) (.int .i64 x3)
                        rw [put_step hx3] at this
                        exact this
                      clear HP hx3
                      go_wp2_with fail
                      go_roundw
                      case rel => exact ⟨q3, x3, by go_num, by omega, by omega, FIN.out⟩
                      case measure => simp [intOf]
                    · obtain rfl : q2 = q := by omega
                      have c1 : wr.frozen? ⟨g2, q2, none⟩ = false := own_unfrozen HP.out _
                      have c2 : wr.cell? ⟨g2, q2, none⟩ = some (.int .i64 z) := by rw [HP.out.cell q2 (by omega)]; exact put_at hq2
                      have k1 : (0 : Int) ≤ (q2 : Int) := by omega
                      have k3 : (q2 : Int) < (out.length : Int) + 1 := by omega
                      have FIN : Hid (Mem.Own w' (wr.setCell ⟨g2, q2, none⟩ (.int .i64 y)) 3 1 (.slice (some ⟨g2, 0, none⟩) (putAt out q2 y).length cap2) (putAt out q2 y).length (ivs (putAt out q2 y))) := by
                        have := own_stored HP.out q2 (.int .i64 y)
                        rw [put_last hq] at this
                        rw [put_len hq]
                        exact this
                      have FIN2 : Hid ((putAt out q2 y).length ≤ k + 1 ∧ (putAt out q2 y).Pairwise (· < ·) ∧ (∀ z, z ∈ putAt out q2 y ↔ z ∈ (A.take (k + 1)).map fun x => adj x rule hol) ∧ ∀ x ∈ A.take (k + 1), 0 ≤ adj x rule hol) := by
                        refine ⟨by rw [put_len hq]; have := HR2.out.1; omega, put_inc HR2.out.2.1 HS.out HNE.out, fun z => ?_, fun x hx => ?_⟩
                        · rw [put_mem, HR2.out.2.2.1, List.take_add_one, HX.out, List.map_append, List.mem_append]
                          simp [HY.out]
                        · rw [List.take_add_one, HX.out] at hx
                          rcases List.mem_append.1 hx with hx | hx
                          · exact HR2.out.2.2.2 x hx
                          · simp at hx; subst hx; rw [HY.out]; omega
                      have hpl : Hid ((putAt out q2 y).length = out.length + 1) := put_len hq
                      clear HP HR2 HS HNE
                      rw [hpl.out] at FIN
                      go_wp2_with fail
                      go_roundw
                      case rel => exact ⟨k + 1, putAt out q2 y, some ⟨g2, 0, none⟩, cap2, by rw [hpl.out], by go_num, by omega, by have := FIN.out; rw [hpl.out]; exact this, FIN2.out⟩
                      case measure => simp [intOf]; omega
              · have HNE : Hid (out[q]? ≠ some y) := by show _ ≠ _; rw [List.getElem?_eq_none (by omega)]; simp
                have k2 : ¬ (q : Int) < (out.length : Int) := by omega
                clear HI1
                have HOA := HO1
                have HQI : Hid (q ≤ out.length) := hq
                have hlen2 : out.length ≤ 400 := hlen
                go_upto_region 25 with (at_builtin; refine Mem.ap info3 Try.underlying50 rfl (by decide) rfl (.tmp 110) (.tmp 111) rfl rfl (HOA.out.alloc _) ⟨wc.heap.size, 0, none⟩ 1 1 [.int .i64 0] rfl rfl (Mem.lit_cells wc #[.int .i64 0] 3) (by simp [Value.oneCell']) (by unfold maxLen; omega) (by omega) ?_; intro v2 w2 o2 _ _ _; obtain ⟨g2, cap2, rfl⟩ := own_some o2 (by omega); rw [ivs_snoc, ← put_end] at o2; have HO2 := Lib.hid o2; clear o2)
                clear HOA
                go_wp2_with fail
                go_loopw [19] (fun p wr2 => ∃ (q2 : Nat) (z : Int), p = .int .i64 (q2 : Nat) ∧ q ≤ q2 ∧ q2 ≤ out.length ∧ Hid (Mem.Own w' wr2 3 1 (.slice (some ⟨g2, 0, none⟩) (out.length + 1) cap2) (out.length + 1) (ivs (putAt out q2 z)))) (fun p _ => (intOf p).toNat)
                case atStart => exact ⟨out.length, 0, by go_num, hq, Nat.le_refl _, HO2.out⟩
                case round =>
                  clear HO2
                  obtain ⟨q2, z, rfl, hq1, hq2, HP⟩ := hrel
                  by_cases hgt : q < q2
                  · exfalso; omega
                  · obtain rfl : q2 = q := by omega
                    have c1 : wr.frozen? ⟨g2, q2, none⟩ = false := own_unfrozen HP.out _
                    have c2 : wr.cell? ⟨g2, q2, none⟩ = some (.int .i64 z) := by rw [HP.out.cell q2 (by omega)]; exact put_at hq2
                    have k1 : (0 : Int) ≤ (q2 : Int) := by omega
                    have k3 : (q2 : Int) < (out.length : Int) + 1 := by omega
                    have FIN : Hid (Mem.Own w' (wr.setCell ⟨g2, q2, none⟩ (.int .i64 y)) 3 1 (.slice (some ⟨g2, 0, none⟩) (putAt out q2 y).length cap2) (putAt out q2 y).length (ivs (putAt out q2 y))) := by
                      have := own_stored HP.out q2 (.int .i64 y)
                      rw [put_last hq] at this
                      rw [put_len hq]
                      exact this
                    have FIN2 : Hid ((putAt out q2 y).length ≤ k + 1 ∧ (putAt out q2 y).Pairwise (· < ·) ∧ (∀ z, z ∈ putAt out q2 y ↔ z ∈ (A.take (k + 1)).map fun x => adj x rule hol) ∧ ∀ x ∈ A.take (k + 1), 0 ≤ adj x rule hol) := by
                      refine ⟨by rw [put_len hq]; have := HR2.out.1; omega, put_inc HR2.out.2.1 HS.out HNE.out, fun z => ?_, fun x hx => ?_⟩
                      · rw [put_mem, HR2.out.2.2.1, List.take_add_one, HX.out, List.map_append, List.mem_append]
                        simp [HY.out]
                      · rw [List.take_add_one, HX.out] at hx
                        rcases List.mem_append.1 hx with hx | hx
                        · exact HR2.out.2.2.2 x hx
                        · simp at hx; subst hx; rw [HY.out]; omega
                    have hpl : Hid ((putAt out q2 y).length = out.length + 1) := put_len hq
                    clear HP HR2 HS HNE
                    rw [hpl.out] at FIN
                    go_wp2_with fail
                    go_roundw
                    case rel => exact ⟨k + 1, putAt out q2 y, some ⟨g2, 0, none⟩, cap2, by rw [hpl.out], by go_num, by omega, by have := FIN.out; rw [hpl.out]; exact this, FIN2.out⟩
                    case measure => simp [intOf]; omega
        · obtain rfl : k = n := by omega
          have HRES : Hid (∀ W, Ints W b out.length out → SchedR w W (.returned (.tuple #[.slice b out.length cp, .bool true])) frm til months rule hol) := by
            intro W hW
            have h1 := HR.out.2
            rw [List.take_of_length_le (by rw [HLA.out]; exact Nat.le_refl _)] at h1
            have he : out = norm (A.map fun x => adj x rule hol) := norm_eq h1.2.1 h1.2.2.1
            exact ⟨some out, .inr ⟨HGD.out, c, HST.out.2, HST.out.1, by rw [← HA.out]; exact h1.2.2.2, by rw [← HA.out, ← he]⟩, .inr ⟨out, b, cp, rfl, rfl, hW⟩⟩
          have HI : Hid (Ints wr b out.length out) := by
            obtain ⟨b', cp', hv, hi⟩ := own_ints HR.out.1 rfl
            injection hv with hv
            subst hv
            exact hi
          have HB := Lib.hid (HB0.out.trans (HR.out.1.below.mono HB0.out.size))
          have hkk : ¬ (k : Int) < (k : Int) := by omega
          clear HR
          go_wp2_with fail
          go_ret2
          exact ⟨HRES.out _ HI.out, HB.out⟩
end Go.Proofs.Ytokinadmeooaoaa
