/- The contract of date.Schedule; condition: the numbers lie within 64 bits, not more than a hundred holidays. -/
import Derived.Test.YtokinadmeooaoaaSc
import Derived.Test.YtokinadmeooaoaaDj
import Derived.Test.YtokinadmeooaoaaDp
import Derived.Test.YtokinadmeooaoaaLmonths
import Derived.Deep.DeepCutAuto
import Derived.Deep.CutBlock
namespace Go.Proofs.Ytokinadmeooaoaa
set_option linter.unusedVariables false
set_option linter.unusedSimpArgs false
open Go.RowKit
theorem info3 : (Try.prog.info? 3).map (fun i => (i.zero, i.size, i.bytes)) = some (some (.int .i64 0), 1, 8) := by kernel_rfl
/-- So many months on, or -1. -/
def gS (frm months : Int) (k : Nat) : Int := refMon frm ((k : Int) * months)
def GdS (frm til months : Int) : Prop := isD frm = true ∧ isD til = true ∧ frm < til ∧ 1 ≤ months ∧ months ≤ 1200
def SchedR (w w' : World) (e : Ending) (frm til months rule : Int) (hol : List Int) : Prop :=
  ∃ o, Res frm til (gS frm months) (fun n => adj n rule hol) (GdS frm til months) o ∧
    ((o = none ∧ e = .returned (.tuple #[.slice none 0 0, .bool false])) ∨ ∃ l b cap, o = some l ∧ e = .returned (.tuple #[.slice b l.length cap, .bool true]) ∧ Ints w' b l.length l)
theorem mon_ok (frm k til : Int) : (0 ≤ refMon frm k ∧ refMon frm k < til) ↔ (monB frm k = true ∧ monN frm k < til) := by
  have h := told_mon frm k
  unfold toldB at h
  rw [Bool.and_eq_true, beq_iff_eq, decide_eq_true_eq] at h
  obtain ⟨h1, h2⟩ := h
  constructor
  · rintro ⟨a, b⟩
    rw [if_pos a] at h2
    exact ⟨by rw [h1]; exact decide_eq_true a, by omega⟩
  · rintro ⟨a, b⟩
    rw [a] at h1
    have h3 : 0 ≤ refMon frm k := of_decide_eq_true h1.symm
    rw [if_pos h3] at h2
    exact ⟨h3, by omega⟩
theorem mon_eq (frm k : Int) (h : monB frm k = true) : refMon frm k = monN frm k := by unfold refMon; rw [if_pos h]
theorem own_some {w0 w : World} {n : Nat} {v : Value} {xs : List Value} (h : Mem.Own w0 w 3 1 v n xs) (hn : 0 < n) : ∃ g cap, v = .slice (some ⟨g, 0, none⟩) n cap := by
  rcases h.own.2 with ⟨-, h0⟩ | ⟨g, cap, cur, hv, -⟩
  · omega
  · exact ⟨g, cap, hv⟩
theorem own_unfrozen {w0 w : World} {n g cap : Nat} {xs : List Value} (h : Mem.Own w0 w 3 1 (.slice (some ⟨g, 0, none⟩) n cap) n xs) (j : Nat) : w.frozen? ⟨g, j, none⟩ = false := by
  rcases h.own.2 with ⟨h1, -⟩ | ⟨g', cap', cur, hv, -, hb, -⟩
  · cases h1
  · cases hv
    simp [World.frozen?, hb]
theorem own_stored {w0 w : World} {n g cap : Nat} {xs : List Value} (h : Mem.Own w0 w 3 1 (.slice (some ⟨g, 0, none⟩) n cap) n xs) (j : Nat) (u : Value) : Mem.Own w0 (w.setCell ⟨g, j, none⟩ u) 3 1 (.slice (some ⟨g, 0, none⟩) n cap) n (xs.set j u) :=
  ⟨h.below.setCell (p := ⟨g, j, none⟩) (h.own.lt g rfl).1 u, (h.own.stored j u).1⟩
/-- Of a list the first k turned by f. -/
def part (f : Int → Int) (A : List Int) (k : Nat) : List Int := (A.map f).take k ++ A.drop k
theorem part_get {f : Int → Int} {A : List Int} {k : Nat} {x : Int} (h : A[k]? = some x) : (ivs (part f A k))[k]? = some (.int .i64 x) := by
  have hk : k < A.length := (List.getElem?_eq_some_iff.1 h).1
  unfold ivs part
  rw [List.getElem?_map, List.getElem?_append_right (by simp; omega), List.length_take, List.length_map, Nat.min_eq_left (by omega), Nat.sub_self, List.getElem?_drop, Nat.add_zero, h]
  rfl
theorem part_set {f : Int → Int} {A : List Int} {k : Nat} {x : Int} (h : A[k]? = some x) : (ivs (part f A k)).set k (.int .i64 (f x)) = ivs (part f A (k + 1)) := by
  have hk : k < A.length := (List.getElem?_eq_some_iff.1 h).1
  have e1 : A.drop k = x :: A.drop (k + 1) := by
    rw [List.drop_eq_getElem_cons hk]
    congr 1
    rw [List.getElem?_eq_getElem hk] at h
    injection h
  have e2 : (A.map f).take (k + 1) = (A.map f).take k ++ [f x] := by rw [List.take_add_one, List.getElem?_map, h]; rfl
  unfold ivs part
  rw [e1, e2]
  have hl : ((A.map f).take k).length = k := by rw [List.length_take, List.length_map]; omega
  rw [List.map_append, List.map_append, List.map_cons, List.set_append_right _ _ (by rw [List.length_map, hl]; exact Nat.le_refl _), List.length_map, hl, Nat.sub_self]
  simp
theorem part_end {f : Int → Int} {A : List Int} {k : Nat} (h : A.length = k) : part f A k = A.map f := by
  unfold part
  rw [List.drop_eq_nil_of_le (by omega), List.append_nil, List.take_of_length_le (by rw [List.length_map]; omega)]
theorem ivs_snoc (l : List Int) (x : Int) : ivs l ++ [.int .i64 x] = ivs (l ++ [x]) := by simp [ivs]
set_option maxRecDepth 100000 in
set_option maxHeartbeats 4000000 in
theorem sched_any (frm til months rule : Int) (a : Option Addr) (len cap : Nat) (hol : List Int) (w : World) (hl : Ints w a len hol) :
    Calls Try.prog 35 #[.int .i64 frm, .int .i64 til, .int .i64 months, .int .i64 rule, .slice a len cap] w fun e w' => SchedR w w' e frm til months rule hol ∧ Below w.heap.size w w' := by
  have HH := Lib.hid hl
  have HNO : Hid (¬ GdS frm til months → ∀ W, SchedR w W (.returned (.tuple #[.slice none 0 0, .bool false])) frm til months rule hol) := fun h W => ⟨none, .inl ⟨rfl, .inl h⟩, .inl ⟨rfl, rfl⟩⟩
  clear hl
  by_cases h1 : isD frm = true
  · by_cases h2 : isD til = true
    · by_cases h3 : frm < til
      · by_cases h4 : 1 ≤ months
        · by_cases h5 : months ≤ 1200
          · have HGD : Hid (GdS frm til months) := ⟨h1, h2, h3, h4, h5⟩
            clear HNO
            have h3' : ¬ til ≤ frm := by omega
            have h4' : ¬ months < 1 := by omega
            have h5' : ¬ 1200 < months := by omega
            go_enter Try.func35, Try.ntmps35
            go_wp2_with fail
            refine (is_any _ _).mono ?_; rintro e w' ⟨rfl, rfl⟩
            rw [h1]
            go_wp2_with fail
            refine (is_any _ _).mono ?_; rintro e w' ⟨rfl, rfl⟩
            rw [h2]
            go_upto_block 0 with (fail)
            have HO : Hid (Mem.Own w (w.alloc (.cells #[.int .i64 frm] 3)) 3 1 (.slice (some ⟨w.heap.size, 0, none⟩) 1 1) 1 (ivs (Ls frm (gS frm months) 0))) := Mem.Own.lit (Below.refl w.heap.size w) #[.int .i64 frm] 1 (by unfold maxLen; omega) rfl
            generalize w.alloc (.cells #[.int .i64 frm] 3) = w0 at *
            go_cut [12] (fun v wc => ∃ (c g cap1 : Nat), v = .slice (some ⟨g, 0, none⟩) (c + 1) cap1 ∧ c ≤ 398 ∧ Hid (Stops til (gS frm months) c ∧ Mem.Own w wc 3 1 (.slice (some ⟨g, 0, none⟩) (c + 1) cap1) (c + 1) (ivs (Ls frm (gS frm months) c))))
            case first =>
              go_wp2_with fail
              go_loopw [12, 13] (fun v i wr => ∃ (k c g cap1 : Nat), v = .slice (some ⟨g, 0, none⟩) k cap1 ∧ i = .int .i64 (k : Nat) ∧ k ≤ 399 ∧ Hid (c + 1 = k ∧ Run til (gS frm months) c ∧ Mem.Own w wr 3 1 (.slice (some ⟨g, 0, none⟩) k cap1) k (ivs (Ls frm (gS frm months) c)))) (fun _ i _ => 400 - (intOf i).toNat)
              case atStart => exact ⟨1, 0, _, _, rfl, rfl, by omega, rfl, fun j a b => by omega, HO.out⟩
              case round =>
                clear HO
                obtain ⟨k, c, g, cap1, rfl, rfl, hk, HR⟩ := hrel
                have hk1 : 1 ≤ k := by have := HR.out.1; omega
                have hp0 : 0 ≤ (k : Int) * months := Int.mul_nonneg (by omega) (by omega)
                have hp1 : (k : Int) * months ≤ 400 * 1200 := Int.mul_le_mul (by omega) (by omega) (by omega) (by omega)
                have hw : wrap64 ((k : Int) * months) = (k : Int) * months := IntWalk.wrap64_in _ ⟨by omega, by omega⟩
                have HG : Hid (gS frm months (c + 1) = refMon frm ((k : Int) * months)) := by show _ = _; rw [HR.out.1]; rfl
                have HOK := Lib.hid (mon_ok frm ((k : Int) * months) til)
                by_cases hm : monB frm ((k : Int) * months) = true
                · by_cases hlt : monN frm ((k : Int) * months) < til
                  · go_wp2_with fail
                    refine (months_any _ _ _).mono ?_; rintro e w' ⟨rfl, rfl⟩
                    rw [hm]
                    have HS : Hid (Run til (gS frm months) (c + 1) ∧ Ls frm (gS frm months) (c + 1) = Ls frm (gS frm months) c ++ [monN frm ((k : Int) * months)]) := by
                      have hg := HG.out
                      have hok := HOK.out.2 ⟨hm, hlt⟩
                      refine ⟨Run.succ _ _ HR.out.2.1 (by unfold OkS; rw [hg]; exact hok), by rw [Ls_succ, hg, mon_eq _ _ hm]⟩
                    clear HOK HG hm hw hp0 hp1
                    go_upto_region 9 with (at_builtin; refine Mem.ap info3 Try.underlying50 rfl (by decide) rfl (.tmp 60) (.tmp 62) rfl rfl (HR.out.2.2.alloc _) ⟨wr.heap.size, 0, none⟩ 1 1 [.int .i64 (monN frm ((k : Int) * months))] rfl rfl (Mem.lit_cells wr #[.int .i64 (monN frm ((k : Int) * months))] 3) (by simp [Value.oneCell']) (by unfold maxLen; omega) (by omega) ?_; intro v' w' o' _ _ _; obtain ⟨g', cap', rfl⟩ := own_some o' (by omega); rw [ivs_snoc, ← HS.out.2] at o'; have HO' := Lib.hid o'; clear o')
                    by_cases h4 : (400 : Int) ≤ (k : Int) + 1
                    · have HN : Hid (∀ W, SchedR w W (.returned (.tuple #[.slice none 0 0, .bool false])) frm til months rule hol) := by
                        intro W
                        have : c + 1 = 399 := by have := HR.out.1; omega
                        exact ⟨none, .inl ⟨rfl, .inr (.inl (by rw [← this]; exact HS.out.1))⟩, .inl ⟨rfl, rfl⟩⟩
                      have HB := Lib.hid HO'.out.below
                      clear HR HS HO' HH
                      go_wp2_with fail
                      go_ret2
                      exact ⟨HN.out _, HB.out⟩
                    · have HC : Hid (c + 1 = k) := HR.out.1
                      clear HR
                      go_wp2_with fail
                      go_roundw
                      case rel => exact ⟨k + 1, c + 1, g', cap', rfl, by go_num, by omega, by have := HC.out; omega, HS.out.1, HO'.out⟩
                      case measure => simp [intOf]; omega
                  · have HST : Hid (Stops til (gS frm months) c) := ⟨HR.out.2.1, by unfold OkS; rw [HG.out]; exact fun h => hlt (HOK.out.1 h).2⟩
                    have HC : Hid (c + 1 = k) := HR.out.1
                    have hlt' : til ≤ monN frm ((k : Int) * months) := by omega
                    clear HOK HG
                    go_wp2_with fail
                    refine (months_any _ _ _).mono ?_; rintro e w' ⟨rfl, rfl⟩
                    rw [hm]
                    go_wp2_with fail
                    go_meet
                    case rel => exact ⟨c, g, cap1, by rw [HC.out], by have := HC.out; omega, HST.out, by have := HR.out.2.2; rw [← HC.out] at this; exact this⟩
                · have HST : Hid (Stops til (gS frm months) c) := ⟨HR.out.2.1, by unfold OkS; rw [HG.out]; exact fun h => hm (HOK.out.1 h).1⟩
                  have HC : Hid (c + 1 = k) := HR.out.1
                  have hm' : monB frm ((k : Int) * months) = false := by simpa using hm
                  clear HOK HG
                  go_wp2_with fail
                  refine (months_any _ _ _).mono ?_; rintro e w' ⟨rfl, rfl⟩
                  rw [hm']
                  go_wp2_with fail
                  go_meet
                  case rel => exact ⟨c, g, cap1, by rw [HC.out], by have := HC.out; omega, HST.out, by have := HR.out.2.2; rw [← HC.out] at this; exact this⟩
            case rest =>
              clear HO
              obtain ⟨c, g, cap1, rfl, hc, HR⟩ := hcut
              obtain ⟨W0, rfl⟩ : ∃ W : World, W = wc := ⟨_, rfl⟩
              go_upto_region 12 with (at_builtin; refine Mem.ap info3 Try.underlying50 rfl (by decide) rfl (.tmp 67) (.tmp 69) rfl rfl (HR.out.2.alloc _) ⟨W0.heap.size, 0, none⟩ 1 1 [.int .i64 til] rfl rfl (Mem.lit_cells W0 #[.int .i64 til] 3) (by simp [Value.oneCell']) (by unfold maxLen; omega) (by omega) ?_; intro v' w' o' _ _ _; obtain ⟨g', cap', rfl⟩ := own_some o' (by omega); rw [ivs_snoc] at o'; have HO' := Lib.hid o'; clear o')
              have HST : Hid (Stops til (gS frm months) c ∧ c ≤ 398) := ⟨HR.out.1, hc⟩
              obtain ⟨A, hA⟩ : ∃ A, Ls frm (gS frm months) c ++ [til] = A := ⟨_, rfl⟩
              rw [hA] at HO'
              have HA : Hid (A = All frm til (gS frm months) c) := hA.symm
              have HLA : Hid (A.length = c + 1 + 1) := by show _ = _; rw [HA.out, All_len]
              have hn4 : c + 1 + 1 ≤ 400 := by omega
              clear HR hA hc
              generalize c + 1 + 1 = n at *
              have HOP : Hid (Mem.Own w w' 3 1 (.slice (some ⟨g', 0, none⟩) n cap') n (ivs (part (fun x => adj x rule hol) A 0))) := by
                have := HO'.out
                show Mem.Own _ _ _ _ _ _ _
                exact this
              have hn0 : 0 < n := by
                have h1 := HLA.out
                have h2 : A.length = c + 2 := by rw [HA.out, All_len]
                omega
              clear HO'
              go_wp2_with fail
              go_loopw [73] (fun i wr => ∃ (k : Nat), i = .int .i64 (k : Nat) ∧ k ≤ n ∧ Hid (Mem.Own w wr 3 1 (.slice (some ⟨g', 0, none⟩) n cap') n (ivs (part (fun x => adj x rule hol) A k)) ∧ ∀ x ∈ A.take k, 0 ≤ adj x rule hol)) (fun i _ => n - (intOf i).toNat)
              case atStart => exact ⟨0, rfl, Nat.zero_le _, HOP.out, by simp⟩
              case round =>
                clear HOP
                obtain ⟨k, rfl, hk, HR⟩ := hrel
                by_cases hlt : k < n
                · obtain ⟨x, hx⟩ : ∃ x, A[k]? = some x := ⟨_, List.getElem?_eq_getElem (by rw [HLA.out]; exact hlt)⟩
                  have y0 : wr.cell? ⟨g', k, none⟩ = some (.int .i64 x) := by rw [HR.out.1.cell k (by omega)]; exact part_get hx
                  have y1 : wr.frozen? ⟨g', k, none⟩ = false := own_unfrozen HR.out.1 k
                  have j0 : (0 : Int) ≤ (k : Int) := by omega
                  have j1 : (k : Int) < (n : Int) := by omega
                  have HX := Lib.hid hx
                  clear hx
                  by_cases hb : 0 ≤ adj x rule hol
                  · have e1 : adjB x rule hol = true := decide_eq_true hb
                    have e2 : adjN x rule hol = adj x rule hol := if_pos hb
                    have FIN : Hid (Mem.Own w (wr.setCell ⟨g', k, none⟩ (.int .i64 (adj x rule hol))) 3 1 (.slice (some ⟨g', 0, none⟩) n cap') n (ivs (part (fun x => adj x rule hol) A (k + 1))) ∧ ∀ y ∈ A.take (k + 1), 0 ≤ adj y rule hol) := by
                      have h1 := own_stored HR.out.1 k (.int .i64 (adj x rule hol))
                      rw [part_set (f := fun x => adj x rule hol) HX.out] at h1
                      refine ⟨h1, fun y hy => ?_⟩
                      rw [List.take_add_one, HX.out] at hy
                      rcases List.mem_append.1 hy with hy | hy
                      · exact HR.out.2 y hy
                      · simp at hy; subst hy; exact hb
                    have HHW := Lib.hid (HH.out.below HR.out.1.below)
                    clear HR hb
                    go_wp2_with fail
                    refine (adjust_any _ _ _ _ _ hol _ HHW.out).mono ?_; rintro e w' ⟨rfl, rfl⟩
                    rw [e1, e2]
                    clear e1 e2
                    go_wp2_with fail
                    go_roundw
                    case rel => exact ⟨k + 1, by go_num, by omega, FIN.out⟩
                    case measure => simp [intOf]; omega
                  · have e1 : adjB x rule hol = false := decide_eq_false hb
                    have HN : Hid (∀ W, SchedR w W (.returned (.tuple #[.slice none 0 0, .bool false])) frm til months rule hol) := by
                      intro W
                      exact ⟨none, .inl ⟨rfl, .inr (.inr ⟨c, HST.out.2, HST.out.1, x, by rw [← HA.out]; exact List.mem_of_getElem? HX.out, by show adj x rule hol < 0; omega⟩)⟩, .inl ⟨rfl, rfl⟩⟩
                    have HHW := Lib.hid (HH.out.below HR.out.1.below)
                    have HB := Lib.hid HR.out.1.below
                    clear HR hb
                    go_wp2_with fail
                    refine (adjust_any _ _ _ _ _ hol _ HHW.out).mono ?_; rintro e w' ⟨rfl, rfl⟩
                    rw [e1]
                    clear e1
                    go_wp2_with fail
                    go_ret2
                    exact ⟨HN.out _, HB.out⟩
                · obtain rfl : k = n := by omega
                  have HF : Hid (Mem.Own w wr 3 1 (.slice (some ⟨g', 0, none⟩) k cap') k (ivs (A.map fun x => adj x rule hol)) ∧ ∀ x ∈ A, 0 ≤ adj x rule hol) := by
                    have h1 := HR.out
                    rw [part_end HLA.out, List.take_of_length_le (by rw [HLA.out]; exact Nat.le_refl _)] at h1
                    exact h1
                  clear HR
                  go_wp2_with fail
                  refine (sort_any (by rw [List.length_map]; exact HLA.out) hn0 (by omega) HF.out.1).mono ?_; rintro e w1 ⟨rfl, o1⟩
                  have HO1 := Lib.hid o1
                  clear o1
                  go_wp2_with fail
                  refine (compact_any (by rw [List.length_mergeSort, List.length_map]; exact HLA.out) hn0 (by omega) HO1.out).mono ?_; rintro e w2 ⟨⟨rfl, i2⟩, b2⟩
                  have HI2 := Lib.hid i2
                  have HB2 := Lib.hid b2
                  clear i2 b2 HO1
                  have HRES : Hid (∀ W, Ints W (some ⟨g', 0, none⟩) (norm (A.map fun x => adj x rule hol)).length (norm (A.map fun x => adj x rule hol)) → SchedR w W (.returned (.tuple #[.slice (some ⟨g', 0, none⟩) (norm (A.map fun x => adj x rule hol)).length cap', .bool true])) frm til months rule hol) := by
                    intro W hW
                    exact ⟨some (norm (A.map fun x => adj x rule hol)), .inr ⟨HGD.out, c, HST.out.2, HST.out.1, by rw [← HA.out]; exact HF.out.2, by rw [← HA.out]⟩, .inr ⟨_, _, _, rfl, rfl, hW⟩⟩
                  go_wp2_with fail
                  go_ret2
                  exact ⟨HRES.out _ HI2.out, HB2.out⟩
          · have HN := Lib.hid (HNO.out (fun g => h5 g.2.2.2.2))
            have h3' : ¬ til ≤ frm := by omega
            have h4' : ¬ months < 1 := by omega
            have h5' : 1200 < months := by omega
            clear HNO
            go_enter Try.func35, Try.ntmps35
            go_wp2_with fail
            refine (is_any _ _).mono ?_; rintro e w' ⟨rfl, rfl⟩
            rw [h1]
            go_wp2_with fail
            refine (is_any _ _).mono ?_; rintro e w' ⟨rfl, rfl⟩
            rw [h2]
            go_wp2_with fail
            go_ret2
            exact ⟨HN.out _, Below.refl _ _⟩
        · have HN := Lib.hid (HNO.out (fun g => h4 g.2.2.2.1))
          have h3' : ¬ til ≤ frm := by omega
          have h4' : months < 1 := by omega
          clear HNO
          go_enter Try.func35, Try.ntmps35
          go_wp2_with fail
          refine (is_any _ _).mono ?_; rintro e w' ⟨rfl, rfl⟩
          rw [h1]
          go_wp2_with fail
          refine (is_any _ _).mono ?_; rintro e w' ⟨rfl, rfl⟩
          rw [h2]
          go_wp2_with fail
          go_ret2
          exact ⟨HN.out _, Below.refl _ _⟩
      · have HN := Lib.hid (HNO.out (fun g => h3 g.2.2.1))
        have h3' : til ≤ frm := by omega
        clear HNO
        go_enter Try.func35, Try.ntmps35
        go_wp2_with fail
        refine (is_any _ _).mono ?_; rintro e w' ⟨rfl, rfl⟩
        rw [h1]
        go_wp2_with fail
        refine (is_any _ _).mono ?_; rintro e w' ⟨rfl, rfl⟩
        rw [h2]
        go_wp2_with fail
        go_ret2
        exact ⟨HN.out _, Below.refl _ _⟩
    · have HN := Lib.hid (HNO.out (fun g => h2 g.2.1))
      have h2' : isD til = false := by simpa using h2
      clear HNO
      go_enter Try.func35, Try.ntmps35
      go_wp2_with fail
      refine (is_any _ _).mono ?_; rintro e w' ⟨rfl, rfl⟩
      rw [h1]
      go_wp2_with fail
      refine (is_any _ _).mono ?_; rintro e w' ⟨rfl, rfl⟩
      rw [h2']
      go_wp2_with fail
      go_ret2
      exact ⟨HN.out _, Below.refl _ _⟩
  · have HN := Lib.hid (HNO.out (fun g => h1 g.1))
    have h1' : isD frm = false := by simpa using h1
    clear HNO
    go_enter Try.func35, Try.ntmps35
    go_wp2_with fail
    refine (is_any _ _).mono ?_; rintro e w' ⟨rfl, rfl⟩
    rw [h1']
    go_wp2_with fail
    go_ret2
    exact ⟨HN.out _, Below.refl _ _⟩
end Go.Proofs.Ytokinadmeooaoaa
