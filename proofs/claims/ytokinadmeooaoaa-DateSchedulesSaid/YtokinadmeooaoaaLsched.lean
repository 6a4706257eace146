/- The walk of DateSchedules, for any input. -/
import Derived.Test.YtokinadmeooaoaaSe
import Derived.Test.YtokinadmeooaoaaSf
import Derived.Test.YtokinadmeooaoaaDk
import Derived.Deep.Upon
namespace Go.Proofs.Ytokinadmeooaoaa
set_option linter.unusedVariables false
set_option linter.unusedSimpArgs false
open Go.RowKit
theorem norm_len (l : List Int) : (norm l).length ≤ l.length := by
  unfold norm Lib.compact Lib.compactUpTo
  rw [List.length_map]
  exact Nat.le_trans (List.length_filter_le _ _) (by simp)
/-- The two answers are one. -/
theorem sched_two {w1 w2 w2' w3 : World} {e e' : Ending} {frm til months rule : Int} {hol : List Int} (h : SchedR w1 w2 e frm til months rule hol) (h' : SchedR w2' w3 e' frm til months rule hol) :
    (e = .returned (.tuple #[.slice none 0 0, .bool false]) ∧ e' = .returned (.tuple #[.slice none 0 0, .bool false])) ∨
    ∃ l b cap b' cap', l.length ≤ 1000 ∧ e = .returned (.tuple #[.slice b l.length cap, .bool true]) ∧ e' = .returned (.tuple #[.slice b' l.length cap', .bool true]) ∧ Ints w2 b l.length l ∧ Ints w3 b' l.length l := by
  obtain ⟨o, hr, h⟩ := h
  obtain ⟨o', hr', h'⟩ := h'
  have he := res_fun _ _ _ _ hr hr'
  subst he
  rcases h with ⟨h1, h2⟩ | ⟨l, b, cap, h1, h2, h3⟩
  · rcases h' with ⟨g1, g2⟩ | ⟨l', b', cap', g1, g2, g3⟩
    · exact .inl ⟨h2, g2⟩
    · rw [h1] at g1; cases g1
  · rcases h' with ⟨g1, g2⟩ | ⟨l', b', cap', g1, g2, g3⟩
    · rw [h1] at g1; cases g1
    · rw [h1] at g1
      injection g1 with g1
      subst g1
      refine .inr ⟨l, b, cap, b', cap', ?_, h2, g2, h3, g3⟩
      rcases hr with ⟨k1, -⟩ | ⟨-, c, hc, -, -, k1⟩
      · rw [h1] at k1; cases k1
      · rw [h1] at k1
        injection k1 with k1
        rw [k1]
        have := norm_len ((All frm til (gS frm months) c).map fun n => adj n rule hol)
        rw [List.length_map, All_len] at this
        omega
theorem sched_shape {w w' : World} {e : Ending} {frm til months rule : Int} {hol : List Int} (h : SchedR w w' e frm til months rule hol) : e = .returned (.tuple #[.slice none 0 0, .bool false]) ∨ ∃ b n cap, e = .returned (.tuple #[.slice b n cap, .bool true]) := by
  obtain ⟨o, -, h⟩ := h
  rcases h with ⟨-, h⟩ | ⟨l, b, cap, -, h, -⟩
  · exact .inl h
  · exact .inr ⟨b, _, cap, h⟩
/-- Nothing is appended. -/
theorem ap_zero {w : World} {ops : Array Oper} {rest : List Oper} {o : Oper} {a : Act} {Q : Exit → Act → World → Prop} (hgd : o.guard = none) (s x : Operand) (ho : o.op = .call { callee := .builtin .append, args := #[s, x], argTypes := #[50, 50] })
    (g : Nat) (hs : a.eval s = .slice (some ⟨g, 0, none⟩) 0 0) (b : Option Addr) (cap : Nat) (hx : a.eval x = .slice b 0 cap)
    (h : wpList Try.prog ops Q rest (a.put o.dst (.slice (some ⟨g, 0, none⟩) 0 0)) w) : wpList Try.prog ops Q (o :: rest) a w := by
  obtain ⟨i, hi, hz, hsize, hby⟩ := info_parts info3
  have hsrc : Src Try.prog i.size 50 (.slice b 0 cap) 0 [] w := by
    cases b with
    | none => exact Src.ofNil w Try.underlying50 cap
    | some ad => exact Src.ofSlice w Try.underlying50 ad 0 cap [] (by simp) (fun j u hu => by simp at hu) (fun u hu => by cases hu)
  refine wpList_plain hgd fun _ hK => ?_
  have hrun := run_append_nothing w 50 50 o.type 3 i Try.underlying50 hi (some ⟨g, 0, none⟩) 0 0 (Nat.le_refl _) (.slice b 0 cap) hsrc
  unfold Oper.wp execOp
  simp only [ho, resolve, invoke, builtin, Sem.run_bind, Sem.run_pure, Result.andThen_ok, List.map_toArray, List.map_cons, List.map_nil, hs, hx, hrun]
  exact hK _ _ h
set_option maxRecDepth 100000 in
set_option maxHeartbeats 2000000 in
theorem law_schedules (frm til months rule : Int) (a : Option Addr) (len cap : Nat) (l : List Int) (w : World) (_h0 : (Lit.int .i64 frm).wf = true) (_h1 : (Lit.int .i64 til).wf = true) (_h2 : (Lit.int .i64 months).wf = true) (_h3 : (Lit.int .i64 rule).wf = true) (hl : Ints w a len l) (_h4 : ∀ x ∈ l, (Lit.int .i64 x).wf = true) :
    Calls Try.prog 11 #[.int .i64 frm, .int .i64 til, .int .i64 months, .int .i64 rule, .slice a len cap] w fun e w' => e = .returned (.bool true) ∧ Below w.heap.size w w' := by
  clear _h0 _h1 _h2 _h3 _h4
  have HL := Lib.hid hl
  have hlen := hl.2.1
  clear hl
  by_cases h : 100 < (len : Int)
  · go_enter Try.func11, Try.ntmps11
    go_wp2_with fail
    refine (awake_true _).mono ?_; rintro e w2 ⟨rfl, b2⟩
    go_wp2
    go_ret
    exact ⟨rfl, b2⟩
  · have HO : Hid (Mem.Own w (w.alloc (.cells #[] 3)) 3 1 (.slice (some ⟨w.heap.size, 0, none⟩) 0 0) 0 []) := Mem.Own.lit (Below.refl w.heap.size w) #[] 0 (Nat.zero_le _) rfl
    have HL1 := Lib.hid (HL.out.below ((Below.refl w.heap.size w).alloc (Nat.le_refl _) (.cells #[] 3)))
    rcases Nat.eq_zero_or_pos len with h0 | h0
    · subst h0
      go_enter Try.func11, Try.ntmps11
      go_upto_region 4 with (at_builtin; refine ap_zero rfl (.tmp 20) (.tmp 21) rfl _ rfl _ _ rfl ?_)
      have HB1 : Hid (Below w.heap.size w (w.alloc (.cells #[] 3))) := HO.out.below
      have HI1 : Hid (Ints (w.alloc (.cells #[] 3)) (some ⟨w.heap.size, 0, none⟩) 0 l) := by
        have h1 := HL.out.1
        exact ⟨h1, by omega, fun hh => absurd hh (by omega)⟩
      clear HO HL1
      generalize w.alloc (.cells #[] 3) = w1 at *
      have HI0 := Lib.hid (HL.out.below HB1.out)
      go_wp2_with fail
      refine (sched_any frm til months rule _ _ _ l _ HI0.out).mono ?_; rintro e w2 ⟨hs1, b2⟩
      have HS1 := Lib.hid hs1
      have HB2 := Lib.hid (HB1.out.trans (b2.mono HB1.out.size))
      have HI2 := Lib.hid (HI0.out.below b2)
      have HW2 := Lib.hid (HI1.out.below b2)
      have hsh := sched_shape hs1
      clear hs1 b2 HI0 HI1 HB1
      rcases hsh with rfl | ⟨b1, n1, c1, rfl⟩
      · go_wp2_with fail
        refine (rsched_any frm til months rule _ _ _ l _ HI2.out).mono ?_; rintro e w3 ⟨hs2, b3⟩
        obtain rfl : e = .returned (.tuple #[.slice none 0 0, .bool false]) := by
          rcases sched_two HS1.out hs2 with ⟨-, h1⟩ | ⟨L, b1', cp1, b2', cp2, -, h1, -, -, -⟩
          · exact h1
          · simp at h1
        have HX1 : Hid (Ints w3 none 0 []) := ⟨rfl, by omega, fun hh => absurd hh (by omega)⟩
        have HX2 : Hid (Ints w3 none 0 []) := ⟨rfl, by omega, fun hh => absurd hh (by omega)⟩
        have HB3 := Lib.hid (HB2.out.trans (b3.mono HB2.out.size))
        have HI3 := Lib.hid (HI2.out.below b3)
        have HW3 := Lib.hid (HW2.out.below b3)
        clear HS1 hs2 HB2 HI2 HW2
        go_wp2_with fail
        refine (same_any _ _ _ _ _ _ [] [] _ HX1.out HX2.out (by omega) (by omega)).mono ?_; rintro e w4 ⟨rfl, b4⟩
        rw [decide_eq_true rfl]
        have HB4 := Lib.hid (HB3.out.trans (b4.mono HB3.out.size))
        have HI4 := Lib.hid (HI3.out.below b4)
        have HW4 := Lib.hid (HW3.out.below b4)
        clear b3 b4 HX1 HX2 HB3 HI3 HW3
        go_wp2_with fail
        refine (same_any _ _ _ _ _ _ l l _ HI4.out HW4.out (by omega) (by omega)).mono ?_; rintro e w5 ⟨rfl, b5⟩
        rw [decide_eq_true rfl]
        have HB5 := Lib.hid (HB4.out.trans (b5.mono HB4.out.size))
        clear b5 HB4 HI4 HW4
        go_wp2_with fail
        refine (awake_true _).mono ?_; rintro e w6 ⟨rfl, b6⟩
        have HB6 := Lib.hid (HB5.out.trans (b6.mono HB5.out.size))
        clear b6 HB5
        go_wp2_with fail
        go_ret
        exact ⟨rfl, HB6.out⟩
      · go_wp2_with fail
        refine (rsched_any frm til months rule _ _ _ l _ HI2.out).mono ?_; rintro e w3 ⟨hs2, b3⟩
        obtain ⟨L, b2', cp2, hL, hn1, rfl, i1, i2⟩ : ∃ L b2' cp2, n1 ≤ 1000 ∧ L.length = n1 ∧ e = .returned (.tuple #[.slice b2' n1 cp2, .bool true]) ∧ Ints w2 b1 n1 L ∧ Ints w3 b2' n1 L := by
          rcases sched_two HS1.out hs2 with ⟨h1, -⟩ | ⟨L, b1', cp1, b2', cp2, h0, h1, h2, i1, i2⟩
          · simp at h1
          · simp at h1
            obtain ⟨rfl, rfl, rfl⟩ := h1
            exact ⟨L, b2', cp2, h0, rfl, h2, i1, i2⟩
        clear hn1
        have HX1 := Lib.hid (i1.below b3)
        have HX2 := Lib.hid i2
        clear i1 i2
        have HB3 := Lib.hid (HB2.out.trans (b3.mono HB2.out.size))
        have HI3 := Lib.hid (HI2.out.below b3)
        have HW3 := Lib.hid (HW2.out.below b3)
        clear HS1 hs2 HB2 HI2 HW2
        go_wp2_with fail
        refine (same_any _ _ _ _ _ _ L L _ HX1.out HX2.out (by omega) (by omega)).mono ?_; rintro e w4 ⟨rfl, b4⟩
        rw [decide_eq_true rfl]
        have HB4 := Lib.hid (HB3.out.trans (b4.mono HB3.out.size))
        have HI4 := Lib.hid (HI3.out.below b4)
        have HW4 := Lib.hid (HW3.out.below b4)
        clear b3 b4 HX1 HX2 HB3 HI3 HW3
        go_wp2_with fail
        refine (same_any _ _ _ _ _ _ l l _ HI4.out HW4.out (by omega) (by omega)).mono ?_; rintro e w5 ⟨rfl, b5⟩
        rw [decide_eq_true rfl]
        have HB5 := Lib.hid (HB4.out.trans (b5.mono HB4.out.size))
        clear b5 HB4 HI4 HW4
        go_wp2_with fail
        refine (awake_true _).mono ?_; rintro e w6 ⟨rfl, b6⟩
        have HB6 := Lib.hid (HB5.out.trans (b6.mono HB5.out.size))
        clear b6 HB5
        go_wp2_with fail
        go_ret
        exact ⟨rfl, HB6.out⟩
    · obtain ⟨b, o, rfl, -, hc⟩ := HL1.out.2.2 h0
      have HCE : Hid (∀ j u, (ivs l)[j]? = some u → (w.alloc (.cells #[] 3)).cell? ((⟨b, o, none⟩ : Addr).add j) = some u) := by
        intro j u hu
        unfold ivs at hu
        rw [List.getElem?_map] at hu
        cases hx : l[j]? with
        | none => rw [hx] at hu; cases hu
        | some x => rw [hx] at hu; injection hu with hu; subst hu; rw [Mem.add_off]; exact hc j x hx
      have HLN : Hid ((ivs l).length = len * 1) := by show _ = _; rw [ivs_len, HL.out.1]; omega
      clear hc
      go_enter Try.func11, Try.ntmps11
      go_upto_region 4 with (at_builtin; refine Mem.ap info3 Try.underlying50 rfl (by decide) rfl (.tmp 20) (.tmp 21) rfl rfl HO.out ⟨b, o, none⟩ len cap (ivs l) rfl HLN.out HCE.out (by intro u hu; unfold ivs at hu; obtain ⟨x, -, rfl⟩ := List.mem_map.1 hu; rfl) (by unfold maxLen; omega) (by omega) ?_; intro v1 w1 o1 _ _ _; rw [Nat.zero_add, List.nil_append] at o1; obtain ⟨bo, co, rfl, hio⟩ := own_ints o1 HL.out.1; have HB1 := Lib.hid o1.below; have HI1 := Lib.hid hio; clear o1 hio)
      have HI0 := Lib.hid (HL.out.below HB1.out)
      go_wp2_with fail
      refine (sched_any frm til months rule _ _ _ l _ HI0.out).mono ?_; rintro e w2 ⟨hs1, b2⟩
      have HS1 := Lib.hid hs1
      have HB2 := Lib.hid (HB1.out.trans (b2.mono HB1.out.size))
      have HI2 := Lib.hid (HI0.out.below b2)
      have HW2 := Lib.hid (HI1.out.below b2)
      have hsh := sched_shape hs1
      clear hs1 b2 HI0 HI1 HB1
      rcases hsh with rfl | ⟨b1, n1, c1, rfl⟩
      · go_wp2_with fail
        refine (rsched_any frm til months rule _ _ _ l _ HI2.out).mono ?_; rintro e w3 ⟨hs2, b3⟩
        obtain rfl : e = .returned (.tuple #[.slice none 0 0, .bool false]) := by
          rcases sched_two HS1.out hs2 with ⟨-, h1⟩ | ⟨L, b1', cp1, b2', cp2, -, h1, -, -, -⟩
          · exact h1
          · simp at h1
        have HX1 : Hid (Ints w3 none 0 []) := ⟨rfl, by omega, fun hh => absurd hh (by omega)⟩
        have HX2 : Hid (Ints w3 none 0 []) := ⟨rfl, by omega, fun hh => absurd hh (by omega)⟩
        have HB3 := Lib.hid (HB2.out.trans (b3.mono HB2.out.size))
        have HI3 := Lib.hid (HI2.out.below b3)
        have HW3 := Lib.hid (HW2.out.below b3)
        clear HS1 hs2 HB2 HI2 HW2
        go_wp2_with fail
        refine (same_any _ _ _ _ _ _ [] [] _ HX1.out HX2.out (by omega) (by omega)).mono ?_; rintro e w4 ⟨rfl, b4⟩
        rw [decide_eq_true rfl]
        have HB4 := Lib.hid (HB3.out.trans (b4.mono HB3.out.size))
        have HI4 := Lib.hid (HI3.out.below b4)
        have HW4 := Lib.hid (HW3.out.below b4)
        clear b3 b4 HX1 HX2 HB3 HI3 HW3
        go_wp2_with fail
        refine (same_any _ _ _ _ _ _ l l _ HI4.out HW4.out (by omega) (by omega)).mono ?_; rintro e w5 ⟨rfl, b5⟩
        rw [decide_eq_true rfl]
        have HB5 := Lib.hid (HB4.out.trans (b5.mono HB4.out.size))
        clear b5 HB4 HI4 HW4
        go_wp2_with fail
        refine (awake_true _).mono ?_; rintro e w6 ⟨rfl, b6⟩
        have HB6 := Lib.hid (HB5.out.trans (b6.mono HB5.out.size))
        clear b6 HB5
        go_wp2_with fail
        go_ret
        exact ⟨rfl, HB6.out⟩
      · go_wp2_with fail
        refine (rsched_any frm til months rule _ _ _ l _ HI2.out).mono ?_; rintro e w3 ⟨hs2, b3⟩
        obtain ⟨L, b2', cp2, hL, hn1, rfl, i1, i2⟩ : ∃ L b2' cp2, n1 ≤ 1000 ∧ L.length = n1 ∧ e = .returned (.tuple #[.slice b2' n1 cp2, .bool true]) ∧ Ints w2 b1 n1 L ∧ Ints w3 b2' n1 L := by
          rcases sched_two HS1.out hs2 with ⟨h1, -⟩ | ⟨L, b1', cp1, b2', cp2, h0, h1, h2, i1, i2⟩
          · simp at h1
          · simp at h1
            obtain ⟨rfl, rfl, rfl⟩ := h1
            exact ⟨L, b2', cp2, h0, rfl, h2, i1, i2⟩
        clear hn1
        have HX1 := Lib.hid (i1.below b3)
        have HX2 := Lib.hid i2
        clear i1 i2
        have HB3 := Lib.hid (HB2.out.trans (b3.mono HB2.out.size))
        have HI3 := Lib.hid (HI2.out.below b3)
        have HW3 := Lib.hid (HW2.out.below b3)
        clear HS1 hs2 HB2 HI2 HW2
        go_wp2_with fail
        refine (same_any _ _ _ _ _ _ L L _ HX1.out HX2.out (by omega) (by omega)).mono ?_; rintro e w4 ⟨rfl, b4⟩
        rw [decide_eq_true rfl]
        have HB4 := Lib.hid (HB3.out.trans (b4.mono HB3.out.size))
        have HI4 := Lib.hid (HI3.out.below b4)
        have HW4 := Lib.hid (HW3.out.below b4)
        clear b3 b4 HX1 HX2 HB3 HI3 HW3
        go_wp2_with fail
        refine (same_any _ _ _ _ _ _ l l _ HI4.out HW4.out (by omega) (by omega)).mono ?_; rintro e w5 ⟨rfl, b5⟩
        rw [decide_eq_true rfl]
        have HB5 := Lib.hid (HB4.out.trans (b5.mono HB4.out.size))
        clear b5 HB4 HI4 HW4
        go_wp2_with fail
        refine (awake_true _).mono ?_; rintro e w6 ⟨rfl, b6⟩
        have HB6 := Lib.hid (HB5.out.trans (b6.mono HB5.out.size))
        clear b6 HB5
        go_wp2_with fail
        go_ret
        exact ⟨rfl, HB6.out⟩
end Go.Proofs.Ytokinadmeooaoaa
