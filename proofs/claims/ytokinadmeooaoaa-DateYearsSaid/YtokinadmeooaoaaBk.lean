import Derived.Test.YtokinadmeooaoaaBf
import Derived.Test.YtokinadmeooaoaaBj
import Derived.Deep.OwnRows
namespace Go.Proofs.Ytokinadmeooaoaa
open Go.RowKit
theorem mk_eq (n : Nat) : madeCells #[.int .u64 0] n = (dv (List.replicate n 0)).toArray := by
  apply Array.ext
  · simp [madeCells, dv]
  · intro i h1 h2
    simp [madeCells, dv, Nat.mod_one]
theorem pw_two (n : Nat) : Big.pw n = 2 ^ (16 * n) := by
  unfold Big.pw; rw [show (65536 : Nat) = 2 ^ 16 from rfl, ← Nat.pow_mul]
theorem repl_getD (n k : Nat) : (List.replicate n 0).getD k 0 = 0 := by
  rw [List.getD_eq_getElem?_getD, List.getElem?_replicate]; split <;> rfl
theorem sm_of (n K : Nat) (hK : K < 1000000) (h : n < 2 * Big.pw K) : Sm n := by
  refine Sm.of (Nat.lt_of_lt_of_le h ?_)
  refine Nat.le_trans ?_ (Big.pw_mono (show K + 1 ≤ 1000000 by omega))
  rw [Big.pw_succ]; exact Nat.mul_le_mul_right _ (by decide)
/-- No more than 900 digits. -/
@[irreducible] def Md (n : Nat) : Prop := n < Big.pw 900
theorem Md.lt {n : Nat} (h : Md n) : n < Big.pw 900 := by unfold Md at h; exact h
theorem Md.of {n : Nat} (h : n < Big.pw 900) : Md n := by unfold Md; exact h
set_option maxHeartbeats 2000000 in
theorem div_any (u v : Value) (A B : Nat) (w : World) (hu : MagR w u A) (hv : MagR w v B) (hB : 0 < B) (hA : Md A) (hBB : Md B) :
    Calls Try.prog 53 #[u, v] w fun e w' => (∃ q r, e = .returned (.tuple #[q, r]) ∧ MagR w' q (A / B) ∧ MagR w' r (A % B)) ∧ Below w.heap.size w w' := by
  have HV := Lib.hid hv
  have HU := Lib.hid hu
  obtain ⟨a, len, cap, l, rfl, h1, h2, h3⟩ := hu
  obtain ⟨a', len', cap', l', rfl, h1', h2', h3'⟩ := hv
  have hl : len ≤ 900 := MagR.small h1 h2 (by rw [h3]; exact hA.lt)
  have HL := Lib.hid h1
  have HN := Lib.hid h2
  have HX := Lib.hid h3
  have HBB := Lib.hid hBB
  have hc := h1.2.1
  have hc2 := h1.2.2.1
  clear h1 h2 h3 h1' h2' h3' hA hBB
  have hmk : ∀ w, (Instr.makeSlice 62 (.int .i64 (len : Int)) (.int .i64 (len : Int))).run Try.prog w = .ok (.slice (some ⟨w.heap.size, 0, none⟩) len len) (w.alloc (.cells (dv (List.replicate len 0)).toArray 73)) := by
    intro w; rw [← mk_eq]; exact run_make_row' 62 73 (.int .u64 0) 8 Try.underlying62 info73 rfl _ _ len (by omega) (by omega) w
  have ST : Hid (A / 2 ^ (16 * len) = 0) := by
    show _ = _
    rw [← pw_two]
    have h := Big.val_lt HN.out.1
    rw [HX.out, HL.out.1] at h
    exact Nat.div_eq_of_lt h
  go_enter Try.func53, Try.ntmps53
  go_wp2_with fail
  go_loopw [7, 8] (fun lv i wr => ∃ (k : Nat) (q : List Nat), i = .int .i64 ((k : Int) - 1) ∧ k ≤ 16 * len ∧ Hid (MagR wr lv (A / 2 ^ k % B)) ∧ Hid (Below w.heap.size w wr) ∧ Hid (Mem.Blk wr w.heap.size 73 (dv q).toArray) ∧ Hid (q.length = len) ∧ Hid (Big.Bits q k) ∧ Hid (Big.val q = A / 2 ^ k / B * 2 ^ k)) (fun _ i _ => (intOf i + 1).toNat)
  case atStart =>
    refine ⟨16 * len, List.replicate len 0, by go_num, Nat.le_refl _, ⟨none, 0, 0, [], rfl, ⟨rfl, Nat.le_refl _, by decide, fun h => absurd h (by decide)⟩, Big.Norm.nil, ?_⟩, (Below.refl _ _).alloc (Nat.le_refl _) _, Mem.Blk.new _ _ _, by show _ = _; simp, Big.Bits.start _ _, ?_⟩
    · rw [ST.out]; simp [Big.val]
    · show _ = _; rw [ST.out, Big.val_zero]; simp
  case round =>
    obtain ⟨k, q, rfl, hk, HM, HW, HQ, HQL, HB, HVQ⟩ := hrel
    cases k with
    | zero =>
      obtain ⟨al, ll, cl, dl, rfl, m1, m2, m3⟩ := HM.out
      have hqn : Nums wr (some ⟨w.heap.size, 0, none⟩) len len q := by
        refine ⟨HQL.out, Nat.le_refl _, by omega, fun hp => ⟨w.heap.size, 0, rfl, HQ.out.lt, fun i x hx => ?_⟩⟩
        rw [HQ.out.cell, Nat.zero_add]; simp [dv, hx]
      have HQN := Lib.hid hqn
      have hmt := hqn.take (Big.trim q).length (by rw [← HQL.out]; exact trim_le q)
      rw [← trim_len] at hmt
      have FQ : Hid (MagR wr (.slice (some ⟨w.heap.size, 0, none⟩) (Big.trim q).length len) (A / B)) := by
        have h := MagR.trim hmt HB.out.1
        rw [HVQ.out] at h
        show MagR _ _ _
        simpa using h
      have FR : Hid (MagR wr (.slice al ll cl) (A % B)) := by
        have h := HM.out
        show MagR _ _ _
        simpa using h
      clear hmt hqn m1 m2 m3
      go_wp2_with fail
      refine (trim_any _ _ _ q _ HQN.out).mono ?_; rintro e w' ⟨rfl, rfl⟩
      go_wp2
      go_ret2
      exact ⟨⟨_, _, rfl, FQ.out, FR.out⟩, HW.out⟩
    | succ i =>
      have hbl : A / 2 ^ (i + 1) % B < Big.pw 1000000 := Nat.lt_of_lt_of_le (Nat.lt_trans (Nat.mod_lt _ hB) HBB.out.lt) (Big.pw_mono (by omega))
      have HBL := Sm.of hbl
      clear hbl
      have HB2 : Sm (A / 2 ^ (i + 1) % B + A / 2 ^ (i + 1) % B) := by
        refine sm_of _ 900 (by omega) ?_
        have h1 := Nat.mod_lt (A / 2 ^ (i + 1)) hB
        have h2 := HBB.out.lt
        generalize Big.pw 900 = p at *
        omega
      have SL2 : Hid (Sm (2 * (A / 2 ^ (i + 1) % B) + A / 2 ^ i % 2)) := by
        refine sm_of _ 900 (by omega) ?_
        have h1 := Nat.mod_lt (A / 2 ^ (i + 1)) hB
        have h2 := HBB.out.lt
        have h3 := Nat.mod_lt (A / 2 ^ i) (show 0 < 2 by decide)
        generalize Big.pw 900 = p at *
        omega
      have HB3 : Sm 1 := Sm.of (Nat.lt_of_lt_of_le (show 1 < Big.pw 1 by decide) (Big.pw_mono (by decide)))
      go_wp2_with fail
      refine (add_any _ _ _ _ _ HM.out HM.out HBL.lt HBL.lt).mono ?_
      rintro e w1 ⟨⟨r, rfl, hr⟩, b1⟩
      have hw1 : Below w.heap.size w w1 := HW.out.trans (b1.mono HW.out.size)
      have HQ1 := Lib.hid (HQ.out.below b1)
      obtain ⟨b, o, rfl, hbb, hcell⟩ := (HL.out.below hw1).at (i / 16) (by omega)
      have HVB := Lib.hid (Big.val_bit l i HN.out.1)
      rw [HX.out] at HVB
      generalize l.getD (i / 16) 0 = x at *
      have DS : Hid ((B ≤ 2 * (A / 2 ^ (i + 1) % B) + A / 2 ^ i % 2 → 2 * (A / 2 ^ (i + 1) % B) + A / 2 ^ i % 2 - B = A / 2 ^ i % B ∧ Big.val q + 2 ^ i = A / 2 ^ i / B * 2 ^ i) ∧ (2 * (A / 2 ^ (i + 1) % B) + A / 2 ^ i % 2 < B → 2 * (A / 2 ^ (i + 1) % B) + A / 2 ^ i % 2 = A / 2 ^ i % B ∧ Big.val q = A / 2 ^ i / B * 2 ^ i)) := (Big.div_step A B i hB (A / 2 ^ (i + 1) % B) (Big.val q) rfl HVQ.out)
      have TAIL : Hid (∀ (l2 : Nat) (r2 : Value) (w2 : World), l2 = 2 * (A / 2 ^ (i + 1) % B) + A / 2 ^ i % 2 → MagR w2 r2 l2 → Below w1.heap.size w1 w2 → True) := fun _ _ _ _ _ _ => trivial
      have EX : (x : Int) / 2 ^ (i % 16) = ((x / 2 ^ (i % 16) : Nat) : Int) := by simp
      by_cases hb1 : x / 2 ^ (i % 16) % 2 = 1
      · have hbi : (((x : Int) / 2 ^ (i % 16)).tmod 2 == 1) = true := by
          rw [EX, Int.tmod_eq_emod_of_nonneg (Int.natCast_nonneg _)]; generalize x / 2 ^ (i % 16) = t at hb1 ⊢; simp only [beq_iff_eq]; omega
        have HB1 : Hid (A / 2 ^ i % 2 = 1) := by show _ = _; rw [HVB.out]; exact hb1
        clear hb1 EX
        go_wp2_with fail
        have a1 : Below w1.heap.size w1 (w1.alloc (.cells #[.int .u64 1] 73)) := (Below.refl _ _).alloc (Nat.le_refl _) _
        have h1m : MagR (w1.alloc (.cells #[.int .u64 1] 73)) (.slice (some ⟨w1.heap.size, 0, none⟩) 1 1) 1 := by
          refine ⟨_, _, _, [1], rfl, ⟨rfl, Nat.le_refl _, by decide, fun _ => ⟨w1.heap.size, 0, rfl, by simp, fun j y hy => ?_⟩⟩, ⟨by intro d hd; simp at hd; omega, by intro d hd; simp at hd; omega⟩, rfl⟩
          have := (Mem.Blk.new w1 73 #[.int .u64 1]).cell (0 + j)
          rw [this, Nat.zero_add]
          match j, hy with
          | 0, hy => simp at hy; subst hy; rfl
          | k + 1, hy => simp at hy
        refine (add_any _ _ _ 1 _ (hr.below a1) h1m HB2.lt HB3.lt).mono ?_
        rintro e w2 ⟨⟨r2, rfl, hr2⟩, b2⟩
        have HR2 : Hid (MagR w2 r2 (2 * (A / 2 ^ (i + 1) % B) + A / 2 ^ i % 2)) := by
          show MagR _ _ _
          rw [HB1.out, show 2 * (A / 2 ^ (i + 1) % B) + 1 = A / 2 ^ (i + 1) % B + A / 2 ^ (i + 1) % B + 1 by omega]; exact hr2
        have b12 : Below w1.heap.size w1 w2 := a1.trans (b2.mono a1.size)
        go_wp2_with fail
        have B12 := b12
        have HWW : Hid (Below w.heap.size w w2) := hw1.trans (B12.mono hw1.size)
        have HQ2 := Lib.hid (HQ1.out.below B12)
        have D1 := Lib.hid DS.out.1
        have D2 := Lib.hid DS.out.2
        generalize 2 * (A / 2 ^ (i + 1) % B) + A / 2 ^ i % 2 = L2 at *
        have HV2 := Lib.hid (HV.out.below HWW.out)
        by_cases hle : B ≤ L2
        · obtain ⟨cv, hcv, hcv0⟩ : ∃ cv, cmpN L2 B = cv ∧ 0 ≤ cv := ⟨_, rfl, by unfold cmpN; rw [if_neg (by omega)]; split <;> decide⟩
          have HCV := Lib.hid hcv
          have HLE := Lib.hid hle
          clear hcv hle
          refine (cmpm_any _ _ L2 B _ HR2.out HV2.out).mono ?_
          rintro e w3 ⟨rfl, b3⟩
          rw [HCV.out]
          go_wp2_with fail
          refine (subf_any _ _ L2 B _ (HR2.out.below b3) (HV2.out.below b3) SL2.out.lt HLE.out).mono ?_
          rintro e w4 ⟨⟨rb, rl, rc, rfl, hr4, hfr⟩, b4⟩
          have hlt3 := (HQ2.out.below b3).lt
          have HR4 : Hid (∀ uu, MagR (w4.setCell ⟨w.heap.size, i / 16, none⟩ uu).drew (.slice rb rl rc) (A / 2 ^ i % B)) := by
            show ∀ uu, MagR _ _ _
            intro uu
            obtain ⟨a5, l5, c5, d5, e5, m1, m2, m3⟩ := hr4
            cases e5
            rw [← (D1.out HLE.out).1]
            exact ⟨_, _, _, _, rfl, m1.far (u := uu) (j := i / 16) (fun x hx => by have := hfr x hx; omega), m2, m3⟩
          clear hr4 hfr hlt3
          have HQ4 := Lib.hid ((HQ2.out.below b3).below b4)
          have hqc : w4.cell? ⟨w.heap.size, i / 16, none⟩ = some (.int .u64 (q.getD (i / 16) 0 : Nat)) := by
            rw [HQ4.out.cell]; simp [dv, List.getD_eq_getElem?_getD, List.getElem?_eq_getElem (show i / 16 < q.length by rw [HQL.out]; omega)]
          have hqf := HQ4.out.frozen (i / 16)
          go_wp2_with fail
          go_region
          have hqi : i / 16 < q.length := by rw [HQL.out]; omega
          obtain ⟨hb5, hb6⟩ := Big.Bits.set_ q i HB.out hqi
          have HB5 := Lib.hid hb5
          have HB6 := Lib.hid hb6
          have HB7 := Lib.hid (Big.set_val q i hqi)
          clear hb5 hb6 hqi
          go_wp2_with fail
          go_roundw
          case rel =>
            refine ⟨i, q.set (i / 16) (q.getD (i / 16) 0 + 2 ^ (i % 16)), by go_num, by omega, HR4.out _, ?_, ?_, by show _ = _; rw [List.length_set]; exact HQL.out, HB5, by show _ = _; rw [HB7.out]; exact (D1.out HLE.out).2⟩
            · exact (((HWW.out.trans (b3.mono HWW.out.size)).trans (b4.mono (Nat.le_trans HWW.out.size b3.size))).setCell (Nat.le_refl _) _).drew
            · show Mem.Blk _ _ _ _
              have h := (HQ4.out.set_ (i / 16) (.int .u64 (IntKind.u64.wrap (↑(q[i / 16]?.getD 0) + IntKind.u64.wrap (2 ^ (i % 16)))))).drew
              rw [dv_set q (i / 16) (q.getD (i / 16) 0 + 2 ^ (i % 16)) _ ?_] at h
              · exact h
              · have h6 := HB6.out
                have hc : ((2 ^ (i % 16) : Nat) : Int) = 2 ^ (i % 16) := by simp
                rw [← hc, List.getD_eq_getElem?_getD] at *
                generalize 2 ^ (i % 16) = t at h6 ⊢
                generalize q[i / 16]?.getD 0 = y at h6 ⊢
                simp only [IntKind.wrap_u64]; omega
          case measure => simp [intOf]
        · obtain ⟨cv, hcv, hcv0⟩ : ∃ cv, cmpN L2 B = cv ∧ cv < 0 := ⟨_, rfl, by unfold cmpN; rw [if_pos (by omega)]; decide⟩
          have HCV := Lib.hid hcv
          have HLE := Lib.hid (show L2 < B by omega)
          clear hcv hle
          refine (cmpm_any _ _ L2 B _ HR2.out HV2.out).mono ?_
          rintro e w3 ⟨rfl, b3⟩
          rw [HCV.out]
          go_wp2_with fail
          go_roundw
          case rel => exact ⟨i, q, by go_num, by omega, by show MagR _ _ _; rw [← (D2.out HLE.out).1]; exact HR2.out.below b3, HWW.out.trans (b3.mono HWW.out.size), HQ2.out.below b3, HQL, HB.out.down, (D2.out HLE.out).2⟩
          case measure => simp [intOf]
      · have hbi : (((x : Int) / 2 ^ (i % 16)).tmod 2 == 1) = false := by
          rw [EX, Int.tmod_eq_emod_of_nonneg (Int.natCast_nonneg _)]; generalize x / 2 ^ (i % 16) = t at hb1 ⊢; simp only [beq_eq_false_iff_ne]; omega
        have HB1 := Lib.hid hb1
        clear hb1 EX
        have HB0 : Hid (A / 2 ^ i % 2 = 0) := by show _ = _; have := HB1.out; rw [HVB.out]; omega
        have HR2 : Hid (MagR w1 r (2 * (A / 2 ^ (i + 1) % B) + A / 2 ^ i % 2)) := by
          show MagR _ _ _
          rw [HB0.out, show 2 * (A / 2 ^ (i + 1) % B) + 0 = A / 2 ^ (i + 1) % B + A / 2 ^ (i + 1) % B by omega]; exact hr
        have B12 : Below w1.heap.size w1 w1 := Below.refl _ _
        go_wp2_with fail
        have HWW : Hid (Below w.heap.size w w1) := hw1.trans (B12.mono hw1.size)
        have HQ2 := Lib.hid (HQ1.out.below B12)
        have D1 := Lib.hid DS.out.1
        have D2 := Lib.hid DS.out.2
        generalize 2 * (A / 2 ^ (i + 1) % B) + A / 2 ^ i % 2 = L2 at *
        have HV2 := Lib.hid (HV.out.below HWW.out)
        by_cases hle : B ≤ L2
        · obtain ⟨cv, hcv, hcv0⟩ : ∃ cv, cmpN L2 B = cv ∧ 0 ≤ cv := ⟨_, rfl, by unfold cmpN; rw [if_neg (by omega)]; split <;> decide⟩
          have HCV := Lib.hid hcv
          have HLE := Lib.hid hle
          clear hcv hle
          refine (cmpm_any _ _ L2 B _ HR2.out HV2.out).mono ?_
          rintro e w3 ⟨rfl, b3⟩
          rw [HCV.out]
          go_wp2_with fail
          refine (subf_any _ _ L2 B _ (HR2.out.below b3) (HV2.out.below b3) SL2.out.lt HLE.out).mono ?_
          rintro e w4 ⟨⟨rb, rl, rc, rfl, hr4, hfr⟩, b4⟩
          have hlt3 := (HQ2.out.below b3).lt
          have HR4 : Hid (∀ uu, MagR (w4.setCell ⟨w.heap.size, i / 16, none⟩ uu).drew (.slice rb rl rc) (A / 2 ^ i % B)) := by
            show ∀ uu, MagR _ _ _
            intro uu
            obtain ⟨a5, l5, c5, d5, e5, m1, m2, m3⟩ := hr4
            cases e5
            rw [← (D1.out HLE.out).1]
            exact ⟨_, _, _, _, rfl, m1.far (u := uu) (j := i / 16) (fun x hx => by have := hfr x hx; omega), m2, m3⟩
          clear hr4 hfr hlt3
          have HQ4 := Lib.hid ((HQ2.out.below b3).below b4)
          have hqc : w4.cell? ⟨w.heap.size, i / 16, none⟩ = some (.int .u64 (q.getD (i / 16) 0 : Nat)) := by
            rw [HQ4.out.cell]; simp [dv, List.getD_eq_getElem?_getD, List.getElem?_eq_getElem (show i / 16 < q.length by rw [HQL.out]; omega)]
          have hqf := HQ4.out.frozen (i / 16)
          go_wp2_with fail
          go_region
          have hqi : i / 16 < q.length := by rw [HQL.out]; omega
          obtain ⟨hb5, hb6⟩ := Big.Bits.set_ q i HB.out hqi
          have HB5 := Lib.hid hb5
          have HB6 := Lib.hid hb6
          have HB7 := Lib.hid (Big.set_val q i hqi)
          clear hb5 hb6 hqi
          go_wp2_with fail
          go_roundw
          case rel =>
            refine ⟨i, q.set (i / 16) (q.getD (i / 16) 0 + 2 ^ (i % 16)), by go_num, by omega, HR4.out _, ?_, ?_, by show _ = _; rw [List.length_set]; exact HQL.out, HB5, by show _ = _; rw [HB7.out]; exact (D1.out HLE.out).2⟩
            · exact (((HWW.out.trans (b3.mono HWW.out.size)).trans (b4.mono (Nat.le_trans HWW.out.size b3.size))).setCell (Nat.le_refl _) _).drew
            · show Mem.Blk _ _ _ _
              have h := (HQ4.out.set_ (i / 16) (.int .u64 (IntKind.u64.wrap (↑(q[i / 16]?.getD 0) + IntKind.u64.wrap (2 ^ (i % 16)))))).drew
              rw [dv_set q (i / 16) (q.getD (i / 16) 0 + 2 ^ (i % 16)) _ ?_] at h
              · exact h
              · have h6 := HB6.out
                have hc : ((2 ^ (i % 16) : Nat) : Int) = 2 ^ (i % 16) := by simp
                rw [← hc, List.getD_eq_getElem?_getD] at *
                generalize 2 ^ (i % 16) = t at h6 ⊢
                generalize q[i / 16]?.getD 0 = y at h6 ⊢
                simp only [IntKind.wrap_u64]; omega
          case measure => simp [intOf]
        · obtain ⟨cv, hcv, hcv0⟩ : ∃ cv, cmpN L2 B = cv ∧ cv < 0 := ⟨_, rfl, by unfold cmpN; rw [if_pos (by omega)]; decide⟩
          have HCV := Lib.hid hcv
          have HLE := Lib.hid (show L2 < B by omega)
          clear hcv hle
          refine (cmpm_any _ _ L2 B _ HR2.out HV2.out).mono ?_
          rintro e w3 ⟨rfl, b3⟩
          rw [HCV.out]
          go_wp2_with fail
          go_roundw
          case rel => exact ⟨i, q, by go_num, by omega, by show MagR _ _ _; rw [← (D2.out HLE.out).1]; exact HR2.out.below b3, HWW.out.trans (b3.mono HWW.out.size), HQ2.out.below b3, HQL, HB.out.down, (D2.out HLE.out).2⟩
          case measure => simp [intOf]
end Go.Proofs.Ytokinadmeooaoaa
