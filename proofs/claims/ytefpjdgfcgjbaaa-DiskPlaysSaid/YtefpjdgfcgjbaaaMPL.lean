/- A part of the proof: DkRm, DkPl, DkPw, Bld, one behind another. -/
import Derived.Test.YtefpjdgfcgjbaaaMPA
import Derived.Test.YtefpjdgfcgjbaaaMPB
import Derived.Test.YtefpjdgfcgjbaaaMPC
import Derived.Test.YtefpjdgfcgjbaaaMPD
import Derived.Test.YtefpjdgfcgjbaaaMPE
import Derived.Test.YtefpjdgfcgjbaaaMPF
import Derived.Test.YtefpjdgfcgjbaaaMPG
import Derived.Test.YtefpjdgfcgjbaaaMPH
import Derived.Test.YtefpjdgfcgjbaaaMPI
import Derived.Test.YtefpjdgfcgjbaaaMPJ
import Derived.Test.YtefpjdgfcgjbaaaMPK
/- The document's rot: the walk. -/
namespace Go.Proofs.Ytefpjdgfcgjbaaa
set_option linter.unusedVariables false
set_option linter.unusedSimpArgs false
open Go.RowKit
theorem rem_two (B k : Nat) : ((B / 2 ^ k : Nat) : Int) % 2 = ((B / 2 ^ k % 2 : Nat) : Int) := by omega
set_option maxRecDepth 100000 in
set_option maxHeartbeats 4000000 in
theorem mrot_any (base q : Nat) (m : Md) (fa : Option Addr) (fc : Nat) (c : Ac) (w : World) (h : MdAt base w q m fa fc) (hn : m.fs.length ≤ 1000) (hu : UpF m.fs) (hok : ∀ f ∈ m.fs, f.data.size ≤ 1048576 ∧ f.safe ≤ f.data.size) (hat : I64 c.n) (hb : 0 ≤ c.bits ∧ c.bits ≤ 4294967295) :
    Calls Try.prog 27 #[.pointer (some ⟨q, 0, none⟩), .agg (acC c).toArray] w fun x w' => x = .returned (.bool (rotS m c.name.data.toList c.n c.bits.toNat).1) ∧ MdDone base q fa w w' (rotS m c.name.data.toList c.n c.bits.toNat).2 := by
  have HS := Lib.hid (do_start h c)
  have HN := Lib.hid hn
  have HOK := Lib.hid hok
  have HUP := Lib.hid hu
  have HCN := Lib.hid hat
  obtain ⟨B, hB⟩ : ∃ B : Nat, c.bits = (B : Nat) := ⟨c.bits.toNat, by omega⟩
  have HBZ : Hid (B ≤ 4294967295) := by show B ≤ _; omega
  obtain ⟨R, hR⟩ : ∃ R, R = rotS m c.name.data.toList c.n c.bits.toNat := ⟨_, rfl⟩
  rw [← hR]
  rw [hB, Int.toNat_natCast] at hR
  have HR := Lib.hid hR
  have HBB := Lib.hid hB
  clear h hn hok hu hat hb hR hB
  show Calls Try.prog 27 #[.pointer (some ⟨q, 0, none⟩), .agg #[.int .i64 c.kind, .string c.name, .string c.to_, .string c.data, .int .i64 c.n, .int .u32 c.bits, .slice c.ka c.kl c.kc]] w _
  go_enter Try.func27, Try.ntmps27
  go_upto_region 1 with (fail)
  have HS1 : Hid (DoSt base q w.heap.size c fa w (w.alloc (.cells #[.int .i64 c.kind, .string c.name, .string c.to_, .string c.data, .int .i64 c.n, .int .u32 c.bits, .slice c.ka c.kl c.kc] 54)) m fa fc) := HS.out
  clear HS
  generalize w.alloc (.cells #[.int .i64 c.kind, .string c.name, .string c.to_, .string c.data, .int .i64 c.n, .int .u32 c.bits, .slice c.ka c.kl c.kc] 54) = w1 at *
  obtain ⟨q0, q1, q2, q3, q4, q5, q6⟩ := blk7 HS1.out.box
  go_wp2_with fail
  go_at_call 25
  (with_reducible refine (find_any base q m fa fc c.name w1 HS1.out.go.at_ HN.out).mono ?_)
  rintro x w4 ⟨⟨i, rfl, hi⟩, hw⟩
  rw [hw]; clear hw w4
  unfold rotS at HR
  rcases hi with ⟨k0, f, rfl, hk1, hk2⟩ | ⟨rfl, hk2⟩
  rotate_left
  · rw [hk2] at HR
    obtain rfl : R = (false, m) := HR.out
    clear HR hk2
    go_wp2_with fail
    go_ret
    exact ⟨rfl, HS1.out.go.done⟩
  rw [hk2] at HR
  dsimp only at HR
  have j00 : ¬ ((k0 : Int) < 0) := by omega
  by_cases hneg : c.n < 0
  · rw [if_pos hneg] at HR
    obtain rfl : R = (false, m) := HR.out
    clear HR hk2 hk1
    go_wp2_with fail
    go_ret
    exact ⟨rfl, HS1.out.go.done⟩
  rw [if_neg hneg] at HR
  obtain ⟨A, hA⟩ : ∃ A : Nat, c.n = (A : Nat) := ⟨c.n.toNat, by omega⟩
  rw [hA, Int.toNat_natCast] at HR
  have hAx : A ≤ 9223372036854775807 := by have := HCN.out; unfold I64 at this; omega
  have HAA := Lib.hid hA
  have HFM := Lib.hid hk1
  have HFF := Lib.hid hk2
  have HSZ := Lib.hid (HOK.out f (List.mem_of_getElem? hk1))
  have HLN : Hid (f.data.data.toList.length = f.data.size) := by show _ = _; rw [Array.length_toList]; rfl
  have hkl : k0 < m.fs.length := (List.getElem?_eq_some_iff.1 hk1).1
  have c1 : w1.cell? ⟨q, 1, none⟩ = some (.slice fa m.fs.length fc) := (md7 HS1.out.go.at_.ptr).2.1
  obtain ⟨g, f1, hfa, hf1, u0, u1, u2, hfz⟩ := HS1.out.go.at_.at k0 hkl
  obtain rfl : f1 = f := by rw [hk1] at hf1; injection hf1 with hf1; exact hf1.symm
  have HFA := Lib.hid hfa
  rw [hfa] at c1
  have HKL := Lib.hid hkl
  have hkl' : (k0 : Int) < (m.fs.length : Int) := by omega
  have i00 : (0 : Int) ≤ (k0 : Int) := by omega
  have i01 : (k0 : Int) ≤ 1000 := by have := HN.out; omega
  rw [hA] at q4
  rw [HBB.out] at q5
  have hneg' : ¬ ((A : Int) < 0) := by omega
  have hcv := Lib.run_convert_string_bytes (P := Try.prog) w1 9 35 5 f1.data Try.underlying9 Try.underlying35 Try.underlying5
  have HW0 := Lib.hid (bytes_below w1 5 f1.data)
  have HRow : Hid (RowB (Lib.bytesWorld w1 5 f1.data) w1.heap.size f1.data.data.toList) := by
    have hby := ByR.start w1 f1.data (Nat.le_refl w1.heap.size) (by have := HSZ.out; unfold maxLen; omega)
    obtain ⟨g, e, -, -, -, h⟩ := hby.rowB
    injection e with e; injection e with e
    rw [e]; exact h
  clear hfa hf1 hfz hk1 hk2 hkl hneg hA
  go_upto_region 5 with (fail)
  clear hcv u0 u1 u2 c1 q0 q1 q2 q3 q4 q5 q6
  generalize grownCap w1 f1.data.size 0 5 = gc at *
  obtain ⟨yb, hyb⟩ : ∃ z, z = w1.heap.size := ⟨_, rfl⟩
  have HYB := Lib.hid hyb
  rw [← hyb] at HRow ⊢
  clear hyb
  generalize hw3 : Lib.bytesWorld w1 5 f1.data = w3 at *
  clear hw3
  have HS3 := Lib.hid (HS1.out.below HW0.out)
  go_wp2_with fail
  go_loopw [7, 8] (fun t i wr => ∃ (k : Nat), t = .bool (rotT f1.safe A B k) ∧ i = .int .i64 (k : Nat) ∧ k ≤ 32 ∧ Hid (RowB wr yb (rotL f1.data.data.toList f1.safe A B k) ∧ Fr [yb] w3 wr)) (fun _ i _ => 32 - (intOf i).toNat)
  case atStart => exact ⟨0, rfl, rfl, Nat.zero_le _, HRow.out, Fr.refl _ _⟩
  case round =>
    obtain ⟨k, rfl, rfl, hk, HRR⟩ := hrel
    have HF1 : Hid (Fr [] w1 wr) := by
      have k0 : Fr [yb] w1 wr := (Fr.of_below HW0.out [yb]).trans HRR.out.2
      exact k0.fresh (fun b hb => by rw [List.mem_singleton] at hb; subst hb; exact .inr (by rw [HYB.out]; exact Nat.le_refl _))
    have HGR : Hid (MdGo base q fa w wr m fa fc) := ⟨HS1.out.go.at_.fr HF1.out (fun g hg => by cases hg), HS1.out.go.step.trans ⟨HF1.out.more (fun g hg => by cases hg), fun b hb => .inl hb⟩⟩
    have HBX : Hid (Mem.Blk wr w.heap.size 54 (acC c).toArray) := HF1.out.blk HS1.out.box (by simp)
    have c1 : wr.cell? ⟨q, 1, none⟩ = some (.slice fa m.fs.length fc) := (md7 HGR.out.at_.ptr).2.1
    rw [HFA.out] at c1
    obtain ⟨g', f', hfa, hf', u0, u1, u2, hfz⟩ := HGR.out.at_.at k0 HKL.out
    obtain rfl : f' = f1 := by rw [HFM.out] at hf'; injection hf' with hf'; exact hf'.symm
    obtain rfl : g' = g := by rw [HFA.out] at hfa; injection hfa with hfa; injection hfa with hfa; exact hfa.symm
    obtain ⟨q0, q1, q2, q3, q4, q5, q6⟩ := blk7 HBX.out
    rw [HAA.out] at q4
    rw [HBB.out] at q5
    clear hfa hf' q0 q1 q2 q3 q6
    by_cases hlt : k < 32
    · have hlt' : (k : Int) < (32 : Int) := by omega
      have i0 : (0 : Int) ≤ (k : Int) := by omega
      have hsh := shr_nat B k hlt
      have HKX := Lib.hid hlt
      clear hlt
      have hx0 : (B : Int) / 2 ^ k = ((B / 2 ^ k : Nat) : Int) := by push_cast; rfl
      have hs8 : IntKind.i64.wrap (8 * (f'.safe : Int)) = 8 * (f'.safe : Int) := IntWalk.i64_in _ (by have := HSZ.out; omega)
      have hs9 : IntKind.i64.wrap (8 * (f'.safe : Int) - 1) = 8 * (f'.safe : Int) - 1 := IntWalk.i64_in _ (by have := HSZ.out; omega)
      have hs10 : IntKind.i64.wrap (8 * (f'.safe : Int) - 1 - (k : Int)) = 8 * (f'.safe : Int) - 1 - (k : Int) := IntWalk.i64_in _ (by have := HSZ.out; omega)
      have hbt2 : B / 2 ^ k % 2 = 0 ∨ B / 2 ^ k % 2 = 1 := by omega
      rcases hbt2 with hbt | hbt
      · have e1 : (B : Int) / 2 ^ k % 2 = 0 := by rw [hx0]; omega
        have e2 : ((B : Int) / 2 ^ k).tmod 2 = 0 := by rw [hx0]; show ((B / 2 ^ k % 2 : Nat) : Int) = 0; rw [hbt]; rfl
        have HIT : Hid (hitB f'.safe A B k = false) := by
          show hitB _ _ _ _ = false
          unfold hitB
          rw [hbt]; rfl
        clear hbt hx0 hsh
        have hsh : (B : Int) / 2 ^ min ((k : Int)).toNat 32 = (B : Int) / 2 ^ k := by
          have e : min ((k : Int)).toNat 32 = k := by have := HKX.out; omega
          rw [e]
        go_wp2_with fail
        go_quiet (fail)
        have HRX : Hid (RowB (wr.drewN nq) yb (rotL f'.data.data.toList f'.safe A B (k + 1)) ∧ Fr [yb] w3 (wr.drewN nq)) := ⟨rowB_skip (fun j b hj => HRR.out.1 j b hj) HIT.out, HRR.out.2.trans (Fr.of_below (below_dN (Below.refl wr.heap.size wr) nq) _)⟩
        generalize wr.drewN nq = wd at *
        go_wp2_with fail
        go_roundw
        case rel => exact ⟨k + 1, by rw [rotT, HIT.out, Bool.false_or], by go_num, by have := HKX.out; omega, HRX.out⟩
        case measure => simp [intOf]; have := HKX.out; omega
      · have e1 : (B : Int) / 2 ^ k % 2 = 1 := by rw [hx0]; omega
        have e2 : ((B : Int) / 2 ^ k).tmod 2 = 1 := by rw [hx0]; show ((B / 2 ^ k % 2 : Nat) : Int) = 1; rw [hbt]; rfl
        by_cases hin : A + k < 8 * f'.safe
        · have HIT : Hid (hitB f'.safe A B k = true) := by
            show hitB _ _ _ _ = true
            unfold hitB
            rw [hbt, decide_eq_true hin]; rfl
          have hin' : (A : Int) ≤ 8 * (f'.safe : Int) - 1 - (k : Int) := by omega
          have HIN := Lib.hid hin
          clear hbt hin hx0 hsh
          have hsh : (B : Int) / 2 ^ min ((k : Int)).toNat 32 = (B : Int) / 2 ^ k := by
            have e : min ((k : Int)).toNat 32 = k := by have := HKX.out; omega
            rw [e]
          go_wp2_with fail
          go_quiet (fail)
          have HRX : Hid (RowB (wr.drewN nq) yb (rotL f'.data.data.toList f'.safe A B k) ∧ Fr [yb] w3 (wr.drewN nq)) := ⟨fun j b hj => HRR.out.1 j b hj, HRR.out.2.trans (Fr.of_below (below_dN (Below.refl wr.heap.size wr) nq) _)⟩
          have HBY := Lib.hid (HBX.out.below (below_dN (Below.refl wr.heap.size wr) nq))
          clear q4 q5 u0 u1 u2 c1 hfz e1 e2 hsh
          generalize wr.drewN nq = wd at *
          obtain ⟨-, -, -, -, q4, -, -⟩ := blk7 HBY.out
          rw [HAA.out] at q4
          have HBD : Hid (A + k ≤ 8388608) := by have := HSZ.out; have := HIN.out; show A + k ≤ _; omega
          go_upto_region 10 with (fail)
          obtain ⟨nk, hnk⟩ : ∃ n, n = A + k := ⟨_, rfl⟩
          have HNK := Lib.hid hnk
          have hw1 : IntKind.i64.wrap ((A : Int) + (k : Int)) = (nk : Int) := by rw [hnk, IntWalk.i64_in _ (by have := HBD.out; omega)]; push_cast; rfl
          have hw2 : IntKind.i64.wrap (((nk : Nat) : Int).tdiv 8) = ((nk / 8 : Nat) : Int) := by
            have e : ((nk : Nat) : Int).tdiv 8 = ((nk / 8 : Nat) : Int) := rfl
            rw [e]
            exact IntWalk.i64_in _ (by have := HBD.out; omega)
          have hw5 : IntKind.i64.wrap (((nk : Nat) : Int) / 8) = ((nk / 8 : Nat) : Int) := IntWalk.i64_in _ (by have := HBD.out; omega)
          have hw6 : IntKind.i64.wrap (((nk : Nat) : Int) % 8) = ((nk % 8 : Nat) : Int) := IntWalk.i64_in _ (by omega)
          have hw7 : ((nk : Nat) : Int) % 8 = ((nk % 8 : Nat) : Int) := by omega
          have hw3 : ((nk : Nat) : Int).tmod 8 = ((nk % 8 : Nat) : Int) := rfl
          have hw4 : IntKind.i64.wrap ((nk % 8 : Nat) : Int) = ((nk % 8 : Nat) : Int) := IntWalk.i64_in _ (by omega)
          have hix : nk / 8 < f'.data.size := by have := HSZ.out; have := HIN.out; omega
          obtain ⟨b0, hb0⟩ : ∃ b0, (rotL f'.data.data.toList f'.safe A B k)[nk / 8]? = some b0 := ⟨_, List.getElem?_eq_getElem (by rw [rotL_len, HLN.out]; exact hix)⟩
          obtain ⟨r0, r1⟩ := HRX.out.1 _ b0 hb0
          have HB0 := Lib.hid hb0
          have h8 : nk % 8 < 8 := Nat.mod_lt _ (by omega)
          have hx := xor_bit b0 h8
          clear hb0 hnk
          obtain ⟨ix, hixx⟩ : ∃ x, x = nk / 8 := ⟨_, rfl⟩
          obtain ⟨rm, hrm⟩ : ∃ x, x = nk % 8 := ⟨_, rfl⟩
          have HIX := Lib.hid hixx
          have HRM := Lib.hid hrm
          rw [← hixx] at hw2 hw5 r0 r1 HB0 hix
          rw [← hrm] at hw3 hw4 hw6 hw7 h8 hx
          have hsl : IntKind.u8.wrap (1 * 2 ^ min ((rm : Nat) : Int).toNat 8) = ((2 ^ rm : Nat) : Int) := by
            have e : min ((rm : Nat) : Int).toNat 8 = rm := by omega
            rw [e, Int.one_mul, IntKind.wrap_u8']
            have h2 : 2 ^ rm < 256 := Nat.pow_lt_pow_right (a := 2) (by omega) h8
            have h3 : ((2 : Int) ^ rm) = ((2 ^ rm : Nat) : Int) := by push_cast; rfl
            rw [h3]
            generalize 2 ^ rm = y at *
            omega
          have hx2 : bits .xor .u8 (b0.toNat : Int) ((2 : Int) ^ rm % 256) = ((b0 ^^^ bitU rm).toNat : Int) := by
            rw [← hx]
            have h2 : 2 ^ rm < 256 := Nat.pow_lt_pow_right (a := 2) (by omega) h8
            have h3 : ((2 : Int) ^ rm) = ((2 ^ rm : Nat) : Int) := by push_cast; rfl
            rw [h3]
            generalize 2 ^ rm = y at *
            congr 1
            omega
          have j0 : (0 : Int) ≤ (ix : Int) := by omega
          have j1 : (ix : Int) < (f'.data.size : Int) := by omega
          clear hixx hrm hix h8
          go_still_tail 22, (by kernel_rfl)
          change wpList _ _ _ _ _ wd.drew
          go_wp2_with fail
          go_roundw
          case rel => exact ⟨k + 1, by rw [rotT, HIT.out, Bool.true_or], by go_num, by have := HKX.out; omega, by
            have h1 := rowB_turn HRX.out.1 HIT.out (b0 := b0) (by rw [← HNK.out, ← HIX.out]; exact HB0.out)
            rw [← HNK.out, ← HIX.out, ← HRM.out] at h1
            intro j b hj
            exact h1 j b hj, HRX.out.2.trans ((Fr.setCell wd (by simp) _).trans (Fr.drew _ _))⟩
          case measure => simp [intOf]; have := HKX.out; omega
        · have HIT : Hid (hitB f'.safe A B k = false) := by
            show hitB _ _ _ _ = false
            unfold hitB
            rw [decide_eq_false hin, Bool.and_false]
          have hin' : ¬ (A : Int) ≤ 8 * (f'.safe : Int) - 1 - (k : Int) := by omega
          clear hbt hin hx0 hsh
          have hsh : (B : Int) / 2 ^ min ((k : Int)).toNat 32 = (B : Int) / 2 ^ k := by
            have e : min ((k : Int)).toNat 32 = k := by have := HKX.out; omega
            rw [e]
          go_wp2_with fail
          go_quiet (fail)
          have HRX : Hid (RowB (wr.drewN nq) yb (rotL f'.data.data.toList f'.safe A B (k + 1)) ∧ Fr [yb] w3 (wr.drewN nq)) := ⟨rowB_skip (fun j b hj => HRR.out.1 j b hj) HIT.out, HRR.out.2.trans (Fr.of_below (below_dN (Below.refl wr.heap.size wr) nq) _)⟩
          generalize wr.drewN nq = wd at *
          go_wp2_with fail
          go_roundw
          case rel => exact ⟨k + 1, by rw [rotT, HIT.out, Bool.false_or], by go_num, by have := HKX.out; omega, HRX.out⟩
          case measure => simp [intOf]; have := HKX.out; omega
    · have hlt' : ¬ (k : Int) < (32 : Int) := by omega
      obtain rfl : k = 32 := by omega
      have hrow := HRR.out.1
      have hcv := fun dst cap => @run_convert_bytes_back Try.prog wr.drew 35 dst 5 ⟨yb, 0, none⟩ cap (rotL f'.data.data.toList f'.safe A B 32) Try.underlying35 Try.underlying5
      have hcb : (convert 35 9 (.slice (some ⟨yb, 0, none⟩) (rotL f'.data.data.toList f'.safe A B 32).length gc)).run Try.prog wr.drew = .ok (.string ⟨(rotL f'.data.data.toList f'.safe A B 32).toArray⟩) wr.drew :=
        hcv 9 _ Try.underlying9 (fun j hj => by
          rw [Mem.add0]
          exact (hrow j _ (List.getElem?_eq_getElem hj)).1)
      rw [rotL_len, HLN.out] at hcb
      have y1 := hfz (k0 * 3 + 1)
      have FIN : Hid (MdDone base q fa w ((wr.setCell ⟨g', k0 * 3 + 1, none⟩ (.string ⟨(rotL f'.data.data.toList f'.safe A B 32).toArray⟩)).drew) { m with fs := updF c.name.data.toList (rotF A B) m.fs }) := by
        have h := HGR.out
        rw [HFA.out] at h
        have h2 := h.cell (f' := rotF A B f') HFM.out 1 (by omega) (.string ⟨(rotL f'.data.data.toList f'.safe A B 32).toArray⟩) rfl
        have e1 : updF c.name.data.toList (rotF A B) m.fs = m.fs.set k0 (rotF A B f') := by
          have := (findF_mem HFF.out).2
          rw [← this]; exact updF_set HUP.out HFM.out
        rw [e1]
        have h3 := (h2.below (Below.refl _ _).drew).done
        rw [← HFA.out] at h3
        exact h3
      clear hrow hcv hfz HRR HGR HBX u0 u2
      go_upto_region 12 with (fail)
      go_still_tail 9, (by kernel_rfl)
      change wpList _ _ _ _ _ wr.drew
      go_wp2_with fail
      go_ret
      rw [HR.out]
      exact ⟨rfl, FIN.out⟩
end Go.Proofs.Ytefpjdgfcgjbaaa

/- Where DiskPlays stands: a disk and a model side by side. -/
namespace Go.Proofs.Ytefpjdgfcgjbaaa
set_option linter.unusedVariables false
set_option linter.unusedSimpArgs false
open Go.RowKit
structure PlSt (w W : World) (p q : Nat) (s m : St) (fa : Option Addr) (fc : Nat) : Prop where
  dk : DkAt W p s
  md : MdAt w.heap.size W q m fa fc
  lo : ∀ g ∈ dks p s, w.heap.size ≤ g
  ap : ∀ g ∈ dks p s, g ∉ mks q fa
  bel : Below w.heap.size w W
section
variable {w W W' : World} {p q : Nat} {s s' m m' : St} {fa fa' : Option Addr} {fc fc' : Nat}
theorem PlSt.below (h : PlSt w W p q s m fa fc) (b : Below W.heap.size W W') : PlSt w W' p q s m fa fc := ⟨h.dk.below b, h.md.below b, h.lo, h.ap, h.bel.trans (b.mono h.bel.size)⟩
theorem PlSt.disk (h : PlSt w W p q s m fa fc) (hd : DkAt W' p s') (hs : DkStep p s s' W W') : PlSt w W' p q s' m fa fc := by
  refine ⟨hd, h.md.fr hs.fr h.ap, fun g hg => ?_, fun g hg => ?_, h.bel.trans (hs.fr.below h.bel.size h.lo)⟩
  · rcases hs.own g hg with h1 | h1
    · exact h.lo g h1
    · exact Nat.le_trans h.bel.size h1
  · rcases hs.own g hg with h1 | h1
    · exact h.ap g h1
    · intro hm
      have := (h.md.own g hm).2
      omega
theorem PlSt.model (h : PlSt w W p q s m fa fc) (k : MdDone w.heap.size q fa W W' m') : ∃ fa' fc', PlSt w W' p q s m' fa' fc' := by
  obtain ⟨fa', fc', k1, k2⟩ := k
  refine ⟨fa', fc', h.dk.fr k2.fr (fun g hg hm => h.ap g hm hg), k1, h.lo, fun g hg hm => ?_, h.bel.trans (k2.fr.below h.bel.size (fun g hg => (h.md.own g hg).1))⟩
  rcases k2.own g hm with h1 | h1
  · exact h.ap g hg h1
  · have := h.dk.lt g hg
    omega
/-- An act among those that came in, at a later world. -/
theorem PlSt.act {l : List Ac} {a : Option Addr} {len cap : Nat} (h : PlSt w W p q s m fa fc) (hA : SlR acK w [] l a len cap) : SlR acK W (dks p s ++ mks q fa) l a len cap := by
  have h1 : SlR acK w (dks p s ++ mks q fa) l a len cap := hA.less (fun b hb hm => by
    rcases List.mem_append.1 hm with hm | hm
    · have := h.lo b hm; omega
    · have := (h.md.own b hm).1; omega)
  exact h1.kept (Kept.of_below h.bel _)
theorem AcOk.less {X X' : List Nat} {c : Ac} (h : AcOk w X c) (hX : ∀ b ∈ X', b ∈ X) : AcOk w X' c := ⟨h.name, h.to_, h.data, h.kind, h.n, h.bits, h.keep.less (fun b _ hm => hX b hm)⟩
theorem AcOk.one {X : List Nat} {c : Ac} (h : AcOk w X c) (h1 : bigA c = false) : c.data.size ≤ 300 := by
  unfold bigA at h1
  simp only [Bool.or_eq_false_iff, decide_eq_false_iff_not] at h1
  omega
/-- A model of its own, at the start. -/
theorem PlSt.start {w0 w1 : World} {room : Int} {mb : Nat} (h0 : Below w0.heap.size w0 w1) (hd : DkAt w1 p (newS room mb)) (hlo : ∀ g ∈ dks p (newS room mb), w0.heap.size ≤ g) :
    PlSt w0 (w1.alloc (.cells (mdC (newS room mb) (.slice none 0 0)) 49)) p w1.heap.size (newS room mb) (newS room mb) none 0 := by
  have hal := (Below.refl w1.heap.size w1).alloc (Nat.le_refl _) (.cells (mdC (newS room mb) (.slice none 0 0)) 49)
  refine ⟨hd.below hal, ⟨Mem.Blk.new w1 49 _, World.ownsRow_nil _ _ _ _, h0.size⟩, hlo, fun g hg hm => ?_, h0.trans (hal.mono h0.size)⟩
  have := hd.lt g hg
  simp only [mks, Option.map_none, Option.toList_none, List.mem_singleton] at hm
  omega
theorem Bud.start (room : Int) (mb : Nat) : Bud (newS room mb) 0 := ⟨by show (0 : Int) ≤ _; omega, by show (0 : Int) ≤ _; omega, by show 0 ≤ 0; omega, by show 0 ≤ 0; omega⟩
end
end Go.Proofs.Ytefpjdgfcgjbaaa

/- The walk of DiskPlays. -/
namespace Go.Proofs.Ytefpjdgfcgjbaaa
set_option linter.unusedVariables false
set_option linter.unusedSimpArgs false
open Go.RowKit
theorem great_at {l : List Ac} (h : greatA l = false) {k : Nat} {c : Ac} (hc : l[k]? = some c) : bigA c = false := by
  unfold greatA at h
  rw [Bool.or_eq_false_iff] at h
  cases hb : bigA c with
  | false => rfl
  | true => exact absurd (List.any_eq_true.2 ⟨c, List.mem_of_getElem? hc, hb⟩) (by rw [h.2]; simp)
theorem great_len {l : List Ac} (h : greatA l = false) : l.length ≤ 60 := by
  unfold greatA at h
  rw [Bool.or_eq_false_iff, decide_eq_false_iff_not] at h
  omega
set_option maxRecDepth 100000 in
set_option maxHeartbeats 8000000 in
theorem diskPlays_any (room : Int) (a : Option Addr) (len cap : Nat) (l : List Ac) (w : World) (hroom : (Lit.int .i64 room).wf = true) (hA : SlR acK w [] l a len cap) :
    Calls Try.prog 7 #[.int .i64 room, .slice a len cap] w fun x w' => x = .returned (.bool true) ∧ Below w.heap.size w w' := by
  have HA := Lib.hid hA
  have HL := Lib.hid hA.facts.1
  have HG := Lib.hid (great05_any l a len cap w hA)
  clear hA
  cases hbig : greatA l with
  | true =>
    rw [hbig] at HG
    clear hbig
    go_enter Try.func7, Try.ntmps7
    go_wp2_with fail
    go_at_call 22
    (with_reducible refine HG.out.mono ?_)
    rintro x w2 ⟨rfl, hw2⟩
    rw [hw2]; clear hw2
    go_wp2_with fail
    go_at_call 9
    (with_reducible refine (awake05_any _).mono ?_)
    rintro x w9 ⟨rfl, b9⟩
    have HB9 := Lib.hid b9
    clear b9
    go_wp2_with fail
    go_ret
    exact ⟨rfl, HB9.out⟩
  | false =>
    rw [hbig] at HG
    have HBG := Lib.hid hbig
    have HLN := Lib.hid (great_len hbig)
    clear hbig
    go_enter Try.func7, Try.ntmps7
    go_wp2_with fail
    go_at_call 22
    (with_reducible refine HG.out.mono ?_)
    rintro x w2 ⟨rfl, hw2⟩
    rw [hw2]; clear hw2
    go_wp2_with fail
    go_at_call 9
    (with_reducible refine (awake05_any _).mono ?_)
    rintro x w3 ⟨rfl, b3⟩
    have HB3 := Lib.hid b3
    clear b3 HG
    by_cases hr : 0 ≤ room ∧ room ≤ 16777216
    rotate_left
    · have HN := Lib.hid (new_none room w3 hr)
      by_cases h0 : room < 0
      · clear hr
        go_wp2_with fail
        go_at_call 10
        (with_reducible refine HN.out.mono ?_)
        rintro x w4 ⟨rfl, hw4⟩
        rw [hw4]; clear hw4
        go_wp2_with fail
        go_ret
        exact ⟨rfl, HB3.out⟩
      · have h1 : (16777216 : Int) < room := by omega
        clear hr
        go_wp2_with fail
        go_at_call 10
        (with_reducible refine HN.out.mono ?_)
        rintro x w4 ⟨rfl, hw4⟩
        rw [hw4]; clear hw4
        go_wp2_with fail
        go_ret
        exact ⟨rfl, HB3.out⟩
    have HN := Lib.hid (new_any room w3 hr)
    have h0 : ¬ room < 0 := by omega
    have h1 : ¬ (16777216 : Int) < room := by omega
    clear hr hroom
    go_wp2_with fail
    go_at_call 10
    (with_reducible refine HN.out.mono ?_)
    rintro x w4 ⟨p, mb, rfl, hd, hlo, hb⟩
    have hlo' : ∀ g ∈ dks p (newS room mb), w.heap.size ≤ g := fun g hg => Nat.le_trans HB3.out.size (hlo g hg)
    have HB4 := Lib.hid (HB3.out.trans (hb.mono HB3.out.size))
    have HPS := Lib.hid (PlSt.start HB4.out hd hlo')
    have HBU := Lib.hid (Bud.start room mb)
    clear hd hlo hlo' hb HN HB3
    go_upto_region 7 with (fail)
    have HP5 : Hid (PlSt w (w4.alloc (.cells #[.int .i64 room, .slice none 0 0, .bool false, .bool false, .int .i64 0, .int .i64 0, .int .i64 0] 49)) p w4.heap.size (newS room mb) (newS room mb) none 0) := HPS.out
    clear HPS HB4 h0 h1
    generalize newS room mb = s0 at *
    obtain ⟨q, hq⟩ : ∃ q, q = w4.heap.size := ⟨_, rfl⟩
    rw [← hq] at HP5 ⊢
    clear hq
    generalize w4.alloc (.cells #[.int .i64 room, .slice none 0 0, .bool false, .bool false, .int .i64 0, .int .i64 0, .int .i64 0] 49) = w5 at *
    go_wp2_with fail
    go_loopw [7] (fun i wr => ∃ (k : Nat) (s : St) (fa : Option Addr) (fc : Nat), i = .int .i64 (k : Nat) ∧ k ≤ len ∧ Hid (PlSt w wr p q s s fa fc ∧ Bud s k)) (fun i _ => len - (intOf i).toNat)
    case atStart => exact ⟨0, s0, none, 0, rfl, Nat.zero_le _, HP5.out, HBU.out⟩
    case round =>
      obtain ⟨k, s, fa, fc, rfl, hk, HR⟩ := hrel
      by_cases hlt : k < len
      · have hlt' : (k : Int) < (len : Int) := by omega
        have i0 : (0 : Int) ≤ (k : Int) := by omega
        have i1 : (k : Int) ≤ 60 := by have := HLN.out; have := HL.out; omega
        have HKX := Lib.hid hlt
        have HKY : Hid (k ≤ 60) := by show k ≤ 60; omega
        have HA2 := Lib.hid (HR.out.1.act HA.out)
        obtain ⟨lb, lo, c, rfl, hc, hok, q0, q1, q2, q3, q4, q5, q6⟩ := ac_at HA2.out k hlt
        have HC := Lib.hid hc
        have HOK := Lib.hid hok
        have HD3 := Lib.hid (hok.one (great_at HBG.out hc))
        have HDO : Hid (Calls Try.prog 23 #[.pointer (some ⟨p, 0, none⟩), .agg #[.int .i64 c.kind, .string c.name, .string c.to_, .string c.data, .int .i64 c.n, .int .u32 c.bits, .slice c.ka c.kl c.kc]] wr _) := do_any p s c k wr HR.out.1.dk (hok.less (fun b hb => List.mem_append.2 (.inl hb))) HD3.out HR.out.2 (by omega)
        clear hc hok hlt
        go_wp2_with fail
        go_at_call 23
        (with_reducible refine HDO.out.mono ?_)
        rintro x w6 ⟨b, rfl, hd, hs⟩
        have HP6 := Lib.hid (HR.out.1.disk hd hs)
        have HB6 := Lib.hid (HR.out.2.do (b := b) HD3.out)
        clear hd hs HDO q0 q1 q2 q3 q4 q5 q6 HOK HA2
        have HA3 := Lib.hid (HP6.out.act HA.out)
        obtain ⟨lb', lo', c', hla, hc, hok, q0, q1, q2, q3, q4, q5, q6⟩ := ac_at HA3.out k HKX.out
        obtain rfl : c' = c := by rw [HC.out] at hc; injection hc with hc; exact hc.symm
        obtain ⟨rfl, rfl⟩ : lb' = lb ∧ lo' = lo := by
          injection hla with hla; injection hla with e1 e2; exact ⟨e1.symm, e2.symm⟩
        have HOK := Lib.hid hok
        clear hla hc hok
        have HMC : Hid (s.calls ≤ 4611686018427387904 ∧ s.written ≤ 4611686018427387904) := by
          have h1 := HR.out.2.calls
          have h2 := HR.out.2.written
          have h3 := HKY.out
          exact ⟨by omega, by omega⟩
        have HML : Hid (s.fs.length ≤ 1000) := by
          have h1 := HR.out.2.len
          have h3 := HKY.out
          show _ ≤ _
          omega
        have HSK := Lib.hid HR.out.1.dk.ok
        clear HR
        by_cases k0 : c'.kind = 0
        · have HK := Lib.hid k0
          have HE : Hid (doS b s c' = ((⟨#[]⟩, false, (actS b s c'.kind c'.name.data.toList c'.to_.data.toList c'.data).1), (actS b s c'.kind c'.name.data.toList c'.to_.data.toList c'.data).2)) := doS_low (by omega)
          have HDS : Hid (Calls Try.prog 24 #[.pointer (some ⟨q, 0, none⟩), .agg #[.int .i64 c'.kind, .string c'.name, .string c'.to_, .string c'.data, .int .i64 c'.n, .int .u32 c'.bits, .slice c'.ka c'.kl c'.kc]] w6 _) := does_any w.heap.size q s fa fc c' b w6 HP6.out.md HSK.out HML.out (by have := HD3.out; omega) HOK.out.kind HMC.out
          clear k0
          rw [HE.out] at HP6 HB6 ⊢
          rw [HK.out] at q0 HDS HP6 HB6 ⊢
          generalize actS b s 0 c'.name.data.toList c'.to_.data.toList c'.data = rs at *
          go_wp2_with fail
          go_at_call 24
          (with_reducible refine HDS.out.mono ?_)
          rintro x w7 ⟨rfl, hm⟩
          obtain ⟨fa2, fc2, h7⟩ := HP6.out.model hm
          have HP7 := Lib.hid h7
          clear h7 hm HDS q0 q1 q2 q3 q4 q5 q6 HP6
          have HSM := Lib.hid (same_any p w.heap.size q rs.2 fa2 fc2 w7 HP7.out.dk HP7.out.md (by have h1 := HB6.out.len; have h2 := HKY.out; exact Nat.le_trans h1 (by omega)))
          go_wp2_with fail
          go_at_call 28
          (with_reducible refine HSM.out.mono ?_)
          rintro x w8 ⟨rfl, b8⟩
          have HP8 := Lib.hid (HP7.out.below b8)
          clear b8 HSM HP7
          go_wp2_with fail
          go_roundw
          case rel => exact ⟨k + 1, rs.2, fa2, fc2, by go_num, by have := HKX.out; omega, HP8.out, HB6.out⟩
          case measure => simp [intOf]; have := HKX.out; omega
        by_cases k1 : c'.kind = 1
        · have HK := Lib.hid k1
          have HE : Hid (doS b s c' = ((⟨#[]⟩, false, (actS b s c'.kind c'.name.data.toList c'.to_.data.toList c'.data).1), (actS b s c'.kind c'.name.data.toList c'.to_.data.toList c'.data).2)) := doS_low (by omega)
          have HDS : Hid (Calls Try.prog 24 #[.pointer (some ⟨q, 0, none⟩), .agg #[.int .i64 c'.kind, .string c'.name, .string c'.to_, .string c'.data, .int .i64 c'.n, .int .u32 c'.bits, .slice c'.ka c'.kl c'.kc]] w6 _) := does_any w.heap.size q s fa fc c' b w6 HP6.out.md HSK.out HML.out (by have := HD3.out; omega) HOK.out.kind HMC.out
          clear k1
          rw [HE.out] at HP6 HB6 ⊢
          rw [HK.out] at q0 HDS HP6 HB6 ⊢
          generalize actS b s 1 c'.name.data.toList c'.to_.data.toList c'.data = rs at *
          go_wp2_with fail
          go_at_call 24
          (with_reducible refine HDS.out.mono ?_)
          rintro x w7 ⟨rfl, hm⟩
          obtain ⟨fa2, fc2, h7⟩ := HP6.out.model hm
          have HP7 := Lib.hid h7
          clear h7 hm HDS q0 q1 q2 q3 q4 q5 q6 HP6
          have HSM := Lib.hid (same_any p w.heap.size q rs.2 fa2 fc2 w7 HP7.out.dk HP7.out.md (by have h1 := HB6.out.len; have h2 := HKY.out; exact Nat.le_trans h1 (by omega)))
          go_wp2_with fail
          go_at_call 28
          (with_reducible refine HSM.out.mono ?_)
          rintro x w8 ⟨rfl, b8⟩
          have HP8 := Lib.hid (HP7.out.below b8)
          clear b8 HSM HP7
          go_wp2_with fail
          go_roundw
          case rel => exact ⟨k + 1, rs.2, fa2, fc2, by go_num, by have := HKX.out; omega, HP8.out, HB6.out⟩
          case measure => simp [intOf]; have := HKX.out; omega
        by_cases k2 : c'.kind = 2
        · have HK := Lib.hid k2
          have HE : Hid (doS b s c' = ((⟨#[]⟩, false, (actS b s c'.kind c'.name.data.toList c'.to_.data.toList c'.data).1), (actS b s c'.kind c'.name.data.toList c'.to_.data.toList c'.data).2)) := doS_low (by omega)
          have HDS : Hid (Calls Try.prog 24 #[.pointer (some ⟨q, 0, none⟩), .agg #[.int .i64 c'.kind, .string c'.name, .string c'.to_, .string c'.data, .int .i64 c'.n, .int .u32 c'.bits, .slice c'.ka c'.kl c'.kc]] w6 _) := does_any w.heap.size q s fa fc c' b w6 HP6.out.md HSK.out HML.out (by have := HD3.out; omega) HOK.out.kind HMC.out
          clear k2
          rw [HE.out] at HP6 HB6 ⊢
          rw [HK.out] at q0 HDS HP6 HB6 ⊢
          generalize actS b s 2 c'.name.data.toList c'.to_.data.toList c'.data = rs at *
          go_wp2_with fail
          go_at_call 24
          (with_reducible refine HDS.out.mono ?_)
          rintro x w7 ⟨rfl, hm⟩
          obtain ⟨fa2, fc2, h7⟩ := HP6.out.model hm
          have HP7 := Lib.hid h7
          clear h7 hm HDS q0 q1 q2 q3 q4 q5 q6 HP6
          have HSM := Lib.hid (same_any p w.heap.size q rs.2 fa2 fc2 w7 HP7.out.dk HP7.out.md (by have h1 := HB6.out.len; have h2 := HKY.out; exact Nat.le_trans h1 (by omega)))
          go_wp2_with fail
          go_at_call 28
          (with_reducible refine HSM.out.mono ?_)
          rintro x w8 ⟨rfl, b8⟩
          have HP8 := Lib.hid (HP7.out.below b8)
          clear b8 HSM HP7
          go_wp2_with fail
          go_roundw
          case rel => exact ⟨k + 1, rs.2, fa2, fc2, by go_num, by have := HKX.out; omega, HP8.out, HB6.out⟩
          case measure => simp [intOf]; have := HKX.out; omega
        by_cases k3 : c'.kind = 3
        · have HK := Lib.hid k3
          have HE : Hid (doS b s c' = ((⟨#[]⟩, false, (actS b s c'.kind c'.name.data.toList c'.to_.data.toList c'.data).1), (actS b s c'.kind c'.name.data.toList c'.to_.data.toList c'.data).2)) := doS_low (by omega)
          have HDS : Hid (Calls Try.prog 24 #[.pointer (some ⟨q, 0, none⟩), .agg #[.int .i64 c'.kind, .string c'.name, .string c'.to_, .string c'.data, .int .i64 c'.n, .int .u32 c'.bits, .slice c'.ka c'.kl c'.kc]] w6 _) := does_any w.heap.size q s fa fc c' b w6 HP6.out.md HSK.out HML.out (by have := HD3.out; omega) HOK.out.kind HMC.out
          clear k3
          rw [HE.out] at HP6 HB6 ⊢
          rw [HK.out] at q0 HDS HP6 HB6 ⊢
          generalize actS b s 3 c'.name.data.toList c'.to_.data.toList c'.data = rs at *
          go_wp2_with fail
          go_at_call 24
          (with_reducible refine HDS.out.mono ?_)
          rintro x w7 ⟨rfl, hm⟩
          obtain ⟨fa2, fc2, h7⟩ := HP6.out.model hm
          have HP7 := Lib.hid h7
          clear h7 hm HDS q0 q1 q2 q3 q4 q5 q6 HP6
          have HSM := Lib.hid (same_any p w.heap.size q rs.2 fa2 fc2 w7 HP7.out.dk HP7.out.md (by have h1 := HB6.out.len; have h2 := HKY.out; exact Nat.le_trans h1 (by omega)))
          go_wp2_with fail
          go_at_call 28
          (with_reducible refine HSM.out.mono ?_)
          rintro x w8 ⟨rfl, b8⟩
          have HP8 := Lib.hid (HP7.out.below b8)
          clear b8 HSM HP7
          go_wp2_with fail
          go_roundw
          case rel => exact ⟨k + 1, rs.2, fa2, fc2, by go_num, by have := HKX.out; omega, HP8.out, HB6.out⟩
          case measure => simp [intOf]; have := HKX.out; omega
        by_cases k4 : c'.kind = 4
        · have HE : Hid (doS b s c' = (((readS s c'.name.data.toList).1, false, (readS s c'.name.data.toList).2), s)) := doS4 k4
          have HK := Lib.hid k4
          clear k4
          rw [HE.out] at HP6 HB6 ⊢
          rw [HK.out] at q0
          have c2 : w6.cell? ⟨q, 2, none⟩ = some (.bool s.off) := (md7 HP6.out.md.ptr).2.2.1
          have HFI := Lib.hid (find_any w.heap.size q s fa fc c'.name w6 HP6.out.md HML.out)
          cases ho : s.off with
          | true =>
            have HRD : Hid (readS s c'.name.data.toList = (⟨#[]⟩, 6)) := by
              show readS _ _ = _
              unfold readS
              rw [ho]; rfl
            rw [ho] at c2
            clear ho
            rw [HRD.out]
            go_wp2_with fail
            go_at_call 25
            (with_reducible refine HFI.out.mono ?_)
            rintro x w7 ⟨⟨i, rfl, hi⟩, hw7⟩
            rw [hw7]
            clear hw7 HFI w7
            clear hi
            obtain ⟨w7, hw7⟩ : ∃ W, W = w6 := ⟨_, rfl⟩
            obtain ⟨fa2, hfa2⟩ : ∃ x, x = fa := ⟨_, rfl⟩
            obtain ⟨fc2, hfc2⟩ : ∃ x, x = fc := ⟨_, rfl⟩
            have HP7 : Hid (PlSt w w7 p q s s fa2 fc2) := by rw [hw7, hfa2, hfc2]; exact HP6
            rw [← hw7] at c2 ⊢
            try (rw [← hw7] at c1 u1)
            clear hw7 hfa2 hfc2 HP6
            have HSM := Lib.hid (same_any p w.heap.size q s fa2 fc2 w7 HP7.out.dk HP7.out.md (by have h1 := HB6.out.len; have h2 := HKY.out; exact Nat.le_trans h1 (by omega)))
            go_wp2_with fail
            go_at_call 28
            (with_reducible refine HSM.out.mono ?_)
            rintro x w8 ⟨rfl, b8⟩
            have HP8 := Lib.hid (HP7.out.below b8)
            clear b8 HSM HP7
            go_wp2_with fail
            go_roundw
            case rel => exact ⟨k + 1, s, fa2, fc2, by go_num, by have := HKX.out; omega, HP8.out, HB6.out⟩
            case measure => simp [intOf]; have := HKX.out; omega
          | false =>
            cases hf : findF s.fs c'.name.data.toList with
            | none =>
              have HRD : Hid (readS s c'.name.data.toList = (⟨#[]⟩, 7)) := by
                show readS _ _ = _
                unfold readS
                rw [ho, hf]; rfl
              rw [ho] at c2
              have HF := Lib.hid hf
              clear ho hf
              rw [HRD.out]
              go_wp2_with fail
              go_at_call 25
              (with_reducible refine HFI.out.mono ?_)
              rintro x w7 ⟨⟨i, rfl, hi⟩, hw7⟩
              rw [hw7]
              clear hw7 HFI w7
              rcases hi with ⟨k0, f, rfl, hk1, hk2⟩ | ⟨rfl, hk2⟩
              · rw [HF.out] at hk2; cases hk2
              clear hk2
              obtain ⟨w7, hw7⟩ : ∃ W, W = w6 := ⟨_, rfl⟩
              obtain ⟨fa2, hfa2⟩ : ∃ x, x = fa := ⟨_, rfl⟩
              obtain ⟨fc2, hfc2⟩ : ∃ x, x = fc := ⟨_, rfl⟩
              have HP7 : Hid (PlSt w w7 p q s s fa2 fc2) := by rw [hw7, hfa2, hfc2]; exact HP6
              rw [← hw7] at c2 ⊢
              try (rw [← hw7] at c1 u1)
              clear hw7 hfa2 hfc2 HP6
              have HSM := Lib.hid (same_any p w.heap.size q s fa2 fc2 w7 HP7.out.dk HP7.out.md (by have h1 := HB6.out.len; have h2 := HKY.out; exact Nat.le_trans h1 (by omega)))
              go_wp2_with fail
              go_at_call 28
              (with_reducible refine HSM.out.mono ?_)
              rintro x w8 ⟨rfl, b8⟩
              have HP8 := Lib.hid (HP7.out.below b8)
              clear b8 HSM HP7
              go_wp2_with fail
              go_roundw
              case rel => exact ⟨k + 1, s, fa2, fc2, by go_num, by have := HKX.out; omega, HP8.out, HB6.out⟩
              case measure => simp [intOf]; have := HKX.out; omega
            | some f =>
              have HRD : Hid (readS s c'.name.data.toList = (f.data, 0)) := by
                show readS _ _ = _
                unfold readS
                rw [ho, hf]; rfl
              rw [ho] at c2
              have HF := Lib.hid hf
              clear ho hf
              rw [HRD.out]
              go_wp2_with fail
              go_at_call 25
              (with_reducible refine HFI.out.mono ?_)
              rintro x w7 ⟨⟨i, rfl, hi⟩, hw7⟩
              rw [hw7]
              clear hw7 HFI w7
              rcases hi with ⟨k0, f2, rfl, hk1, hk2⟩ | ⟨rfl, hk2⟩
              rotate_left
              · rw [HF.out] at hk2; cases hk2
              obtain rfl : f2 = f := by rw [HF.out] at hk2; injection hk2 with hk2; exact hk2.symm
              have c1 : w6.cell? ⟨q, 1, none⟩ = some (.slice fa s.fs.length fc) := (md7 HP6.out.md.ptr).2.1
              have hkl : k0 < s.fs.length := (List.getElem?_eq_some_iff.1 hk1).1
              obtain ⟨g, f3, hfa, hf3, u0, u1, u2, -⟩ := HP6.out.md.at k0 hkl
              obtain rfl : f3 = f2 := by rw [hk1] at hf3; injection hf3 with hf3; exact hf3.symm
              rw [hfa] at c1
              have i00 : (0 : Int) ≤ (k0 : Int) := by omega
              have i01 : (k0 : Int) ≤ 1000 := by have := HML.out; omega
              have i02 : (k0 : Int) < (s.fs.length : Int) := by omega
              clear hk1 hk2 hf3 hkl hfa
              obtain ⟨w7, hw7⟩ : ∃ W, W = w6 := ⟨_, rfl⟩
              obtain ⟨fa2, hfa2⟩ : ∃ x, x = fa := ⟨_, rfl⟩
              obtain ⟨fc2, hfc2⟩ : ∃ x, x = fc := ⟨_, rfl⟩
              have HP7 : Hid (PlSt w w7 p q s s fa2 fc2) := by rw [hw7, hfa2, hfc2]; exact HP6
              rw [← hw7] at c2 ⊢
              try (rw [← hw7] at c1 u1)
              clear hw7 hfa2 hfc2 HP6
              have HSM := Lib.hid (same_any p w.heap.size q s fa2 fc2 w7 HP7.out.dk HP7.out.md (by have h1 := HB6.out.len; have h2 := HKY.out; exact Nat.le_trans h1 (by omega)))
              go_wp2_with fail
              go_at_call 28
              (with_reducible refine HSM.out.mono ?_)
              rintro x w8 ⟨rfl, b8⟩
              have HP8 := Lib.hid (HP7.out.below b8)
              clear b8 HSM HP7
              go_wp2_with fail
              go_roundw
              case rel => exact ⟨k + 1, s, fa2, fc2, by go_num, by have := HKX.out; omega, HP8.out, HB6.out⟩
              case measure => simp [intOf]; have := HKX.out; omega
        by_cases k5 : c'.kind = 5
        · have HE : Hid (doS b s c' = ((⟨#[]⟩, false, 0), armS s c'.n)) := doS5 k5
          have HK := Lib.hid k5
          clear k5
          rw [HE.out] at HP6 HB6 ⊢
          rw [HK.out] at q0
          have f3 := HP6.out.md.ptr.frozen 3
          have f4 := HP6.out.md.ptr.frozen 4
          obtain ⟨c0, c1, c2, c3, c4, c5, c6⟩ := md7 HP6.out.md.ptr
          have HM : Hid (∀ n, n = (if 0 ≤ c'.n then c'.n else 0) → MdDone w.heap.size q fa w6 ((w6.setCell ⟨q, 3, none⟩ (.bool true)).setCell ⟨q, 4, none⟩ (.int .i64 n)) (armS s c'.n)) := by
            intro n hn
            have h1 := ((MdGo.start HP6.out.md).turn 3 (.bool true) { s with armed := true } rfl (fun v => rfl)).turn 4 (.int .i64 n) { s with armed := true, left := n } rfl (fun v => rfl)
            exact h1.done.like rfl ⟨rfl, rfl, rfl, hn.symm, rfl, rfl⟩
          have q4' : (w6.setCell ⟨q, 3, none⟩ (.bool true)).cell? ⟨lb', lo' + k * 7 + 4, none⟩ = some (.int .i64 c'.n) := by
            have h1 : (lb' : Nat) ≠ q := by
              intro e
              have h2 := HP6.out.md.ptr
              have h3 := (HA.out.kept (Kept.of_below HP6.out.bel [])).at k HKX.out
              obtain ⟨b', o', x', cs', e1, e2, e3, -⟩ := h3
              have h4 := (HP6.out.md.own q (List.mem_cons_self ..)).1
              have h5 := HA.out.at k HKX.out
              obtain ⟨b2, o2, x2, cs2, e4, e5, -⟩ := h5
              injection e4 with e4; injection e4 with e4
              omega
            rw [World.cell?_setCell_other (h := show (⟨q, 3, none⟩ : Addr) ≠ ⟨lb', lo' + k * 7 + 4, none⟩ from by intro h; injection h with h2 _; exact h1 h2.symm)]
            exact q4
          obtain ⟨fa2, fc2, h7⟩ := HP6.out.model (HM.out (max c'.n 0) (by split <;> omega))
          have HP7 := Lib.hid h7
          clear h7 HM HP6 c0 c1 c2 c5 c6 q1 q2 q3 q5 q6
          go_wp2_with fail
          generalize (w6.setCell ⟨q, 3, none⟩ (.bool true)).setCell ⟨q, 4, none⟩ (.int .i64 (max c'.n 0)) = w7 at *
          have HSM := Lib.hid (same_any p w.heap.size q (armS s c'.n) fa2 fc2 w7 HP7.out.dk HP7.out.md (by have h1 := HB6.out.len; have h2 := HKY.out; exact Nat.le_trans h1 (by omega)))
          go_at_call 28
          (with_reducible refine HSM.out.mono ?_)
          rintro x w8 ⟨rfl, b8⟩
          have HP8 := Lib.hid (HP7.out.below b8)
          clear b8 HSM HP7
          go_wp2_with fail
          go_roundw
          case rel => exact ⟨k + 1, (armS s c'.n), fa2, fc2, by go_num, by have := HKX.out; omega, HP8.out, HB6.out⟩
          case measure => simp [intOf]; have := HKX.out; omega
        by_cases k6 : c'.kind = 6
        · have HE : Hid (doS b s c' = ((⟨#[]⟩, false, 0), crashS s c'.keep)) := doS6 k6
          have HK := Lib.hid k6
          clear k6
          rw [HE.out] at HP6 HB6 ⊢
          rw [HK.out] at q0
          have HCR := Lib.hid (mcrash_any w.heap.size q s fa fc c'.keep c'.ka c'.kl c'.kc w6 HP6.out.md (HOK.out.keep.less (fun b _ hb => List.mem_append.2 (.inr hb))) HML.out HSK.out.siz)
          go_wp2_with fail
          go_at_call 26
          (with_reducible refine HCR.out.mono ?_)
          rintro x w7 ⟨rfl, hm⟩
          obtain ⟨fa2, fc2, h7⟩ := HP6.out.model hm
          have HP7 := Lib.hid h7
          clear h7 hm HCR q0 q1 q2 q3 q4 q5 q6 HP6
          have HSM := Lib.hid (same_any p w.heap.size q (crashS s c'.keep) fa2 fc2 w7 HP7.out.dk HP7.out.md (by have h1 := HB6.out.len; have h2 := HKY.out; exact Nat.le_trans h1 (by omega)))
          go_wp2_with fail
          go_at_call 28
          (with_reducible refine HSM.out.mono ?_)
          rintro x w8 ⟨rfl, b8⟩
          have HP8 := Lib.hid (HP7.out.below b8)
          clear b8 HSM HP7
          go_wp2_with fail
          go_roundw
          case rel => exact ⟨k + 1, (crashS s c'.keep), fa2, fc2, by go_num, by have := HKX.out; omega, HP8.out, HB6.out⟩
          case measure => simp [intOf]; have := HKX.out; omega
        have HE : Hid (doS b s c' = ((⟨#[]⟩, (rotS s c'.name.data.toList c'.n c'.bits.toNat).1, 0), (rotS s c'.name.data.toList c'.n c'.bits.toNat).2)) := doS7 (by omega)
        have e0 : (c'.kind == 0) = false := beq_eq_false_iff_ne.2 k0
        have e1 : (c'.kind == 1) = false := beq_eq_false_iff_ne.2 k1
        have e2 : (c'.kind == 2) = false := beq_eq_false_iff_ne.2 k2
        have e3 : (c'.kind == 3) = false := beq_eq_false_iff_ne.2 k3
        have e4 : (c'.kind == 4) = false := beq_eq_false_iff_ne.2 k4
        have e5 : (c'.kind == 5) = false := beq_eq_false_iff_ne.2 k5
        have e6 : (c'.kind == 6) = false := beq_eq_false_iff_ne.2 k6
        clear k0 k1 k2 k3 k4 k5 k6
        rw [HE.out] at HP6 HB6 ⊢
        have HRT : Hid (Calls Try.prog 27 #[.pointer (some ⟨q, 0, none⟩), .agg #[.int .i64 c'.kind, .string c'.name, .string c'.to_, .string c'.data, .int .i64 c'.n, .int .u32 c'.bits, .slice c'.ka c'.kl c'.kc]] w6 _) := mrot_any w.heap.size q s fa fc c' w6 HP6.out.md HML.out HSK.out.up HSK.out.siz HOK.out.n HOK.out.bits
        generalize rotS s c'.name.data.toList c'.n c'.bits.toNat = rs at *
        go_wp2_with fail
        go_at_call 27
        (with_reducible refine HRT.out.mono ?_)
        rintro x w7 ⟨rfl, hm⟩
        obtain ⟨fa2, fc2, h7⟩ := HP6.out.model hm
        have HP7 := Lib.hid h7
        clear h7 hm HRT q0 q1 q2 q3 q4 q5 q6 HP6 e0 e1 e2 e3 e4 e5 e6
        have HSM := Lib.hid (same_any p w.heap.size q rs.2 fa2 fc2 w7 HP7.out.dk HP7.out.md (by have h1 := HB6.out.len; have h2 := HKY.out; exact Nat.le_trans h1 (by omega)))
        go_wp2_with fail
        go_at_call 28
        (with_reducible refine HSM.out.mono ?_)
        rintro x w8 ⟨rfl, b8⟩
        have HP8 := Lib.hid (HP7.out.below b8)
        clear b8 HSM HP7
        go_wp2_with fail
        go_roundw
        case rel => exact ⟨k + 1, rs.2, fa2, fc2, by go_num, by have := HKX.out; omega, HP8.out, HB6.out⟩
        case measure => simp [intOf]; have := HKX.out; omega
      · have hlt' : ¬ (k : Int) < (len : Int) := by omega
        have HB9 := Lib.hid HR.out.1.bel
        clear HR
        go_wp2_with fail
        go_ret
        exact ⟨rfl, HB9.out⟩
end Go.Proofs.Ytefpjdgfcgjbaaa

/- Build: its nodes and numbers; plain. -/
namespace Go.Proofs.Ytefpjdgfcgjbaaa
set_option linter.unusedVariables false
set_option linter.unusedSimpArgs false
open Go.RowKit
theorem cell_lt {w : World} {a : Addr} {v : Value} (h : w.cell? a = some v) : a.block < w.heap.size := by
  rcases Nat.lt_or_ge a.block w.heap.size with h1 | h1
  · exact h1
  · have : w.heap[a.block]? = none := Array.getElem?_eq_none h1
    simp [World.cell?, this] at h
/-- What was there is there behind what only makes memory. -/
theorem cell_up {w w' : World} {p : Addr} {v : Value} (h : w.cell? p = some v) (hb : Below w.heap.size w w') : w'.cell? p = some v := (hb.cell (cell_lt h)).trans h
theorem below_new (w : World) (o : Obj) : Below w.heap.size w (w.alloc o).drew := ((Below.refl w.heap.size w).alloc (Nat.le_refl _) o).drew
def ndI (n : Nat) : Int := if n < 1000 then (n : Int) else 1000
def rkI (n r : Nat) : Int := if n < 1000 then (r : Int) else 1000
theorem ndI_bd (n : Nat) : 0 ≤ ndI n ∧ ndI n ≤ 1000 := by unfold ndI; split <;> omega
theorem rkI_bd (n r : Nat) (h : r < 1000) : 0 ≤ rkI n r ∧ rkI n r ≤ 1000 := by unfold rkI; split <;> omega
/-- Of S nodes, M deep, with k within: what N and D are so far. -/
structure Cnt (k S M : Nat) (N D : Int) : Prop where
  n1 : 1 ≤ N
  n2 : N ≤ 1 + 1000 * (k : Int)
  d1 : 1 ≤ D
  d2 : D ≤ 1001
  yes : S < 1000 → N = (S : Int) ∧ D = (M : Int)
  no : 1000 ≤ S → 1000 ≤ N ∨ 1000 ≤ D
theorem Cnt.one : Cnt 0 1 1 1 1 := ⟨by omega, by omega, by omega, by omega, fun _ => ⟨rfl, rfl⟩, fun h => by omega⟩
theorem Cnt.step {k S M : Nat} {N D : Int} (h : Cnt k S M N D) {n r : Nat} (hn : 1 ≤ n) (hr : r < 1000) : Cnt (k + 1) (S + n) (max M (r + 1)) (N + ndI n) (max D (rkI n r + 1)) := by
  obtain ⟨h1, h2, h3, h4, h5, h6⟩ := h
  have b1 := ndI_bd n
  have b2 := rkI_bd n r hr
  refine ⟨by omega, by omega, by omega, by omega, fun hS => ?_, fun hS => ?_⟩
  · obtain ⟨e1, e2⟩ := h5 (by omega)
    have hn' : n < 1000 := by omega
    unfold ndI rkI
    rw [if_pos hn', if_pos hn']
    constructor <;> omega
  · by_cases hS' : 1000 ≤ S
    · rcases h6 hS' with h7 | h7
      · exact .inl (by omega)
      · exact .inr (by omega)
    · obtain ⟨e1, e2⟩ := h5 (by omega)
      by_cases hn' : n < 1000
      · left; unfold ndI; rw [if_pos hn']; omega
      · left; unfold ndI; rw [if_neg hn']; omega
theorem Cnt.great {k S M : Nat} {N D : Int} (h : Cnt k S M N D) (hM : M < 1000) (hg : 1000 ≤ N ∨ 1000 ≤ D) : ndI S = 1000 ∧ rkI S M = 1000 := by
  have : ¬ S < 1000 := fun hS => by obtain ⟨e1, e2⟩ := h.yes hS; omega
  unfold ndI rkI
  rw [if_neg this, if_neg this]
  exact ⟨rfl, rfl⟩
theorem Cnt.small {k S M : Nat} {N D : Int} (h : Cnt k S M N D) (h1 : N < 1000) (h2 : D < 1000) : ndI S = N ∧ rkI S M = D := by
  have hS : S < 1000 := by
    rcases Nat.lt_or_ge S 1000 with h3 | h3
    · exact h3
    · rcases h.no h3 with h4 | h4 <;> omega
  obtain ⟨e1, e2⟩ := h.yes hS
  unfold ndI rkI
  rw [if_pos hS, if_pos hS]
  exact ⟨e1.symm, e2.symm⟩
theorem Ex.nd_snoc (l : List Ex) (x : Ex) : Ex.nd.go (l ++ [x]) = Ex.nd.go l + x.nd := by
  induction l with
  | nil => simp [Ex.nd.go]
  | cons y t ih => simp only [List.cons_append, Ex.nd.go, ih]; omega
theorem Ex.rk_snoc (l : List Ex) (x : Ex) : Ex.rk.go (l ++ [x]) = max (Ex.rk.go l) x.rk := by
  induction l with
  | nil => simp [Ex.rk.go]
  | cons y t ih => simp only [List.cons_append, Ex.rk.go, ih]; omega
theorem Te.nd_snoc (l : List Te) (x : Te) : Te.nd.go (l ++ [x]) = Te.nd.go l + x.nd := by
  induction l with
  | nil => simp [Te.nd.go]
  | cons y t ih => simp only [List.cons_append, Te.nd.go, ih]; omega
theorem Te.rk_snoc (l : List Te) (x : Te) : Te.rk.go (l ++ [x]) = max (Te.rk.go l) x.rk := by
  induction l with
  | nil => simp [Te.rk.go]
  | cons y t ih => simp only [List.cons_append, Te.rk.go, ih]; omega
theorem Ex.rk_go_le {l : List Ex} {b : Nat} (h : ∀ e ∈ l, e.rk ≤ b) : Ex.rk.go l ≤ b := by
  induction l with
  | nil => simp [Ex.rk.go]
  | cons y t ih =>
    simp only [Ex.rk.go]
    have h1 := h y (by simp)
    have h2 := ih (fun e he => h e (by simp [he]))
    omega
theorem Te.rk_go_le {l : List Te} {b : Nat} (h : ∀ e ∈ l, e.rk ≤ b) : Te.rk.go l ≤ b := by
  induction l with
  | nil => simp [Te.rk.go]
  | cons y t ih =>
    simp only [Te.rk.go]
    have h1 := h y (by simp)
    have h2 := ih (fun e he => h e (by simp [he]))
    omega
theorem Ex.nd_pos' (e : Ex) : 1 ≤ e.nd := by cases e; simp only [Ex.nd]; omega
theorem Te.nd_pos' (e : Te) : 1 ≤ e.nd := by cases e; simp only [Te.nd]; omega
theorem max_if (a b : Int) : (if a < b then b else a) = max a b := by split <;> omega
theorem Cnt.push {args : List Ex} {x : Ex} {N D : Int} (h : Cnt args.length (1 + Ex.nd.go args) (1 + Ex.rk.go args) N D) (hr : x.rk < 1000) :
    Cnt (args ++ [x]).length (1 + Ex.nd.go (args ++ [x])) (1 + Ex.rk.go (args ++ [x])) (N + ndI x.nd) (if D < rkI x.nd x.rk + 1 then rkI x.nd x.rk + 1 else D) := by
  have h1 := h.step x.nd_pos' hr
  rw [max_if, Ex.nd_snoc, Ex.rk_snoc, List.length_append]
  rw [show 1 + (Ex.nd.go args + x.nd) = 1 + Ex.nd.go args + x.nd by omega, show 1 + max (Ex.rk.go args) x.rk = max (1 + Ex.rk.go args) (x.rk + 1) by omega]
  exact h1
/-- A term's: its expressions first, then its terms. -/
def Te.nds (xs : List Ex) (ts : List Te) : Nat := 1 + Ex.nd.go xs + Te.nd.go ts
def Te.rks (xs : List Ex) (ts : List Te) : Nat := 1 + max (Ex.rk.go xs) (Te.rk.go ts)
theorem Cnt.pushX {xs : List Ex} {x : Ex} {k : Nat} {N D : Int} (h : Cnt k (Te.nds xs []) (Te.rks xs []) N D) (hr : x.rk < 1000) :
    Cnt (k + 1) (Te.nds (xs ++ [x]) []) (Te.rks (xs ++ [x]) []) (N + ndI x.nd) (if D < rkI x.nd x.rk + 1 then rkI x.nd x.rk + 1 else D) := by
  have h1 := h.step x.nd_pos' hr
  unfold Te.nds Te.rks at *
  rw [max_if, Ex.nd_snoc, Ex.rk_snoc]
  simp only [Te.nd.go, Te.rk.go] at *
  rw [show 1 + (Ex.nd.go xs + x.nd) + 0 = 1 + Ex.nd.go xs + 0 + x.nd by omega, show 1 + max (max (Ex.rk.go xs) x.rk) 0 = max (1 + max (Ex.rk.go xs) 0) (x.rk + 1) by omega]
  exact h1
theorem Cnt.pushT {xs : List Ex} {ts : List Te} {x : Te} {k : Nat} {N D : Int} (h : Cnt k (Te.nds xs ts) (Te.rks xs ts) N D) (hr : x.rk < 1000) :
    Cnt (k + 1) (Te.nds xs (ts ++ [x])) (Te.rks xs (ts ++ [x])) (N + ndI x.nd) (if D < rkI x.nd x.rk + 1 then rkI x.nd x.rk + 1 else D) := by
  have h1 := h.step x.nd_pos' hr
  unfold Te.nds Te.rks at *
  rw [max_if, Te.nd_snoc, Te.rk_snoc]
  rw [show 1 + Ex.nd.go xs + (Te.nd.go ts + x.nd) = 1 + Ex.nd.go xs + Te.nd.go ts + x.nd by omega, show 1 + max (Ex.rk.go xs) (max (Te.rk.go ts) x.rk) = max (1 + max (Ex.rk.go xs) (Te.rk.go ts)) (x.rk + 1) by omega]
  exact h1
/-- The nodes that come in. -/
structure Lf where
  op : Int
  n : Int
  nm : ByteArray
  kids : List Int
structure Kn where
  op : Int
  nm : ByteArray
  exprs : List Int
  terms : List Int
def lfK : Elt Lf where
  sz := 4
  pos := by decide
  R := fun w X x cs => ∃ a cap, cs = [.int .i64 x.op, .int .i64 x.n, .string x.nm, .slice a x.kids.length cap] ∧ I64 x.op ∧ I64 x.n ∧ x.nm.size ≤ 9223372036854775807 ∧ SlR i64K w X x.kids a x.kids.length cap
  kept := fun h k => by obtain ⟨a, cap, rfl, h1, h2, h3, h4⟩ := h; exact ⟨a, cap, rfl, h1, h2, h3, h4.kept k⟩
  less := fun h k => by obtain ⟨a, cap, rfl, h1, h2, h3, h4⟩ := h; exact ⟨a, cap, rfl, h1, h2, h3, h4.less k⟩
  one := fun h => by obtain ⟨a, cap, rfl, h1, h2, h3, h4⟩ := h; exact ⟨rfl, by simp [Value.oneCell']⟩
def knK : Elt Kn where
  sz := 4
  pos := by decide
  R := fun w X x cs => ∃ a cap a' cap', cs = [.int .i64 x.op, .string x.nm, .slice a x.exprs.length cap, .slice a' x.terms.length cap'] ∧ I64 x.op ∧ x.nm.size ≤ 9223372036854775807 ∧ SlR i64K w X x.exprs a x.exprs.length cap ∧ SlR i64K w X x.terms a' x.terms.length cap'
  kept := fun h k => by obtain ⟨a, cap, a', cap', rfl, h1, h2, h3, h4⟩ := h; exact ⟨a, cap, a', cap', rfl, h1, h2, h3.kept k, h4.kept k⟩
  less := fun h k => by obtain ⟨a, cap, a', cap', rfl, h1, h2, h3, h4⟩ := h; exact ⟨a, cap, a', cap', rfl, h1, h2, h3.less k, h4.less k⟩
  one := fun h => by obtain ⟨a, cap, a', cap', rfl, h1, h2, h3, h4⟩ := h; exact ⟨rfl, by simp [Value.oneCell']⟩
def nds (es : List Ex) : List Int := es.map fun e => ndI e.nd
def rks (es : List Ex) : List Int := es.map fun e => rkI e.nd e.rk
def ndsT (ts : List Te) : List Int := ts.map fun e => ndI e.nd
def rksT (ts : List Te) : List Int := ts.map fun e => rkI e.nd e.rk
/-- The j-th element of a slice that grows: its cells, clear of all that is written. -/
theorem Sep.elt {α : Type} {K : Elt α} {e : TypeId} {base : Nat} {w : World} {fam : List Ob} {l : List α} {v : Value} (h : Sep w fam) (i : Nat) (hi : fam[i]? = some (gr K e base l v)) (j : Nat) (hj : j < l.length) :
    ∃ g cap x cs, v = .slice (some ⟨g, 0, none⟩) l.length cap ∧ l.length ≤ cap ∧ l[j]? = some x ∧ K.R w (owns fam) x cs ∧ cs.length = K.sz ∧ ∀ m c, m < K.sz → cs[m]? = some c → w.cell? ⟨g, j * K.sz + m, none⟩ = some c := by
  obtain ⟨csl, hG⟩ := h.at i hi
  obtain ⟨g, cap, rfl, hg0, hg1, hg2, hob⟩ := own_form hG.own (by omega)
  have hx : l[j]? = some (l[j]'hj) := List.getElem?_eq_getElem hj
  have hc : csl[j]? = some (csl[j]'(by rw [hG.count]; exact hj)) := List.getElem?_eq_getElem (by rw [hG.count]; exact hj)
  have hR := hG.elts j _ _ hx hc
  refine ⟨g, cap, _, _, rfl, hg2, hx, K.less hR (fun b _ hm => ?_), (K.one hR).1, fun m c hm hcm => ?_⟩
  · obtain ⟨q, o, hq, hb⟩ := mem_owns.1 hm
    by_cases hqi : q = i
    · subst hqi
      rw [hi] at hq
      injection hq with hq
      subst hq
      have hb' : b ∈ (Value.slice (some ⟨g, 0, none⟩) l.length cap).ownBlock.toList := hb
      rw [Option.mem_toList] at hb'
      exact busy_mem.2 (.inl hb')
    · exact busy_mem.2 (.inr (mem_others.2 ⟨q, o, hqi, hq, hb⟩))
  · rw [hG.own.cellAt (j * K.sz + m) (by calc j * K.sz + m < j * K.sz + K.sz := by omega
                                              _ = (j + 1) * K.sz := by rw [Nat.add_mul]; omega
                                              _ ≤ l.length * K.sz := Nat.mul_le_mul_right _ (by omega)), flat_get K.sz csl hG.len4 j m _ hc hm]
    exact hcm
/-- What a slice that grows is, as a value. -/
theorem Sep.form {α : Type} {K : Elt α} {e : TypeId} {base : Nat} {w : World} {fam : List Ob} {l : List α} {v : Value} (h : Sep w fam) (i : Nat) (hi : fam[i]? = some (gr K e base l v)) : ∃ a cap, v = .slice a l.length cap := by
  obtain ⟨a, cap, hv, _⟩ := h.still i hi
  exact ⟨a, cap, hv⟩
end Go.Proofs.Ytefpjdgfcgjbaaa
