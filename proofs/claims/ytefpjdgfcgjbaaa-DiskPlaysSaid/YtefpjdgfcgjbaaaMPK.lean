/- A part of the proof: DkSm, DkCp, DkMc, one behind another. -/
import Derived.Test.YtefpjdgfcgjbaaaMPA
import Derived.Test.YtefpjdgfcgjbaaaMPB
import Derived.Test.YtefpjdgfcgjbaaaMPC
import Derived.Test.YtefpjdgfcgjbaaaMPD
import Derived.Test.YtefpjdgfcgjbaaaMPE
import Derived.Test.YtefpjdgfcgjbaaaMPF
import Derived.Test.YtefpjdgfcgjbaaaMPG
import Derived.Test.YtefpjdgfcgjbaaaMPH
import Derived.Test.YtefpjdgfcgjbaaaMPI
import Derived.Test.YtefpjdgfcgjbaaaMPJ
import Derived.StillTailTactics
import Derived.BigRegion
import Derived.BigQuiet
/- The walk of same: is a disk as a model? -/
namespace Go.Proofs.Ytefpjdgfcgjbaaa
set_option linter.unusedVariables false
set_option linter.unusedSimpArgs false
open Go.RowKit
section
variable (p : Nat) (s : St) (w : World)
set_option maxHeartbeats 1000000
theorem used_q (hD : DkAt w p s) : Calls Try.prog 16 #[.pointer (some ⟨p, 0, none⟩)] w fun x w' => x = .returned (.int .i64 s.used) ∧ w' = w := by
  obtain ⟨c0, c1, c2, c3, c4, c5, c6, c7⟩ := dk8 hD.ptr
  clear hD
  go_enter Try.func16, Try.ntmps16
  go_wp2_with fail
  go_ret
  exact ⟨rfl, rfl⟩
theorem written_q (hD : DkAt w p s) : Calls Try.prog 30 #[.pointer (some ⟨p, 0, none⟩)] w fun x w' => x = .returned (.int .i64 s.written) ∧ w' = w := by
  obtain ⟨c0, c1, c2, c3, c4, c5, c6, c7⟩ := dk8 hD.ptr
  clear hD
  go_enter Try.func30, Try.ntmps30
  go_wp2_with fail
  go_ret
  exact ⟨rfl, rfl⟩
theorem calls_q (hD : DkAt w p s) : Calls Try.prog 31 #[.pointer (some ⟨p, 0, none⟩)] w fun x w' => x = .returned (.int .i64 s.calls) ∧ w' = w := by
  obtain ⟨c0, c1, c2, c3, c4, c5, c6, c7⟩ := dk8 hD.ptr
  clear hD
  go_enter Try.func31, Try.ntmps31
  go_wp2_with fail
  go_ret
  exact ⟨rfl, rfl⟩
theorem on_q (hD : DkAt w p s) : Calls Try.prog 21 #[.pointer (some ⟨p, 0, none⟩)] w fun x w' => x = .returned (.bool !s.off) ∧ w' = w := by
  obtain ⟨c0, c1, c2, c3, c4, c5, c6, c7⟩ := dk8 hD.ptr
  clear hD
  go_enter Try.func21, Try.ntmps21
  go_wp2_with fail
  go_ret
  exact ⟨rfl, rfl⟩
theorem free_q (hD : DkAt w p s) : Calls Try.prog 29 #[.pointer (some ⟨p, 0, none⟩)] w fun x w' => x = .returned (.int .i64 (s.room - s.used)) ∧ ∃ n, w' = w.drewN n := by
  obtain ⟨c0, c1, c2, c3, c4, c5, c6, c7⟩ := dk8 hD.ptr
  have h1 := hD.ok.rm
  have h2 := hD.ok.use
  have hw : IntKind.i64.wrap (s.room - s.used) = s.room - s.used := IntWalk.i64_in _ (by omega)
  generalize s.room = room at *
  generalize s.used = used at *
  clear hD h1 h2
  go_enter Try.func29, Try.ntmps29
  go_wp2_with fail
  go_quiet (fail)
  go_wp2_with fail
  go_ret
  exact ⟨rfl, _, rfl⟩
theorem safe_q (nm : ByteArray) (hD : DkAt w p s) (hn : nm.size ≤ maxLen) : Calls Try.prog 32 #[.pointer (some ⟨p, 0, none⟩), .string nm] w fun x w' => x = .returned (.int .i64 (safeS s nm.data.toList)) ∧ w' = w := by
  obtain ⟨c0, c1, c2, c3, c4, c5, c6, c7⟩ := dk8 hD.ptr
  have hl := hD.look0 nm hn
  unfold safeS
  cases hf : findF s.fs nm.data.toList with
  | none =>
    rw [hf] at hl
    simp only [ptrV] at hl
    clear hD hn hf
    go_enter Try.func32, Try.ntmps32
    go_wp2_with fail
    go_ret
    exact ⟨rfl, rfl⟩
  | some f =>
    rw [hf] at hl
    simp only [ptrV] at hl
    have u1 : w.cell? ⟨f.blk, 1, none⟩ = some (.int .i64 (f.safe : Nat)) := (hD.fil f (findF_mem hf).1).cell 1
    clear hD hn hf
    go_enter Try.func32, Try.ntmps32
    go_wp2_with fail
    go_ret
    exact ⟨rfl, rfl⟩
end
set_option maxRecDepth 100000 in
set_option maxHeartbeats 8000000 in
theorem same_any (p base q : Nat) (s : St) (fa : Option Addr) (fc : Nat) (w : World) (hD : DkAt w p s) (hM : MdAt base w q s fa fc) (hn : s.fs.length ≤ 1000) :
    Calls Try.prog 28 #[.pointer (some ⟨p, 0, none⟩), .pointer (some ⟨q, 0, none⟩)] w fun x w' => x = .returned (.bool true) ∧ Below w.heap.size w w' := by
  have HD := Lib.hid hD
  have HM := Lib.hid hM
  have HN := Lib.hid hn
  have HNM := Lib.hid (names_any p s w hD (by omega))
  have hsd : sumD s.fs ≤ 16777216 := by
    have h1 := hD.ok.use
    have h2 := hD.ok.rm
    omega
  have HSD := Lib.hid hsd
  clear hD hM hn hsd
  go_enter Try.func28, Try.ntmps28
  go_wp2_with fail
  go_at_call 15
  (with_reducible refine HNM.out.mono ?_)
  rintro x w1 ⟨⟨na, nc, rfl, hns⟩, b1⟩
  have HNS := Lib.hid hns
  have HB1 := Lib.hid b1
  have HD1 := Lib.hid (HD.out.below b1)
  have HM1 := Lib.hid (HM.out.below b1)
  clear hns b1 HNM HD HM
  go_upto_region 2 with (fail)
  obtain ⟨c0, c1, c2, c3, c4, c5, c6⟩ := md7 HM1.out.ptr
  have HDN : Hid (∀ n, DkAt (w1.drewN n) p s) := fun n => HD1.out.below (below_dN (Below.refl _ _) n)
  have HMN : Hid (∀ n, MdAt base (w1.drewN n) q s fa fc) := fun n => HM1.out.below (below_dN (Below.refl _ _) n)
  obtain ⟨U, hU⟩ : ∃ U : Int, U = (sumD s.fs : Nat) := ⟨_, rfl⟩
  have HU : Hid (s.used = U) := by show _ = _; rw [hU]; exact HD1.out.ok.use
  have hRM := HD1.out.ok.rm
  have hwr : IntKind.i64.wrap (s.room - U) = s.room - U := IntWalk.i64_in _ (by have := HU.out; have := HSD.out; omega)
  have HON : Hid (∀ n, Calls Try.prog 21 #[.pointer (some ⟨p, 0, none⟩)] (w1.drewN n) fun x w' => x = .returned (.bool !s.off) ∧ ∃ k, w' = w1.drewN k) := fun n => (on_q p s _ (HDN.out n)).mono fun _ _ h => ⟨h.1, n, h.2⟩
  have HUS : Hid (∀ n, Calls Try.prog 16 #[.pointer (some ⟨p, 0, none⟩)] (w1.drewN n) fun x w' => x = .returned (.int .i64 U) ∧ ∃ k, w' = w1.drewN k) := fun n => (used_q p s _ (HDN.out n)).mono fun _ _ h => ⟨by rw [← HU.out]; exact h.1, n, h.2⟩
  have HMU : Hid (∀ n, Calls Try.prog 40 #[.pointer (some ⟨q, 0, none⟩)] (w1.drewN n) fun x w' => x = .returned (.int .i64 U) ∧ ∃ k, w' = w1.drewN k) := fun n => (musedd_any base q s fa fc _ (HMN.out n) HN.out (by have := HSD.out; omega)).mono fun _ _ h => ⟨by rw [hU]; exact h.1, n, h.2⟩
  have HFR : Hid (∀ n, Calls Try.prog 29 #[.pointer (some ⟨p, 0, none⟩)] (w1.drewN n) fun x w' => x = .returned (.int .i64 (s.room - U)) ∧ ∃ k, w' = w1.drewN k) := fun n => (free_q p s _ (HDN.out n)).mono fun _ _ h => ⟨by rw [← HU.out]; exact h.1, by obtain ⟨k, hk⟩ := h.2; exact ⟨n + k, by rw [hk, World.drewN_drewN]⟩⟩
  have HWR : Hid (∀ n, Calls Try.prog 30 #[.pointer (some ⟨p, 0, none⟩)] (w1.drewN n) fun x w' => x = .returned (.int .i64 s.written) ∧ ∃ k, w' = w1.drewN k) := fun n => (written_q p s _ (HDN.out n)).mono fun _ _ h => ⟨h.1, n, h.2⟩
  have HCL : Hid (∀ n, Calls Try.prog 31 #[.pointer (some ⟨p, 0, none⟩)] (w1.drewN n) fun x w' => x = .returned (.int .i64 s.calls) ∧ ∃ k, w' = w1.drewN k) := fun n => (calls_q p s _ (HDN.out n)).mono fun _ _ h => ⟨h.1, n, h.2⟩
  clear hU hRM
  cases ho : s.off with
  | true =>
    simp only [ho, Bool.not_true] at HON
    rw [ho] at c2
    have HO := Lib.hid ho
    clear ho
    go_quiet ((first | (go_at_call 21; exact HON.out _) | (go_at_call 16; exact HUS.out _) | (go_at_call 40; exact HMU.out _) | (go_at_call 29; exact HFR.out _) | (go_at_call 30; exact HWR.out _) | (go_at_call 31; exact HCL.out _)))
    have HB2 := Lib.hid (HB1.out.trans ((below_dN (Below.refl w1.heap.size w1) nq).mono HB1.out.size))
    have HD2 := Lib.hid (HDN.out nq)
    have HM2 := Lib.hid (HMN.out nq)
    have HNS2 := Lib.hid (HNS.out.kept (Kept.of_below (below_dN (Below.refl w1.heap.size w1) nq) _))
    clear c0 c1 c2 c3 c4 c5 c6 HDN HMN HU hwr HON HUS HMU HFR HWR HCL HB1 HD1 HM1 HNS
    generalize w1.drewN nq = w2 at *
    go_wp2_with fail
    go_loopw [6] (fun i wr => ∃ (k : Nat), i = .int .i64 (k : Nat) ∧ k ≤ s.fs.length ∧ Hid (Below w2.heap.size w2 wr)) (fun i _ => s.fs.length - (intOf i).toNat)
    case atStart => exact ⟨0, rfl, Nat.zero_le _, Below.refl _ _⟩
    case round =>
      obtain ⟨k, rfl, hk, HR⟩ := hrel
      by_cases hlt : k < s.fs.length
      · have hlt' : (k : Int) < (s.fs.length : Int) := by omega
        have i0 : (0 : Int) ≤ (k : Int) := by omega
        have i1 : (k : Int) ≤ 1000 := by have := HN.out; omega
        have HDR := Lib.hid (HD2.out.below HR.out)
        have HMR := Lib.hid (HM2.out.below HR.out)
        have HNR := Lib.hid (HNS2.out.kept (Kept.of_below HR.out _))
        obtain ⟨nb, no, t, rfl, ht, u0⟩ := str_at HNR.out k hlt
        obtain ⟨g, f, rfl, hf, m0, m1, m2, -⟩ := HMR.out.at k hlt
        obtain rfl : t = f.name := by
          rw [List.getElem?_map, hf] at ht
          injection ht with ht; exact ht.symm
        have hfm := List.mem_of_getElem? hf
        have hff : findF s.fs f.name = some f := findF_of HDR.out.ok.up hfm
        obtain ⟨T, hT⟩ : ∃ T : ByteArray, T = ⟨f.name.toArray⟩ := ⟨_, rfl⟩
        have hTL : T.data.toList = f.name := by rw [hT]
        have HTZ : Hid (T.size ≤ maxLen) := by
          have := (HDR.out.ok.nam f hfm).2
          show T.size ≤ maxLen
          rw [hT]
          show f.name.toArray.size ≤ maxLen
          rw [List.size_toArray]; unfold maxLen; omega
        rw [← hT] at u0 m0
        have HRD : Hid (readS s T.data.toList = (⟨#[]⟩, 6)) := by
          show readS _ _ = _
          unfold readS
          rw [HO.out, hTL, hff]; rfl
        have HSF : Hid (∀ n, Calls Try.prog 32 #[.pointer (some ⟨p, 0, none⟩), .string T] (wr.drewN n) fun x w' => x = .returned (.int .i64 (f.safe : Nat)) ∧ ∃ k, w' = wr.drewN k) := fun n => (safe_q p s _ T (HDR.out.below (below_dN (Below.refl _ _) n)) HTZ.out).mono fun _ _ h => ⟨by
          have h1 := h.1
          unfold safeS at h1
          rw [hTL, hff] at h1
          exact h1, n, h.2⟩
        have c1 : wr.cell? ⟨q, 1, none⟩ = some (.slice (some ⟨g, 0, none⟩) s.fs.length fc) := (md7 HMR.out.ptr).2.1
        have c2 : wr.cell? ⟨q, 2, none⟩ = some (.bool true) := by rw [(md7 HMR.out.ptr).2.2.1, HO.out]
        have HFX := Lib.hid hf
        clear ht hf hfm hff hT hTL
        go_wp2_with fail
        go_at_call 14
        (with_reducible refine (read_any p s T wr HDR.out HTZ.out).mono ?_)
        rintro x w5 ⟨rfl, hw⟩
        rw [hw, HRD.out]
        clear hw w5
        go_upto_region 8 with (fail)
        go_quiet ((go_at_call 32; exact HSF.out _))
        have HR5 := Lib.hid (HR.out.trans ((below_dN (Below.refl wr.heap.size wr) nq).mono HR.out.size))
        have HMS := Lib.hid (HMR.out.below (below_dN (Below.refl wr.heap.size wr) nq))
        obtain ⟨g', f', hfa, hf', n0, n1, n2, -⟩ := HMS.out.at k hlt
        obtain rfl : g' = g := by injection hfa with hfa; injection hfa with hfa; exact hfa.symm
        obtain rfl : f' = f := by rw [HFX.out] at hf'; injection hf' with hf'; exact hf'.symm
        have d1 : (wr.drewN nq).cell? ⟨q, 1, none⟩ = some (.slice (some ⟨g', 0, none⟩) s.fs.length fc) := (md7 HMS.out.ptr).2.1
        have d2 : (wr.drewN nq).cell? ⟨q, 2, none⟩ = some (.bool true) := by rw [(md7 HMS.out.ptr).2.2.1, HO.out]
        clear c1 c2 u0 m0 m1 m2 hfa hf' n0 n2 HSF HRD HTZ HMS HMR HDR HNR HR HFX
        generalize wr.drewN nq = wd at *
        go_wp2_with fail
        go_roundw
        case rel => exact ⟨k + 1, by go_num, by omega, HR5.out⟩
        case measure => simp [intOf]; omega
      · have hlt' : ¬ (k : Int) < (s.fs.length : Int) := by omega
        have HB5 := Lib.hid (HB2.out.trans (HR.out.mono HB2.out.size))
        go_wp2_with fail
        go_ret
        exact ⟨rfl, HB5.out⟩
  | false =>
    simp only [ho, Bool.not_false] at HON
    rw [ho] at c2
    have HO := Lib.hid ho
    clear ho
    go_quiet ((first | (go_at_call 21; exact HON.out _) | (go_at_call 16; exact HUS.out _) | (go_at_call 40; exact HMU.out _) | (go_at_call 29; exact HFR.out _) | (go_at_call 30; exact HWR.out _) | (go_at_call 31; exact HCL.out _)))
    have HB2 := Lib.hid (HB1.out.trans ((below_dN (Below.refl w1.heap.size w1) nq).mono HB1.out.size))
    have HD2 := Lib.hid (HDN.out nq)
    have HM2 := Lib.hid (HMN.out nq)
    have HNS2 := Lib.hid (HNS.out.kept (Kept.of_below (below_dN (Below.refl w1.heap.size w1) nq) _))
    clear c0 c1 c2 c3 c4 c5 c6 HDN HMN HU hwr HON HUS HMU HFR HWR HCL HB1 HD1 HM1 HNS
    generalize w1.drewN nq = w2 at *
    go_wp2_with fail
    go_loopw [6] (fun i wr => ∃ (k : Nat), i = .int .i64 (k : Nat) ∧ k ≤ s.fs.length ∧ Hid (Below w2.heap.size w2 wr)) (fun i _ => s.fs.length - (intOf i).toNat)
    case atStart => exact ⟨0, rfl, Nat.zero_le _, Below.refl _ _⟩
    case round =>
      obtain ⟨k, rfl, hk, HR⟩ := hrel
      by_cases hlt : k < s.fs.length
      · have hlt' : (k : Int) < (s.fs.length : Int) := by omega
        have i0 : (0 : Int) ≤ (k : Int) := by omega
        have i1 : (k : Int) ≤ 1000 := by have := HN.out; omega
        have HDR := Lib.hid (HD2.out.below HR.out)
        have HMR := Lib.hid (HM2.out.below HR.out)
        have HNR := Lib.hid (HNS2.out.kept (Kept.of_below HR.out _))
        obtain ⟨nb, no, t, rfl, ht, u0⟩ := str_at HNR.out k hlt
        obtain ⟨g, f, rfl, hf, m0, m1, m2, -⟩ := HMR.out.at k hlt
        obtain rfl : t = f.name := by
          rw [List.getElem?_map, hf] at ht
          injection ht with ht; exact ht.symm
        have hfm := List.mem_of_getElem? hf
        have hff : findF s.fs f.name = some f := findF_of HDR.out.ok.up hfm
        obtain ⟨T, hT⟩ : ∃ T : ByteArray, T = ⟨f.name.toArray⟩ := ⟨_, rfl⟩
        have hTL : T.data.toList = f.name := by rw [hT]
        have HTZ : Hid (T.size ≤ maxLen) := by
          have := (HDR.out.ok.nam f hfm).2
          show T.size ≤ maxLen
          rw [hT]
          show f.name.toArray.size ≤ maxLen
          rw [List.size_toArray]; unfold maxLen; omega
        rw [← hT] at u0 m0
        have HRD : Hid (readS s T.data.toList = (f.data, 0)) := by
          show readS _ _ = _
          unfold readS
          rw [HO.out, hTL, hff]; rfl
        have HSF : Hid (∀ n, Calls Try.prog 32 #[.pointer (some ⟨p, 0, none⟩), .string T] (wr.drewN n) fun x w' => x = .returned (.int .i64 (f.safe : Nat)) ∧ ∃ k, w' = wr.drewN k) := fun n => (safe_q p s _ T (HDR.out.below (below_dN (Below.refl _ _) n)) HTZ.out).mono fun _ _ h => ⟨by
          have h1 := h.1
          unfold safeS at h1
          rw [hTL, hff] at h1
          exact h1, n, h.2⟩
        have c1 : wr.cell? ⟨q, 1, none⟩ = some (.slice (some ⟨g, 0, none⟩) s.fs.length fc) := (md7 HMR.out.ptr).2.1
        have c2 : wr.cell? ⟨q, 2, none⟩ = some (.bool false) := by rw [(md7 HMR.out.ptr).2.2.1, HO.out]
        have HFX := Lib.hid hf
        clear ht hf hfm hff hT hTL
        go_wp2_with fail
        go_at_call 14
        (with_reducible refine (read_any p s T wr HDR.out HTZ.out).mono ?_)
        rintro x w5 ⟨rfl, hw⟩
        rw [hw, HRD.out]
        clear hw w5
        go_upto_region 8 with (fail)
        go_quiet ((go_at_call 32; exact HSF.out _))
        have HR5 := Lib.hid (HR.out.trans ((below_dN (Below.refl wr.heap.size wr) nq).mono HR.out.size))
        have HMS := Lib.hid (HMR.out.below (below_dN (Below.refl wr.heap.size wr) nq))
        obtain ⟨g', f', hfa, hf', n0, n1, n2, -⟩ := HMS.out.at k hlt
        obtain rfl : g' = g := by injection hfa with hfa; injection hfa with hfa; exact hfa.symm
        obtain rfl : f' = f := by rw [HFX.out] at hf'; injection hf' with hf'; exact hf'.symm
        have d1 : (wr.drewN nq).cell? ⟨q, 1, none⟩ = some (.slice (some ⟨g', 0, none⟩) s.fs.length fc) := (md7 HMS.out.ptr).2.1
        have d2 : (wr.drewN nq).cell? ⟨q, 2, none⟩ = some (.bool false) := by rw [(md7 HMS.out.ptr).2.2.1, HO.out]
        clear c1 c2 u0 m0 m1 m2 hfa hf' n0 n2 HSF HRD HTZ HMS HMR HDR HNR HR HFX
        generalize wr.drewN nq = wd at *
        go_wp2_with fail
        go_roundw
        case rel => exact ⟨k + 1, by go_num, by omega, HR5.out⟩
        case measure => simp [intOf]; omega
      · have hlt' : ¬ (k : Int) < (s.fs.length : Int) := by omega
        have HB5 := Lib.hid (HB2.out.trans (HR.out.mono HB2.out.size))
        go_wp2_with fail
        go_ret
        exact ⟨rfl, HB5.out⟩
end Go.Proofs.Ytefpjdgfcgjbaaa

/- The document's crash: its steps, plain. -/
namespace Go.Proofs.Ytefpjdgfcgjbaaa
set_option linter.unusedVariables false
set_option linter.unusedSimpArgs false
open Go.RowKit
/-- The files ahead of the k-th are done. -/
def crK (l : List (Int × Int)) (fs : List Fi) (k : Nat) : List Fi := fs.mapIdx (fun i f => if i < k then crashF (keepAt l i).1 (keepAt l i).2 f else f)
theorem crK_at (l : List (Int × Int)) (fs : List Fi) (k i : Nat) : (crK l fs k)[i]? = (fs[i]?).map (fun f => if i < k then crashF (keepAt l i).1 (keepAt l i).2 f else f) := by unfold crK; rw [List.getElem?_mapIdx]
theorem crK_len (l : List (Int × Int)) (fs : List Fi) (k : Nat) : (crK l fs k).length = fs.length := by unfold crK; rw [List.length_mapIdx]
theorem crK_zero (l : List (Int × Int)) (fs : List Fi) : crK l fs 0 = fs := by
  refine List.ext_getElem? (fun i => ?_)
  rw [crK_at]
  cases fs[i]? <;> rfl
theorem crK_end (l : List (Int × Int)) (fs : List Fi) : crK l fs fs.length = crashFs l fs := by
  refine List.ext_getElem? (fun i => ?_)
  rw [crK_at, crashFs_at]
  cases hx : fs[i]? with
  | none => rfl
  | some f =>
    have := (List.getElem?_eq_some_iff.1 hx).1
    simp only [Option.map_some]
    rw [if_pos this]
theorem crK_here (l : List (Int × Int)) (fs : List Fi) (k : Nat) : (crK l fs k)[k]? = fs[k]? := by
  rw [crK_at]
  cases fs[k]? with
  | none => rfl
  | some f => simp
theorem crK_next (l : List (Int × Int)) {fs : List Fi} {k : Nat} {f : Fi} (hf : fs[k]? = some f) : (crK l fs k).set k (crashF (keepAt l k).1 (keepAt l k).2 f) = crK l fs (k + 1) := by
  refine List.ext_getElem? (fun i => ?_)
  rw [List.getElem?_set, crK_at, crK_at, crK_len]
  by_cases e : k = i
  · subst e
    rw [if_pos rfl, if_pos (List.getElem?_eq_some_iff.1 hf).1, hf]
    simp
  · rw [if_neg e]
    cases hx : fs[i]? with
    | none => rfl
    | some g =>
      simp only [Option.map_some]
      by_cases h : i < k
      · rw [if_pos h, if_pos (by omega)]
      · rw [if_neg h, if_neg (by omega)]
/-- The kept bytes ahead of k. -/
def pL (f : Fi) (sector : Int) (k : Nat) : List UInt8 := (f.data.data.toList.take k).mapIdx (fun i b => if f.safe ≤ i then turnB sector i b else b)
theorem pL_len (f : Fi) (sector : Int) (k : Nat) (h : k ≤ f.data.size) : (pL f sector k).length = k := by
  unfold pL
  rw [List.length_mapIdx, List.length_take]
  have e : f.data.data.toList.length = f.data.size := by rw [Array.length_toList]; rfl
  rw [e]; omega
theorem pL_start (f : Fi) (sector : Int) : pL f sector f.safe = (f.data.extract 0 f.safe).data.toList := by
  have hSL : (f.data.extract 0 f.safe).data.toList = f.data.data.toList.take f.safe := by
    rw [ByteArray.data_extract, Array.toList_extract]; simp
  rw [hSL]
  unfold pL
  refine List.ext_getElem? (fun i => ?_)
  rw [List.getElem?_mapIdx]
  cases hx : (f.data.data.toList.take f.safe)[i]? with
  | none => rfl
  | some b =>
    have := (List.getElem?_eq_some_iff.1 hx).1
    rw [List.length_take] at this
    simp only [Option.map_some]
    rw [if_neg (by omega)]
theorem pL_next (f : Fi) (sector : Int) (k : Nat) (b : UInt8) (h : f.safe ≤ k) (hb : f.data.data.toList[k]? = some b) : pL f sector (k + 1) = pL f sector k ++ [turnB sector k b] := by
  unfold pL
  have hk := (List.getElem?_eq_some_iff.1 hb)
  obtain ⟨hk1, hk2⟩ := hk
  rw [← List.take_append_getElem hk1, hk2, List.mapIdx_append, List.mapIdx_cons, List.mapIdx_nil, List.length_take, Nat.min_eq_left (by omega)]
  congr 1
  simp only [Nat.zero_add]
  rw [if_pos h]
theorem MdGo.file {base q g k : Nat} {fa : Option Addr} {fc : Nat} {w W : World} {m : Md} {f : Fi} (h : MdGo base q fa w W m (some ⟨g, 0, none⟩) fc) (hf : m.fs[k]? = some f) (f' : Fi) :
    MdGo base q fa w (((W.setCell ⟨g, k * 3, none⟩ (.string ⟨f'.name.toArray⟩)).setCell ⟨g, k * 3 + 1, none⟩ (.string f'.data)).setCell ⟨g, k * 3 + 2, none⟩ (.int .i64 (f'.safe : Nat))) { m with fs := m.fs.set k f' } (some ⟨g, 0, none⟩) fc := by
  have hk := (List.getElem?_eq_some_iff.1 hf).1
  have h1 := h.cell (f' := ⟨f'.name, f.data, f.safe, f.blk⟩) hf 0 (by omega) (.string ⟨f'.name.toArray⟩) rfl
  have h2 := h1.cell (f := ⟨f'.name, f.data, f.safe, f.blk⟩) (f' := ⟨f'.name, f'.data, f.safe, f.blk⟩) (by show (m.fs.set k _)[k]? = _; rw [List.getElem?_set, if_pos rfl, if_pos hk]) 1 (by omega) (.string f'.data) rfl
  have h3 := h2.cell (f := ⟨f'.name, f'.data, f.safe, f.blk⟩) (f' := f') (by show ((m.fs.set k _).set k _)[k]? = _; rw [List.getElem?_set, if_pos rfl, if_pos (by rw [List.length_set]; exact hk)]) 2 (by omega) (.int .i64 (f'.safe : Nat)) rfl
  refine h3.like ?_ ⟨rfl, rfl, rfl, rfl, rfl, rfl⟩
  show m.fs.set k f' = ((m.fs.set k _).set k _).set k f'
  rw [List.set_set, List.set_set]
theorem keptN_ge (f : Fi) (b : Int) : f.safe ≤ keptN f b := by unfold keptN; omega
theorem pL_end (f : Fi) (bytes sector : Int) : pL f sector (keptN f bytes) = crashL f bytes sector := rfl
end Go.Proofs.Ytefpjdgfcgjbaaa

/- The document's crash: the walk. -/
namespace Go.Proofs.Ytefpjdgfcgjbaaa
set_option linter.unusedVariables false
set_option linter.unusedSimpArgs false
open Go.RowKit
theorem cell_upB {w w' : World} {a : Addr} {v : Value} (h : w.cell? a = some v) (b : Below w.heap.size w w') : w'.cell? a = some v := by
  have hlt : a.block < w.heap.size := World.block_lt_of_cell? w a h
  rw [World.cell?_of_block (w := w) (b.block a.block hlt)]; exact h
set_option maxRecDepth 100000 in
set_option maxHeartbeats 4000000 in
theorem mcrash_any (base q : Nat) (m : Md) (fa : Option Addr) (fc : Nat) (l : List (Int × Int)) (la : Option Addr) (ll lc : Nat) (w : World) (h : MdAt base w q m fa fc) (hl : SlR kpK w (mks q fa) l la ll lc) (hn : m.fs.length ≤ 1000) (hok : ∀ f ∈ m.fs, f.data.size ≤ 1048576 ∧ f.safe ≤ f.data.size) :
    Calls Try.prog 26 #[.pointer (some ⟨q, 0, none⟩), .slice la ll lc] w fun x w' => x = .returned (.tuple #[]) ∧ MdDone base q fa w w' (crashS m l) := by
  have HL := Lib.hid hl
  have HN := Lib.hid hn
  have HOK := Lib.hid hok
  have HLL := Lib.hid hl.facts.1
  have HLE : Hid (ll ≤ 9223372036854775807) := by have := hl.facts; show ll ≤ _; omega
  have HQ := Lib.hid h.ptr.lt
  obtain ⟨c0, c1, c2, c3, c4, c5, c6⟩ := md7 h.ptr
  obtain ⟨f0, f1, f2, f3, f4, f5, f6⟩ := mdF h.ptr
  have HG0 : Hid (MdGo base q fa w ((w.setCell ⟨q, 2, none⟩ (.bool false)).setCell ⟨q, 3, none⟩ (.bool false)) { m with off := false, armed := false, fs := crK l m.fs 0 } fa fc) := by
    have h1 := ((MdGo.start h).turn 2 (.bool false) { m with off := false } rfl (fun v => rfl)).turn 3 (.bool false) { m with off := false, armed := false } rfl (fun v => rfl)
    exact h1.like (by show crK l m.fs 0 = m.fs; exact crK_zero l m.fs) ⟨rfl, rfl, rfl, rfl, rfl, rfl⟩
  clear h hl hn hok
  go_enter Try.func26, Try.ntmps26
  go_upto_region 2 with (fail)
  generalize (w.setCell ⟨q, 2, none⟩ (.bool false)).setCell ⟨q, 3, none⟩ (.bool false) = w1 at *
  clear c0 c1 c2 c3 c4 c5 c6 f0 f1 f2 f3 f4 f5 f6
  go_wp2_with fail
  go_loopw [4] (fun i wr => ∃ (k : Nat), i = .int .i64 (k : Nat) ∧ k ≤ m.fs.length ∧ Hid (MdGo base q fa w wr { m with off := false, armed := false, fs := crK l m.fs k } fa fc)) (fun i _ => m.fs.length - (intOf i).toNat)
  case atStart => exact ⟨0, rfl, Nat.zero_le _, HG0.out⟩
  case round =>
    obtain ⟨k, rfl, hk, HR⟩ := hrel
    have c1 : wr.cell? ⟨q, 1, none⟩ = some (.slice fa m.fs.length fc) := by
      have h1 := (md7 HR.out.at_.ptr).2.1
      dsimp only at h1
      rw [crK_len] at h1; exact h1
    by_cases hlt : k < m.fs.length
    · have hlt' : (k : Int) < (m.fs.length : Int) := by omega
      have i0 : (0 : Int) ≤ (k : Int) := by omega
      have i1 : (k : Int) ≤ 1000 := by have := HN.out; omega
      obtain ⟨g, f, hfa, hf, u0, u1, u2, hfz⟩ := HR.out.at_.at k (by show k < (crK l m.fs k).length; rw [crK_len]; exact hlt)
      have HFA := Lib.hid hfa
      rw [hfa] at c1
      clear hfa
      have HF : Hid (m.fs[k]? = some f) := by
        have h1 : (crK l m.fs k)[k]? = some f := hf
        rw [crK_here] at h1; exact h1
      have HFK : Hid ((crK l m.fs k)[k]? = some f) := hf
      have HSZ := Lib.hid (HOK.out f (List.mem_of_getElem? HF.out))
      obtain ⟨kb, hkb⟩ : ∃ x, x = (keepAt l k).1 := ⟨_, rfl⟩
      obtain ⟨ks, hks⟩ : ∃ x, x = (keepAt l k).2 := ⟨_, rfl⟩
      have HKB := Lib.hid hkb
      have HKS := Lib.hid hks
      obtain ⟨dz, hdz⟩ : ∃ x, x = f.data.size := ⟨_, rfl⟩
      have HDZ := Lib.hid hdz
      clear hf hkb hks hfz
      have HB5 := Lib.hid ((Below.refl wr.heap.size wr).alloc (Nat.le_refl _) (.cells #[.string ⟨f.name.toArray⟩, .string f.data, .int .i64 (f.safe : Nat)] 58))
      have BK5 := Lib.hid (Mem.Blk.new wr 58 #[.string ⟨f.name.toArray⟩, .string f.data, .int .i64 (f.safe : Nat)])
      clear hdz
      go_upto_region 6 with (fail)
      obtain ⟨zb, hzb⟩ : ∃ z, z = wr.heap.size := ⟨_, rfl⟩
      have HZB := Lib.hid hzb
      have HB5x : Hid (Below zb wr (wr.alloc (.cells #[.string ⟨f.name.toArray⟩, .string f.data, .int .i64 (f.safe : Nat)] 58))) := by rw [hzb]; exact HB5
      rw [← hzb] at BK5 ⊢
      clear hzb HB5
      generalize hw5 : wr.alloc (.cells #[.string ⟨f.name.toArray⟩, .string f.data, .int .i64 (f.safe : Nat)] 58) = w5 at *
      clear hw5 u0 u1 u2 c1
      have HG5 : Hid (MdGo base q fa w w5 { m with off := false, armed := false, fs := crK l m.fs k } fa fc) := HR.out.below (by rw [← HZB.out]; exact HB5x.out)
      clear HR HB5x HZB
      have b0 : w5.cell? ⟨zb, 0, none⟩ = some (.string ⟨f.name.toArray⟩) := BK5.out.cell 0
      have b1 : w5.cell? ⟨zb, 1, none⟩ = some (.string f.data) := BK5.out.cell 1
      have b2 : w5.cell? ⟨zb, 2, none⟩ = some (.int .i64 (f.safe : Nat)) := BK5.out.cell 2
      have hsf : (f.safe : Int) ≤ (f.data.size : Int) := by have := HSZ.out; omega
      have hsf0 : (0 : Int) ≤ (f.safe : Int) := by omega
      have hS : (f.data.extract 0 f.safe).size = f.safe := by rw [ByteArray.size_extract]; have := HSZ.out; omega
      have hcv := Lib.run_convert_string_bytes (P := Try.prog) w5 9 35 5 (f.data.extract 0 f.safe) Try.underlying9 Try.underlying35 Try.underlying5
      have HW6 := Lib.hid (bytes_below w5 5 (f.data.extract 0 f.safe))
      have hby := ByR.start w5 (f.data.extract 0 f.safe) (Nat.le_refl w5.heap.size) (by rw [hS]; have := HSZ.out; unfold maxLen; omega)
      rw [hS] at hby hcv
      have HBY6 : Hid (ByR w5.heap.size (Lib.bytesWorld w5 5 (f.data.extract 0 f.safe)) (.slice (some ⟨w5.heap.size, 0, none⟩) f.safe (grownCap w5 f.safe 0 5)) (pL f ks f.safe)) := by
        show ByR _ _ _ _
        rw [pL_start]; exact hby
      clear hby hS
      go_upto_region 7 with (fail)
      clear hcv hsf hsf0
      generalize grownCap w5 f.safe 0 5 = gc at *
      obtain ⟨yb, hyb⟩ : ∃ z, z = w5.heap.size := ⟨_, rfl⟩
      have HYB := Lib.hid hyb
      have HZY : Hid (zb < yb) := by show zb < yb; rw [hyb]; exact BK5.out.lt
      rw [← hyb] at HW6 HBY6 ⊢
      clear hyb
      generalize hw6 : Lib.bytesWorld w5 5 (f.data.extract 0 f.safe) = w6 at *
      clear hw6 b0 b1 b2
      obtain ⟨N, hN⟩ : ∃ n, n = keptN f kb := ⟨_, rfl⟩
      have HNK := Lib.hid hN
      have HNB : Hid (f.safe ≤ N ∧ N ≤ f.data.size) := by
        show f.safe ≤ N ∧ N ≤ _
        rw [hN]; exact ⟨keptN_ge f kb, keptN_le kb HSZ.out.2⟩
      clear hN
      have b2 : w6.cell? ⟨zb, 2, none⟩ = some (.int .i64 (f.safe : Nat)) := (BK5.out.below (by have := HW6.out; rw [HYB.out] at this; exact this)).cell 2
      go_wp2_with fail
      clear b2
      go_loopw [6, 7] (fun v i wi => ∃ (j : Nat) (ya : Option Addr) (yc : Nat), v = .slice ya j yc ∧ i = .int .i64 (j : Nat) ∧ f.safe ≤ j ∧ j ≤ N ∧ Hid (ByR yb wi (.slice ya j yc) (pL f ks j) ∧ Below yb w5 wi)) (fun _ i _ => N - (intOf i).toNat)
      case atStart => exact ⟨f.safe, _, _, rfl, rfl, Nat.le_refl _, HNB.out.1, HBY6.out, HW6.out⟩
      case round =>
        obtain ⟨j, ya, yc, rfl, rfl, hj1, hj2, HI⟩ := hrel
        have HJ1 := Lib.hid hj1
        have HJ2 := Lib.hid hj2
        have HBI : Hid (Below w5.heap.size w5 wr) := by have := HI.out.2; rw [HYB.out] at this; exact this
        have BKI := Lib.hid (BK5.out.below HBI.out)
        have b0 : wr.cell? ⟨zb, 0, none⟩ = some (.string ⟨f.name.toArray⟩) := BKI.out.cell 0
        have b1 : wr.cell? ⟨zb, 1, none⟩ = some (.string f.data) := BKI.out.cell 1
        have b2 : wr.cell? ⟨zb, 2, none⟩ = some (.int .i64 (f.safe : Nat)) := BKI.out.cell 2
        have HLI := Lib.hid ((HL.out.kept HG5.out.step.fr.kept).kept (Kept.of_below HBI.out _))
        have i2 : (0 : Int) ≤ (j : Int) := by omega
        have i3 : (j : Int) ≤ 1048576 := by have := HNB.out; have := HSZ.out; omega
        have hsf : (f.safe : Int) ≤ (j : Int) := by omega
        have hwj : IntKind.i64.wrap ((j : Int) - (f.safe : Int)) = (j : Int) - (f.safe : Int) := IntWalk.i64_in _ (by omega)
        clear hj1 hj2
        by_cases h1 : j < f.data.size
        rotate_left
        · have hjn : j = N := by have := HNB.out; have := HJ2.out; omega
          have hd1 : decide ((j : Int) < (f.data.size : Int)) = false := decide_eq_false (by omega)
          have hd0 : decide (j < f.data.size) = false := decide_eq_false (by omega)
          clear h1
          have HJX := Lib.hid hjn
          clear hjn
          go_wp2_with fail
          go_quiet (fail)
          have HBW : Hid (Below wr.heap.size wr (wr.drewN nq)) := below_dN (Below.refl _ _) nq
          have HBD := Lib.hid (HBI.out.trans (HBW.out.mono HBI.out.size))
          have HYD := Lib.hid (HI.out.1.below HBW.out)
          clear b0 b1 b2
          generalize wr.drewN nq = wd at *
          have BKD := Lib.hid (BK5.out.below HBD.out)
          have HGD := Lib.hid (HG5.out.below HBD.out)
          have b0 : wd.cell? ⟨zb, 0, none⟩ = some (.string ⟨f.name.toArray⟩) := BKD.out.cell 0
          have c1 : wd.cell? ⟨q, 1, none⟩ = some (.slice fa m.fs.length fc) := by
            have h1 := (md7 HGD.out.at_.ptr).2.1
            dsimp only at h1
            rw [crK_len] at h1; exact h1
          rw [HFA.out] at c1
          obtain ⟨g', f', hfa, hf, u0, u1, u2, hfz⟩ := HGD.out.at_.at k (by show k < (crK l m.fs k).length; rw [crK_len]; exact hlt)
          obtain rfl : f' = f := by
            have h1 : (crK l m.fs k)[k]? = some f' := hf
            rw [HFK.out] at h1; injection h1 with h1; exact h1.symm
          obtain rfl : g' = g := by
            rw [HFA.out] at hfa; injection hfa with hfa; injection hfa with hfa; exact hfa.symm
          have y0 := hfz (k * 3)
          have y1 := hfz (k * 3 + 1)
          have y2 := hfz (k * 3 + 2)
          obtain ⟨gy, rfl, -, -, -, hrow⟩ := HYD.out.rowB
          have hpl : (pL f' ks j).length = j := pL_len f' ks j (by have := HNB.out; have := HJ2.out; omega)
          have hcv := fun dst cap => @run_convert_bytes_back Try.prog wd.drew 35 dst 5 ⟨gy, 0, none⟩ cap (pL f' ks j) Try.underlying35 Try.underlying5
          have hcb : (convert 35 9 (.slice (some ⟨gy, 0, none⟩) (pL f' ks j).length yc)).run Try.prog wd.drew = .ok (.string ⟨(pL f' ks j).toArray⟩) wd.drew :=
            hcv 9 _ Try.underlying9 (fun j hj => by
              rw [Mem.add0]
              exact (hrow j _ (List.getElem?_eq_getElem hj)).1)
          rw [hpl] at hcb
          have FIN : Hid (MdGo base q fa w (((wd.setCell ⟨g', k * 3, none⟩ (.string ⟨f'.name.toArray⟩)).setCell ⟨g', k * 3 + 1, none⟩ (.string ⟨(pL f' ks j).toArray⟩)).setCell ⟨g', k * 3 + 2, none⟩ (.int .i64 (j : Nat))).drew { m with off := false, armed := false, fs := crK l m.fs (k + 1) } fa fc) := by
            have h := HGD.out
            rw [HFA.out] at h
            have h2 := h.file (f := f') HFK.out (crashF kb ks f')
            have e1 : (crK l m.fs k).set k (crashF kb ks f') = crK l m.fs (k + 1) := by
              have := crK_next l HF.out
              rw [← HKB.out, ← HKS.out] at this; exact this
            have h3 := h2.like (m' := { m with off := false, armed := false, fs := crK l m.fs (k + 1) }) e1.symm ⟨rfl, rfl, rfl, rfl, rfl, rfl⟩
            rw [HJX.out, HNK.out]
            rw [← HFA.out] at h3
            exact h3.below (Below.refl _ _).drew
          clear hpl hcv hrow hfz hfa hf
          go_upto_region 14 with (fail)
          go_still_tail 13, (by kernel_rfl)
          change wpList _ _ _ _ _ wd.drew
          go_wp2_with fail
          go_roundw
          case rel => exact ⟨k + 1, by go_num, by omega, FIN.out⟩
          case measure => simp [intOf]; omega
        have h1' : (j : Int) < (f.data.size : Int) := by omega
        by_cases h2 : k < ll
        rotate_left
        · have hjn : j = N := by
            have hka : keepAt l k = (0, -1) := by
              unfold keepAt
              rw [List.getElem?_eq_none (by rw [HLL.out]; omega)]; rfl
            have e : N = f.safe := by
              rw [HNK.out, HKB.out, hka]; unfold keptN; simp
            have := HJ1.out; have := HJ2.out; omega
          have hd1 : decide ((k : Int) < (ll : Int)) = false := decide_eq_false (by omega)
          have hd0 : decide (k < ll) = false := decide_eq_false (by omega)
          clear h2
          have HJX := Lib.hid hjn
          clear hjn
          go_wp2_with fail
          go_quiet (fail)
          have HBW : Hid (Below wr.heap.size wr (wr.drewN nq)) := below_dN (Below.refl _ _) nq
          have HBD := Lib.hid (HBI.out.trans (HBW.out.mono HBI.out.size))
          have HYD := Lib.hid (HI.out.1.below HBW.out)
          clear b0 b1 b2
          generalize wr.drewN nq = wd at *
          have BKD := Lib.hid (BK5.out.below HBD.out)
          have HGD := Lib.hid (HG5.out.below HBD.out)
          have b0 : wd.cell? ⟨zb, 0, none⟩ = some (.string ⟨f.name.toArray⟩) := BKD.out.cell 0
          have c1 : wd.cell? ⟨q, 1, none⟩ = some (.slice fa m.fs.length fc) := by
            have h1 := (md7 HGD.out.at_.ptr).2.1
            dsimp only at h1
            rw [crK_len] at h1; exact h1
          rw [HFA.out] at c1
          obtain ⟨g', f', hfa, hf, u0, u1, u2, hfz⟩ := HGD.out.at_.at k (by show k < (crK l m.fs k).length; rw [crK_len]; exact hlt)
          obtain rfl : f' = f := by
            have h1 : (crK l m.fs k)[k]? = some f' := hf
            rw [HFK.out] at h1; injection h1 with h1; exact h1.symm
          obtain rfl : g' = g := by
            rw [HFA.out] at hfa; injection hfa with hfa; injection hfa with hfa; exact hfa.symm
          have y0 := hfz (k * 3)
          have y1 := hfz (k * 3 + 1)
          have y2 := hfz (k * 3 + 2)
          obtain ⟨gy, rfl, -, -, -, hrow⟩ := HYD.out.rowB
          have hpl : (pL f' ks j).length = j := pL_len f' ks j (by have := HNB.out; have := HJ2.out; omega)
          have hcv := fun dst cap => @run_convert_bytes_back Try.prog wd.drew 35 dst 5 ⟨gy, 0, none⟩ cap (pL f' ks j) Try.underlying35 Try.underlying5
          have hcb : (convert 35 9 (.slice (some ⟨gy, 0, none⟩) (pL f' ks j).length yc)).run Try.prog wd.drew = .ok (.string ⟨(pL f' ks j).toArray⟩) wd.drew :=
            hcv 9 _ Try.underlying9 (fun j hj => by
              rw [Mem.add0]
              exact (hrow j _ (List.getElem?_eq_getElem hj)).1)
          rw [hpl] at hcb
          have FIN : Hid (MdGo base q fa w (((wd.setCell ⟨g', k * 3, none⟩ (.string ⟨f'.name.toArray⟩)).setCell ⟨g', k * 3 + 1, none⟩ (.string ⟨(pL f' ks j).toArray⟩)).setCell ⟨g', k * 3 + 2, none⟩ (.int .i64 (j : Nat))).drew { m with off := false, armed := false, fs := crK l m.fs (k + 1) } fa fc) := by
            have h := HGD.out
            rw [HFA.out] at h
            have h2 := h.file (f := f') HFK.out (crashF kb ks f')
            have e1 : (crK l m.fs k).set k (crashF kb ks f') = crK l m.fs (k + 1) := by
              have := crK_next l HF.out
              rw [← HKB.out, ← HKS.out] at this; exact this
            have h3 := h2.like (m' := { m with off := false, armed := false, fs := crK l m.fs (k + 1) }) e1.symm ⟨rfl, rfl, rfl, rfl, rfl, rfl⟩
            rw [HJX.out, HNK.out]
            rw [← HFA.out] at h3
            exact h3.below (Below.refl _ _).drew
          clear hpl hcv hrow hfz hfa hf
          go_upto_region 14 with (fail)
          go_still_tail 13, (by kernel_rfl)
          change wpList _ _ _ _ _ wd.drew
          go_wp2_with fail
          go_roundw
          case rel => exact ⟨k + 1, by go_num, by omega, FIN.out⟩
          case measure => simp [intOf]; omega
        have h2' : (k : Int) < (ll : Int) := by omega
        obtain ⟨lb, lo, kp, rfl, hkp, -, -, v0, v1⟩ := kp_at HLI.out k h2
        have hka : keepAt l k = kp := by unfold keepAt; rw [hkp]; rfl
        have hkb1 : kp.1 = kb := by rw [HKB.out, hka]
        have hks1 : kp.2 = ks := by rw [HKS.out, hka]
        rw [hkb1] at v0
        rw [hks1] at v1
        clear hkp hka hkb1 hks1
        by_cases h3 : (j : Int) - (f.safe : Int) < kb
        rotate_left
        · have hjn : j = N := by
            have e := HNK.out
            unfold keptN at e
            have := HJ1.out; have := HJ2.out; omega
          have hd1 : decide ((j : Int) - (f.safe : Int) < kb) = false := decide_eq_false h3
          clear v1
          have HJX := Lib.hid hjn
          clear hjn
          go_wp2_with fail
          go_quiet (fail)
          have HBW : Hid (Below wr.heap.size wr (wr.drewN nq)) := below_dN (Below.refl _ _) nq
          have HBD := Lib.hid (HBI.out.trans (HBW.out.mono HBI.out.size))
          have HYD := Lib.hid (HI.out.1.below HBW.out)
          clear b0 b1 b2
          generalize wr.drewN nq = wd at *
          have BKD := Lib.hid (BK5.out.below HBD.out)
          have HGD := Lib.hid (HG5.out.below HBD.out)
          have b0 : wd.cell? ⟨zb, 0, none⟩ = some (.string ⟨f.name.toArray⟩) := BKD.out.cell 0
          have c1 : wd.cell? ⟨q, 1, none⟩ = some (.slice fa m.fs.length fc) := by
            have h1 := (md7 HGD.out.at_.ptr).2.1
            dsimp only at h1
            rw [crK_len] at h1; exact h1
          rw [HFA.out] at c1
          obtain ⟨g', f', hfa, hf, u0, u1, u2, hfz⟩ := HGD.out.at_.at k (by show k < (crK l m.fs k).length; rw [crK_len]; exact hlt)
          obtain rfl : f' = f := by
            have h1 : (crK l m.fs k)[k]? = some f' := hf
            rw [HFK.out] at h1; injection h1 with h1; exact h1.symm
          obtain rfl : g' = g := by
            rw [HFA.out] at hfa; injection hfa with hfa; injection hfa with hfa; exact hfa.symm
          have y0 := hfz (k * 3)
          have y1 := hfz (k * 3 + 1)
          have y2 := hfz (k * 3 + 2)
          obtain ⟨gy, rfl, -, -, -, hrow⟩ := HYD.out.rowB
          have hpl : (pL f' ks j).length = j := pL_len f' ks j (by have := HNB.out; have := HJ2.out; omega)
          have hcv := fun dst cap => @run_convert_bytes_back Try.prog wd.drew 35 dst 5 ⟨gy, 0, none⟩ cap (pL f' ks j) Try.underlying35 Try.underlying5
          have hcb : (convert 35 9 (.slice (some ⟨gy, 0, none⟩) (pL f' ks j).length yc)).run Try.prog wd.drew = .ok (.string ⟨(pL f' ks j).toArray⟩) wd.drew :=
            hcv 9 _ Try.underlying9 (fun j hj => by
              rw [Mem.add0]
              exact (hrow j _ (List.getElem?_eq_getElem hj)).1)
          rw [hpl] at hcb
          have FIN : Hid (MdGo base q fa w (((wd.setCell ⟨g', k * 3, none⟩ (.string ⟨f'.name.toArray⟩)).setCell ⟨g', k * 3 + 1, none⟩ (.string ⟨(pL f' ks j).toArray⟩)).setCell ⟨g', k * 3 + 2, none⟩ (.int .i64 (j : Nat))).drew { m with off := false, armed := false, fs := crK l m.fs (k + 1) } fa fc) := by
            have h := HGD.out
            rw [HFA.out] at h
            have h2 := h.file (f := f') HFK.out (crashF kb ks f')
            have e1 : (crK l m.fs k).set k (crashF kb ks f') = crK l m.fs (k + 1) := by
              have := crK_next l HF.out
              rw [← HKB.out, ← HKS.out] at this; exact this
            have h3 := h2.like (m' := { m with off := false, armed := false, fs := crK l m.fs (k + 1) }) e1.symm ⟨rfl, rfl, rfl, rfl, rfl, rfl⟩
            rw [HJX.out, HNK.out]
            rw [← HFA.out] at h3
            exact h3.below (Below.refl _ _).drew
          clear hpl hcv hrow hfz hfa hf
          go_upto_region 14 with (fail)
          go_still_tail 13, (by kernel_rfl)
          change wpList _ _ _ _ _ wd.drew
          go_wp2_with fail
          go_roundw
          case rel => exact ⟨k + 1, by go_num, by omega, FIN.out⟩
          case measure => simp [intOf]; omega
        have HJN : Hid (j < N) := by
          have e := HNK.out
          unfold keptN at e
          show j < N
          omega
        obtain ⟨bt, hbt⟩ : ∃ x, f.data.data.toList[j]? = some x := ⟨_, List.getElem?_eq_getElem (by rw [Array.length_toList]; exact h1)⟩
        have g1 : (f.data[j]'h1).toNat = bt.toNat := by rw [byte_get hbt]
        have HBT := Lib.hid hbt
        have hx := xor_u8 bt
        clear hbt
        go_wp2_with fail
        go_quiet (fail)
        have HBW : Hid (Below wr.heap.size wr (wr.drewN nq)) := below_dN (Below.refl _ _) nq
        have HBD := Lib.hid (HBI.out.trans (HBW.out.mono HBI.out.size))
        have HYD := Lib.hid (HI.out.1.below HBW.out)
        clear b0 b1 b2
        generalize wr.drewN nq = wd at *
        have BKD := Lib.hid (BK5.out.below HBD.out)
        have b1 : wd.cell? ⟨zb, 1, none⟩ = some (.string f.data) := BKD.out.cell 1
        replace v1 := cell_upB v1 HBW.out
        by_cases hse : ((j / 64 : Nat) : Int) = ks
        · have hse' : ((j : Int) / 64 == ks) = true := by rw [beq_iff_eq]; omega
          have HTB : Hid (turnB ks j bt = bt ^^^ 165) := if_pos hse
          clear hse
          have hal := (Below.refl wd.heap.size wd).alloc (Nat.le_refl _) (.cells #[.int .u8 (((bt ^^^ 165)).toNat : Int)] 5)
          have HY2 := Lib.hid (HYD.out.below hal)
          have HB2 := Lib.hid (HBD.out.trans (hal.mono HBD.out.size))
          have HN2 : Hid ((wd.alloc (.cells #[.int .u8 (((bt ^^^ 165)).toNat : Int)] 5)).cell? ⟨wd.heap.size, 0, none⟩ = some (.int .u8 (((bt ^^^ 165)).toNat : Int))) := (Mem.Blk.new wd 5 #[.int .u8 (((bt ^^^ 165)).toNat : Int)]).cell 0
          have HLY : Hid (yb ≤ (wd.alloc (.cells #[.int .u8 (((bt ^^^ 165)).toNat : Int)] 5)).heap.size) := by rw [HYB.out]; exact HB2.out.size
          have HPL : Hid ((pL f ks j).length ≤ 1000000000) := by
            show _ ≤ _
            rw [pL_len f ks j (by omega)]; have := HSZ.out; omega
          clear hal
          go_wp2_with (at_builtin; refine ap_byte Try.underlying35 rfl (.tmp 78) (.tmp 80) rfl rfl HY2.out HLY.out wd.heap.size 0 1 (bt ^^^ 165) rfl HN2.out HPL.out ?_; intro v3 w3 o1 g1; have HO3 := Lib.hid o1; have HG3 := Lib.hid g1; clear o1 g1)
          have hpn : pL f ks j ++ [(bt ^^^ 165)] = pL f ks (j + 1) := by rw [pL_next f ks j bt HJ1.out HBT.out, HTB.out]
          rw [hpn] at HO3
          obtain ⟨a', c', rfl⟩ := HO3.out.form
          have hpl : (pL f ks (j + 1)).length = j + 1 := pL_len f ks (j + 1) (by have := HNB.out; have := HJN.out; omega)
          rw [hpl] at HO3 ⊢
          have HB3 : Hid (Below yb w5 w3) := by
            have h1 := HB2.out.grown HG3.out HB2.out.size (fun b hb => by have := (HY2.out.lt hb).1; rw [HYB.out] at this; exact this)
            show Below yb w5 w3
            rw [HYB.out]; exact h1
          go_roundw
          case rel => exact ⟨j + 1, a', c', rfl, by go_num, by have := HJ1.out; omega, by have := HJN.out; omega, HO3.out, HB3.out⟩
          case measure => simp [intOf]; have := HJN.out; omega
        · have hse' : ((j : Int) / 64 == ks) = false := by rw [beq_eq_false_iff_ne]; omega
          have HTB : Hid (turnB ks j bt = bt) := if_neg hse
          clear hse
          have hal := (Below.refl wd.heap.size wd).alloc (Nat.le_refl _) (.cells #[.int .u8 ((bt).toNat : Int)] 5)
          have HY2 := Lib.hid (HYD.out.below hal)
          have HB2 := Lib.hid (HBD.out.trans (hal.mono HBD.out.size))
          have HN2 : Hid ((wd.alloc (.cells #[.int .u8 ((bt).toNat : Int)] 5)).cell? ⟨wd.heap.size, 0, none⟩ = some (.int .u8 ((bt).toNat : Int))) := (Mem.Blk.new wd 5 #[.int .u8 ((bt).toNat : Int)]).cell 0
          have HLY : Hid (yb ≤ (wd.alloc (.cells #[.int .u8 ((bt).toNat : Int)] 5)).heap.size) := by rw [HYB.out]; exact HB2.out.size
          have HPL : Hid ((pL f ks j).length ≤ 1000000000) := by
            show _ ≤ _
            rw [pL_len f ks j (by omega)]; have := HSZ.out; omega
          clear hal
          go_wp2_with (at_builtin; refine ap_byte Try.underlying35 rfl (.tmp 78) (.tmp 80) rfl rfl HY2.out HLY.out wd.heap.size 0 1 bt rfl HN2.out HPL.out ?_; intro v3 w3 o1 g1; have HO3 := Lib.hid o1; have HG3 := Lib.hid g1; clear o1 g1)
          have hpn : pL f ks j ++ [bt] = pL f ks (j + 1) := by rw [pL_next f ks j bt HJ1.out HBT.out, HTB.out]
          rw [hpn] at HO3
          obtain ⟨a', c', rfl⟩ := HO3.out.form
          have hpl : (pL f ks (j + 1)).length = j + 1 := pL_len f ks (j + 1) (by have := HNB.out; have := HJN.out; omega)
          rw [hpl] at HO3 ⊢
          have HB3 : Hid (Below yb w5 w3) := by
            have h1 := HB2.out.grown HG3.out HB2.out.size (fun b hb => by have := (HY2.out.lt hb).1; rw [HYB.out] at this; exact this)
            show Below yb w5 w3
            rw [HYB.out]; exact h1
          go_roundw
          case rel => exact ⟨j + 1, a', c', rfl, by go_num, by have := HJ1.out; omega, by have := HJN.out; omega, HO3.out, HB3.out⟩
          case measure => simp [intOf]; have := HJN.out; omega
    · have hlt' : ¬ (k : Int) < (m.fs.length : Int) := by omega
      have hke : k = m.fs.length := by omega
      have FIN : Hid (MdDone base q fa w wr (crashS m l)) := by
        have h1 := HR.out.done
        rw [hke, crK_end] at h1
        exact h1.like rfl ⟨rfl, rfl, rfl, rfl, rfl, rfl⟩
      clear HR hke
      go_wp2_with fail
      go_end0
      exact ⟨rfl, FIN.out⟩
end Go.Proofs.Ytefpjdgfcgjbaaa
