/- A part of the proof: DkB, DkL, DkG, DkQ, DkA, Apz, one behind another. -/
import Derived.Test.YtefpjdgfcgjbaaaMOA
import Derived.Test.YtefpjdgfcgjbaaaMOB
import Derived.Deep.QuietTactic
import Derived.BigQuiet
import Derived.IntWalk
import Derived.Deep.DeepCutAuto
import Derived.Deep.CutBlock
import Derived.LoopTactic
import Derived.Deep.Upon
/- The contract of begin. -/
namespace Go.Proofs.Ytefpjdgfcgjbaaa
set_option linter.unusedVariables false
set_option linter.unusedSimpArgs false
open Go.RowKit
set_option maxRecDepth 100000 in
set_option maxHeartbeats 4000000 in
theorem begin_any (p : Nat) (s : St) (ns : List Nm) (a : Option Addr) (n c : Nat) (w : World) (hD : DkAt w p s) (hN : SlR strK w [p] ns a n c) (hb : s.calls ≤ 4611686018427387904) (hn : n ≤ 1000) :
    Calls Try.prog 33 #[.pointer (some ⟨p, 0, none⟩), .slice a n c] w fun x w' => x = .returned (.int .i64 (beginS s ns).1) ∧ DkAt w' p (beginS s ns).2 ∧ DkStep p s (beginS s ns).2 w w' := by
  have HD := Lib.hid hD
  have HN := Lib.hid hN
  have hOK := hD.ok
  obtain ⟨c0, c1, c2, c3, c4, c5, c6, c7⟩ := dk8 hD.ptr
  obtain ⟨f0, f1, f2, f3, f4, f5, f6, f7⟩ := dkF hD.ptr
  have HO := Lib.hid hOK
  have hlf := hOK.lf
  have hwr := hOK.wr
  obtain ⟨R, hR⟩ : ∃ R, R = beginS s ns := ⟨_, rfl⟩
  have HR := Lib.hid hR
  rw [← hR]
  clear hR hD hN hOK
  obtain ⟨room, used, written, calls, left, off, armed, fs, mb, mn⟩ := s
  dsimp only at c0 c1 c2 c3 c4 c5 c6 c7 hb hlf hwr
  cases off with
  | true =>
    obtain rfl : R = (6, _) := HR.out
    have HF := Lib.hid (DkStep.refl p (⟨room, used, written, calls, left, true, armed, fs, mb, mn⟩ : St) w)
    clear HR hlf hwr hb HO
    go_enter Try.func33, Try.ntmps33
    go_wp2_with fail
    go_ret
    exact ⟨rfl, HD.out, HF.out⟩
  | false =>
    have hc1 : IntKind.i64.wrap (calls + 1) = calls + 1 := IntWalk.i64_in _ (by omega)
    cases armed with
    | true =>
      by_cases hl0 : left = 0
      · subst hl0
        obtain rfl : R = (6, { room := room, used := used, written := written, calls := calls + 1, left := 0, off := true, armed := true, fs := fs, mb := mb, mn := mn }) := HR.out
        have HT : Hid (DkAt _ p _ ∧ DkStep p _ _ w _) := HD.out.turn (s' := { room := room, used := used, written := written, calls := calls + 1, left := 0, off := true, armed := true, fs := fs, mb := mb, mn := mn }) (w' := (w.setCell ⟨p, 4, none⟩ (.int .i64 (calls + 1))).setCell ⟨p, 5, none⟩ (.bool true)) ((Fr.setCell w (by simp) _).trans (Fr.setCell _ (by simp) _)) ((HD.out.ptr.set_ 4 _).set_ 5 _) rfl rfl rfl ⟨HO.out.one, HO.out.up, HO.out.nam, HO.out.siz, HO.out.use, HO.out.rm, HO.out.lf, ⟨hwr.1, by show 0 ≤ calls + 1; omega⟩⟩
        clear HR hlf hwr hb HO HD
        go_enter Try.func33, Try.ntmps33
        go_wp2_with fail
        go_ret
        exact ⟨rfl, HT.out⟩
      · have hl0b : (left == 0) = false := beq_eq_false_iff_ne.2 hl0
        have hl1 : IntKind.i64.wrap (left - 1) = left - 1 := IntWalk.i64_in _ (by omega)
        have HR2 : Hid (R = (if ns.any badN then 1 else 0, ({ room := room, used := used, written := written, calls := calls + 1, left := left - 1, off := false, armed := true, fs := fs, mb := mb, mn := mn } : St))) := by
          show R = _
          rw [HR.out]
          unfold beginS
          simp [hl0]
        have HT : Hid (DkAt _ p _ ∧ DkStep p _ _ w _) := HD.out.turn (s' := { room := room, used := used, written := written, calls := calls + 1, left := left - 1, off := false, armed := true, fs := fs, mb := mb, mn := mn }) (w' := (w.setCell ⟨p, 4, none⟩ (.int .i64 (calls + 1))).setCell ⟨p, 7, none⟩ (.int .i64 (left - 1))) ((Fr.setCell w (by simp) _).trans (Fr.setCell _ (by simp) _)) ((HD.out.ptr.set_ 4 _).set_ 7 _) rfl rfl rfl ⟨HO.out.one, HO.out.up, HO.out.nam, HO.out.siz, HO.out.use, HO.out.rm, ⟨by show 0 ≤ left - 1; omega, by show left - 1 ≤ _; omega⟩, ⟨hwr.1, by show 0 ≤ calls + 1; omega⟩⟩
        have HN2 := Lib.hid (HN.out.kept (((Fr.setCell w (X := [p]) (p := ⟨p, 4, none⟩) (by simp) (.int .i64 (calls + 1))).trans (Fr.setCell _ (p := ⟨p, 7, none⟩) (by simp) (.int .i64 (left - 1)))).kept))
        clear HR hlf hwr hb HO HD HN
        go_enter Try.func33, Try.ntmps33
        go_upto_region 11 with (fail)
        generalize ((w.setCell ⟨p, 4, none⟩ (.int .i64 (calls + 1))).setCell ⟨p, 7, none⟩ (.int .i64 (left - 1))) = w1 at *
        clear c0 c1 c2 c3 c4 c5 c6 c7 f0 f1 f2 f3 f4 f5 f6 f7
        have hlen := HN2.out.facts.1
        have HLEN := Lib.hid hlen
        clear hlen
        go_wp2_with fail
        go_loopw [43] (fun i wr => ∃ (k : Nat), i = .int .i64 (k : Nat) ∧ k ≤ n ∧ wr = w1 ∧ Hid (∀ j t, j < k → ns[j]? = some t → badN t = false)) (fun i _ => n - (intOf i).toNat)
        case atStart => exact ⟨0, rfl, Nat.zero_le _, rfl, fun j t h => absurd h (by omega)⟩
        case round =>
          obtain ⟨k, rfl, hk, rfl, HG⟩ := hrel
          by_cases hlt : k < n
          · have hk' : (k : Int) < (n : Int) := by omega
            have i0 : (0 : Int) ≤ (k : Int) := by omega
            obtain ⟨b, o, t, rfl, ht, u0⟩ := str_at HN2.out k hlt
            have HTK := Lib.hid ht
            clear ht
            cases hbad : badN t with
            | true =>
              have HAN : Hid (ns.any badN = true) := List.any_eq_true.2 ⟨t, List.mem_of_getElem? HTK.out, hbad⟩
              have HRF := HR2.out
              rw [HAN.out] at HRF
              subst HRF
              clear HG HLEN HN2 HAN HTK
              cases t with
              | nil =>
                clear hbad
                go_wp2_with fail
                go_ret
                exact ⟨rfl, HT.out⟩
              | cons x t =>
                have hsz : (24 : Int) < ((x :: t).length : Int) := by
                  simp only [badN, List.isEmpty_cons, Bool.false_or, decide_eq_true_eq] at hbad
                  omega
                have e0 : (⟨(x :: t).toArray⟩ : ByteArray).toList.isEmpty = false := by rw [ByteArray.toList_mk]; rfl
                have e1 : (⟨(x :: t).toArray⟩ : ByteArray).size = (x :: t).length := rfl
                generalize (⟨(x :: t).toArray⟩ : ByteArray) = T at *
                generalize (x :: t).length = q at *
                clear hbad
                go_wp2_with fail
                go_ret
                exact ⟨rfl, HT.out⟩
            | false =>
              cases t with
              | nil => cases hbad
              | cons x t =>
                have hsz : ¬ (24 : Int) < ((x :: t).length : Int) := by
                  simp only [badN, List.isEmpty_cons, Bool.false_or, decide_eq_false_iff_not] at hbad
                  omega
                have HG2 : Hid (∀ j u, j < k + 1 → ns[j]? = some u → badN u = false) := by
                  intro j u hj hu
                  by_cases hjk : j < k
                  · exact HG.out j u hjk hu
                  · obtain rfl : j = k := by omega
                    rw [HTK.out] at hu; injection hu with hu; subst hu; exact hbad
                have e0 : (⟨(x :: t).toArray⟩ : ByteArray).toList.isEmpty = false := by rw [ByteArray.toList_mk]; rfl
                have e1 : (⟨(x :: t).toArray⟩ : ByteArray).size = (x :: t).length := rfl
                generalize (⟨(x :: t).toArray⟩ : ByteArray) = T at *
                generalize (x :: t).length = q at *
                clear hbad HTK HG HR2
                go_wp2_with fail
                go_roundw
                case rel => exact ⟨k + 1, by go_num, by omega, trivial, HG2.out⟩
                case measure => simp [intOf]; omega
          · have hk' : ¬ (k : Int) < (n : Int) := by omega
            have HAN : Hid (ns.any badN = false) := by
              refine List.any_eq_false.2 (fun t ht => ?_)
              obtain ⟨j, hj⟩ := List.getElem?_of_mem ht
              have := HG.out j t (by have := (List.getElem?_eq_some_iff.1 hj).1; have := HLEN.out; omega) hj
              rw [this]; simp
            have HRF := HR2.out
            rw [HAN.out] at HRF
            subst HRF
            clear HG HLEN HN2
            go_wp2_with fail
            go_ret
            exact ⟨rfl, HT.out⟩
    | false =>
      have HR2 : Hid (R = (if ns.any badN then 1 else 0, ({ room := room, used := used, written := written, calls := calls + 1, left := left, off := false, armed := false, fs := fs, mb := mb, mn := mn } : St))) := by
        show R = _
        rw [HR.out]
        unfold beginS
        simp
      have HT : Hid (DkAt _ p _ ∧ DkStep p _ _ w _) := HD.out.turn (s' := { room := room, used := used, written := written, calls := calls + 1, left := left, off := false, armed := false, fs := fs, mb := mb, mn := mn }) (w' := w.setCell ⟨p, 4, none⟩ (.int .i64 (calls + 1))) (Fr.setCell w (by simp) _) (HD.out.ptr.set_ 4 _) rfl rfl rfl ⟨HO.out.one, HO.out.up, HO.out.nam, HO.out.siz, HO.out.use, HO.out.rm, HO.out.lf, ⟨hwr.1, by show 0 ≤ calls + 1; omega⟩⟩
      have HN2 := Lib.hid (HN.out.kept ((Fr.setCell w (X := [p]) (p := ⟨p, 4, none⟩) (by simp) (.int .i64 (calls + 1))).kept))
      clear HR hlf hwr hb HO HD HN
      go_enter Try.func33, Try.ntmps33
      go_upto_region 11 with (fail)
      generalize (w.setCell ⟨p, 4, none⟩ (.int .i64 (calls + 1))) = w1 at *
      clear c0 c1 c2 c3 c4 c5 c6 c7 f0 f1 f2 f3 f4 f5 f6 f7
      have hlen := HN2.out.facts.1
      have HLEN := Lib.hid hlen
      clear hlen
      go_wp2_with fail
      go_loopw [43] (fun i wr => ∃ (k : Nat), i = .int .i64 (k : Nat) ∧ k ≤ n ∧ wr = w1 ∧ Hid (∀ j t, j < k → ns[j]? = some t → badN t = false)) (fun i _ => n - (intOf i).toNat)
      case atStart => exact ⟨0, rfl, Nat.zero_le _, rfl, fun j t h => absurd h (by omega)⟩
      case round =>
        obtain ⟨k, rfl, hk, rfl, HG⟩ := hrel
        by_cases hlt : k < n
        · have hk' : (k : Int) < (n : Int) := by omega
          have i0 : (0 : Int) ≤ (k : Int) := by omega
          obtain ⟨b, o, t, rfl, ht, u0⟩ := str_at HN2.out k hlt
          have HTK := Lib.hid ht
          clear ht
          cases hbad : badN t with
          | true =>
            have HAN : Hid (ns.any badN = true) := List.any_eq_true.2 ⟨t, List.mem_of_getElem? HTK.out, hbad⟩
            have HRF := HR2.out
            rw [HAN.out] at HRF
            subst HRF
            clear HG HLEN HN2 HAN HTK
            cases t with
            | nil =>
              clear hbad
              go_wp2_with fail
              go_ret
              exact ⟨rfl, HT.out⟩
            | cons x t =>
              have hsz : (24 : Int) < ((x :: t).length : Int) := by
                simp only [badN, List.isEmpty_cons, Bool.false_or, decide_eq_true_eq] at hbad
                omega
              have e0 : (⟨(x :: t).toArray⟩ : ByteArray).toList.isEmpty = false := by rw [ByteArray.toList_mk]; rfl
              have e1 : (⟨(x :: t).toArray⟩ : ByteArray).size = (x :: t).length := rfl
              generalize (⟨(x :: t).toArray⟩ : ByteArray) = T at *
              generalize (x :: t).length = q at *
              clear hbad
              go_wp2_with fail
              go_ret
              exact ⟨rfl, HT.out⟩
          | false =>
            cases t with
            | nil => cases hbad
            | cons x t =>
              have hsz : ¬ (24 : Int) < ((x :: t).length : Int) := by
                simp only [badN, List.isEmpty_cons, Bool.false_or, decide_eq_false_iff_not] at hbad
                omega
              have HG2 : Hid (∀ j u, j < k + 1 → ns[j]? = some u → badN u = false) := by
                intro j u hj hu
                by_cases hjk : j < k
                · exact HG.out j u hjk hu
                · obtain rfl : j = k := by omega
                  rw [HTK.out] at hu; injection hu with hu; subst hu; exact hbad
              have e0 : (⟨(x :: t).toArray⟩ : ByteArray).toList.isEmpty = false := by rw [ByteArray.toList_mk]; rfl
              have e1 : (⟨(x :: t).toArray⟩ : ByteArray).size = (x :: t).length := rfl
              generalize (⟨(x :: t).toArray⟩ : ByteArray) = T at *
              generalize (x :: t).length = q at *
              clear hbad HTK HG HR2
              go_wp2_with fail
              go_roundw
              case rel => exact ⟨k + 1, by go_num, by omega, trivial, HG2.out⟩
              case measure => simp [intOf]; omega
        · have hk' : ¬ (k : Int) < (n : Int) := by omega
          have HAN : Hid (ns.any badN = false) := by
            refine List.any_eq_false.2 (fun t ht => ?_)
            obtain ⟨j, hj⟩ := List.getElem?_of_mem ht
            have := HG.out j t (by have := (List.getElem?_eq_some_iff.1 hj).1; have := HLEN.out; omega) hj
            rw [this]; simp
          have HRF := HR2.out
          rw [HAN.out] at HRF
          subst HRF
          clear HG HLEN HN2
          go_wp2_with fail
          go_ret
          exact ⟨rfl, HT.out⟩
end Go.Proofs.Ytefpjdgfcgjbaaa

/- What a look into the disk's map gives; the contracts of Read, Used, Free, Written, Calls, On, Safe, Arm. -/
namespace Go.Proofs.Ytefpjdgfcgjbaaa
set_option linter.unusedVariables false
set_option linter.unusedSimpArgs false
open Go.RowKit
def ptrV : Option Fi → Value
  | none => .pointer none
  | some f => .pointer (some ⟨f.blk, 0, none⟩)
theorem zeroPF (w : World) : (zeroValue 66).run Try.prog w = .ok (.pointer none) w := by kernel_rfl
section
variable {w : World} {p : Nat} {s : St}
theorem look1_map {mb mn : Nat} {fs : List Fi} (h : ∃ D, w.ownsMap Try.prog 9 ptrR mb mn D ∧ MapOf fs D) (hu : UpF fs) (nm : ByteArray) (hn : nm.size ≤ maxLen) : (Instr.lookup 62 (.map (some mb)) (.string nm) true).run Try.prog w = .ok (.tuple #[ptrV (findF fs nm.data.toList), .bool (findF fs nm.data.toList).isSome]) w := by
  obtain ⟨D, hD, hM⟩ := h
  obtain ⟨v, ps, hr, hv⟩ := hD.look_ok (Maps.string_keyed Try.underlying9) Try.underlying62 (zeroPF w) (zd := .nil) (zp := []) rfl (Go.WideMaps.keyOf_string_mk Try.underlying9 hn)
  rw [hr, hM.has]
  cases hf : findF fs nm.data.toList with
  | none =>
    rw [hM.at_none hf] at hv
    rw [ptrR_nil hv]; rfl
  | some f =>
    rw [hM.at_some hu hf] at hv
    rw [ptrR_inv hv]; rfl
theorem look0_map {mb mn : Nat} {fs : List Fi} (h : ∃ D, w.ownsMap Try.prog 9 ptrR mb mn D ∧ MapOf fs D) (hu : UpF fs) (nm : ByteArray) (hn : nm.size ≤ maxLen) : (Instr.lookup 62 (.map (some mb)) (.string nm) false).run Try.prog w = .ok (ptrV (findF fs nm.data.toList)) w := by
  obtain ⟨D, hD, hM⟩ := h
  obtain ⟨v, ps, hr, hv⟩ := hD.lookup (Maps.string_keyed Try.underlying9) Try.underlying62 (zeroPF w) (zd := .nil) (zp := []) rfl (Go.WideMaps.keyOf_string_mk Try.underlying9 hn)
  rw [hr]
  cases hf : findF fs nm.data.toList with
  | none =>
    rw [hM.at_none hf] at hv
    rw [ptrR_nil hv]; rfl
  | some f =>
    rw [hM.at_some hu hf] at hv
    rw [ptrR_inv hv]; rfl
theorem DkAt.look1 (h : DkAt w p s) (nm : ByteArray) (hn : nm.size ≤ maxLen) : (Instr.lookup 62 (.map (some s.mb)) (.string nm) true).run Try.prog w = .ok (.tuple #[ptrV (findF s.fs nm.data.toList), .bool (findF s.fs nm.data.toList).isSome]) w := look1_map h.map h.ok.up nm hn
theorem DkAt.look0 (h : DkAt w p s) (nm : ByteArray) (hn : nm.size ≤ maxLen) : (Instr.lookup 62 (.map (some s.mb)) (.string nm) false).run Try.prog w = .ok (ptrV (findF s.fs nm.data.toList)) w := look0_map h.map h.ok.up nm hn
end
def readS (s : St) (t : Nm) : ByteArray × Int := if s.off then (⟨#[]⟩, 6) else match findF s.fs t with | none => (⟨#[]⟩, 7) | some f => (f.data, 0)
set_option maxRecDepth 100000 in
set_option maxHeartbeats 4000000 in
theorem read_any (p : Nat) (s : St) (nm : ByteArray) (w : World) (hD : DkAt w p s) (hn : nm.size ≤ maxLen) :
    Calls Try.prog 14 #[.pointer (some ⟨p, 0, none⟩), .string nm] w fun x w' => x = .returned (.tuple #[.string (readS s nm.data.toList).1, .int .i64 (readS s nm.data.toList).2]) ∧ w' = w := by
  obtain ⟨c0, c1, c2, c3, c4, c5, c6, c7⟩ := dk8 hD.ptr
  have hl := hD.look1 nm hn
  have HD := Lib.hid hD
  clear hD hn
  obtain ⟨R, hR⟩ : ∃ R, R = readS s nm.data.toList := ⟨_, rfl⟩
  have HR := Lib.hid hR
  rw [← hR]
  clear hR
  unfold readS at HR
  cases hoff : s.off with
  | true =>
    rw [hoff] at c5 HR
    obtain rfl : R = (⟨#[]⟩, 6) := HR.out
    clear HR hl HD
    go_enter Try.func14, Try.ntmps14
    go_wp2_with fail
    go_ret2
    exact ⟨rfl, rfl⟩
  | false =>
    rw [hoff] at c5 HR
    cases hf : findF s.fs nm.data.toList with
    | none =>
      rw [hf] at HR hl
      obtain rfl : R = (⟨#[]⟩, 7) := HR.out
      simp only [ptrV, Option.isSome_none] at hl
      clear HR HD hf
      go_enter Try.func14, Try.ntmps14
      go_wp2_with fail
      go_ret2
      exact ⟨rfl, rfl⟩
    | some f =>
      rw [hf] at HR hl
      obtain rfl : R = (f.data, 0) := HR.out
      simp only [ptrV, Option.isSome_some] at hl
      have u0 : w.cell? ⟨f.blk, 0, none⟩ = some (.string f.data) := (HD.out.fil f (findF_mem hf).1).cell 0
      clear HR HD hf
      go_enter Try.func14, Try.ntmps14
      go_wp2_with fail
      go_ret2
      exact ⟨rfl, rfl⟩
end Go.Proofs.Ytefpjdgfcgjbaaa

/- The contracts of Used, Free, Written, Calls, On, Safe, Arm. -/
namespace Go.Proofs.Ytefpjdgfcgjbaaa
set_option linter.unusedVariables false
set_option linter.unusedSimpArgs false
open Go.RowKit
section
variable (p : Nat) (s : St) (w : World)
set_option maxHeartbeats 1000000
theorem used_any (hD : DkAt w p s) : Calls Try.prog 16 #[.pointer (some ⟨p, 0, none⟩)] w fun x w' => x = .returned (.int .i64 s.used) ∧ Below w.heap.size w w' := by
  obtain ⟨c0, c1, c2, c3, c4, c5, c6, c7⟩ := dk8 hD.ptr
  clear hD
  go_enter Try.func16, Try.ntmps16
  go_wp2_with fail
  go_ret
  exact ⟨rfl, Below.refl _ _⟩
theorem written_any (hD : DkAt w p s) : Calls Try.prog 30 #[.pointer (some ⟨p, 0, none⟩)] w fun x w' => x = .returned (.int .i64 s.written) ∧ Below w.heap.size w w' := by
  obtain ⟨c0, c1, c2, c3, c4, c5, c6, c7⟩ := dk8 hD.ptr
  clear hD
  go_enter Try.func30, Try.ntmps30
  go_wp2_with fail
  go_ret
  exact ⟨rfl, Below.refl _ _⟩
theorem calls_any (hD : DkAt w p s) : Calls Try.prog 31 #[.pointer (some ⟨p, 0, none⟩)] w fun x w' => x = .returned (.int .i64 s.calls) ∧ Below w.heap.size w w' := by
  obtain ⟨c0, c1, c2, c3, c4, c5, c6, c7⟩ := dk8 hD.ptr
  clear hD
  go_enter Try.func31, Try.ntmps31
  go_wp2_with fail
  go_ret
  exact ⟨rfl, Below.refl _ _⟩
theorem on_any (hD : DkAt w p s) : Calls Try.prog 21 #[.pointer (some ⟨p, 0, none⟩)] w fun x w' => x = .returned (.bool !s.off) ∧ Below w.heap.size w w' := by
  obtain ⟨c0, c1, c2, c3, c4, c5, c6, c7⟩ := dk8 hD.ptr
  clear hD
  go_enter Try.func21, Try.ntmps21
  go_wp2_with fail
  go_ret
  exact ⟨rfl, Below.refl _ _⟩
theorem free_any (hD : DkAt w p s) : Calls Try.prog 29 #[.pointer (some ⟨p, 0, none⟩)] w fun x w' => x = .returned (.int .i64 (s.room - s.used)) ∧ Below w.heap.size w w' := by
  obtain ⟨c0, c1, c2, c3, c4, c5, c6, c7⟩ := dk8 hD.ptr
  have h1 := hD.ok.rm
  have h2 := hD.ok.use
  have hw : IntKind.i64.wrap (s.room - s.used) = s.room - s.used := IntWalk.i64_in _ (by omega)
  generalize s.room = room at *
  generalize s.used = used at *
  clear hD h1 h2
  go_enter Try.func29, Try.ntmps29
  go_wp2_with fail
  go_quiet (fail)
  go_wp2_with fail
  go_ret
  exact ⟨rfl, below_dN (Below.refl _ _) _⟩
def safeS (s : St) (t : Nm) : Int := match findF s.fs t with | none => 0 | some f => (f.safe : Nat)
theorem safe_any (nm : ByteArray) (hD : DkAt w p s) (hn : nm.size ≤ maxLen) : Calls Try.prog 32 #[.pointer (some ⟨p, 0, none⟩), .string nm] w fun x w' => x = .returned (.int .i64 (safeS s nm.data.toList)) ∧ Below w.heap.size w w' := by
  obtain ⟨c0, c1, c2, c3, c4, c5, c6, c7⟩ := dk8 hD.ptr
  have hl := hD.look0 nm hn
  unfold safeS
  cases hf : findF s.fs nm.data.toList with
  | none =>
    rw [hf] at hl
    simp only [ptrV] at hl
    clear hD hn hf
    go_enter Try.func32, Try.ntmps32
    go_wp2_with fail
    go_ret
    exact ⟨rfl, Below.refl _ _⟩
  | some f =>
    rw [hf] at hl
    simp only [ptrV] at hl
    have u1 : w.cell? ⟨f.blk, 1, none⟩ = some (.int .i64 (f.safe : Nat)) := (hD.fil f (findF_mem hf).1).cell 1
    clear hD hn hf
    go_enter Try.func32, Try.ntmps32
    go_wp2_with fail
    go_ret
    exact ⟨rfl, Below.refl _ _⟩
def armS (s : St) (n : Int) : St := { s with armed := true, left := if 0 ≤ n then n else 0 }
theorem arm_any (n : Int) (hn : I64 n) (hD : DkAt w p s) : Calls Try.prog 20 #[.pointer (some ⟨p, 0, none⟩), .int .i64 n] w fun x w' => x = .returned (.tuple #[]) ∧ DkAt w' p (armS s n) ∧ DkStep p s (armS s n) w w' := by
  obtain ⟨c0, c1, c2, c3, c4, c5, c6, c7⟩ := dk8 hD.ptr
  obtain ⟨f0, f1, f2, f3, f4, f5, f6, f7⟩ := dkF hD.ptr
  have HF : Hid (∀ m, m = (if 0 ≤ n then n else 0) → DkAt _ p (armS s n) ∧ DkStep p s (armS s n) w _) := fun m hm => hD.turn (s' := armS s n) (w' := (w.setCell ⟨p, 6, none⟩ (.bool true)).setCell ⟨p, 7, none⟩ (.int .i64 m)) ((Fr.setCell w (by simp) _).trans (Fr.setCell _ (by simp) _)) (by subst hm; exact (hD.ptr.set_ 6 _).set_ 7 _) rfl rfl rfl
    ⟨hD.ok.one, hD.ok.up, hD.ok.nam, hD.ok.siz, hD.ok.use, hD.ok.rm, (by unfold I64 at hn; show 0 ≤ (if 0 ≤ n then n else 0) ∧ (if 0 ≤ n then n else 0) ≤ _; split <;> omega), hD.ok.wr⟩
  clear hD
  by_cases h : 0 ≤ n
  · have HG := Lib.hid (HF.out n (by rw [if_pos h]))
    clear HF
    go_enter Try.func20, Try.ntmps20
    go_wp2_with fail
    all_goals first | (exfalso; omega) | skip
    go_end0
    exact ⟨rfl, HG.out⟩
  · have HG := Lib.hid (HF.out 0 (by rw [if_neg h]))
    clear HF
    go_enter Try.func20, Try.ntmps20
    go_wp2_with fail
    all_goals first | (exfalso; omega) | skip
    go_end0
    exact ⟨rfl, HG.out⟩
end
end Go.Proofs.Ytefpjdgfcgjbaaa

/- A disk's state behind an operation is right: plain. -/
namespace Go.Proofs.Ytefpjdgfcgjbaaa
set_option linter.unusedVariables false
set_option linter.unusedSimpArgs false
open Go.RowKit
theorem beginS_same (s : St) (ns : List Nm) : (beginS s ns).2.fs = s.fs ∧ (beginS s ns).2.mb = s.mb ∧ (beginS s ns).2.mn = s.mn ∧ (beginS s ns).2.used = s.used ∧ (beginS s ns).2.room = s.room ∧ (beginS s ns).2.written = s.written := by
  unfold beginS
  split
  · exact ⟨rfl, rfl, rfl, rfl, rfl, rfl⟩
  · split <;> exact ⟨rfl, rfl, rfl, rfl, rfl, rfl⟩
theorem beginS_zero {s : St} {ns : List Nm} (h : (beginS s ns).1 = 0) : ∀ t ∈ ns, badN t = false := by
  unfold beginS at h
  split at h
  · cases h
  · split at h
    · cases h
    · dsimp only at h
      split at h
      · cases h
      · rename_i hn
        intro t ht
        cases hb : badN t with
        | false => rfl
        | true => exact absurd (List.any_eq_true.2 ⟨t, ht, hb⟩) hn
theorem beginS_calls (s : St) (ns : List Nm) : (beginS s ns).2.calls ≤ s.calls + 1 := by
  unfold beginS
  split
  · dsimp only; omega
  · split <;> (dsimp only; omega)
theorem badN_len {t : Nm} (h : badN t = false) : 1 ≤ t.length ∧ t.length ≤ 24 := by
  cases t with
  | nil => cases h
  | cons x t =>
    simp only [badN, List.isEmpty_cons, Bool.false_or, decide_eq_false_iff_not] at h
    refine ⟨by simp, by omega⟩
theorem updF_map {t : Nm} {h : Fi → Fi} (hh : ∀ f, (h f).name = f.name ∧ (h f).blk = f.blk) (fs : List Fi) : (updF t h fs).map (fun f => (Lit.string f.name, litB f.blk)) = fs.map (fun f => (Lit.string f.name, litB f.blk)) := by
  unfold updF
  rw [List.map_map]
  refine List.map_congr_left (fun f _ => ?_)
  show (Lit.string (if f.name == t then h f else f).name, litB (if f.name == t then h f else f).blk) = _
  split
  · rw [(hh f).1, (hh f).2]
  · rfl
theorem updF_blk {t : Nm} {h : Fi → Fi} (hh : ∀ f, (h f).name = f.name ∧ (h f).blk = f.blk) (fs : List Fi) : (updF t h fs).map (fun f => f.blk) = fs.map (fun f => f.blk) := by
  unfold updF
  rw [List.map_map]
  refine List.map_congr_left (fun f _ => ?_)
  show (if f.name == t then h f else f).blk = f.blk
  split
  · rw [(hh f).2]
  · rfl
theorem MapOf.upd {t : Nm} {h : Fi → Fi} (hh : ∀ f, (h f).name = f.name ∧ (h f).blk = f.blk) {fs : List Fi} {D : DataW Unit} (hM : MapOf fs D) : MapOf (updF t h fs) D := by
  obtain ⟨es, he, hp⟩ := hM
  exact ⟨es, he, by rw [updF_map hh]; exact hp⟩
theorem mem_updF {t : Nm} {h : Fi → Fi} {fs : List Fi} {g : Fi} (hg : g ∈ updF t h fs) : (∃ f ∈ fs, f.name = t ∧ g = h f) ∨ (g ∈ fs ∧ g.name ≠ t) := by
  unfold updF at hg
  obtain ⟨f, hf, rfl⟩ := List.mem_map.1 hg
  by_cases e : f.name = t
  · rw [if_pos (by simpa using e)]
    exact .inl ⟨f, hf, e, rfl⟩
  · rw [if_neg (by simpa using e)]
    exact .inr ⟨hf, e⟩
theorem updF_off {t : Nm} {h : Fi → Fi} {fs : List Fi} (hn : ∀ f ∈ fs, f.name ≠ t) : updF t h fs = fs := by
  unfold updF
  conv => rhs; rw [← List.map_id fs]
  refine List.map_congr_left (fun f hf => ?_)
  rw [if_neg (by simpa using hn f hf)]; rfl
theorem sumD_upd {t : Nm} {h : Fi → Fi} : ∀ {fs : List Fi}, UpF fs → ∀ {f : Fi}, findF fs t = some f → sumD (updF t h fs) + f.data.size = sumD fs + (h f).data.size
  | [], _, f, hf => by cases hf
  | g :: l, hu, f, hf => by
    have hu' := hu
    unfold UpF at hu
    rw [List.pairwise_cons] at hu
    by_cases e : g.name = t
    · have e1 : findF (g :: l) t = some g := by rw [← e]; exact findF_of hu' (List.mem_cons_self ..)
      rw [e1] at hf
      injection hf with hf
      subst hf
      have e2 : updF t h (g :: l) = h g :: l := by
        show (if g.name == t then h g else g) :: updF t h l = _
        rw [if_pos (by simpa using e), updF_off (fun x hx e' => by have := hu.1 x hx; rw [e', e] at this; exact List.lt_irrefl _ this)]
      rw [e2, sumD_cons, sumD_cons]; omega
    · have e1 : findF (g :: l) t = findF l t := by
        unfold findF
        rw [List.find?_cons]
        have : (g.name == t) = false := by simpa using e
        rw [this]
      rw [e1] at hf
      have e2 : updF t h (g :: l) = g :: updF t h l := by
        show (if g.name == t then h g else g) :: updF t h l = _
        rw [if_neg (by simpa using e)]
      rw [e2, sumD_cons, sumD_cons]
      have := sumD_upd (h := h) hu.2 hf
      omega
theorem StOk.ins {s : St} (h : StOk s) {t : Nm} {d : ByteArray} {b : Nat} (hf : findF s.fs t = none) (ht : 1 ≤ t.length ∧ t.length ≤ 24) (hd : d.size ≤ 1048576) (hr : (d.size : Int) ≤ s.room - s.used) (hb : b ∉ s.fs.map (fun f => f.blk)) :
    StOk { s with used := s.used + (d.size : Nat), written := s.written + (d.size : Nat), fs := insF ⟨t, d, 0, b⟩ s.fs, mn := s.mn + 1 } := by
  have hm : ∀ f, f ∈ insF ⟨t, d, 0, b⟩ s.fs → f = ⟨t, d, 0, b⟩ ∨ f ∈ s.fs := fun f hf => mem_insF.1 hf
  refine ⟨?_, insF_up h.up (findF_none hf), fun f hfm => ?_, fun f hfm => ?_, ?_, ?_, h.lf, ?_⟩
  · show ((insF ⟨t, d, 0, b⟩ s.fs).map (fun f => f.blk)).Nodup
    rw [((insF_perm ⟨t, d, 0, b⟩ s.fs).map (fun f => f.blk)).nodup_iff, List.map_cons, List.nodup_cons]
    exact ⟨hb, h.one⟩
  · rcases hm f hfm with rfl | h2
    · exact ht
    · exact h.nam f h2
  · rcases hm f hfm with rfl | h2
    · exact ⟨hd, Nat.zero_le _⟩
    · exact h.siz f h2
  · show s.used + (d.size : Nat) = (sumD (insF ⟨t, d, 0, b⟩ s.fs) : Nat)
    rw [sumD_perm (insF_perm ⟨t, d, 0, b⟩ s.fs), sumD_cons, h.use]
    push_cast; omega
  · have := h.rm
    exact ⟨this.1, this.2.1, by show s.used + (d.size : Nat) ≤ s.room; omega⟩
  · have := h.wr
    exact ⟨by show 0 ≤ s.written + (d.size : Nat); omega, this.2⟩
theorem StOk.upd {s : St} (h : StOk s) {t : Nm} {d : ByteArray} {f : Fi} (hf : findF s.fs t = some f) (hd : f.data.size + d.size ≤ 1048576) (hr : (d.size : Int) ≤ s.room - s.used) :
    StOk { s with used := s.used + (d.size : Nat), written := s.written + (d.size : Nat), fs := updF t (fun g => ⟨g.name, g.data ++ d, g.safe, g.blk⟩) s.fs, mn := s.mn + 1 } := by
  have hh : ∀ f : Fi, ((fun g : Fi => (⟨g.name, g.data ++ d, g.safe, g.blk⟩ : Fi)) f).name = f.name ∧ ((fun g : Fi => (⟨g.name, g.data ++ d, g.safe, g.blk⟩ : Fi)) f).blk = f.blk := fun f => ⟨rfl, rfl⟩
  obtain ⟨hfm, hft⟩ := findF_mem hf
  refine ⟨?_, updF_up h.up (fun f => (hh f).1), fun g hg => ?_, fun g hg => ?_, ?_, ?_, h.lf, ?_⟩
  · show ((updF t _ s.fs).map (fun f => f.blk)).Nodup
    rw [updF_blk hh]; exact h.one
  · rcases mem_updF hg with ⟨g', hg', -, rfl⟩ | ⟨hg', -⟩
    · exact h.nam g' hg'
    · exact h.nam g hg'
  · rcases mem_updF hg with ⟨g', hg', e, rfl⟩ | ⟨hg', -⟩
    · have hgf : g' = f := by
        have := findF_of h.up hg'
        rw [e, hf] at this
        injection this with this; exact this.symm
      subst hgf
      have := h.siz g' hg'
      refine ⟨?_, ?_⟩
      · show (g'.data ++ d).size ≤ _
        rw [ByteArray.size_append]; exact hd
      · show g'.safe ≤ (g'.data ++ d).size
        rw [ByteArray.size_append]; omega
    · exact h.siz g hg'
  · have := sumD_upd (h := fun g : Fi => (⟨g.name, g.data ++ d, g.safe, g.blk⟩ : Fi)) h.up hf
    show s.used + (d.size : Nat) = (sumD (updF t (fun g : Fi => (⟨g.name, g.data ++ d, g.safe, g.blk⟩ : Fi)) s.fs) : Nat)
    dsimp only at this
    rw [ByteArray.size_append] at this
    rw [h.use]; omega
  · have := h.rm
    exact ⟨this.1, this.2.1, by show s.used + (d.size : Nat) ≤ s.room; omega⟩
  · have := h.wr
    exact ⟨by show 0 ≤ s.written + (d.size : Nat); omega, this.2⟩
section
variable {w w' : World} {p : Nat} {s s' : St}
theorem Fr.of_turned {b : Nat} (h : w.mapTurned w' b) : Fr [b] w w' := .of_grown h.grown (by simp)
/-- A file is laid into the map. -/
theorem store_map {mb mn : Nat} {fs : List Fi} (h : ∃ D, w.ownsMap Try.prog 9 ptrR mb mn D ∧ MapOf fs D) (nm : ByteArray) (hn : nm.size ≤ maxLen) (b : Nat) (fs' : List Fi) (hM : ∀ D, MapOf fs D → MapOf fs' (D.put (.string nm.data.toList) (litB b))) (hmn : mn < maxLen) :
    ∃ w', (Instr.mapUpdate 62 (.map (some mb)) (.string nm) (.pointer (some ⟨b, 0, none⟩))).run Try.prog w = .ok () w' ∧ Fr [mb] w w' ∧ ∃ D, w'.ownsMap Try.prog 9 ptrR mb (mn + 1) D ∧ MapOf fs' D := by
  obtain ⟨D, hD, hMD⟩ := h
  obtain ⟨w', hr, h1, h2⟩ := hD.store (Maps.string_keyed Try.underlying9) Try.underlying62 hmn (Go.WideMaps.keyOf_string_mk Try.underlying9 hn) (val := .pointer (some ⟨b, 0, none⟩)) (d := litB b) (ps := []) rfl
  exact ⟨w', hr, Fr.of_turned h2, _, h1, hM D hMD⟩
theorem DkAt.store (h : DkAt w p s) (nm : ByteArray) (hn : nm.size ≤ maxLen) (b : Nat) (fs' : List Fi) (hM : ∀ D, MapOf s.fs D → MapOf fs' (D.put (.string nm.data.toList) (litB b))) (hmn : s.mn < maxLen) :
    ∃ w', (Instr.mapUpdate 62 (.map (some s.mb)) (.string nm) (.pointer (some ⟨b, 0, none⟩))).run Try.prog w = .ok () w' ∧ Fr [s.mb] w w' ∧ ∃ D, w'.ownsMap Try.prog 9 ptrR s.mb (s.mn + 1) D ∧ MapOf fs' D := store_map h.map nm hn b fs' hM hmn
theorem blk_inj {fs : List Fi} (h : (fs.map (fun f => f.blk)).Nodup) {f g : Fi} (hf : f ∈ fs) (hg : g ∈ fs) (e : f.blk = g.blk) : f = g := by
  induction fs with
  | nil => cases hf
  | cons x t ih =>
    rw [List.map_cons, List.nodup_cons] at h
    rcases List.mem_cons.1 hf with h1 | h1
    · rcases List.mem_cons.1 hg with h2 | h2
      · rw [h1, h2]
      · exact absurd (List.mem_map.2 ⟨g, h2, by rw [← e, h1]⟩) h.1
    · rcases List.mem_cons.1 hg with h2 | h2
      · exact absurd (List.mem_map.2 ⟨f, h1, by rw [e, h2]⟩) h.1
      · exact ih h.2 h1 h2
theorem dele_map {mb mn : Nat} {fs : List Fi} (h : ∃ D, w.ownsMap Try.prog 9 ptrR mb mn D ∧ MapOf fs D) (nm : ByteArray) (hn : nm.size ≤ maxLen) :
    ∃ w', (∀ ty, (Builtin.delete_ #[62, 9] ty #[.map (some mb), .string nm]).run Try.prog w = .ok (.tuple #[]) w') ∧ Fr [mb] w w' ∧ ∃ D, w'.ownsMap Try.prog 9 ptrR mb mn D ∧ MapOf (delF nm.data.toList fs) D := by
  obtain ⟨D, hD, hMD⟩ := h
  obtain ⟨w', hr, h1, h2⟩ := hD.drop (Maps.string_keyed Try.underlying9) Try.underlying62 (Go.WideMaps.keyOf_string_mk Try.underlying9 hn) 9
  exact ⟨w', fun ty => hr, Fr.of_turned h2, _, h1, hMD.del _⟩
theorem DkAt.len (h : DkAt w p s) (ty : TypeId) : (Builtin.len_ #[62] ty #[.map (some s.mb)]).run Try.prog w = .ok (.int .i64 (s.fs.length : Nat)) w := by
  obtain ⟨D, hD, hMD⟩ := h.map
  rw [← hMD.size]
  exact hD.len Try.underlying62 ty
end
/-- One text in a new block. -/
theorem sl_one (w : World) (nm : ByteArray) (X : List Nat) (hX : ∀ b ∈ X, b < w.heap.size) : SlR strK (w.alloc (.cells #[.string nm] 9)) X [nm.data.toList] (some ⟨w.heap.size, 0, none⟩) 1 1 := by
  have BN := Mem.Blk.new w 9 #[.string nm]
  have e2 : encStr nm.data.toList = .string nm := by obtain ⟨⟨x⟩⟩ := nm; rfl
  have hmx : maxLen = 9223372036854775807 := by decide
  refine ⟨[[.string nm]], rfl, fun i x cs hx hc => ?_, rfl, Nat.le_refl _, by omega, fun _ => ⟨w.heap.size, 0, rfl, BN.lt, fun hm => ?_, fun i cs hc => ?_⟩⟩
  · cases i with
    | zero => injection hx with hx; injection hc with hc; subst hx; subst hc; show _ = _; rw [e2]
    | succ i => cases hx
  · have := hX _ hm; omega
  · cases i with
    | zero =>
      injection hc with hc; subst hc
      refine ⟨rfl, fun j u hu => ?_⟩
      have := BN.cell j
      rw [Nat.zero_mul, Nat.add_zero, Nat.zero_add, this]
      cases j with
      | zero => exact hu
      | succ j => cases hu
    | succ i => cases hc
end Go.Proofs.Ytefpjdgfcgjbaaa

/- The contract of Append. -/
namespace Go.Proofs.Ytefpjdgfcgjbaaa
set_option linter.unusedVariables false
set_option linter.unusedSimpArgs false
open Go.RowKit
/-- What Append answers, and what it leaves; a new file would lie in the block b. -/
def appendS (b : Nat) (s : St) (t : Nm) (d : ByteArray) : Int × St :=
  let s1 := (beginS s [t]).2
  if (beginS s [t]).1 ≠ 0 then ((beginS s [t]).1, s1) else
  match findF s1.fs t with
  | none =>
    if 200 ≤ s1.fs.length then (4, s1) else
    if 1048576 < d.size then (4, s1) else
    if s1.room - s1.used < (d.size : Nat) then (5, s1) else
    (0, { s1 with used := s1.used + (d.size : Nat), written := s1.written + (d.size : Nat), fs := insF ⟨t, d, 0, b⟩ s1.fs, mn := s1.mn + 1 })
  | some f =>
    if 1048576 < f.data.size + d.size then (4, s1) else
    if s1.room - s1.used < (d.size : Nat) then (5, s1) else
    (0, { s1 with used := s1.used + (d.size : Nat), written := s1.written + (d.size : Nat), fs := updF t (fun g => ⟨g.name, g.data ++ d, g.safe, g.blk⟩) s1.fs, mn := s1.mn + 1 })
theorem empty_cat (d : ByteArray) : (⟨#[]⟩ : ByteArray) ++ d = d := by
  obtain ⟨x⟩ := d
  show ByteArray.append _ _ = _
  apply ByteArray.ext
  simp [ByteArray.append, ByteArray.copySlice]
set_option maxRecDepth 100000 in
set_option maxHeartbeats 4000000 in
theorem append_any (p : Nat) (s : St) (nm d : ByteArray) (w : World) (hD : DkAt w p s) (hb : s.calls ≤ 4611686018427387904) (hw : s.written ≤ 4611686018427387904) (hm : s.mn ≤ 1000000) (hn : nm.size ≤ maxLen) (hd : d.size ≤ 1000000000) :
    Calls Try.prog 11 #[.pointer (some ⟨p, 0, none⟩), .string nm, .string d] w fun x w' => ∃ b, x = .returned (.int .i64 (appendS b s nm.data.toList d).1) ∧ DkAt w' p (appendS b s nm.data.toList d).2 ∧ DkStep p s (appendS b s nm.data.toList d).2 w w' := by
  have HD := Lib.hid hD
  have HNM := Lib.hid hn
  have HBB := Lib.hid hb
  have HWW := Lib.hid hw
  have HMM := Lib.hid hm
  have hal := (Below.refl w.heap.size w).alloc (Nat.le_refl _) (.cells #[.string nm] 9)
  have HN1 := Lib.hid (sl_one w nm [p] (fun b hb => by rw [List.mem_singleton] at hb; subst hb; exact hD.ptr.lt))
  have HBG := Lib.hid (begin_any p s [nm.data.toList] _ 1 1 _ (hD.below hal) HN1.out hb (by omega))
  have HS0 : Hid (DkStep p s s w (w.alloc (.cells #[.string nm] 9))) := DkStep.below hal
  have HSM := Lib.hid (beginS_same s [nm.data.toList])
  have HBZ := Lib.hid (@beginS_zero s [nm.data.toList])
  obtain ⟨F, hF⟩ : ∃ F : Nat → Int × St, F = fun b => appendS b s nm.data.toList d := ⟨_, rfl⟩
  have HF := Lib.hid hF
  have hgoal : ∀ b, appendS b s nm.data.toList d = F b := fun b => by rw [hF]
  simp only [hgoal]
  clear hgoal hF
  unfold appendS at HF
  obtain ⟨e1, s1, hB⟩ : ∃ e1 s1, beginS s [nm.data.toList] = (e1, s1) := ⟨_, _, rfl⟩
  simp only [hB] at HF HSM HBZ HBG
  clear hD hb hw hm hal HN1 hB
  go_enter Try.func11, Try.ntmps11
  go_wp2_with fail
  go_at_call 33
  (with_reducible refine HBG.out.mono ?_)
  rintro x w1 ⟨rfl, hd1, hs1⟩
  have HD1 := Lib.hid hd1
  have HS1 := Lib.hid (HS0.out.trans hs1)
  clear hd1 hs1 HBG HS0 HD
  by_cases he1 : e1 = 0
  · subst he1
    have hnm := badN_len (HBZ.out rfl _ (List.mem_singleton.2 rfl))
    simp only [ne_eq, not_true_eq_false, if_false] at HF
    obtain ⟨c0, c1, c2, c3, c4, c5, c6, c7⟩ := dk8 HD1.out.ptr
    have hl := HD1.out.look1 nm hn
    have hlen := HD1.out.len
    cases hf : findF s1.fs nm.data.toList with
    | none =>
      rw [hf] at hl HF
      simp only [ptrV, Option.isSome_none] at hl
      dsimp only at HF
      by_cases h200 : 200 ≤ s1.fs.length
      · have HFF : Hid (∀ b, F b = (4, s1)) := fun b => by rw [HF.out]; dsimp only; rw [if_pos h200]
        have hi : (200 : Int) ≤ (s1.fs.length : Int) := by omega
        generalize s1.fs.length = q at *
        clear HF HBZ HSM h200
        go_wp2_with fail
        go_ret
        exact ⟨0, by rw [HFF.out]; rfl, by rw [HFF.out]; exact ⟨HD1.out, HS1.out⟩⟩
      · have hi : ¬ (200 : Int) ≤ (s1.fs.length : Int) := by omega
        have HF2 : Hid (∀ b, F b = if 1048576 < d.size then (4, s1) else if s1.room - s1.used < (d.size : Nat) then (5, s1) else (0, { s1 with used := s1.used + (d.size : Nat), written := s1.written + (d.size : Nat), fs := insF ⟨nm.data.toList, d, 0, b⟩ s1.fs, mn := s1.mn + 1 })) := fun b => by rw [HF.out]; dsimp only; rw [if_neg h200]
        have HFN := Lib.hid hf
        clear HF h200 HBZ hf
        have hal := (Below.refl w1.heap.size w1).alloc (Nat.le_refl _) (.cells #[.string ⟨#[]⟩, .int .i64 0] 69)
        have HD2 := Lib.hid (HD1.out.below hal)
        have HS2 := Lib.hid (HS1.out.trans (DkStep.below hal))
        have BF := Lib.hid (Mem.Blk.new w1 69 #[.string ⟨#[]⟩, .int .i64 0])
        have HBK : Hid (∀ g ∈ dks p s1, g < w1.heap.size) := HD1.out.lt
        have HZW : Hid (w.heap.size ≤ w1.heap.size) := HS1.out.fr.size
        clear hal
        go_upto_region 9 with (fail)
        clear HD1 HS1 c0 c1 c2 c3 c4 c5 c6 c7 hl hlen hi
        generalize w1.alloc (.cells #[.string ⟨#[]⟩, .int .i64 0] 69) = w2 at *
        generalize w1.heap.size = b at *
        have u0 : w2.cell? ⟨b, 0, none⟩ = some (.string ⟨#[]⟩) := BF.out.cell 0
        by_cases hbig : 1048576 < d.size
        · have hbi : (1048576 : Int) < (d.size : Int) := by omega
          have HFF : Hid (∀ b, F b = (4, s1)) := fun b => by rw [HF2.out, if_pos hbig]
          clear HF2 hbig
          go_wp2_with fail
          go_ret
          exact ⟨0, by rw [HFF.out]; rfl, by rw [HFF.out]; exact ⟨HD2.out, HS2.out⟩⟩
        · have hbi : ¬ (1048576 : Int) < (d.size : Int) := by omega
          have HF3 : Hid (∀ b, F b = if s1.room - s1.used < (d.size : Nat) then (5, s1) else (0, { s1 with used := s1.used + (d.size : Nat), written := s1.written + (d.size : Nat), fs := insF ⟨nm.data.toList, d, 0, b⟩ s1.fs, mn := s1.mn + 1 })) := fun b => by rw [HF2.out, if_neg hbig]
          clear HF2
          go_upto_region 11 with (fail)
          have HFR := Lib.hid (free_any p s1 w2 HD2.out)
          go_wp2_with fail
          go_at_call 29
          (with_reducible refine HFR.out.mono ?_)
          rintro x w3 ⟨rfl, b3⟩
          have HD3 := Lib.hid (HD2.out.below b3)
          have HS3 := Lib.hid (HS2.out.trans (DkStep.below b3))
          have BF3 := Lib.hid (BF.out.below b3)
          clear b3 HD2 HS2 BF HFR u0
          by_cases hroom : s1.room - s1.used < (d.size : Nat)
          · have HFF : Hid (∀ b, F b = (5, s1)) := fun b => by rw [HF3.out, if_pos hroom]
            clear HF3
            go_wp2_with fail
            go_ret
            exact ⟨0, by rw [HFF.out]; rfl, by rw [HFF.out]; exact ⟨HD3.out, HS3.out⟩⟩
          · have HFF : Hid (F b = (0, { s1 with used := s1.used + (d.size : Nat), written := s1.written + (d.size : Nat), fs := insF ⟨nm.data.toList, d, 0, b⟩ s1.fs, mn := s1.mn + 1 })) := by show F b = _; rw [HF3.out, if_neg hroom]
            clear HF3
            obtain ⟨u0, u1, v0, v1⟩ := BF3.out.two
            have hnb : b ∉ dks p s1 := fun hm => Nat.lt_irrefl _ (HBK.out b hm)
            have BF4 := Lib.hid (BF3.out.set_ 0 (.string d))
            have HD4 := Lib.hid (HD3.out.fr (Fr.setCell w3 (X := [b]) (p := ⟨b, 0, none⟩) (by simp) (.string d)) (fun g hg => by rw [List.mem_singleton] at hg; subst hg; exact hnb))
            have hfr4 : Fr [b] w3 (w3.setCell ⟨b, 0, none⟩ (.string d)) := Fr.setCell w3 (by simp) _
            obtain ⟨w5, hr, hf5, hm5⟩ := HD4.out.store nm HNM.out b (insF ⟨nm.data.toList, d, 0, b⟩ s1.fs) (fun D hM => hM.put (f := ⟨nm.data.toList, d, 0, b⟩) (by rw [delF_none HFN.out]; exact insF_perm _ _)) (by have h1 := HMM.out; have h2 := HSM.out.2.2.1; unfold maxLen; omega)
            obtain ⟨c0, c1, c2, c3, c4, c5, c6, c7⟩ := dk8 HD3.out.ptr
            have hfp5 := hf5.blk HD4.out.ptr (by simpa using HD4.out.mp.symm)
            obtain ⟨d0, d1, d2, d3, d4, d5, d6, d7⟩ := dk8 hfp5
            obtain ⟨f0, f1, f2, f3, f4, f5, f6, f7⟩ := dkF hfp5
            have c1' := (dk8 HD4.out.ptr).2.1
            have hfin : DkAt ((w5.setCell ⟨p, 2, none⟩ (.int .i64 (s1.used + (d.size : Nat)))).setCell ⟨p, 3, none⟩ (.int .i64 (s1.written + (d.size : Nat)))) p { s1 with used := s1.used + (d.size : Nat), written := s1.written + (d.size : Nat), fs := insF ⟨nm.data.toList, d, 0, b⟩ s1.fs, mn := s1.mn + 1 } := by
              have hbp : b ≠ p := fun e => hnb (e ▸ List.mem_cons_self ..)
              have hbm : b ≠ s1.mb := fun e => hnb (e ▸ List.mem_cons_of_mem _ (List.mem_cons_self ..))
              have k6 : Fr [p] w5 ((w5.setCell ⟨p, 2, none⟩ (.int .i64 (s1.used + (d.size : Nat)))).setCell ⟨p, 3, none⟩ (.int .i64 (s1.written + (d.size : Nat)))) := (Fr.setCell w5 (by simp) _).trans (Fr.setCell _ (by simp) _)
              refine ⟨(hfp5.set_ 2 _).set_ 3 _, ?_, fun f hf => ?_, HD4.out.ok.ins HFN.out hnm (by omega) (by omega) (fun hm => hnb (List.mem_cons_of_mem _ (List.mem_cons_of_mem _ hm)))⟩
              · obtain ⟨D, h1, h2⟩ := hm5
                exact ⟨D, k6.map h1 (by simpa using HD4.out.mp), h2⟩
              · rcases mem_insF.1 hf with rfl | hf
                · exact k6.blk (hf5.blk BF4.out (by simpa using hbm)) (by simpa using hbp)
                · exact k6.blk (hf5.blk (HD4.out.fil f hf) (by simpa using HD4.out.fm hf)) (by simpa using HD4.out.fp hf)
            have hst : DkStep p s { s1 with used := s1.used + (d.size : Nat), written := s1.written + (d.size : Nat), fs := insF ⟨nm.data.toList, d, 0, b⟩ s1.fs, mn := s1.mn + 1 } w ((w5.setCell ⟨p, 2, none⟩ (.int .i64 (s1.used + (d.size : Nat)))).setCell ⟨p, 3, none⟩ (.int .i64 (s1.written + (d.size : Nat)))) := by
              have k6 : Fr [p] w5 ((w5.setCell ⟨p, 2, none⟩ (.int .i64 (s1.used + (d.size : Nat)))).setCell ⟨p, 3, none⟩ (.int .i64 (s1.written + (d.size : Nat)))) := (Fr.setCell w5 (by simp) _).trans (Fr.setCell _ (by simp) _)
              have hX : ∀ (Y : List Nat) (W W' : World), Fr Y W W' → (∀ g ∈ Y, g ∈ [b, s1.mb, p]) → Fr [b, s1.mb, p] W W' := fun Y W W' h hy => h.more hy
              have hown : ∀ g ∈ dks p s1, g ∈ dks p s ∨ w.heap.size ≤ g := HS3.out.own
              refine ⟨(((HS3.out.fr.more (X' := dks p s ++ [b, s1.mb, p]) (fun g hg => List.mem_append.2 (.inl hg))).trans (((hX _ _ _ hfr4 (by simp)).trans ((hX _ _ _ hf5 (by simp)).trans (hX _ _ _ k6 (by simp)))).more (fun g hg => List.mem_append.2 (.inr hg)))).fresh (fun g hg => ?_)), fun g hg => ?_⟩
              · rcases List.mem_append.1 hg with hg | hg
                · exact .inl hg
                · simp only [List.mem_cons, List.not_mem_nil, or_false] at hg
                  rcases hg with rfl | rfl | rfl
                  · exact .inr HZW.out
                  · exact hown _ (List.mem_cons_of_mem _ (List.mem_cons_self ..))
                  · exact hown _ (List.mem_cons_self ..)
              · have hg' : g = b ∨ g ∈ dks p s1 := by
                  unfold dks at hg ⊢
                  rcases List.mem_cons.1 hg with rfl | hg
                  · exact .inr (List.mem_cons_self ..)
                  rcases List.mem_cons.1 hg with rfl | hg
                  · exact .inr (List.mem_cons_of_mem _ (List.mem_cons_self ..))
                  obtain ⟨f, hf, rfl⟩ := List.mem_map.1 hg
                  rcases mem_insF.1 hf with rfl | hf
                  · exact .inl rfl
                  · exact .inr (List.mem_cons_of_mem _ (List.mem_cons_of_mem _ (List.mem_map.2 ⟨f, hf, rfl⟩)))
                rcases hg' with rfl | hg'
                · exact .inr HZW.out
                · exact hown g hg'
            have FIN := Lib.hid (And.intro hfin hst)
            have hwu : IntKind.i64.wrap (s1.used + (d.size : Nat)) = s1.used + (d.size : Nat) := IntWalk.i64_in _ (by have := HD3.out.ok.rm; have := HD3.out.ok.use; omega)
            have hww : IntKind.i64.wrap (s1.written + (d.size : Nat)) = s1.written + (d.size : Nat) := IntWalk.i64_in _ (by have h1 := HD3.out.ok.wr; have h2 := HWW.out; have h3 := HSM.out.2.2.2.2.2; omega)
            clear hfin hst hfp5 hm5 hf5 hfr4 hnb HD3 HS3 BF3 HD4 BF4 c0 c2 c3 c4 c5 c6 c7 HFN hnm HBK HZW
            have hcat : (⟨#[]⟩ : ByteArray) ++ d = d := empty_cat d
            go_wp2_with fail
            go_ret
            exact ⟨b, by rw [HFF.out]; rfl, by rw [HFF.out]; exact FIN.out⟩
    | some f =>
      rw [hf] at hl HF
      simp only [ptrV, Option.isSome_some] at hl
      dsimp only at HF
      have hfm := (findF_mem hf).1
      have hft := (findF_mem hf).2
      have hsz := HD1.out.ok.siz f hfm
      have hB1 := HD1.out.fil f hfm
      have u0 : w1.cell? ⟨f.blk, 0, none⟩ = some (.string f.data) := hB1.cell 0
      have hws : IntKind.i64.wrap (1048576 - (f.data.size : Int)) = 1048576 - (f.data.size : Int) := IntWalk.i64_in _ (by omega)
      have HFN := Lib.hid hf
      have HFM := Lib.hid hfm
      have HFT := Lib.hid hft
      have HB1 := Lib.hid hB1
      clear hf hfm hft hB1 HBZ
      by_cases hbig : 1048576 < f.data.size + d.size
      · have hbi : (1048576 : Int) - (f.data.size : Int) < (d.size : Int) := by omega
        have HFF : Hid (∀ b, F b = (4, s1)) := fun b => by rw [HF.out]; dsimp only; rw [if_pos hbig]
        clear HF hbig
        go_wp2_with fail
        go_ret
        exact ⟨0, by rw [HFF.out]; rfl, by rw [HFF.out]; exact ⟨HD1.out, HS1.out⟩⟩
      · have hbi : ¬ (1048576 : Int) - (f.data.size : Int) < (d.size : Int) := by omega
        have HBIG := Lib.hid hbig
        have HF3 : Hid (∀ b, F b = if s1.room - s1.used < (d.size : Nat) then (5, s1) else (0, { s1 with used := s1.used + (d.size : Nat), written := s1.written + (d.size : Nat), fs := updF nm.data.toList (fun g => ⟨g.name, g.data ++ d, g.safe, g.blk⟩) s1.fs, mn := s1.mn + 1 })) := fun b => by rw [HF.out]; dsimp only; rw [if_neg hbig]
        have HFR := Lib.hid (free_any p s1 w1 HD1.out)
        clear HF hbig
        go_wp2_with fail
        go_at_call 29
        (with_reducible refine HFR.out.mono ?_)
        rintro x w3 ⟨rfl, b3⟩
        have HD3 := Lib.hid (HD1.out.below b3)
        have HS3 := Lib.hid (HS1.out.trans (DkStep.below b3))
        have BF3 := Lib.hid (HB1.out.below b3)
        clear b3 HD1 HS1 HB1 HFR u0 c0 c1 c2 c3 c4 c5 c6 c7 hl hlen
        by_cases hroom : s1.room - s1.used < (d.size : Nat)
        · have HFF : Hid (∀ b, F b = (5, s1)) := fun b => by rw [HF3.out, if_pos hroom]
          clear HF3
          go_wp2_with fail
          go_ret
          exact ⟨0, by rw [HFF.out]; rfl, by rw [HFF.out]; exact ⟨HD3.out, HS3.out⟩⟩
        · have HFF : Hid (∀ b, F b = (0, { s1 with used := s1.used + (d.size : Nat), written := s1.written + (d.size : Nat), fs := updF nm.data.toList (fun g => ⟨g.name, g.data ++ d, g.safe, g.blk⟩) s1.fs, mn := s1.mn + 1 })) := fun b => by rw [HF3.out, if_neg hroom]
          clear HF3
          obtain ⟨u0, u1, v0, v1⟩ := BF3.out.two
          have BF4 := Lib.hid (BF3.out.set_ 0 (.string (f.data ++ d)))
          have hfr4 : Fr [f.blk] w3 (w3.setCell ⟨f.blk, 0, none⟩ (.string (f.data ++ d))) := Fr.setCell w3 (by simp) _
          have hfp4 := hfr4.blk HD3.out.ptr (by simpa using fun e => HD3.out.fp HFM.out e.symm)
          have hmap4 : ∃ D, (w3.setCell ⟨f.blk, 0, none⟩ (.string (f.data ++ d))).ownsMap Try.prog 9 ptrR s1.mb s1.mn D ∧ MapOf s1.fs D := by
            obtain ⟨D, h1, h2⟩ := HD3.out.map
            exact ⟨D, hfr4.map h1 (by simpa using fun e => HD3.out.fm HFM.out e.symm), h2⟩
          obtain ⟨w5, hr, hf5, hm5⟩ := store_map hmap4 nm HNM.out f.blk s1.fs (fun D hM => by rw [← HFT.out]; exact hM.put (f := f) (delF_perm HD3.out.ok.up HFM.out)) (by have h1 := HMM.out; have h2 := HSM.out.2.2.1; unfold maxLen; omega)
          have hfp5 := hf5.blk hfp4 (by simpa using HD3.out.mp.symm)
          obtain ⟨d0, d1, d2, d3, d4, d5, d6, d7⟩ := dk8 hfp5
          obtain ⟨f0, f1, f2, f3, f4, f5, f6, f7⟩ := dkF hfp5
          have c1' := (dk8 hfp4).2.1
          have hh : ∀ g : Fi, ((fun g : Fi => (⟨g.name, g.data ++ d, g.safe, g.blk⟩ : Fi)) g).name = g.name ∧ ((fun g : Fi => (⟨g.name, g.data ++ d, g.safe, g.blk⟩ : Fi)) g).blk = g.blk := fun g => ⟨rfl, rfl⟩
          have k6 : Fr [p] w5 ((w5.setCell ⟨p, 2, none⟩ (.int .i64 (s1.used + (d.size : Nat)))).setCell ⟨p, 3, none⟩ (.int .i64 (s1.written + (d.size : Nat)))) := (Fr.setCell w5 (by simp) _).trans (Fr.setCell _ (by simp) _)
          have hfin : DkAt ((w5.setCell ⟨p, 2, none⟩ (.int .i64 (s1.used + (d.size : Nat)))).setCell ⟨p, 3, none⟩ (.int .i64 (s1.written + (d.size : Nat)))) p { s1 with used := s1.used + (d.size : Nat), written := s1.written + (d.size : Nat), fs := updF nm.data.toList (fun g => ⟨g.name, g.data ++ d, g.safe, g.blk⟩) s1.fs, mn := s1.mn + 1 } := by
            refine ⟨(hfp5.set_ 2 _).set_ 3 _, ?_, fun g hg => ?_, HD3.out.ok.upd HFN.out (by have := HBIG.out; omega) (by omega)⟩
            · obtain ⟨D, h1, h2⟩ := hm5
              exact ⟨D, k6.map h1 (by simpa using HD3.out.mp), h2.upd hh⟩
            · rcases mem_updF hg with ⟨g', hg', e, rfl⟩ | ⟨hg', hne⟩
              · have hgf : g' = f := by
                  have := findF_of HD3.out.ok.up hg'
                  rw [e, HFN.out] at this
                  injection this with this; exact this.symm
                subst hgf
                exact k6.blk (hf5.blk BF4.out (by simpa using HD3.out.fm HFM.out)) (by simpa using HD3.out.fp HFM.out)
              · have hbne : g.blk ≠ f.blk := fun e => hne (by
                  have : g = f := blk_inj HD3.out.ok.one hg' HFM.out e
                  rw [this]; exact HFT.out)
                exact k6.blk (hf5.blk (hfr4.blk (HD3.out.fil g hg') (by simpa using hbne)) (by simpa using HD3.out.fm hg')) (by simpa using HD3.out.fp hg')
          have hst : DkStep p s { s1 with used := s1.used + (d.size : Nat), written := s1.written + (d.size : Nat), fs := updF nm.data.toList (fun g => ⟨g.name, g.data ++ d, g.safe, g.blk⟩) s1.fs, mn := s1.mn + 1 } w ((w5.setCell ⟨p, 2, none⟩ (.int .i64 (s1.used + (d.size : Nat)))).setCell ⟨p, 3, none⟩ (.int .i64 (s1.written + (d.size : Nat)))) := by
            have e9 : dks p { s1 with used := s1.used + (d.size : Nat), written := s1.written + (d.size : Nat), fs := updF nm.data.toList (fun g => ⟨g.name, g.data ++ d, g.safe, g.blk⟩) s1.fs, mn := s1.mn + 1 } = dks p s1 := by
              unfold dks
              dsimp only
              rw [updF_blk hh]
            refine HS3.out.trans ⟨?_, fun g hg => .inl (by rw [e9] at hg; exact hg)⟩
            have a1 : f.blk ∈ dks p s1 := List.mem_cons_of_mem _ (List.mem_cons_of_mem _ (List.mem_map.2 ⟨f, HFM.out, rfl⟩))
            have a2 : s1.mb ∈ dks p s1 := List.mem_cons_of_mem _ (List.mem_cons_self ..)
            have a3 : p ∈ dks p s1 := List.mem_cons_self ..
            exact (hfr4.more (fun g hg => by rw [List.mem_singleton] at hg; subst hg; exact a1)).trans ((hf5.more (fun g hg => by rw [List.mem_singleton] at hg; subst hg; exact a2)).trans (k6.more (fun g hg => by rw [List.mem_singleton] at hg; subst hg; exact a3)))
          have FIN := Lib.hid (And.intro hfin hst)
          have hwu : IntKind.i64.wrap (s1.used + (d.size : Nat)) = s1.used + (d.size : Nat) := IntWalk.i64_in _ (by have := HD3.out.ok.rm; have := HD3.out.ok.use; omega)
          have hww : IntKind.i64.wrap (s1.written + (d.size : Nat)) = s1.written + (d.size : Nat) := IntWalk.i64_in _ (by have h1 := HD3.out.ok.wr; have h2 := HWW.out; have h3 := HSM.out.2.2.2.2.2; omega)
          clear hfin hst hfp5 hm5 hf5 hfr4 hfp4 hmap4 k6 hh HD3 HS3 BF3 BF4 HFN HFM HFT hnm HBIG
          go_wp2_with fail
          go_ret
          exact ⟨0, by rw [HFF.out]; rfl, by rw [HFF.out]; exact FIN.out⟩
  · have he2 : (e1 != 0) = true := bne_iff_ne.2 he1
    have HFF : Hid (∀ b, F b = (e1, s1)) := fun b => by rw [HF.out]; dsimp only; rw [if_pos he1]
    clear HF HBZ HSM he1
    go_wp2_with fail
    go_ret
    exact ⟨0, by rw [HFF.out]; rfl, by rw [HFF.out]; exact ⟨HD1.out, HS1.out⟩⟩
end Go.Proofs.Ytefpjdgfcgjbaaa

/- append of whatever slice; rows of texts. -/
namespace Go.Proofs.Ytefpjdgfcgjbaaa
set_option linter.unusedVariables false
set_option linter.unusedSimpArgs false
open Go.RowKit
/-- append of whatever slice onto a row of the call's own: of nothing, too. -/
theorem ap_rowZ {P : Program} {w : World} {ops : Array Oper} {rest : List Oper} {o : Oper} {a : Act} {Q : Exit → Act → World → Prop} {t e : TypeId} {z : Value} {size bytes base : Nat}
    (hinfo : (P.info? e).map (fun i => (i.zero, i.size, i.bytes)) = some (some z, size, bytes)) (ht : P.underlying t = some (.slice e)) (hzs : z.cells.size = size) (hsz : 0 < size)
    (hgd : o.guard = none) (s x : Operand) (ho : o.op = .call { callee := .builtin .append, args := #[s, x], argTypes := #[t, t] })
    {v : Value} {n : Nat} {xs : List Value} (hs : a.eval s = v) (hown : w.ownsRow base e size v n xs) (hbase : base ≤ w.heap.size)
    (ao : Option Addr) (m c : Nat) (news : List Value) (hx : a.eval x = .slice ao m c) (hl : news.length = m * size)
    (hnews : 0 < m → ∃ ad, ao = some ad ∧ ∀ j u, news[j]? = some u → w.cell? (ad.add j) = some u) (h1 : ∀ u ∈ news, u.oneCell' = true)
    (h63 : n + m ≤ maxLen) (hbytes : (n + m) * bytes ≤ 140737488355328)
    (h : ∀ v' w', w'.ownsRow base e size v' (n + m) (xs ++ news) → w.grownBy w' v.ownBlock → (v'.ownBlock = v.ownBlock ∨ v'.ownBlock = some w.heap.size) → wpList P ops Q rest (a.put o.dst v') w') :
    wpList P ops Q (o :: rest) a w := by
  by_cases hm : m = 0
  · subst hm
    obtain ⟨i, hi, hz, hsize, hby⟩ := info_parts hinfo
    obtain ⟨av, capv, rfl⟩ := own_slice hown
    have hl0 : news = [] := List.length_eq_zero_iff.1 (by rw [hl, Nat.zero_mul])
    subst hl0
    have hcap : n ≤ capv := by
      rcases hown.2 with ⟨h1, h2⟩ | ⟨g, cap', cur, h1, h2, h3, h4, h5⟩
      · injection h1 with _ h1 h3; omega
      · injection h1 with _ h1 h3; omega
    have hsrc : Src P i.size t (.slice ao 0 c) 0 [] w := by
      cases ao with
      | none => exact Src.ofNil w ht c
      | some ad => exact Src.ofSlice w ht ad 0 c [] (by simp) (fun j u h => by cases h) (fun u h => by cases h)
    have hrun := run_append_nothing (P := P) w t t o.type e i ht hi av n capv hcap _ hsrc
    refine wpList_plain hgd fun _ hK => ?_
    unfold Oper.wp execOp
    simp only [ho, resolve, invoke, builtin, Sem.run_bind, Sem.run_pure, Result.andThen_ok, List.map_toArray, List.map_cons, List.map_nil, hs, hx, hrun]
    exact hK _ _ (h _ _ (by rw [List.append_nil]; exact hown) (World.grownBy.refl _ _) (.inl rfl))
  · obtain ⟨ad, rfl, hc⟩ := hnews (by omega)
    exact ap_row hinfo ht hzs hsz hgd s x ho hs hown hbase ad m c news hx hl hc h1 h63 hbytes h
theorem infoS : (Try.prog.info? 9).map (fun i => (i.zero, i.size, i.bytes)) = some (some (.string ⟨#[]⟩), 1, 16) := by kernel_rfl
theorem str_cells {w : World} {X : List Nat} {l : List (List UInt8)} {b o len cap : Nat} (h : SlR strK w X l (some ⟨b, o, none⟩) len cap) : ∀ j u, (l.map encStr)[j]? = some u → w.cell? ((⟨b, o, none⟩ : Addr).add j) = some u := by
  intro j u hu
  rw [List.getElem?_map] at hu
  cases hj : l[j]? with
  | none => rw [hj] at hu; cases hu
  | some s =>
    rw [hj] at hu
    injection hu with hu
    have hlt : j < len := by rw [← h.facts.1]; exact (List.getElem?_eq_some_iff.1 hj).1
    obtain ⟨b', o', s', cs, ha, -, -, hs, hR, -, hc⟩ := h.at j hlt
    injection ha with ha; injection ha with h1 h2; subst h1; subst h2
    rw [hj] at hs; injection hs with hs; subst hs
    have hR' : cs = [encStr s] := hR
    subst hR'
    have := hc 0 _ rfl
    rw [Mem.add_off]
    rw [← hu]
    simpa [strK] using this
theorem enc_one (l : List (List UInt8)) : ∀ u ∈ l.map encStr, u.oneCell' = true := by
  intro u hu
  obtain ⟨s, -, rfl⟩ := List.mem_map.1 hu
  simp [encStr, Value.oneCell']
/-- A row of texts of the call's own, as a slice. -/
theorem own_strs {w0 w : World} {v : Value} {n : Nat} {l : List (List UInt8)} (h : w.ownsRow w0.heap.size 9 1 v n (l.map encStr)) (hl : l.length = n) (hb : Below w0.heap.size w0 w) {X : List Nat} (hX : ∀ b ∈ X, b < w0.heap.size) :
    ∃ a cap, v = .slice a n cap ∧ SlR strK w X l a n cap := by
  have hfl : ∀ l : List (List UInt8), (l.map (fun s => [encStr s])).flatten = l.map encStr := fun l => by induction l with | nil => rfl | cons x t ih => simp [ih]
  have h' := h
  rw [← hfl] at h'
  obtain ⟨a, c, rfl, hsl, -⟩ := own_sl (w0 := w0) (X := X) ⟨hb, h'⟩ (by rw [List.length_map, hl]) (fun c hc => by obtain ⟨s, _, rfl⟩ := List.mem_map.1 hc; rfl) hX
  refine ⟨a, c, rfl, ⟨l.map (fun s => [encStr s]), by rw [List.length_map], fun i x cs hx hc => ?_, hsl⟩⟩
  rw [List.getElem?_map, hx] at hc
  injection hc with hc; exact hc.symm
end Go.Proofs.Ytefpjdgfcgjbaaa
