/- A part of the proof: DkNm, DkAr, DkFu, Bld, Open, OpenD, one behind another. -/
import Derived.Test.YtefpjdgfcgjbaaaMFA
import Derived.Test.YtefpjdgfcgjbaaaMFB
import Derived.Test.YtefpjdgfcgjbaaaMFC
import Derived.Test.YtefpjdgfcgjbaaaMFD
import Derived.WalkKit
import Derived.ProofKit
import Derived.OpenShut
import Derived.ShutString
import Derived.ChangeOld
import Derived.Below
import Derived.Deep.Slices
import Derived.Deep.Fields
import Derived.ChangeSame
/- The walk of DiskNames. -/
namespace Go.Proofs.Ytefpjdgfcgjbaaa
set_option linter.unusedVariables false
set_option linter.unusedSimpArgs false
open Go.RowKit
theorem right_any (nm : ByteArray) (w : World) : Calls Try.prog 18 #[.string nm] w fun x w' => x = .returned (.bool (!badN nm.data.toList)) ∧ w' = w := by
  have hl : nm.data.toList.length = nm.size := by rw [Array.length_toList]; rfl
  by_cases h1 : nm.size < 1
  · have h1' : (nm.size : Int) < 1 := by omega
    have e : badN nm.data.toList = true := by
      unfold badN
      rw [List.isEmpty_iff.2 (List.length_eq_zero_iff.1 (by omega))]; rfl
    rw [e]
    clear hl e h1
    go_enter Try.func18, Try.ntmps18
    go_wp2_with fail
    go_ret
    exact ⟨rfl, rfl⟩
  · have h1' : ¬ (nm.size : Int) < 1 := by omega
    have he : nm.data.toList.isEmpty = false := by
      cases hx : nm.data.toList with
      | nil => rw [hx] at hl; simp at hl; omega
      | cons x t => rfl
    by_cases h2 : 24 < nm.size
    · have h2' : ¬ (nm.size : Int) ≤ 24 := by omega
      have e : badN nm.data.toList = true := by unfold badN; rw [he, decide_eq_true (by omega)]; rfl
      rw [e]
      clear hl e h1 h2 he
      go_enter Try.func18, Try.ntmps18
      go_wp2_with fail
      go_ret
      exact ⟨rfl, rfl⟩
    · have h2' : (nm.size : Int) ≤ 24 := by omega
      have e : badN nm.data.toList = false := by unfold badN; rw [he, decide_eq_false (by omega)]; rfl
      rw [e]
      clear hl e h1 h2 he
      go_enter Try.func18, Try.ntmps18
      go_wp2_with fail
      go_ret
      exact ⟨rfl, rfl⟩
/-- What is said of a disk that is on and not armed. -/
structure OnS (s : St) (u : Nat) (c : Nat) : Prop where
  off : s.off = false
  armed : s.armed = false
  room : s.room = 1000
  used : s.used = (u : Nat)
  calls : s.calls ≤ (c : Nat)
  written : s.written ≤ 1000000
  mn : s.mn ≤ c
theorem OnS.ha {s : St} {u c : Nat} (h : OnS s u c) : ¬ (s.armed = true ∧ s.left = 0) := by rw [h.armed]; simp
theorem OnS.bud {s : St} {u c : Nat} (h : OnS s u c) (hc : c ≤ 100000) : s.calls ≤ 4611686018427387904 ∧ s.written ≤ 4611686018427387904 ∧ s.mn ≤ 1000000 := by
  have h1 := h.calls
  have h2 := h.written
  have h3 := h.mn
  exact ⟨by omega, by omega, by omega⟩
theorem new_on (mb : Nat) : OnS (newS 1000 mb) 0 0 := ⟨rfl, rfl, rfl, rfl, by show (0 : Int) ≤ _; decide, by show (0 : Int) ≤ _; decide, by show 0 ≤ 0; decide⟩
/-- A new file. -/
theorem app_new {s : St} {u c : Nat} {t : Nm} {d : ByteArray} {b : Nat} (h : OnS s u c) (hn : badN t = false) (hf : findF s.fs t = none) (hl : s.fs.length < 200) (hd : d.size ≤ 400) (hu : u + d.size ≤ 1000) (hw : s.written ≤ 900000) :
    ∃ s', appendS b s t d = (0, s') ∧ OnS s' (u + d.size) (c + 1) ∧ s'.fs = insF ⟨t, d, 0, b⟩ s.fs ∧ s'.written = s.written + (d.size : Nat) := by
  refine ⟨_, appendS_new h.off h.ha hn hf hl (by omega) (by rw [h.room, h.used]; omega), ⟨h.off, h.armed, h.room, ?_, ?_, ?_, ?_⟩, rfl, rfl⟩
  · show s.used + (d.size : Nat) = _; rw [h.used]; push_cast; rfl
  · show s.calls + 1 ≤ _; have := h.calls; push_cast; omega
  · show s.written + (d.size : Nat) ≤ _; omega
  · show s.mn + 1 ≤ _; have := h.mn; omega
theorem sync_on {s : St} {u c : Nat} {t : Nm} {f : Fi} (h : OnS s u c) (hn : badN t = false) (hf : findF s.fs t = some f) : ∃ s', syncS s t = (0, s') ∧ OnS s' u (c + 1) ∧ s'.fs = updF t syncF s.fs ∧ s'.written = s.written := by
  refine ⟨_, syncS_go h.off h.ha hn hf, ⟨h.off, h.armed, h.room, h.used, ?_, h.written, ?_⟩, rfl, rfl⟩
  · show s.calls + 1 ≤ _; have := h.calls; push_cast; omega
  · show s.mn ≤ _; have := h.mn; omega
/-- A file that is renamed. -/
theorem ren_on {s : St} {u c : Nat} {x y : Nm} {f : Fi} (h : OnS s u c) (hu : UpF s.fs) (hx : badN x = false) (hy : badN y = false) (hxy : x ≠ y) (hf : findF s.fs x = some f) (hall : ∀ g ∈ s.fs, g.name = x ∨ g.name = y) :
    ∃ s', renameS s x y = (0, s') ∧ s'.off = false ∧ s'.armed = false ∧ s'.fs = [⟨y, f.data, f.safe, f.blk⟩] := by
  have hd : delF x (dropS (bs s) y).fs = [] := by
    have h1 : ∀ g ∈ (dropS (bs s) y).fs, g.name = x := by
      intro g hg
      unfold dropS at hg
      cases hy2 : findF (bs s).fs y with
      | none =>
        rw [hy2] at hg
        exact (hall g hg).resolve_right (findF_none hy2 g hg)
      | some k =>
        rw [hy2] at hg
        have hg' := mem_delF.1 (show g ∈ delF y s.fs from hg)
        exact (hall g hg'.1).resolve_right hg'.2
    unfold delF
    refine List.filter_eq_nil_iff.2 (fun g hg => ?_)
    rw [h1 g hg]; simp
  have e := renameS_go h.off h.ha hx hy hxy hf
  rw [hd] at e
  have hds := dropS_same (bs s) y
  exact ⟨_, e, by show (dropS (bs s) y).off = false; rw [hds.2.2.2.2.2.2.1]; exact h.off, by show (dropS (bs s) y).armed = false; rw [hds.2.2.2.2.2.2.2]; exact h.armed, rfl⟩
theorem crashL_none (f : Fi) (h : f.safe ≤ f.data.size) : crashL f 0 (-1) = f.data.data.toList.take f.safe := by
  have hk : keptN f 0 = f.safe := by unfold keptN; simp
  refine List.ext_getElem? (fun i => ?_)
  unfold crashL
  rw [List.getElem?_mapIdx, hk]
  cases hx : (f.data.data.toList.take f.safe)[i]? with
  | none => rfl
  | some x =>
    have := (List.getElem?_eq_some_iff.1 hx).1
    rw [List.length_take] at this
    simp only [Option.map_some]
    rw [if_neg (by omega)]
theorem crash_nil (f : Fi) (h : f.safe ≤ f.data.size) : crashFs [] [f] = [⟨f.name, ⟨(f.data.data.toList.take f.safe).toArray⟩, f.safe, f.blk⟩] := by
  rw [crashFs_one]
  have hk : keptN f 0 = f.safe := by unfold keptN; simp
  have e : keepAt [] 0 = (0, -1) := rfl
  rw [e]
  show [(⟨f.name, ⟨(crashL f 0 (-1)).toArray⟩, keptN f 0, f.blk⟩ : Fi)] = _
  rw [crashL_none f h, hk]
theorem read_one {s : St} {f : Fi} {t : Nm} (ho : s.off = false) (hf : s.fs = [f]) : readS s t = if f.name = t then (f.data, 0) else (⟨#[]⟩, 7) := by
  unfold readS
  rw [ho, hf]
  by_cases h : f.name = t
  · have : findF [f] t = some f := by rw [← h]; exact findF_one f
    rw [if_pos h, this]; rfl
  · have : findF [f] t = none := by
      unfold findF
      rw [List.find?_cons]
      have : (f.name == t) = false := by simpa using h
      rw [this]; rfl
    rw [if_neg h, this]; rfl
theorem arr_take_all (d : ByteArray) : (⟨(d.data.toList.take d.size).toArray⟩ : ByteArray) = d := by
  obtain ⟨x⟩ := d
  have : x.toList.take (ByteArray.mk x).size = x.toList := List.take_of_length_le (by rw [Array.length_toList]; exact Nat.le_refl _)
  show (⟨(x.toList.take (ByteArray.mk x).size).toArray⟩ : ByteArray) = _
  rw [this]
set_option maxRecDepth 100000 in
set_option maxHeartbeats 4000000 in
theorem diskNames_any (a d fr to_ : ByteArray) (sy : Bool) (w : World) (ha : a.size ≤ maxLen) (hd : d.size ≤ maxLen) (hfr : fr.size ≤ maxLen) (hto : to_.size ≤ maxLen) :
    Calls Try.prog 5 #[.string a, .string d, .string fr, .string to_, .bool sy] w fun x w' => x = .returned (.bool true) ∧ Below w.heap.size w w' := by
  by_cases hga : 300 < a.size
  · have hga' : (300 : Int) < (a.size : Int) := by omega
    go_enter Try.func5, Try.ntmps5
    go_wp2_with fail
    go_at_call 9
    (with_reducible refine (awake05_any _).mono ?_)
    rintro e w9 ⟨rfl, b9⟩
    have HB9 := Lib.hid b9
    clear b9
    go_wp2_with fail
    go_ret
    exact ⟨rfl, HB9.out⟩
  have hga' : ¬ (300 : Int) < (a.size : Int) := by omega
  by_cases hgd : 300 < d.size
  · have hgd' : (300 : Int) < (d.size : Int) := by omega
    go_enter Try.func5, Try.ntmps5
    go_wp2_with fail
    go_at_call 9
    (with_reducible refine (awake05_any _).mono ?_)
    rintro e w9 ⟨rfl, b9⟩
    have HB9 := Lib.hid b9
    clear b9
    go_wp2_with fail
    go_ret
    exact ⟨rfl, HB9.out⟩
  have hgd' : ¬ (300 : Int) < (d.size : Int) := by omega
  cases hbf : badN fr.data.toList with
  | true =>
    go_enter Try.func5, Try.ntmps5
    go_wp2_with fail
    go_at_call 18
    (with_reducible refine (right_any fr w).mono ?_)
    rintro x w0 ⟨rfl, hw0⟩
    rw [hw0, hbf]
    clear hw0
    simp only [Bool.not_true, Bool.not_false]
    go_wp2_with fail
    go_at_call 9
    (with_reducible refine (awake05_any _).mono ?_)
    rintro e w9 ⟨rfl, b9⟩
    have HB9 := Lib.hid b9
    clear b9
    go_wp2_with fail
    go_ret
    exact ⟨rfl, HB9.out⟩
  | false =>
    cases hbt : badN to_.data.toList with
    | true =>
      go_enter Try.func5, Try.ntmps5
      go_wp2_with fail
      go_at_call 18
      (with_reducible refine (right_any fr w).mono ?_)
      rintro x w0 ⟨rfl, hw0⟩
      rw [hw0, hbf]
      clear hw0
      simp only [Bool.not_true, Bool.not_false]
      go_wp2_with fail
      go_at_call 18
      (with_reducible refine (right_any to_ w).mono ?_)
      rintro x w0 ⟨rfl, hw0⟩
      rw [hw0, hbt]
      clear hw0
      simp only [Bool.not_true, Bool.not_false]
      go_wp2_with fail
      go_at_call 9
      (with_reducible refine (awake05_any _).mono ?_)
      rintro e w9 ⟨rfl, b9⟩
      have HB9 := Lib.hid b9
      clear b9
      go_wp2_with fail
      go_ret
      exact ⟨rfl, HB9.out⟩
    | false =>
      by_cases hsame : fr = to_
      · subst hsame
        go_enter Try.func5, Try.ntmps5
        go_wp2_with fail
        go_at_call 18
        (with_reducible refine (right_any fr w).mono ?_)
        rintro x w0 ⟨rfl, hw0⟩
        rw [hw0, hbf]
        clear hw0
        simp only [Bool.not_true, Bool.not_false]
        go_wp2_with fail
        go_at_call 18
        (with_reducible refine (right_any fr w).mono ?_)
        rintro x w0 ⟨rfl, hw0⟩
        rw [hw0, hbf]
        clear hw0
        simp only [Bool.not_true, Bool.not_false]
        go_wp2_with fail
        go_at_call 9
        (with_reducible refine (awake05_any _).mono ?_)
        rintro e w9 ⟨rfl, b9⟩
        have HB9 := Lib.hid b9
        clear b9
        go_wp2_with fail
        go_ret
        exact ⟨rfl, HB9.out⟩
      · have hns : fr.data.toList ≠ to_.data.toList := fun e => hsame (by
          obtain ⟨⟨x⟩⟩ := fr; obtain ⟨⟨y⟩⟩ := to_
          have : x = y := e
          rw [this])
        have hne : (fr.toList == to_.toList) = false := by rw [beq_eq_false_iff_ne, ByteArray.toList_eq, ByteArray.toList_eq]; exact hns
        have HNS := Lib.hid hns
        have HBF := Lib.hid hbf
        have HBT := Lib.hid hbt
        clear hsame hns
        go_enter Try.func5, Try.ntmps5
        go_wp2_with fail
        go_at_call 18
        (with_reducible refine (right_any fr w).mono ?_)
        rintro x w0 ⟨rfl, hw0⟩
        rw [hw0, hbf]
        clear hw0
        simp only [Bool.not_true, Bool.not_false]
        go_wp2_with fail
        go_at_call 18
        (with_reducible refine (right_any to_ w).mono ?_)
        rintro x w0 ⟨rfl, hw0⟩
        rw [hw0, hbt]
        clear hw0
        simp only [Bool.not_true, Bool.not_false]
        clear hbf hbt
        go_wp2_with fail
        go_at_call 9
        (with_reducible refine (awake05_any w).mono ?_)
        rintro x w2 ⟨rfl, b2⟩
        have HB2 := Lib.hid b2
        clear b2
        go_wp2_with fail
        go_at_call 10
        (with_reducible refine (new_any 1000 w2 (by omega)).mono ?_)
        rintro x w3 ⟨p, mb, rfl, hdk, hlo, hbl⟩
        have H3 : Hid (Ours w2 w3 p (newS 1000 mb)) := ⟨hdk, hlo, hbl⟩
        have HO3 := Lib.hid (new_on mb)
        have HF3 : Hid ((newS 1000 mb).fs = []) := rfl
        have HW3 : Hid ((newS 1000 mb).written = 0) := rfl
        clear hdk hlo hbl
        generalize newS 1000 mb = s3 at *
        have hbu := HO3.out.bud (by omega)
        go_wp2_with fail
        go_at_call 11
        (with_reducible refine (append_any p s3 _ _ w3 H3.out.dk hbu.1 hbu.2.1 hbu.2.2 hfr (by omega)).mono ?_)
        rintro x w4 ⟨b1, rfl, hdk, hst⟩
        obtain ⟨s4, e, ho4, hf4, hw4⟩ := app_new (t := fr.data.toList) (d := a) (b := b1) HO3.out HBF.out (by rw [HF3.out]; rfl) (by rw [HF3.out]; decide) (by omega) (by omega) (by rw [HW3.out]; omega)
        rw [e] at hdk hst ⊢
        have H4 := Lib.hid (H3.out.step hdk hst)
        have HO4 := Lib.hid ho4
        have HF4 : Hid (s4.fs = [⟨fr.data.toList, a, 0, b1⟩]) := by show _ = _; rw [hf4, HF3.out]; rfl
        have HW4 : Hid (s4.written = (a.size : Nat)) := by show _ = _; rw [hw4, HW3.out]; omega
        clear hdk hst e H3 HO3 HF3 HW3 ho4 hf4 hw4 hbu
        have hbu := HO4.out.bud (by omega)
        have hfn : findF s4.fs to_.data.toList = none := by
          rw [HF4.out]
          unfold findF
          rw [List.find?_cons]
          have : (fr.data.toList == to_.data.toList) = false := by simpa using HNS.out
          rw [this]; rfl
        go_wp2_with fail
        go_at_call 11
        (with_reducible refine (append_any p s4 _ _ w4 H4.out.dk hbu.1 hbu.2.1 hbu.2.2 hto (by omega)).mono ?_)
        rintro x w5 ⟨b2, rfl, hdk, hst⟩
        obtain ⟨s5, e, ho5, hf5, hw5⟩ := app_new (t := to_.data.toList) (d := d) (b := b2) HO4.out HBT.out hfn (by rw [HF4.out]; show 1 < 200; decide) (by omega) (by omega) (by rw [HW4.out]; omega)
        rw [e] at hdk hst ⊢
        have H5 := Lib.hid (H4.out.step hdk hst)
        have HO5 := Lib.hid ho5
        have hnn : ∀ g ∈ s4.fs, g.name ≠ to_.data.toList := findF_none hfn
        have HA5 : Hid (findF s5.fs fr.data.toList = some ⟨fr.data.toList, a, 0, b1⟩) := by
          show findF s5.fs _ = _
          rw [hf5, findF_ins H4.out.dk.ok.up hnn, if_neg (fun e => HNS.out e.symm), HF4.out]
          exact findF_one ⟨fr.data.toList, a, 0, b1⟩
        have HL5 : Hid (∀ g ∈ s5.fs, g.name = fr.data.toList ∨ g.name = to_.data.toList) := by
          intro g hg
          rw [hf5] at hg
          rcases mem_insF.1 hg with rfl | hg
          · exact .inr rfl
          · rw [HF4.out, List.mem_singleton] at hg
            subst hg; exact .inl rfl
        clear hdk hst e H4 HO4 HF4 HW4 ho5 hf5 hw5 hbu hfn hnn
        cases sy with
        | false =>
          go_wp2_with fail
          have hbr := HO5.out.bud (by omega)
          go_at_call 19
          (with_reducible refine (rename_any p s5 _ _ w5 H5.out.dk hbr.1 hbr.2.2 hfr hto).mono ?_)
          rintro x w7 ⟨rfl, hdk, hst⟩
          obtain ⟨s7, e, ho7, har7, hf7⟩ := ren_on HO5.out H5.out.dk.ok.up HBF.out HBT.out HNS.out HA5.out HL5.out
          rw [e] at hdk hst ⊢
          have H7 := Lib.hid (H5.out.step hdk hst)
          have HO7 := Lib.hid ho7
          have HF7 : Hid (s7.fs = [⟨to_.data.toList, a, 0, b1⟩]) := hf7
          clear hdk hst e H5 HO5 HA5 HL5 ho7 har7 hf7 hbr
          go_wp2_with fail
          go_at_call 14
          (with_reducible refine (read_any p s7 _ w7 H7.out.dk hfr).mono ?_)
          rintro x w8 ⟨rfl, hw8⟩
          rw [hw8, read_one HO7.out HF7.out, if_neg (fun e => HNS.out e.symm)]
          clear hw8
          dsimp only
          go_wp2_with fail
          go_at_call 14
          (with_reducible refine (read_any p s7 _ w7 H7.out.dk hto).mono ?_)
          rintro x w9 ⟨rfl, hw9⟩
          rw [hw9, read_one HO7.out HF7.out, if_pos rfl]
          clear hw9
          dsimp only
          go_wp2_with fail
          go_at_call 13
          have hl7 : s7.fs.length ≤ 1000000 := by
            have e : s7.fs.length = 1 := by rw [HF7.out]; rfl
            omega
          (with_reducible refine (crash_any p s7 [] none 0 0 w7 H7.out.dk (SlR.nil _ _ _) hl7).mono ?_)
          rintro x w10 ⟨rfl, hdk, hst⟩
          have H10 := Lib.hid (H7.out.step hdk hst)
          have HO10 : Hid ((crashS s7 []).off = false) := rfl
          clear hdk hst H7 HO7 hl7
          have hcc : (crashFs [] [(⟨to_.data.toList, a, 0, b1⟩ : Fi)]) = [⟨to_.data.toList, ⟨#[]⟩, 0, b1⟩] := crash_nil ⟨to_.data.toList, a, 0, b1⟩ (Nat.zero_le _)
          have HF10 : Hid ((crashS s7 []).fs = [⟨to_.data.toList, ⟨#[]⟩, 0, b1⟩]) := by
            show crashFs [] s7.fs = _
            rw [HF7.out]; exact hcc
          clear hcc HF7
          generalize crashS s7 [] = s10 at *
          go_wp2_with fail
          go_at_call 14
          (with_reducible refine (read_any p s10 _ w10 H10.out.dk hto).mono ?_)
          rintro x w11 ⟨rfl, hw11⟩
          rw [hw11, read_one HO10.out HF10.out, if_pos rfl]
          clear hw11
          dsimp only
          have hlen : s10.fs.length = 1 := by rw [HF10.out]; rfl
          have HNM := Lib.hid (names_any p s10 w10 H10.out.dk (by rw [hlen]; decide))
          rw [hlen] at HNM
          clear hlen
          go_wp2_with fail
          go_at_call 15
          (with_reducible refine HNM.out.mono ?_)
          rintro x w12 ⟨⟨na, nc, rfl, -⟩, b12⟩
          have HB12 := Lib.hid (HB2.out.trans ((H10.out.bel.trans (b12.mono H10.out.bel.size)).mono HB2.out.size))
          clear b12 H10 HNM
          go_wp2_with fail
          go_ret
          exact ⟨rfl, HB12.out⟩
        | true =>
          have hbu := HO5.out.bud (by omega)
          go_wp2_with fail
          go_at_call 12
          (with_reducible refine (sync_any p s5 _ w5 H5.out.dk hbu.1 hfr).mono ?_)
          rintro x w6 ⟨rfl, hdk, hst⟩
          obtain ⟨s6, e, ho6, hf6, -⟩ := sync_on HO5.out HBF.out HA5.out
          rw [e] at hdk hst ⊢
          have H6 := Lib.hid (H5.out.step hdk hst)
          have HO6 := Lib.hid ho6
          have HA6 : Hid (findF s6.fs fr.data.toList = some ⟨fr.data.toList, a, a.size, b1⟩) := by
            show findF s6.fs _ = _
            rw [hf6, findF_upd (h := syncF) (fun f => rfl), HA5.out]
            simp only [Option.map_some, beq_self_eq_true, if_true]
            rfl
          have HL6 : Hid (∀ g ∈ s6.fs, g.name = fr.data.toList ∨ g.name = to_.data.toList) := by
            intro g hg
            rw [hf6] at hg
            rcases mem_updF hg with ⟨f, hf, -, rfl⟩ | ⟨hg, -⟩
            · exact HL5.out f hf
            · exact HL5.out g hg
          clear hdk hst e H5 HO5 HA5 HL5 ho6 hf6 hbu
          go_wp2_with fail
          have hbr := HO6.out.bud (by omega)
          go_at_call 19
          (with_reducible refine (rename_any p s6 _ _ w6 H6.out.dk hbr.1 hbr.2.2 hfr hto).mono ?_)
          rintro x w7 ⟨rfl, hdk, hst⟩
          obtain ⟨s7, e, ho7, har7, hf7⟩ := ren_on HO6.out H6.out.dk.ok.up HBF.out HBT.out HNS.out HA6.out HL6.out
          rw [e] at hdk hst ⊢
          have H7 := Lib.hid (H6.out.step hdk hst)
          have HO7 := Lib.hid ho7
          have HF7 : Hid (s7.fs = [⟨to_.data.toList, a, a.size, b1⟩]) := hf7
          clear hdk hst e H6 HO6 HA6 HL6 ho7 har7 hf7 hbr
          go_wp2_with fail
          go_at_call 14
          (with_reducible refine (read_any p s7 _ w7 H7.out.dk hfr).mono ?_)
          rintro x w8 ⟨rfl, hw8⟩
          rw [hw8, read_one HO7.out HF7.out, if_neg (fun e => HNS.out e.symm)]
          clear hw8
          dsimp only
          go_wp2_with fail
          go_at_call 14
          (with_reducible refine (read_any p s7 _ w7 H7.out.dk hto).mono ?_)
          rintro x w9 ⟨rfl, hw9⟩
          rw [hw9, read_one HO7.out HF7.out, if_pos rfl]
          clear hw9
          dsimp only
          go_wp2_with fail
          go_at_call 13
          have hl7 : s7.fs.length ≤ 1000000 := by
            have e : s7.fs.length = 1 := by rw [HF7.out]; rfl
            omega
          (with_reducible refine (crash_any p s7 [] none 0 0 w7 H7.out.dk (SlR.nil _ _ _) hl7).mono ?_)
          rintro x w10 ⟨rfl, hdk, hst⟩
          have H10 := Lib.hid (H7.out.step hdk hst)
          have HO10 : Hid ((crashS s7 []).off = false) := rfl
          clear hdk hst H7 HO7 hl7
          have hcc : (crashFs [] [(⟨to_.data.toList, a, a.size, b1⟩ : Fi)]) = [⟨to_.data.toList, a, a.size, b1⟩] := by
            rw [crash_nil ⟨to_.data.toList, a, a.size, b1⟩ (Nat.le_refl _)]
            show [(⟨_, ⟨(a.data.toList.take a.size).toArray⟩, _, _⟩ : Fi)] = _
            rw [arr_take_all]
          have HF10 : Hid ((crashS s7 []).fs = [⟨to_.data.toList, a, a.size, b1⟩]) := by
            show crashFs [] s7.fs = _
            rw [HF7.out]; exact hcc
          clear hcc HF7
          generalize crashS s7 [] = s10 at *
          go_wp2_with fail
          go_at_call 14
          (with_reducible refine (read_any p s10 _ w10 H10.out.dk hto).mono ?_)
          rintro x w11 ⟨rfl, hw11⟩
          rw [hw11, read_one HO10.out HF10.out, if_pos rfl]
          clear hw11
          dsimp only
          have hlen : s10.fs.length = 1 := by rw [HF10.out]; rfl
          have HNM := Lib.hid (names_any p s10 w10 H10.out.dk (by rw [hlen]; decide))
          rw [hlen] at HNM
          clear hlen
          go_wp2_with fail
          go_at_call 15
          (with_reducible refine HNM.out.mono ?_)
          rintro x w12 ⟨⟨na, nc, rfl, -⟩, b12⟩
          have HB12 := Lib.hid (HB2.out.trans ((H10.out.bel.trans (b12.mono H10.out.bel.size)).mono HB2.out.size))
          clear b12 H10 HNM
          go_wp2_with fail
          go_ret
          exact ⟨rfl, HB12.out⟩
end Go.Proofs.Ytefpjdgfcgjbaaa

/- The walk of DiskArmed. -/
namespace Go.Proofs.Ytefpjdgfcgjbaaa
set_option linter.unusedVariables false
set_option linter.unusedSimpArgs false
open Go.RowKit
/-- An armed disk behind i bytes of one file, so many operations left. -/
structure ArS (s : St) (k i : Nat) : Prop where
  off : s.off = false
  armed : s.armed = true
  left : s.left = (k : Nat) - (i : Nat)
  room : s.room = 5000
  used : s.used = (i : Nat)
  calls : s.calls ≤ (i : Nat)
  written : s.written ≤ (i : Nat)
  mn : s.mn ≤ i
  fs : (i = 0 ∧ s.fs = []) ∨ ∃ f, s.fs = [f] ∧ f.name = [102] ∧ f.data.size = i
theorem arm_start (mb k : Nat) : ArS (armS (newS 5000 mb) (k : Nat)) k 0 :=
  ⟨rfl, rfl, by show (if (0 : Int) ≤ (k : Nat) then ((k : Nat) : Int) else 0) = _; rw [if_pos (by omega)]; omega, rfl, rfl, by show (0 : Int) ≤ _; decide, by show (0 : Int) ≤ _; decide, by show 0 ≤ 0; decide, .inl ⟨rfl, rfl⟩⟩
/-- An Append of one byte to the one file. -/
theorem app_one {s : St} {b i : Nat} (d : ByteArray) (hd : d.size = 1) (ho : s.off = false) (ha : ¬ (s.armed = true ∧ s.left = 0)) (hr : s.room = 5000) (hu : s.used = (i : Nat)) (hi : i ≤ 100) (hfs : (i = 0 ∧ s.fs = []) ∨ ∃ f, s.fs = [f] ∧ f.name = [102] ∧ f.data.size = i) :
    ∃ s', appendS b s [102] d = (0, s') ∧ s'.off = false ∧ s'.armed = s.armed ∧ s'.left = (if s.armed then s.left - 1 else s.left) ∧ s'.room = 5000 ∧ s'.used = (i : Nat) + 1 ∧ s'.calls = s.calls + 1 ∧ s'.written = s.written + 1 ∧ s'.mn = s.mn + 1 ∧ ∃ f, s'.fs = [f] ∧ f.name = [102] ∧ f.data.size = i + 1 := by
  rcases hfs with ⟨h0, h1⟩ | ⟨f, h1, h2, h3⟩
  · refine ⟨_, appendS_new ho ha rfl (by rw [h1]; rfl) (by rw [h1]; decide) (by omega) (by rw [hr, hu, hd]; omega), ho, rfl, rfl, hr, by show s.used + (d.size : Nat) = _; rw [hu, hd]; rfl, rfl, by show s.written + (d.size : Nat) = _; rw [hd]; rfl, rfl, ⟨[102], d, 0, b⟩, by show insF _ s.fs = _; rw [h1]; rfl, rfl, by show d.size = _; omega⟩
  · have hf : findF s.fs [102] = some f := by rw [h1, ← h2]; exact findF_one f
    refine ⟨_, appendS_more ho ha rfl hf (by omega) (by rw [hr, hu, hd]; omega), ho, rfl, rfl, hr, by show s.used + (d.size : Nat) = _; rw [hu, hd]; rfl, rfl, by show s.written + (d.size : Nat) = _; rw [hd]; rfl, rfl, ⟨f.name, f.data ++ d, f.safe, f.blk⟩, ?_, h2, ?_⟩
    · show updF [102] _ s.fs = _
      rw [h1, ← h2]; exact updF_one f _
    · show (f.data ++ d).size = _
      rw [ByteArray.size_append, h3, hd]
theorem ArS.step {s : St} {k i b : Nat} (d : ByteArray) (hd : d.size = 1) (h : ArS s k i) (hi : i < k) (hk : k ≤ 20) : ∃ s', appendS b s [102] d = (0, s') ∧ ArS s' k (i + 1) := by
  obtain ⟨s', e, h1, h2, h3, h4, h5, h6, h7, h8, f, h9⟩ := app_one (b := b) d hd h.off (by rw [h.left]; omega) h.room h.used (by omega) h.fs
  have c := h.calls
  have v := h.written
  have m := h.mn
  have l := h.left
  refine ⟨s', e, h1, h2.trans h.armed, ?_, h4, ?_, ?_, ?_, ?_, .inr ⟨f, h9⟩⟩
  · rw [h3, h.armed, if_pos rfl, l]; push_cast; omega
  · rw [h5]; push_cast; rfl
  · rw [h6]; push_cast; omega
  · rw [h7]; push_cast; omega
  · rw [h8]; omega
/-- The disk that has gone off. -/
structure OfS (s : St) (k : Nat) : Prop where
  off : s.off = true
  armed : s.armed = true
  room : s.room = 5000
  used : s.used = (k : Nat)
  calls : s.calls ≤ 100
  written : s.written ≤ 100
  mn : s.mn ≤ 100
  left : s.left = 0
  fs : (k = 0 ∧ s.fs = []) ∨ ∃ f, s.fs = [f] ∧ f.name = [102] ∧ f.data.size = k
theorem ArS.gone {s : St} {k b : Nat} {d : ByteArray} {t : Nm} (h : ArS s k k) (hk : k ≤ 20) : ∃ s', appendS b s t d = (6, s') ∧ OfS s' k := by
  have c := h.calls
  have v := h.written
  have m := h.mn
  refine ⟨_, appendS_end h.off h.armed (by rw [h.left]; omega), rfl, h.armed, h.room, h.used, by show s.calls + 1 ≤ 100; omega, by show s.written ≤ 100; omega, by show s.mn ≤ 100; omega, by show s.left = 0; rw [h.left]; omega, h.fs⟩
/-- Armed, or off. -/
def Ar2 (s : St) (k : Nat) : Prop := ArS s k k ∨ OfS s k
theorem Ar2.app {s : St} {k b : Nat} {d : ByteArray} {t : Nm} (h : Ar2 s k) (hk : k ≤ 20) : ∃ s', appendS b s t d = (6, s') ∧ OfS s' k := by
  rcases h with h | h
  · exact h.gone hk
  · exact ⟨s, appendS_off h.off, h⟩
theorem Ar2.bud {s : St} {k : Nat} (h : Ar2 s k) (hk : k ≤ 20) : s.calls ≤ 4611686018427387904 ∧ s.written ≤ 4611686018427387904 ∧ s.mn ≤ 1000000 ∧ s.used = (k : Nat) := by
  rcases h with h | h
  · have c := h.calls
    have v := h.written
    have m := h.mn
    exact ⟨by omega, by omega, by omega, h.used⟩
  · have c := h.calls
    have v := h.written
    have m := h.mn
    exact ⟨by omega, by omega, by omega, h.used⟩
theorem OfS.crash {s : St} {k : Nat} (h : OfS s k) (hk : k ≤ 20) (ok : StOk s) : (crashS s [(1000, -1)]).used = (k : Nat) ∧ ((k = 0 ∧ (crashS s [(1000, -1)]).fs = []) ∨ ∃ f, (crashS s [(1000, -1)]).fs = [f] ∧ f.name = [102] ∧ f.data.size = k) := by
  rcases h.fs with ⟨h0, h1⟩ | ⟨f, h1, h2, h3⟩
  · have e : (crashS s [(1000, -1)]).fs = [] := by show crashFs _ s.fs = _; rw [h1]; rfl
    refine ⟨?_, .inl ⟨h0, e⟩⟩
    show ((sumD (crashFs _ s.fs) : Nat) : Int) = _
    rw [h1, h0]; rfl
  · have hsf := (ok.siz f (by rw [h1]; exact List.mem_singleton.2 rfl)).2
    have hk1 : keptN f 1000 = k := by unfold keptN; rw [h3] at *; omega
    have e : crashFs [(1000, -1)] s.fs = [crashF 1000 (-1) f] := by rw [h1, crashFs_one]; rfl
    have hz : (crashF 1000 (-1) f).data.size = k := by rw [crashF_size _ _ hsf, hk1]
    refine ⟨?_, .inr ⟨crashF 1000 (-1) f, e, h2, hz⟩⟩
    show ((sumD (crashFs _ s.fs) : Nat) : Int) = _
    rw [e]
    unfold sumD
    simp [hz]
theorem Ar2.len {s : St} {k : Nat} (h : Ar2 s k) : s.fs.length ≤ 1000000 := by
  have : (s.fs = []) ∨ ∃ f, s.fs = [f] := by
    rcases h with h | h
    · rcases h.fs with ⟨_, h1⟩ | ⟨f, h1, _⟩
      · exact .inl h1
      · exact .inr ⟨f, h1⟩
    · rcases h.fs with ⟨_, h1⟩ | ⟨f, h1, _⟩
      · exact .inl h1
      · exact .inr ⟨f, h1⟩
  rcases this with h1 | ⟨f, h1⟩
  · rw [h1]; decide
  · have e : s.fs.length = 1 := by rw [h1]; rfl
    omega
theorem u8_nat {n : Int} (h : (Lit.int .u8 n).wf = true) : ∃ n' : Nat, n = n' ∧ n' < 256 := by
  simp [Lit.wf, IntKind.min, IntKind.max, IntKind.signed, IntKind.bits] at h
  exact ⟨n.toNat, by omega, by omega⟩
set_option maxRecDepth 100000 in
set_option maxHeartbeats 4000000 in
theorem diskArmed_any (n m : Int) (w : World) (hn : (Lit.int .u8 n).wf = true) (hm : (Lit.int .u8 m).wf = true) :
    Calls Try.prog 6 #[.int .u8 n, .int .u8 m] w fun x w' => x = .returned (.bool true) ∧ Below w.heap.size w w' := by
  obtain ⟨n', rfl, hn1⟩ : ∃ n' : Nat, n = n' ∧ n' < 256 := u8_nat hn
  obtain ⟨m', rfl, hm1⟩ : ∃ m' : Nat, m = m' ∧ m' < 256 := u8_nat hm
  clear hn hm
  go_enter Try.func6, Try.ntmps6
  go_wp2_with fail
  go_at_call 10
  (with_reducible refine (new_any 5000 w (by omega)).mono ?_)
  rintro x w1 ⟨p, mb, rfl, hdk, hlo, hbl⟩
  have H1 : Hid (Ours w w1 p (newS 5000 mb)) := ⟨hdk, hlo, hbl⟩
  clear hdk hlo hbl
  go_wp2_with fail
  go_at_call 9
  (with_reducible refine (awake05_any w1).mono ?_)
  rintro x w2 ⟨rfl, b2⟩
  have H2 := Lib.hid (H1.out.below b2)
  clear b2 H1
  go_wp2_with fail
  have hk20 : (((n' : Nat) : Int) % 20) = ((n' % 20 : Nat) : Int) := by omega
  rw [hk20]
  obtain ⟨k, hk⟩ : ∃ k, k = n' % 20 := ⟨_, rfl⟩
  rw [← hk]
  have HK : Hid (k ≤ 20) := by show _ ≤ _; omega
  clear hk20 hk
  go_at_call 20
  (with_reducible refine (arm_any p (newS 5000 mb) w2 (k : Nat) (by have := HK.out; unfold I64; omega) H2.out.dk).mono ?_)
  rintro x w3 ⟨rfl, hdk, hst⟩
  have H3 : Hid (∃ s, Ours w w3 p s ∧ ArS s k 0) := ⟨_, H2.out.step hdk hst, arm_start mb k⟩
  clear hdk hst H2
  have hm5 : (((m' : Nat) : Int) % 5) = ((m' % 5 : Nat) : Int) := by omega
  obtain ⟨mm, hmm⟩ : ∃ mm, mm = m' % 5 := ⟨_, rfl⟩
  rw [← hmm] at hm5
  have HMM : Hid (mm ≤ 5) := by show _ ≤ _; omega
  clear hmm
  go_upto_block 0 with (fail)
  go_cut [7] (fun _ W => Hid (∃ s, Ours w W p s ∧ ArS s k k))
  case first =>
    go_wp2_with fail
    go_loopw [7] (fun i wr => ∃ (j : Nat), i = .int .i64 (j : Nat) ∧ j ≤ k ∧ Hid (∃ s, Ours w wr p s ∧ ArS s k j)) (fun i _ => k - (intOf i).toNat)
    case atStart => exact ⟨0, rfl, Nat.zero_le _, H3.out⟩
    case round =>
      obtain ⟨j, rfl, hj, HR⟩ := hrel
      by_cases hlt : j < k
      · have hlt' : (j : Int) < (k : Int) := by omega
        have i1 : (j : Int) ≤ 20 := by have := HK.out; omega
        obtain ⟨s, ho, har⟩ := HR.out
        have HO := Lib.hid ho
        have HA := Lib.hid har
        clear ho har HR
        have hbu : s.calls ≤ 4611686018427387904 ∧ s.written ≤ 4611686018427387904 ∧ s.mn ≤ 1000000 := by
          have a := HA.out.calls
          have b := HA.out.written
          have c := HA.out.mn
          exact ⟨by omega, by omega, by omega⟩
        go_wp2_with fail
        go_at_call 11
        (with_reducible refine (append_any p s _ _ wr HO.out.dk hbu.1 hbu.2.1 hbu.2.2 (by decide) (by decide)).mono ?_)
        rintro x w4 ⟨b, rfl, hdk, hst⟩
        obtain ⟨s', e, h'⟩ := HA.out.step (b := b) ⟨#[120]⟩ rfl hlt HK.out
        have e' : appendS b s (⟨#[102]⟩ : ByteArray).data.toList ⟨#[120]⟩ = (0, s') := e
        rw [e'] at hdk hst ⊢
        have HO4 := Lib.hid (HO.out.step hdk hst)
        have HA4 := Lib.hid h'
        clear hdk hst e e' h' HO HA hbu
        have hoff := HA4.out.off
        have HON := Lib.hid (on_any p s' w4 HO4.out.dk)
        rw [hoff] at HON
        go_wp2_with fail
        go_at_call 21
        (with_reducible refine HON.out.mono ?_)
        rintro x w5 ⟨rfl, b5⟩
        have HF : Hid (∃ s, Ours w w5 p s ∧ ArS s k (j + 1)) := ⟨s', HO4.out.below b5, HA4.out⟩
        clear b5 HO4 HA4 hoff HON
        go_wp2_with fail
        go_roundw
        case rel => exact ⟨j + 1, by go_num, by omega, HF.out⟩
        case measure => simp [intOf]; omega
      · have hlt' : ¬ (j : Int) < (k : Int) := by omega
        obtain rfl : j = k := by omega
        go_wp2_with fail
        go_meet
        case rel => exact HR.out
  case rest =>
    have H4 := hcut
    obtain ⟨w4, rfl⟩ : ∃ W : World, W = wc := ⟨_, rfl⟩
    clear hcut H3
    go_upto_block 2 with (fail)
    go_cut [8] (fun _ W => Hid (∃ s, Ours w W p s ∧ OfS s k))
    case first =>
      go_wp2_with fail
      go_loopw [8] (fun i wr => ∃ (j : Nat), i = .int .i64 (j : Nat) ∧ j ≤ mm + 1 ∧ Hid (∃ s, Ours w wr p s ∧ Ar2 s k ∧ (0 < j → OfS s k))) (fun i _ => mm + 1 - (intOf i).toNat)
      case atStart =>
        obtain ⟨s, h1, h2⟩ := H4.out
        exact ⟨0, rfl, Nat.zero_le _, s, h1, .inl h2, fun h => absurd h (by omega)⟩
      case round =>
        clear H4
        obtain ⟨j, rfl, hj, HR⟩ := hrel
        by_cases hlt : j ≤ mm
        · have hlt' : (j : Int) ≤ (mm : Int) := by omega
          have i1 : (j : Int) ≤ 20 := by have := HMM.out; omega
          obtain ⟨s, ho, har, -⟩ := HR.out
          have HO := Lib.hid ho
          have HA := Lib.hid har
          have hbu := har.bud HK.out
          clear ho har HR
          go_wp2_with fail
          go_at_call 11
          (with_reducible refine (append_any p s _ _ wr HO.out.dk hbu.1 hbu.2.1 hbu.2.2.1 (by decide) (by decide)).mono ?_)
          rintro x w4 ⟨b, rfl, hdk, hst⟩
          obtain ⟨s', e, h'⟩ := HA.out.app (b := b) (d := ⟨#[120]⟩) (t := (⟨#[102]⟩ : ByteArray).data.toList) HK.out
          rw [e] at hdk hst ⊢
          have HO4 := Lib.hid (HO.out.step hdk hst)
          have HA4 := Lib.hid h'
          clear hdk hst e h' HO HA hbu
          have hbu := (show Ar2 s' k from .inr HA4.out).bud HK.out
          go_wp2_with fail
          go_at_call 19
          (with_reducible refine (rename_any p s' _ _ w4 HO4.out.dk hbu.1 hbu.2.2.1 (by decide) (by decide)).mono ?_)
          rintro x w5 ⟨rfl, hdk, hst⟩
          have e : renameS s' (⟨#[102]⟩ : ByteArray).data.toList (⟨#[103]⟩ : ByteArray).data.toList = (6, s') := renameS_off HA4.out.off
          rw [e] at hdk hst ⊢
          have HO5 := Lib.hid (HO4.out.step hdk hst)
          clear hdk hst e HO4
          have hoff := HA4.out.off
          have HON := Lib.hid (on_any p s' w5 HO5.out.dk)
          rw [hoff] at HON
          go_wp2_with fail
          go_at_call 21
          (with_reducible refine HON.out.mono ?_)
          rintro x w6 ⟨rfl, b6⟩
          have HO6 := Lib.hid (HO5.out.below b6)
          clear b6 HO5 HON hoff
          have HUS := Lib.hid (used_any p s' w6 HO6.out.dk)
          rw [hbu.2.2.2] at HUS
          go_wp2_with fail
          go_at_call 16
          (with_reducible refine HUS.out.mono ?_)
          rintro x w7 ⟨rfl, b7⟩
          have HF : Hid (∃ s, Ours w w7 p s ∧ Ar2 s k ∧ (0 < j + 1 → OfS s k)) := ⟨s', HO6.out.below b7, .inr HA4.out, fun _ => HA4.out⟩
          clear b7 HO6 HA4 HUS hbu
          go_wp2_with fail
          go_roundw
          case rel => exact ⟨j + 1, by go_num, by omega, HF.out⟩
          case measure => simp [intOf]; omega
        · have hlt' : ¬ (j : Int) ≤ (mm : Int) := by omega
          go_wp2_with fail
          go_meet
          case rel =>
            obtain ⟨s, h1, -, h3⟩ := HR.out
            exact ⟨s, h1, h3 (by omega)⟩
    case rest =>
      obtain ⟨s5, ho5, hf5⟩ := hcut.out
      obtain ⟨w5, rfl⟩ : ∃ W : World, W = wc := ⟨_, rfl⟩
      have hal := (Below.refl w5.heap.size w5).alloc (Nat.le_refl _) (.cells #[.int .i64 1000, .int .i64 (-1)] 23)
      have H6 := Lib.hid (ho5.below hal)
      have HK6 := Lib.hid (sl_keep w5 1000 (-1) _ ho5.dk.lt (by unfold I64; omega) (by unfold I64; omega))
      have HOF := Lib.hid hf5
      have hln := (show Ar2 s5 k from .inr hf5).len
      clear hal ho5 hf5 H4 hcut
      go_wp2_with fail
      go_at_call 13
      (with_reducible refine (crash_any p s5 [(1000, -1)] _ 1 1 _ H6.out.dk HK6.out hln).mono ?_)
      rintro x w7 ⟨rfl, hdk, hst⟩
      have H7 := Lib.hid (H6.out.step hdk hst)
      have hcr := HOF.out.crash HK.out H6.out.dk.ok
      have HC1 := Lib.hid hcr.1
      have HC2 := Lib.hid hcr.2
      have hbu : (crashS s5 [(1000, -1)]).calls ≤ 4611686018427387904 ∧ (crashS s5 [(1000, -1)]).written ≤ 4611686018427387904 ∧ (crashS s5 [(1000, -1)]).mn ≤ 1000000 ∧ (crashS s5 [(1000, -1)]).room = 5000 ∧ (crashS s5 [(1000, -1)]).off = false ∧ (crashS s5 [(1000, -1)]).armed = false := by
        have a := HOF.out.calls
        have b := HOF.out.written
        have c := HOF.out.mn
        have d := HOF.out.room
        exact ⟨by show s5.calls ≤ _; omega, by show s5.written ≤ _; omega, by show s5.mn ≤ _; omega, d, rfl, rfl⟩
      clear hdk hst H6 HK6 HOF hcr hln
      generalize crashS s5 [(1000, -1)] = s7 at *
      have HON := Lib.hid (on_any p s7 w7 H7.out.dk)
      rw [hbu.2.2.2.2.1] at HON
      go_wp2_with fail
      go_at_call 21
      (with_reducible refine HON.out.mono ?_)
      rintro x w8 ⟨rfl, b8⟩
      have H8 := Lib.hid (H7.out.below b8)
      clear b8 H7 HON
      go_wp2_with fail
      go_at_call 11
      (with_reducible refine (append_any p s7 _ _ w8 H8.out.dk hbu.1 hbu.2.1 hbu.2.2.1 (by decide) (by decide)).mono ?_)
      rintro x w9 ⟨b, rfl, hdk, hst⟩
      obtain ⟨s', e, -, -, -, -, hu, -⟩ := app_one (b := b) (s := s7) ⟨#[120]⟩ rfl hbu.2.2.2.2.1 (by rw [hbu.2.2.2.2.2]; simp) hbu.2.2.2.1 HC1.out (by have := HK.out; omega) HC2.out
      have e' : appendS b s7 (⟨#[102]⟩ : ByteArray).data.toList ⟨#[120]⟩ = (0, s') := e
      rw [e'] at hdk hst ⊢
      have H9 := Lib.hid (H8.out.step hdk hst)
      clear hdk hst e e' H8 hbu HC1 HC2
      have HUS := Lib.hid (used_any p s' w9 H9.out.dk)
      rw [hu] at HUS
      clear hu
      have hkw : IntKind.i64.wrap ((k : Int) + 1) = (k : Int) + 1 := IntWalk.i64_in _ (by have := HK.out; omega)
      go_wp2_with fail
      go_at_call 16
      (with_reducible refine HUS.out.mono ?_)
      rintro x w10 ⟨rfl, b10⟩
      have H10 := Lib.hid (H9.out.below b10)
      clear b10 H9 HUS
      go_wp2_with fail
      go_ret
      exact ⟨rfl, H10.out.bel⟩
end Go.Proofs.Ytefpjdgfcgjbaaa

/- The walk of DiskFull. -/
namespace Go.Proofs.Ytefpjdgfcgjbaaa
set_option linter.unusedVariables false
set_option linter.unusedSimpArgs false
open Go.RowKit
def nmK (j : Nat) : Nm := [102, UInt8.ofNat (97 + j / 26), UInt8.ofNat (97 + j % 26)]
theorem nmK_inj {i j : Nat} (hi : i < 300) (hj : j < 300) (h : nmK i = nmK j) : i = j := by
  unfold nmK at h
  injection h with _ h
  injection h with h1 h
  injection h with h2 _
  have e1 := congrArg UInt8.toNat h1
  have e2 := congrArg UInt8.toNat h2
  rw [UInt8.toNat_ofNat', UInt8.toNat_ofNat'] at e1 e2
  omega
theorem nmK_good (j : Nat) : badN (nmK j) = false := rfl
/-- A disk behind k files of one byte; two hundred are the most. -/
structure FuS (s : St) (k : Nat) : Prop where
  off : s.off = false
  armed : s.armed = false
  room : s.room = 1000
  used : s.used = (min k 200 : Nat)
  calls : s.calls ≤ (k : Nat)
  written : s.written ≤ (k : Nat)
  mn : s.mn ≤ k
  len : s.fs.length = min k 200
  nam : ∀ f ∈ s.fs, ∃ j, j < min k 200 ∧ f.name = nmK j
  has : ∀ j, j < min k 200 → ∃ f, findF s.fs (nmK j) = some f ∧ f.data.size = 1
theorem fu_start (mb : Nat) : FuS (newS 1000 mb) 0 := ⟨rfl, rfl, rfl, rfl, by show (0 : Int) ≤ _; decide, by show (0 : Int) ≤ _; decide, by show 0 ≤ 0; decide, rfl, fun f hf => (by cases hf), fun j hj => absurd hj (by omega)⟩
theorem FuS.fresh {s : St} {k : Nat} (h : FuS s k) (hk : k < 300) : findF s.fs (nmK k) = none := by
  cases hf : findF s.fs (nmK k) with
  | none => rfl
  | some f =>
    obtain ⟨h1, h2⟩ := findF_mem hf
    obtain ⟨j, hj, e⟩ := h.nam f h1
    have := nmK_inj (by omega) hk (e.symm.trans h2)
    omega
theorem FuS.new {s : St} {k b : Nat} {d : ByteArray} (hd : d.size = 1) (h : FuS s k) (hu : UpF s.fs) (hk : k < 200) : ∃ s', appendS b s (nmK k) d = (0, s') ∧ FuS s' (k + 1) := by
  have hn := h.fresh (by omega)
  have hl := h.len
  have hus := h.used
  have m1 : min k 200 = k := by omega
  have m2 : min (k + 1) 200 = k + 1 := by omega
  rw [m1] at hl hus
  have hnn : ∀ g ∈ s.fs, g.name ≠ nmK k := findF_none hn
  have c := h.calls
  have v := h.written
  have m := h.mn
  refine ⟨_, appendS_new h.off (by rw [h.armed]; simp) (nmK_good k) hn (by omega) (by omega) (by rw [h.room, hus, hd]; omega), h.off, h.armed, h.room, ?_, ?_, ?_, ?_, ?_, ?_, ?_⟩
  · show s.used + (d.size : Nat) = _; rw [hus, hd, m2]; rfl
  · show s.calls + 1 ≤ _; omega
  · show s.written + (d.size : Nat) ≤ _; rw [hd]; omega
  · show s.mn + 1 ≤ _; omega
  · show (insF _ s.fs).length = _
    rw [(insF_perm _ s.fs).length_eq, List.length_cons, hl, m2]
  · intro f hf
    rw [m2]
    rcases mem_insF.1 hf with rfl | hf
    · exact ⟨k, by omega, rfl⟩
    · obtain ⟨j, hj, e⟩ := h.nam f hf
      exact ⟨j, by omega, e⟩
  · intro j hj
    rw [m2] at hj
    show ∃ f, findF (insF ⟨nmK k, d, 0, b⟩ s.fs) (nmK j) = some f ∧ _
    rw [findF_ins hu hnn]
    by_cases e : nmK k = nmK j
    · rw [if_pos e]; exact ⟨_, rfl, hd⟩
    · rw [if_neg e]
      exact h.has j (by
        have : j ≠ k := fun e' => e (by rw [e'])
        omega)
theorem FuS.full {s : St} {k b : Nat} {d : ByteArray} (h : FuS s k) (hk : 200 ≤ k) (hk2 : k < 300) : ∃ s', appendS b s (nmK k) d = (4, s') ∧ FuS s' (k + 1) := by
  have c := h.calls
  have v := h.written
  have m := h.mn
  have m1 : min (k + 1) 200 = min k 200 := by omega
  refine ⟨_, appendS_full h.off (by rw [h.armed]; simp) (nmK_good k) (h.fresh hk2) (by rw [h.len]; omega), h.off, h.armed, h.room, ?_, ?_, ?_, ?_, ?_, ?_, ?_⟩
  · rw [m1]; exact h.used
  · show s.calls + 1 ≤ _; omega
  · show s.written ≤ _; omega
  · show s.mn ≤ _; omega
  · rw [m1]; exact h.len
  · rw [m1]; exact h.nam
  · rw [m1]; exact h.has
theorem FuS.bud {s : St} {k : Nat} (h : FuS s k) (hk : k ≤ 300) : s.calls ≤ 4611686018427387904 ∧ s.written ≤ 4611686018427387904 ∧ s.mn ≤ 1000000 := by
  have c := h.calls
  have v := h.written
  have m := h.mn
  exact ⟨by omega, by omega, by omega⟩
/-- A file less, and a new one. -/
theorem FuS.last {s : St} {k : Nat} (h : FuS s k) (hk : 200 ≤ k) (hk2 : k ≤ 300) : ∃ s', deleteS s [102, 97, 97] = (0, s') ∧ s'.calls ≤ 4611686018427387904 ∧ s'.written ≤ 4611686018427387904 ∧ s'.mn ≤ 1000000 ∧ ∀ b, ∃ s2, appendS b s' [110, 101, 119] ⟨#[120]⟩ = (0, s2) := by
  have m1 : min k 200 = 200 := by omega
  obtain ⟨f, hf, hz⟩ := h.has 0 (by omega)
  have c := h.calls
  have v := h.written
  have m := h.mn
  have hl := h.len
  have hus := h.used
  rw [m1] at hl hus
  have hlen : (delF [102, 97, 97] s.fs).length < 200 := by
    have h1 := (findF_mem (t := nmK 0) hf)
    have h2 : (delF [102, 97, 97] s.fs).length ≤ s.fs.length := List.length_filter_le _ _
    have h3 : (delF [102, 97, 97] s.fs).length ≠ s.fs.length := by
      intro e
      have h4 := List.length_filter_eq_length_iff.1 e f h1.1
      rw [h1.2] at h4
      exact absurd h4 (by decide)
    omega
  refine ⟨_, deleteS_go h.off (by rw [h.armed]; simp) rfl hf, by show s.calls + 1 ≤ _; omega, by show s.written ≤ _; omega, by show s.mn ≤ _; omega, fun b => ?_⟩
  refine ⟨_, appendS_new h.off (by show ¬ (s.armed = true ∧ _); rw [h.armed]; simp) rfl ?_ hlen (by decide) ?_⟩
  · show findF (delF [102, 97, 97] s.fs) [110, 101, 119] = none
    cases hx : findF (delF [102, 97, 97] s.fs) [110, 101, 119] with
    | none => rfl
    | some g =>
      obtain ⟨h1, h2⟩ := findF_mem hx
      obtain ⟨j, -, e⟩ := h.nam g (mem_delF.1 h1).1
      rw [h2] at e
      unfold nmK at e
      injection e with e _
      cases e
  · show ((⟨#[120]⟩ : ByteArray).size : Int) ≤ s.room - (s.used - (f.data.size : Nat))
    rw [h.room, hus, hz]
    decide
set_option maxRecDepth 100000 in
set_option maxHeartbeats 4000000 in
theorem diskFull_any (n : Int) (w : World) (hn : (Lit.int .u8 n).wf = true) :
    Calls Try.prog 4 #[.int .u8 n] w fun x w' => x = .returned (.bool true) ∧ Below w.heap.size w w' := by
  obtain ⟨n', rfl, hn1⟩ : ∃ n' : Nat, n = n' ∧ n' < 256 := u8_nat hn
  clear hn
  have hm5 : (((n' : Nat) : Int) % 5) = ((n' % 5 : Nat) : Int) := by omega
  obtain ⟨mm, hmm⟩ : ∃ mm, mm = n' % 5 := ⟨_, rfl⟩
  rw [← hmm] at hm5
  have HMM : Hid (mm < 5) := by show _ < _; omega
  clear hmm
  go_enter Try.func4, Try.ntmps4
  go_wp2_with fail
  go_at_call 10
  (with_reducible refine (new_any 1000 w (by omega)).mono ?_)
  rintro x w1 ⟨p, mb, rfl, hdk, hlo, hbl⟩
  have H1 : Hid (∃ s, Ours w w1 p s ∧ FuS s 0) := ⟨newS 1000 mb, ⟨hdk, hlo, hbl⟩, fu_start mb⟩
  clear hdk hlo hbl
  go_upto_block 0 with (fail)
  go_cut [4] (fun _ W => Hid (∃ s k, 200 ≤ k ∧ k ≤ 300 ∧ Ours w W p s ∧ FuS s k))
  case first =>
    go_wp2_with fail
    go_loopw [4] (fun i wr => ∃ (j : Nat), i = .int .i64 (j : Nat) ∧ j ≤ 200 + mm ∧ Hid (∃ s, Ours w wr p s ∧ FuS s j)) (fun i _ => 200 + mm - (intOf i).toNat)
    case atStart => exact ⟨0, rfl, Nat.zero_le _, H1.out⟩
    case round =>
      obtain ⟨j, rfl, hj, HR⟩ := hrel
      by_cases hlt : j < 200 + mm
      · have hlt' : (j : Int) < 200 + (mm : Int) := by omega
        have i0 : (0 : Int) ≤ (j : Int) := by omega
        have i1 : (j : Int) ≤ 205 := by have := HMM.out; omega
        obtain ⟨s, ho, har⟩ := HR.out
        have HO := Lib.hid ho
        have HA := Lib.hid har
        clear ho har HR H1
        have hbu := HA.out.bud (by omega)
        have hal := (Below.refl wr.heap.size wr).alloc (Nat.le_refl _) (.cells #[.int .u8 102, .int .u8 (97 + (j : Int) / 26), .int .u8 (97 + (j : Int) % 26)] 5)
        have HO2 := Lib.hid (HO.out.below hal)
        have hcv : (convert 35 9 (.slice (some ⟨wr.heap.size, 0, none⟩) 3 3)).run Try.prog (wr.alloc (.cells #[.int .u8 102, .int .u8 (97 + (j : Int) / 26), .int .u8 (97 + (j : Int) % 26)] 5)) = .ok (.string ⟨(nmK j).toArray⟩) (wr.alloc (.cells #[.int .u8 102, .int .u8 (97 + (j : Int) / 26), .int .u8 (97 + (j : Int) % 26)] 5)) := by
          have BZ := Mem.Blk.new wr 5 #[.int .u8 102, .int .u8 (97 + (j : Int) / 26), .int .u8 (97 + (j : Int) % 26)]
          have e1 : (UInt8.ofNat (97 + j / 26)).toNat = 97 + j / 26 := by rw [UInt8.toNat_ofNat']; omega
          have e2 : (UInt8.ofNat (97 + j % 26)).toNat = 97 + j % 26 := by rw [UInt8.toNat_ofNat']; omega
          exact run_convert_bytes_back (P := Try.prog) _ 35 9 5 ⟨wr.heap.size, 0, none⟩ 3 (nmK j) Try.underlying35 Try.underlying5 Try.underlying9 (fun i hi => by
            rw [Mem.add0, BZ.cell]
            have hi3 : i < 3 := hi
            match i, hi3 with
            | 0, _ => rfl
            | 1, _ => show some (Value.int .u8 (97 + (j : Int) / 26)) = some (Value.int .u8 ((UInt8.ofNat (97 + j / 26)).toNat : Int)); rw [e1]; congr 2
            | 2, _ => show some (Value.int .u8 (97 + (j : Int) % 26)) = some (Value.int .u8 ((UInt8.ofNat (97 + j % 26)).toNat : Int)); rw [e2]; congr 2)
        clear hal HO
        have hbn : (⟨(nmK j).toArray⟩ : ByteArray).size ≤ maxLen := by show 3 ≤ _; decide
        go_wp2_with fail
        go_at_call 11
        (with_reducible refine (append_any p s _ _ _ HO2.out.dk hbu.1 hbu.2.1 hbu.2.2 hbn (by decide)).mono ?_)
        rintro x w4 ⟨b, rfl, hdk, hst⟩
        by_cases h200 : j < 200
        · have h2 : (j : Int) < 200 := by omega
          obtain ⟨s', e, h'⟩ := HA.out.new (b := b) (d := ⟨#[120]⟩) rfl HO2.out.dk.ok.up h200
          have e' : appendS b s (⟨(nmK j).toArray⟩ : ByteArray).data.toList ⟨#[120]⟩ = (0, s') := e
          rw [e'] at hdk hst ⊢
          have HF : Hid (∃ s, Ours w w4 p s ∧ FuS s (j + 1)) := ⟨s', HO2.out.step hdk hst, h'⟩
          clear hdk hst e e' h' HO2 HA hbu hcv hbn
          go_wp2_with fail
          go_roundw
          case rel => exact ⟨j + 1, by go_num, by omega, HF.out⟩
          case measure => simp [intOf]; omega
        · have h2 : ¬ (j : Int) < 200 := by omega
          obtain ⟨s', e, h'⟩ := HA.out.full (b := b) (d := ⟨#[120]⟩) (by omega) (by omega)
          have e' : appendS b s (⟨(nmK j).toArray⟩ : ByteArray).data.toList ⟨#[120]⟩ = (4, s') := e
          rw [e'] at hdk hst ⊢
          have HF : Hid (∃ s, Ours w w4 p s ∧ FuS s (j + 1)) := ⟨s', HO2.out.step hdk hst, h'⟩
          clear hdk hst e e' h' HO2 HA hbu hcv hbn
          go_wp2_with fail
          go_roundw
          case rel => exact ⟨j + 1, by go_num, by omega, HF.out⟩
          case measure => simp [intOf]; omega
      · have hlt' : ¬ (j : Int) < 200 + (mm : Int) := by omega
        go_wp2_with fail
        go_meet
        case rel =>
          obtain ⟨s, h1, h2⟩ := HR.out
          have := HMM.out
          exact ⟨s, j, by omega, by omega, h1, h2⟩
  case rest =>
    obtain ⟨s, k, hk1, hk2, ho, hfu⟩ := hcut.out
    obtain ⟨w2, rfl⟩ : ∃ W : World, W = wc := ⟨_, rfl⟩
    have HO := Lib.hid ho
    have HA := Lib.hid hfu
    have hlen : s.fs.length = 200 := by have := hfu.len; omega
    have hus : s.used = 200 := by
      have := hfu.used
      rw [this, show min k 200 = 200 by omega]; rfl
    have hbu := hfu.bud hk2
    clear ho hfu hcut H1
    have HNM := Lib.hid (names_any p s w2 HO.out.dk (by omega))
    rw [hlen] at HNM
    clear hlen
    go_wp2_with fail
    go_at_call 15
    (with_reducible refine HNM.out.mono ?_)
    rintro x w3 ⟨⟨na, nc, rfl, -⟩, b3⟩
    have HO3 := Lib.hid (HO.out.below b3)
    clear b3 HO HNM
    have HUS := Lib.hid (used_any p s w3 HO3.out.dk)
    rw [hus] at HUS
    clear hus
    go_wp2_with fail
    go_at_call 16
    (with_reducible refine HUS.out.mono ?_)
    rintro x w4 ⟨rfl, b4⟩
    have HO4 := Lib.hid (HO3.out.below b4)
    clear b4 HO3 HUS
    go_wp2_with fail
    go_at_call 17
    (with_reducible refine (delete_any p s _ w4 HO4.out.dk hbu.1 (by decide)).mono ?_)
    rintro x w5 ⟨rfl, hdk, hst⟩
    obtain ⟨s', e, q1, q2, q3, hap⟩ := HA.out.last hk1 hk2
    have e' : deleteS s (⟨#[102, 97, 97]⟩ : ByteArray).data.toList = (0, s') := e
    rw [e'] at hdk hst ⊢
    have HO5 := Lib.hid (HO4.out.step hdk hst)
    have HAP := Lib.hid hap
    clear hdk hst e e' HO4 HA hbu hap
    go_wp2_with fail
    go_at_call 11
    (with_reducible refine (append_any p s' _ _ w5 HO5.out.dk q1 q2 q3 (by decide) (by decide)).mono ?_)
    rintro x w6 ⟨b, rfl, hdk, hst⟩
    obtain ⟨s2, e⟩ := HAP.out b
    have e' : appendS b s' (⟨#[110, 101, 119]⟩ : ByteArray).data.toList ⟨#[120]⟩ = (0, s2) := e
    rw [e'] at hdk hst ⊢
    have HO6 := Lib.hid (HO5.out.step hdk hst)
    clear hdk hst e e' HO5 HAP q1 q2 q3
    go_wp2_with fail
    go_at_call 9
    (with_reducible refine (awake05_any w6).mono ?_)
    rintro x w7 ⟨rfl, b7⟩
    have HO7 := Lib.hid (HO6.out.below b7)
    clear b7 HO6
    go_wp2_with fail
    go_ret
    exact ⟨rfl, HO7.out.bel⟩
end Go.Proofs.Ytefpjdgfcgjbaaa

/- Build: its nodes and numbers; plain. -/
namespace Go.Proofs.Ytefpjdgfcgjbaaa
set_option linter.unusedVariables false
set_option linter.unusedSimpArgs false
open Go.RowKit
theorem cell_lt {w : World} {a : Addr} {v : Value} (h : w.cell? a = some v) : a.block < w.heap.size := by
  rcases Nat.lt_or_ge a.block w.heap.size with h1 | h1
  · exact h1
  · have : w.heap[a.block]? = none := Array.getElem?_eq_none h1
    simp [World.cell?, this] at h
/-- What was there is there behind what only makes memory. -/
theorem cell_up {w w' : World} {p : Addr} {v : Value} (h : w.cell? p = some v) (hb : Below w.heap.size w w') : w'.cell? p = some v := (hb.cell (cell_lt h)).trans h
theorem below_new (w : World) (o : Obj) : Below w.heap.size w (w.alloc o).drew := ((Below.refl w.heap.size w).alloc (Nat.le_refl _) o).drew
def ndI (n : Nat) : Int := if n < 1000 then (n : Int) else 1000
def rkI (n r : Nat) : Int := if n < 1000 then (r : Int) else 1000
theorem ndI_bd (n : Nat) : 0 ≤ ndI n ∧ ndI n ≤ 1000 := by unfold ndI; split <;> omega
theorem rkI_bd (n r : Nat) (h : r < 1000) : 0 ≤ rkI n r ∧ rkI n r ≤ 1000 := by unfold rkI; split <;> omega
/-- Of S nodes, M deep, with k within: what N and D are so far. -/
structure Cnt (k S M : Nat) (N D : Int) : Prop where
  n1 : 1 ≤ N
  n2 : N ≤ 1 + 1000 * (k : Int)
  d1 : 1 ≤ D
  d2 : D ≤ 1001
  yes : S < 1000 → N = (S : Int) ∧ D = (M : Int)
  no : 1000 ≤ S → 1000 ≤ N ∨ 1000 ≤ D
theorem Cnt.one : Cnt 0 1 1 1 1 := ⟨by omega, by omega, by omega, by omega, fun _ => ⟨rfl, rfl⟩, fun h => by omega⟩
theorem Cnt.step {k S M : Nat} {N D : Int} (h : Cnt k S M N D) {n r : Nat} (hn : 1 ≤ n) (hr : r < 1000) : Cnt (k + 1) (S + n) (max M (r + 1)) (N + ndI n) (max D (rkI n r + 1)) := by
  obtain ⟨h1, h2, h3, h4, h5, h6⟩ := h
  have b1 := ndI_bd n
  have b2 := rkI_bd n r hr
  refine ⟨by omega, by omega, by omega, by omega, fun hS => ?_, fun hS => ?_⟩
  · obtain ⟨e1, e2⟩ := h5 (by omega)
    have hn' : n < 1000 := by omega
    unfold ndI rkI
    rw [if_pos hn', if_pos hn']
    constructor <;> omega
  · by_cases hS' : 1000 ≤ S
    · rcases h6 hS' with h7 | h7
      · exact .inl (by omega)
      · exact .inr (by omega)
    · obtain ⟨e1, e2⟩ := h5 (by omega)
      by_cases hn' : n < 1000
      · left; unfold ndI; rw [if_pos hn']; omega
      · left; unfold ndI; rw [if_neg hn']; omega
theorem Cnt.great {k S M : Nat} {N D : Int} (h : Cnt k S M N D) (hM : M < 1000) (hg : 1000 ≤ N ∨ 1000 ≤ D) : ndI S = 1000 ∧ rkI S M = 1000 := by
  have : ¬ S < 1000 := fun hS => by obtain ⟨e1, e2⟩ := h.yes hS; omega
  unfold ndI rkI
  rw [if_neg this, if_neg this]
  exact ⟨rfl, rfl⟩
theorem Cnt.small {k S M : Nat} {N D : Int} (h : Cnt k S M N D) (h1 : N < 1000) (h2 : D < 1000) : ndI S = N ∧ rkI S M = D := by
  have hS : S < 1000 := by
    rcases Nat.lt_or_ge S 1000 with h3 | h3
    · exact h3
    · rcases h.no h3 with h4 | h4 <;> omega
  obtain ⟨e1, e2⟩ := h.yes hS
  unfold ndI rkI
  rw [if_pos hS, if_pos hS]
  exact ⟨e1.symm, e2.symm⟩
theorem Ex.nd_snoc (l : List Ex) (x : Ex) : Ex.nd.go (l ++ [x]) = Ex.nd.go l + x.nd := by
  induction l with
  | nil => simp [Ex.nd.go]
  | cons y t ih => simp only [List.cons_append, Ex.nd.go, ih]; omega
theorem Ex.rk_snoc (l : List Ex) (x : Ex) : Ex.rk.go (l ++ [x]) = max (Ex.rk.go l) x.rk := by
  induction l with
  | nil => simp [Ex.rk.go]
  | cons y t ih => simp only [List.cons_append, Ex.rk.go, ih]; omega
theorem Te.nd_snoc (l : List Te) (x : Te) : Te.nd.go (l ++ [x]) = Te.nd.go l + x.nd := by
  induction l with
  | nil => simp [Te.nd.go]
  | cons y t ih => simp only [List.cons_append, Te.nd.go, ih]; omega
theorem Te.rk_snoc (l : List Te) (x : Te) : Te.rk.go (l ++ [x]) = max (Te.rk.go l) x.rk := by
  induction l with
  | nil => simp [Te.rk.go]
  | cons y t ih => simp only [List.cons_append, Te.rk.go, ih]; omega
theorem Ex.rk_go_le {l : List Ex} {b : Nat} (h : ∀ e ∈ l, e.rk ≤ b) : Ex.rk.go l ≤ b := by
  induction l with
  | nil => simp [Ex.rk.go]
  | cons y t ih =>
    simp only [Ex.rk.go]
    have h1 := h y (by simp)
    have h2 := ih (fun e he => h e (by simp [he]))
    omega
theorem Te.rk_go_le {l : List Te} {b : Nat} (h : ∀ e ∈ l, e.rk ≤ b) : Te.rk.go l ≤ b := by
  induction l with
  | nil => simp [Te.rk.go]
  | cons y t ih =>
    simp only [Te.rk.go]
    have h1 := h y (by simp)
    have h2 := ih (fun e he => h e (by simp [he]))
    omega
theorem Ex.nd_pos' (e : Ex) : 1 ≤ e.nd := by cases e; simp only [Ex.nd]; omega
theorem Te.nd_pos' (e : Te) : 1 ≤ e.nd := by cases e; simp only [Te.nd]; omega
theorem max_if (a b : Int) : (if a < b then b else a) = max a b := by split <;> omega
theorem Cnt.push {args : List Ex} {x : Ex} {N D : Int} (h : Cnt args.length (1 + Ex.nd.go args) (1 + Ex.rk.go args) N D) (hr : x.rk < 1000) :
    Cnt (args ++ [x]).length (1 + Ex.nd.go (args ++ [x])) (1 + Ex.rk.go (args ++ [x])) (N + ndI x.nd) (if D < rkI x.nd x.rk + 1 then rkI x.nd x.rk + 1 else D) := by
  have h1 := h.step x.nd_pos' hr
  rw [max_if, Ex.nd_snoc, Ex.rk_snoc, List.length_append]
  rw [show 1 + (Ex.nd.go args + x.nd) = 1 + Ex.nd.go args + x.nd by omega, show 1 + max (Ex.rk.go args) x.rk = max (1 + Ex.rk.go args) (x.rk + 1) by omega]
  exact h1
/-- A term's: its expressions first, then its terms. -/
def Te.nds (xs : List Ex) (ts : List Te) : Nat := 1 + Ex.nd.go xs + Te.nd.go ts
def Te.rks (xs : List Ex) (ts : List Te) : Nat := 1 + max (Ex.rk.go xs) (Te.rk.go ts)
theorem Cnt.pushX {xs : List Ex} {x : Ex} {k : Nat} {N D : Int} (h : Cnt k (Te.nds xs []) (Te.rks xs []) N D) (hr : x.rk < 1000) :
    Cnt (k + 1) (Te.nds (xs ++ [x]) []) (Te.rks (xs ++ [x]) []) (N + ndI x.nd) (if D < rkI x.nd x.rk + 1 then rkI x.nd x.rk + 1 else D) := by
  have h1 := h.step x.nd_pos' hr
  unfold Te.nds Te.rks at *
  rw [max_if, Ex.nd_snoc, Ex.rk_snoc]
  simp only [Te.nd.go, Te.rk.go] at *
  rw [show 1 + (Ex.nd.go xs + x.nd) + 0 = 1 + Ex.nd.go xs + 0 + x.nd by omega, show 1 + max (max (Ex.rk.go xs) x.rk) 0 = max (1 + max (Ex.rk.go xs) 0) (x.rk + 1) by omega]
  exact h1
theorem Cnt.pushT {xs : List Ex} {ts : List Te} {x : Te} {k : Nat} {N D : Int} (h : Cnt k (Te.nds xs ts) (Te.rks xs ts) N D) (hr : x.rk < 1000) :
    Cnt (k + 1) (Te.nds xs (ts ++ [x])) (Te.rks xs (ts ++ [x])) (N + ndI x.nd) (if D < rkI x.nd x.rk + 1 then rkI x.nd x.rk + 1 else D) := by
  have h1 := h.step x.nd_pos' hr
  unfold Te.nds Te.rks at *
  rw [max_if, Te.nd_snoc, Te.rk_snoc]
  rw [show 1 + Ex.nd.go xs + (Te.nd.go ts + x.nd) = 1 + Ex.nd.go xs + Te.nd.go ts + x.nd by omega, show 1 + max (Ex.rk.go xs) (max (Te.rk.go ts) x.rk) = max (1 + max (Ex.rk.go xs) (Te.rk.go ts)) (x.rk + 1) by omega]
  exact h1
/-- The nodes that come in. -/
structure Lf where
  op : Int
  n : Int
  nm : ByteArray
  kids : List Int
structure Kn where
  op : Int
  nm : ByteArray
  exprs : List Int
  terms : List Int
def lfK : Elt Lf where
  sz := 4
  pos := by decide
  R := fun w X x cs => ∃ a cap, cs = [.int .i64 x.op, .int .i64 x.n, .string x.nm, .slice a x.kids.length cap] ∧ I64 x.op ∧ I64 x.n ∧ x.nm.size ≤ 9223372036854775807 ∧ SlR i64K w X x.kids a x.kids.length cap
  kept := fun h k => by obtain ⟨a, cap, rfl, h1, h2, h3, h4⟩ := h; exact ⟨a, cap, rfl, h1, h2, h3, h4.kept k⟩
  less := fun h k => by obtain ⟨a, cap, rfl, h1, h2, h3, h4⟩ := h; exact ⟨a, cap, rfl, h1, h2, h3, h4.less k⟩
  one := fun h => by obtain ⟨a, cap, rfl, h1, h2, h3, h4⟩ := h; exact ⟨rfl, by simp [Value.oneCell']⟩
def knK : Elt Kn where
  sz := 4
  pos := by decide
  R := fun w X x cs => ∃ a cap a' cap', cs = [.int .i64 x.op, .string x.nm, .slice a x.exprs.length cap, .slice a' x.terms.length cap'] ∧ I64 x.op ∧ x.nm.size ≤ 9223372036854775807 ∧ SlR i64K w X x.exprs a x.exprs.length cap ∧ SlR i64K w X x.terms a' x.terms.length cap'
  kept := fun h k => by obtain ⟨a, cap, a', cap', rfl, h1, h2, h3, h4⟩ := h; exact ⟨a, cap, a', cap', rfl, h1, h2, h3.kept k, h4.kept k⟩
  less := fun h k => by obtain ⟨a, cap, a', cap', rfl, h1, h2, h3, h4⟩ := h; exact ⟨a, cap, a', cap', rfl, h1, h2, h3.less k, h4.less k⟩
  one := fun h => by obtain ⟨a, cap, a', cap', rfl, h1, h2, h3, h4⟩ := h; exact ⟨rfl, by simp [Value.oneCell']⟩
def nds (es : List Ex) : List Int := es.map fun e => ndI e.nd
def rks (es : List Ex) : List Int := es.map fun e => rkI e.nd e.rk
def ndsT (ts : List Te) : List Int := ts.map fun e => ndI e.nd
def rksT (ts : List Te) : List Int := ts.map fun e => rkI e.nd e.rk
/-- The j-th element of a slice that grows: its cells, clear of all that is written. -/
theorem Sep.elt {α : Type} {K : Elt α} {e : TypeId} {base : Nat} {w : World} {fam : List Ob} {l : List α} {v : Value} (h : Sep w fam) (i : Nat) (hi : fam[i]? = some (gr K e base l v)) (j : Nat) (hj : j < l.length) :
    ∃ g cap x cs, v = .slice (some ⟨g, 0, none⟩) l.length cap ∧ l.length ≤ cap ∧ l[j]? = some x ∧ K.R w (owns fam) x cs ∧ cs.length = K.sz ∧ ∀ m c, m < K.sz → cs[m]? = some c → w.cell? ⟨g, j * K.sz + m, none⟩ = some c := by
  obtain ⟨csl, hG⟩ := h.at i hi
  obtain ⟨g, cap, rfl, hg0, hg1, hg2, hob⟩ := own_form hG.own (by omega)
  have hx : l[j]? = some (l[j]'hj) := List.getElem?_eq_getElem hj
  have hc : csl[j]? = some (csl[j]'(by rw [hG.count]; exact hj)) := List.getElem?_eq_getElem (by rw [hG.count]; exact hj)
  have hR := hG.elts j _ _ hx hc
  refine ⟨g, cap, _, _, rfl, hg2, hx, K.less hR (fun b _ hm => ?_), (K.one hR).1, fun m c hm hcm => ?_⟩
  · obtain ⟨q, o, hq, hb⟩ := mem_owns.1 hm
    by_cases hqi : q = i
    · subst hqi
      rw [hi] at hq
      injection hq with hq
      subst hq
      have hb' : b ∈ (Value.slice (some ⟨g, 0, none⟩) l.length cap).ownBlock.toList := hb
      rw [Option.mem_toList] at hb'
      exact busy_mem.2 (.inl hb')
    · exact busy_mem.2 (.inr (mem_others.2 ⟨q, o, hqi, hq, hb⟩))
  · rw [hG.own.cellAt (j * K.sz + m) (by calc j * K.sz + m < j * K.sz + K.sz := by omega
                                              _ = (j + 1) * K.sz := by rw [Nat.add_mul]; omega
                                              _ ≤ l.length * K.sz := Nat.mul_le_mul_right _ (by omega)), flat_get K.sz csl hG.len4 j m _ hc hm]
    exact hcm
/-- What a slice that grows is, as a value. -/
theorem Sep.form {α : Type} {K : Elt α} {e : TypeId} {base : Nat} {w : World} {fam : List Ob} {l : List α} {v : Value} (h : Sep w fam) (i : Nat) (hi : fam[i]? = some (gr K e base l v)) : ∃ a cap, v = .slice a l.length cap := by
  obtain ⟨a, cap, hv, _⟩ := h.still i hi
  exact ⟨a, cap, hv⟩
end Go.Proofs.Ytefpjdgfcgjbaaa

/- What came in, opened: slices of ints, of strings, of structs of such. -/
namespace Go.Proofs.Ytefpjdgfcgjbaaa
set_option linter.unusedVariables false
set_option linter.unusedSimpArgs false
open Go.ChangeShapes Go.WideShapes Go.ChangeAt Go.RowKit Go.Deep
def Opens {α : Type} (P : Program) (e : TypeId) (K : Elt α) : Prop :=
  ∀ (H : Type) (enc : TypeId × Value → H) (W : World) (fuel : Nat) (cs : List Value) (x : DataW H × List MemPlace), DataW.trod enc P W 0 (fun _ => true) true fuel e cs = some x → ∃ d, K.R W [] d cs
theorem i64_of {n : Int} (h : (Lit.int .i64 n).wf = true) : I64 n := by
  simp [Lit.wf, IntKind.min, IntKind.max, IntKind.signed, IntKind.bits] at h
  unfold I64
  omega
theorem opens_int {P : Program} {t : TypeId} (ht : P.underlying t = some (.int .i64)) : Opens P t i64K := by
  intro H enc W fuel cs x h
  obtain ⟨n, rfl, _, hw⟩ := DataW.trod_int ht h
  exact ⟨n, rfl, i64_of hw⟩
theorem pick_all {α : Type} {Q : Nat → α → List Value → Prop} : ∀ (len : Nat), (∀ i, i < len → ∃ d c, Q i d c) → ∃ (l : List α) (vs : List (List Value)), l.length = len ∧ vs.length = len ∧ ∀ i d c, l[i]? = some d → vs[i]? = some c → Q i d c := by
  intro len
  induction len with
  | zero => intro _; exact ⟨[], [], rfl, rfl, fun i d c h _ => by simp at h⟩
  | succ n ih =>
    intro h
    obtain ⟨l, vs, h1, h2, h3⟩ := ih (fun i hi => h i (by omega))
    obtain ⟨d, c, hq⟩ := h n (by omega)
    refine ⟨l ++ [d], vs ++ [c], by simp [h1], by simp [h2], fun i d' c' hd hc => ?_⟩
    rcases Nat.lt_or_ge i n with hi | hi
    · rw [List.getElem?_append_left (by omega)] at hd hc
      exact h3 i d' c' hd hc
    · have hin : i = n := by
        have := (List.getElem?_eq_some_iff.1 hd).1; simp at this; omega
      subst hin
      rw [List.getElem?_append_right (by omega), h1, Nat.sub_self] at hd
      rw [List.getElem?_append_right (by omega), h2, Nat.sub_self] at hc
      injection hd with hd; injection hc with hc
      subst hd; subst hc
      exact hq
theorem opens_slice {α : Type} {K : Elt α} {P : Program} {t e : TypeId} (ht : P.underlying t = some (.slice e)) (hK : P.cellsOf e = K.sz) (he : Opens P e K) {H : Type} {enc : TypeId × Value → H} {W : World} {fuel : Nat} {cs : List Value} {x : DataW H × List MemPlace}
    (h : DataW.trod enc P W 0 (fun _ => true) true fuel t cs = some x) : ∃ a len cap l, cs = [.slice a len cap] ∧ SlR K W [] l a len cap := by
  rcases open_slice ht h with ⟨rfl, _⟩ | ⟨a, len, cap, m, n, D, Pl, rfl, _, hl, hm, hmm, _, hi⟩
  · exact ⟨none, 0, 0, [], rfl, SlR.nil K W []⟩
  · have hmx : cap ≤ 9223372036854775807 := by
      have : maxLen = 9223372036854775807 := by decide
      omega
    rw [if_pos rfl] at hmm
    obtain ⟨l, vs, h1, h2, h3⟩ := pick_all (Q := fun i d c => K.R W [] d c ∧ c.length = K.sz ∧ ∀ j u, c[j]? = some u → W.cell? (a.add (i * K.sz + j)) = some u) len (fun i hi' => by
      obtain ⟨c, hc, ht'⟩ := hi i (by omega)
      obtain ⟨d, hd⟩ := he H enc W n c _ ht'
      obtain ⟨_, hcl, hat⟩ := World.cells?_some hc
      rw [hK] at hcl hat
      refine ⟨d, c, hd, hcl, fun j u hj => ?_⟩
      have hjs : j < K.sz := by rw [← hcl]; exact (List.getElem?_eq_some_iff.1 hj).1
      rw [← Go.Deep.add_add, hat j hjs]
      exact hj)
    refine ⟨some a, len, cap, l, rfl, vs, by rw [h1, h2], fun i d c hd hc => (h3 i d c hd hc).1, h2, hl, hmx, fun hp => ?_⟩
    have hv0 : vs[0]? = some (vs[0]'(by omega)) := List.getElem?_eq_getElem (by omega)
    have hl0 : l[0]? = some (l[0]'(by omega)) := List.getElem?_eq_getElem (by omega)
    obtain ⟨_, hlen0, hcell0⟩ := h3 0 _ _ hl0 hv0
    have hK0 := K.pos
    have hz := hcell0 0 _ (List.getElem?_eq_getElem (by omega))
    obtain ⟨b, off, spot⟩ := a
    obtain rfl : spot = none := by simpa [Addr.add] using World.cell?_spot hz
    have hblt := cell_lt hz
    rw [show (⟨b, off, none⟩ : Addr).add (0 * K.sz + 0) = ⟨b, off + (0 * K.sz + 0), none⟩ from Mem.add_off _ _ _] at hblt
    refine ⟨b, off, rfl, hblt, List.not_mem_nil, fun i c hc => ?_⟩
    have hlt : i < l.length := by rw [h1, ← h2]; exact (List.getElem?_eq_some_iff.1 hc).1
    obtain ⟨_, g2, g3⟩ := h3 i _ c (List.getElem?_eq_getElem hlt) hc
    refine ⟨g2, fun j u hj => ?_⟩
    have := g3 j u hj
    rw [Mem.add_off, ← Nat.add_assoc] at this
    exact this
/-- A struct of one-cell fields: each field's cell. -/
theorem opens_struct {P : Program} {e : TypeId} {fs : Array Field} (he : P.underlying e = some (.struct fs)) (hone : oneCellFields P fs = true) (hC : P.cellsOf e = fs.size) {H : Type} {enc : TypeId × Value → H} {W : World} {fuel : Nat} {cs : List Value} {x : DataW H × List MemPlace}
    (h : DataW.trod enc P W 0 (fun _ => true) true fuel e cs = some x) : cs.length = fs.size ∧ ∀ (j : Nat) (f : Field), fs[j]? = some f → ∃ v n y, cs[j]? = some v ∧ DataW.trod enc P W 0 (fun _ => true) true n f.type [v] = some y := by
  obtain ⟨ys, n', hn', hy, hlen, hyl, hf⟩ := DataW.trod_struct he h
  refine ⟨by rw [hlen, hC], fun j f hj => ?_⟩
  obtain ⟨ho, hk⟩ := hone_of hone j f hj
  have hjl : j < fs.size := (Array.getElem?_eq_some_iff.1 hj).1
  have hv : cs[j]? = some (cs[j]'(by omega)) := List.getElem?_eq_getElem (by omega)
  have h1 := hf j f hj
  rw [ho, hk] at h1
  have hone' : (cs.drop j).take 1 = [cs[j]'(by omega)] := by
    rw [List.drop_eq_getElem_cons (by omega)]
    rfl
  rw [hone'] at h1
  have hys : ys[j]? = some (ys[j]'(by omega)) := List.getElem?_eq_getElem (by omega)
  exact ⟨_, _, _, hv, h1.trans hys⟩
theorem four_list {α : Type} {cs : List α} (h : cs.length = 4) {a b c d : α} (h0 : cs[0]? = some a) (h1 : cs[1]? = some b) (h2 : cs[2]? = some c) (h3 : cs[3]? = some d) : cs = [a, b, c, d] := by
  match cs, h with
  | [p, q, r, s], _ => simp at h0 h1 h2 h3; subst h0; subst h1; subst h2; subst h3; rfl
end Go.Proofs.Ytefpjdgfcgjbaaa

/- What came in, opened: what is kept of a file. -/
namespace Go.Proofs.Ytefpjdgfcgjbaaa
set_option linter.unusedVariables false
set_option linter.unusedSimpArgs false
open Go.ChangeShapes Go.WideShapes Go.ChangeAt Go.RowKit Go.Deep
theorem two_list {α : Type} {cs : List α} (h : cs.length = 2) {a b : α} (h0 : cs[0]? = some a) (h1 : cs[1]? = some b) : cs = [a, b] := by
  match cs, h with
  | [p, q], _ => simp at h0 h1; subst h0; subst h1; rfl
theorem opens_keep : Opens Try.prog 23 kpK := by
  intro H enc W fuel cs x h
  obtain ⟨hl, hf⟩ := opens_struct Try.underlying23 (by kernel_rfl) (by kernel_rfl) h
  obtain ⟨v0, n0, y0, c0, t0⟩ := hf 0 _ rfl
  obtain ⟨v1, n1, y1, c1, t1⟩ := hf 1 _ rfl
  obtain ⟨a, e0, _, w0⟩ := DataW.trod_int (k := .i64) Try.underlying3 t0
  obtain ⟨b, e1, _, w1⟩ := DataW.trod_int (k := .i64) Try.underlying3 t1
  injection e0 with e0; injection e1 with e1
  subst e0; subst e1
  exact ⟨(a, b), two_list hl c0 c1, i64_of w0, i64_of w1⟩
set_option maxRecDepth 100000 in
theorem keep_of {H : Type} {enc : TypeId × Value → H} {W : World} {base : Nat} {v : Value} {x : DataW H × List MemPlace} (hv : Value.okWide Try.prog W .any base 23 v) (k : ∃ fuel, DataW.trod enc Try.prog W 0 (fun _ => true) true fuel 23 (Value.cells v).toList = some x) :
    ∃ b c : Int, v = .agg #[.int .i64 b, .int .i64 c] ∧ I64 b ∧ I64 c := by
  obtain ⟨cs, rfl, -⟩ := okWide_struct Try.underlying23 hv
  obtain ⟨fuel, h⟩ := k
  obtain ⟨f, hf, h1, h2⟩ := opens_keep H enc W fuel _ x h
  refine ⟨f.1, f.2, ?_, h1, h2⟩
  have hcs : cs.toList = [.int .i64 f.1, .int .i64 f.2] := hf
  rw [show cs = #[.int .i64 f.1, .int .i64 f.2] by rw [← Array.toArray_toList (xs := cs), hcs]]
end Go.Proofs.Ytefpjdgfcgjbaaa
