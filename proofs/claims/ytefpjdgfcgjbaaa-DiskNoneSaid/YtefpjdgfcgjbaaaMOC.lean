/- A part of the proof: DkA, Apz, DkN, DkY, DkR, Keys, DkM, one behind another. -/
import Derived.Test.YtefpjdgfcgjbaaaMOA
import Derived.Test.YtefpjdgfcgjbaaaMOB
import Derived.IntWalk
import Derived.Deep.Upon
import Derived.StillTailTactics
import Derived.Shelf.SlIter.Nil
import Derived.Shelf.SortM.Plain
import Derived.Shelf.SortM.SortNone
import Derived.Test.YtefpjdgfcgjbaaaProg
import Derived.WalkKit
import Derived.Carry
/- The contract of Append. -/
namespace Go.Proofs.Ytefpjdgfcgjbaaa
set_option linter.unusedVariables false
set_option linter.unusedSimpArgs false
open Go.RowKit
/-- What Append answers, and what it leaves; a new file would lie in the block b. -/
def appendS (b : Nat) (s : St) (t : Nm) (d : ByteArray) : Int × St :=
  let s1 := (beginS s [t]).2
  if (beginS s [t]).1 ≠ 0 then ((beginS s [t]).1, s1) else
  match findF s1.fs t with
  | none =>
    if 200 ≤ s1.fs.length then (4, s1) else
    if 1048576 < d.size then (4, s1) else
    if s1.room - s1.used < (d.size : Nat) then (5, s1) else
    (0, { s1 with used := s1.used + (d.size : Nat), written := s1.written + (d.size : Nat), fs := insF ⟨t, d, 0, b⟩ s1.fs, mn := s1.mn + 1 })
  | some f =>
    if 1048576 < f.data.size + d.size then (4, s1) else
    if s1.room - s1.used < (d.size : Nat) then (5, s1) else
    (0, { s1 with used := s1.used + (d.size : Nat), written := s1.written + (d.size : Nat), fs := updF t (fun g => ⟨g.name, g.data ++ d, g.safe, g.blk⟩) s1.fs, mn := s1.mn + 1 })
theorem empty_cat (d : ByteArray) : (⟨#[]⟩ : ByteArray) ++ d = d := by
  obtain ⟨x⟩ := d
  show ByteArray.append _ _ = _
  apply ByteArray.ext
  simp [ByteArray.append, ByteArray.copySlice]
set_option maxRecDepth 100000 in
set_option maxHeartbeats 4000000 in
theorem append_any (p : Nat) (s : St) (nm d : ByteArray) (w : World) (hD : DkAt w p s) (hb : s.calls ≤ 4611686018427387904) (hw : s.written ≤ 4611686018427387904) (hm : s.mn ≤ 1000000) (hn : nm.size ≤ maxLen) (hd : d.size ≤ 1000000000) :
    Calls Try.prog 11 #[.pointer (some ⟨p, 0, none⟩), .string nm, .string d] w fun x w' => ∃ b, x = .returned (.int .i64 (appendS b s nm.data.toList d).1) ∧ DkAt w' p (appendS b s nm.data.toList d).2 ∧ DkStep p s (appendS b s nm.data.toList d).2 w w' := by
  have HD := Lib.hid hD
  have HNM := Lib.hid hn
  have HBB := Lib.hid hb
  have HWW := Lib.hid hw
  have HMM := Lib.hid hm
  have hal := (Below.refl w.heap.size w).alloc (Nat.le_refl _) (.cells #[.string nm] 9)
  have HN1 := Lib.hid (sl_one w nm [p] (fun b hb => by rw [List.mem_singleton] at hb; subst hb; exact hD.ptr.lt))
  have HBG := Lib.hid (begin_any p s [nm.data.toList] _ 1 1 _ (hD.below hal) HN1.out hb (by omega))
  have HS0 : Hid (DkStep p s s w (w.alloc (.cells #[.string nm] 9))) := DkStep.below hal
  have HSM := Lib.hid (beginS_same s [nm.data.toList])
  have HBZ := Lib.hid (@beginS_zero s [nm.data.toList])
  obtain ⟨F, hF⟩ : ∃ F : Nat → Int × St, F = fun b => appendS b s nm.data.toList d := ⟨_, rfl⟩
  have HF := Lib.hid hF
  have hgoal : ∀ b, appendS b s nm.data.toList d = F b := fun b => by rw [hF]
  simp only [hgoal]
  clear hgoal hF
  unfold appendS at HF
  obtain ⟨e1, s1, hB⟩ : ∃ e1 s1, beginS s [nm.data.toList] = (e1, s1) := ⟨_, _, rfl⟩
  simp only [hB] at HF HSM HBZ HBG
  clear hD hb hw hm hal HN1 hB
  go_enter Try.func11, Try.ntmps11
  go_wp2_with fail
  go_at_call 33
  (with_reducible refine HBG.out.mono ?_)
  rintro x w1 ⟨rfl, hd1, hs1⟩
  have HD1 := Lib.hid hd1
  have HS1 := Lib.hid (HS0.out.trans hs1)
  clear hd1 hs1 HBG HS0 HD
  by_cases he1 : e1 = 0
  · subst he1
    have hnm := badN_len (HBZ.out rfl _ (List.mem_singleton.2 rfl))
    simp only [ne_eq, not_true_eq_false, if_false] at HF
    obtain ⟨c0, c1, c2, c3, c4, c5, c6, c7⟩ := dk8 HD1.out.ptr
    have hl := HD1.out.look1 nm hn
    have hlen := HD1.out.len
    cases hf : findF s1.fs nm.data.toList with
    | none =>
      rw [hf] at hl HF
      simp only [ptrV, Option.isSome_none] at hl
      dsimp only at HF
      by_cases h200 : 200 ≤ s1.fs.length
      · have HFF : Hid (∀ b, F b = (4, s1)) := fun b => by rw [HF.out]; dsimp only; rw [if_pos h200]
        have hi : (200 : Int) ≤ (s1.fs.length : Int) := by omega
        generalize s1.fs.length = q at *
        clear HF HBZ HSM h200
        go_wp2_with fail
        go_ret
        exact ⟨0, by rw [HFF.out]; rfl, by rw [HFF.out]; exact ⟨HD1.out, HS1.out⟩⟩
      · have hi : ¬ (200 : Int) ≤ (s1.fs.length : Int) := by omega
        have HF2 : Hid (∀ b, F b = if 1048576 < d.size then (4, s1) else if s1.room - s1.used < (d.size : Nat) then (5, s1) else (0, { s1 with used := s1.used + (d.size : Nat), written := s1.written + (d.size : Nat), fs := insF ⟨nm.data.toList, d, 0, b⟩ s1.fs, mn := s1.mn + 1 })) := fun b => by rw [HF.out]; dsimp only; rw [if_neg h200]
        have HFN := Lib.hid hf
        clear HF h200 HBZ hf
        have hal := (Below.refl w1.heap.size w1).alloc (Nat.le_refl _) (.cells #[.string ⟨#[]⟩, .int .i64 0] 69)
        have HD2 := Lib.hid (HD1.out.below hal)
        have HS2 := Lib.hid (HS1.out.trans (DkStep.below hal))
        have BF := Lib.hid (Mem.Blk.new w1 69 #[.string ⟨#[]⟩, .int .i64 0])
        have HBK : Hid (∀ g ∈ dks p s1, g < w1.heap.size) := HD1.out.lt
        have HZW : Hid (w.heap.size ≤ w1.heap.size) := HS1.out.fr.size
        clear hal
        go_upto_region 9 with (fail)
        clear HD1 HS1 c0 c1 c2 c3 c4 c5 c6 c7 hl hlen hi
        generalize w1.alloc (.cells #[.string ⟨#[]⟩, .int .i64 0] 69) = w2 at *
        generalize w1.heap.size = b at *
        have u0 : w2.cell? ⟨b, 0, none⟩ = some (.string ⟨#[]⟩) := BF.out.cell 0
        by_cases hbig : 1048576 < d.size
        · have hbi : (1048576 : Int) < (d.size : Int) := by omega
          have HFF : Hid (∀ b, F b = (4, s1)) := fun b => by rw [HF2.out, if_pos hbig]
          clear HF2 hbig
          go_wp2_with fail
          go_ret
          exact ⟨0, by rw [HFF.out]; rfl, by rw [HFF.out]; exact ⟨HD2.out, HS2.out⟩⟩
        · have hbi : ¬ (1048576 : Int) < (d.size : Int) := by omega
          have HF3 : Hid (∀ b, F b = if s1.room - s1.used < (d.size : Nat) then (5, s1) else (0, { s1 with used := s1.used + (d.size : Nat), written := s1.written + (d.size : Nat), fs := insF ⟨nm.data.toList, d, 0, b⟩ s1.fs, mn := s1.mn + 1 })) := fun b => by rw [HF2.out, if_neg hbig]
          clear HF2
          go_upto_region 11 with (fail)
          have HFR := Lib.hid (free_any p s1 w2 HD2.out)
          go_wp2_with fail
          go_at_call 29
          (with_reducible refine HFR.out.mono ?_)
          rintro x w3 ⟨rfl, b3⟩
          have HD3 := Lib.hid (HD2.out.below b3)
          have HS3 := Lib.hid (HS2.out.trans (DkStep.below b3))
          have BF3 := Lib.hid (BF.out.below b3)
          clear b3 HD2 HS2 BF HFR u0
          by_cases hroom : s1.room - s1.used < (d.size : Nat)
          · have HFF : Hid (∀ b, F b = (5, s1)) := fun b => by rw [HF3.out, if_pos hroom]
            clear HF3
            go_wp2_with fail
            go_ret
            exact ⟨0, by rw [HFF.out]; rfl, by rw [HFF.out]; exact ⟨HD3.out, HS3.out⟩⟩
          · have HFF : Hid (F b = (0, { s1 with used := s1.used + (d.size : Nat), written := s1.written + (d.size : Nat), fs := insF ⟨nm.data.toList, d, 0, b⟩ s1.fs, mn := s1.mn + 1 })) := by show F b = _; rw [HF3.out, if_neg hroom]
            clear HF3
            obtain ⟨u0, u1, v0, v1⟩ := BF3.out.two
            have hnb : b ∉ dks p s1 := fun hm => Nat.lt_irrefl _ (HBK.out b hm)
            have BF4 := Lib.hid (BF3.out.set_ 0 (.string d))
            have HD4 := Lib.hid (HD3.out.fr (Fr.setCell w3 (X := [b]) (p := ⟨b, 0, none⟩) (by simp) (.string d)) (fun g hg => by rw [List.mem_singleton] at hg; subst hg; exact hnb))
            have hfr4 : Fr [b] w3 (w3.setCell ⟨b, 0, none⟩ (.string d)) := Fr.setCell w3 (by simp) _
            obtain ⟨w5, hr, hf5, hm5⟩ := HD4.out.store nm HNM.out b (insF ⟨nm.data.toList, d, 0, b⟩ s1.fs) (fun D hM => hM.put (f := ⟨nm.data.toList, d, 0, b⟩) (by rw [delF_none HFN.out]; exact insF_perm _ _)) (by have h1 := HMM.out; have h2 := HSM.out.2.2.1; unfold maxLen; omega)
            obtain ⟨c0, c1, c2, c3, c4, c5, c6, c7⟩ := dk8 HD3.out.ptr
            have hfp5 := hf5.blk HD4.out.ptr (by simpa using HD4.out.mp.symm)
            obtain ⟨d0, d1, d2, d3, d4, d5, d6, d7⟩ := dk8 hfp5
            obtain ⟨f0, f1, f2, f3, f4, f5, f6, f7⟩ := dkF hfp5
            have c1' := (dk8 HD4.out.ptr).2.1
            have hfin : DkAt ((w5.setCell ⟨p, 2, none⟩ (.int .i64 (s1.used + (d.size : Nat)))).setCell ⟨p, 3, none⟩ (.int .i64 (s1.written + (d.size : Nat)))) p { s1 with used := s1.used + (d.size : Nat), written := s1.written + (d.size : Nat), fs := insF ⟨nm.data.toList, d, 0, b⟩ s1.fs, mn := s1.mn + 1 } := by
              have hbp : b ≠ p := fun e => hnb (e ▸ List.mem_cons_self ..)
              have hbm : b ≠ s1.mb := fun e => hnb (e ▸ List.mem_cons_of_mem _ (List.mem_cons_self ..))
              have k6 : Fr [p] w5 ((w5.setCell ⟨p, 2, none⟩ (.int .i64 (s1.used + (d.size : Nat)))).setCell ⟨p, 3, none⟩ (.int .i64 (s1.written + (d.size : Nat)))) := (Fr.setCell w5 (by simp) _).trans (Fr.setCell _ (by simp) _)
              refine ⟨(hfp5.set_ 2 _).set_ 3 _, ?_, fun f hf => ?_, HD4.out.ok.ins HFN.out hnm (by omega) (by omega) (fun hm => hnb (List.mem_cons_of_mem _ (List.mem_cons_of_mem _ hm)))⟩
              · obtain ⟨D, h1, h2⟩ := hm5
                exact ⟨D, k6.map h1 (by simpa using HD4.out.mp), h2⟩
              · rcases mem_insF.1 hf with rfl | hf
                · exact k6.blk (hf5.blk BF4.out (by simpa using hbm)) (by simpa using hbp)
                · exact k6.blk (hf5.blk (HD4.out.fil f hf) (by simpa using HD4.out.fm hf)) (by simpa using HD4.out.fp hf)
            have hst : DkStep p s { s1 with used := s1.used + (d.size : Nat), written := s1.written + (d.size : Nat), fs := insF ⟨nm.data.toList, d, 0, b⟩ s1.fs, mn := s1.mn + 1 } w ((w5.setCell ⟨p, 2, none⟩ (.int .i64 (s1.used + (d.size : Nat)))).setCell ⟨p, 3, none⟩ (.int .i64 (s1.written + (d.size : Nat)))) := by
              have k6 : Fr [p] w5 ((w5.setCell ⟨p, 2, none⟩ (.int .i64 (s1.used + (d.size : Nat)))).setCell ⟨p, 3, none⟩ (.int .i64 (s1.written + (d.size : Nat)))) := (Fr.setCell w5 (by simp) _).trans (Fr.setCell _ (by simp) _)
              have hX : ∀ (Y : List Nat) (W W' : World), Fr Y W W' → (∀ g ∈ Y, g ∈ [b, s1.mb, p]) → Fr [b, s1.mb, p] W W' := fun Y W W' h hy => h.more hy
              have hown : ∀ g ∈ dks p s1, g ∈ dks p s ∨ w.heap.size ≤ g := HS3.out.own
              refine ⟨(((HS3.out.fr.more (X' := dks p s ++ [b, s1.mb, p]) (fun g hg => List.mem_append.2 (.inl hg))).trans (((hX _ _ _ hfr4 (by simp)).trans ((hX _ _ _ hf5 (by simp)).trans (hX _ _ _ k6 (by simp)))).more (fun g hg => List.mem_append.2 (.inr hg)))).fresh (fun g hg => ?_)), fun g hg => ?_⟩
              · rcases List.mem_append.1 hg with hg | hg
                · exact .inl hg
                · simp only [List.mem_cons, List.not_mem_nil, or_false] at hg
                  rcases hg with rfl | rfl | rfl
                  · exact .inr HZW.out
                  · exact hown _ (List.mem_cons_of_mem _ (List.mem_cons_self ..))
                  · exact hown _ (List.mem_cons_self ..)
              · have hg' : g = b ∨ g ∈ dks p s1 := by
                  unfold dks at hg ⊢
                  rcases List.mem_cons.1 hg with rfl | hg
                  · exact .inr (List.mem_cons_self ..)
                  rcases List.mem_cons.1 hg with rfl | hg
                  · exact .inr (List.mem_cons_of_mem _ (List.mem_cons_self ..))
                  obtain ⟨f, hf, rfl⟩ := List.mem_map.1 hg
                  rcases mem_insF.1 hf with rfl | hf
                  · exact .inl rfl
                  · exact .inr (List.mem_cons_of_mem _ (List.mem_cons_of_mem _ (List.mem_map.2 ⟨f, hf, rfl⟩)))
                rcases hg' with rfl | hg'
                · exact .inr HZW.out
                · exact hown g hg'
            have FIN := Lib.hid (And.intro hfin hst)
            have hwu : IntKind.i64.wrap (s1.used + (d.size : Nat)) = s1.used + (d.size : Nat) := IntWalk.i64_in _ (by have := HD3.out.ok.rm; have := HD3.out.ok.use; omega)
            have hww : IntKind.i64.wrap (s1.written + (d.size : Nat)) = s1.written + (d.size : Nat) := IntWalk.i64_in _ (by have h1 := HD3.out.ok.wr; have h2 := HWW.out; have h3 := HSM.out.2.2.2.2.2; omega)
            clear hfin hst hfp5 hm5 hf5 hfr4 hnb HD3 HS3 BF3 HD4 BF4 c0 c2 c3 c4 c5 c6 c7 HFN hnm HBK HZW
            have hcat : (⟨#[]⟩ : ByteArray) ++ d = d := empty_cat d
            go_wp2_with fail
            go_ret
            exact ⟨b, by rw [HFF.out]; rfl, by rw [HFF.out]; exact FIN.out⟩
    | some f =>
      rw [hf] at hl HF
      simp only [ptrV, Option.isSome_some] at hl
      dsimp only at HF
      have hfm := (findF_mem hf).1
      have hft := (findF_mem hf).2
      have hsz := HD1.out.ok.siz f hfm
      have hB1 := HD1.out.fil f hfm
      have u0 : w1.cell? ⟨f.blk, 0, none⟩ = some (.string f.data) := hB1.cell 0
      have hws : IntKind.i64.wrap (1048576 - (f.data.size : Int)) = 1048576 - (f.data.size : Int) := IntWalk.i64_in _ (by omega)
      have HFN := Lib.hid hf
      have HFM := Lib.hid hfm
      have HFT := Lib.hid hft
      have HB1 := Lib.hid hB1
      clear hf hfm hft hB1 HBZ
      by_cases hbig : 1048576 < f.data.size + d.size
      · have hbi : (1048576 : Int) - (f.data.size : Int) < (d.size : Int) := by omega
        have HFF : Hid (∀ b, F b = (4, s1)) := fun b => by rw [HF.out]; dsimp only; rw [if_pos hbig]
        clear HF hbig
        go_wp2_with fail
        go_ret
        exact ⟨0, by rw [HFF.out]; rfl, by rw [HFF.out]; exact ⟨HD1.out, HS1.out⟩⟩
      · have hbi : ¬ (1048576 : Int) - (f.data.size : Int) < (d.size : Int) := by omega
        have HBIG := Lib.hid hbig
        have HF3 : Hid (∀ b, F b = if s1.room - s1.used < (d.size : Nat) then (5, s1) else (0, { s1 with used := s1.used + (d.size : Nat), written := s1.written + (d.size : Nat), fs := updF nm.data.toList (fun g => ⟨g.name, g.data ++ d, g.safe, g.blk⟩) s1.fs, mn := s1.mn + 1 })) := fun b => by rw [HF.out]; dsimp only; rw [if_neg hbig]
        have HFR := Lib.hid (free_any p s1 w1 HD1.out)
        clear HF hbig
        go_wp2_with fail
        go_at_call 29
        (with_reducible refine HFR.out.mono ?_)
        rintro x w3 ⟨rfl, b3⟩
        have HD3 := Lib.hid (HD1.out.below b3)
        have HS3 := Lib.hid (HS1.out.trans (DkStep.below b3))
        have BF3 := Lib.hid (HB1.out.below b3)
        clear b3 HD1 HS1 HB1 HFR u0 c0 c1 c2 c3 c4 c5 c6 c7 hl hlen
        by_cases hroom : s1.room - s1.used < (d.size : Nat)
        · have HFF : Hid (∀ b, F b = (5, s1)) := fun b => by rw [HF3.out, if_pos hroom]
          clear HF3
          go_wp2_with fail
          go_ret
          exact ⟨0, by rw [HFF.out]; rfl, by rw [HFF.out]; exact ⟨HD3.out, HS3.out⟩⟩
        · have HFF : Hid (∀ b, F b = (0, { s1 with used := s1.used + (d.size : Nat), written := s1.written + (d.size : Nat), fs := updF nm.data.toList (fun g => ⟨g.name, g.data ++ d, g.safe, g.blk⟩) s1.fs, mn := s1.mn + 1 })) := fun b => by rw [HF3.out, if_neg hroom]
          clear HF3
          obtain ⟨u0, u1, v0, v1⟩ := BF3.out.two
          have BF4 := Lib.hid (BF3.out.set_ 0 (.string (f.data ++ d)))
          have hfr4 : Fr [f.blk] w3 (w3.setCell ⟨f.blk, 0, none⟩ (.string (f.data ++ d))) := Fr.setCell w3 (by simp) _
          have hfp4 := hfr4.blk HD3.out.ptr (by simpa using fun e => HD3.out.fp HFM.out e.symm)
          have hmap4 : ∃ D, (w3.setCell ⟨f.blk, 0, none⟩ (.string (f.data ++ d))).ownsMap Try.prog 9 ptrR s1.mb s1.mn D ∧ MapOf s1.fs D := by
            obtain ⟨D, h1, h2⟩ := HD3.out.map
            exact ⟨D, hfr4.map h1 (by simpa using fun e => HD3.out.fm HFM.out e.symm), h2⟩
          obtain ⟨w5, hr, hf5, hm5⟩ := store_map hmap4 nm HNM.out f.blk s1.fs (fun D hM => by rw [← HFT.out]; exact hM.put (f := f) (delF_perm HD3.out.ok.up HFM.out)) (by have h1 := HMM.out; have h2 := HSM.out.2.2.1; unfold maxLen; omega)
          have hfp5 := hf5.blk hfp4 (by simpa using HD3.out.mp.symm)
          obtain ⟨d0, d1, d2, d3, d4, d5, d6, d7⟩ := dk8 hfp5
          obtain ⟨f0, f1, f2, f3, f4, f5, f6, f7⟩ := dkF hfp5
          have c1' := (dk8 hfp4).2.1
          have hh : ∀ g : Fi, ((fun g : Fi => (⟨g.name, g.data ++ d, g.safe, g.blk⟩ : Fi)) g).name = g.name ∧ ((fun g : Fi => (⟨g.name, g.data ++ d, g.safe, g.blk⟩ : Fi)) g).blk = g.blk := fun g => ⟨rfl, rfl⟩
          have k6 : Fr [p] w5 ((w5.setCell ⟨p, 2, none⟩ (.int .i64 (s1.used + (d.size : Nat)))).setCell ⟨p, 3, none⟩ (.int .i64 (s1.written + (d.size : Nat)))) := (Fr.setCell w5 (by simp) _).trans (Fr.setCell _ (by simp) _)
          have hfin : DkAt ((w5.setCell ⟨p, 2, none⟩ (.int .i64 (s1.used + (d.size : Nat)))).setCell ⟨p, 3, none⟩ (.int .i64 (s1.written + (d.size : Nat)))) p { s1 with used := s1.used + (d.size : Nat), written := s1.written + (d.size : Nat), fs := updF nm.data.toList (fun g => ⟨g.name, g.data ++ d, g.safe, g.blk⟩) s1.fs, mn := s1.mn + 1 } := by
            refine ⟨(hfp5.set_ 2 _).set_ 3 _, ?_, fun g hg => ?_, HD3.out.ok.upd HFN.out (by have := HBIG.out; omega) (by omega)⟩
            · obtain ⟨D, h1, h2⟩ := hm5
              exact ⟨D, k6.map h1 (by simpa using HD3.out.mp), h2.upd hh⟩
            · rcases mem_updF hg with ⟨g', hg', e, rfl⟩ | ⟨hg', hne⟩
              · have hgf : g' = f := by
                  have := findF_of HD3.out.ok.up hg'
                  rw [e, HFN.out] at this
                  injection this with this; exact this.symm
                subst hgf
                exact k6.blk (hf5.blk BF4.out (by simpa using HD3.out.fm HFM.out)) (by simpa using HD3.out.fp HFM.out)
              · have hbne : g.blk ≠ f.blk := fun e => hne (by
                  have : g = f := blk_inj HD3.out.ok.one hg' HFM.out e
                  rw [this]; exact HFT.out)
                exact k6.blk (hf5.blk (hfr4.blk (HD3.out.fil g hg') (by simpa using hbne)) (by simpa using HD3.out.fm hg')) (by simpa using HD3.out.fp hg')
          have hst : DkStep p s { s1 with used := s1.used + (d.size : Nat), written := s1.written + (d.size : Nat), fs := updF nm.data.toList (fun g => ⟨g.name, g.data ++ d, g.safe, g.blk⟩) s1.fs, mn := s1.mn + 1 } w ((w5.setCell ⟨p, 2, none⟩ (.int .i64 (s1.used + (d.size : Nat)))).setCell ⟨p, 3, none⟩ (.int .i64 (s1.written + (d.size : Nat)))) := by
            have e9 : dks p { s1 with used := s1.used + (d.size : Nat), written := s1.written + (d.size : Nat), fs := updF nm.data.toList (fun g => ⟨g.name, g.data ++ d, g.safe, g.blk⟩) s1.fs, mn := s1.mn + 1 } = dks p s1 := by
              unfold dks
              dsimp only
              rw [updF_blk hh]
            refine HS3.out.trans ⟨?_, fun g hg => .inl (by rw [e9] at hg; exact hg)⟩
            have a1 : f.blk ∈ dks p s1 := List.mem_cons_of_mem _ (List.mem_cons_of_mem _ (List.mem_map.2 ⟨f, HFM.out, rfl⟩))
            have a2 : s1.mb ∈ dks p s1 := List.mem_cons_of_mem _ (List.mem_cons_self ..)
            have a3 : p ∈ dks p s1 := List.mem_cons_self ..
            exact (hfr4.more (fun g hg => by rw [List.mem_singleton] at hg; subst hg; exact a1)).trans ((hf5.more (fun g hg => by rw [List.mem_singleton] at hg; subst hg; exact a2)).trans (k6.more (fun g hg => by rw [List.mem_singleton] at hg; subst hg; exact a3)))
          have FIN := Lib.hid (And.intro hfin hst)
          have hwu : IntKind.i64.wrap (s1.used + (d.size : Nat)) = s1.used + (d.size : Nat) := IntWalk.i64_in _ (by have := HD3.out.ok.rm; have := HD3.out.ok.use; omega)
          have hww : IntKind.i64.wrap (s1.written + (d.size : Nat)) = s1.written + (d.size : Nat) := IntWalk.i64_in _ (by have h1 := HD3.out.ok.wr; have h2 := HWW.out; have h3 := HSM.out.2.2.2.2.2; omega)
          clear hfin hst hfp5 hm5 hf5 hfr4 hfp4 hmap4 k6 hh HD3 HS3 BF3 BF4 HFN HFM HFT hnm HBIG
          go_wp2_with fail
          go_ret
          exact ⟨0, by rw [HFF.out]; rfl, by rw [HFF.out]; exact FIN.out⟩
  · have he2 : (e1 != 0) = true := bne_iff_ne.2 he1
    have HFF : Hid (∀ b, F b = (e1, s1)) := fun b => by rw [HF.out]; dsimp only; rw [if_pos he1]
    clear HF HBZ HSM he1
    go_wp2_with fail
    go_ret
    exact ⟨0, by rw [HFF.out]; rfl, by rw [HFF.out]; exact ⟨HD1.out, HS1.out⟩⟩
end Go.Proofs.Ytefpjdgfcgjbaaa

/- append of whatever slice; rows of texts. -/
namespace Go.Proofs.Ytefpjdgfcgjbaaa
set_option linter.unusedVariables false
set_option linter.unusedSimpArgs false
open Go.RowKit
/-- append of whatever slice onto a row of the call's own: of nothing, too. -/
theorem ap_rowZ {P : Program} {w : World} {ops : Array Oper} {rest : List Oper} {o : Oper} {a : Act} {Q : Exit → Act → World → Prop} {t e : TypeId} {z : Value} {size bytes base : Nat}
    (hinfo : (P.info? e).map (fun i => (i.zero, i.size, i.bytes)) = some (some z, size, bytes)) (ht : P.underlying t = some (.slice e)) (hzs : z.cells.size = size) (hsz : 0 < size)
    (hgd : o.guard = none) (s x : Operand) (ho : o.op = .call { callee := .builtin .append, args := #[s, x], argTypes := #[t, t] })
    {v : Value} {n : Nat} {xs : List Value} (hs : a.eval s = v) (hown : w.ownsRow base e size v n xs) (hbase : base ≤ w.heap.size)
    (ao : Option Addr) (m c : Nat) (news : List Value) (hx : a.eval x = .slice ao m c) (hl : news.length = m * size)
    (hnews : 0 < m → ∃ ad, ao = some ad ∧ ∀ j u, news[j]? = some u → w.cell? (ad.add j) = some u) (h1 : ∀ u ∈ news, u.oneCell' = true)
    (h63 : n + m ≤ maxLen) (hbytes : (n + m) * bytes ≤ 140737488355328)
    (h : ∀ v' w', w'.ownsRow base e size v' (n + m) (xs ++ news) → w.grownBy w' v.ownBlock → (v'.ownBlock = v.ownBlock ∨ v'.ownBlock = some w.heap.size) → wpList P ops Q rest (a.put o.dst v') w') :
    wpList P ops Q (o :: rest) a w := by
  by_cases hm : m = 0
  · subst hm
    obtain ⟨i, hi, hz, hsize, hby⟩ := info_parts hinfo
    obtain ⟨av, capv, rfl⟩ := own_slice hown
    have hl0 : news = [] := List.length_eq_zero_iff.1 (by rw [hl, Nat.zero_mul])
    subst hl0
    have hcap : n ≤ capv := by
      rcases hown.2 with ⟨h1, h2⟩ | ⟨g, cap', cur, h1, h2, h3, h4, h5⟩
      · injection h1 with _ h1 h3; omega
      · injection h1 with _ h1 h3; omega
    have hsrc : Src P i.size t (.slice ao 0 c) 0 [] w := by
      cases ao with
      | none => exact Src.ofNil w ht c
      | some ad => exact Src.ofSlice w ht ad 0 c [] (by simp) (fun j u h => by cases h) (fun u h => by cases h)
    have hrun := run_append_nothing (P := P) w t t o.type e i ht hi av n capv hcap _ hsrc
    refine wpList_plain hgd fun _ hK => ?_
    unfold Oper.wp execOp
    simp only [ho, resolve, invoke, builtin, Sem.run_bind, Sem.run_pure, Result.andThen_ok, List.map_toArray, List.map_cons, List.map_nil, hs, hx, hrun]
    exact hK _ _ (h _ _ (by rw [List.append_nil]; exact hown) (World.grownBy.refl _ _) (.inl rfl))
  · obtain ⟨ad, rfl, hc⟩ := hnews (by omega)
    exact ap_row hinfo ht hzs hsz hgd s x ho hs hown hbase ad m c news hx hl hc h1 h63 hbytes h
theorem infoS : (Try.prog.info? 9).map (fun i => (i.zero, i.size, i.bytes)) = some (some (.string ⟨#[]⟩), 1, 16) := by kernel_rfl
theorem str_cells {w : World} {X : List Nat} {l : List (List UInt8)} {b o len cap : Nat} (h : SlR strK w X l (some ⟨b, o, none⟩) len cap) : ∀ j u, (l.map encStr)[j]? = some u → w.cell? ((⟨b, o, none⟩ : Addr).add j) = some u := by
  intro j u hu
  rw [List.getElem?_map] at hu
  cases hj : l[j]? with
  | none => rw [hj] at hu; cases hu
  | some s =>
    rw [hj] at hu
    injection hu with hu
    have hlt : j < len := by rw [← h.facts.1]; exact (List.getElem?_eq_some_iff.1 hj).1
    obtain ⟨b', o', s', cs, ha, -, -, hs, hR, -, hc⟩ := h.at j hlt
    injection ha with ha; injection ha with h1 h2; subst h1; subst h2
    rw [hj] at hs; injection hs with hs; subst hs
    have hR' : cs = [encStr s] := hR
    subst hR'
    have := hc 0 _ rfl
    rw [Mem.add_off]
    rw [← hu]
    simpa [strK] using this
theorem enc_one (l : List (List UInt8)) : ∀ u ∈ l.map encStr, u.oneCell' = true := by
  intro u hu
  obtain ⟨s, -, rfl⟩ := List.mem_map.1 hu
  simp [encStr, Value.oneCell']
/-- A row of texts of the call's own, as a slice. -/
theorem own_strs {w0 w : World} {v : Value} {n : Nat} {l : List (List UInt8)} (h : w.ownsRow w0.heap.size 9 1 v n (l.map encStr)) (hl : l.length = n) (hb : Below w0.heap.size w0 w) {X : List Nat} (hX : ∀ b ∈ X, b < w0.heap.size) :
    ∃ a cap, v = .slice a n cap ∧ SlR strK w X l a n cap := by
  have hfl : ∀ l : List (List UInt8), (l.map (fun s => [encStr s])).flatten = l.map encStr := fun l => by induction l with | nil => rfl | cons x t ih => simp [ih]
  have h' := h
  rw [← hfl] at h'
  obtain ⟨a, c, rfl, hsl, -⟩ := own_sl (w0 := w0) (X := X) ⟨hb, h'⟩ (by rw [List.length_map, hl]) (fun c hc => by obtain ⟨s, _, rfl⟩ := List.mem_map.1 hc; rfl) hX
  refine ⟨a, c, rfl, ⟨l.map (fun s => [encStr s]), by rw [List.length_map], fun i x cs hx hc => ?_, hsl⟩⟩
  rw [List.getElem?_map, hx] at hc
  injection hc with hc; exact hc.symm
end Go.Proofs.Ytefpjdgfcgjbaaa

/- The contracts of New and there. -/
namespace Go.Proofs.Ytefpjdgfcgjbaaa
set_option linter.unusedVariables false
set_option linter.unusedSimpArgs false
open Go.RowKit
def newS (room : Int) (mb : Nat) : St := ⟨room, 0, 0, 0, 0, false, false, [], mb, 0⟩
set_option maxRecDepth 100000 in
set_option maxHeartbeats 4000000 in
theorem new_any (room : Int) (w : World) (hr : 0 ≤ room ∧ room ≤ 16777216) : Calls Try.prog 10 #[.int .i64 room] w fun x w' => ∃ p mb, x = .returned (.pointer (some ⟨p, 0, none⟩)) ∧ DkAt w' p (newS room mb) ∧ (∀ g ∈ dks p (newS room mb), w.heap.size ≤ g) ∧ Below w.heap.size w w' := by
  have h1 : ¬ room < 0 := by omega
  have h2 : ¬ (16777216 : Int) < room := by omega
  have hmm := @run_makeMap Try.prog
  have hM := World.ownsMap_made w Try.prog 9 ptrR
  have e1 : (w.alloc (.map #[] 0)).heap.size = w.heap.size + 1 := by simp
  have hB := Mem.Blk.new (w.alloc (.map #[] 0)) 64 (dkC (newS room w.heap.size))
  rw [e1] at hB
  have HF : Hid (DkAt ((w.alloc (.map #[] 0)).alloc (.cells (dkC (newS room w.heap.size)) 64)) (w.heap.size + 1) (newS room w.heap.size) ∧ (∀ g ∈ dks (w.heap.size + 1) (newS room w.heap.size), w.heap.size ≤ g) ∧ Below w.heap.size w ((w.alloc (.map #[] 0)).alloc (.cells (dkC (newS room w.heap.size)) 64))) := by
    refine ⟨⟨hB, ⟨.map [], (Fr.alloc _ _ []).map hM (by simp), MapOf.nil⟩, fun f hf => (by cases hf), ?_⟩, fun g hg => ?_, ((Below.refl w.heap.size w).alloc (Nat.le_refl _) _).alloc (by rw [e1]; omega) _⟩
    · exact ⟨List.nodup_nil, List.Pairwise.nil, fun f hf => (by cases hf), fun f hf => (by cases hf), rfl, ⟨hr.1, hr.2, hr.1⟩, ⟨by show (0 : Int) ≤ 0; omega, by show (0 : Int) ≤ _; omega⟩, ⟨by show (0 : Int) ≤ 0; omega, by show (0 : Int) ≤ 0; omega⟩⟩
    · simp only [dks, newS, List.map_nil, List.mem_cons, List.not_mem_nil, or_false] at hg
      omega
  clear hM hB e1
  go_enter Try.func10, Try.ntmps10
  go_wp2_with fail
  go_ret
  exact ⟨_, rfl, _, HF.out⟩
theorem new_none (room : Int) (w : World) (hr : ¬ (0 ≤ room ∧ room ≤ 16777216)) : Calls Try.prog 10 #[.int .i64 room] w fun x w' => x = .returned (.pointer none) ∧ w' = w := by
  by_cases h1 : room < 0
  · go_enter Try.func10, Try.ntmps10
    go_wp2_with fail
    go_ret
    exact ⟨rfl, rfl⟩
  · have h2 : (16777216 : Int) < room := by omega
    go_enter Try.func10, Try.ntmps10
    go_wp2_with fail
    go_ret
    exact ⟨rfl, rfl⟩
/-- What there answers: the file, or why not. -/
def thereS (s : St) (t : Nm) (more : List Nm) : Option Fi × Int × St :=
  if (beginS s (t :: more)).1 ≠ 0 then (none, (beginS s (t :: more)).1, (beginS s (t :: more)).2) else
  match findF (beginS s (t :: more)).2.fs t with
  | none => (none, 7, (beginS s (t :: more)).2)
  | some f => (some f, 0, (beginS s (t :: more)).2)
set_option maxRecDepth 100000 in
set_option maxHeartbeats 4000000 in
theorem there_any (p : Nat) (s : St) (nm : ByteArray) (more : List Nm) (ma : Option Addr) (ml mc : Nat) (w : World) (hD : DkAt w p s) (hS : SlR strK w [] more ma ml mc) (hml : ml ≤ 100) (hb : s.calls ≤ 4611686018427387904) (hn : nm.size ≤ maxLen) :
    Calls Try.prog 34 #[.pointer (some ⟨p, 0, none⟩), .string nm, .slice ma ml mc] w fun x w' => x = .returned (.tuple #[ptrV (thereS s nm.data.toList more).1, .int .i64 (thereS s nm.data.toList more).2.1]) ∧ DkAt w' p (thereS s nm.data.toList more).2.2 ∧ DkStep p s (thereS s nm.data.toList more).2.2 w w' := by
  have HD := Lib.hid hD
  have HNM := Lib.hid hn
  have HLN := Lib.hid hS.facts.1
  have hal := (Below.refl w.heap.size w).alloc (Nat.le_refl _) (.cells #[.string nm] 9)
  have HSM := Lib.hid (hS.kept (Kept.of_below hal []))
  have hmx : (1 : Nat) ≤ maxLen := by decide
  have HO := Lib.hid (World.ownsRow_lit w (base := w.heap.size) (e := 9) (size := 1) #[.string nm] 1 (Nat.le_refl _) hmx rfl)
  have HB0 := Lib.hid hal
  have HBG := Lib.hid (fun a c W (hW : DkAt W p s) (hN : SlR strK W [p] (nm.data.toList :: more) a (1 + ml) c) => begin_any p s (nm.data.toList :: more) a (1 + ml) c W hW hN hb (by omega))
  obtain ⟨R, hR⟩ : ∃ R, R = thereS s nm.data.toList more := ⟨_, rfl⟩
  have HR := Lib.hid hR
  rw [← hR]
  unfold thereS at HR
  obtain ⟨e1, s1, hB⟩ : ∃ e1 s1, beginS s (nm.data.toList :: more) = (e1, s1) := ⟨_, _, rfl⟩
  simp only [hB] at HR HBG
  clear hD hS hb hR hB hal hmx
  have HNW : Hid (0 < ml → ∃ ad : Addr, ma = some ad ∧ ∀ j u, (more.map encStr)[j]? = some u → (w.alloc (.cells #[.string nm] 9)).cell? (ad.add j) = some u) := by
    intro h0
    obtain ⟨b, o, t, ha, -⟩ := str_at HSM.out 0 h0
    subst ha
    exact ⟨_, rfl, fun j u hu => str_cells HSM.out j u hu⟩
  have HNL : Hid ((more.map encStr).length = ml * 1) := by show _ = _; rw [List.length_map, HLN.out, Nat.mul_one]
  go_enter Try.func34, Try.ntmps34
  go_wp2_with (at_builtin; refine ap_rowZ infoS Try.underlying36 rfl (by decide) rfl (.tmp 13) (.tmp 14) rfl rfl HO.out HB0.out.size ma ml _ (more.map encStr) rfl HNL.out HNW.out (enc_one _) (by unfold maxLen; omega) (by omega) ?_; intro v' w2 o' g' h'; have HO2 := Lib.hid o'; have HG : Hid ((w.alloc (.cells #[.string nm] 9)).grownBy w2 (Value.slice (some ⟨w.heap.size, 0, none⟩) 1 1).ownBlock) := g'; clear o' g' h')
  have hb2 := HB0.out.grown HG.out HB0.out.size (fun b hb => (own_lt HO.out hb).1)
  have hO : w2.ownsRow w.heap.size 9 1 v' (1 + ml) ((nm.data.toList :: more).map encStr) := by
    have h := HO2.out
    have e2 : encStr nm.data.toList = .string nm := by obtain ⟨⟨x⟩⟩ := nm; rfl
    rw [List.map_cons, e2]
    exact h
  obtain ⟨a', c', rfl, hs'⟩ := own_strs hO (by rw [List.length_cons, HLN.out, Nat.add_comm]) hb2 (X := [p]) (fun b hb => by rw [List.mem_singleton] at hb; subst hb; exact HD.out.ptr.lt)
  have HS0 := Lib.hid (DkStep.below (p := p) (s := s) hb2)
  (with_reducible refine (HBG.out a' c' w2 (HD.out.below hb2) hs').mono ?_)
  rintro x w3 ⟨rfl, hd3, hs3⟩
  have HD3 := Lib.hid hd3
  have HS3 := Lib.hid (HS0.out.trans hs3)
  clear hd3 hs3 hs' hO hb2 HG HO2 HO HB0 HBG HNW HNL HSM HLN HD HS0
  by_cases he1 : e1 = 0
  · subst he1
    obtain ⟨c0, c1, c2, c3, c4, c5, c6, c7⟩ := dk8 HD3.out.ptr
    have hl := HD3.out.look1 nm hn
    cases hf : findF s1.fs nm.data.toList with
    | none =>
      rw [hf] at hl HR
      simp only [ptrV, Option.isSome_none] at hl
      obtain rfl : R = (none, 7, s1) := HR.out
      clear HR hf
      go_wp2_with fail
      go_ret2
      exact ⟨rfl, HD3.out, HS3.out⟩
    | some f =>
      rw [hf] at hl HR
      simp only [ptrV, Option.isSome_some] at hl
      obtain rfl : R = (some f, 0, s1) := HR.out
      clear HR hf
      go_wp2_with fail
      go_ret2
      exact ⟨rfl, HD3.out, HS3.out⟩
  · have he2 : (e1 != 0) = true := bne_iff_ne.2 he1
    obtain rfl : R = (none, e1, s1) := by rw [HR.out, if_pos he1]
    clear HR he1
    go_wp2_with fail
    go_ret2
    exact ⟨rfl, HD3.out, HS3.out⟩
end Go.Proofs.Ytefpjdgfcgjbaaa

/- The contracts of Sync, drop, Delete. -/
namespace Go.Proofs.Ytefpjdgfcgjbaaa
set_option linter.unusedVariables false
set_option linter.unusedSimpArgs false
open Go.RowKit
section
variable {w w' : World} {p : Nat} {s : St}
theorem StOk.re {t : Nm} {h : Fi → Fi} {f : Fi} {u : Int} (ok : StOk s) (hh : ∀ f, (h f).name = f.name ∧ (h f).blk = f.blk) (hf : findF s.fs t = some f) (hz : (h f).data.size ≤ 1048576 ∧ (h f).safe ≤ (h f).data.size) (hu : u = s.used + ((h f).data.size : Nat) - (f.data.size : Nat)) (hr : u ≤ s.room) : StOk { s with used := u, fs := updF t h s.fs } := by
  refine ⟨?_, updF_up ok.up (fun f => (hh f).1), fun g hg => ?_, fun g hg => ?_, ?_, ⟨ok.rm.1, ok.rm.2.1, hr⟩, ok.lf, ok.wr⟩
  · show ((updF t h s.fs).map (fun f => f.blk)).Nodup
    rw [updF_blk hh]; exact ok.one
  · rcases mem_updF hg with ⟨g', hg', -, rfl⟩ | ⟨hg', -⟩
    · rw [(hh g').1]; exact ok.nam g' hg'
    · exact ok.nam g hg'
  · rcases mem_updF hg with ⟨g', hg', e, rfl⟩ | ⟨hg', -⟩
    · have := findF_of ok.up hg'
      rw [e, hf] at this
      injection this with this
      subst this; exact hz
    · exact ok.siz g hg'
  · have := sumD_upd (h := h) ok.up hf
    show u = (sumD (updF t h s.fs) : Nat)
    rw [hu, ok.use]; omega
/-- One file's cells turn. -/
theorem DkAt.refile {t : Nm} {h : Fi → Fi} {f : Fi} (hD : DkAt w p s) (hh : ∀ f, (h f).name = f.name ∧ (h f).blk = f.blk) (hf : findF s.fs t = some f) (k : Fr [f.blk] w w') (hb : Mem.Blk w' f.blk 69 (flC (h f))) (ok : StOk { s with fs := updF t h s.fs }) :
    DkAt w' p { s with fs := updF t h s.fs } ∧ DkStep p s { s with fs := updF t h s.fs } w w' := by
  obtain ⟨hfm, hft⟩ := findF_mem hf
  refine ⟨⟨k.blk hD.ptr (by simpa using fun e => hD.fp hfm e.symm), ?_, fun g hg => ?_, ok⟩, ?_, fun g hg => .inl ?_⟩
  · obtain ⟨D, h1, h2⟩ := hD.map
    exact ⟨D, k.map h1 (by simpa using fun e => hD.fm hfm e.symm), h2.upd hh⟩
  · rcases mem_updF hg with ⟨g', hg', e, rfl⟩ | ⟨hg', hne⟩
    · have := findF_of hD.ok.up hg'
      rw [e, hf] at this
      injection this with this
      subst this
      rw [(hh f).2]; exact hb
    · have hbne : g.blk ≠ f.blk := fun e => hne (by rw [blk_inj hD.ok.one hg' hfm e]; exact hft)
      exact k.blk (hD.fil g hg') (by simpa using hbne)
  · exact k.more (fun g hg => by rw [List.mem_singleton] at hg; subst hg; exact List.mem_cons_of_mem _ (List.mem_cons_of_mem _ (List.mem_map.2 ⟨f, hfm, rfl⟩)))
  · unfold dks at hg ⊢
    dsimp only at hg
    rw [updF_blk hh] at hg; exact hg
end
def syncF (g : Fi) : Fi := ⟨g.name, g.data, g.data.size, g.blk⟩
def syncS (s : St) (t : Nm) : Int × St := match thereS s t [] with
  | (some _, e, s1) => (e, { s1 with fs := updF t syncF s1.fs })
  | (none, e, s1) => (e, s1)
theorem thereS_some {s : St} {t : Nm} {more : List Nm} {f : Fi} (h : (thereS s t more).1 = some f) : (thereS s t more).2.1 = 0 ∧ findF (thereS s t more).2.2.fs t = some f := by
  unfold thereS at h ⊢
  split
  · rename_i h1; rw [if_pos h1] at h; cases h
  · rename_i h1
    rw [if_neg h1] at h
    cases hf : findF (beginS s (t :: more)).2.fs t with
    | none => rw [hf] at h; cases h
    | some g => rw [hf] at h; injection h with h; subst h; exact ⟨rfl, hf⟩
theorem thereS_none {s : St} {t : Nm} {more : List Nm} (h : (thereS s t more).1 = none) : (thereS s t more).2.1 ≠ 0 := by
  unfold thereS at h ⊢
  split
  · rename_i h1; exact h1
  · rename_i h1
    rw [if_neg h1] at h
    cases hf : findF (beginS s (t :: more)).2.fs t with
    | none => dsimp only; decide
    | some g => rw [hf] at h; cases h
theorem thereS_begin (s : St) (t : Nm) (more : List Nm) : (thereS s t more).2.2.mn = s.mn ∧ ((thereS s t more).2.1 = 0 → ∀ u ∈ t :: more, badN u = false) := by
  have h1 := beginS_same s (t :: more)
  have h2 := @beginS_zero s (t :: more)
  unfold thereS
  split
  · rename_i h
    exact ⟨h1.2.2.1, fun h0 => absurd h0 h⟩
  · rename_i h
    have h0 : (beginS s (t :: more)).1 = 0 := by
      by_cases h3 : (beginS s (t :: more)).1 = 0
      · exact h3
      · exact absurd h3 h
    split
    · exact ⟨h1.2.2.1, fun _ => h2 h0⟩
    · exact ⟨h1.2.2.1, fun _ => h2 h0⟩
set_option maxRecDepth 100000 in
set_option maxHeartbeats 4000000 in
theorem sync_any (p : Nat) (s : St) (nm : ByteArray) (w : World) (hD : DkAt w p s) (hb : s.calls ≤ 4611686018427387904) (hn : nm.size ≤ maxLen) :
    Calls Try.prog 12 #[.pointer (some ⟨p, 0, none⟩), .string nm] w fun x w' => x = .returned (.int .i64 (syncS s nm.data.toList).1) ∧ DkAt w' p (syncS s nm.data.toList).2 ∧ DkStep p s (syncS s nm.data.toList).2 w w' := by
  have HT := Lib.hid (there_any p s nm [] none 0 0 w hD (SlR.nil _ _ _) (by omega) hb hn)
  have HTS : Hid (∀ f, (thereS s nm.data.toList []).1 = some f → _) := fun f => @thereS_some s nm.data.toList [] f
  have HTN := Lib.hid (fun h => @thereS_none s nm.data.toList [] h)
  obtain ⟨R, hR⟩ : ∃ R, R = syncS s nm.data.toList := ⟨_, rfl⟩
  have HR := Lib.hid hR
  rw [← hR]
  unfold syncS at HR
  obtain ⟨o, e, s1, hB⟩ : ∃ o e s1, thereS s nm.data.toList [] = (o, e, s1) := ⟨_, _, _, rfl⟩
  simp only [hB] at HR HT HTS HTN
  clear hD hb hR hB
  go_enter Try.func12, Try.ntmps12
  go_wp2_with fail
  go_at_call 34
  (with_reducible refine HT.out.mono ?_)
  rintro x w1 ⟨rfl, hd1, hs1⟩
  have HD1 := Lib.hid hd1
  have HS1 := Lib.hid hs1
  clear hd1 hs1 HT
  cases o with
  | none =>
    have he := HTN.out rfl
    have he1 : (e == 0) = false := beq_eq_false_iff_ne.2 he
    obtain rfl : R = (e, s1) := HR.out
    simp only [ptrV]
    clear HR HTN HTS he
    go_wp2_with fail
    go_ret
    exact ⟨rfl, HD1.out, HS1.out⟩
  | some f =>
    obtain ⟨he, hf⟩ := HTS.out f rfl
    subst he
    obtain rfl : R = (0, { s1 with fs := updF nm.data.toList syncF s1.fs }) := HR.out
    simp only [ptrV]
    obtain ⟨hfm, hft⟩ := findF_mem hf
    have hB := HD1.out.fil f hfm
    obtain ⟨u0, u1, v0, v1⟩ := hB.two
    have hsz := HD1.out.ok.siz f hfm
    have hre : DkAt (w1.setCell ⟨f.blk, 1, none⟩ (.int .i64 (f.data.size : Nat))) p { s1 with fs := updF nm.data.toList syncF s1.fs } ∧ DkStep p s1 { s1 with fs := updF nm.data.toList syncF s1.fs } w1 (w1.setCell ⟨f.blk, 1, none⟩ (.int .i64 (f.data.size : Nat))) :=
      HD1.out.refile (h := syncF) (fun f => ⟨rfl, rfl⟩) hf (Fr.setCell w1 (by simp) _) (hB.set_ 1 _) (HD1.out.ok.re (h := syncF) (fun f => ⟨rfl, rfl⟩) hf ⟨hsz.1, Nat.le_refl _⟩ (by show s1.used = s1.used + (f.data.size : Nat) - (f.data.size : Nat); omega) HD1.out.ok.rm.2.2)
    have FIN : Hid (DkAt _ p _ ∧ DkStep p s _ w _) := ⟨hre.1, HS1.out.trans hre.2⟩
    clear hre HR HTN HTS hB hfm hft hf HD1 HS1
    go_wp2_with fail
    go_ret
    exact ⟨rfl, FIN.out⟩
theorem dks_sub {p : Nat} {s s' : St} (h : ∀ f ∈ s'.fs, f ∈ s.fs) (hm : s'.mb = s.mb) : ∀ g ∈ dks p s', g ∈ dks p s := by
  intro g hg
  unfold dks at hg ⊢
  rw [hm] at hg
  rcases List.mem_cons.1 hg with rfl | hg
  · exact List.mem_cons_self ..
  rcases List.mem_cons.1 hg with rfl | hg
  · exact List.mem_cons_of_mem _ (List.mem_cons_self ..)
  obtain ⟨f, hf, rfl⟩ := List.mem_map.1 hg
  exact List.mem_cons_of_mem _ (List.mem_cons_of_mem _ (List.mem_map.2 ⟨f, h f hf, rfl⟩))
def dropS (s : St) (t : Nm) : St := match findF s.fs t with
  | none => s
  | some f => { s with used := s.used - (f.data.size : Nat), fs := delF t s.fs }
theorem sumD_del {fs : List Fi} (hu : UpF fs) {t : Nm} {f : Fi} (hf : findF fs t = some f) : sumD fs = f.data.size + sumD (delF t fs) := by
  obtain ⟨h1, h2⟩ := findF_mem hf
  rw [sumD_perm (delF_perm hu h1), sumD_cons, h2]
theorem StOk.del {s : St} (ok : StOk s) {t : Nm} {f : Fi} (hf : findF s.fs t = some f) : StOk { s with used := s.used - (f.data.size : Nat), fs := delF t s.fs } := by
  have hs := sumD_del ok.up hf
  refine ⟨?_, delF_up ok.up, fun g hg => ok.nam g (mem_delF.1 hg).1, fun g hg => ok.siz g (mem_delF.1 hg).1, ?_, ⟨ok.rm.1, ok.rm.2.1, ?_⟩, ok.lf, ok.wr⟩
  · exact List.Nodup.sublist (List.Sublist.map _ List.filter_sublist) ok.one
  · show s.used - (f.data.size : Nat) = (sumD (delF t s.fs) : Nat)
    rw [ok.use]; omega
  · have := ok.rm; show s.used - (f.data.size : Nat) ≤ s.room; omega
set_option maxRecDepth 100000 in
set_option maxHeartbeats 4000000 in
theorem drop_any (p : Nat) (s : St) (nm : ByteArray) (w : World) (hD : DkAt w p s) (hn : nm.size ≤ maxLen) :
    Calls Try.prog 38 #[.pointer (some ⟨p, 0, none⟩), .string nm] w fun x w' => x = .returned (.tuple #[]) ∧ DkAt w' p (dropS s nm.data.toList) ∧ DkStep p s (dropS s nm.data.toList) w w' := by
  have HD := Lib.hid hD
  obtain ⟨c0, c1, c2, c3, c4, c5, c6, c7⟩ := dk8 hD.ptr
  obtain ⟨f0, f1, f2, f3, f4, f5, f6, f7⟩ := dkF hD.ptr
  have hl := hD.look1 nm hn
  obtain ⟨R, hR⟩ : ∃ R, R = dropS s nm.data.toList := ⟨_, rfl⟩
  have HR := Lib.hid hR
  rw [← hR]
  unfold dropS at HR
  clear hD hR
  cases hf : findF s.fs nm.data.toList with
  | none =>
    rw [hf] at hl HR
    simp only [ptrV, Option.isSome_none] at hl
    obtain rfl : R = s := HR.out
    clear HR hf
    go_enter Try.func38, Try.ntmps38
    go_wp2_with fail
    go_end0
    exact ⟨rfl, HD.out, DkStep.refl _ _ _⟩
  | some f =>
    rw [hf] at hl HR
    simp only [ptrV, Option.isSome_some] at hl
    obtain rfl : R = _ := HR.out
    obtain ⟨hfm, hft⟩ := findF_mem hf
    have u0 : w.cell? ⟨f.blk, 0, none⟩ = some (.string f.data) := (HD.out.fil f hfm).cell 0
    have hwu : IntKind.i64.wrap (s.used - (f.data.size : Nat)) = s.used - (f.data.size : Nat) := IntWalk.i64_in _ (by have := HD.out.ok.rm; have := HD.out.ok.use; have := HD.out.ok.siz f hfm; omega)
    have HFN := Lib.hid hf
    clear HR hf
    have k1 : Fr [p] w (w.setCell ⟨p, 2, none⟩ (.int .i64 (s.used - (f.data.size : Nat)))).drew := (Fr.setCell w (by simp) _).trans (Fr.drew _ _)
    have hp1 : Mem.Blk (w.setCell ⟨p, 2, none⟩ (.int .i64 (s.used - (f.data.size : Nat)))).drew p 64 (dkC { s with used := s.used - (f.data.size : Nat), fs := delF nm.data.toList s.fs }) := HD.out.ptr.set_ 2 _
    have hm1 : ∃ D, (w.setCell ⟨p, 2, none⟩ (.int .i64 (s.used - (f.data.size : Nat)))).drew.ownsMap Try.prog 9 ptrR s.mb s.mn D ∧ MapOf s.fs D := by
      obtain ⟨D, h1, h2⟩ := HD.out.map
      exact ⟨D, k1.map h1 (by simpa using HD.out.mp), h2⟩
    obtain ⟨w5, hr, hf5, hm5⟩ := dele_map hm1 nm hn
    have FIN : Hid (DkAt w5 p { s with used := s.used - (f.data.size : Nat), fs := delF nm.data.toList s.fs } ∧ DkStep p s { s with used := s.used - (f.data.size : Nat), fs := delF nm.data.toList s.fs } w w5) := by
      refine ⟨⟨hf5.blk hp1 (by simpa using HD.out.mp.symm), hm5, fun g hg => ?_, HD.out.ok.del HFN.out⟩, ?_, fun g hg => .inl ?_⟩
      · have hg' := (mem_delF.1 hg).1
        exact hf5.blk (k1.blk (HD.out.fil g hg') (by simpa using HD.out.fp hg')) (by simpa using HD.out.fm hg')
      · exact (k1.more (fun g hg => by rw [List.mem_singleton] at hg; subst hg; exact List.mem_cons_self ..)).trans (hf5.more (fun g hg => by rw [List.mem_singleton] at hg; subst hg; exact List.mem_cons_of_mem _ (List.mem_cons_self ..)))
      · exact dks_sub (p := p) (s := s) (s' := { s with used := s.used - (f.data.size : Nat), fs := delF nm.data.toList s.fs }) (fun x hx => (mem_delF.1 (show x ∈ delF nm.data.toList s.fs from hx)).1) rfl g hg
    clear k1 hp1 hm1 hf5 hm5 HD HFN hfm hft
    go_enter Try.func38, Try.ntmps38
    go_upto_region 2 with (fail)
    go_still_tail 12, (by kernel_rfl)
    change wpList _ _ _ _ _ w.drew
    go_wp2_with fail
    go_end0
    exact ⟨rfl, FIN.out⟩
def deleteS (s : St) (t : Nm) : Int × St := match thereS s t [] with
  | (some _, e, s1) => (e, dropS s1 t)
  | (none, e, s1) => (e, s1)
set_option maxRecDepth 100000 in
set_option maxHeartbeats 4000000 in
theorem delete_any (p : Nat) (s : St) (nm : ByteArray) (w : World) (hD : DkAt w p s) (hb : s.calls ≤ 4611686018427387904) (hn : nm.size ≤ maxLen) :
    Calls Try.prog 17 #[.pointer (some ⟨p, 0, none⟩), .string nm] w fun x w' => x = .returned (.int .i64 (deleteS s nm.data.toList).1) ∧ DkAt w' p (deleteS s nm.data.toList).2 ∧ DkStep p s (deleteS s nm.data.toList).2 w w' := by
  have HT := Lib.hid (there_any p s nm [] none 0 0 w hD (SlR.nil _ _ _) (by omega) hb hn)
  have HTS : Hid (∀ f, (thereS s nm.data.toList []).1 = some f → _) := fun f => @thereS_some s nm.data.toList [] f
  have HTN := Lib.hid (fun h => @thereS_none s nm.data.toList [] h)
  obtain ⟨R, hR⟩ : ∃ R, R = deleteS s nm.data.toList := ⟨_, rfl⟩
  have HR := Lib.hid hR
  rw [← hR]
  unfold deleteS at HR
  obtain ⟨o, e, s1, hB⟩ : ∃ o e s1, thereS s nm.data.toList [] = (o, e, s1) := ⟨_, _, _, rfl⟩
  simp only [hB] at HR HT HTS HTN
  clear hD hb hR hB
  go_enter Try.func17, Try.ntmps17
  go_wp2_with fail
  go_at_call 34
  (with_reducible refine HT.out.mono ?_)
  rintro x w1 ⟨rfl, hd1, hs1⟩
  have HD1 := Lib.hid hd1
  have HS1 := Lib.hid hs1
  clear hd1 hs1 HT
  cases o with
  | none =>
    have he := HTN.out rfl
    have he1 : (e == 0) = false := beq_eq_false_iff_ne.2 he
    obtain rfl : R = (e, s1) := HR.out
    simp only [ptrV]
    clear HR HTN HTS he
    go_wp2_with fail
    go_ret
    exact ⟨rfl, HD1.out, HS1.out⟩
  | some f =>
    obtain ⟨he, -⟩ := HTS.out f rfl
    subst he
    obtain rfl : R = (0, dropS s1 nm.data.toList) := HR.out
    simp only [ptrV]
    have HDR := Lib.hid (drop_any p s1 nm w1 HD1.out hn)
    clear HR HTN HTS
    go_wp2_with fail
    go_at_call 38
    (with_reducible refine HDR.out.mono ?_)
    rintro x w2 ⟨rfl, hd2, hs2⟩
    have FIN := Lib.hid (And.intro hd2 (HS1.out.trans hs2))
    clear hd2 hs2 HDR HD1 HS1
    go_wp2_with fail
    go_ret
    exact ⟨rfl, FIN.out⟩
end Go.Proofs.Ytefpjdgfcgjbaaa

/- The contract of Rename. -/
namespace Go.Proofs.Ytefpjdgfcgjbaaa
set_option linter.unusedVariables false
set_option linter.unusedSimpArgs false
open Go.RowKit
theorem fi_eta (f : Fi) (t : Nm) (h : f.name = t) : (⟨t, f.data, f.safe, f.blk⟩ : Fi) = f := by subst h; rfl
/-- What Rename answers, and what it leaves. -/
def renameS (s : St) (a b : Nm) : Int × St := match thereS s a [b] with
  | (none, e, s1) => (e, s1)
  | (some f, e, s1) => if a = b then (e, s1) else (0, { dropS s1 b with fs := insF ⟨b, f.data, f.safe, f.blk⟩ (delF a (dropS s1 b).fs), mn := s1.mn + 1 })
theorem dropS_same (s : St) (t : Nm) : (dropS s t).mb = s.mb ∧ (dropS s t).mn = s.mn ∧ (dropS s t).room = s.room ∧ (dropS s t).calls = s.calls ∧ (dropS s t).written = s.written ∧ (dropS s t).left = s.left ∧ (dropS s t).off = s.off ∧ (dropS s t).armed = s.armed := by
  unfold dropS
  split <;> exact ⟨rfl, rfl, rfl, rfl, rfl, rfl, rfl, rfl⟩
theorem dropS_find {s : St} (hu : UpF s.fs) (t u : Nm) : findF (dropS s t).fs u = if t = u then none else findF s.fs u := by
  unfold dropS
  cases hf : findF s.fs t with
  | none =>
    dsimp only
    by_cases h : t = u
    · subst h; rw [if_pos rfl, hf]
    · rw [if_neg h]
  | some f => exact findF_del hu
theorem StOk.move {s : St} (ok : StOk s) {a b : Nm} {f : Fi} (hf : findF s.fs a = some f) (hb : findF s.fs b = none) (hl : 1 ≤ b.length ∧ b.length ≤ 24) : StOk { s with fs := insF ⟨b, f.data, f.safe, f.blk⟩ (delF a s.fs), mn := s.mn + 1 } := by
  obtain ⟨hfm, hft⟩ := findF_mem hf
  have hm : ∀ g, g ∈ insF ⟨b, f.data, f.safe, f.blk⟩ (delF a s.fs) → g = ⟨b, f.data, f.safe, f.blk⟩ ∨ g ∈ s.fs := fun g hg => (mem_insF.1 hg).imp id (fun h => (mem_delF.1 h).1)
  have hn : ∀ g ∈ delF a s.fs, g.name ≠ b := fun g hg => findF_none hb g (mem_delF.1 hg).1
  refine ⟨?_, insF_up (delF_up ok.up) hn, fun g hg => ?_, fun g hg => ?_, ?_, ok.rm, ok.lf, ok.wr⟩
  · show ((insF ⟨b, f.data, f.safe, f.blk⟩ (delF a s.fs)).map (fun f => f.blk)).Nodup
    rw [((insF_perm _ _).map (fun f : Fi => f.blk)).nodup_iff, List.map_cons]
    have h1 := ok.one
    have h2 := (delF_perm ok.up hfm).map (fun f : Fi => f.blk)
    rw [hft, List.map_cons] at h2
    exact h2.nodup_iff.1 h1
  · rcases hm g hg with rfl | h2
    · exact hl
    · exact ok.nam g h2
  · rcases hm g hg with rfl | h2
    · exact ok.siz f hfm
    · exact ok.siz g h2
  · show s.used = (sumD (insF ⟨b, f.data, f.safe, f.blk⟩ (delF a s.fs)) : Nat)
    rw [sumD_perm (insF_perm _ _), sumD_cons, ok.use, sumD_del ok.up hf]
set_option maxRecDepth 100000 in
set_option maxHeartbeats 4000000 in
theorem rename_any (p : Nat) (s : St) (na nb : ByteArray) (w : World) (hD : DkAt w p s) (hb : s.calls ≤ 4611686018427387904) (hm : s.mn ≤ 1000000) (hna : na.size ≤ maxLen) (hnb : nb.size ≤ maxLen) :
    Calls Try.prog 19 #[.pointer (some ⟨p, 0, none⟩), .string na, .string nb] w fun x w' => x = .returned (.int .i64 (renameS s na.data.toList nb.data.toList).1) ∧ DkAt w' p (renameS s na.data.toList nb.data.toList).2 ∧ DkStep p s (renameS s na.data.toList nb.data.toList).2 w w' := by
  have hal := (Below.refl w.heap.size w).alloc (Nat.le_refl _) (.cells #[.string nb] 9)
  have HT := Lib.hid (there_any p s na [nb.data.toList] _ 1 1 _ (hD.below hal) (sl_one w nb [] (fun b hb => by cases hb)) (by omega) hb hna)
  have HS0 := Lib.hid (DkStep.below (p := p) (s := s) hal)
  have HTS : Hid (∀ f, (thereS s na.data.toList [nb.data.toList]).1 = some f → _) := fun f => @thereS_some s na.data.toList [nb.data.toList] f
  have HTN := Lib.hid (fun h => @thereS_none s na.data.toList [nb.data.toList] h)
  have HTB := Lib.hid (thereS_begin s na.data.toList [nb.data.toList])
  obtain ⟨R, hR⟩ : ∃ R, R = renameS s na.data.toList nb.data.toList := ⟨_, rfl⟩
  have HR := Lib.hid hR
  rw [← hR]
  unfold renameS at HR
  have HMM := Lib.hid hm
  obtain ⟨o, e, s1, hB⟩ : ∃ o e s1, thereS s na.data.toList [nb.data.toList] = (o, e, s1) := ⟨_, _, _, rfl⟩
  simp only [hB] at HR HT HTS HTN HTB
  clear hD hb hR hB hal hm
  go_enter Try.func19, Try.ntmps19
  go_wp2_with fail
  go_at_call 34
  (with_reducible refine HT.out.mono ?_)
  rintro x w1 ⟨rfl, hd1, hs1⟩
  have HD1 := Lib.hid hd1
  have HS1 := Lib.hid (HS0.out.trans hs1)
  clear hd1 hs1 HT HS0
  cases o with
  | none =>
    have he := HTN.out rfl
    have he1 : (e != 0) = true := bne_iff_ne.2 he
    obtain rfl : R = (e, s1) := HR.out
    simp only [ptrV]
    clear HR HTN HTS HTB he
    go_wp2_with fail
    go_ret
    exact ⟨rfl, HD1.out, HS1.out⟩
  | some f =>
    obtain ⟨he, hf⟩ := HTS.out f rfl
    subst he
    simp only [ptrV]
    by_cases hab : na.data.toList = nb.data.toList
    · obtain rfl : R = (0, s1) := by
        have h := HR.out
        dsimp only at h
        rw [if_pos hab] at h; exact h
      have hab2 : na = nb := by
        obtain ⟨⟨x⟩⟩ := na; obtain ⟨⟨y⟩⟩ := nb
        have : x = y := hab
        rw [this]
      subst hab2
      clear HR HTN HTS HTB hab hf
      go_wp2_with fail
      go_ret
      exact ⟨rfl, HD1.out, HS1.out⟩
    · have HR2 : Hid (R = (0, { dropS s1 nb.data.toList with fs := insF ⟨nb.data.toList, f.data, f.safe, f.blk⟩ (delF na.data.toList (dropS s1 nb.data.toList).fs), mn := s1.mn + 1 })) := by
        have h := HR.out
        dsimp only at h
        rw [if_neg hab] at h; exact h
      have hne : (na.toList == nb.toList) = false := by
        rw [beq_eq_false_iff_ne, ByteArray.toList_eq, ByteArray.toList_eq]; exact hab
      have HAB := Lib.hid hab
      have HF := Lib.hid hf
      have HDR := Lib.hid (drop_any p s1 nb w1 HD1.out hnb)
      clear HR hab hf HTN HTS
      go_wp2_with fail
      go_at_call 38
      (with_reducible refine HDR.out.mono ?_)
      rintro x w2 ⟨rfl, hd2, hs2⟩
      have HD2 := Lib.hid hd2
      have HS2 := Lib.hid (HS1.out.trans hs2)
      have HOK1 := Lib.hid HD1.out.ok
      have HBB := Lib.hid (HTB.out.2 (by first | rfl | trivial) nb.data.toList (by simp))
      have HMN := Lib.hid HTB.out.1
      have HDS := Lib.hid (dropS_same s1 nb.data.toList)
      have hfa : findF (dropS s1 nb.data.toList).fs na.data.toList = some f := by
        rw [dropS_find HOK1.out.up, if_neg (fun e => HAB.out e.symm)]; exact HF.out
      have hfb : findF (dropS s1 nb.data.toList).fs nb.data.toList = none := by rw [dropS_find HOK1.out.up, if_pos rfl]
      have HFA := Lib.hid hfa
      have HFB := Lib.hid hfb
      have hs2mn : (dropS s1 nb.data.toList).mn = s1.mn := HDS.out.2.1
      rw [← hs2mn] at HR2
      have HMN2 : Hid ((dropS s1 nb.data.toList).mn ≤ 1000000) := by
        show _ ≤ _
        rw [hs2mn, HMN.out]; exact HMM.out
      clear hd2 hs2 HDR HD1 HS1 hfa hfb hs2mn HDS HTB HMN HOK1 HF HMM
      generalize dropS s1 nb.data.toList = s2 at *
      obtain ⟨w3, hr3, hf3, hm3⟩ := dele_map HD2.out.map na hna
      obtain ⟨hfm, hft⟩ := findF_mem HFA.out
      obtain ⟨w4, hr4, hf4, hm4⟩ := store_map hm3 nb hnb f.blk (insF ⟨nb.data.toList, f.data, f.safe, f.blk⟩ (delF na.data.toList s2.fs)) (fun D hM => hM.put (f := ⟨nb.data.toList, f.data, f.safe, f.blk⟩) (by
        have e : delF nb.data.toList (delF na.data.toList s2.fs) = delF na.data.toList s2.fs := delF_none (by rw [findF_del HD2.out.ok.up, if_neg HAB.out]; exact HFB.out)
        show (insF _ _).Perm (_ :: delF nb.data.toList (delF na.data.toList s2.fs))
        rw [e]
        exact insF_perm _ _)) (by have := HMN2.out; unfold maxLen; omega)
      have c1 := (dk8 HD2.out.ptr).2.1
      have hp3 := hf3.blk HD2.out.ptr (by simpa using HD2.out.mp.symm)
      have d1 := (dk8 hp3).2.1
      have hp4 := hf4.blk hp3 (by simpa using HD2.out.mp.symm)
      have FIN : Hid (DkAt w4 p { s2 with fs := insF ⟨nb.data.toList, f.data, f.safe, f.blk⟩ (delF na.data.toList s2.fs), mn := s2.mn + 1 } ∧ DkStep p s { s2 with fs := insF ⟨nb.data.toList, f.data, f.safe, f.blk⟩ (delF na.data.toList s2.fs), mn := s2.mn + 1 } w w4) := by
        refine ⟨⟨hp4, hm4, fun g hg => ?_, HD2.out.ok.move HFA.out HFB.out (badN_len HBB.out)⟩, HS2.out.trans ⟨(hf3.trans hf4).more (fun g hg => by rw [List.mem_singleton] at hg; subst hg; exact List.mem_cons_of_mem _ (List.mem_cons_self ..)), fun g hg => .inl ?_⟩⟩
        · rcases mem_insF.1 hg with rfl | hg
          · exact hf4.blk (hf3.blk (HD2.out.fil f hfm) (by simpa using HD2.out.fm hfm)) (by simpa using HD2.out.fm hfm)
          · have hg' := (mem_delF.1 hg).1
            exact hf4.blk (hf3.blk (HD2.out.fil g hg') (by simpa using HD2.out.fm hg')) (by simpa using HD2.out.fm hg')
        · unfold dks at hg ⊢
          rcases List.mem_cons.1 hg with rfl | hg
          · exact List.mem_cons_self ..
          rcases List.mem_cons.1 hg with rfl | hg
          · exact List.mem_cons_of_mem _ (List.mem_cons_self ..)
          obtain ⟨x, hx, rfl⟩ := List.mem_map.1 hg
          rcases mem_insF.1 hx with rfl | hx
          · exact List.mem_cons_of_mem _ (List.mem_cons_of_mem _ (List.mem_map.2 ⟨f, hfm, rfl⟩))
          · exact List.mem_cons_of_mem _ (List.mem_cons_of_mem _ (List.mem_map.2 ⟨x, (mem_delF.1 hx).1, rfl⟩))
      clear hm3 hm4 hf3 hf4 hp3 hp4 hfm hft HD2 HS2 HFA HFB HBB HMN2 HAB
      go_wp2_with fail
      go_ret
      rw [HR2.out]
      exact ⟨rfl, FIN.out⟩
end Go.Proofs.Ytefpjdgfcgjbaaa

/- slices.Sorted(maps.Keys(m)) at any map of strings: a new slice of its keys, in order. -/
namespace Go.Proofs.Ytefpjdgfcgjbaaa
set_option linter.unusedVariables false
set_option linter.unusedSimpArgs false
open Go Go.RowKit Go.Maps Go.Sort Go.Shelf
def keys37_ren : Shelf.Ren := { f := fun x => match x with | 7 => 37 | 10 => 45 | n => n, t := fun x => match x with | 23 => 62 | 26 => 9 | 3 => 66 | 28 => 75 | 0 => 0 | 27 => 74 | 33 => 40 | 4 => 4 | n => n, g := fun x => x }
theorem keys37 : SlLaysZ.n7 Try.prog keys37_ren :=
  { mixed := by kernel_rfl,
    f7 := ⟨"maps.Keys[map[string]*debenture/disk.file,string,*debenture/disk.file]", by decide, (Try.func37).trans (congrArg some (by kernel_rfl))⟩,
    f10 := ⟨"maps.Keys[map[string]*debenture/disk.file,string,*debenture/disk.file]$1", by decide, (Try.func45).trans (congrArg some (by kernel_rfl))⟩,
    t0 := Try.underlying0,
    a0 := Try.isAgg0,
    z0 := Try.sizeOf0,
    v0 := Try.zeroValue0,
    t4 := Try.underlying4,
    a4 := Try.isAgg4,
    z4 := Try.sizeOf4,
    v4 := Try.zeroValue4,
    t23 := Try.underlying62,
    a23 := Try.isAgg62,
    z23 := Try.sizeOf62,
    v23 := Try.zeroValue62,
    t26 := Try.underlying9,
    a26 := Try.isAgg9,
    z26 := Try.sizeOf9,
    v26 := Try.zeroValue9,
    t27 := Try.underlying74,
    a27 := Try.isAgg74,
    z27 := Try.sizeOf74,
    v27 := Try.zeroValue74,
    t28 := Try.underlying75,
    a28 := Try.isAgg75,
    z28 := Try.sizeOf75,
    v28 := Try.zeroValue75,
    t33 := Try.underlying40,
    a33 := Try.isAgg40,
    z33 := Try.sizeOf40,
    v33 := Try.zeroValue40 }
def sorted36_ren : Shelf.Ren := { f := fun x => match x with | 6 => 36 | 8 => 43 | 9 => 44 | 11 => 46 | 13 => 48 | 12 => 47 | 23 => 58 | 24 => 59 | 14 => 49 | 15 => 50 | 16 => 51 | 17 => 52 | 18 => 53 | 19 => 54 | 20 => 55 | 21 => 56 | 22 => 57 | 25 => 60 | 26 => 61 | 27 => 62 | 28 => 63 | 29 => 64 | 30 => 65 | 31 => 66 | n => n, t := fun x => match x with | 26 => 9 | 28 => 75 | 24 => 36 | 0 => 0 | 3 => 3 | 37 => 84 | 48 => 52 | 50 => 96 | 4 => 4 | 40 => 87 | 39 => 86 | 45 => 92 | 5 => 5 | 9 => 9 | 51 => 97 | 55 => 101 | 57 => 103 | 58 => 104 | 33 => 40 | n => n, g := fun x => x }
theorem sorted36 : SlLaysZ.n6 Try.prog sorted36_ren :=
  { mixed := by kernel_rfl,
    f6 := ⟨"slices.Sorted[string]", by decide, (Try.func36).trans (congrArg some (by kernel_rfl))⟩,
    f8 := ⟨"slices.Collect[string]", by decide, (Try.func43).trans (congrArg some (by kernel_rfl))⟩,
    f11 := ⟨"slices.AppendSeq[[]string,string]", by decide, (Try.func46).trans (congrArg some (by kernel_rfl))⟩,
    t0 := Try.underlying0,
    a0 := Try.isAgg0,
    z0 := Try.sizeOf0,
    v0 := Try.zeroValue0,
    t24 := Try.underlying36,
    a24 := Try.isAgg36,
    z24 := Try.sizeOf36,
    v24 := Try.zeroValue36,
    t26 := Try.underlying9,
    a26 := Try.isAgg9,
    z26 := Try.sizeOf9,
    v26 := Try.zeroValue9,
    t28 := Try.underlying75,
    a28 := Try.isAgg75,
    z28 := Try.sizeOf75,
    v28 := Try.zeroValue75,
    i26 := by kernel_rfl }
def sort44_ren : Shelf.Ren := { f := fun x => match x with | 6 => 44 | 8 => 48 | 9 => 47 | 19 => 58 | 20 => 59 | 21 => 49 | 22 => 50 | 23 => 51 | 24 => 52 | 25 => 53 | 26 => 54 | 27 => 55 | 28 => 56 | 29 => 57 | 36 => 60 | 31 => 61 | 32 => 62 | 37 => 63 | 38 => 64 | 39 => 65 | 41 => 66 | n => n, t := fun x => match x with | 27 => 36 | 29 => 9 | 3 => 3 | 32 => 84 | 26 => 36 | 0 => 0 | 44 => 52 | 46 => 96 | 4 => 4 | 36 => 87 | 35 => 86 | 41 => 92 | 5 => 5 | 9 => 9 | 53 => 97 | 57 => 101 | 63 => 103 | 64 => 104 | n => n, g := fun x => x }
theorem sort44 : SlLaysM.n6 Try.prog sort44_ren :=
  { mixed := by kernel_rfl,
    f6 := ⟨"slices.Sort[[]string,string]", by decide, (Try.func44).trans (congrArg some (by kernel_rfl))⟩,
    f8 := (Try.func48).trans (congrArg some (by kernel_rfl)),
    f9 := ⟨"slices.pdqsortOrdered[string]", by decide, (Try.func47).trans (congrArg some (by kernel_rfl))⟩,
    f19 := (Try.func58).trans (congrArg some (by kernel_rfl)),
    f20 := (Try.func59).trans (congrArg some (by kernel_rfl)),
    f21 := ⟨"slices.insertionSortOrdered[string]", by decide, (Try.func49).trans (congrArg some (by kernel_rfl))⟩,
    f22 := ⟨"slices.heapSortOrdered[string]", by decide, (Try.func50).trans (congrArg some (by kernel_rfl))⟩,
    f23 := ⟨"slices.breakPatternsOrdered[string]", by decide, (Try.func51).trans (congrArg some (by kernel_rfl))⟩,
    f24 := ⟨"slices.choosePivotOrdered[string]", by decide, (Try.func52).trans (congrArg some (by kernel_rfl))⟩,
    f25 := ⟨"slices.reverseRangeOrdered[string]", by decide, (Try.func53).trans (congrArg some (by kernel_rfl))⟩,
    f26 := ⟨"slices.partialInsertionSortOrdered[string]", by decide, (Try.func54).trans (congrArg some (by kernel_rfl))⟩,
    f27 := ⟨"cmp.Less[string]", by decide, (Try.func55).trans (congrArg some (by kernel_rfl))⟩,
    f28 := ⟨"slices.partitionEqualOrdered[string]", by decide, (Try.func56).trans (congrArg some (by kernel_rfl))⟩,
    f29 := ⟨"slices.partitionOrdered[string]", by decide, (Try.func57).trans (congrArg some (by kernel_rfl))⟩,
    f31 := (Try.func61).trans (congrArg some (by kernel_rfl)),
    f32 := (Try.func62).trans (congrArg some (by kernel_rfl)),
    f36 := ⟨"slices.siftDownOrdered[string]", by decide, (Try.func60).trans (congrArg some (by kernel_rfl))⟩,
    f37 := ⟨"slices.medianAdjacentOrdered[string]", by decide, (Try.func63).trans (congrArg some (by kernel_rfl))⟩,
    f38 := ⟨"slices.medianOrdered[string]", by decide, (Try.func64).trans (congrArg some (by kernel_rfl))⟩,
    f39 := ⟨"cmp.isNaN[string]", by decide, (Try.func65).trans (congrArg some (by kernel_rfl))⟩,
    f41 := ⟨"slices.order2Ordered[string]", by decide, (Try.func66).trans (congrArg some (by kernel_rfl))⟩,
    t0 := Try.underlying0,
    a0 := Try.isAgg0,
    z0 := Try.sizeOf0,
    v0 := Try.zeroValue0,
    t3 := Try.underlying3,
    a3 := Try.isAgg3,
    z3 := Try.sizeOf3,
    v3 := Try.zeroValue3,
    t4 := Try.underlying4,
    a4 := Try.isAgg4,
    z4 := Try.sizeOf4,
    v4 := Try.zeroValue4,
    t5 := Try.underlying5,
    a5 := Try.isAgg5,
    z5 := Try.sizeOf5,
    v5 := Try.zeroValue5,
    t9 := Try.underlying9,
    a9 := Try.isAgg9,
    z9 := Try.sizeOf9,
    v9 := Try.zeroValue9,
    t26 := Try.underlying36,
    a26 := Try.isAgg36,
    z26 := Try.sizeOf36,
    v26 := Try.zeroValue36,
    t27 := Try.underlying36,
    a27 := Try.isAgg36,
    z27 := Try.sizeOf36,
    v27 := Try.zeroValue36,
    t29 := Try.underlying9,
    a29 := Try.isAgg9,
    z29 := Try.sizeOf9,
    v29 := Try.zeroValue9,
    t32 := Try.underlying84,
    a32 := Try.isAgg84,
    z32 := Try.sizeOf84,
    v32 := Try.zeroValue84,
    t35 := Try.underlying86,
    a35 := Try.isAgg86,
    z35 := Try.sizeOf86,
    v35 := Try.zeroValue86,
    t36 := Try.underlying87,
    a36 := Try.isAgg87,
    z36 := Try.sizeOf87,
    v36 := Try.zeroValue87,
    t41 := Try.underlying92,
    a41 := Try.isAgg92,
    z41 := Try.sizeOf92,
    v41 := Try.zeroValue92,
    t44 := Try.underlying52,
    a44 := Try.isAgg52,
    z44 := Try.sizeOf52,
    v44 := Try.zeroValue52,
    t46 := Try.underlying96,
    a46 := Try.isAgg96,
    z46 := Try.sizeOf96,
    v46 := Try.zeroValue96,
    t53 := Try.underlying97,
    a53 := Try.isAgg97,
    z53 := Try.sizeOf97,
    v53 := Try.zeroValue97,
    t57 := Try.underlying101,
    a57 := Try.isAgg101,
    z57 := Try.sizeOf101,
    v57 := Try.zeroValue101,
    t63 := Try.underlying103,
    a63 := Try.isAgg103,
    z63 := Try.sizeOf103,
    v63 := Try.zeroValue103,
    t64 := Try.underlying104,
    a64 := Try.isAgg104,
    z64 := Try.sizeOf104,
    v64 := Try.zeroValue104 }
/-- maps.Keys at whatever map. -/
theorem mapKeys_file (mb : Option Nat) (W : World) : Calls Try.prog 37 #[.map mb] W fun e w' => e = .returned (.func (.func 45) #[] #[.pointer (some ⟨W.heap.size, 0, none⟩)]) ∧ w' = W.alloc (.cells #[.map mb] 62) :=
  callsIn_wide.1 (AnyZ.keys_in keys37 Fence.wide 5 trivial rfl mb W)
theorem sorts_36 (m : Nat) : AnyZ.SortsIn Try.prog sorted36_ren Fence.wide m :=
  ⟨fun blk off cap ss W hH hblk hsz => callsIn_wide.2 (AnyM.slices_Sort_string sort44 blk off cap ss W hH hblk hsz),
   fun p cap W => callsIn_wide.2 (AnyM.slices_Sort_string_none sort44 p cap W)⟩
/-- slices.Sorted at the keys of a map that isn't nil. -/
theorem sortedKeys_file {H : Type} (p b nn : Nat) (D0 : DataW H) (R : Value → Option (DataW H × List MemPlace)) (w : World) (hp : p < w.heap.size) (hc : w.cell? ⟨p, 0, none⟩ = some (.map (some b))) (hown : w.ownsMap Try.prog 9 R b nn D0) (hmax : Maps.size D0 ≤ maxLen) (hbytes : Maps.size D0 * 16 ≤ 140737488355328) :
    Calls Try.prog 36 #[.func (.func 45) #[] #[.pointer (some ⟨p, 0, none⟩)]] w fun e w' => ∃ (v : Value) (ss : List (List UInt8)), e = .returned v ∧ ss.Perm (strKeys D0) ∧
      w'.ownsRow w.heap.size 9 1 v ss.length ((ss.mergeSort (fun x y => decide (x ≤ y))).map encStr) ∧ (v = .slice none 0 0 ↔ ss = []) ∧ Below w.heap.size w w' :=
  callsIn_wide.1 (AnyZ.sorted_in sorted36 Fence.wide 5 trivial trivial trivial trivial rfl (by omega) (sorts_36 _) (enters_of Try.func44 (by kernel_rfl) rfl) 45 #[.pointer (some ⟨p, 0, none⟩)] trivial (enters_of Try.func45 (by kernel_rfl) rfl) _ _ hmax hbytes _
    (AnyZ.keys_gives (ρ := keys37_ren) { keys37 with } Fence.wide _ trivial rfl (by omega) p b nn D0 _ hp hc hown))
end Go.Proofs.Ytefpjdgfcgjbaaa

/- The contract of Names. -/
namespace Go.Proofs.Ytefpjdgfcgjbaaa
set_option linter.unusedVariables false
set_option linter.unusedSimpArgs false
open Go.RowKit
theorem names_sorted {fs : List Fi} (hu : UpF fs) : (fs.map (fun f => f.name)).Pairwise (fun x y => decide (x ≤ y) = true) := by
  rw [List.pairwise_map]
  exact hu.imp (fun {f g} h => decide_eq_true (Std.le_of_lt h))
set_option maxRecDepth 100000 in
set_option maxHeartbeats 4000000 in
theorem names_raw (p mb mn : Nat) (fs : List Fi) (X : List Nat) (w : World) (c1 : w.cell? ⟨p, 1, none⟩ = some (.map (some mb))) (hm : ∃ D, w.ownsMap Try.prog 9 ptrR mb mn D ∧ MapOf fs D) (hu : UpF fs) (hX : ∀ g ∈ X, g < w.heap.size) (hn : fs.length ≤ 1000000) :
    Calls Try.prog 15 #[.pointer (some ⟨p, 0, none⟩)] w fun x w' => (∃ a c, x = .returned (.slice a fs.length c) ∧ SlR strK w' (X) (fs.map (fun f => f.name)) a fs.length c) ∧ Below w.heap.size w w' := by
  have HM := Lib.hid hm
  have HU := Lib.hid hu
  have HLT := Lib.hid hX
  have HN := Lib.hid hn
  clear hm hn hu hX
  go_enter Try.func15, Try.ntmps15
  go_wp2_with fail
  go_at_call 37
  (with_reducible refine (mapKeys_file _ _).mono ?_)
  rintro y w1 ⟨rfl, rfl⟩
  have hb := (Below.refl w.heap.size w).alloc (Nat.le_refl _) (.cells #[.map (some mb)] 62)
  have HB1 := Lib.hid hb
  have HM1 : Hid (∃ D, (w.alloc (.cells #[.map (some mb)] 62)).ownsMap Try.prog 9 ptrR mb mn D ∧ MapOf fs D) := by
    obtain ⟨D, h1, h2⟩ := HM.out
    exact ⟨D, (Fr.of_below hb []).map h1 (by simp), h2⟩
  have BZ := Lib.hid (Mem.Blk.new w 62 #[.map (some mb)])
  clear hb HM c1
  go_wp2_with fail
  have HZW : Hid (w.heap.size ≤ w.heap.size) := Nat.le_refl _
  generalize hw1 : w.alloc (.cells #[.map (some mb)] 62) = w1 at *
  have hcz : w1.cell? ⟨w.heap.size, 0, none⟩ = some (Value.map (some mb)) := BZ.out.cell 0
  obtain ⟨D, hM, hMO⟩ := HM1.out
  have hsz := hMO.size
  go_at_call 36
  (with_reducible refine (sortedKeys_file w.heap.size mb mn D ptrR w1 BZ.out.lt hcz hM (by have := HN.out; unfold maxLen; omega) (by have := HN.out; omega)).mono ?_)
  rintro y w5 ⟨v', ss, rfl, hpm, hrow, -, hb⟩
  have hls : ss.mergeSort (fun x y => decide (x ≤ y)) = fs.map (fun f => f.name) := by
    rw [Go.mergeSort_of_perm (hpm.trans hMO.keys)]
    exact List.mergeSort_of_pairwise (names_sorted HU.out)
  have hll : ss.length = fs.length := by
    have := congrArg List.length hls
    rw [List.length_mergeSort, List.length_map] at this; exact this
  rw [hls, hll] at hrow
  have hs1 : w1.heap.size = w.heap.size + 1 := by rw [← hw1]; simp
  have HB5 := Lib.hid (HB1.out.trans (hb.mono HB1.out.size))
  obtain ⟨a', c', rfl, hsl⟩ := own_strs (w0 := w1) hrow (by rw [List.length_map]) hb (X := X) (fun g hg => by have := HLT.out g hg; omega)
  have FIN : Hid (∃ a c, Ending.returned (.slice a' fs.length c') = .returned (.slice a fs.length c) ∧ SlR strK w5 (X) (fs.map (fun f => f.name)) a fs.length c) := ⟨a', c', rfl, hsl⟩
  clear hsl hrow hpm hls hb hM hMO hsz hs1 hcz hll hw1
  go_wp2_with fail
  go_ret
  exact ⟨FIN.out, HB5.out⟩
theorem names_any (p : Nat) (s : St) (w : World) (hD : DkAt w p s) (hn : s.fs.length ≤ 1000000) :
    Calls Try.prog 15 #[.pointer (some ⟨p, 0, none⟩)] w fun x w' => (∃ a c, x = .returned (.slice a s.fs.length c) ∧ SlR strK w' (dks p s) (s.fs.map (fun f => f.name)) a s.fs.length c) ∧ Below w.heap.size w w' :=
  names_raw p s.mb s.mn s.fs (dks p s) w (dk8 hD.ptr).2.1 hD.map hD.ok.up hD.lt hn
end Go.Proofs.Ytefpjdgfcgjbaaa
