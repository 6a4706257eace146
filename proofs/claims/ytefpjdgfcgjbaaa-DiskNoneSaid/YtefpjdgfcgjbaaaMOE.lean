/- A part of the proof: DkD, DkE, DkW, DkZ, DkNo, one behind another. -/
import Derived.Test.YtefpjdgfcgjbaaaMOA
import Derived.Test.YtefpjdgfcgjbaaaMOB
import Derived.Test.YtefpjdgfcgjbaaaMOC
import Derived.Test.YtefpjdgfcgjbaaaMOD
import Derived.StillTailTactics
/- The contract of Crash. -/
namespace Go.Proofs.Ytefpjdgfcgjbaaa
set_option linter.unusedVariables false
set_option linter.unusedSimpArgs false
open Go.RowKit
/-- What is kept of a file: so many bytes, and the sector that is turned. -/
def kpK : Elt (Int × Int) where
  sz := 2
  pos := by decide
  R := fun _ _ k cs => cs = [.int .i64 k.1, .int .i64 k.2] ∧ I64 k.1 ∧ I64 k.2
  kept := fun h _ => h
  less := fun h _ => h
  one := fun h => by obtain ⟨rfl, _⟩ := h; exact ⟨rfl, by simp [Value.oneCell']⟩
theorem kp_at {w : World} {X : List Nat} {l : List (Int × Int)} {a : Option Addr} {len cap : Nat} (h : SlR kpK w X l a len cap) (k : Nat) (hk : k < len) :
    ∃ b o x, a = some ⟨b, o, none⟩ ∧ l[k]? = some x ∧ I64 x.1 ∧ I64 x.2 ∧ w.cell? ⟨b, o + k * 2, none⟩ = some (.int .i64 x.1) ∧ w.cell? ⟨b, o + k * 2 + 1, none⟩ = some (.int .i64 x.2) := by
  obtain ⟨b, o, f, cs, ha, hb, hX, hf, ⟨rfl, h1, h2⟩, -, hc⟩ := h.at k hk
  exact ⟨b, o, f, ha, hf, h1, h2, hc 0 _ rfl, hc 1 _ rfl⟩
def keepAt (l : List (Int × Int)) (i : Nat) : Int × Int := (l[i]?).getD (0, -1)
def crashFs (l : List (Int × Int)) (fs : List Fi) : List Fi := fs.mapIdx (fun i f => crashF (keepAt l i).1 (keepAt l i).2 f)
def crashS (s : St) (l : List (Int × Int)) : St := { s with off := false, armed := false, used := (sumD (crashFs l s.fs) : Nat), fs := crashFs l s.fs }
theorem crashFs_at (l : List (Int × Int)) (fs : List Fi) (i : Nat) : (crashFs l fs)[i]? = (fs[i]?).map (fun f => crashF (keepAt l i).1 (keepAt l i).2 f) := by unfold crashFs; rw [List.getElem?_mapIdx]
theorem crashFs_len (l : List (Int × Int)) (fs : List Fi) : (crashFs l fs).length = fs.length := by unfold crashFs; rw [List.length_mapIdx]
theorem crashFs_names (l : List (Int × Int)) (fs : List Fi) : (crashFs l fs).map (fun f => f.name) = fs.map (fun f => f.name) := by
  refine List.ext_getElem? (fun i => ?_)
  rw [List.getElem?_map, List.getElem?_map, crashFs_at]
  cases fs[i]? <;> rfl
theorem crashFs_blks (l : List (Int × Int)) (fs : List Fi) : (crashFs l fs).map (fun f => f.blk) = fs.map (fun f => f.blk) := by
  refine List.ext_getElem? (fun i => ?_)
  rw [List.getElem?_map, List.getElem?_map, crashFs_at]
  cases fs[i]? <;> rfl
theorem crashFs_map (l : List (Int × Int)) (fs : List Fi) : (crashFs l fs).map (fun f => (Lit.string f.name, litB f.blk)) = fs.map (fun f => (Lit.string f.name, litB f.blk)) := by
  refine List.ext_getElem? (fun i => ?_)
  rw [List.getElem?_map, List.getElem?_map, crashFs_at]
  cases fs[i]? <;> rfl
theorem mem_crashFs {l : List (Int × Int)} {fs : List Fi} {g : Fi} (h : g ∈ crashFs l fs) : ∃ (i : Nat) (f : Fi), fs[i]? = some f ∧ g = crashF (keepAt l i).1 (keepAt l i).2 f := by
  obtain ⟨i, hi⟩ := List.getElem?_of_mem h
  rw [crashFs_at] at hi
  cases hf : fs[i]? with
  | none => rw [hf] at hi; cases hi
  | some f => rw [hf] at hi; injection hi with hi; exact ⟨i, f, hf, hi.symm⟩
theorem crashF_size (b c : Int) {f : Fi} (h : f.safe ≤ f.data.size) : (crashF b c f).data.size = keptN f b := by
  show (crashL f b c).toArray.size = _
  rw [List.size_toArray, crashL_len f b c h]
theorem sumD_mapIdx_le : ∀ (fs : List Fi) (g : Nat → Fi → Fi), (∀ i f, f ∈ fs → (g i f).data.size ≤ f.data.size) → sumD (fs.mapIdx g) ≤ sumD fs
  | [], _, _ => Nat.le_refl _
  | f :: t, g, h => by
    rw [List.mapIdx_cons, sumD_cons, sumD_cons]
    have h1 := h 0 f (List.mem_cons_self ..)
    have h2 := sumD_mapIdx_le t (fun i => g (i + 1)) (fun i x hx => h (i + 1) x (List.mem_cons_of_mem _ hx))
    omega
theorem crash_sum_le {l : List (Int × Int)} {fs : List Fi} (h : ∀ f ∈ fs, f.safe ≤ f.data.size) : sumD (crashFs l fs) ≤ sumD fs :=
  sumD_mapIdx_le fs _ (fun i f hf => by rw [crashF_size _ _ (h f hf)]; exact keptN_le _ (h f hf))
theorem up_names {fs : List Fi} : UpF fs ↔ (fs.map (fun f => f.name)).Pairwise (fun x y => x < y) := by unfold UpF; rw [List.pairwise_map]
theorem StOk.crash {s : St} (ok : StOk s) (l : List (Int × Int)) : StOk (crashS s l) := by
  have hsf : ∀ f ∈ s.fs, f.safe ≤ f.data.size := fun f hf => (ok.siz f hf).2
  refine ⟨?_, ?_, fun g hg => ?_, fun g hg => ?_, rfl, ⟨ok.rm.1, ok.rm.2.1, ?_⟩, ok.lf, ok.wr⟩
  · show ((crashFs l s.fs).map _).Nodup
    rw [crashFs_blks]; exact ok.one
  · show UpF (crashFs l s.fs)
    rw [up_names, crashFs_names, ← up_names]; exact ok.up
  · obtain ⟨i, f, hf, rfl⟩ := mem_crashFs hg
    exact ok.nam f (List.mem_of_getElem? hf)
  · obtain ⟨i, f, hf, rfl⟩ := mem_crashFs hg
    have hm := List.mem_of_getElem? hf
    rw [crashF_size _ _ (hsf f hm)]
    have := keptN_le (f := f) (keepAt l i).1 (hsf f hm)
    have h2 := (ok.siz f hm).1
    exact ⟨by omega, Nat.le_refl _⟩
  · show ((sumD (crashFs l s.fs) : Nat) : Int) ≤ s.room
    have h1 := crash_sum_le (l := l) hsf
    have h2 := ok.rm.2.2
    have h3 := ok.use
    omega
theorem sumD_take {fs : List Fi} {k : Nat} {f : Fi} (h : fs[k]? = some f) : sumD (fs.take (k + 1)) = sumD (fs.take k) + f.data.size := by
  obtain ⟨hk, he⟩ := List.getElem?_eq_some_iff.1 h
  rw [← he, ← List.take_append_getElem hk]
  unfold sumD
  rw [List.map_append, List.sum_append]
  simp
theorem sumD_take_le (fs : List Fi) (k : Nat) : sumD (fs.take k) ≤ sumD fs := by
  conv => rhs; rw [← List.take_append_drop k fs]
  unfold sumD
  rw [List.map_append, List.sum_append]; omega
/-- Where Crash stands: k files are done. -/
structure CrSt (w wr : World) (p : Nat) (s : St) (l : List (Int × Int)) (k : Nat) : Prop where
  fr : Fr (dks p s) w wr
  ptr : Mem.Blk wr p 64 (dkC { s with off := false, armed := false, used := (sumD ((crashFs l s.fs).take k) : Nat) })
  map : ∃ D, wr.ownsMap Try.prog 9 ptrR s.mb s.mn D ∧ MapOf s.fs D
  done : ∀ (i : Nat) f, i < k → (crashFs l s.fs)[i]? = some f → Mem.Blk wr f.blk 69 (flC f)
  left : ∀ (i : Nat) f, k ≤ i → s.fs[i]? = some f → Mem.Blk wr f.blk 69 (flC f)
section
variable {w wr wr' : World} {p : Nat} {s : St} {l : List (Int × Int)} {k : Nat}
theorem CrSt.below (h : CrSt w wr p s l k) (b : Below wr.heap.size wr wr') : CrSt w wr' p s l k := by
  refine ⟨h.fr.trans (Fr.of_below b _), h.ptr.below b, ?_, fun i f hi hf => (h.done i f hi hf).below b, fun i f hi hf => (h.left i f hi hf).below b⟩
  obtain ⟨D, h1, h2⟩ := h.map
  exact ⟨D, (Fr.of_below b []).map h1 (by simp), h2⟩
/-- The k-th file's crash, and its bytes counted. -/
theorem CrSt.next {w1 : World} {f : Fi} (hD : DkAt w p s) (h : CrSt w wr p s l k) (hf : s.fs[k]? = some f) (k1 : Fr [f.blk] wr w1) (hb : Mem.Blk w1 f.blk 69 (flC (crashF (keepAt l k).1 (keepAt l k).2 f))) :
    Mem.Blk w1 p 64 (dkC { s with off := false, armed := false, used := (sumD ((crashFs l s.fs).take k) : Nat) }) ∧
    CrSt w (w1.setCell ⟨p, 2, none⟩ (.int .i64 (sumD ((crashFs l s.fs).take (k + 1)) : Nat))).drew p s l (k + 1) := by
  have hfm := List.mem_of_getElem? hf
  have hp1 : f.blk ≠ p := hD.fp hfm
  have hp := k1.blk h.ptr (by simpa using hp1.symm)
  have k2 : Fr [p] w1 (w1.setCell ⟨p, 2, none⟩ (.int .i64 (sumD ((crashFs l s.fs).take (k + 1)) : Nat))).drew := (Fr.setCell w1 (by simp) _).trans (Fr.drew _ _)
  have hother : ∀ (i : Nat) g, i ≠ k → s.fs[i]? = some g → g.blk ≠ f.blk := by
    intro i g hi hg e
    have := blk_inj hD.ok.one (List.mem_of_getElem? hg) hfm e
    subst this
    have hup := hD.ok.up
    obtain ⟨h1, e1⟩ := List.getElem?_eq_some_iff.1 hg
    obtain ⟨h2, e2⟩ := List.getElem?_eq_some_iff.1 hf
    unfold UpF at hup
    rcases Nat.lt_or_gt_of_ne hi with hlt | hlt
    · have := List.pairwise_iff_getElem.1 hup i k h1 h2 hlt
      rw [e1, e2] at this
      exact List.lt_irrefl _ this
    · have := List.pairwise_iff_getElem.1 hup k i h2 h1 hlt
      rw [e1, e2] at this
      exact List.lt_irrefl _ this
  refine ⟨hp, ⟨h.fr.trans ((k1.more (fun g hg => ?_)).trans (k2.more (fun g hg => ?_))), hp.set_ 2 _, ?_, fun i g hi hg => ?_, fun i g hi hg => ?_⟩⟩
  · rw [List.mem_singleton] at hg; subst hg
    exact List.mem_cons_of_mem _ (List.mem_cons_of_mem _ (List.mem_map.2 ⟨f, hfm, rfl⟩))
  · rw [List.mem_singleton] at hg; subst hg
    exact List.mem_cons_self ..
  · obtain ⟨D, h1, h2⟩ := h.map
    exact ⟨D, k2.map (k1.map h1 (by simpa using fun e => hD.fm hfm e.symm)) (by simpa using hD.mp), h2⟩
  · by_cases e : i = k
    · subst e
      have hg2 := crashFs_at l s.fs i
      rw [hg, hf] at hg2
      injection hg2 with hg2
      subst hg2
      exact k2.blk hb (by show f.blk ∉ [p]; simpa using hp1)
    · have hg2 := crashFs_at l s.fs i
      rw [hg] at hg2
      cases hx : s.fs[i]? with
      | none => rw [hx] at hg2; cases hg2
      | some x =>
        rw [hx] at hg2
        injection hg2 with hg2
        have hb1 := hother i x e hx
        have hb2 := hD.fp (List.mem_of_getElem? hx)
        have he : g.blk = x.blk := by rw [hg2]; rfl
        exact k2.blk (k1.blk (h.done i g (by omega) hg) (by rw [he]; simpa using hb1)) (by rw [he]; simpa using hb2)
  · exact k2.blk (k1.blk (h.left i g (by omega) hg) (by simpa using hother i g (by omega) hg)) (by simpa using hD.fp (List.mem_of_getElem? hg))
theorem CrSt.fin (hD : DkAt w p s) (h : CrSt w wr p s l s.fs.length) : DkAt wr p (crashS s l) ∧ DkStep p s (crashS s l) w wr := by
  have ht : (crashFs l s.fs).take s.fs.length = crashFs l s.fs := List.take_of_length_le (by rw [crashFs_len]; exact Nat.le_refl _)
  have hp := h.ptr
  rw [ht] at hp
  refine ⟨⟨hp, ?_, fun g hg => ?_, hD.ok.crash l⟩, h.fr, fun g hg => .inl ?_⟩
  · obtain ⟨D, h1, es, he, hpm⟩ := h.map
    exact ⟨D, h1, es, he, by rw [show (crashS s l).fs = crashFs l s.fs from rfl, crashFs_map]; exact hpm⟩
  · obtain ⟨i, hi⟩ := List.getElem?_of_mem (show g ∈ crashFs l s.fs from hg)
    exact h.done i g (by rw [← crashFs_len l s.fs]; exact (List.getElem?_eq_some_iff.1 hi).1) hi
  · unfold dks at hg ⊢
    rw [show (crashS s l).fs = crashFs l s.fs from rfl, crashFs_blks] at hg
    exact hg
end
end Go.Proofs.Ytefpjdgfcgjbaaa

/- The walk of Crash. -/
namespace Go.Proofs.Ytefpjdgfcgjbaaa
set_option linter.unusedVariables false
set_option linter.unusedSimpArgs false
open Go.RowKit
theorem cell_upA {w : World} {a : Addr} {v : Value} (h : w.cell? a = some v) (o : Obj) : (w.alloc o).cell? a = some v := by
  have hlt : a.block < w.heap.size := by
    rcases Nat.lt_or_ge a.block w.heap.size with h1 | h1
    · exact h1
    · have : w.heap[a.block]? = none := Array.getElem?_eq_none h1
      simp [World.cell?, this] at h
  rw [World.cell?_of_block (w := w) (Below.heap_alloc w o a.block hlt)]; exact h
set_option maxRecDepth 100000 in
set_option maxHeartbeats 4000000 in
theorem crash_any (p : Nat) (s : St) (l : List (Int × Int)) (la : Option Addr) (ll lc : Nat) (w : World) (hD : DkAt w p s) (hl : SlR kpK w (dks p s) l la ll lc) (hn : s.fs.length ≤ 1000000) :
    Calls Try.prog 13 #[.pointer (some ⟨p, 0, none⟩), .slice la ll lc] w fun x w' => x = .returned (.tuple #[]) ∧ DkAt w' p (crashS s l) ∧ DkStep p s (crashS s l) w w' := by
  have HD := Lib.hid hD
  have HL := Lib.hid hl
  obtain ⟨c0, c1, c2, c3, c4, c5, c6, c7⟩ := dk8 hD.ptr
  obtain ⟨f0, f1, f2, f3, f4, f5, f6, f7⟩ := dkF hD.ptr
  have k1 : Fr [p] w (((w.setCell ⟨p, 5, none⟩ (.bool false)).setCell ⟨p, 6, none⟩ (.bool false)).setCell ⟨p, 2, none⟩ (.int .i64 0)) := ((Fr.setCell w (by simp) _).trans (Fr.setCell _ (by simp) _)).trans (Fr.setCell _ (by simp) _)
  have hp1 := (((hD.ptr.set_ 5 (.bool false)).set_ 6 (.bool false)).set_ 2 (.int .i64 0))
  have HC0 : Hid (CrSt w (((w.setCell ⟨p, 5, none⟩ (.bool false)).setCell ⟨p, 6, none⟩ (.bool false)).setCell ⟨p, 2, none⟩ (.int .i64 0)) p s l 0) := by
    refine ⟨k1.more (fun g hg => by rw [List.mem_singleton] at hg; subst hg; exact List.mem_cons_self ..), hp1, ?_, fun i f hi _ => absurd hi (by omega), fun i f _ hf => k1.blk (hD.fil f (List.mem_of_getElem? hf)) (by simpa using hD.fp (List.mem_of_getElem? hf))⟩
    obtain ⟨D, h1, h2⟩ := hD.map
    exact ⟨D, k1.map h1 (by simpa using hD.mp), h2⟩
  have hfs2 := hp1.frozen
  clear hD hl k1 hp1
  have HN := Lib.hid hn
  clear hn
  go_enter Try.func13, Try.ntmps13
  go_upto_region 3 with (fail)
  generalize ((w.setCell ⟨p, 5, none⟩ (.bool false)).setCell ⟨p, 6, none⟩ (.bool false)).setCell ⟨p, 2, none⟩ (.int .i64 0) = w1 at *
  have HNM := Lib.hid (names_raw p s.mb s.mn s.fs (dks p s) w1 (HC0.out.ptr.cell 1) HC0.out.map HD.out.ok.up (fun g hg => Nat.lt_of_lt_of_le (HD.out.lt g hg) HC0.out.fr.size) HN.out)
  clear c0 c1 c2 c3 c4 c5 c6 c7 f0 f1 f2 f3 f4 f5 f6 f7 hfs2
  go_wp2_with fail
  go_at_call 15
  (with_reducible refine HNM.out.mono ?_)
  rintro x w2 ⟨⟨na, nc, rfl, hns⟩, b2⟩
  have HC2 := Lib.hid (HC0.out.below b2)
  have HNS := Lib.hid hns
  have HC0X := HC2
  clear hns b2 HC0 HNM
  obtain ⟨n, hn⟩ : ∃ n, n = s.fs.length := ⟨_, rfl⟩
  have HNN := Lib.hid hn
  rw [← hn] at HNS ⊢
  clear hn
  go_wp2_with fail
  go_loopw [22] (fun i wr => ∃ (k : Nat), i = .int .i64 (k : Nat) ∧ k ≤ n ∧ Hid (CrSt w wr p s l k ∧ Fr (dks p s) w2 wr)) (fun i _ => n - (intOf i).toNat)
  case atStart => exact ⟨0, rfl, Nat.zero_le _, HC2.out, Fr.refl _ _⟩
  case round =>
    obtain ⟨k, rfl, hk, HR⟩ := hrel
    by_cases hlt : k < n
    · have hlt' : (k : Int) < (n : Int) := by omega
      have i0 : (0 : Int) ≤ (k : Int) := by omega
      have i1 : (k : Int) ≤ 1000000 := by have := HN.out; have := HNN.out; omega
      obtain ⟨f, hf⟩ : ∃ f, s.fs[k]? = some f := ⟨_, List.getElem?_eq_getElem (by rw [← HNN.out]; exact hlt)⟩
      have HF := Lib.hid hf
      obtain ⟨nb, no, t, rfl, ht, u0⟩ := str_at (HNS.out.kept HR.out.2.kept) k hlt
      obtain rfl : t = f.name := by
        rw [List.getElem?_map, hf] at ht
        injection ht with ht; exact ht.symm
      clear ht
      have hal := (Below.refl wr.heap.size wr).alloc (Nat.le_refl _) (.cells #[.int .i64 0, .int .i64 (-1)] 23)
      have BZ := Lib.hid (Mem.Blk.new wr 23 #[.int .i64 0, .int .i64 (-1)])
      by_cases hkl : k < ll
      · have hkl' : (k : Int) < (ll : Int) := by omega
        obtain ⟨lb, lo, kp, rfl, hkp, hi1, hi2, v0, v1⟩ := kp_at ((HL.out.kept HC0X.out.fr.kept).kept HR.out.2.kept) k hkl
        have HKA : Hid (keepAt l k = (kp.1, kp.2)) := by
          show keepAt l k = _
          unfold keepAt
          rw [hkp]; rfl
        have HIB : Hid (I64 kp.1 ∧ I64 kp.2) := ⟨hi1, hi2⟩
        have HB5 := Lib.hid ((hal.setCell (p := ⟨wr.heap.size, 0, none⟩) (Nat.le_refl _) (.int .i64 kp.1)).setCell (p := ⟨wr.heap.size, 1, none⟩) (Nat.le_refl _) (.int .i64 kp.2))
        have BZ0 := BZ
        obtain ⟨q0, q1, q2, q3⟩ := BZ0.out.two
        have BZ := Lib.hid ((BZ0.out.set_ 0 (.int .i64 kp.1)).set_ 1 (.int .i64 kp.2))
        replace v0 := cell_upA v0 (.cells #[.int .i64 0, .int .i64 (-1)] 23)
        replace v1 := cell_upA v1 (.cells #[.int .i64 0, .int .i64 (-1)] 23)
        clear hal hkp hi1 hi2
        go_upto_region 7 with (fail)
        have hlp : Hid (wr.heap.size = wr.heap.size) := rfl
        generalize hw4 : wr.alloc (.cells #[.int .i64 0, .int .i64 (-1)] 23) = w4 at *
        go_upto_region 9 with (fail)
        clear hw4 q0 q1 q2 q3 v0 v1 BZ0
        have HC5 := Lib.hid (HR.out.1.below HB5.out)
        have HF5 := Lib.hid (HR.out.2.trans (Fr.of_below HB5.out (dks p s)))
        generalize ((w4.setCell ⟨wr.heap.size, 0, none⟩ (.int .i64 kp.1)).setCell ⟨wr.heap.size, 1, none⟩ (.int .i64 kp.2)) = w5 at *
        generalize wr.heap.size = zk at *
        have hlo := look0_map HC5.out.map HD.out.ok.up ⟨f.name.toArray⟩ (by
          have := (HD.out.ok.nam f (List.mem_of_getElem? HF.out)).2
          show f.name.toArray.size ≤ maxLen
          rw [List.size_toArray]; unfold maxLen; omega)
        have hff : findF s.fs (⟨f.name.toArray⟩ : ByteArray).data.toList = some f := by
          show findF s.fs f.name.toArray.toList = _
          rw [List.toList_toArray]
          exact findF_of HD.out.ok.up (List.mem_of_getElem? HF.out)
        rw [hff] at hlo
        simp only [ptrV] at hlo
        have c1 : w5.cell? ⟨p, 1, none⟩ = some (.map (some s.mb)) := HC5.out.ptr.cell 1
        obtain ⟨z0, z1, -, -⟩ := BZ.out.two
        have HFC := Lib.hid (fcrash_any f kp.1 kp.2 w5 (HC5.out.left k f (Nat.le_refl _) HF.out) (HD.out.ok.siz f (List.mem_of_getElem? HF.out)) HIB.out.1)
        clear hff u0 HR HB5
        go_wp2_with fail
        go_at_call 35
        (with_reducible refine HFC.out.mono ?_)
        rintro x w6 ⟨rfl, hfr6, hb6⟩
        have hka := HKA.out
        have hnx := HC5.out.next HD.out HF.out hfr6 (by rw [hka]; exact hb6)
        have hst := sumD_take (crashFs_at l s.fs k ▸ (by rw [HF.out]; rfl) : (crashFs l s.fs)[k]? = some (crashF (keepAt l k).1 (keepAt l k).2 f))
        rw [hka] at hst
        dsimp only at hst
        have HNX := Lib.hid hnx.2
        have HF6 := Lib.hid (HF5.out.trans ((hfr6.more (X' := dks p s) (fun g hg => by rw [List.mem_singleton] at hg; subst hg; exact List.mem_cons_of_mem _ (List.mem_cons_of_mem _ (List.mem_map.2 ⟨f, List.mem_of_getElem? HF.out, rfl⟩)))).trans ((Fr.setCell w6 (X := dks p s) (p := ⟨p, 2, none⟩) (List.mem_cons_self ..) (.int .i64 (sumD ((crashFs l s.fs).take (k + 1)) : Nat))).trans (Fr.drew _ _))))
        have y2 : w6.cell? ⟨p, 2, none⟩ = some (.int .i64 (sumD ((crashFs l s.fs).take k) : Nat)) := hnx.1.cell 2
        have y3 : w6.frozen? ⟨p, 2, none⟩ = false := hnx.1.frozen 2
        have y4 : w6.cell? ⟨f.blk, 0, none⟩ = some (.string (crashF kp.1 kp.2 f).data) := hb6.cell 0
        have hwr : IntKind.i64.wrap (((sumD ((crashFs l s.fs).take k) : Nat) : Int) + ((crashF kp.1 kp.2 f).data.size : Int)) = ((sumD ((crashFs l s.fs).take (k + 1)) : Nat) : Int) := by
          have h1 := sumD_take_le (crashFs l s.fs) (k + 1)
          have h2 := crash_sum_le (l := l) (fun f hf => (HD.out.ok.siz f hf).2)
          have h3 := HD.out.ok.use
          have h4 := HD.out.ok.rm
          rw [hst]
          rw [hst] at h1
          rw [IntWalk.i64_in _ (by omega)]; push_cast; rfl
        clear hnx hst hka hfr6 hb6 HFC HC5 HF5 hlo c1 z0 z1 BZ HKA HIB
        generalize sumD ((crashFs l s.fs).take k) = q0 at *
        generalize sumD ((crashFs l s.fs).take (k + 1)) = q1 at *
        generalize (crashF kp.1 kp.2 f).data = cd at *
        go_upto_region 11 with (fail)
        go_still_tail 12, (by kernel_rfl)
        change wpList _ _ _ _ _ w6.drew
        go_wp2_with fail
        go_roundw
        case rel => exact ⟨k + 1, by go_num, by omega, HNX.out, HF6.out⟩
        case measure => simp [intOf]; omega
      · have hkl' : ¬ (k : Int) < (ll : Int) := by omega
        have HKA : Hid (keepAt l k = (0, -1)) := by
          show keepAt l k = _
          unfold keepAt
          rw [List.getElem?_eq_none (by rw [HL.out.facts.1]; omega)]; rfl
        have HIB : Hid (I64 0 ∧ I64 (-1)) := ⟨by unfold I64; omega, by unfold I64; omega⟩
        have HB5 := Lib.hid hal
        clear hal
        go_upto_region 9 with (fail)
        have HC5 := Lib.hid (HR.out.1.below HB5.out)
        have HF5 := Lib.hid (HR.out.2.trans (Fr.of_below HB5.out (dks p s)))
        generalize (wr.alloc (.cells #[.int .i64 0, .int .i64 (-1)] 23)) = w5 at *
        generalize wr.heap.size = zk at *
        have hlo := look0_map HC5.out.map HD.out.ok.up ⟨f.name.toArray⟩ (by
          have := (HD.out.ok.nam f (List.mem_of_getElem? HF.out)).2
          show f.name.toArray.size ≤ maxLen
          rw [List.size_toArray]; unfold maxLen; omega)
        have hff : findF s.fs (⟨f.name.toArray⟩ : ByteArray).data.toList = some f := by
          show findF s.fs f.name.toArray.toList = _
          rw [List.toList_toArray]
          exact findF_of HD.out.ok.up (List.mem_of_getElem? HF.out)
        rw [hff] at hlo
        simp only [ptrV] at hlo
        have c1 : w5.cell? ⟨p, 1, none⟩ = some (.map (some s.mb)) := HC5.out.ptr.cell 1
        obtain ⟨z0, z1, -, -⟩ := BZ.out.two
        have HFC := Lib.hid (fcrash_any f 0 (-1) w5 (HC5.out.left k f (Nat.le_refl _) HF.out) (HD.out.ok.siz f (List.mem_of_getElem? HF.out)) HIB.out.1)
        clear hff u0 HR HB5
        go_wp2_with fail
        go_at_call 35
        (with_reducible refine HFC.out.mono ?_)
        rintro x w6 ⟨rfl, hfr6, hb6⟩
        have hka := HKA.out
        have hnx := HC5.out.next HD.out HF.out hfr6 (by rw [hka]; exact hb6)
        have hst := sumD_take (crashFs_at l s.fs k ▸ (by rw [HF.out]; rfl) : (crashFs l s.fs)[k]? = some (crashF (keepAt l k).1 (keepAt l k).2 f))
        rw [hka] at hst
        dsimp only at hst
        have HNX := Lib.hid hnx.2
        have HF6 := Lib.hid (HF5.out.trans ((hfr6.more (X' := dks p s) (fun g hg => by rw [List.mem_singleton] at hg; subst hg; exact List.mem_cons_of_mem _ (List.mem_cons_of_mem _ (List.mem_map.2 ⟨f, List.mem_of_getElem? HF.out, rfl⟩)))).trans ((Fr.setCell w6 (X := dks p s) (p := ⟨p, 2, none⟩) (List.mem_cons_self ..) (.int .i64 (sumD ((crashFs l s.fs).take (k + 1)) : Nat))).trans (Fr.drew _ _))))
        have y2 : w6.cell? ⟨p, 2, none⟩ = some (.int .i64 (sumD ((crashFs l s.fs).take k) : Nat)) := hnx.1.cell 2
        have y3 : w6.frozen? ⟨p, 2, none⟩ = false := hnx.1.frozen 2
        have y4 : w6.cell? ⟨f.blk, 0, none⟩ = some (.string (crashF 0 (-1) f).data) := hb6.cell 0
        have hwr : IntKind.i64.wrap (((sumD ((crashFs l s.fs).take k) : Nat) : Int) + ((crashF 0 (-1) f).data.size : Int)) = ((sumD ((crashFs l s.fs).take (k + 1)) : Nat) : Int) := by
          have h1 := sumD_take_le (crashFs l s.fs) (k + 1)
          have h2 := crash_sum_le (l := l) (fun f hf => (HD.out.ok.siz f hf).2)
          have h3 := HD.out.ok.use
          have h4 := HD.out.ok.rm
          rw [hst]
          rw [hst] at h1
          rw [IntWalk.i64_in _ (by omega)]; push_cast; rfl
        clear hnx hst hka hfr6 hb6 HFC HC5 HF5 hlo c1 z0 z1 BZ HKA HIB
        generalize sumD ((crashFs l s.fs).take k) = q0 at *
        generalize sumD ((crashFs l s.fs).take (k + 1)) = q1 at *
        generalize (crashF 0 (-1) f).data = cd at *
        go_upto_region 11 with (fail)
        go_still_tail 12, (by kernel_rfl)
        change wpList _ _ _ _ _ w6.drew
        go_wp2_with fail
        go_roundw
        case rel => exact ⟨k + 1, by go_num, by omega, HNX.out, HF6.out⟩
        case measure => simp [intOf]; omega
    · have hlt' : ¬ (k : Int) < (n : Int) := by omega
      obtain rfl : k = n := by omega
      have FIN : Hid (DkAt wr p (crashS s l) ∧ DkStep p s (crashS s l) w wr) := CrSt.fin HD.out (by rw [← HNN.out]; exact HR.out.1)
      clear HR
      go_wp2_with fail
      go_end0
      exact ⟨rfl, FIN.out⟩
end Go.Proofs.Ytefpjdgfcgjbaaa

/- The contract of law05.awake: the document's examples. -/
namespace Go.Proofs.Ytefpjdgfcgjbaaa
set_option linter.unusedVariables false
set_option linter.unusedSimpArgs false
open Go.RowKit
/-- A disk of the call's own. -/
structure Ours (w W : World) (p : Nat) (s : St) : Prop where
  dk : DkAt W p s
  lo : ∀ g ∈ dks p s, w.heap.size ≤ g
  bel : Below w.heap.size w W
theorem Ours.step {w W W' : World} {p : Nat} {s s' : St} (h : Ours w W p s) (hd : DkAt W' p s') (hs : DkStep p s s' W W') : Ours w W' p s' :=
  ⟨hd, fun g hg => (hs.own g hg).elim (h.lo g) (fun h2 => Nat.le_trans h.bel.size h2), h.bel.trans (hs.fr.below h.bel.size h.lo)⟩
theorem Ours.below {w W W' : World} {p : Nat} {s : St} (h : Ours w W p s) (b : Below W.heap.size W W') : Ours w W' p s := ⟨h.dk.below b, h.lo, h.bel.trans (b.mono h.bel.size)⟩
/-- One keep in a new block. -/
theorem sl_keep (w : World) (x y : Int) (X : List Nat) (hX : ∀ b ∈ X, b < w.heap.size) (h1 : I64 x) (h2 : I64 y) : SlR kpK (w.alloc (.cells #[.int .i64 x, .int .i64 y] 23)) X [(x, y)] (some ⟨w.heap.size, 0, none⟩) 1 1 := by
  have BN := Mem.Blk.new w 23 #[.int .i64 x, .int .i64 y]
  have hmx : maxLen = 9223372036854775807 := by decide
  refine ⟨[[.int .i64 x, .int .i64 y]], rfl, fun i z cs hx hc => ?_, rfl, Nat.le_refl _, by omega, fun _ => ⟨w.heap.size, 0, rfl, BN.lt, fun hm => ?_, fun i cs hc => ?_⟩⟩
  · cases i with
    | zero => injection hx with hx; injection hc with hc; subst hx; subst hc; exact ⟨rfl, h1, h2⟩
    | succ i => cases hx
  · have := hX _ hm; omega
  · cases i with
    | zero =>
      injection hc with hc; subst hc
      refine ⟨rfl, fun j u hu => ?_⟩
      have := BN.cell j
      rw [Nat.zero_mul, Nat.add_zero, Nat.zero_add, this]
      rw [← hu]
      cases j with
      | zero => rfl
      | succ j => cases j <;> rfl
    | succ i => cases hc
def aS1 (mb b : Nat) : St := ⟨100, 2, 2, 1, 0, false, false, [⟨[97], ⟨#[120, 121]⟩, 0, b⟩], mb, 1⟩
def aS2 (mb b : Nat) : St := ⟨100, 2, 2, 2, 0, false, false, [⟨[97], ⟨#[120, 121]⟩, 2, b⟩], mb, 1⟩
def aS3 (mb b : Nat) : St := ⟨100, 3, 3, 3, 0, false, false, [⟨[97], ⟨#[120, 121, 122]⟩, 2, b⟩], mb, 2⟩
def aS4 (mb b : Nat) : St := ⟨100, 3, 3, 3, 0, false, false, [⟨[97], ⟨#[120, 121, 223]⟩, 3, b⟩], mb, 2⟩
theorem aw1 (mb b : Nat) : appendS b (newS 100 mb) [97] ⟨#[120, 121]⟩ = (0, aS1 mb b) := by rfl
theorem aw2 (mb b : Nat) : syncS (aS1 mb b) [97] = (0, aS2 mb b) := by rfl
theorem aw3 (mb b b' : Nat) : appendS b' (aS2 mb b) [97] ⟨#[122]⟩ = (0, aS3 mb b) := by rfl
theorem aw4 (mb b : Nat) : crashS (aS3 mb b) [(1, 0)] = aS4 mb b := by
  have e : crashF (keepAt [(1, 0)] 0).1 (keepAt [(1, 0)] 0).2 ⟨[97], ⟨#[120, 121, 122]⟩, 2, b⟩ = ⟨[97], ⟨#[120, 121, 223]⟩, 3, b⟩ := by
    have hL : crashL ⟨[97], ⟨#[120, 121, 122]⟩, 2, b⟩ 1 0 = [120, 121, 223] := by
      have e3 : (⟨[97], ⟨#[120, 121, 122]⟩, 2, b⟩ : Fi).data.data.toList.take (keptN ⟨[97], ⟨#[120, 121, 122]⟩, 2, b⟩ 1) = [120, 121, 122] := rfl
      unfold crashL
      rw [e3, List.mapIdx_cons, List.mapIdx_cons, List.mapIdx_cons, List.mapIdx_nil]
      rfl
    show (⟨_, ⟨(crashL ⟨[97], ⟨#[120, 121, 122]⟩, 2, b⟩ 1 0).toArray⟩, _, _⟩ : Fi) = _
    rw [hL]
    rfl
  unfold crashS crashFs aS3
  rw [List.mapIdx_cons, List.mapIdx_nil, e]
  rfl
theorem aw5 (mb b : Nat) : readS (aS4 mb b) [97] = (⟨#[120, 121, 223]⟩, 0) := by rfl
theorem aw6 (mb b : Nat) : safeS (aS4 mb b) [97] = 3 := by rfl
theorem aw_n (mb : Nat) : (newS 100 mb).calls ≤ 4611686018427387904 ∧ (newS 100 mb).written ≤ 4611686018427387904 ∧ (newS 100 mb).mn ≤ 1000000 := ⟨by show (0 : Int) ≤ 4611686018427387904; decide, by show (0 : Int) ≤ 4611686018427387904; decide, by show 0 ≤ 1000000; decide⟩
theorem aw_1 (mb b : Nat) : (aS1 mb b).calls ≤ 4611686018427387904 := by show (1 : Int) ≤ 4611686018427387904; decide
theorem aw_2 (mb b : Nat) : (aS2 mb b).calls ≤ 4611686018427387904 ∧ (aS2 mb b).written ≤ 4611686018427387904 ∧ (aS2 mb b).mn ≤ 1000000 := ⟨by show (2 : Int) ≤ 4611686018427387904; decide, by show (2 : Int) ≤ 4611686018427387904; decide, by show 1 ≤ 1000000; decide⟩
theorem aw_3 (mb b : Nat) : (aS3 mb b).fs.length ≤ 1000000 := by show 1 ≤ 1000000; decide
set_option maxRecDepth 100000 in
set_option maxHeartbeats 4000000 in
theorem awake05_any (w : World) : Calls Try.prog 9 #[] w fun x w' => x = .returned (.bool true) ∧ Below w.heap.size w w' := by
  go_enter Try.func9, Try.ntmps9
  go_wp2_with fail
  go_at_call 10
  (with_reducible refine (new_any 100 w (by omega)).mono ?_)
  rintro x w1 ⟨p, mb, rfl, hd, hlo, hbl⟩
  have H1 : Hid (Ours w w1 p (newS 100 mb)) := ⟨hd, hlo, hbl⟩
  clear hd hlo hbl
  go_wp2_with fail
  go_at_call 11
  (with_reducible refine (append_any p (newS 100 mb) _ _ w1 H1.out.dk (aw_n mb).1 (aw_n mb).2.1 (aw_n mb).2.2 (by decide) (by decide)).mono ?_)
  rintro x w2 ⟨b, rfl, hd, hs⟩
  have e : appendS b (newS 100 mb) (⟨#[97]⟩ : ByteArray).data.toList ⟨#[120, 121]⟩ = (0, aS1 mb b) := aw1 mb b
  rw [e] at hd hs ⊢
  have H2 : Hid (Ours w w2 p (aS1 mb b)) := H1.out.step hd hs
  clear hd hs e H1
  go_wp2_with fail
  go_at_call 12
  (with_reducible refine (sync_any p (aS1 mb b) _ w2 H2.out.dk (aw_1 mb b) (by decide)).mono ?_)
  rintro x w3 ⟨rfl, hd, hs⟩
  have e : syncS (aS1 mb b) (⟨#[97]⟩ : ByteArray).data.toList = (0, aS2 mb b) := aw2 mb b
  rw [e] at hd hs ⊢
  have H3 : Hid (Ours w w3 p (aS2 mb b)) := H2.out.step hd hs
  clear hd hs e H2
  go_wp2_with fail
  go_at_call 11
  (with_reducible refine (append_any p (aS2 mb b) _ _ w3 H3.out.dk (aw_2 mb b).1 (aw_2 mb b).2.1 (aw_2 mb b).2.2 (by decide) (by decide)).mono ?_)
  rintro x w4 ⟨b', rfl, hd, hs⟩
  have e : appendS b' (aS2 mb b) (⟨#[97]⟩ : ByteArray).data.toList ⟨#[122]⟩ = (0, aS3 mb b) := aw3 mb b b'
  rw [e] at hd hs ⊢
  have H4 : Hid (Ours w w4 p (aS3 mb b)) := H3.out.step hd hs
  clear hd hs e H3
  have hal := (Below.refl w4.heap.size w4).alloc (Nat.le_refl _) (.cells #[.int .i64 1, .int .i64 0] 23)
  have H5 := Lib.hid (H4.out.below hal)
  have HK5 := Lib.hid (sl_keep w4 1 0 (dks p (aS3 mb b)) H4.out.dk.lt (by unfold I64; omega) (by unfold I64; omega))
  clear hal H4
  go_wp2_with fail
  go_at_call 13
  (with_reducible refine (crash_any p (aS3 mb b) [(1, 0)] _ 1 1 _ H5.out.dk HK5.out (aw_3 mb b)).mono ?_)
  rintro x w6 ⟨rfl, hd, hs⟩
  rw [aw4] at hd hs
  have H6 : Hid (Ours w w6 p (aS4 mb b)) := H5.out.step hd hs
  clear hd hs H5 HK5
  go_wp2_with fail
  go_at_call 14
  (with_reducible refine (read_any p (aS4 mb b) _ w6 H6.out.dk (by decide)).mono ?_)
  rintro x w7 ⟨rfl, hw⟩
  subst hw
  have e : readS (aS4 mb b) (⟨#[97]⟩ : ByteArray).data.toList = (⟨#[120, 121, 223]⟩, 0) := aw5 mb b
  rw [e]
  clear e
  go_wp2_with fail
  go_at_call 32
  (with_reducible refine (safe_any p (aS4 mb b) w7 _ H6.out.dk (by decide)).mono ?_)
  rintro x w8 ⟨rfl, b8⟩
  have e : safeS (aS4 mb b) (⟨#[97]⟩ : ByteArray).data.toList = 3 := aw6 mb b
  rw [e]
  have H8 := Lib.hid (H6.out.below b8)
  clear e b8 H6
  go_wp2_with fail
  go_at_call 16
  (with_reducible refine (used_any p (aS4 mb b) w8 H8.out.dk).mono ?_)
  rintro x w9 ⟨rfl, b9⟩
  have H9 := Lib.hid (H8.out.below b9)
  clear b9 H8
  rw [show (aS4 mb b).used = 3 from rfl]
  go_wp2_with fail
  go_ret
  exact ⟨rfl, H9.out.bel⟩
end Go.Proofs.Ytefpjdgfcgjbaaa

/- The contracts of the operations where there is no disk. -/
namespace Go.Proofs.Ytefpjdgfcgjbaaa
set_option linter.unusedVariables false
set_option linter.unusedSimpArgs false
open Go.RowKit
section
variable (w : World)
set_option maxHeartbeats 1000000
theorem used_nil : Calls Try.prog 16 #[.pointer none] w fun x w' => x = .returned (.int .i64 0) ∧ Below w.heap.size w w' := by
  go_enter Try.func16, Try.ntmps16
  go_wp2_with fail
  go_ret
  exact ⟨rfl, Below.refl _ _⟩
theorem written_nil : Calls Try.prog 30 #[.pointer none] w fun x w' => x = .returned (.int .i64 0) ∧ Below w.heap.size w w' := by
  go_enter Try.func30, Try.ntmps30
  go_wp2_with fail
  go_ret
  exact ⟨rfl, Below.refl _ _⟩
theorem calls_nil : Calls Try.prog 31 #[.pointer none] w fun x w' => x = .returned (.int .i64 0) ∧ Below w.heap.size w w' := by
  go_enter Try.func31, Try.ntmps31
  go_wp2_with fail
  go_ret
  exact ⟨rfl, Below.refl _ _⟩
theorem free_nil : Calls Try.prog 29 #[.pointer none] w fun x w' => x = .returned (.int .i64 0) ∧ Below w.heap.size w w' := by
  go_enter Try.func29, Try.ntmps29
  go_wp2_with fail
  go_ret
  exact ⟨rfl, Below.refl _ _⟩
theorem on_nil : Calls Try.prog 21 #[.pointer none] w fun x w' => x = .returned (.bool false) ∧ Below w.heap.size w w' := by
  go_enter Try.func21, Try.ntmps21
  go_wp2_with fail
  go_ret
  exact ⟨rfl, Below.refl _ _⟩
theorem safe_nil (nm : ByteArray) : Calls Try.prog 32 #[.pointer none, .string nm] w fun x w' => x = .returned (.int .i64 0) ∧ Below w.heap.size w w' := by
  go_enter Try.func32, Try.ntmps32
  go_wp2_with fail
  go_ret
  exact ⟨rfl, Below.refl _ _⟩
theorem names_nil : Calls Try.prog 15 #[.pointer none] w fun x w' => x = .returned (.slice none 0 0) ∧ Below w.heap.size w w' := by
  go_enter Try.func15, Try.ntmps15
  go_wp2_with fail
  go_ret
  exact ⟨rfl, Below.refl _ _⟩
theorem read_nil (nm : ByteArray) : Calls Try.prog 14 #[.pointer none, .string nm] w fun x w' => x = .returned (.tuple #[.string ⟨#[]⟩, .int .i64 1]) ∧ Below w.heap.size w w' := by
  go_enter Try.func14, Try.ntmps14
  go_wp2_with fail
  go_ret2
  exact ⟨rfl, Below.refl _ _⟩
theorem arm_nil (n : Int) : Calls Try.prog 20 #[.pointer none, .int .i64 n] w fun x w' => x = .returned (.tuple #[]) ∧ Below w.heap.size w w' := by
  go_enter Try.func20, Try.ntmps20
  go_wp2_with fail
  go_end0
  exact ⟨rfl, Below.refl _ _⟩
theorem crash_nil_any (a : Option Addr) (n c : Nat) : Calls Try.prog 13 #[.pointer none, .slice a n c] w fun x w' => x = .returned (.tuple #[]) ∧ Below w.heap.size w w' := by
  go_enter Try.func13, Try.ntmps13
  go_wp2_with fail
  refine bodyPost_ret (v := .tuple #[]) (by simp [results, Try.results13, go_sem]) rfl ⟨rfl, Below.refl _ _⟩
theorem rot_nil (nm : ByteArray) (n b : Int) : Calls Try.prog 39 #[.pointer none, .string nm, .int .i64 n, .int .u32 b] w fun x w' => x = .returned (.bool false) ∧ Below w.heap.size w w' := by
  go_enter Try.func39, Try.ntmps39
  go_wp2_with fail
  go_ret
  exact ⟨rfl, Below.refl _ _⟩
theorem begin_nil (a : Option Addr) (n c : Nat) : Calls Try.prog 33 #[.pointer none, .slice a n c] w fun x w' => x = .returned (.int .i64 1) ∧ Below w.heap.size w w' := by
  go_enter Try.func33, Try.ntmps33
  go_wp2_with fail
  go_ret
  exact ⟨rfl, Below.refl _ _⟩
theorem append_nil (nm d : ByteArray) : Calls Try.prog 11 #[.pointer none, .string nm, .string d] w fun x w' => x = .returned (.int .i64 1) ∧ Below w.heap.size w w' := by
  have hal := Lib.hid ((Below.refl w.heap.size w).alloc (Nat.le_refl _) (.cells #[.string nm] 9))
  go_enter Try.func11, Try.ntmps11
  go_wp2_with fail
  go_at_call 33
  (with_reducible refine (begin_nil _ _ _ _).mono ?_)
  rintro x w1 ⟨rfl, b1⟩
  have HB := Lib.hid (hal.out.trans (b1.mono hal.out.size))
  clear b1 hal
  go_wp2_with fail
  go_ret
  exact ⟨rfl, HB.out⟩
set_option maxRecDepth 100000 in
set_option maxHeartbeats 2000000 in
theorem there_nil (nm : ByteArray) (more : List Nm) (ma : Option Addr) (ml mc : Nat) (hS : SlR strK w [] more ma ml mc) (hml : ml ≤ 100) :
    Calls Try.prog 34 #[.pointer none, .string nm, .slice ma ml mc] w fun x w' => x = .returned (.tuple #[.pointer none, .int .i64 1]) ∧ Below w.heap.size w w' := by
  have HLN := Lib.hid hS.facts.1
  have hal := (Below.refl w.heap.size w).alloc (Nat.le_refl _) (.cells #[.string nm] 9)
  have HSM := Lib.hid (hS.kept (Kept.of_below hal []))
  have hmx : (1 : Nat) ≤ maxLen := by decide
  have HO := Lib.hid (World.ownsRow_lit w (base := w.heap.size) (e := 9) (size := 1) #[.string nm] 1 (Nat.le_refl _) hmx rfl)
  have HB0 := Lib.hid hal
  clear hS hal hmx
  have HNW : Hid (0 < ml → ∃ ad : Addr, ma = some ad ∧ ∀ j u, (more.map encStr)[j]? = some u → (w.alloc (.cells #[.string nm] 9)).cell? (ad.add j) = some u) := by
    intro h0
    obtain ⟨b, o, t, ha, -⟩ := str_at HSM.out 0 h0
    subst ha
    exact ⟨_, rfl, fun j u hu => str_cells HSM.out j u hu⟩
  have HNL : Hid ((more.map encStr).length = ml * 1) := by show _ = _; rw [List.length_map, HLN.out, Nat.mul_one]
  go_enter Try.func34, Try.ntmps34
  go_wp2_with (at_builtin; refine ap_rowZ infoS Try.underlying36 rfl (by decide) rfl (.tmp 13) (.tmp 14) rfl rfl HO.out HB0.out.size ma ml _ (more.map encStr) rfl HNL.out HNW.out (enc_one _) (by unfold maxLen; omega) (by omega) ?_; intro v' w2 o' g' h'; have HO2 := Lib.hid o'; have HG : Hid ((w.alloc (.cells #[.string nm] 9)).grownBy w2 (Value.slice (some ⟨w.heap.size, 0, none⟩) 1 1).ownBlock) := g'; clear o' g' h')
  have hb2 := HB0.out.grown HG.out HB0.out.size (fun b hb => (own_lt HO.out hb).1)
  obtain ⟨a', c', rfl⟩ := own_slice HO2.out
  (with_reducible refine (begin_nil _ _ _ _).mono ?_)
  rintro x w3 ⟨rfl, b3⟩
  have HB3 := Lib.hid (hb2.trans (b3.mono hb2.size))
  clear hb2 b3 HG HO2 HO HB0 HNW HNL HSM HLN
  go_wp2_with fail
  go_ret2
  exact ⟨rfl, HB3.out⟩
theorem sync_nil (nm : ByteArray) : Calls Try.prog 12 #[.pointer none, .string nm] w fun x w' => x = .returned (.int .i64 1) ∧ Below w.heap.size w w' := by
  have HT := Lib.hid (there_nil w nm [] none 0 0 (SlR.nil _ _ _) (by omega))
  go_enter Try.func12, Try.ntmps12
  go_wp2_with fail
  go_at_call 34
  (with_reducible refine HT.out.mono ?_)
  rintro x w1 ⟨rfl, b1⟩
  have HB := Lib.hid b1
  clear b1 HT
  go_wp2_with fail
  go_ret
  exact ⟨rfl, HB.out⟩
theorem delete_nil (nm : ByteArray) : Calls Try.prog 17 #[.pointer none, .string nm] w fun x w' => x = .returned (.int .i64 1) ∧ Below w.heap.size w w' := by
  have HT := Lib.hid (there_nil w nm [] none 0 0 (SlR.nil _ _ _) (by omega))
  go_enter Try.func17, Try.ntmps17
  go_wp2_with fail
  go_at_call 34
  (with_reducible refine HT.out.mono ?_)
  rintro x w1 ⟨rfl, b1⟩
  have HB := Lib.hid b1
  clear b1 HT
  go_wp2_with fail
  go_ret
  exact ⟨rfl, HB.out⟩
theorem rename_nil (na nb : ByteArray) : Calls Try.prog 19 #[.pointer none, .string na, .string nb] w fun x w' => x = .returned (.int .i64 1) ∧ Below w.heap.size w w' := by
  have hal := Lib.hid ((Below.refl w.heap.size w).alloc (Nat.le_refl _) (.cells #[.string nb] 9))
  have HT := Lib.hid (there_nil (w.alloc (.cells #[.string nb] 9)) na [nb.data.toList] _ 1 1 (sl_one w nb [] (fun b hb => by cases hb)) (by omega))
  go_enter Try.func19, Try.ntmps19
  go_wp2_with fail
  go_at_call 34
  (with_reducible refine HT.out.mono ?_)
  rintro x w1 ⟨rfl, b1⟩
  have HB := Lib.hid (hal.out.trans (b1.mono hal.out.size))
  clear b1 HT hal
  go_wp2_with fail
  go_ret
  exact ⟨rfl, HB.out⟩
end
/-- What is done to a disk. -/
structure Ac where
  kind : Int
  name : ByteArray
  to_ : ByteArray
  data : ByteArray
  n : Int
  bits : Int
  keep : List (Int × Int)
  ka : Option Addr
  kl : Nat
  kc : Nat
def acC (c : Ac) : List Value := [.int .i64 c.kind, .string c.name, .string c.to_, .string c.data, .int .i64 c.n, .int .u32 c.bits, .slice c.ka c.kl c.kc]
structure AcOk (w : World) (X : List Nat) (c : Ac) : Prop where
  name : c.name.size ≤ maxLen
  to_ : c.to_.size ≤ maxLen
  data : c.data.size ≤ maxLen
  kind : I64 c.kind
  n : I64 c.n
  bits : 0 ≤ c.bits ∧ c.bits ≤ 4294967295
  keep : SlR kpK w X c.keep c.ka c.kl c.kc
def acK : Elt Ac where
  sz := 7
  pos := by decide
  R := fun w X c cs => cs = acC c ∧ AcOk w X c
  kept := fun h k => ⟨h.1, ⟨h.2.name, h.2.to_, h.2.data, h.2.kind, h.2.n, h.2.bits, h.2.keep.kept k⟩⟩
  less := fun h k => ⟨h.1, ⟨h.2.name, h.2.to_, h.2.data, h.2.kind, h.2.n, h.2.bits, h.2.keep.less k⟩⟩
  one := fun h => by obtain ⟨rfl, _⟩ := h; exact ⟨rfl, by simp [acC, Value.oneCell']⟩
def bigA (c : Ac) : Bool := decide (300 < c.data.size) || decide (300 < c.name.size) || decide (300 < c.to_.size)
end Go.Proofs.Ytefpjdgfcgjbaaa

/- The walks of great, of do where there is no disk, and of DiskNone. -/
namespace Go.Proofs.Ytefpjdgfcgjbaaa
set_option linter.unusedVariables false
set_option linter.unusedSimpArgs false
open Go.RowKit
theorem ac_at {w : World} {X : List Nat} {l : List Ac} {a : Option Addr} {len cap : Nat} (h : SlR acK w X l a len cap) (k : Nat) (hk : k < len) :
    ∃ b o c, a = some ⟨b, o, none⟩ ∧ l[k]? = some c ∧ AcOk w X c ∧ w.cell? ⟨b, o + k * 7, none⟩ = some (.int .i64 c.kind) ∧ w.cell? ⟨b, o + k * 7 + 1, none⟩ = some (.string c.name) ∧ w.cell? ⟨b, o + k * 7 + 2, none⟩ = some (.string c.to_) ∧ w.cell? ⟨b, o + k * 7 + 3, none⟩ = some (.string c.data) ∧ w.cell? ⟨b, o + k * 7 + 4, none⟩ = some (.int .i64 c.n) ∧ w.cell? ⟨b, o + k * 7 + 5, none⟩ = some (.int .u32 c.bits) ∧ w.cell? ⟨b, o + k * 7 + 6, none⟩ = some (.slice c.ka c.kl c.kc) := by
  obtain ⟨b, o, c, cs, ha, hb, hX, hf, ⟨rfl, h1⟩, -, hc⟩ := h.at k hk
  exact ⟨b, o, c, ha, hf, h1, hc 0 _ rfl, hc 1 _ rfl, hc 2 _ rfl, hc 3 _ rfl, hc 4 _ rfl, hc 5 _ rfl, hc 6 _ rfl⟩
def greatA (l : List Ac) : Bool := decide (60 < l.length) || l.any bigA
set_option maxRecDepth 100000 in
set_option maxHeartbeats 4000000 in
theorem great05_any (l : List Ac) (a : Option Addr) (len cap : Nat) (w : World) (h : SlR acK w [] l a len cap) :
    Calls Try.prog 22 #[.slice a len cap] w fun x w' => x = .returned (.bool (greatA l)) ∧ w' = w := by
  have HS := Lib.hid h
  have HL := Lib.hid h.facts.1
  obtain ⟨R, hR⟩ : ∃ R, R = greatA l := ⟨_, rfl⟩
  rw [← hR]
  have HR := Lib.hid hR
  clear h hR
  by_cases h60 : 60 < len
  · have h60' : (60 : Int) < (len : Int) := by omega
    obtain rfl : R = true := by rw [HR.out]; unfold greatA; rw [HL.out, decide_eq_true h60]; rfl
    clear HR
    go_enter Try.func22, Try.ntmps22
    go_wp2_with fail
    go_ret
    exact ⟨rfl, rfl⟩
  · have h60' : ¬ (60 : Int) < (len : Int) := by omega
    have HR2 : Hid (R = l.any bigA) := by show R = _; rw [HR.out]; unfold greatA; rw [HL.out, decide_eq_false h60]; rfl
    clear HR
    go_enter Try.func22, Try.ntmps22
    go_wp2_with fail
    go_loopw [3] (fun i wr => ∃ (k : Nat), i = .int .i64 (k : Nat) ∧ k ≤ len ∧ wr = w ∧ Hid (∀ j c, j < k → l[j]? = some c → bigA c = false)) (fun i _ => len - (intOf i).toNat)
    case atStart => exact ⟨0, rfl, Nat.zero_le _, rfl, fun j c hj => absurd hj (by omega)⟩
    case round =>
      obtain ⟨k, rfl, hk, rfl, HG⟩ := hrel
      by_cases hlt : k < len
      · have hlt' : (k : Int) < (len : Int) := by omega
        have i0 : (0 : Int) ≤ (k : Int) := by omega
        have i1 : (k : Int) ≤ 60 := by omega
        obtain ⟨b, o, c, rfl, hc, hok, -, u1, u2, u3, -⟩ := ac_at HS.out k hlt
        have HC := Lib.hid hc
        clear hc hok
        cases hb : bigA c with
        | true =>
          obtain rfl : R = true := by rw [HR2.out]; exact List.any_eq_true.2 ⟨c, List.mem_of_getElem? HC.out, hb⟩
          clear HR2 HG HC
          by_cases d1 : 300 < c.data.size
          · have e1 : (300 : Int) < (c.data.size : Int) := by omega
            clear hb
            go_wp2_with fail
            go_ret
            exact ⟨rfl, rfl⟩
          · have e1 : ¬ (300 : Int) < (c.data.size : Int) := by omega
            by_cases d2 : 300 < c.name.size
            · have e2 : (300 : Int) < (c.name.size : Int) := by omega
              clear hb
              go_wp2_with fail
              go_ret
              exact ⟨rfl, rfl⟩
            · have e2 : ¬ (300 : Int) < (c.name.size : Int) := by omega
              have e3 : (300 : Int) < (c.to_.size : Int) := by
                unfold bigA at hb
                rw [decide_eq_false d1, decide_eq_false d2] at hb
                simp at hb; omega
              clear hb
              go_wp2_with fail
              go_ret
              exact ⟨rfl, rfl⟩
        | false =>
          have hd : ¬ 300 < c.data.size ∧ ¬ 300 < c.name.size ∧ ¬ 300 < c.to_.size := by
            unfold bigA at hb
            simp only [Bool.or_eq_false_iff, decide_eq_false_iff_not] at hb
            exact ⟨hb.1.1, hb.1.2, hb.2⟩
          have e1 : ¬ (300 : Int) < (c.data.size : Int) := by omega
          have e2 : ¬ (300 : Int) < (c.name.size : Int) := by omega
          have e3 : ¬ (300 : Int) < (c.to_.size : Int) := by omega
          have HG2 : Hid (∀ j c, j < k + 1 → l[j]? = some c → bigA c = false) := by
            intro j c' hj hc'
            by_cases hjk : j < k
            · exact HG.out j c' hjk hc'
            · obtain rfl : j = k := by omega
              rw [HC.out] at hc'; injection hc' with hc'; subst hc'; exact hb
          clear hb hd HG HC HR2
          go_wp2_with fail
          go_roundw
          case rel => exact ⟨k + 1, by go_num, by omega, trivial, HG2.out⟩
          case measure => simp [intOf]; omega
      · have hlt' : ¬ (k : Int) < (len : Int) := by omega
        obtain rfl : R = false := by
          rw [HR2.out]
          refine List.any_eq_false.2 (fun c hc => ?_)
          obtain ⟨j, hj⟩ := List.getElem?_of_mem hc
          rw [HG.out j c (by have := (List.getElem?_eq_some_iff.1 hj).1; have := HL.out; omega) hj]; simp
        clear HR2 HG
        go_wp2_with fail
        go_ret
        exact ⟨rfl, rfl⟩
theorem blk7 {w : World} {g : Nat} {t : TypeId} {c : Ac} (h : Mem.Blk w g t (acC c).toArray) : w.cell? ⟨g, 0, none⟩ = some (.int .i64 c.kind) ∧ w.cell? ⟨g, 1, none⟩ = some (.string c.name) ∧ w.cell? ⟨g, 2, none⟩ = some (.string c.to_) ∧ w.cell? ⟨g, 3, none⟩ = some (.string c.data) ∧ w.cell? ⟨g, 4, none⟩ = some (.int .i64 c.n) ∧ w.cell? ⟨g, 5, none⟩ = some (.int .u32 c.bits) ∧ w.cell? ⟨g, 6, none⟩ = some (.slice c.ka c.kl c.kc) :=
  ⟨h.cell 0, h.cell 1, h.cell 2, h.cell 3, h.cell 4, h.cell 5, h.cell 6⟩
/-- What is done where there is no disk. -/
def noneE (k : Int) : Int := if 0 ≤ k ∧ k ≤ 4 then 1 else 0
set_option maxRecDepth 100000 in
set_option maxHeartbeats 4000000 in
theorem do_nil (c : Ac) (w : World) : Calls Try.prog 23 #[.pointer none, .agg (acC c).toArray] w fun x w' => x = .returned (.tuple #[.string ⟨#[]⟩, .bool false, .int .i64 (noneE c.kind)]) ∧ Below w.heap.size w w' := by
  have HB := Lib.hid ((Below.refl w.heap.size w).alloc (Nat.le_refl _) (.cells (acC c).toArray 54))
  have BC := Lib.hid (Mem.Blk.new w 54 (acC c).toArray)
  show Calls Try.prog 23 #[.pointer none, .agg #[.int .i64 c.kind, .string c.name, .string c.to_, .string c.data, .int .i64 c.n, .int .u32 c.bits, .slice c.ka c.kl c.kc]] w _
  obtain ⟨R, hR⟩ : ∃ R, R = noneE c.kind := ⟨_, rfl⟩
  rw [← hR]
  have HR := Lib.hid hR
  clear hR
  by_cases k0 : c.kind = 0
  · obtain rfl : R = 1 := by rw [HR.out, k0]; rfl
    have KK := Lib.hid k0
    clear HR k0
    go_enter Try.func23, Try.ntmps23
    go_upto_region 1 with (fail)
    have BC' : Hid (Mem.Blk (w.alloc (.cells #[.int .i64 c.kind, .string c.name, .string c.to_, .string c.data, .int .i64 c.n, .int .u32 c.bits, .slice c.ka c.kl c.kc] 54)) w.heap.size 54 (acC c).toArray) := BC.out
    have HB' : Hid (Below w.heap.size w (w.alloc (.cells #[.int .i64 c.kind, .string c.name, .string c.to_, .string c.data, .int .i64 c.n, .int .u32 c.bits, .slice c.ka c.kl c.kc] 54))) := HB.out
    clear BC HB
    generalize w.alloc (.cells #[.int .i64 c.kind, .string c.name, .string c.to_, .string c.data, .int .i64 c.n, .int .u32 c.bits, .slice c.ka c.kl c.kc] 54) = w1 at *
    obtain ⟨q0, q1, q2, q3, q4, q5, q6⟩ := blk7 BC'.out
    rw [KK.out] at q0
    go_wp2_with fail
    go_at_call 11
    (with_reducible refine (append_nil _ _ _).mono ?_)
    rintro x w2 ⟨rfl, b2⟩
    have HB2 := Lib.hid (HB'.out.trans (b2.mono HB'.out.size))
    clear b2 HB'
    go_wp2_with fail
    go_ret3
    exact ⟨rfl, HB2.out⟩
  by_cases k1 : c.kind = 1
  · obtain rfl : R = 1 := by rw [HR.out, k1]; rfl
    have KK := Lib.hid k1
    clear HR k1
    go_enter Try.func23, Try.ntmps23
    go_upto_region 1 with (fail)
    have BC' : Hid (Mem.Blk (w.alloc (.cells #[.int .i64 c.kind, .string c.name, .string c.to_, .string c.data, .int .i64 c.n, .int .u32 c.bits, .slice c.ka c.kl c.kc] 54)) w.heap.size 54 (acC c).toArray) := BC.out
    have HB' : Hid (Below w.heap.size w (w.alloc (.cells #[.int .i64 c.kind, .string c.name, .string c.to_, .string c.data, .int .i64 c.n, .int .u32 c.bits, .slice c.ka c.kl c.kc] 54))) := HB.out
    clear BC HB
    generalize w.alloc (.cells #[.int .i64 c.kind, .string c.name, .string c.to_, .string c.data, .int .i64 c.n, .int .u32 c.bits, .slice c.ka c.kl c.kc] 54) = w1 at *
    obtain ⟨q0, q1, q2, q3, q4, q5, q6⟩ := blk7 BC'.out
    rw [KK.out] at q0
    go_wp2_with fail
    go_at_call 12
    (with_reducible refine (sync_nil _ _).mono ?_)
    rintro x w2 ⟨rfl, b2⟩
    have HB2 := Lib.hid (HB'.out.trans (b2.mono HB'.out.size))
    clear b2 HB'
    go_wp2_with fail
    go_ret3
    exact ⟨rfl, HB2.out⟩
  by_cases k2 : c.kind = 2
  · obtain rfl : R = 1 := by rw [HR.out, k2]; rfl
    have KK := Lib.hid k2
    clear HR k2
    go_enter Try.func23, Try.ntmps23
    go_upto_region 1 with (fail)
    have BC' : Hid (Mem.Blk (w.alloc (.cells #[.int .i64 c.kind, .string c.name, .string c.to_, .string c.data, .int .i64 c.n, .int .u32 c.bits, .slice c.ka c.kl c.kc] 54)) w.heap.size 54 (acC c).toArray) := BC.out
    have HB' : Hid (Below w.heap.size w (w.alloc (.cells #[.int .i64 c.kind, .string c.name, .string c.to_, .string c.data, .int .i64 c.n, .int .u32 c.bits, .slice c.ka c.kl c.kc] 54))) := HB.out
    clear BC HB
    generalize w.alloc (.cells #[.int .i64 c.kind, .string c.name, .string c.to_, .string c.data, .int .i64 c.n, .int .u32 c.bits, .slice c.ka c.kl c.kc] 54) = w1 at *
    obtain ⟨q0, q1, q2, q3, q4, q5, q6⟩ := blk7 BC'.out
    rw [KK.out] at q0
    go_wp2_with fail
    go_at_call 19
    (with_reducible refine (rename_nil _ _ _).mono ?_)
    rintro x w2 ⟨rfl, b2⟩
    have HB2 := Lib.hid (HB'.out.trans (b2.mono HB'.out.size))
    clear b2 HB'
    go_wp2_with fail
    go_ret3
    exact ⟨rfl, HB2.out⟩
  by_cases k3 : c.kind = 3
  · obtain rfl : R = 1 := by rw [HR.out, k3]; rfl
    have KK := Lib.hid k3
    clear HR k3
    go_enter Try.func23, Try.ntmps23
    go_upto_region 1 with (fail)
    have BC' : Hid (Mem.Blk (w.alloc (.cells #[.int .i64 c.kind, .string c.name, .string c.to_, .string c.data, .int .i64 c.n, .int .u32 c.bits, .slice c.ka c.kl c.kc] 54)) w.heap.size 54 (acC c).toArray) := BC.out
    have HB' : Hid (Below w.heap.size w (w.alloc (.cells #[.int .i64 c.kind, .string c.name, .string c.to_, .string c.data, .int .i64 c.n, .int .u32 c.bits, .slice c.ka c.kl c.kc] 54))) := HB.out
    clear BC HB
    generalize w.alloc (.cells #[.int .i64 c.kind, .string c.name, .string c.to_, .string c.data, .int .i64 c.n, .int .u32 c.bits, .slice c.ka c.kl c.kc] 54) = w1 at *
    obtain ⟨q0, q1, q2, q3, q4, q5, q6⟩ := blk7 BC'.out
    rw [KK.out] at q0
    go_wp2_with fail
    go_at_call 17
    (with_reducible refine (delete_nil _ _).mono ?_)
    rintro x w2 ⟨rfl, b2⟩
    have HB2 := Lib.hid (HB'.out.trans (b2.mono HB'.out.size))
    clear b2 HB'
    go_wp2_with fail
    go_ret3
    exact ⟨rfl, HB2.out⟩
  by_cases k4 : c.kind = 4
  · obtain rfl : R = 1 := by rw [HR.out, k4]; rfl
    have KK := Lib.hid k4
    clear HR k4
    go_enter Try.func23, Try.ntmps23
    go_upto_region 1 with (fail)
    have BC' : Hid (Mem.Blk (w.alloc (.cells #[.int .i64 c.kind, .string c.name, .string c.to_, .string c.data, .int .i64 c.n, .int .u32 c.bits, .slice c.ka c.kl c.kc] 54)) w.heap.size 54 (acC c).toArray) := BC.out
    have HB' : Hid (Below w.heap.size w (w.alloc (.cells #[.int .i64 c.kind, .string c.name, .string c.to_, .string c.data, .int .i64 c.n, .int .u32 c.bits, .slice c.ka c.kl c.kc] 54))) := HB.out
    clear BC HB
    generalize w.alloc (.cells #[.int .i64 c.kind, .string c.name, .string c.to_, .string c.data, .int .i64 c.n, .int .u32 c.bits, .slice c.ka c.kl c.kc] 54) = w1 at *
    obtain ⟨q0, q1, q2, q3, q4, q5, q6⟩ := blk7 BC'.out
    rw [KK.out] at q0
    go_wp2_with fail
    go_at_call 14
    (with_reducible refine (read_nil _ _).mono ?_)
    rintro x w2 ⟨rfl, b2⟩
    have HB2 := Lib.hid (HB'.out.trans (b2.mono HB'.out.size))
    clear b2 HB'
    go_wp2_with fail
    go_ret3
    exact ⟨rfl, HB2.out⟩
  obtain rfl : R = 0 := by
    rw [HR.out]; unfold noneE
    rw [if_neg (by omega)]
  by_cases k5 : c.kind = 5
  · have KK := Lib.hid k5
    clear HR k5
    go_enter Try.func23, Try.ntmps23
    go_upto_region 1 with (fail)
    have BC' : Hid (Mem.Blk (w.alloc (.cells #[.int .i64 c.kind, .string c.name, .string c.to_, .string c.data, .int .i64 c.n, .int .u32 c.bits, .slice c.ka c.kl c.kc] 54)) w.heap.size 54 (acC c).toArray) := BC.out
    have HB' : Hid (Below w.heap.size w (w.alloc (.cells #[.int .i64 c.kind, .string c.name, .string c.to_, .string c.data, .int .i64 c.n, .int .u32 c.bits, .slice c.ka c.kl c.kc] 54))) := HB.out
    clear BC HB
    generalize w.alloc (.cells #[.int .i64 c.kind, .string c.name, .string c.to_, .string c.data, .int .i64 c.n, .int .u32 c.bits, .slice c.ka c.kl c.kc] 54) = w1 at *
    obtain ⟨q0, q1, q2, q3, q4, q5, q6⟩ := blk7 BC'.out
    rw [KK.out] at q0
    go_wp2_with fail
    go_at_call 20
    (with_reducible refine (arm_nil _ _).mono ?_)
    rintro x w2 ⟨rfl, b2⟩
    have HB2 := Lib.hid (HB'.out.trans (b2.mono HB'.out.size))
    clear b2 HB'
    go_wp2_with fail
    go_ret3
    exact ⟨rfl, HB2.out⟩
  by_cases k6 : c.kind = 6
  · have KK := Lib.hid k6
    clear HR k6
    go_enter Try.func23, Try.ntmps23
    go_upto_region 1 with (fail)
    have BC' : Hid (Mem.Blk (w.alloc (.cells #[.int .i64 c.kind, .string c.name, .string c.to_, .string c.data, .int .i64 c.n, .int .u32 c.bits, .slice c.ka c.kl c.kc] 54)) w.heap.size 54 (acC c).toArray) := BC.out
    have HB' : Hid (Below w.heap.size w (w.alloc (.cells #[.int .i64 c.kind, .string c.name, .string c.to_, .string c.data, .int .i64 c.n, .int .u32 c.bits, .slice c.ka c.kl c.kc] 54))) := HB.out
    clear BC HB
    generalize w.alloc (.cells #[.int .i64 c.kind, .string c.name, .string c.to_, .string c.data, .int .i64 c.n, .int .u32 c.bits, .slice c.ka c.kl c.kc] 54) = w1 at *
    obtain ⟨q0, q1, q2, q3, q4, q5, q6⟩ := blk7 BC'.out
    rw [KK.out] at q0
    go_wp2_with fail
    go_at_call 13
    (with_reducible refine (crash_nil_any _ _ _ _).mono ?_)
    rintro x w2 ⟨rfl, b2⟩
    have HB2 := Lib.hid (HB'.out.trans (b2.mono HB'.out.size))
    clear b2 HB'
    go_wp2_with fail
    go_ret3
    exact ⟨rfl, HB2.out⟩
  have e0 : (c.kind == 0) = false := beq_eq_false_iff_ne.2 k0
  have e1 : (c.kind == 1) = false := beq_eq_false_iff_ne.2 k1
  have e2 : (c.kind == 2) = false := beq_eq_false_iff_ne.2 k2
  have e3 : (c.kind == 3) = false := beq_eq_false_iff_ne.2 k3
  have e4 : (c.kind == 4) = false := beq_eq_false_iff_ne.2 k4
  have e5 : (c.kind == 5) = false := beq_eq_false_iff_ne.2 k5
  have e6 : (c.kind == 6) = false := beq_eq_false_iff_ne.2 k6
  clear k0 k1 k2 k3 k4 k5 k6 HR
  go_enter Try.func23, Try.ntmps23
  go_upto_region 1 with (fail)
  have BC' : Hid (Mem.Blk (w.alloc (.cells #[.int .i64 c.kind, .string c.name, .string c.to_, .string c.data, .int .i64 c.n, .int .u32 c.bits, .slice c.ka c.kl c.kc] 54)) w.heap.size 54 (acC c).toArray) := BC.out
  have HB' : Hid (Below w.heap.size w (w.alloc (.cells #[.int .i64 c.kind, .string c.name, .string c.to_, .string c.data, .int .i64 c.n, .int .u32 c.bits, .slice c.ka c.kl c.kc] 54))) := HB.out
  clear BC HB
  generalize w.alloc (.cells #[.int .i64 c.kind, .string c.name, .string c.to_, .string c.data, .int .i64 c.n, .int .u32 c.bits, .slice c.ka c.kl c.kc] 54) = w1 at *
  obtain ⟨q0, q1, q2, q3, q4, q5, q6⟩ := blk7 BC'.out
  go_wp2_with fail
  go_at_call 39
  (with_reducible refine (rot_nil _ _ _ _).mono ?_)
  rintro x w2 ⟨rfl, b2⟩
  have HB2 := Lib.hid (HB'.out.trans (b2.mono HB'.out.size))
  clear b2 HB'
  go_wp2_with fail
  go_ret3
  exact ⟨rfl, HB2.out⟩
end Go.Proofs.Ytefpjdgfcgjbaaa
