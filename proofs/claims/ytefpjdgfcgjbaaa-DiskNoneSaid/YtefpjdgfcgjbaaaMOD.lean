/- A part of the proof: DkN, DkY, DkR, Keys, DkM, DkC, one behind another. -/
import Derived.Test.YtefpjdgfcgjbaaaMOA
import Derived.Test.YtefpjdgfcgjbaaaMOB
import Derived.Test.YtefpjdgfcgjbaaaMOC
import Derived.StillTailTactics
import Derived.Shelf.SlIter.Nil
import Derived.Shelf.SortM.Plain
import Derived.Shelf.SortM.SortNone
import Derived.Test.YtefpjdgfcgjbaaaProg
import Derived.WalkKit
import Derived.Carry
import Derived.BigRegion
import Derived.Lib.ConvBytes
import Derived.Laws.IdiomStrings
import Derived.Laws.BitsAllLaws
/- The contracts of New and there. -/
namespace Go.Proofs.Ytefpjdgfcgjbaaa
set_option linter.unusedVariables false
set_option linter.unusedSimpArgs false
open Go.RowKit
def newS (room : Int) (mb : Nat) : St := ⟨room, 0, 0, 0, 0, false, false, [], mb, 0⟩
set_option maxRecDepth 100000 in
set_option maxHeartbeats 4000000 in
theorem new_any (room : Int) (w : World) (hr : 0 ≤ room ∧ room ≤ 16777216) : Calls Try.prog 10 #[.int .i64 room] w fun x w' => ∃ p mb, x = .returned (.pointer (some ⟨p, 0, none⟩)) ∧ DkAt w' p (newS room mb) ∧ (∀ g ∈ dks p (newS room mb), w.heap.size ≤ g) ∧ Below w.heap.size w w' := by
  have h1 : ¬ room < 0 := by omega
  have h2 : ¬ (16777216 : Int) < room := by omega
  have hmm := @run_makeMap Try.prog
  have hM := World.ownsMap_made w Try.prog 9 ptrR
  have e1 : (w.alloc (.map #[] 0)).heap.size = w.heap.size + 1 := by simp
  have hB := Mem.Blk.new (w.alloc (.map #[] 0)) 64 (dkC (newS room w.heap.size))
  rw [e1] at hB
  have HF : Hid (DkAt ((w.alloc (.map #[] 0)).alloc (.cells (dkC (newS room w.heap.size)) 64)) (w.heap.size + 1) (newS room w.heap.size) ∧ (∀ g ∈ dks (w.heap.size + 1) (newS room w.heap.size), w.heap.size ≤ g) ∧ Below w.heap.size w ((w.alloc (.map #[] 0)).alloc (.cells (dkC (newS room w.heap.size)) 64))) := by
    refine ⟨⟨hB, ⟨.map [], (Fr.alloc _ _ []).map hM (by simp), MapOf.nil⟩, fun f hf => (by cases hf), ?_⟩, fun g hg => ?_, ((Below.refl w.heap.size w).alloc (Nat.le_refl _) _).alloc (by rw [e1]; omega) _⟩
    · exact ⟨List.nodup_nil, List.Pairwise.nil, fun f hf => (by cases hf), fun f hf => (by cases hf), rfl, ⟨hr.1, hr.2, hr.1⟩, ⟨by show (0 : Int) ≤ 0; omega, by show (0 : Int) ≤ _; omega⟩, ⟨by show (0 : Int) ≤ 0; omega, by show (0 : Int) ≤ 0; omega⟩⟩
    · simp only [dks, newS, List.map_nil, List.mem_cons, List.not_mem_nil, or_false] at hg
      omega
  clear hM hB e1
  go_enter Try.func10, Try.ntmps10
  go_wp2_with fail
  go_ret
  exact ⟨_, rfl, _, HF.out⟩
theorem new_none (room : Int) (w : World) (hr : ¬ (0 ≤ room ∧ room ≤ 16777216)) : Calls Try.prog 10 #[.int .i64 room] w fun x w' => x = .returned (.pointer none) ∧ w' = w := by
  by_cases h1 : room < 0
  · go_enter Try.func10, Try.ntmps10
    go_wp2_with fail
    go_ret
    exact ⟨rfl, rfl⟩
  · have h2 : (16777216 : Int) < room := by omega
    go_enter Try.func10, Try.ntmps10
    go_wp2_with fail
    go_ret
    exact ⟨rfl, rfl⟩
/-- What there answers: the file, or why not. -/
def thereS (s : St) (t : Nm) (more : List Nm) : Option Fi × Int × St :=
  if (beginS s (t :: more)).1 ≠ 0 then (none, (beginS s (t :: more)).1, (beginS s (t :: more)).2) else
  match findF (beginS s (t :: more)).2.fs t with
  | none => (none, 7, (beginS s (t :: more)).2)
  | some f => (some f, 0, (beginS s (t :: more)).2)
set_option maxRecDepth 100000 in
set_option maxHeartbeats 4000000 in
theorem there_any (p : Nat) (s : St) (nm : ByteArray) (more : List Nm) (ma : Option Addr) (ml mc : Nat) (w : World) (hD : DkAt w p s) (hS : SlR strK w [] more ma ml mc) (hml : ml ≤ 100) (hb : s.calls ≤ 4611686018427387904) (hn : nm.size ≤ maxLen) :
    Calls Try.prog 34 #[.pointer (some ⟨p, 0, none⟩), .string nm, .slice ma ml mc] w fun x w' => x = .returned (.tuple #[ptrV (thereS s nm.data.toList more).1, .int .i64 (thereS s nm.data.toList more).2.1]) ∧ DkAt w' p (thereS s nm.data.toList more).2.2 ∧ DkStep p s (thereS s nm.data.toList more).2.2 w w' := by
  have HD := Lib.hid hD
  have HNM := Lib.hid hn
  have HLN := Lib.hid hS.facts.1
  have hal := (Below.refl w.heap.size w).alloc (Nat.le_refl _) (.cells #[.string nm] 9)
  have HSM := Lib.hid (hS.kept (Kept.of_below hal []))
  have hmx : (1 : Nat) ≤ maxLen := by decide
  have HO := Lib.hid (World.ownsRow_lit w (base := w.heap.size) (e := 9) (size := 1) #[.string nm] 1 (Nat.le_refl _) hmx rfl)
  have HB0 := Lib.hid hal
  have HBG := Lib.hid (fun a c W (hW : DkAt W p s) (hN : SlR strK W [p] (nm.data.toList :: more) a (1 + ml) c) => begin_any p s (nm.data.toList :: more) a (1 + ml) c W hW hN hb (by omega))
  obtain ⟨R, hR⟩ : ∃ R, R = thereS s nm.data.toList more := ⟨_, rfl⟩
  have HR := Lib.hid hR
  rw [← hR]
  unfold thereS at HR
  obtain ⟨e1, s1, hB⟩ : ∃ e1 s1, beginS s (nm.data.toList :: more) = (e1, s1) := ⟨_, _, rfl⟩
  simp only [hB] at HR HBG
  clear hD hS hb hR hB hal hmx
  have HNW : Hid (0 < ml → ∃ ad : Addr, ma = some ad ∧ ∀ j u, (more.map encStr)[j]? = some u → (w.alloc (.cells #[.string nm] 9)).cell? (ad.add j) = some u) := by
    intro h0
    obtain ⟨b, o, t, ha, -⟩ := str_at HSM.out 0 h0
    subst ha
    exact ⟨_, rfl, fun j u hu => str_cells HSM.out j u hu⟩
  have HNL : Hid ((more.map encStr).length = ml * 1) := by show _ = _; rw [List.length_map, HLN.out, Nat.mul_one]
  go_enter Try.func34, Try.ntmps34
  go_wp2_with (at_builtin; refine ap_rowZ infoS Try.underlying36 rfl (by decide) rfl (.tmp 13) (.tmp 14) rfl rfl HO.out HB0.out.size ma ml _ (more.map encStr) rfl HNL.out HNW.out (enc_one _) (by unfold maxLen; omega) (by omega) ?_; intro v' w2 o' g' h'; have HO2 := Lib.hid o'; have HG : Hid ((w.alloc (.cells #[.string nm] 9)).grownBy w2 (Value.slice (some ⟨w.heap.size, 0, none⟩) 1 1).ownBlock) := g'; clear o' g' h')
  have hb2 := HB0.out.grown HG.out HB0.out.size (fun b hb => (own_lt HO.out hb).1)
  have hO : w2.ownsRow w.heap.size 9 1 v' (1 + ml) ((nm.data.toList :: more).map encStr) := by
    have h := HO2.out
    have e2 : encStr nm.data.toList = .string nm := by obtain ⟨⟨x⟩⟩ := nm; rfl
    rw [List.map_cons, e2]
    exact h
  obtain ⟨a', c', rfl, hs'⟩ := own_strs hO (by rw [List.length_cons, HLN.out, Nat.add_comm]) hb2 (X := [p]) (fun b hb => by rw [List.mem_singleton] at hb; subst hb; exact HD.out.ptr.lt)
  have HS0 := Lib.hid (DkStep.below (p := p) (s := s) hb2)
  (with_reducible refine (HBG.out a' c' w2 (HD.out.below hb2) hs').mono ?_)
  rintro x w3 ⟨rfl, hd3, hs3⟩
  have HD3 := Lib.hid hd3
  have HS3 := Lib.hid (HS0.out.trans hs3)
  clear hd3 hs3 hs' hO hb2 HG HO2 HO HB0 HBG HNW HNL HSM HLN HD HS0
  by_cases he1 : e1 = 0
  · subst he1
    obtain ⟨c0, c1, c2, c3, c4, c5, c6, c7⟩ := dk8 HD3.out.ptr
    have hl := HD3.out.look1 nm hn
    cases hf : findF s1.fs nm.data.toList with
    | none =>
      rw [hf] at hl HR
      simp only [ptrV, Option.isSome_none] at hl
      obtain rfl : R = (none, 7, s1) := HR.out
      clear HR hf
      go_wp2_with fail
      go_ret2
      exact ⟨rfl, HD3.out, HS3.out⟩
    | some f =>
      rw [hf] at hl HR
      simp only [ptrV, Option.isSome_some] at hl
      obtain rfl : R = (some f, 0, s1) := HR.out
      clear HR hf
      go_wp2_with fail
      go_ret2
      exact ⟨rfl, HD3.out, HS3.out⟩
  · have he2 : (e1 != 0) = true := bne_iff_ne.2 he1
    obtain rfl : R = (none, e1, s1) := by rw [HR.out, if_pos he1]
    clear HR he1
    go_wp2_with fail
    go_ret2
    exact ⟨rfl, HD3.out, HS3.out⟩
end Go.Proofs.Ytefpjdgfcgjbaaa

/- The contracts of Sync, drop, Delete. -/
namespace Go.Proofs.Ytefpjdgfcgjbaaa
set_option linter.unusedVariables false
set_option linter.unusedSimpArgs false
open Go.RowKit
section
variable {w w' : World} {p : Nat} {s : St}
theorem StOk.re {t : Nm} {h : Fi → Fi} {f : Fi} {u : Int} (ok : StOk s) (hh : ∀ f, (h f).name = f.name ∧ (h f).blk = f.blk) (hf : findF s.fs t = some f) (hz : (h f).data.size ≤ 1048576 ∧ (h f).safe ≤ (h f).data.size) (hu : u = s.used + ((h f).data.size : Nat) - (f.data.size : Nat)) (hr : u ≤ s.room) : StOk { s with used := u, fs := updF t h s.fs } := by
  refine ⟨?_, updF_up ok.up (fun f => (hh f).1), fun g hg => ?_, fun g hg => ?_, ?_, ⟨ok.rm.1, ok.rm.2.1, hr⟩, ok.lf, ok.wr⟩
  · show ((updF t h s.fs).map (fun f => f.blk)).Nodup
    rw [updF_blk hh]; exact ok.one
  · rcases mem_updF hg with ⟨g', hg', -, rfl⟩ | ⟨hg', -⟩
    · rw [(hh g').1]; exact ok.nam g' hg'
    · exact ok.nam g hg'
  · rcases mem_updF hg with ⟨g', hg', e, rfl⟩ | ⟨hg', -⟩
    · have := findF_of ok.up hg'
      rw [e, hf] at this
      injection this with this
      subst this; exact hz
    · exact ok.siz g hg'
  · have := sumD_upd (h := h) ok.up hf
    show u = (sumD (updF t h s.fs) : Nat)
    rw [hu, ok.use]; omega
/-- One file's cells turn. -/
theorem DkAt.refile {t : Nm} {h : Fi → Fi} {f : Fi} (hD : DkAt w p s) (hh : ∀ f, (h f).name = f.name ∧ (h f).blk = f.blk) (hf : findF s.fs t = some f) (k : Fr [f.blk] w w') (hb : Mem.Blk w' f.blk 69 (flC (h f))) (ok : StOk { s with fs := updF t h s.fs }) :
    DkAt w' p { s with fs := updF t h s.fs } ∧ DkStep p s { s with fs := updF t h s.fs } w w' := by
  obtain ⟨hfm, hft⟩ := findF_mem hf
  refine ⟨⟨k.blk hD.ptr (by simpa using fun e => hD.fp hfm e.symm), ?_, fun g hg => ?_, ok⟩, ?_, fun g hg => .inl ?_⟩
  · obtain ⟨D, h1, h2⟩ := hD.map
    exact ⟨D, k.map h1 (by simpa using fun e => hD.fm hfm e.symm), h2.upd hh⟩
  · rcases mem_updF hg with ⟨g', hg', e, rfl⟩ | ⟨hg', hne⟩
    · have := findF_of hD.ok.up hg'
      rw [e, hf] at this
      injection this with this
      subst this
      rw [(hh f).2]; exact hb
    · have hbne : g.blk ≠ f.blk := fun e => hne (by rw [blk_inj hD.ok.one hg' hfm e]; exact hft)
      exact k.blk (hD.fil g hg') (by simpa using hbne)
  · exact k.more (fun g hg => by rw [List.mem_singleton] at hg; subst hg; exact List.mem_cons_of_mem _ (List.mem_cons_of_mem _ (List.mem_map.2 ⟨f, hfm, rfl⟩)))
  · unfold dks at hg ⊢
    dsimp only at hg
    rw [updF_blk hh] at hg; exact hg
end
def syncF (g : Fi) : Fi := ⟨g.name, g.data, g.data.size, g.blk⟩
def syncS (s : St) (t : Nm) : Int × St := match thereS s t [] with
  | (some _, e, s1) => (e, { s1 with fs := updF t syncF s1.fs })
  | (none, e, s1) => (e, s1)
theorem thereS_some {s : St} {t : Nm} {more : List Nm} {f : Fi} (h : (thereS s t more).1 = some f) : (thereS s t more).2.1 = 0 ∧ findF (thereS s t more).2.2.fs t = some f := by
  unfold thereS at h ⊢
  split
  · rename_i h1; rw [if_pos h1] at h; cases h
  · rename_i h1
    rw [if_neg h1] at h
    cases hf : findF (beginS s (t :: more)).2.fs t with
    | none => rw [hf] at h; cases h
    | some g => rw [hf] at h; injection h with h; subst h; exact ⟨rfl, hf⟩
theorem thereS_none {s : St} {t : Nm} {more : List Nm} (h : (thereS s t more).1 = none) : (thereS s t more).2.1 ≠ 0 := by
  unfold thereS at h ⊢
  split
  · rename_i h1; exact h1
  · rename_i h1
    rw [if_neg h1] at h
    cases hf : findF (beginS s (t :: more)).2.fs t with
    | none => dsimp only; decide
    | some g => rw [hf] at h; cases h
theorem thereS_begin (s : St) (t : Nm) (more : List Nm) : (thereS s t more).2.2.mn = s.mn ∧ ((thereS s t more).2.1 = 0 → ∀ u ∈ t :: more, badN u = false) := by
  have h1 := beginS_same s (t :: more)
  have h2 := @beginS_zero s (t :: more)
  unfold thereS
  split
  · rename_i h
    exact ⟨h1.2.2.1, fun h0 => absurd h0 h⟩
  · rename_i h
    have h0 : (beginS s (t :: more)).1 = 0 := by
      by_cases h3 : (beginS s (t :: more)).1 = 0
      · exact h3
      · exact absurd h3 h
    split
    · exact ⟨h1.2.2.1, fun _ => h2 h0⟩
    · exact ⟨h1.2.2.1, fun _ => h2 h0⟩
set_option maxRecDepth 100000 in
set_option maxHeartbeats 4000000 in
theorem sync_any (p : Nat) (s : St) (nm : ByteArray) (w : World) (hD : DkAt w p s) (hb : s.calls ≤ 4611686018427387904) (hn : nm.size ≤ maxLen) :
    Calls Try.prog 12 #[.pointer (some ⟨p, 0, none⟩), .string nm] w fun x w' => x = .returned (.int .i64 (syncS s nm.data.toList).1) ∧ DkAt w' p (syncS s nm.data.toList).2 ∧ DkStep p s (syncS s nm.data.toList).2 w w' := by
  have HT := Lib.hid (there_any p s nm [] none 0 0 w hD (SlR.nil _ _ _) (by omega) hb hn)
  have HTS : Hid (∀ f, (thereS s nm.data.toList []).1 = some f → _) := fun f => @thereS_some s nm.data.toList [] f
  have HTN := Lib.hid (fun h => @thereS_none s nm.data.toList [] h)
  obtain ⟨R, hR⟩ : ∃ R, R = syncS s nm.data.toList := ⟨_, rfl⟩
  have HR := Lib.hid hR
  rw [← hR]
  unfold syncS at HR
  obtain ⟨o, e, s1, hB⟩ : ∃ o e s1, thereS s nm.data.toList [] = (o, e, s1) := ⟨_, _, _, rfl⟩
  simp only [hB] at HR HT HTS HTN
  clear hD hb hR hB
  go_enter Try.func12, Try.ntmps12
  go_wp2_with fail
  go_at_call 34
  (with_reducible refine HT.out.mono ?_)
  rintro x w1 ⟨rfl, hd1, hs1⟩
  have HD1 := Lib.hid hd1
  have HS1 := Lib.hid hs1
  clear hd1 hs1 HT
  cases o with
  | none =>
    have he := HTN.out rfl
    have he1 : (e == 0) = false := beq_eq_false_iff_ne.2 he
    obtain rfl : R = (e, s1) := HR.out
    simp only [ptrV]
    clear HR HTN HTS he
    go_wp2_with fail
    go_ret
    exact ⟨rfl, HD1.out, HS1.out⟩
  | some f =>
    obtain ⟨he, hf⟩ := HTS.out f rfl
    subst he
    obtain rfl : R = (0, { s1 with fs := updF nm.data.toList syncF s1.fs }) := HR.out
    simp only [ptrV]
    obtain ⟨hfm, hft⟩ := findF_mem hf
    have hB := HD1.out.fil f hfm
    obtain ⟨u0, u1, v0, v1⟩ := hB.two
    have hsz := HD1.out.ok.siz f hfm
    have hre : DkAt (w1.setCell ⟨f.blk, 1, none⟩ (.int .i64 (f.data.size : Nat))) p { s1 with fs := updF nm.data.toList syncF s1.fs } ∧ DkStep p s1 { s1 with fs := updF nm.data.toList syncF s1.fs } w1 (w1.setCell ⟨f.blk, 1, none⟩ (.int .i64 (f.data.size : Nat))) :=
      HD1.out.refile (h := syncF) (fun f => ⟨rfl, rfl⟩) hf (Fr.setCell w1 (by simp) _) (hB.set_ 1 _) (HD1.out.ok.re (h := syncF) (fun f => ⟨rfl, rfl⟩) hf ⟨hsz.1, Nat.le_refl _⟩ (by show s1.used = s1.used + (f.data.size : Nat) - (f.data.size : Nat); omega) HD1.out.ok.rm.2.2)
    have FIN : Hid (DkAt _ p _ ∧ DkStep p s _ w _) := ⟨hre.1, HS1.out.trans hre.2⟩
    clear hre HR HTN HTS hB hfm hft hf HD1 HS1
    go_wp2_with fail
    go_ret
    exact ⟨rfl, FIN.out⟩
theorem dks_sub {p : Nat} {s s' : St} (h : ∀ f ∈ s'.fs, f ∈ s.fs) (hm : s'.mb = s.mb) : ∀ g ∈ dks p s', g ∈ dks p s := by
  intro g hg
  unfold dks at hg ⊢
  rw [hm] at hg
  rcases List.mem_cons.1 hg with rfl | hg
  · exact List.mem_cons_self ..
  rcases List.mem_cons.1 hg with rfl | hg
  · exact List.mem_cons_of_mem _ (List.mem_cons_self ..)
  obtain ⟨f, hf, rfl⟩ := List.mem_map.1 hg
  exact List.mem_cons_of_mem _ (List.mem_cons_of_mem _ (List.mem_map.2 ⟨f, h f hf, rfl⟩))
def dropS (s : St) (t : Nm) : St := match findF s.fs t with
  | none => s
  | some f => { s with used := s.used - (f.data.size : Nat), fs := delF t s.fs }
theorem sumD_del {fs : List Fi} (hu : UpF fs) {t : Nm} {f : Fi} (hf : findF fs t = some f) : sumD fs = f.data.size + sumD (delF t fs) := by
  obtain ⟨h1, h2⟩ := findF_mem hf
  rw [sumD_perm (delF_perm hu h1), sumD_cons, h2]
theorem StOk.del {s : St} (ok : StOk s) {t : Nm} {f : Fi} (hf : findF s.fs t = some f) : StOk { s with used := s.used - (f.data.size : Nat), fs := delF t s.fs } := by
  have hs := sumD_del ok.up hf
  refine ⟨?_, delF_up ok.up, fun g hg => ok.nam g (mem_delF.1 hg).1, fun g hg => ok.siz g (mem_delF.1 hg).1, ?_, ⟨ok.rm.1, ok.rm.2.1, ?_⟩, ok.lf, ok.wr⟩
  · exact List.Nodup.sublist (List.Sublist.map _ List.filter_sublist) ok.one
  · show s.used - (f.data.size : Nat) = (sumD (delF t s.fs) : Nat)
    rw [ok.use]; omega
  · have := ok.rm; show s.used - (f.data.size : Nat) ≤ s.room; omega
set_option maxRecDepth 100000 in
set_option maxHeartbeats 4000000 in
theorem drop_any (p : Nat) (s : St) (nm : ByteArray) (w : World) (hD : DkAt w p s) (hn : nm.size ≤ maxLen) :
    Calls Try.prog 38 #[.pointer (some ⟨p, 0, none⟩), .string nm] w fun x w' => x = .returned (.tuple #[]) ∧ DkAt w' p (dropS s nm.data.toList) ∧ DkStep p s (dropS s nm.data.toList) w w' := by
  have HD := Lib.hid hD
  obtain ⟨c0, c1, c2, c3, c4, c5, c6, c7⟩ := dk8 hD.ptr
  obtain ⟨f0, f1, f2, f3, f4, f5, f6, f7⟩ := dkF hD.ptr
  have hl := hD.look1 nm hn
  obtain ⟨R, hR⟩ : ∃ R, R = dropS s nm.data.toList := ⟨_, rfl⟩
  have HR := Lib.hid hR
  rw [← hR]
  unfold dropS at HR
  clear hD hR
  cases hf : findF s.fs nm.data.toList with
  | none =>
    rw [hf] at hl HR
    simp only [ptrV, Option.isSome_none] at hl
    obtain rfl : R = s := HR.out
    clear HR hf
    go_enter Try.func38, Try.ntmps38
    go_wp2_with fail
    go_end0
    exact ⟨rfl, HD.out, DkStep.refl _ _ _⟩
  | some f =>
    rw [hf] at hl HR
    simp only [ptrV, Option.isSome_some] at hl
    obtain rfl : R = _ := HR.out
    obtain ⟨hfm, hft⟩ := findF_mem hf
    have u0 : w.cell? ⟨f.blk, 0, none⟩ = some (.string f.data) := (HD.out.fil f hfm).cell 0
    have hwu : IntKind.i64.wrap (s.used - (f.data.size : Nat)) = s.used - (f.data.size : Nat) := IntWalk.i64_in _ (by have := HD.out.ok.rm; have := HD.out.ok.use; have := HD.out.ok.siz f hfm; omega)
    have HFN := Lib.hid hf
    clear HR hf
    have k1 : Fr [p] w (w.setCell ⟨p, 2, none⟩ (.int .i64 (s.used - (f.data.size : Nat)))).drew := (Fr.setCell w (by simp) _).trans (Fr.drew _ _)
    have hp1 : Mem.Blk (w.setCell ⟨p, 2, none⟩ (.int .i64 (s.used - (f.data.size : Nat)))).drew p 64 (dkC { s with used := s.used - (f.data.size : Nat), fs := delF nm.data.toList s.fs }) := HD.out.ptr.set_ 2 _
    have hm1 : ∃ D, (w.setCell ⟨p, 2, none⟩ (.int .i64 (s.used - (f.data.size : Nat)))).drew.ownsMap Try.prog 9 ptrR s.mb s.mn D ∧ MapOf s.fs D := by
      obtain ⟨D, h1, h2⟩ := HD.out.map
      exact ⟨D, k1.map h1 (by simpa using HD.out.mp), h2⟩
    obtain ⟨w5, hr, hf5, hm5⟩ := dele_map hm1 nm hn
    have FIN : Hid (DkAt w5 p { s with used := s.used - (f.data.size : Nat), fs := delF nm.data.toList s.fs } ∧ DkStep p s { s with used := s.used - (f.data.size : Nat), fs := delF nm.data.toList s.fs } w w5) := by
      refine ⟨⟨hf5.blk hp1 (by simpa using HD.out.mp.symm), hm5, fun g hg => ?_, HD.out.ok.del HFN.out⟩, ?_, fun g hg => .inl ?_⟩
      · have hg' := (mem_delF.1 hg).1
        exact hf5.blk (k1.blk (HD.out.fil g hg') (by simpa using HD.out.fp hg')) (by simpa using HD.out.fm hg')
      · exact (k1.more (fun g hg => by rw [List.mem_singleton] at hg; subst hg; exact List.mem_cons_self ..)).trans (hf5.more (fun g hg => by rw [List.mem_singleton] at hg; subst hg; exact List.mem_cons_of_mem _ (List.mem_cons_self ..)))
      · exact dks_sub (p := p) (s := s) (s' := { s with used := s.used - (f.data.size : Nat), fs := delF nm.data.toList s.fs }) (fun x hx => (mem_delF.1 (show x ∈ delF nm.data.toList s.fs from hx)).1) rfl g hg
    clear k1 hp1 hm1 hf5 hm5 HD HFN hfm hft
    go_enter Try.func38, Try.ntmps38
    go_upto_region 2 with (fail)
    go_still_tail 12, (by kernel_rfl)
    change wpList _ _ _ _ _ w.drew
    go_wp2_with fail
    go_end0
    exact ⟨rfl, FIN.out⟩
def deleteS (s : St) (t : Nm) : Int × St := match thereS s t [] with
  | (some _, e, s1) => (e, dropS s1 t)
  | (none, e, s1) => (e, s1)
set_option maxRecDepth 100000 in
set_option maxHeartbeats 4000000 in
theorem delete_any (p : Nat) (s : St) (nm : ByteArray) (w : World) (hD : DkAt w p s) (hb : s.calls ≤ 4611686018427387904) (hn : nm.size ≤ maxLen) :
    Calls Try.prog 17 #[.pointer (some ⟨p, 0, none⟩), .string nm] w fun x w' => x = .returned (.int .i64 (deleteS s nm.data.toList).1) ∧ DkAt w' p (deleteS s nm.data.toList).2 ∧ DkStep p s (deleteS s nm.data.toList).2 w w' := by
  have HT := Lib.hid (there_any p s nm [] none 0 0 w hD (SlR.nil _ _ _) (by omega) hb hn)
  have HTS : Hid (∀ f, (thereS s nm.data.toList []).1 = some f → _) := fun f => @thereS_some s nm.data.toList [] f
  have HTN := Lib.hid (fun h => @thereS_none s nm.data.toList [] h)
  obtain ⟨R, hR⟩ : ∃ R, R = deleteS s nm.data.toList := ⟨_, rfl⟩
  have HR := Lib.hid hR
  rw [← hR]
  unfold deleteS at HR
  obtain ⟨o, e, s1, hB⟩ : ∃ o e s1, thereS s nm.data.toList [] = (o, e, s1) := ⟨_, _, _, rfl⟩
  simp only [hB] at HR HT HTS HTN
  clear hD hb hR hB
  go_enter Try.func17, Try.ntmps17
  go_wp2_with fail
  go_at_call 34
  (with_reducible refine HT.out.mono ?_)
  rintro x w1 ⟨rfl, hd1, hs1⟩
  have HD1 := Lib.hid hd1
  have HS1 := Lib.hid hs1
  clear hd1 hs1 HT
  cases o with
  | none =>
    have he := HTN.out rfl
    have he1 : (e == 0) = false := beq_eq_false_iff_ne.2 he
    obtain rfl : R = (e, s1) := HR.out
    simp only [ptrV]
    clear HR HTN HTS he
    go_wp2_with fail
    go_ret
    exact ⟨rfl, HD1.out, HS1.out⟩
  | some f =>
    obtain ⟨he, -⟩ := HTS.out f rfl
    subst he
    obtain rfl : R = (0, dropS s1 nm.data.toList) := HR.out
    simp only [ptrV]
    have HDR := Lib.hid (drop_any p s1 nm w1 HD1.out hn)
    clear HR HTN HTS
    go_wp2_with fail
    go_at_call 38
    (with_reducible refine HDR.out.mono ?_)
    rintro x w2 ⟨rfl, hd2, hs2⟩
    have FIN := Lib.hid (And.intro hd2 (HS1.out.trans hs2))
    clear hd2 hs2 HDR HD1 HS1
    go_wp2_with fail
    go_ret
    exact ⟨rfl, FIN.out⟩
end Go.Proofs.Ytefpjdgfcgjbaaa

/- The contract of Rename. -/
namespace Go.Proofs.Ytefpjdgfcgjbaaa
set_option linter.unusedVariables false
set_option linter.unusedSimpArgs false
open Go.RowKit
theorem fi_eta (f : Fi) (t : Nm) (h : f.name = t) : (⟨t, f.data, f.safe, f.blk⟩ : Fi) = f := by subst h; rfl
/-- What Rename answers, and what it leaves. -/
def renameS (s : St) (a b : Nm) : Int × St := match thereS s a [b] with
  | (none, e, s1) => (e, s1)
  | (some f, e, s1) => if a = b then (e, s1) else (0, { dropS s1 b with fs := insF ⟨b, f.data, f.safe, f.blk⟩ (delF a (dropS s1 b).fs), mn := s1.mn + 1 })
theorem dropS_same (s : St) (t : Nm) : (dropS s t).mb = s.mb ∧ (dropS s t).mn = s.mn ∧ (dropS s t).room = s.room ∧ (dropS s t).calls = s.calls ∧ (dropS s t).written = s.written ∧ (dropS s t).left = s.left ∧ (dropS s t).off = s.off ∧ (dropS s t).armed = s.armed := by
  unfold dropS
  split <;> exact ⟨rfl, rfl, rfl, rfl, rfl, rfl, rfl, rfl⟩
theorem dropS_find {s : St} (hu : UpF s.fs) (t u : Nm) : findF (dropS s t).fs u = if t = u then none else findF s.fs u := by
  unfold dropS
  cases hf : findF s.fs t with
  | none =>
    dsimp only
    by_cases h : t = u
    · subst h; rw [if_pos rfl, hf]
    · rw [if_neg h]
  | some f => exact findF_del hu
theorem StOk.move {s : St} (ok : StOk s) {a b : Nm} {f : Fi} (hf : findF s.fs a = some f) (hb : findF s.fs b = none) (hl : 1 ≤ b.length ∧ b.length ≤ 24) : StOk { s with fs := insF ⟨b, f.data, f.safe, f.blk⟩ (delF a s.fs), mn := s.mn + 1 } := by
  obtain ⟨hfm, hft⟩ := findF_mem hf
  have hm : ∀ g, g ∈ insF ⟨b, f.data, f.safe, f.blk⟩ (delF a s.fs) → g = ⟨b, f.data, f.safe, f.blk⟩ ∨ g ∈ s.fs := fun g hg => (mem_insF.1 hg).imp id (fun h => (mem_delF.1 h).1)
  have hn : ∀ g ∈ delF a s.fs, g.name ≠ b := fun g hg => findF_none hb g (mem_delF.1 hg).1
  refine ⟨?_, insF_up (delF_up ok.up) hn, fun g hg => ?_, fun g hg => ?_, ?_, ok.rm, ok.lf, ok.wr⟩
  · show ((insF ⟨b, f.data, f.safe, f.blk⟩ (delF a s.fs)).map (fun f => f.blk)).Nodup
    rw [((insF_perm _ _).map (fun f : Fi => f.blk)).nodup_iff, List.map_cons]
    have h1 := ok.one
    have h2 := (delF_perm ok.up hfm).map (fun f : Fi => f.blk)
    rw [hft, List.map_cons] at h2
    exact h2.nodup_iff.1 h1
  · rcases hm g hg with rfl | h2
    · exact hl
    · exact ok.nam g h2
  · rcases hm g hg with rfl | h2
    · exact ok.siz f hfm
    · exact ok.siz g h2
  · show s.used = (sumD (insF ⟨b, f.data, f.safe, f.blk⟩ (delF a s.fs)) : Nat)
    rw [sumD_perm (insF_perm _ _), sumD_cons, ok.use, sumD_del ok.up hf]
set_option maxRecDepth 100000 in
set_option maxHeartbeats 4000000 in
theorem rename_any (p : Nat) (s : St) (na nb : ByteArray) (w : World) (hD : DkAt w p s) (hb : s.calls ≤ 4611686018427387904) (hm : s.mn ≤ 1000000) (hna : na.size ≤ maxLen) (hnb : nb.size ≤ maxLen) :
    Calls Try.prog 19 #[.pointer (some ⟨p, 0, none⟩), .string na, .string nb] w fun x w' => x = .returned (.int .i64 (renameS s na.data.toList nb.data.toList).1) ∧ DkAt w' p (renameS s na.data.toList nb.data.toList).2 ∧ DkStep p s (renameS s na.data.toList nb.data.toList).2 w w' := by
  have hal := (Below.refl w.heap.size w).alloc (Nat.le_refl _) (.cells #[.string nb] 9)
  have HT := Lib.hid (there_any p s na [nb.data.toList] _ 1 1 _ (hD.below hal) (sl_one w nb [] (fun b hb => by cases hb)) (by omega) hb hna)
  have HS0 := Lib.hid (DkStep.below (p := p) (s := s) hal)
  have HTS : Hid (∀ f, (thereS s na.data.toList [nb.data.toList]).1 = some f → _) := fun f => @thereS_some s na.data.toList [nb.data.toList] f
  have HTN := Lib.hid (fun h => @thereS_none s na.data.toList [nb.data.toList] h)
  have HTB := Lib.hid (thereS_begin s na.data.toList [nb.data.toList])
  obtain ⟨R, hR⟩ : ∃ R, R = renameS s na.data.toList nb.data.toList := ⟨_, rfl⟩
  have HR := Lib.hid hR
  rw [← hR]
  unfold renameS at HR
  have HMM := Lib.hid hm
  obtain ⟨o, e, s1, hB⟩ : ∃ o e s1, thereS s na.data.toList [nb.data.toList] = (o, e, s1) := ⟨_, _, _, rfl⟩
  simp only [hB] at HR HT HTS HTN HTB
  clear hD hb hR hB hal hm
  go_enter Try.func19, Try.ntmps19
  go_wp2_with fail
  go_at_call 34
  (with_reducible refine HT.out.mono ?_)
  rintro x w1 ⟨rfl, hd1, hs1⟩
  have HD1 := Lib.hid hd1
  have HS1 := Lib.hid (HS0.out.trans hs1)
  clear hd1 hs1 HT HS0
  cases o with
  | none =>
    have he := HTN.out rfl
    have he1 : (e != 0) = true := bne_iff_ne.2 he
    obtain rfl : R = (e, s1) := HR.out
    simp only [ptrV]
    clear HR HTN HTS HTB he
    go_wp2_with fail
    go_ret
    exact ⟨rfl, HD1.out, HS1.out⟩
  | some f =>
    obtain ⟨he, hf⟩ := HTS.out f rfl
    subst he
    simp only [ptrV]
    by_cases hab : na.data.toList = nb.data.toList
    · obtain rfl : R = (0, s1) := by
        have h := HR.out
        dsimp only at h
        rw [if_pos hab] at h; exact h
      have hab2 : na = nb := by
        obtain ⟨⟨x⟩⟩ := na; obtain ⟨⟨y⟩⟩ := nb
        have : x = y := hab
        rw [this]
      subst hab2
      clear HR HTN HTS HTB hab hf
      go_wp2_with fail
      go_ret
      exact ⟨rfl, HD1.out, HS1.out⟩
    · have HR2 : Hid (R = (0, { dropS s1 nb.data.toList with fs := insF ⟨nb.data.toList, f.data, f.safe, f.blk⟩ (delF na.data.toList (dropS s1 nb.data.toList).fs), mn := s1.mn + 1 })) := by
        have h := HR.out
        dsimp only at h
        rw [if_neg hab] at h; exact h
      have hne : (na.toList == nb.toList) = false := by
        rw [beq_eq_false_iff_ne, ByteArray.toList_eq, ByteArray.toList_eq]; exact hab
      have HAB := Lib.hid hab
      have HF := Lib.hid hf
      have HDR := Lib.hid (drop_any p s1 nb w1 HD1.out hnb)
      clear HR hab hf HTN HTS
      go_wp2_with fail
      go_at_call 38
      (with_reducible refine HDR.out.mono ?_)
      rintro x w2 ⟨rfl, hd2, hs2⟩
      have HD2 := Lib.hid hd2
      have HS2 := Lib.hid (HS1.out.trans hs2)
      have HOK1 := Lib.hid HD1.out.ok
      have HBB := Lib.hid (HTB.out.2 (by first | rfl | trivial) nb.data.toList (by simp))
      have HMN := Lib.hid HTB.out.1
      have HDS := Lib.hid (dropS_same s1 nb.data.toList)
      have hfa : findF (dropS s1 nb.data.toList).fs na.data.toList = some f := by
        rw [dropS_find HOK1.out.up, if_neg (fun e => HAB.out e.symm)]; exact HF.out
      have hfb : findF (dropS s1 nb.data.toList).fs nb.data.toList = none := by rw [dropS_find HOK1.out.up, if_pos rfl]
      have HFA := Lib.hid hfa
      have HFB := Lib.hid hfb
      have hs2mn : (dropS s1 nb.data.toList).mn = s1.mn := HDS.out.2.1
      rw [← hs2mn] at HR2
      have HMN2 : Hid ((dropS s1 nb.data.toList).mn ≤ 1000000) := by
        show _ ≤ _
        rw [hs2mn, HMN.out]; exact HMM.out
      clear hd2 hs2 HDR HD1 HS1 hfa hfb hs2mn HDS HTB HMN HOK1 HF HMM
      generalize dropS s1 nb.data.toList = s2 at *
      obtain ⟨w3, hr3, hf3, hm3⟩ := dele_map HD2.out.map na hna
      obtain ⟨hfm, hft⟩ := findF_mem HFA.out
      obtain ⟨w4, hr4, hf4, hm4⟩ := store_map hm3 nb hnb f.blk (insF ⟨nb.data.toList, f.data, f.safe, f.blk⟩ (delF na.data.toList s2.fs)) (fun D hM => hM.put (f := ⟨nb.data.toList, f.data, f.safe, f.blk⟩) (by
        have e : delF nb.data.toList (delF na.data.toList s2.fs) = delF na.data.toList s2.fs := delF_none (by rw [findF_del HD2.out.ok.up, if_neg HAB.out]; exact HFB.out)
        show (insF _ _).Perm (_ :: delF nb.data.toList (delF na.data.toList s2.fs))
        rw [e]
        exact insF_perm _ _)) (by have := HMN2.out; unfold maxLen; omega)
      have c1 := (dk8 HD2.out.ptr).2.1
      have hp3 := hf3.blk HD2.out.ptr (by simpa using HD2.out.mp.symm)
      have d1 := (dk8 hp3).2.1
      have hp4 := hf4.blk hp3 (by simpa using HD2.out.mp.symm)
      have FIN : Hid (DkAt w4 p { s2 with fs := insF ⟨nb.data.toList, f.data, f.safe, f.blk⟩ (delF na.data.toList s2.fs), mn := s2.mn + 1 } ∧ DkStep p s { s2 with fs := insF ⟨nb.data.toList, f.data, f.safe, f.blk⟩ (delF na.data.toList s2.fs), mn := s2.mn + 1 } w w4) := by
        refine ⟨⟨hp4, hm4, fun g hg => ?_, HD2.out.ok.move HFA.out HFB.out (badN_len HBB.out)⟩, HS2.out.trans ⟨(hf3.trans hf4).more (fun g hg => by rw [List.mem_singleton] at hg; subst hg; exact List.mem_cons_of_mem _ (List.mem_cons_self ..)), fun g hg => .inl ?_⟩⟩
        · rcases mem_insF.1 hg with rfl | hg
          · exact hf4.blk (hf3.blk (HD2.out.fil f hfm) (by simpa using HD2.out.fm hfm)) (by simpa using HD2.out.fm hfm)
          · have hg' := (mem_delF.1 hg).1
            exact hf4.blk (hf3.blk (HD2.out.fil g hg') (by simpa using HD2.out.fm hg')) (by simpa using HD2.out.fm hg')
        · unfold dks at hg ⊢
          rcases List.mem_cons.1 hg with rfl | hg
          · exact List.mem_cons_self ..
          rcases List.mem_cons.1 hg with rfl | hg
          · exact List.mem_cons_of_mem _ (List.mem_cons_self ..)
          obtain ⟨x, hx, rfl⟩ := List.mem_map.1 hg
          rcases mem_insF.1 hx with rfl | hx
          · exact List.mem_cons_of_mem _ (List.mem_cons_of_mem _ (List.mem_map.2 ⟨f, hfm, rfl⟩))
          · exact List.mem_cons_of_mem _ (List.mem_cons_of_mem _ (List.mem_map.2 ⟨x, (mem_delF.1 hx).1, rfl⟩))
      clear hm3 hm4 hf3 hf4 hp3 hp4 hfm hft HD2 HS2 HFA HFB HBB HMN2 HAB
      go_wp2_with fail
      go_ret
      rw [HR2.out]
      exact ⟨rfl, FIN.out⟩
end Go.Proofs.Ytefpjdgfcgjbaaa

/- slices.Sorted(maps.Keys(m)) at any map of strings: a new slice of its keys, in order. -/
namespace Go.Proofs.Ytefpjdgfcgjbaaa
set_option linter.unusedVariables false
set_option linter.unusedSimpArgs false
open Go Go.RowKit Go.Maps Go.Sort Go.Shelf
def keys37_ren : Shelf.Ren := { f := fun x => match x with | 7 => 37 | 10 => 45 | n => n, t := fun x => match x with | 23 => 62 | 26 => 9 | 3 => 66 | 28 => 75 | 0 => 0 | 27 => 74 | 33 => 40 | 4 => 4 | n => n, g := fun x => x }
theorem keys37 : SlLaysZ.n7 Try.prog keys37_ren :=
  { mixed := by kernel_rfl,
    f7 := ⟨"maps.Keys[map[string]*debenture/disk.file,string,*debenture/disk.file]", by decide, (Try.func37).trans (congrArg some (by kernel_rfl))⟩,
    f10 := ⟨"maps.Keys[map[string]*debenture/disk.file,string,*debenture/disk.file]$1", by decide, (Try.func45).trans (congrArg some (by kernel_rfl))⟩,
    t0 := Try.underlying0,
    a0 := Try.isAgg0,
    z0 := Try.sizeOf0,
    v0 := Try.zeroValue0,
    t4 := Try.underlying4,
    a4 := Try.isAgg4,
    z4 := Try.sizeOf4,
    v4 := Try.zeroValue4,
    t23 := Try.underlying62,
    a23 := Try.isAgg62,
    z23 := Try.sizeOf62,
    v23 := Try.zeroValue62,
    t26 := Try.underlying9,
    a26 := Try.isAgg9,
    z26 := Try.sizeOf9,
    v26 := Try.zeroValue9,
    t27 := Try.underlying74,
    a27 := Try.isAgg74,
    z27 := Try.sizeOf74,
    v27 := Try.zeroValue74,
    t28 := Try.underlying75,
    a28 := Try.isAgg75,
    z28 := Try.sizeOf75,
    v28 := Try.zeroValue75,
    t33 := Try.underlying40,
    a33 := Try.isAgg40,
    z33 := Try.sizeOf40,
    v33 := Try.zeroValue40 }
def sorted36_ren : Shelf.Ren := { f := fun x => match x with | 6 => 36 | 8 => 43 | 9 => 44 | 11 => 46 | 13 => 48 | 12 => 47 | 23 => 58 | 24 => 59 | 14 => 49 | 15 => 50 | 16 => 51 | 17 => 52 | 18 => 53 | 19 => 54 | 20 => 55 | 21 => 56 | 22 => 57 | 25 => 60 | 26 => 61 | 27 => 62 | 28 => 63 | 29 => 64 | 30 => 65 | 31 => 66 | n => n, t := fun x => match x with | 26 => 9 | 28 => 75 | 24 => 36 | 0 => 0 | 3 => 3 | 37 => 84 | 48 => 52 | 50 => 96 | 4 => 4 | 40 => 87 | 39 => 86 | 45 => 92 | 5 => 5 | 9 => 9 | 51 => 97 | 55 => 101 | 57 => 103 | 58 => 104 | 33 => 40 | n => n, g := fun x => x }
theorem sorted36 : SlLaysZ.n6 Try.prog sorted36_ren :=
  { mixed := by kernel_rfl,
    f6 := ⟨"slices.Sorted[string]", by decide, (Try.func36).trans (congrArg some (by kernel_rfl))⟩,
    f8 := ⟨"slices.Collect[string]", by decide, (Try.func43).trans (congrArg some (by kernel_rfl))⟩,
    f11 := ⟨"slices.AppendSeq[[]string,string]", by decide, (Try.func46).trans (congrArg some (by kernel_rfl))⟩,
    t0 := Try.underlying0,
    a0 := Try.isAgg0,
    z0 := Try.sizeOf0,
    v0 := Try.zeroValue0,
    t24 := Try.underlying36,
    a24 := Try.isAgg36,
    z24 := Try.sizeOf36,
    v24 := Try.zeroValue36,
    t26 := Try.underlying9,
    a26 := Try.isAgg9,
    z26 := Try.sizeOf9,
    v26 := Try.zeroValue9,
    t28 := Try.underlying75,
    a28 := Try.isAgg75,
    z28 := Try.sizeOf75,
    v28 := Try.zeroValue75,
    i26 := by kernel_rfl }
def sort44_ren : Shelf.Ren := { f := fun x => match x with | 6 => 44 | 8 => 48 | 9 => 47 | 19 => 58 | 20 => 59 | 21 => 49 | 22 => 50 | 23 => 51 | 24 => 52 | 25 => 53 | 26 => 54 | 27 => 55 | 28 => 56 | 29 => 57 | 36 => 60 | 31 => 61 | 32 => 62 | 37 => 63 | 38 => 64 | 39 => 65 | 41 => 66 | n => n, t := fun x => match x with | 27 => 36 | 29 => 9 | 3 => 3 | 32 => 84 | 26 => 36 | 0 => 0 | 44 => 52 | 46 => 96 | 4 => 4 | 36 => 87 | 35 => 86 | 41 => 92 | 5 => 5 | 9 => 9 | 53 => 97 | 57 => 101 | 63 => 103 | 64 => 104 | n => n, g := fun x => x }
theorem sort44 : SlLaysM.n6 Try.prog sort44_ren :=
  { mixed := by kernel_rfl,
    f6 := ⟨"slices.Sort[[]string,string]", by decide, (Try.func44).trans (congrArg some (by kernel_rfl))⟩,
    f8 := (Try.func48).trans (congrArg some (by kernel_rfl)),
    f9 := ⟨"slices.pdqsortOrdered[string]", by decide, (Try.func47).trans (congrArg some (by kernel_rfl))⟩,
    f19 := (Try.func58).trans (congrArg some (by kernel_rfl)),
    f20 := (Try.func59).trans (congrArg some (by kernel_rfl)),
    f21 := ⟨"slices.insertionSortOrdered[string]", by decide, (Try.func49).trans (congrArg some (by kernel_rfl))⟩,
    f22 := ⟨"slices.heapSortOrdered[string]", by decide, (Try.func50).trans (congrArg some (by kernel_rfl))⟩,
    f23 := ⟨"slices.breakPatternsOrdered[string]", by decide, (Try.func51).trans (congrArg some (by kernel_rfl))⟩,
    f24 := ⟨"slices.choosePivotOrdered[string]", by decide, (Try.func52).trans (congrArg some (by kernel_rfl))⟩,
    f25 := ⟨"slices.reverseRangeOrdered[string]", by decide, (Try.func53).trans (congrArg some (by kernel_rfl))⟩,
    f26 := ⟨"slices.partialInsertionSortOrdered[string]", by decide, (Try.func54).trans (congrArg some (by kernel_rfl))⟩,
    f27 := ⟨"cmp.Less[string]", by decide, (Try.func55).trans (congrArg some (by kernel_rfl))⟩,
    f28 := ⟨"slices.partitionEqualOrdered[string]", by decide, (Try.func56).trans (congrArg some (by kernel_rfl))⟩,
    f29 := ⟨"slices.partitionOrdered[string]", by decide, (Try.func57).trans (congrArg some (by kernel_rfl))⟩,
    f31 := (Try.func61).trans (congrArg some (by kernel_rfl)),
    f32 := (Try.func62).trans (congrArg some (by kernel_rfl)),
    f36 := ⟨"slices.siftDownOrdered[string]", by decide, (Try.func60).trans (congrArg some (by kernel_rfl))⟩,
    f37 := ⟨"slices.medianAdjacentOrdered[string]", by decide, (Try.func63).trans (congrArg some (by kernel_rfl))⟩,
    f38 := ⟨"slices.medianOrdered[string]", by decide, (Try.func64).trans (congrArg some (by kernel_rfl))⟩,
    f39 := ⟨"cmp.isNaN[string]", by decide, (Try.func65).trans (congrArg some (by kernel_rfl))⟩,
    f41 := ⟨"slices.order2Ordered[string]", by decide, (Try.func66).trans (congrArg some (by kernel_rfl))⟩,
    t0 := Try.underlying0,
    a0 := Try.isAgg0,
    z0 := Try.sizeOf0,
    v0 := Try.zeroValue0,
    t3 := Try.underlying3,
    a3 := Try.isAgg3,
    z3 := Try.sizeOf3,
    v3 := Try.zeroValue3,
    t4 := Try.underlying4,
    a4 := Try.isAgg4,
    z4 := Try.sizeOf4,
    v4 := Try.zeroValue4,
    t5 := Try.underlying5,
    a5 := Try.isAgg5,
    z5 := Try.sizeOf5,
    v5 := Try.zeroValue5,
    t9 := Try.underlying9,
    a9 := Try.isAgg9,
    z9 := Try.sizeOf9,
    v9 := Try.zeroValue9,
    t26 := Try.underlying36,
    a26 := Try.isAgg36,
    z26 := Try.sizeOf36,
    v26 := Try.zeroValue36,
    t27 := Try.underlying36,
    a27 := Try.isAgg36,
    z27 := Try.sizeOf36,
    v27 := Try.zeroValue36,
    t29 := Try.underlying9,
    a29 := Try.isAgg9,
    z29 := Try.sizeOf9,
    v29 := Try.zeroValue9,
    t32 := Try.underlying84,
    a32 := Try.isAgg84,
    z32 := Try.sizeOf84,
    v32 := Try.zeroValue84,
    t35 := Try.underlying86,
    a35 := Try.isAgg86,
    z35 := Try.sizeOf86,
    v35 := Try.zeroValue86,
    t36 := Try.underlying87,
    a36 := Try.isAgg87,
    z36 := Try.sizeOf87,
    v36 := Try.zeroValue87,
    t41 := Try.underlying92,
    a41 := Try.isAgg92,
    z41 := Try.sizeOf92,
    v41 := Try.zeroValue92,
    t44 := Try.underlying52,
    a44 := Try.isAgg52,
    z44 := Try.sizeOf52,
    v44 := Try.zeroValue52,
    t46 := Try.underlying96,
    a46 := Try.isAgg96,
    z46 := Try.sizeOf96,
    v46 := Try.zeroValue96,
    t53 := Try.underlying97,
    a53 := Try.isAgg97,
    z53 := Try.sizeOf97,
    v53 := Try.zeroValue97,
    t57 := Try.underlying101,
    a57 := Try.isAgg101,
    z57 := Try.sizeOf101,
    v57 := Try.zeroValue101,
    t63 := Try.underlying103,
    a63 := Try.isAgg103,
    z63 := Try.sizeOf103,
    v63 := Try.zeroValue103,
    t64 := Try.underlying104,
    a64 := Try.isAgg104,
    z64 := Try.sizeOf104,
    v64 := Try.zeroValue104 }
/-- maps.Keys at whatever map. -/
theorem mapKeys_file (mb : Option Nat) (W : World) : Calls Try.prog 37 #[.map mb] W fun e w' => e = .returned (.func (.func 45) #[] #[.pointer (some ⟨W.heap.size, 0, none⟩)]) ∧ w' = W.alloc (.cells #[.map mb] 62) :=
  callsIn_wide.1 (AnyZ.keys_in keys37 Fence.wide 5 trivial rfl mb W)
theorem sorts_36 (m : Nat) : AnyZ.SortsIn Try.prog sorted36_ren Fence.wide m :=
  ⟨fun blk off cap ss W hH hblk hsz => callsIn_wide.2 (AnyM.slices_Sort_string sort44 blk off cap ss W hH hblk hsz),
   fun p cap W => callsIn_wide.2 (AnyM.slices_Sort_string_none sort44 p cap W)⟩
/-- slices.Sorted at the keys of a map that isn't nil. -/
theorem sortedKeys_file {H : Type} (p b nn : Nat) (D0 : DataW H) (R : Value → Option (DataW H × List MemPlace)) (w : World) (hp : p < w.heap.size) (hc : w.cell? ⟨p, 0, none⟩ = some (.map (some b))) (hown : w.ownsMap Try.prog 9 R b nn D0) (hmax : Maps.size D0 ≤ maxLen) (hbytes : Maps.size D0 * 16 ≤ 140737488355328) :
    Calls Try.prog 36 #[.func (.func 45) #[] #[.pointer (some ⟨p, 0, none⟩)]] w fun e w' => ∃ (v : Value) (ss : List (List UInt8)), e = .returned v ∧ ss.Perm (strKeys D0) ∧
      w'.ownsRow w.heap.size 9 1 v ss.length ((ss.mergeSort (fun x y => decide (x ≤ y))).map encStr) ∧ (v = .slice none 0 0 ↔ ss = []) ∧ Below w.heap.size w w' :=
  callsIn_wide.1 (AnyZ.sorted_in sorted36 Fence.wide 5 trivial trivial trivial trivial rfl (by omega) (sorts_36 _) (enters_of Try.func44 (by kernel_rfl) rfl) 45 #[.pointer (some ⟨p, 0, none⟩)] trivial (enters_of Try.func45 (by kernel_rfl) rfl) _ _ hmax hbytes _
    (AnyZ.keys_gives (ρ := keys37_ren) { keys37 with } Fence.wide _ trivial rfl (by omega) p b nn D0 _ hp hc hown))
end Go.Proofs.Ytefpjdgfcgjbaaa

/- The contract of Names. -/
namespace Go.Proofs.Ytefpjdgfcgjbaaa
set_option linter.unusedVariables false
set_option linter.unusedSimpArgs false
open Go.RowKit
theorem names_sorted {fs : List Fi} (hu : UpF fs) : (fs.map (fun f => f.name)).Pairwise (fun x y => decide (x ≤ y) = true) := by
  rw [List.pairwise_map]
  exact hu.imp (fun {f g} h => decide_eq_true (Std.le_of_lt h))
set_option maxRecDepth 100000 in
set_option maxHeartbeats 4000000 in
theorem names_raw (p mb mn : Nat) (fs : List Fi) (X : List Nat) (w : World) (c1 : w.cell? ⟨p, 1, none⟩ = some (.map (some mb))) (hm : ∃ D, w.ownsMap Try.prog 9 ptrR mb mn D ∧ MapOf fs D) (hu : UpF fs) (hX : ∀ g ∈ X, g < w.heap.size) (hn : fs.length ≤ 1000000) :
    Calls Try.prog 15 #[.pointer (some ⟨p, 0, none⟩)] w fun x w' => (∃ a c, x = .returned (.slice a fs.length c) ∧ SlR strK w' (X) (fs.map (fun f => f.name)) a fs.length c) ∧ Below w.heap.size w w' := by
  have HM := Lib.hid hm
  have HU := Lib.hid hu
  have HLT := Lib.hid hX
  have HN := Lib.hid hn
  clear hm hn hu hX
  go_enter Try.func15, Try.ntmps15
  go_wp2_with fail
  go_at_call 37
  (with_reducible refine (mapKeys_file _ _).mono ?_)
  rintro y w1 ⟨rfl, rfl⟩
  have hb := (Below.refl w.heap.size w).alloc (Nat.le_refl _) (.cells #[.map (some mb)] 62)
  have HB1 := Lib.hid hb
  have HM1 : Hid (∃ D, (w.alloc (.cells #[.map (some mb)] 62)).ownsMap Try.prog 9 ptrR mb mn D ∧ MapOf fs D) := by
    obtain ⟨D, h1, h2⟩ := HM.out
    exact ⟨D, (Fr.of_below hb []).map h1 (by simp), h2⟩
  have BZ := Lib.hid (Mem.Blk.new w 62 #[.map (some mb)])
  clear hb HM c1
  go_wp2_with fail
  have HZW : Hid (w.heap.size ≤ w.heap.size) := Nat.le_refl _
  generalize hw1 : w.alloc (.cells #[.map (some mb)] 62) = w1 at *
  have hcz : w1.cell? ⟨w.heap.size, 0, none⟩ = some (Value.map (some mb)) := BZ.out.cell 0
  obtain ⟨D, hM, hMO⟩ := HM1.out
  have hsz := hMO.size
  go_at_call 36
  (with_reducible refine (sortedKeys_file w.heap.size mb mn D ptrR w1 BZ.out.lt hcz hM (by have := HN.out; unfold maxLen; omega) (by have := HN.out; omega)).mono ?_)
  rintro y w5 ⟨v', ss, rfl, hpm, hrow, -, hb⟩
  have hls : ss.mergeSort (fun x y => decide (x ≤ y)) = fs.map (fun f => f.name) := by
    rw [Go.mergeSort_of_perm (hpm.trans hMO.keys)]
    exact List.mergeSort_of_pairwise (names_sorted HU.out)
  have hll : ss.length = fs.length := by
    have := congrArg List.length hls
    rw [List.length_mergeSort, List.length_map] at this; exact this
  rw [hls, hll] at hrow
  have hs1 : w1.heap.size = w.heap.size + 1 := by rw [← hw1]; simp
  have HB5 := Lib.hid (HB1.out.trans (hb.mono HB1.out.size))
  obtain ⟨a', c', rfl, hsl⟩ := own_strs (w0 := w1) hrow (by rw [List.length_map]) hb (X := X) (fun g hg => by have := HLT.out g hg; omega)
  have FIN : Hid (∃ a c, Ending.returned (.slice a' fs.length c') = .returned (.slice a fs.length c) ∧ SlR strK w5 (X) (fs.map (fun f => f.name)) a fs.length c) := ⟨a', c', rfl, hsl⟩
  clear hsl hrow hpm hls hb hM hMO hsz hs1 hcz hll hw1
  go_wp2_with fail
  go_ret
  exact ⟨FIN.out, HB5.out⟩
theorem names_any (p : Nat) (s : St) (w : World) (hD : DkAt w p s) (hn : s.fs.length ≤ 1000000) :
    Calls Try.prog 15 #[.pointer (some ⟨p, 0, none⟩)] w fun x w' => (∃ a c, x = .returned (.slice a s.fs.length c) ∧ SlR strK w' (dks p s) (s.fs.map (fun f => f.name)) a s.fs.length c) ∧ Below w.heap.size w w' :=
  names_raw p s.mb s.mn s.fs (dks p s) w (dk8 hD.ptr).2.1 hD.map hD.ok.up hD.lt hn
end Go.Proofs.Ytefpjdgfcgjbaaa

/- The contract of a file's crash. -/
namespace Go.Proofs.Ytefpjdgfcgjbaaa
set_option linter.unusedVariables false
set_option linter.unusedSimpArgs false
open Go.RowKit
/-- How many bytes are kept. -/
def keptN (f : Fi) (bytes : Int) : Nat := f.safe + min (max bytes 0).toNat (f.data.size - f.safe)
/-- What of a file's bytes is left, from the place i on: the kept ones, a sector of them turned. -/
def turnB (sector : Int) (i : Nat) (b : UInt8) : UInt8 := if ((i / 64 : Nat) : Int) = sector then b ^^^ 165 else b
def crashL (f : Fi) (bytes sector : Int) : List UInt8 := (f.data.data.toList.take (keptN f bytes)).mapIdx (fun i b => if f.safe ≤ i then turnB sector i b else b)
def crashF (bytes sector : Int) (f : Fi) : Fi := ⟨f.name, ⟨(crashL f bytes sector).toArray⟩, keptN f bytes, f.blk⟩
theorem crashL_len (f : Fi) (bytes sector : Int) (h : f.safe ≤ f.data.size) : (crashL f bytes sector).length = keptN f bytes := by
  unfold crashL
  rw [List.length_mapIdx, List.length_take]
  have e : f.data.data.toList.length = f.data.size := by rw [Array.length_toList]; rfl
  rw [e]
  unfold keptN; omega
theorem keptN_le {f : Fi} (bytes : Int) (h : f.safe ≤ f.data.size) : keptN f bytes ≤ f.data.size := by unfold keptN; omega
/-- What stands when the bytes ahead of i are done. -/
def loopL (f : Fi) (n : Nat) (sector : Int) (i : Nat) : List UInt8 := (f.data.data.toList.take n).mapIdx (fun j b => if f.safe ≤ j ∧ j < i then turnB sector j b else b)
/-- A row of bytes that can be written. -/
def RowB (w : World) (g : Nat) (l : List UInt8) : Prop := ∀ j b, l[j]? = some b → w.cell? ⟨g, j, none⟩ = some (.int .u8 (b.toNat : Int)) ∧ w.frozen? ⟨g, j, none⟩ = false
theorem loopL_at (f : Fi) (n : Nat) (sector : Int) (i j : Nat) : (loopL f n sector i)[j]? = ((f.data.data.toList.take n)[j]?).map (fun b => if f.safe ≤ j ∧ j < i then turnB sector j b else b) := by
  unfold loopL
  rw [List.getElem?_mapIdx]
theorem loopL_end (f : Fi) (bytes sector : Int) : loopL f (keptN f bytes) sector (keptN f bytes) = crashL f bytes sector := by
  refine List.ext_getElem? (fun j => ?_)
  rw [loopL_at]
  unfold crashL
  rw [List.getElem?_mapIdx]
  cases h : (f.data.data.toList.take (keptN f bytes))[j]? with
  | none => rfl
  | some b =>
    have hj : j < keptN f bytes := by
      have := (List.getElem?_eq_some_iff.1 h).1
      rw [List.length_take] at this; omega
    simp [hj]
theorem loopL_next (f : Fi) (n : Nat) (sector : Int) (k j : Nat) (h : j ≠ k) : (loopL f n sector (k + 1))[j]? = (loopL f n sector k)[j]? := by
  rw [loopL_at, loopL_at]
  congr 1
  funext b
  have e : (f.safe ≤ j ∧ j < k + 1) ↔ (f.safe ≤ j ∧ j < k) := by omega
  simp only [e]
theorem rowB_miss {w : World} {g : Nat} {f : Fi} {n : Nat} {sector : Int} {k : Nat} (h : RowB w g (loopL f n sector k)) (hm : ((k / 64 : Nat) : Int) ≠ sector) : RowB w g (loopL f n sector (k + 1)) := by
  intro j b hj
  refine h j b ?_
  by_cases e : j = k
  · subst e
    rw [loopL_at] at hj ⊢
    rw [← hj]
    congr 1
    funext b
    rw [show turnB sector j b = b from if_neg hm]
    simp only [ite_self]
  · rw [← loopL_next f n sector k j e]; exact hj
theorem rowB_hit {w : World} {g : Nat} {f : Fi} {n : Nat} {sector : Int} {k : Nat} {b0 : UInt8} (h : RowB w g (loopL f n sector k)) (hs : f.safe ≤ k) (hb : (loopL f n sector k)[k]? = some b0) (hm : ((k / 64 : Nat) : Int) = sector) :
    RowB (w.setCell ⟨g, k, none⟩ (.int .u8 ((b0 ^^^ 165).toNat : Int))) g (loopL f n sector (k + 1)) := by
  intro j b hj
  by_cases e : j = k
  · subst e
    have hc := h j b0 hb
    have e2 : b = b0 ^^^ 165 := by
      rw [loopL_at] at hj hb
      cases hx : (f.data.data.toList.take n)[j]? with
      | none => rw [hx] at hb; cases hb
      | some x =>
        rw [hx] at hb hj
        simp only [Option.map_some, Option.some.injEq] at hb hj
        rw [if_neg (by omega)] at hb
        rw [if_pos (by omega)] at hj
        unfold turnB at hj
        rw [if_pos hm] at hj
        rw [← hj, hb]
    subst e2
    refine ⟨?_, ?_⟩
    · exact World.cell?_setCell_same w _ _ hc.1
    · rw [World.frozen?_setCell]; exact hc.2
  · have hc := h j b (by rw [← loopL_next f n sector k j e]; exact hj)
    refine ⟨?_, ?_⟩
    · rw [World.cell?_setCell_other (h := show (⟨g, k, none⟩ : Addr) ≠ ⟨g, j, none⟩ from by intro h; injection h with _ h; exact e h.symm)]; exact hc.1
    · rw [World.frozen?_setCell]; exact hc.2
theorem u8_xor_nat (a b : Nat) (ha : a < 256) (hb : b < 256) : bits .xor .u8 (a : Int) (b : Int) = ((a ^^^ b : Nat) : Int) := by
  have hx : a ^^^ b < 2 ^ 8 := Nat.xor_lt_two_pow (by omega) (by omega)
  show IntKind.u8.wrap ((BitVec.ofInt 8 (a : Int) ^^^ BitVec.ofInt 8 (b : Int)).toNat : Int) = _
  rw [BitVec.toNat_xor, ofInt_u8 a ha, ofInt_u8 b hb, IntKind.wrap_u8']
  omega
theorem xor_u8 (b : UInt8) : bits .xor .u8 (b.toNat : Int) 165 = ((b ^^^ 165).toNat : Int) := by
  rw [show (165 : Int) = ((165 : Nat) : Int) from rfl, u8_xor_nat _ _ b.toNat_lt (by omega), UInt8.toNat_xor]
  rfl
theorem loopL_len (f : Fi) (n : Nat) (sector : Int) (i : Nat) (h : n ≤ f.data.size) : (loopL f n sector i).length = n := by
  unfold loopL
  rw [List.length_mapIdx, List.length_take]
  have e : f.data.data.toList.length = f.data.size := by rw [Array.length_toList]; rfl
  rw [e]; omega
theorem bytes_below (w : World) (e : TypeId) (s : ByteArray) : Below w.heap.size w (Lib.bytesWorld w e s) :=
  ⟨rfl, rfl, rfl, by rw [Lib.bytesWorld_size]; omega, fun k hk => Lib.bytesWorld_at_old w e s k hk⟩
theorem rowB_start (w : World) (e : TypeId) (f : Fi) (n : Nat) (sector : Int) (h : n ≤ f.data.size) : RowB (Lib.bytesWorld w e (f.data.extract 0 n)) w.heap.size (loopL f n sector f.safe) := by
  intro j b hjb
  have hj : j < n := by rw [← loopL_len f n sector f.safe h]; exact (List.getElem?_eq_some_iff.1 hjb).1
  have hS : (f.data.extract 0 n).size = n := by rw [ByteArray.size_extract]; omega
  have hSL : (f.data.extract 0 n).data.toList = f.data.data.toList.take n := by
    rw [ByteArray.data_extract, Array.toList_extract]; simp
  refine ⟨?_, ?_⟩
  · rw [Lib.bytesWorld_cell w e _ j (by omega), hSL]
    rw [loopL_at] at hjb
    cases hx : (f.data.data.toList.take n)[j]? with
    | none => rw [hx] at hjb; cases hjb
    | some x =>
      rw [hx] at hjb
      simp only [Option.map_some, Option.some.injEq] at hjb
      rw [if_neg (by omega)] at hjb
      rw [List.getD_eq_getElem?_getD, hx, hjb]; rfl
  · have hb := Lib.bytesWorld_at_new w e (f.data.extract 0 n)
    have hz : (Lib.bytesCells w e (f.data.extract 0 n)).size ≥ n := by
      unfold Lib.bytesCells
      rw [Array.size_append, Array.size_map]
      have : (f.data.extract 0 n).data.size = n := hS
      omega
    unfold World.frozen?
    rw [hb]
    simp
    omega
set_option maxRecDepth 100000 in
set_option maxHeartbeats 4000000 in
theorem fcrash_any (f : Fi) (bytes sector : Int) (w : World) (hB : Mem.Blk w f.blk 69 (flC f)) (hsz : f.data.size ≤ 1048576 ∧ f.safe ≤ f.data.size) (hb : I64 bytes) :
    Calls Try.prog 35 #[.pointer (some ⟨f.blk, 0, none⟩), .agg #[.int .i64 bytes, .int .i64 sector]] w fun x w' => x = .returned (.tuple #[]) ∧ Fr [f.blk] w w' ∧ Mem.Blk w' f.blk 69 (flC (crashF bytes sector f)) := by
  have HB := Lib.hid hB
  have HK := Lib.hid (keptN_le (f := f) bytes hsz.2)
  have hkn : (f.safe : Int) + min (max bytes 0) ((f.data.size : Int) - (f.safe : Int)) = (keptN f bytes : Nat) := by unfold keptN; omega
  have hal := (Below.refl w.heap.size w).alloc (Nat.le_refl _) (.cells #[.int .i64 bytes, .int .i64 sector] 23)
  have BK := Lib.hid (Mem.Blk.new w 23 #[.int .i64 bytes, .int .i64 sector])
  have HB1 := Lib.hid (hB.below hal)
  have HF1 := Lib.hid (Fr.of_below hal [f.blk])
  have HSZ := Lib.hid hsz
  clear hB hal
  go_enter Try.func35, Try.ntmps35
  go_upto_region 1 with (fail)
  generalize w.alloc (.cells #[.int .i64 bytes, .int .i64 sector] 23) = w1 at *
  obtain ⟨k0, k1, -, -⟩ := BK.out.two
  obtain ⟨u0, u1, v0, v1⟩ := HB1.out.two
  go_cut [4] (fun v W => v = .int .i64 (keptN f bytes : Nat) ∧ Hid (Below w1.heap.size w1 W))
  case first =>
    go_quiet (fail)
    go_wp2_with fail
    go_meet
    case rel =>
      refine ⟨?_, below_dN (Below.refl _ _) _⟩
      rw [← hkn]
      try (congr 1; first | rfl | omega | (split <;> split <;> omega) | (split <;> omega))
  case rest =>
  obtain ⟨rfl, HBW⟩ := hcut
  obtain ⟨w2, rfl⟩ : ∃ W : World, W = wc := ⟨_, rfl⟩
  have HB2 := Lib.hid (HB1.out.below HBW.out)
  have BK2 := Lib.hid (BK.out.below HBW.out)
  have HF2 := Lib.hid (HF1.out.trans (Fr.of_below HBW.out [f.blk]))
  clear HB1 BK HF1 k0 k1 u0 u1 v0 v1 hkn HBW
  obtain ⟨u0, u1, v0, v1⟩ := HB2.out.two
  have hkl : (keptN f bytes : Int) ≤ (f.data.size : Int) := by have := HK.out; omega
  have hk0 : (0 : Int) ≤ (keptN f bytes : Int) := by omega
  obtain ⟨n, hn⟩ : ∃ n, n = keptN f bytes := ⟨_, rfl⟩
  have HN := Lib.hid hn
  have HSN : Hid (f.safe ≤ n) := by show _ ≤ _; rw [hn]; unfold keptN; omega
  rw [← hn] at HK hkl hk0 ⊢
  clear hn
  have hS : (f.data.extract 0 n).size = n := by rw [ByteArray.size_extract]; have := HK.out; omega
  have hSL : (f.data.extract 0 n).data.toList = f.data.data.toList.take n := by
    rw [ByteArray.data_extract, Array.toList_extract]; simp
  have hcv := Lib.run_convert_string_bytes (P := Try.prog) w2 9 35 5 (f.data.extract 0 n) Try.underlying9 Try.underlying35 Try.underlying5
  have hW : ∀ j, j < w2.heap.size → (Lib.bytesWorld w2 5 (f.data.extract 0 n)).heap[j]? = w2.heap[j]? := fun j hj => Lib.bytesWorld_at_old w2 5 (f.data.extract 0 n) j hj
  have HW0 := Lib.hid (bytes_below w2 5 (f.data.extract 0 n))
  have HRow : Hid (RowB (Lib.bytesWorld w2 5 (f.data.extract 0 n)) w2.heap.size (loopL f n sector f.safe)) := rowB_start w2 5 f n sector (by have := HK.out; omega)
  rw [hS] at hcv
  clear hW
  go_upto_region 3 with (fail)
  clear hcv u0 u1 v0 v1
  generalize Lib.bytesWorld w2 5 (f.data.extract 0 n) = w3 at *
  have HB3 := Lib.hid (HB2.out.below HW0.out)
  have BK3 := Lib.hid (BK2.out.below HW0.out)
  obtain ⟨u0, u1, v0, v1⟩ := HB3.out.two
  go_wp2_with fail
  go_loopw [6] (fun i wr => ∃ (k : Nat), i = .int .i64 (k : Nat) ∧ f.safe ≤ k ∧ k ≤ n ∧ Hid (RowB wr w2.heap.size (loopL f n sector k) ∧ Fr [w2.heap.size] w3 wr)) (fun i _ => n - (intOf i).toNat)
  case atStart => exact ⟨f.safe, rfl, Nat.le_refl _, HSN.out, HRow.out, Fr.refl _ _⟩
  case round =>
    obtain ⟨k, rfl, hk1, hk2, HR⟩ := hrel
    have HBR : Hid (Mem.Blk wr f.blk 69 (flC f)) := HR.out.2.blk HB3.out (by simp; exact Nat.ne_of_lt HB2.out.lt)
    have HKR : Hid (Mem.Blk wr w.heap.size 23 #[.int .i64 bytes, .int .i64 sector]) := HR.out.2.blk BK3.out (by simp; exact Nat.ne_of_lt BK2.out.lt)
    clear u0 u1 v0 v1
    have q1 : wr.cell? ⟨w.heap.size, 1, none⟩ = some (.int .i64 sector) := HKR.out.cell 1
    have hk64 : IntKind.i64.wrap (((k : Nat) : Int).tdiv 64) = ((k / 64 : Nat) : Int) := by
      have e : ((k : Nat) : Int).tdiv 64 = ((k / 64 : Nat) : Int) := rfl
      rw [e]
      exact IntWalk.i64_in _ (by have := HK.out; have := HSZ.out; omega)
    by_cases hlt : k < n
    · have hlt' : (k : Int) < (n : Int) := by omega
      have i0 : (0 : Int) ≤ (k : Int) := by omega
      obtain ⟨b0, hb0⟩ : ∃ b0, (loopL f n sector k)[k]? = some b0 := ⟨_, List.getElem?_eq_getElem (by rw [loopL_len f n sector k HK.out]; exact hlt)⟩
      obtain ⟨r0, r1⟩ := HR.out.1 k b0 hb0
      have HB0 := Lib.hid hb0
      clear hb0
      by_cases hsec : ((k / 64 : Nat) : Int) = sector
      · have hse : ((k : Int) / 64 == sector) = true := by rw [beq_iff_eq]; omega
        have HSEC := Lib.hid hsec
        clear hsec
        have hx := xor_u8 b0
        go_wp2_with fail
        go_roundw
        case rel => exact ⟨k + 1, by go_num, by omega, by omega, rowB_hit HR.out.1 hk1 HB0.out HSEC.out, HR.out.2.trans (Fr.setCell wr (by simp) _)⟩
        case measure => simp [intOf]; omega
      · have hse : ((k : Int) / 64 == sector) = false := by rw [beq_eq_false_iff_ne]; omega
        have HSEC := Lib.hid hsec
        clear hsec
        go_wp2_with fail
        go_roundw
        case rel => exact ⟨k + 1, by go_num, by omega, by omega, rowB_miss HR.out.1 HSEC.out, HR.out.2⟩
        case measure => simp [intOf]; omega
    · have hlt' : ¬ (k : Int) < (n : Int) := by omega
      obtain rfl : k = n := by omega
      have hL : loopL f k sector k = crashL f bytes sector := by rw [HN.out]; exact loopL_end f bytes sector
      have hlen : (crashL f bytes sector).length = k := by rw [← hL]; exact loopL_len f k sector k HK.out
      have hrow := HR.out.1
      rw [hL] at hrow
      have hcv := fun dst cap => @run_convert_bytes_back Try.prog wr 35 dst 5 ⟨w2.heap.size, 0, none⟩ cap (crashL f bytes sector) Try.underlying35 Try.underlying5
      have hcb : (convert 35 9 (.slice (some ⟨w2.heap.size, 0, none⟩) (crashL f bytes sector).length (grownCap w2 k 0 5))).run Try.prog wr = .ok (.string ⟨(crashL f bytes sector).toArray⟩) wr :=
        hcv 9 _ Try.underlying9 (fun j hj => by
          rw [Mem.add0]
          exact (hrow j _ (List.getElem?_eq_getElem hj)).1)
      rw [hlen] at hcb
      obtain ⟨u0, u1, v0, v1⟩ := HBR.out.two
      have hn2 : f.blk ≠ w2.heap.size := Nat.ne_of_lt HB2.out.lt
      have hfr : Fr [f.blk] w ((wr.setCell ⟨f.blk, 0, none⟩ (.string ⟨(crashL f bytes sector).toArray⟩)).setCell ⟨f.blk, 1, none⟩ (.int .i64 (k : Nat))) := by
        have h1 := HF2.out.trans (Fr.of_below HW0.out [f.blk])
        have h2 : Fr [f.blk, w2.heap.size] w ((wr.setCell ⟨f.blk, 0, none⟩ (.string ⟨(crashL f bytes sector).toArray⟩)).setCell ⟨f.blk, 1, none⟩ (.int .i64 (k : Nat))) := (h1.more (by simp)).trans ((HR.out.2.more (by simp)).trans ((Fr.setCell wr (by simp) _).trans (Fr.setCell _ (by simp) _)))
        refine h2.fresh (fun b hb => ?_)
        simp only [List.mem_cons, List.not_mem_nil, or_false] at hb
        rcases hb with rfl | rfl
        · exact .inl (by simp)
        · exact .inr HF2.out.size
      have hblk : Mem.Blk ((wr.setCell ⟨f.blk, 0, none⟩ (.string ⟨(crashL f bytes sector).toArray⟩)).setCell ⟨f.blk, 1, none⟩ (.int .i64 (k : Nat))) f.blk 69 (flC (crashF bytes sector f)) := by
        have h := (HBR.out.set_ 0 (.string ⟨(crashL f bytes sector).toArray⟩)).set_ 1 (.int .i64 (k : Nat))
        unfold crashF
        rw [← HN.out]
        exact h
      have FIN := Lib.hid (And.intro hfr hblk)
      clear hfr hblk hrow hL hlen hcv HR HRow q1 hk64 HKR HBR HN
      go_wp2_with fail
      go_end0
      exact ⟨rfl, FIN.out⟩
end Go.Proofs.Ytefpjdgfcgjbaaa
