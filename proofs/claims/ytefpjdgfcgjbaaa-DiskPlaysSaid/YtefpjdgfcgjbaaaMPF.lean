/- A part of the proof: DkMo, DkMp, DkMq, DkX, one behind another. -/
import Derived.Test.YtefpjdgfcgjbaaaMPA
import Derived.Test.YtefpjdgfcgjbaaaMPB
import Derived.Test.YtefpjdgfcgjbaaaMPC
import Derived.Test.YtefpjdgfcgjbaaaMPD
import Derived.Test.YtefpjdgfcgjbaaaMPE
import Derived.Sort.Walk0
import Derived.BigQuiet
import Derived.Laws.Cover1
/- The document's disk in memory; the contracts of find, used, drop, put. -/
namespace Go.Proofs.Ytefpjdgfcgjbaaa
set_option linter.unusedVariables false
set_option linter.unusedSimpArgs false
open Go.RowKit
/-- The model has the same state as a disk; its map, and where files lie, count for nothing. -/
abbrev Md := St
def mdC (m : Md) (v : Value) : Array Value := #[.int .i64 m.room, v, .bool m.off, .bool m.armed, .int .i64 m.left, .int .i64 m.written, .int .i64 m.calls]
def flD (f : Fi) : List Value := [.string ⟨f.name.toArray⟩, .string f.data, .int .i64 (f.safe : Nat)]
def flR (fs : List Fi) : List Value := (fs.map flD).flatten
theorem infoFl : (Try.prog.info? 58).map (fun i => (i.zero, i.size, i.bytes)) = some (some (.agg #[.string ⟨#[]⟩, .string ⟨#[]⟩, .int .i64 0]), 3, 40) := by kernel_rfl
structure MdAt (base : Nat) (w : World) (q : Nat) (m : Md) (fa : Option Addr) (fc : Nat) : Prop where
  ptr : Mem.Blk w q 49 (mdC m (.slice fa m.fs.length fc))
  row : w.ownsRow base 58 3 (.slice fa m.fs.length fc) m.fs.length (flR m.fs)
  lo : base ≤ q
theorem flR_append (a b : List Fi) : flR (a ++ b) = flR a ++ flR b := by unfold flR; rw [List.map_append, List.flatten_append]
theorem flR_one (f : Fi) : flR [f] = flD f := by unfold flR; simp
theorem flR_at (fs : List Fi) {k : Nat} {f : Fi} (h : fs[k]? = some f) (j : Nat) (hj : j < 3) : (flR fs)[k * 3 + j]? = (flD f)[j]? := by
  unfold flR
  exact flat_get 3 _ (fun c hc => by obtain ⟨x, _, rfl⟩ := List.mem_map.1 hc; rfl) k j (flD f) (by rw [List.getElem?_map, h]; rfl) hj
theorem own_base {w : World} {base base' : Nat} {e : TypeId} {sz n : Nat} {v : Value} {xs : List Value} (h : w.ownsRow base e sz v n xs) (hb : base' ≤ base) : w.ownsRow base' e sz v n xs := by
  refine ⟨h.1, ?_⟩
  rcases h.2 with h2 | ⟨g, cap, cur, h1, h2, h3⟩
  · exact .inl h2
  · exact .inr ⟨g, cap, cur, h1, by omega, h3⟩
section
variable {base : Nat} {w w' : World} {q : Nat} {m : Md} {fa : Option Addr} {fc : Nat}
theorem MdAt.below (h : MdAt base w q m fa fc) (b : Below w.heap.size w w') : MdAt base w' q m fa fc := ⟨h.ptr.below b, own_below h.row b, h.lo⟩
theorem row_at {n : Nat} {fs : List Fi} (h : w.ownsRow base 58 3 (.slice fa n fc) n (flR fs)) (hn : fs.length = n) (k : Nat) (hk : k < n) : ∃ g f, fa = some ⟨g, 0, none⟩ ∧ fs[k]? = some f ∧ w.cell? ⟨g, k * 3, none⟩ = some (.string ⟨f.name.toArray⟩) ∧ w.cell? ⟨g, k * 3 + 1, none⟩ = some (.string f.data) ∧ w.cell? ⟨g, k * 3 + 2, none⟩ = some (.int .i64 (f.safe : Nat)) ∧ (∀ j, w.frozen? ⟨g, j, none⟩ = false) := by
  obtain ⟨g, cap, hv, -⟩ := own_form h (by omega)
  injection hv with h1 _ h3
  subst h1; subst h3
  have hf : fs[k]? = some (fs[k]'(by omega)) := List.getElem?_eq_getElem (by omega)
  refine ⟨g, fs[k]'(by omega), rfl, hf, ?_, ?_, ?_, fun j => h.frozenAt j⟩
  · have := h.cellAt (k * 3 + 0) (by omega)
    rw [flR_at fs hf 0 (by omega)] at this; exact this
  · have := h.cellAt (k * 3 + 1) (by omega)
    rw [flR_at fs hf 1 (by omega)] at this; exact this
  · have := h.cellAt (k * 3 + 2) (by omega)
    rw [flR_at fs hf 2 (by omega)] at this; exact this
theorem MdAt.at (h : MdAt base w q m fa fc) (k : Nat) (hk : k < m.fs.length) : ∃ g f, fa = some ⟨g, 0, none⟩ ∧ m.fs[k]? = some f ∧ w.cell? ⟨g, k * 3, none⟩ = some (.string ⟨f.name.toArray⟩) ∧ w.cell? ⟨g, k * 3 + 1, none⟩ = some (.string f.data) ∧ w.cell? ⟨g, k * 3 + 2, none⟩ = some (.int .i64 (f.safe : Nat)) ∧ (∀ j, w.frozen? ⟨g, j, none⟩ = false) := row_at h.row rfl k hk
theorem MdAt.gq (h : MdAt base w q m fa fc) {g : Nat} (hg : (Value.slice fa m.fs.length fc).ownBlock = some g) : g ≠ q := by
  intro e
  subst e
  rcases h.row.2 with ⟨h1, h2⟩ | ⟨g', cap, cur, h1, h2, h3, -⟩
  · injection h1 with h1; subst h1; cases hg
  · injection h1 with h1 _ _
    subst h1
    injection hg with hg
    have hg' : g' = g := hg
    subst hg'
    have hb := h.ptr
    unfold Mem.Blk at hb
    rw [h3] at hb
    injection hb with hb
    injection hb with _ hb
    exact absurd hb (by decide)
end
theorem md7 {w : World} {q : Nat} {m : Md} {v : Value} (h : Mem.Blk w q 49 (mdC m v)) : w.cell? ⟨q, 0, none⟩ = some (.int .i64 m.room) ∧ w.cell? ⟨q, 1, none⟩ = some v ∧ w.cell? ⟨q, 2, none⟩ = some (.bool m.off) ∧ w.cell? ⟨q, 3, none⟩ = some (.bool m.armed) ∧ w.cell? ⟨q, 4, none⟩ = some (.int .i64 m.left) ∧ w.cell? ⟨q, 5, none⟩ = some (.int .i64 m.written) ∧ w.cell? ⟨q, 6, none⟩ = some (.int .i64 m.calls) :=
  ⟨h.cell 0, h.cell 1, h.cell 2, h.cell 3, h.cell 4, h.cell 5, h.cell 6⟩
theorem findF_first {fs : List Fi} {t : Nm} {k : Nat} {f : Fi} (hf : fs[k]? = some f) (ht : f.name = t) (h : ∀ (j : Nat) (g : Fi), j < k → fs[j]? = some g → g.name ≠ t) : findF fs t = some f := by
  induction fs generalizing k with
  | nil => cases hf
  | cons x l ih =>
    unfold findF
    rw [List.find?_cons]
    cases k with
    | zero => injection hf with hf; subst hf; have : (x.name == t) = true := by simpa using ht
              rw [this]
    | succ k =>
      have : (x.name == t) = false := by simpa using h 0 x (by omega) rfl
      rw [this]
      exact ih (k := k) hf (fun j g hj hg => h (j + 1) g (by omega) hg)
/-- Where a file stands. -/
def IdxR (fs : List Fi) (t : Nm) (i : Int) : Prop := (∃ (k : Nat) (f : Fi), i = (k : Nat) ∧ fs[k]? = some f ∧ findF fs t = some f) ∨ (i = -1 ∧ findF fs t = none)
theorem str_eq {t : Nm} {nm : ByteArray} : ((⟨t.toArray⟩ : ByteArray).toList == nm.toList) = (t == nm.data.toList) := by rw [ByteArray.toList_mk, ByteArray.toList_eq]
set_option maxRecDepth 100000 in
set_option maxHeartbeats 4000000 in
theorem find_any (base q : Nat) (m : Md) (fa : Option Addr) (fc : Nat) (nm : ByteArray) (w : World) (h : MdAt base w q m fa fc) (hn : m.fs.length ≤ 1000) :
    Calls Try.prog 25 #[.pointer (some ⟨q, 0, none⟩), .string nm] w fun x w' => (∃ i, x = .returned (.int .i64 i) ∧ IdxR m.fs nm.data.toList i) ∧ w' = w := by
  have HM := Lib.hid h
  obtain ⟨c0, c1, -⟩ := md7 h.ptr
  clear h c0
  go_enter Try.func25, Try.ntmps25
  go_wp2_with fail
  go_loopw [5] (fun i wr => ∃ (k : Nat), i = .int .i64 (k : Nat) ∧ k ≤ m.fs.length ∧ wr = w ∧ Hid (∀ (j : Nat) (g : Fi), j < k → m.fs[j]? = some g → g.name ≠ nm.data.toList)) (fun i _ => m.fs.length - (intOf i).toNat)
  case atStart => exact ⟨0, rfl, Nat.zero_le _, rfl, fun j g hj => absurd hj (by omega)⟩
  case round =>
    obtain ⟨k, rfl, hk, rfl, HG⟩ := hrel
    by_cases hlt : k < m.fs.length
    · have hlt' : (k : Int) < (m.fs.length : Int) := by omega
      have i0 : (0 : Int) ≤ (k : Int) := by omega
      have i1 : (k : Int) ≤ 1000 := by omega
      obtain ⟨g, f, rfl, hf, u0, -⟩ := HM.out.at k hlt
      have HF := Lib.hid hf
      clear hf
      by_cases hnm : f.name = nm.data.toList
      · have he : ((⟨f.name.toArray⟩ : ByteArray).toList == nm.toList) = true := by rw [str_eq]; simpa using hnm
        have FIN : Hid (IdxR m.fs nm.data.toList (k : Nat)) := by
          show IdxR _ _ _
          exact Or.inl ⟨k, f, rfl, HF.out, findF_first HF.out hnm HG.out⟩
        generalize (⟨f.name.toArray⟩ : ByteArray) = T at *
        clear HG HF hnm
        go_wp2_with fail
        go_ret
        exact ⟨⟨_, rfl, FIN.out⟩, rfl⟩
      · have he : ((⟨f.name.toArray⟩ : ByteArray).toList == nm.toList) = false := by rw [str_eq]; simpa using hnm
        have HG2 : Hid (∀ (j : Nat) (g : Fi), j < k + 1 → m.fs[j]? = some g → g.name ≠ nm.data.toList) := by
          intro j g' hj hg
          by_cases hjk : j < k
          · exact HG.out j g' hjk hg
          · obtain rfl : j = k := by omega
            rw [HF.out] at hg; injection hg with hg; subst hg; exact hnm
        generalize (⟨f.name.toArray⟩ : ByteArray) = T at *
        clear HG HF hnm
        go_wp2_with fail
        go_roundw
        case rel => exact ⟨k + 1, by go_num, by omega, trivial, HG2.out⟩
        case measure => simp [intOf]; omega
    · have hlt' : ¬ (k : Int) < (m.fs.length : Int) := by omega
      have FIN : Hid (IdxR m.fs nm.data.toList (-1)) := by
        show IdxR _ _ _
        refine Or.inr ⟨rfl, ?_⟩
        cases hx : findF m.fs nm.data.toList with
        | none => rfl
        | some f =>
          obtain ⟨h1, h2⟩ := findF_mem hx
          obtain ⟨j, hj⟩ := List.getElem?_of_mem h1
          exact absurd h2 (HG.out j f (by have := (List.getElem?_eq_some_iff.1 hj).1; omega) hj)
      clear HG
      go_wp2_with fail
      go_ret
      exact ⟨⟨_, rfl, FIN.out⟩, rfl⟩
set_option maxRecDepth 100000 in
set_option maxHeartbeats 4000000 in
theorem musedd_any (base q : Nat) (m : Md) (fa : Option Addr) (fc : Nat) (w : World) (h : MdAt base w q m fa fc) (hn : m.fs.length ≤ 1000) (hs : sumD m.fs ≤ 1000000000) :
    Calls Try.prog 40 #[.pointer (some ⟨q, 0, none⟩)] w fun x w' => x = .returned (.int .i64 (sumD m.fs : Nat)) ∧ w' = w := by
  have HM := Lib.hid h
  obtain ⟨c0, c1, -⟩ := md7 h.ptr
  have HS := Lib.hid hs
  clear h c0 hs
  go_enter Try.func40, Try.ntmps40
  go_wp2_with fail
  go_loopw [3, 4] (fun s i wr => ∃ (k : Nat), s = .int .i64 (sumD (m.fs.take k) : Nat) ∧ i = .int .i64 (k : Nat) ∧ k ≤ m.fs.length ∧ wr = w) (fun _ i _ => m.fs.length - (intOf i).toNat)
  case atStart => exact ⟨0, rfl, rfl, Nat.zero_le _, rfl⟩
  case round =>
    obtain ⟨k, rfl, rfl, hk, rfl⟩ := hrel
    by_cases hlt : k < m.fs.length
    · have hlt' : (k : Int) < (m.fs.length : Int) := by omega
      have i0 : (0 : Int) ≤ (k : Int) := by omega
      have i1 : (k : Int) ≤ 1000 := by omega
      obtain ⟨g, f, rfl, hf, -, u1, -⟩ := HM.out.at k hlt
      have hst := sumD_take hf
      have hle := sumD_take_le m.fs (k + 1)
      have hwr : IntKind.i64.wrap (((sumD (m.fs.take k) : Nat) : Int) + (f.data.size : Int)) = ((sumD (m.fs.take (k + 1)) : Nat) : Int) := by
        have := HS.out
        rw [IntWalk.i64_in _ (by omega), hst]; push_cast; rfl
      clear hst hle hf
      generalize f.data = D at *
      have HQ : Hid (∃ q1, q1 = sumD (m.fs.take (k + 1))) := ⟨_, rfl⟩
      obtain ⟨q1, hq1⟩ := HQ.out
      rw [← hq1] at hwr
      have HQ1 := Lib.hid hq1
      clear hq1 HQ
      generalize sumD (m.fs.take k) = q0 at *
      go_wp2_with fail
      go_roundw
      case rel => exact ⟨k + 1, by rw [← HQ1.out], by go_num, by omega, trivial⟩
      case measure => simp [intOf]; omega
    · have hlt' : ¬ (k : Int) < (m.fs.length : Int) := by omega
      have HE : Hid (sumD (m.fs.take k) = sumD m.fs) := by show _ = _; rw [List.take_of_length_le (by omega)]
      generalize sumD (m.fs.take k) = q0 at *
      go_wp2_with fail
      go_ret
      exact ⟨by rw [HE.out]; rfl, rfl⟩
end Go.Proofs.Ytefpjdgfcgjbaaa

/- The document's disk: the contracts of drop and put. -/
namespace Go.Proofs.Ytefpjdgfcgjbaaa
set_option linter.unusedVariables false
set_option linter.unusedSimpArgs false
open Go.RowKit
/-- The blocks of a model. -/
def mks (q : Nat) (fa : Option Addr) : List Nat := q :: (fa.map (fun a => a.block)).toList
/-- What a call that works on the model leaves. -/
structure MdStep (q : Nat) (fa fa' : Option Addr) (w w' : World) : Prop where
  fr : Fr (mks q fa) w w'
  own : ∀ b ∈ mks q fa', b ∈ mks q fa ∨ w.heap.size ≤ b
section
variable {base : Nat} {w w' w'' : World} {q : Nat} {m : Md} {fa fa' fa'' : Option Addr} {fc : Nat}
theorem MdStep.refl (q : Nat) (fa : Option Addr) (w : World) : MdStep q fa fa w w := ⟨Fr.refl _ _, fun b hb => .inl hb⟩
theorem MdStep.trans (h : MdStep q fa fa' w w') (k : MdStep q fa' fa'' w' w'') : MdStep q fa fa'' w w'' := by
  have hz := h.fr.size
  refine ⟨((h.fr.more (X' := mks q fa ++ mks q fa') (fun b hb => List.mem_append.2 (.inl hb))).trans (k.fr.more (fun b hb => List.mem_append.2 (.inr hb)))).fresh (fun b hb => ?_), fun b hb => ?_⟩
  · rcases List.mem_append.1 hb with hb | hb
    · exact .inl hb
    · exact h.own b hb
  · rcases k.own b hb with hb | hb
    · exact h.own b hb
    · exact .inr (by omega)
theorem MdStep.below (b : Below w.heap.size w w') : MdStep q fa fa w w' := ⟨Fr.of_below b _, fun b hb => .inl hb⟩
theorem MdAt.own (h : MdAt base w q m fa fc) : ∀ b ∈ mks q fa, base ≤ b ∧ b < w.heap.size := by
  intro b hb
  rcases List.mem_cons.1 hb with rfl | hb
  · exact ⟨h.lo, h.ptr.lt⟩
  · rcases h.row.2 with ⟨h1, h2⟩ | ⟨g, cap, cur, h1, h2, h3, h4⟩
    · injection h1 with h1; subst h1; simp at hb
    · injection h1 with h1 _ _; subst h1
      simp at hb; subst hb
      exact ⟨h2, lt_of_block h3⟩
/-- What else is written stays out of the model. -/
theorem MdAt.fr {X : List Nat} (h : MdAt base w q m fa fc) (b : Fr X w w') (hX : ∀ g ∈ X, g ∉ mks q fa) : MdAt base w' q m fa fc := by
  have hn : ∀ g ∈ mks q fa, g ∉ X := fun g hg hx => hX g hx hg
  refine ⟨b.blk h.ptr (hn q (List.mem_cons_self ..)), ⟨h.row.1, ?_⟩, h.lo⟩
  rcases h.row.2 with h1 | ⟨g, cap, cur, h1, h2, h3, h4⟩
  · exact .inl h1
  · refine .inr ⟨g, cap, cur, h1, h2, ?_, h4⟩
    have h5 : g ∉ X := hn g (by injection h1 with h1 _ _; subst h1; simp [mks])
    have := b.kept.2 g (lt_of_block h3) h5
    rw [this]; exact h3
end
theorem up_ne {fs : List Fi} (hu : UpF fs) {i j : Nat} {a b : Fi} (ha : fs[i]? = some a) (hb : fs[j]? = some b) (h : i ≠ j) : a.name ≠ b.name := by
  intro e
  obtain ⟨h1, e1⟩ := List.getElem?_eq_some_iff.1 ha
  obtain ⟨h2, e2⟩ := List.getElem?_eq_some_iff.1 hb
  unfold UpF at hu
  rcases Nat.lt_or_gt_of_ne h with hlt | hlt
  · have := List.pairwise_iff_getElem.1 hu i j h1 h2 hlt
    rw [e1, e2, e] at this
    exact List.lt_irrefl _ this
  · have := List.pairwise_iff_getElem.1 hu j i h2 h1 hlt
    rw [e1, e2, e] at this
    exact List.lt_irrefl _ this
theorem updF_set {fs : List Fi} {h : Fi → Fi} (hu : UpF fs) {k : Nat} {f : Fi} (hf : fs[k]? = some f) : updF f.name h fs = fs.set k (h f) := by
  refine List.ext_getElem? (fun j => ?_)
  unfold updF
  rw [List.getElem?_map, List.getElem?_set]
  by_cases e : k = j
  · subst e
    rw [hf, if_pos rfl, if_pos (List.getElem?_eq_some_iff.1 hf).1]
    simp
  · rw [if_neg e]
    cases hx : fs[j]? with
    | none => rfl
    | some g =>
      have := up_ne hu hf hx e
      have h2 : (g.name == f.name) = false := by simpa using fun h => this h.symm
      show some (if (g.name == f.name) = true then h g else g) = some g
      rw [h2]; rfl
theorem delF_erase {fs : List Fi} (hu : UpF fs) {k : Nat} {f : Fi} (hf : fs[k]? = some f) : delF f.name fs = fs.eraseIdx k := by
  induction fs generalizing k with
  | nil => cases hf
  | cons x t ih =>
    have hu' := hu
    unfold UpF at hu
    rw [List.pairwise_cons] at hu
    cases k with
    | zero =>
      injection hf with hf
      subst hf
      unfold delF
      rw [List.filter_cons]
      simp only [beq_self_eq_true, Bool.not_true, Bool.false_eq_true, if_false]
      refine List.filter_eq_self.2 (fun g hg => ?_)
      have h1 := hu.1 g hg
      have : g.name ≠ x.name := fun e => List.lt_irrefl _ (e ▸ h1)
      simpa using this
    | succ k =>
      have hf' : t[k]? = some f := hf
      have hne := up_ne hu' (i := 0) (j := k + 1) (a := x) rfl hf (by omega)
      have e : delF f.name (x :: t) = x :: delF f.name t := by
        unfold delF
        rw [List.filter_cons]
        have : (x.name == f.name) = false := by simpa using hne
        rw [this]; rfl
      rw [e, ih hu.2 hf']; rfl
theorem erase_same (fs : List Fi) {k : Nat} (hk : k < fs.length) : (fs.take (k + 1)).eraseIdx k = (fs.take k).eraseIdx k := by
  rw [← List.take_append_getElem hk, List.eraseIdx_append_of_length_le (by rw [List.length_take]; omega)]
  have e : (fs.take k).eraseIdx k = fs.take k := List.eraseIdx_of_length_le (by rw [List.length_take]; omega)
  rw [e, List.length_take, Nat.min_eq_left (by omega), Nat.sub_self]
  simp
theorem erase_more (fs : List Fi) {i k : Nat} {f : Fi} (hf : fs[k]? = some f) (h : k ≠ i) : (fs.take (k + 1)).eraseIdx i = (fs.take k).eraseIdx i ++ [f] := by
  obtain ⟨hk, e⟩ := List.getElem?_eq_some_iff.1 hf
  rw [← List.take_append_getElem hk, e]
  by_cases hik : i < k
  · rw [List.eraseIdx_append_of_lt_length (by rw [List.length_take]; omega)]
  · rw [List.eraseIdx_of_length_le (by simp [List.length_take]; omega), List.eraseIdx_of_length_le (by rw [List.length_take]; omega)]
theorem one_fl (f : Fi) : ∀ u ∈ flD f, u.oneCell' = true := by
  intro u hu
  simp only [flD, List.mem_cons, List.not_mem_nil, or_false] at hu
  rcases hu with rfl | rfl | rfl <;> simp [Value.oneCell']
/-- The model is another one now. -/
def MdDone (base q : Nat) (fa : Option Addr) (w w' : World) (m' : Md) : Prop := ∃ fa' fc', MdAt base w' q m' fa' fc' ∧ MdStep q fa fa' w w'
theorem md_turn {base : Nat} {w w1 : World} {q : Nat} {m : Md} {fa : Option Addr} {fc : Nat} (h : MdAt base w q m fa fc) (b : Below w.heap.size w w1) (ys : List Fi) (v : Value) (hr : w1.ownsRow w.heap.size 58 3 v ys.length (flR ys)) :
    MdDone base q fa w (w1.setCell ⟨q, 1, none⟩ v) { m with fs := ys } := by
  obtain ⟨a, c, rfl⟩ := own_slice hr
  have hq := h.ptr.lt
  have hn : (Value.slice a ys.length c).ownBlock ≠ some q := by
    intro e
    have := (own_lt hr e).1
    omega
  refine ⟨a, c, ⟨(h.ptr.below b).set_ 1 _, own_base (ownsRow_setCell_other hr hn _) (Nat.le_trans h.lo (Nat.le_of_lt hq)), h.lo⟩, ?_, fun g hg => ?_⟩
  · exact (Fr.of_below b _).trans (Fr.setCell (X := mks q fa) (p := ⟨q, 1, none⟩) w1 (List.mem_cons_self ..) _)
  · rcases List.mem_cons.1 hg with rfl | hg
    · exact .inl (List.mem_cons_self ..)
    · refine .inr ?_
      cases a with
      | none => simp at hg
      | some a =>
        simp at hg; subst hg
        rcases hr.2 with ⟨h1, _⟩ | ⟨g, cap, cur, h1, h2, _⟩
        · cases h1
        · injection h1 with h1 _ _; injection h1 with h1; subst h1; exact h2
set_option maxRecDepth 100000 in
set_option maxHeartbeats 4000000 in
theorem mdrop_any (base q : Nat) (m : Md) (fa : Option Addr) (fc : Nat) (i : Nat) (w : World) (h : MdAt base w q m fa fc) (hn : m.fs.length ≤ 1000) (hi : i < m.fs.length) :
    Calls Try.prog 42 #[.pointer (some ⟨q, 0, none⟩), .int .i64 (i : Nat)] w fun x w' => x = .returned (.tuple #[]) ∧ MdDone base q fa w w' { m with fs := m.fs.eraseIdx i } := by
  have HM := Lib.hid h
  have HN := Lib.hid hn
  have HI := Lib.hid hi
  clear h hn hi
  go_enter Try.func42, Try.ntmps42
  go_wp2_with fail
  go_loopw [4, 5] (fun v z wr => ∃ (k : Nat) (la : Option Addr) (lc : Nat), v = .slice la ((m.fs.take k).eraseIdx i).length lc ∧ z = .int .i64 (k : Nat) ∧ k ≤ m.fs.length ∧ Hid (Below w.heap.size w wr ∧ wr.ownsRow w.heap.size 58 3 (.slice la ((m.fs.take k).eraseIdx i).length lc) ((m.fs.take k).eraseIdx i).length (flR ((m.fs.take k).eraseIdx i)))) (fun _ z _ => m.fs.length - (intOf z).toNat)
  case atStart => exact ⟨0, none, 0, rfl, rfl, Nat.zero_le _, Below.refl _ _, World.ownsRow_nil w w.heap.size 58 3⟩
  case round =>
    obtain ⟨k, la, lc, rfl, rfl, hk, HR⟩ := hrel
    have HM1 := Lib.hid (HM.out.below HR.out.1)
    obtain ⟨-, c1, -⟩ := md7 HM1.out.ptr
    by_cases hlt : k < m.fs.length
    · have hlt' : (k : Int) < (m.fs.length : Int) := by omega
      have i0 : (0 : Int) ≤ (k : Int) := by omega
      have i1 : (k : Int) ≤ 1000 := by have := HN.out; omega
      obtain ⟨g, f, rfl, hf, u0, u1, u2, -⟩ := HM1.out.at k hlt
      have HF := Lib.hid hf
      clear hf
      by_cases hki : k = i
      · have hki' : (k : Int) = (i : Int) := by omega
        have e : (m.fs.take (k + 1)).eraseIdx i = (m.fs.take k).eraseIdx i := by rw [← hki]; exact erase_same m.fs hlt
        have HE := Lib.hid e
        clear e hki
        generalize (m.fs.take k).eraseIdx i = ys at *
        go_wp2_with fail
        go_roundw
        case rel => exact ⟨k + 1, la, lc, by rw [HE.out], by go_num, by omega, by rw [HE.out]; exact HR.out⟩
        case measure => simp [intOf]; omega
      · have hki' : ¬ (k : Int) = (i : Int) := by omega
        have hle : ((m.fs.take k).eraseIdx i).length ≤ 1000 := by
          have h1 := List.length_eraseIdx_le (m.fs.take k) i
          rw [List.length_take] at h1; omega
        have HE := Lib.hid (erase_more m.fs HF.out hki)
        generalize (m.fs.take k).eraseIdx i = ys at *
        have hal := (Below.refl wr.heap.size wr).alloc (Nat.le_refl _) (.cells #[.string ⟨f.name.toArray⟩, .string f.data, .int .i64 (f.safe : Nat)] 58)
        have HO2 := Lib.hid (own_below HR.out.2 hal)
        have HB2 := Lib.hid (HR.out.1.trans (hal.mono HR.out.1.size))
        clear hal HF
        go_wp2_with (at_builtin; refine ap_row infoFl Try.underlying47 rfl (by decide) rfl (.tmp 18) (.tmp 26) rfl rfl HO2.out HB2.out.size ⟨wr.heap.size, 0, none⟩ 1 1 [.string ⟨f.name.toArray⟩, .string f.data, .int .i64 (f.safe : Nat)] rfl rfl (lit_cells_at wr #[.string ⟨f.name.toArray⟩, .string f.data, .int .i64 (f.safe : Nat)] 58 _ rfl) (one_fl f) (by unfold maxLen; omega) (by omega) ?_; intro v3 w3 o1 g1 hv1; have HO3 := Lib.hid o1; have HG3 := Lib.hid g1; clear o1 g1 hv1)
        have HB3 := Lib.hid (HB2.out.grown HG3.out HB2.out.size (fun b hb => (own_lt HO2.out hb).1))
        obtain ⟨a', c', rfl⟩ := own_slice HO3.out
        have HR3 : Hid (Below w.heap.size w w3 ∧ w3.ownsRow w.heap.size 58 3 (.slice a' (ys.length + 1) c') (ys ++ [f]).length (flR (ys ++ [f]))) := by
          refine ⟨HB3.out, ?_⟩
          rw [flR_append, flR_one, List.length_append]
          exact HO3.out
        clear HO3 HO2 HB2 HG3 HB3 HR
        go_roundw
        case rel => exact ⟨k + 1, a', c', by rw [HE.out, List.length_append]; rfl, by go_num, by omega, by rw [HE.out]; have h := HR3.out; rw [List.length_append] at h ⊢; exact h⟩
        case measure => simp [intOf]; omega
    · have hlt' : ¬ (k : Int) < (m.fs.length : Int) := by omega
      have hke : m.fs.take k = m.fs := List.take_of_length_le (by omega)
      rw [hke] at HR ⊢
      obtain ⟨ys, hys⟩ : ∃ ys, ys = m.fs.eraseIdx i := ⟨_, rfl⟩
      rw [← hys] at HR ⊢
      have HY := Lib.hid hys
      have f1 := HM1.out.ptr.frozen 1
      have FIN := Lib.hid (md_turn HM.out HR.out.1 _ _ HR.out.2)
      clear HR hke hys
      go_wp2_with fail
      go_end0
      rw [← HY.out]
      exact ⟨rfl, FIN.out⟩
end Go.Proofs.Ytefpjdgfcgjbaaa

/- The document's disk: the contract of put. -/
namespace Go.Proofs.Ytefpjdgfcgjbaaa
set_option linter.unusedVariables false
set_option linter.unusedSimpArgs false
open Go.RowKit
theorem less_st (t nm : ByteArray) : Op.bytesLess t.toList nm.toList = decide (t.data.toList < nm.data.toList) := by
  rw [ByteArray.toList_eq, ByteArray.toList_eq, Go.Proofs.bytesLess_eq]
/-- Whether b stands behind a. -/
theorem gtr_st (a b : Nm) : (a < b → Op.bytesLess (⟨b.toArray⟩ : ByteArray).toList (⟨a.toArray⟩ : ByteArray).toList = false ∧ ((⟨b.toArray⟩ : ByteArray).toList == (⟨a.toArray⟩ : ByteArray).toList) = false) ∧
    (¬ a < b → Op.bytesLess (⟨b.toArray⟩ : ByteArray).toList (⟨a.toArray⟩ : ByteArray).toList = true ∨ (Op.bytesLess (⟨b.toArray⟩ : ByteArray).toList (⟨a.toArray⟩ : ByteArray).toList = false ∧ ((⟨b.toArray⟩ : ByteArray).toList == (⟨a.toArray⟩ : ByteArray).toList) = true)) := by
  rw [less_st]
  have e : ((⟨b.toArray⟩ : ByteArray).toList == (⟨a.toArray⟩ : ByteArray).toList) = (b == a) := by rw [ByteArray.toList_mk, ByteArray.toList_mk]
  rw [e]
  show (_ → decide (b.toArray.toList < a.toArray.toList) = false ∧ _) ∧ (_ → decide (b.toArray.toList < a.toArray.toList) = true ∨ decide (b.toArray.toList < a.toArray.toList) = false ∧ _)
  simp only [List.toList_toArray]
  refine ⟨fun h => ⟨decide_eq_false (fun h2 => List.lt_irrefl _ (List.lt_trans h h2)), by simpa using fun e => List.lt_irrefl _ (e ▸ h)⟩, fun h => ?_⟩
  by_cases h3 : b < a
  · exact .inl (decide_eq_true h3)
  · exact .inr ⟨decide_eq_false h3, by simpa using List.le_antisymm (List.not_lt.1 h) (List.not_lt.1 h3)⟩
/-- Where put stands. -/
def PutSt (f : Fi) (fs : List Fi) (k : Nat) (done : Bool) (ys : List Fi) : Prop := if done then ys ++ fs.drop k = insF f fs else (ys = fs.take k ∧ fs.take k ++ insF f (fs.drop k) = insF f fs)
theorem put_len {f : Fi} {fs : List Fi} {k : Nat} {d : Bool} {ys : List Fi} (h : PutSt f fs k d ys) : ys.length ≤ fs.length + 1 := by
  unfold PutSt at h
  cases d with
  | true =>
    have := congrArg List.length (show ys ++ fs.drop k = insF f fs by simpa using h)
    rw [(insF_perm f fs).length_eq] at this
    simp at this; omega
  | false =>
    have h1 : ys = fs.take k := by simpa using h.1
    rw [h1, List.length_take]; omega
theorem put_on {f g : Fi} {fs : List Fi} {k : Nat} {ys : List Fi} (hg : fs[k]? = some g) (h : PutSt f fs k true ys) : PutSt f fs (k + 1) true (ys ++ [g]) := by
  obtain ⟨hk, e⟩ := List.getElem?_eq_some_iff.1 hg
  have h' : ys ++ fs.drop k = insF f fs := by simpa [PutSt] using h
  show ys ++ [g] ++ fs.drop (k + 1) = insF f fs
  rw [← h', List.drop_eq_getElem_cons hk, e]; simp
theorem put_not {f g : Fi} {fs : List Fi} {k : Nat} {ys : List Fi} (hg : fs[k]? = some g) (hn : ¬ f.name < g.name) (h : PutSt f fs k false ys) : PutSt f fs (k + 1) false (ys ++ [g]) := by
  obtain ⟨hk, e⟩ := List.getElem?_eq_some_iff.1 hg
  obtain ⟨h1, h2⟩ : ys = fs.take k ∧ fs.take k ++ insF f (fs.drop k) = insF f fs := by simpa [PutSt] using h
  show ys ++ [g] = fs.take (k + 1) ∧ fs.take (k + 1) ++ insF f (fs.drop (k + 1)) = insF f fs
  have ht : fs.take (k + 1) = fs.take k ++ [g] := by rw [← List.take_append_getElem hk, e]
  rw [List.drop_eq_getElem_cons hk, e] at h2
  rw [show insF f (g :: fs.drop (k + 1)) = g :: insF f (fs.drop (k + 1)) from by rw [insF, if_neg hn]] at h2
  refine ⟨by rw [h1, ht], ?_⟩
  rw [ht, List.append_assoc]; exact h2
theorem put_now {f g : Fi} {fs : List Fi} {k : Nat} {ys : List Fi} (hg : fs[k]? = some g) (hn : f.name < g.name) (h : PutSt f fs k false ys) : PutSt f fs (k + 1) true (ys ++ [f] ++ [g]) := by
  obtain ⟨hk, e⟩ := List.getElem?_eq_some_iff.1 hg
  obtain ⟨h1, h2⟩ : ys = fs.take k ∧ fs.take k ++ insF f (fs.drop k) = insF f fs := by simpa [PutSt] using h
  show ys ++ [f] ++ [g] ++ fs.drop (k + 1) = insF f fs
  rw [List.drop_eq_getElem_cons hk, e] at h2
  rw [show insF f (g :: fs.drop (k + 1)) = f :: g :: fs.drop (k + 1) from by rw [insF, if_pos hn]] at h2
  rw [h1, ← h2]; simp
theorem put_end {f : Fi} {fs : List Fi} {ys : List Fi} {d : Bool} (h : PutSt f fs fs.length d ys) : (if d then ys else ys ++ [f]) = insF f fs := by
  cases d with
  | true =>
    have h' : ys ++ fs.drop fs.length = insF f fs := by simpa [PutSt] using h
    rw [List.drop_length, List.append_nil] at h'
    exact h'
  | false =>
    obtain ⟨h1, h2⟩ : ys = fs.take fs.length ∧ fs.take fs.length ++ insF f (fs.drop fs.length) = insF f fs := by simpa [PutSt] using h
    rw [List.drop_length] at h2
    rw [← h2, h1]; rfl
theorem blkF {w : World} {g : Nat} {t : TypeId} {a b c : Value} (h : Mem.Blk w g t #[a, b, c]) : w.cell? ⟨g, 0, none⟩ = some a ∧ w.cell? ⟨g, 1, none⟩ = some b ∧ w.cell? ⟨g, 2, none⟩ = some c := ⟨h.cell 0, h.cell 1, h.cell 2⟩
set_option maxRecDepth 100000 in
set_option maxHeartbeats 4000000 in
theorem mput_any (base q : Nat) (m : Md) (fa : Option Addr) (fc : Nat) (f : Fi) (w : World) (h : MdAt base w q m fa fc) (hn : m.fs.length ≤ 1000) :
    Calls Try.prog 41 #[.pointer (some ⟨q, 0, none⟩), .agg #[.string ⟨f.name.toArray⟩, .string f.data, .int .i64 (f.safe : Nat)]] w fun x w' => x = .returned (.tuple #[]) ∧ MdDone base q fa w w' { m with fs := insF f m.fs } := by
  have HM := Lib.hid h
  have HN := Lib.hid hn
  have HGT := Lib.hid (gtr_st f.name)
  obtain ⟨T2, hT2⟩ : ∃ T, T = (⟨f.name.toArray⟩ : ByteArray) := ⟨_, rfl⟩
  rw [← hT2]
  simp only [← hT2] at HGT
  have HT2 := Lib.hid hT2
  clear hT2
  have hal := (Below.refl w.heap.size w).alloc (Nat.le_refl _) (.cells #[.string T2, .string f.data, .int .i64 (f.safe : Nat)] 58)
  have HB0 := Lib.hid hal
  have BF := Lib.hid (Mem.Blk.new w 58 #[.string T2, .string f.data, .int .i64 (f.safe : Nat)])
  clear h hn hal
  go_enter Try.func41, Try.ntmps41
  go_upto_region 1 with (fail)
  generalize w.alloc (.cells #[.string T2, .string f.data, .int .i64 (f.safe : Nat)] 58) = w1 at *
  have HGB : Hid (∀ W, Below w1.heap.size w1 W → Mem.Blk W w.heap.size 58 #[.string T2, .string f.data, .int .i64 (f.safe : Nat)]) := fun W hW => BF.out.below hW
  clear BF
  generalize hwz : w.heap.size = zf at *
  have HZ := Lib.hid hwz
  have HB1 : Hid (Below w.heap.size w w1) := by show Below _ _ _; rw [hwz]; exact HB0.out
  clear hwz
  go_wp2_with fail
  go_loopw [4, 5, 6] (fun v dn z wr => ∃ (k : Nat) (la : Option Addr) (lc : Nat) (d : Bool) (ys : List Fi), v = .slice la ys.length lc ∧ dn = .bool d ∧ z = .int .i64 (k : Nat) ∧ k ≤ m.fs.length ∧ Hid (Below w1.heap.size w1 wr ∧ wr.ownsRow w1.heap.size 58 3 (.slice la ys.length lc) ys.length (flR ys) ∧ PutSt f m.fs k d ys)) (fun _ _ z _ => m.fs.length - (intOf z).toNat)
  case atStart => exact ⟨0, none, 0, false, [], rfl, rfl, rfl, Nat.zero_le _, Below.refl _ _, World.ownsRow_nil w1 w1.heap.size 58 3, by simp [PutSt]⟩
  case round =>
    obtain ⟨k, la, lc, d, ys, rfl, rfl, rfl, hk, HR⟩ := hrel
    have HM1 := Lib.hid ((HM.out.below (by rw [HZ.out]; exact HB0.out)).below HR.out.1)
    have HYL := Lib.hid (put_len HR.out.2.2)
    obtain ⟨b0, b1, b2⟩ := blkF (HGB.out wr HR.out.1)
    obtain ⟨-, c1, -⟩ := md7 HM1.out.ptr
    by_cases hlt : k < m.fs.length
    · have hlt' : (k : Int) < (m.fs.length : Int) := by omega
      have i0 : (0 : Int) ≤ (k : Int) := by omega
      have i1 : (k : Int) ≤ 1000 := by have := HN.out; omega
      obtain ⟨g, gf, rfl, hf, u0, u1, u2, -⟩ := HM1.out.at k hlt
      obtain ⟨T1, hT1⟩ : ∃ T, T = (⟨gf.name.toArray⟩ : ByteArray) := ⟨_, rfl⟩
      have HG := HGT.out gf.name
      rw [← hT1] at u0 HG
      have HT1 := Lib.hid hT1
      clear hT1
      have HF := Lib.hid hf
      have HFF := Lib.hid hf
      clear hf
      have hyl : ys.length ≤ 1001 := by have := HYL.out; have := HN.out; omega
      cases d with
      | true =>
        have HB2 := Lib.hid HR.out.1
        have HO1 := Lib.hid HR.out.2.1
        have HP := Lib.hid (put_on HF.out HR.out.2.2)
        clear HR HF HG
        go_wp2_with fail
        go_quiet (fail)
        have HBD := Lib.hid (below_dN HB2.out nq)
        have HOD : Hid ((wr.drewN nq).ownsRow w1.heap.size 58 3 (.slice la ys.length lc) ys.length (flR ys)) := own_below HO1.out (below_dN (Below.refl _ _) nq)
        have HMD := Lib.hid (HM1.out.below (below_dN (Below.refl _ _) nq))
        replace c1 : (wr.drewN nq).cell? ⟨q, 1, none⟩ = some (.slice (some ⟨g, 0, none⟩) m.fs.length fc) := c1
        replace b0 : (wr.drewN nq).cell? ⟨zf, 0, none⟩ = _ := b0
        replace b1 : (wr.drewN nq).cell? ⟨zf, 1, none⟩ = _ := b1
        replace b2 : (wr.drewN nq).cell? ⟨zf, 2, none⟩ = _ := b2
        replace u0 : (wr.drewN nq).cell? ⟨g, k * 3, none⟩ = _ := u0
        replace u1 : (wr.drewN nq).cell? ⟨g, k * 3 + 1, none⟩ = _ := u1
        replace u2 : (wr.drewN nq).cell? ⟨g, k * 3 + 2, none⟩ = _ := u2
        clear HB2 HO1 HM1
        generalize wr.drewN nq = wd at *
        have hal := (Below.refl wd.heap.size wd).alloc (Nat.le_refl _) (.cells #[.string T1, .string gf.data, .int .i64 (gf.safe : Nat)] 58)
        have HO2 := Lib.hid (own_below HOD.out hal)
        have HB3 := Lib.hid (HBD.out.trans (hal.mono HBD.out.size))
        clear hal
        go_wp2_with (at_builtin; refine ap_row infoFl Try.underlying47 rfl (by decide) rfl (.tmp 35) (.tmp 43) rfl rfl HO2.out HB3.out.size ⟨wd.heap.size, 0, none⟩ 1 1 [.string T1, .string gf.data, .int .i64 (gf.safe : Nat)] rfl rfl (lit_cells_at wd #[.string T1, .string gf.data, .int .i64 (gf.safe : Nat)] 58 _ rfl) (by simp [Value.oneCell']) (by unfold maxLen; omega) (by omega) ?_; intro v3 wz o1 g1 hv1; have HO3 := Lib.hid o1; have HG3 := Lib.hid g1; clear o1 g1 hv1)
        have HBR := Lib.hid (HB3.out.grown HG3.out HB3.out.size (fun b hb => (own_lt HO2.out hb).1))
        obtain ⟨a', c', rfl⟩ := own_slice HO3.out
        have HRO : Hid (wz.ownsRow w1.heap.size 58 3 (.slice a' (ys ++ [gf]).length c') (ys ++ [gf]).length (flR (ys ++ [gf]))) := by
          show World.ownsRow _ _ _ _ _ _ _
          rw [flR_append, flR_one]
          simp only [List.length_append, List.length_singleton]
          have h := HO3.out
          rw [HT1.out] at h
          exact h
        clear HO3 HG3 HB3 HO2
        go_roundw
        case rel => exact ⟨k + 1, a', c', true, _, by simp only [List.length_append, List.length_singleton], rfl, by go_num, by omega, HBR.out, HRO.out, HP.out⟩
        case measure => simp [intOf]; omega
      | false =>
        by_cases hgt : f.name < gf.name
        · have HP := Lib.hid (put_now HF.out hgt HR.out.2.2)
          have HB2 := Lib.hid HR.out.1
          have HO1 := Lib.hid HR.out.2.1
          obtain ⟨g1, g2⟩ := HG.1 hgt
          clear HR HF hgt HG
          go_wp2_with fail
          go_quiet (fail)
          have HBD := Lib.hid (below_dN HB2.out nq)
          have HOD : Hid ((wr.drewN nq).ownsRow w1.heap.size 58 3 (.slice la ys.length lc) ys.length (flR ys)) := own_below HO1.out (below_dN (Below.refl _ _) nq)
          have HMD := Lib.hid (HM1.out.below (below_dN (Below.refl _ _) nq))
          replace c1 : (wr.drewN nq).cell? ⟨q, 1, none⟩ = some (.slice (some ⟨g, 0, none⟩) m.fs.length fc) := c1
          replace b0 : (wr.drewN nq).cell? ⟨zf, 0, none⟩ = _ := b0
          replace b1 : (wr.drewN nq).cell? ⟨zf, 1, none⟩ = _ := b1
          replace b2 : (wr.drewN nq).cell? ⟨zf, 2, none⟩ = _ := b2
          replace u0 : (wr.drewN nq).cell? ⟨g, k * 3, none⟩ = _ := u0
          replace u1 : (wr.drewN nq).cell? ⟨g, k * 3 + 1, none⟩ = _ := u1
          replace u2 : (wr.drewN nq).cell? ⟨g, k * 3 + 2, none⟩ = _ := u2
          clear HB2 HO1 HM1
          generalize wr.drewN nq = wd at *
          have hal := (Below.refl wd.heap.size wd).alloc (Nat.le_refl _) (.cells #[.string T2, .string f.data, .int .i64 (f.safe : Nat)] 58)
          have HO2 := Lib.hid (own_below HOD.out hal)
          have HB3 := Lib.hid (HBD.out.trans (hal.mono HBD.out.size))
          clear hal
          go_upto_region 8 with (at_builtin; refine ap_row infoFl Try.underlying47 rfl (by decide) rfl (.tmp 31) (.tmp 33) rfl rfl HO2.out HB3.out.size ⟨wd.heap.size, 0, none⟩ 1 1 [.string T2, .string f.data, .int .i64 (f.safe : Nat)] rfl rfl (lit_cells_at wd #[.string T2, .string f.data, .int .i64 (f.safe : Nat)] 58 _ rfl) (by simp [Value.oneCell']) (by unfold maxLen; omega) (by omega) ?_; intro v3 wy o1 g1 hv1; have HO3 := Lib.hid o1; have HG3 := Lib.hid g1; clear o1 g1 hv1)
          have HBR := Lib.hid (HB3.out.grown HG3.out HB3.out.size (fun b hb => (own_lt HO2.out hb).1))
          obtain ⟨a', c', rfl⟩ := own_slice HO3.out
          have HRO : Hid (wy.ownsRow w1.heap.size 58 3 (.slice a' (ys ++ [f]).length c') (ys ++ [f]).length (flR (ys ++ [f]))) := by
            show World.ownsRow _ _ _ _ _ _ _
            rw [flR_append, flR_one]
            simp only [List.length_append, List.length_singleton]
            have h := HO3.out
            rw [HT2.out] at h
            exact h
          clear HO3 HG3 HB3 HO2
          clear u0 u1 u2 c1 b0 b1 b2
          have HMY := Lib.hid ((HM.out.below (by rw [HZ.out]; exact HB0.out)).below HBR.out)
          have c1 : wy.cell? ⟨q, 1, none⟩ = some (.slice (some ⟨g, 0, none⟩) m.fs.length fc) := (md7 HMY.out.ptr).2.1
          obtain ⟨g', gf', hg', hf', u0, u1, u2, -⟩ := HMY.out.at k hlt
          injection hg' with hg'
          injection hg' with hg'
          subst hg'
          have he' : gf' = gf := by
            have h := HFF.out
            rw [hf'] at h
            injection h
          subst he'
          rw [← HT1.out] at u0
          clear hf'
          simp only [List.length_append, List.length_singleton] at HRO
          have hyl2 : ys.length + 1 ≤ 1002 := by omega
          have hal := (Below.refl wy.heap.size wy).alloc (Nat.le_refl _) (.cells #[.string T1, .string gf'.data, .int .i64 (gf'.safe : Nat)] 58)
          have HO2 := Lib.hid (own_below HRO.out hal)
          have HB3 := Lib.hid (HBR.out.trans (hal.mono HBR.out.size))
          clear hal
          go_wp2_with (at_builtin; refine ap_row infoFl Try.underlying47 rfl (by decide) rfl (.tmp 35) (.tmp 43) rfl rfl HO2.out HB3.out.size ⟨wy.heap.size, 0, none⟩ 1 1 [.string T1, .string gf'.data, .int .i64 (gf'.safe : Nat)] rfl rfl (lit_cells_at wy #[.string T1, .string gf'.data, .int .i64 (gf'.safe : Nat)] 58 _ rfl) (by simp [Value.oneCell']) (by unfold maxLen; omega) (by omega) ?_; intro v3 wz o1 g1 hv1; have HO3 := Lib.hid o1; have HG3 := Lib.hid g1; clear o1 g1 hv1)
          have HBR := Lib.hid (HB3.out.grown HG3.out HB3.out.size (fun b hb => (own_lt HO2.out hb).1))
          obtain ⟨a', c', rfl⟩ := own_slice HO3.out
          have HRO : Hid (wz.ownsRow w1.heap.size 58 3 (.slice a' ((ys ++ [f]) ++ [gf']).length c') ((ys ++ [f]) ++ [gf']).length (flR ((ys ++ [f]) ++ [gf']))) := by
            show World.ownsRow _ _ _ _ _ _ _
            rw [flR_append, flR_one]
            simp only [List.length_append, List.length_singleton]
            have h := HO3.out
            rw [HT1.out] at h
            exact h
          clear HO3 HG3 HB3 HO2
          go_roundw
          case rel => exact ⟨k + 1, a', c', true, _, by simp only [List.length_append, List.length_singleton], rfl, by go_num, by omega, HBR.out, HRO.out, HP.out⟩
          case measure => simp [intOf]; omega
        · have HP := Lib.hid (put_not HF.out hgt HR.out.2.2)
          have HB2 := Lib.hid HR.out.1
          have HO1 := Lib.hid HR.out.2.1
          rcases HG.2 hgt with g1 | ⟨g1, g2⟩
          · clear HR HF hgt HG
            go_wp2_with fail
            go_quiet (fail)
            have HBD := Lib.hid (below_dN HB2.out nq)
            have HOD : Hid ((wr.drewN nq).ownsRow w1.heap.size 58 3 (.slice la ys.length lc) ys.length (flR ys)) := own_below HO1.out (below_dN (Below.refl _ _) nq)
            have HMD := Lib.hid (HM1.out.below (below_dN (Below.refl _ _) nq))
            replace c1 : (wr.drewN nq).cell? ⟨q, 1, none⟩ = some (.slice (some ⟨g, 0, none⟩) m.fs.length fc) := c1
            replace b0 : (wr.drewN nq).cell? ⟨zf, 0, none⟩ = _ := b0
            replace b1 : (wr.drewN nq).cell? ⟨zf, 1, none⟩ = _ := b1
            replace b2 : (wr.drewN nq).cell? ⟨zf, 2, none⟩ = _ := b2
            replace u0 : (wr.drewN nq).cell? ⟨g, k * 3, none⟩ = _ := u0
            replace u1 : (wr.drewN nq).cell? ⟨g, k * 3 + 1, none⟩ = _ := u1
            replace u2 : (wr.drewN nq).cell? ⟨g, k * 3 + 2, none⟩ = _ := u2
            clear HB2 HO1 HM1
            generalize wr.drewN nq = wd at *
            have hal := (Below.refl wd.heap.size wd).alloc (Nat.le_refl _) (.cells #[.string T1, .string gf.data, .int .i64 (gf.safe : Nat)] 58)
            have HO2 := Lib.hid (own_below HOD.out hal)
            have HB3 := Lib.hid (HBD.out.trans (hal.mono HBD.out.size))
            clear hal
            go_wp2_with (at_builtin; refine ap_row infoFl Try.underlying47 rfl (by decide) rfl (.tmp 35) (.tmp 43) rfl rfl HO2.out HB3.out.size ⟨wd.heap.size, 0, none⟩ 1 1 [.string T1, .string gf.data, .int .i64 (gf.safe : Nat)] rfl rfl (lit_cells_at wd #[.string T1, .string gf.data, .int .i64 (gf.safe : Nat)] 58 _ rfl) (by simp [Value.oneCell']) (by unfold maxLen; omega) (by omega) ?_; intro v3 wz o1 g1 hv1; have HO3 := Lib.hid o1; have HG3 := Lib.hid g1; clear o1 g1 hv1)
            have HBR := Lib.hid (HB3.out.grown HG3.out HB3.out.size (fun b hb => (own_lt HO2.out hb).1))
            obtain ⟨a', c', rfl⟩ := own_slice HO3.out
            have HRO : Hid (wz.ownsRow w1.heap.size 58 3 (.slice a' (ys ++ [gf]).length c') (ys ++ [gf]).length (flR (ys ++ [gf]))) := by
              show World.ownsRow _ _ _ _ _ _ _
              rw [flR_append, flR_one]
              simp only [List.length_append, List.length_singleton]
              have h := HO3.out
              rw [HT1.out] at h
              exact h
            clear HO3 HG3 HB3 HO2
            go_roundw
            case rel => exact ⟨k + 1, a', c', false, _, by simp only [List.length_append, List.length_singleton], rfl, by go_num, by omega, HBR.out, HRO.out, HP.out⟩
            case measure => simp [intOf]; omega
          · clear HR HF hgt HG
            go_wp2_with fail
            go_quiet (fail)
            have HBD := Lib.hid (below_dN HB2.out nq)
            have HOD : Hid ((wr.drewN nq).ownsRow w1.heap.size 58 3 (.slice la ys.length lc) ys.length (flR ys)) := own_below HO1.out (below_dN (Below.refl _ _) nq)
            have HMD := Lib.hid (HM1.out.below (below_dN (Below.refl _ _) nq))
            replace c1 : (wr.drewN nq).cell? ⟨q, 1, none⟩ = some (.slice (some ⟨g, 0, none⟩) m.fs.length fc) := c1
            replace b0 : (wr.drewN nq).cell? ⟨zf, 0, none⟩ = _ := b0
            replace b1 : (wr.drewN nq).cell? ⟨zf, 1, none⟩ = _ := b1
            replace b2 : (wr.drewN nq).cell? ⟨zf, 2, none⟩ = _ := b2
            replace u0 : (wr.drewN nq).cell? ⟨g, k * 3, none⟩ = _ := u0
            replace u1 : (wr.drewN nq).cell? ⟨g, k * 3 + 1, none⟩ = _ := u1
            replace u2 : (wr.drewN nq).cell? ⟨g, k * 3 + 2, none⟩ = _ := u2
            clear HB2 HO1 HM1
            generalize wr.drewN nq = wd at *
            have hal := (Below.refl wd.heap.size wd).alloc (Nat.le_refl _) (.cells #[.string T1, .string gf.data, .int .i64 (gf.safe : Nat)] 58)
            have HO2 := Lib.hid (own_below HOD.out hal)
            have HB3 := Lib.hid (HBD.out.trans (hal.mono HBD.out.size))
            clear hal
            go_wp2_with (at_builtin; refine ap_row infoFl Try.underlying47 rfl (by decide) rfl (.tmp 35) (.tmp 43) rfl rfl HO2.out HB3.out.size ⟨wd.heap.size, 0, none⟩ 1 1 [.string T1, .string gf.data, .int .i64 (gf.safe : Nat)] rfl rfl (lit_cells_at wd #[.string T1, .string gf.data, .int .i64 (gf.safe : Nat)] 58 _ rfl) (by simp [Value.oneCell']) (by unfold maxLen; omega) (by omega) ?_; intro v3 wz o1 g1 hv1; have HO3 := Lib.hid o1; have HG3 := Lib.hid g1; clear o1 g1 hv1)
            have HBR := Lib.hid (HB3.out.grown HG3.out HB3.out.size (fun b hb => (own_lt HO2.out hb).1))
            obtain ⟨a', c', rfl⟩ := own_slice HO3.out
            have HRO : Hid (wz.ownsRow w1.heap.size 58 3 (.slice a' (ys ++ [gf]).length c') (ys ++ [gf]).length (flR (ys ++ [gf]))) := by
              show World.ownsRow _ _ _ _ _ _ _
              rw [flR_append, flR_one]
              simp only [List.length_append, List.length_singleton]
              have h := HO3.out
              rw [HT1.out] at h
              exact h
            clear HO3 HG3 HB3 HO2
            go_roundw
            case rel => exact ⟨k + 1, a', c', false, _, by simp only [List.length_append, List.length_singleton], rfl, by go_num, by omega, HBR.out, HRO.out, HP.out⟩
            case measure => simp [intOf]; omega
    · have hlt' : ¬ (k : Int) < (m.fs.length : Int) := by omega
      obtain rfl : k = m.fs.length := by omega
      have hyl : ys.length ≤ 1001 := by have := HYL.out; have := HN.out; omega
      have HE := Lib.hid (put_end HR.out.2.2)
      cases d with
      | true =>
        have f1 := HM1.out.ptr.frozen 1
        have FIN := Lib.hid (md_turn HM.out (HB1.out.trans (HR.out.1.mono HB1.out.size)) ys _ (own_base HR.out.2.1 HB1.out.size))
        clear HR
        go_wp2_with fail
        go_end0
        have e : ys = insF f m.fs := HE.out
        rw [← e]
        exact ⟨rfl, FIN.out⟩
      | false =>
        have hal := (Below.refl wr.heap.size wr).alloc (Nat.le_refl _) (.cells #[.string T2, .string f.data, .int .i64 (f.safe : Nat)] 58)
        have HO2 := Lib.hid (own_below HR.out.2.1 hal)
        have HB3 := Lib.hid (HR.out.1.trans (hal.mono HR.out.1.size))
        clear hal
        go_upto_region 12 with (at_builtin; refine ap_row infoFl Try.underlying47 rfl (by decide) rfl (.tmp 47) (.tmp 49) rfl rfl HO2.out HB3.out.size ⟨wr.heap.size, 0, none⟩ 1 1 [.string T2, .string f.data, .int .i64 (f.safe : Nat)] rfl rfl (lit_cells_at wr #[.string T2, .string f.data, .int .i64 (f.safe : Nat)] 58 _ rfl) (by simp [Value.oneCell']) (by unfold maxLen; omega) (by omega) ?_; intro v3 wz o1 g1 hv1; have HO3 := Lib.hid o1; have HG3 := Lib.hid g1; clear o1 g1 hv1)
        have HBR := Lib.hid (HB3.out.grown HG3.out HB3.out.size (fun b hb => (own_lt HO2.out hb).1))
        obtain ⟨a', c', rfl⟩ := own_slice HO3.out
        have HRO : Hid (wz.ownsRow w1.heap.size 58 3 (.slice a' (ys ++ [f]).length c') (ys ++ [f]).length (flR (ys ++ [f]))) := by
          show World.ownsRow _ _ _ _ _ _ _
          rw [flR_append, flR_one]
          simp only [List.length_append, List.length_singleton]
          have h := HO3.out
          rw [HT2.out] at h
          exact h
        clear HO3 HG3 HB3 HO2
        have HMZ := Lib.hid (HM.out.below (HB1.out.trans (HBR.out.mono HB1.out.size)))
        clear c1 b0 b1 b2 HR HM1
        have c1 : wz.cell? ⟨q, 1, none⟩ = some (.slice fa m.fs.length fc) := (md7 HMZ.out.ptr).2.1
        have f1 := HMZ.out.ptr.frozen 1
        have FIN := Lib.hid (md_turn HM.out (HB1.out.trans (HBR.out.mono HB1.out.size)) _ _ (own_base HRO.out HB1.out.size))
        simp only [List.length_append, List.length_singleton] at FIN
        have e : ys ++ [f] = insF f m.fs := HE.out
        rw [e] at FIN
        have hE := Lib.hid e
        clear e HRO HBR HMZ HE
        go_wp2_with fail
        go_end0
        exact ⟨rfl, FIN.out⟩
end Go.Proofs.Ytefpjdgfcgjbaaa

/- What the operations answer, step by step: plain. -/
namespace Go.Proofs.Ytefpjdgfcgjbaaa
set_option linter.unusedVariables false
set_option linter.unusedSimpArgs false
open Go.RowKit
/-- An operation is counted. -/
def bs (s : St) : St := { s with calls := s.calls + 1, left := if s.armed then s.left - 1 else s.left }
theorem beginS_go {s : St} {ns : List Nm} (ho : s.off = false) (ha : ¬ (s.armed = true ∧ s.left = 0)) (hn : ∀ t ∈ ns, badN t = false) : beginS s ns = (0, bs s) := by
  unfold beginS
  rw [if_neg (by rw [ho]; simp), if_neg ha, if_neg]
  · rfl
  · intro h
    obtain ⟨t, ht, hb⟩ := List.any_eq_true.1 h
    rw [hn t ht] at hb; cases hb
theorem beginS_off {s : St} {ns : List Nm} (ho : s.off = true) : beginS s ns = (6, s) := by unfold beginS; rw [if_pos ho]
theorem beginS_end {s : St} {ns : List Nm} (ho : s.off = false) (ha : s.armed = true) (hl : s.left = 0) : beginS s ns = (6, { s with calls := s.calls + 1, off := true }) := by
  unfold beginS; rw [if_neg (by rw [ho]; simp), if_pos ⟨ha, hl⟩]
theorem appendS_new {s : St} {t : Nm} {d : ByteArray} {b : Nat} (ho : s.off = false) (ha : ¬ (s.armed = true ∧ s.left = 0)) (hn : badN t = false) (hf : findF s.fs t = none) (hl : s.fs.length < 200) (hd : d.size ≤ 1048576) (hr : (d.size : Int) ≤ s.room - s.used) :
    appendS b s t d = (0, { bs s with used := s.used + (d.size : Nat), written := s.written + (d.size : Nat), fs := insF ⟨t, d, 0, b⟩ s.fs, mn := s.mn + 1 }) := by
  unfold appendS
  rw [beginS_go ho ha (by simpa using hn)]
  have hf' : findF (bs s).fs t = none := hf
  have hl' : ¬ 200 ≤ (bs s).fs.length := by show ¬ 200 ≤ s.fs.length; omega
  have hr' : ¬ (bs s).room - (bs s).used < (d.size : Nat) := by show ¬ s.room - s.used < (d.size : Nat); omega
  simp only [ne_eq, not_true_eq_false, if_false, hf']
  rw [if_neg hl', if_neg (by omega), if_neg hr']
  rfl
theorem appendS_more {s : St} {t : Nm} {d : ByteArray} {b : Nat} {f : Fi} (ho : s.off = false) (ha : ¬ (s.armed = true ∧ s.left = 0)) (hn : badN t = false) (hf : findF s.fs t = some f) (hd : f.data.size + d.size ≤ 1048576) (hr : (d.size : Int) ≤ s.room - s.used) :
    appendS b s t d = (0, { bs s with used := s.used + (d.size : Nat), written := s.written + (d.size : Nat), fs := updF t (fun g => ⟨g.name, g.data ++ d, g.safe, g.blk⟩) s.fs, mn := s.mn + 1 }) := by
  unfold appendS
  rw [beginS_go ho ha (by simpa using hn)]
  have hf' : findF (bs s).fs t = some f := hf
  have hr' : ¬ (bs s).room - (bs s).used < (d.size : Nat) := by show ¬ s.room - s.used < (d.size : Nat); omega
  simp only [ne_eq, not_true_eq_false, if_false, hf']
  rw [if_neg (by omega), if_neg hr']
  rfl
theorem appendS_full {s : St} {t : Nm} {d : ByteArray} {b : Nat} (ho : s.off = false) (ha : ¬ (s.armed = true ∧ s.left = 0)) (hn : badN t = false) (hf : findF s.fs t = none) (hl : 200 ≤ s.fs.length) : appendS b s t d = (4, bs s) := by
  unfold appendS
  rw [beginS_go ho ha (by simpa using hn)]
  have hf' : findF (bs s).fs t = none := hf
  simp only [ne_eq, not_true_eq_false, if_false, hf']
  rw [if_pos (show 200 ≤ (bs s).fs.length from hl)]
theorem appendS_off {s : St} {t : Nm} {d : ByteArray} {b : Nat} (ho : s.off = true) : appendS b s t d = (6, s) := by
  unfold appendS
  rw [beginS_off ho]; rfl
theorem appendS_end {s : St} {t : Nm} {d : ByteArray} {b : Nat} (ho : s.off = false) (ha : s.armed = true) (hl : s.left = 0) : appendS b s t d = (6, { s with calls := s.calls + 1, off := true }) := by
  unfold appendS
  rw [beginS_end ho ha hl]; rfl
theorem thereS_go {s : St} {t : Nm} {more : List Nm} {f : Fi} (ho : s.off = false) (ha : ¬ (s.armed = true ∧ s.left = 0)) (hn : ∀ u ∈ t :: more, badN u = false) (hf : findF s.fs t = some f) : thereS s t more = (some f, 0, bs s) := by
  unfold thereS
  rw [beginS_go ho ha hn]
  have hf' : findF (bs s).fs t = some f := hf
  simp only [ne_eq, not_true_eq_false, if_false, hf']
theorem thereS_off {s : St} {t : Nm} {more : List Nm} (ho : s.off = true) : thereS s t more = (none, 6, s) := by
  unfold thereS
  rw [beginS_off ho]; rfl
theorem syncS_go {s : St} {t : Nm} {f : Fi} (ho : s.off = false) (ha : ¬ (s.armed = true ∧ s.left = 0)) (hn : badN t = false) (hf : findF s.fs t = some f) : syncS s t = (0, { bs s with fs := updF t syncF s.fs }) := by
  unfold syncS
  rw [thereS_go ho ha (by simpa using hn) hf]; rfl
theorem deleteS_go {s : St} {t : Nm} {f : Fi} (ho : s.off = false) (ha : ¬ (s.armed = true ∧ s.left = 0)) (hn : badN t = false) (hf : findF s.fs t = some f) : deleteS s t = (0, { bs s with used := s.used - (f.data.size : Nat), fs := delF t s.fs }) := by
  unfold deleteS
  rw [thereS_go ho ha (by simpa using hn) hf]
  dsimp only
  unfold dropS
  have hf' : findF (bs s).fs t = some f := hf
  rw [hf']; rfl
theorem renameS_off {s : St} {a b : Nm} (ho : s.off = true) : renameS s a b = (6, s) := by
  unfold renameS
  rw [thereS_off ho]
theorem renameS_go {s : St} {a b : Nm} {f : Fi} (ho : s.off = false) (ha : ¬ (s.armed = true ∧ s.left = 0)) (hna : badN a = false) (hnb : badN b = false) (hab : a ≠ b) (hf : findF s.fs a = some f) : renameS s a b = (0, { dropS (bs s) b with fs := insF ⟨b, f.data, f.safe, f.blk⟩ (delF a (dropS (bs s) b).fs), mn := s.mn + 1 }) := by
  unfold renameS
  rw [thereS_go ho ha (by simp [hna, hnb]) hf]
  dsimp only
  rw [if_neg hab]; rfl
/-- One file. -/
theorem findF_one (f : Fi) : findF [f] f.name = some f := by unfold findF; simp
theorem updF_one (f : Fi) (h : Fi → Fi) : updF f.name h [f] = [h f] := by unfold updF; simp
theorem crashFs_one (l : List (Int × Int)) (f : Fi) : crashFs l [f] = [crashF (keepAt l 0).1 (keepAt l 0).2 f] := by unfold crashFs; rw [List.mapIdx_cons, List.mapIdx_nil]
end Go.Proofs.Ytefpjdgfcgjbaaa
