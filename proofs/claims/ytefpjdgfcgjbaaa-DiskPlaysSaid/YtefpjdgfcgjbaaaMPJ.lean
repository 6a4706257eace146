/- A part of the proof: DkBu, DkBy, DkRw, DkDo, one behind another. -/
import Derived.Test.YtefpjdgfcgjbaaaMPA
import Derived.Test.YtefpjdgfcgjbaaaMPB
import Derived.Test.YtefpjdgfcgjbaaaMPC
import Derived.Test.YtefpjdgfcgjbaaaMPD
import Derived.Test.YtefpjdgfcgjbaaaMPE
import Derived.Test.YtefpjdgfcgjbaaaMPF
import Derived.Test.YtefpjdgfcgjbaaaMPG
import Derived.Test.YtefpjdgfcgjbaaaMPH
import Derived.Test.YtefpjdgfcgjbaaaMPI
import Derived.StillTailTactics
import Derived.BigRegion
import Derived.BigQuiet
/- What an act does to a disk; how far its counts can have gone: plain. -/
namespace Go.Proofs.Ytefpjdgfcgjbaaa
set_option linter.unusedVariables false
set_option linter.unusedSimpArgs false
open Go.RowKit
/-- So much can have come by k acts. -/
structure Bud (s : St) (k : Nat) : Prop where
  calls : s.calls ≤ (k : Nat)
  written : s.written ≤ ((300 * k : Nat) : Int)
  mn : s.mn ≤ k
  len : s.fs.length ≤ k
theorem Bud.up {s : St} {k : Nat} (h : Bud s k) : Bud s (k + 1) := by
  have h1 := h.calls
  have h2 := h.written
  have h3 := h.mn
  have h4 := h.len
  exact ⟨by omega, by omega, by omega, by omega⟩
theorem Bud.bs {s : St} {k : Nat} (h : Bud s k) : Bud (bs s) (k + 1) := by
  have h1 := h.calls
  have h2 := h.written
  have h3 := h.mn
  have h4 := h.len
  exact ⟨by show s.calls + 1 ≤ _; omega, by show s.written ≤ _; omega, by show s.mn ≤ _; omega, by show s.fs.length ≤ _; omega⟩
theorem insF_len (f : Fi) (fs : List Fi) : (insF f fs).length = fs.length + 1 := by
  induction fs with
  | nil => rfl
  | cons g t ih =>
    unfold insF
    split
    · simp
    · simp [ih]
theorem delF_len (t : Nm) (fs : List Fi) : (delF t fs).length ≤ fs.length := List.length_filter_le ..
theorem updF_len (t : Nm) (h : Fi → Fi) (fs : List Fi) : (updF t h fs).length = fs.length := List.length_map ..
theorem dropS_len (s : St) (t : Nm) : (dropS s t).fs.length ≤ s.fs.length := by
  unfold dropS
  split
  · exact Nat.le_refl _
  · exact delF_len t s.fs
theorem Bud.act {b : Nat} {s : St} {k : Nat} {z : Int} {t u : Nm} {d : ByteArray} (h : Bud s k) (hd : d.size ≤ 300) : Bud (actS b s z t u d).2 (k + 1) := by
  have h1 := h.calls
  have h2 := h.written
  have h3 := h.mn
  have h4 := h.len
  cases ho : s.off with
  | true => rw [actS_off ho]; exact h.up
  | false =>
    by_cases ha : s.armed = true ∧ s.left = 0
    · rw [actS_end ho ha.1 ha.2]
      exact ⟨by show s.calls + 1 ≤ _; omega, by show s.written ≤ _; omega, by show s.mn ≤ _; omega, by show s.fs.length ≤ _; omega⟩
    · cases hb : badN t with
      | true => rw [actS_bad ho ha hb]; exact h.bs
      | false =>
        by_cases hu : z = 2 ∧ badN u = true
        · rw [hu.1, actS_bad2 ho ha hu.2]; exact h.bs
        · have hu' : z = 2 → badN u = false := fun h2 => by
            cases hx : badN u with
            | true => exact absurd ⟨h2, hx⟩ hu
            | false => rfl
          cases hf : findF s.fs t with
          | none =>
            by_cases h0 : z = 0
            · subst h0
              rw [actS_new ho ha hb hf]
              split
              · exact h.bs
              split
              · exact h.bs
              split
              · exact h.bs
              · exact ⟨by show s.calls + 1 ≤ _; omega, by show s.written + (d.size : Nat) ≤ _; omega, by show s.mn + 1 ≤ _; omega, by show (insF _ s.fs).length ≤ _; rw [insF_len]; omega⟩
            · rw [actS_none ho ha hb h0 hu' hf]; exact h.bs
          | some f =>
            by_cases h0 : z = 0
            · subst h0
              rw [actS_more ho ha hb hf]
              split
              · exact h.bs
              split
              · exact h.bs
              · exact ⟨by show s.calls + 1 ≤ _; omega, by show s.written + (d.size : Nat) ≤ _; omega, by show s.mn + 1 ≤ _; omega, by show (updF _ _ s.fs).length ≤ _; rw [updF_len]; omega⟩
            · by_cases hz1 : z = 1
              · subst hz1
                rw [actS_sync ho ha hb hf]
                exact ⟨by show s.calls + 1 ≤ _; omega, by show s.written ≤ _; omega, by show s.mn ≤ _; omega, by show (updF _ _ s.fs).length ≤ _; rw [updF_len]; omega⟩
              · by_cases hz2 : z = 2
                · subst hz2
                  by_cases he : t = u
                  · subst he
                    rw [actS_same ho ha hb hf]; exact h.bs
                  · rw [actS_name ho ha hb (hu' rfl) he hf]
                    have hds := dropS_same (Go.Proofs.Ytefpjdgfcgjbaaa.bs s) u
                    refine ⟨?_, ?_, ?_, ?_⟩
                    · show (dropS (Go.Proofs.Ytefpjdgfcgjbaaa.bs s) u).calls ≤ _
                      rw [hds.2.2.2.1]; show s.calls + 1 ≤ _; omega
                    · show (dropS (Go.Proofs.Ytefpjdgfcgjbaaa.bs s) u).written ≤ _
                      rw [hds.2.2.2.2.1]; show s.written ≤ _; omega
                    · show s.mn + 1 ≤ _; omega
                    · show (insF _ (delF t (dropS (Go.Proofs.Ytefpjdgfcgjbaaa.bs s) u).fs)).length ≤ _
                      rw [insF_len]
                      have e1 := delF_len t (dropS (Go.Proofs.Ytefpjdgfcgjbaaa.bs s) u).fs
                      have e2 : (dropS (Go.Proofs.Ytefpjdgfcgjbaaa.bs s) u).fs.length ≤ s.fs.length := dropS_len (Go.Proofs.Ytefpjdgfcgjbaaa.bs s) u
                      omega
                · rw [actS_gone ho ha hb h0 hz1 hz2 hf]
                  exact ⟨by show s.calls + 1 ≤ _; omega, by show s.written ≤ _; omega, by show s.mn ≤ _; omega, by show (delF _ s.fs).length ≤ _; have := delF_len t s.fs; omega⟩
/-- An act done to a disk: what it answers, and the disk behind it. -/
def doS (b : Nat) (s : St) (c : Ac) : (ByteArray × Bool × Int) × St :=
  if c.kind = 0 ∨ c.kind = 1 ∨ c.kind = 2 ∨ c.kind = 3 then ((⟨#[]⟩, false, (actS b s c.kind c.name.data.toList c.to_.data.toList c.data).1), (actS b s c.kind c.name.data.toList c.to_.data.toList c.data).2)
  else if c.kind = 4 then (((readS s c.name.data.toList).1, false, (readS s c.name.data.toList).2), s)
  else if c.kind = 5 then ((⟨#[]⟩, false, 0), armS s c.n)
  else if c.kind = 6 then ((⟨#[]⟩, false, 0), crashS s c.keep)
  else ((⟨#[]⟩, (rotS s c.name.data.toList c.n c.bits.toNat).1, 0), (rotS s c.name.data.toList c.n c.bits.toNat).2)
theorem Bud.do {b : Nat} {s : St} {k : Nat} {c : Ac} (h : Bud s k) (hd : c.data.size ≤ 300) : Bud (doS b s c).2 (k + 1) := by
  have h1 := h.calls
  have h2 := h.written
  have h3 := h.mn
  have h4 := h.len
  unfold doS
  split
  · exact h.act hd
  split
  · exact h.up
  split
  · exact ⟨by show s.calls ≤ _; omega, by show s.written ≤ _; omega, by show s.mn ≤ _; omega, by show s.fs.length ≤ _; omega⟩
  split
  · exact ⟨by show s.calls ≤ _; omega, by show s.written ≤ _; omega, by show s.mn ≤ _; omega, by show (crashFs _ s.fs).length ≤ _; rw [crashFs_len]; omega⟩
  · unfold rotS
    split
    · exact h.up
    · split
      · exact h.up
      · exact ⟨by show s.calls ≤ _; omega, by show s.written ≤ _; omega, by show s.mn ≤ _; omega, by show (updF _ _ s.fs).length ≤ _; rw [updF_len]; omega⟩
end Go.Proofs.Ytefpjdgfcgjbaaa

/- Bytes made of a string, one byte more appended: a row of the call's own whose block bears the mark of a conversion behind its end. -/
namespace Go.Proofs.Ytefpjdgfcgjbaaa
set_option linter.unusedVariables false
set_option linter.unusedSimpArgs false
open Go.RowKit
def ByR (base : Nat) (w : World) (v : Value) (l : List UInt8) : Prop :=
  ∃ g cap cur fz, v = .slice (some ⟨g, 0, none⟩) l.length cap ∧ base ≤ g ∧ w.heap[g]? = some (.cells cur 5 fz) ∧ (fz.2 = 0 ∨ cap ≤ fz.1) ∧ l.length ≤ cap ∧ cap ≤ maxLen ∧ cur.size = cap ∧ (∀ (j : Nat) (b : UInt8), l[j]? = some b → cur[j]? = some (.int .u8 (b.toNat : Int)))
theorem infoB : (Try.prog.info? 5).map (fun i => (i.zero, i.size, i.bytes)) = some (some (.int .u8 0), 1, 1) := by kernel_rfl
theorem ByR.start (w : World) (s : ByteArray) {base : Nat} (hb : base ≤ w.heap.size) (hs : s.size ≤ maxLen) : ByR base (Lib.bytesWorld w 5 s) (.slice (some ⟨w.heap.size, 0, none⟩) s.size (grownCap w s.size 0 5)) s.data.toList := by
  have hl : s.data.toList.length = s.size := by rw [Array.length_toList]; rfl
  have hge := grownCap_ge w s.size 0 5
  have hz : (Lib.bytesCells w 5 s).size = grownCap w s.size 0 5 := by
    unfold Lib.bytesCells
    rw [Array.size_append, Array.size_map, Array.size_replicate]
    have : s.data.size = s.size := rfl
    omega
  refine ⟨w.heap.size, grownCap w s.size 0 5, Lib.bytesCells w 5 s, _, by rw [hl], hb, Lib.bytesWorld_at_new w 5 s, .inr (by rw [hz]; exact Nat.le_refl _), by rw [hl]; exact hge, grownCap_le_maxLen w s.size 0 5 hs, hz, fun j b hj => ?_⟩
  have hlt : j < s.size := by rw [← hl]; exact (List.getElem?_eq_some_iff.1 hj).1
  unfold Lib.bytesCells
  have hd : s.data.size = s.size := rfl
  rw [Array.getElem?_append_left (by rw [Array.size_map, hd]; exact hlt), Array.getElem?_map, ← Array.getElem?_toList, hj]
  rfl
theorem ByR.rowB {base : Nat} {w : World} {a : Option Addr} {n c : Nat} {l : List UInt8} (h : ByR base w (.slice a n c) l) : ∃ g, a = some ⟨g, 0, none⟩ ∧ base ≤ g ∧ g < w.heap.size ∧ n = l.length ∧ RowB w g l := by
  obtain ⟨g, cap, cur, fz, hv, h1, h2, h3, h4, h5, h6, h7⟩ := h
  injection hv with e1 e2 e3
  refine ⟨g, e1, h1, lt_of_block h2, e2, fun j b hj => ?_⟩
  have hc := h7 j b hj
  have hlt : j < cap := by rw [← h6]; exact (Array.getElem?_eq_some_iff.1 hc).1
  refine ⟨?_, ?_⟩
  · simp [World.cell?, h2, hc]
  · obtain ⟨lo, hi⟩ := fz
    simp only [World.frozen?, h2, Bool.and_eq_false_iff, decide_eq_false_iff_not]
    rcases h3 with h3 | h3
    · right; simp only at h3; omega
    · left; simp only at h3; omega
theorem ByR.lt {base : Nat} {w : World} {v : Value} {l : List UInt8} (h : ByR base w v l) {g : Nat} (hg : v.ownBlock = some g) : base ≤ g ∧ g < w.heap.size := by
  obtain ⟨g', cap, cur, fz, rfl, h1, h2, -⟩ := h
  simp [Value.ownBlock] at hg; subst hg; exact ⟨h1, lt_of_block h2⟩
theorem ByR.kept {base : Nat} {X : List Nat} {w w' : World} {v : Value} {l : List UInt8} (h : ByR base w v l) (k : Fr X w w') (hX : ∀ g, v.ownBlock = some g → g ∉ X) : ByR base w' v l := by
  obtain ⟨g, cap, cur, fz, rfl, h1, h2, h3⟩ := h
  refine ⟨g, cap, cur, fz, rfl, h1, ?_, h3⟩
  rw [k.kept.2 g (lt_of_block h2) (hX g rfl)]; exact h2
theorem ByR.below {base : Nat} {w w' : World} {v : Value} {l : List UInt8} (h : ByR base w v l) (b : Below w.heap.size w w') : ByR base w' v l := h.kept (Fr.of_below b []) (fun _ _ hm => by cases hm)
theorem ByR.form {base : Nat} {w : World} {v : Value} {l : List UInt8} (h : ByR base w v l) : ∃ a c, v = .slice a l.length c := by
  obtain ⟨g, cap, cur, fz, rfl, -⟩ := h
  exact ⟨_, _, rfl⟩
theorem addr0 (g o : Nat) : (⟨g, o, none⟩ : Addr).add 0 = ⟨g, o, none⟩ := by unfold Addr.add; split <;> simp_all
theorem run_store1 {P : Program} {w : World} {g o : Nat} {v u : Value} (hc : w.cell? ⟨g, o, none⟩ = some u) (hf : w.frozen? ⟨g, o, none⟩ = false) (h1 : v.oneCell' = true) :
    (storeCells ⟨g, o, none⟩ [v] 0).run P w = .ok () (w.setCell ⟨g, o, none⟩ v) := by
  have hs : (store ((⟨g, o, none⟩ : Addr).add 0) v).run P w = .ok () (w.setCell ⟨g, o, none⟩ v) := by
    rw [addr0, run_store P w _ v _ h1, hc]
    simp [hf]
  simp only [storeCells, Sem.run_bind, hs, Result.andThen_ok]
  rfl
theorem bytes_one (l : List UInt8) (b : UInt8) (n : Nat) (hn : l.length = n) (j : Nat) (x : UInt8) (hj : (l ++ [b])[j]? = some x) : (j < n ∧ l[j]? = some x) ∨ (j = n ∧ x = b) := by
  by_cases h : j < l.length
  · rw [List.getElem?_append_left h] at hj
    exact .inl ⟨by omega, hj⟩
  · rw [List.getElem?_append_right (by omega)] at hj
    have h0 : j - l.length = 0 := by
      have := (List.getElem?_eq_some_iff.1 hj).1
      rw [List.length_singleton] at this; omega
    rw [h0] at hj
    injection hj with hj
    exact .inr ⟨by omega, hj.symm⟩
theorem byte_run {w : World} {t ty : TypeId} (ht : Try.prog.underlying t = some (.slice 5)) {base : Nat} {v : Value} {l : List UInt8} (hown : ByR base w v l) (hbase : base ≤ w.heap.size) (g1 o1 c : Nat) (b : UInt8)
    (hnew : w.cell? ⟨g1, o1, none⟩ = some (.int .u8 (b.toNat : Int))) (hl : l.length ≤ 1000000000) :
    ∃ v' w', (Builtin.append_ #[t, t] ty #[v, .slice (some ⟨g1, o1, none⟩) 1 c]).run Try.prog w = .ok v' w' ∧ ByR base w' v' (l ++ [b]) ∧ w.grownBy w' v.ownBlock := by
  obtain ⟨i, hi, hz, hsize, hby⟩ := info_parts infoB
  have hmx : maxLen = 9223372036854775807 := by decide
  obtain ⟨g, cap, cur, fz, rfl, hbg, hg, hfz, hnc, hcm, hcs, hcur⟩ := hown
  have hnews : ∀ j u, [(Value.int .u8 (b.toNat : Int))][j]? = some u → w.cell? ((⟨g1, o1, none⟩ : Addr).add j) = some u := by
    intro j u hu
    cases j with
    | zero => rw [addr0, ← Option.some.inj (show some (Value.int .u8 (b.toNat : Int)) = some u from hu)]; exact hnew
    | succ j => cases hu
  have hlen : (l ++ [b]).length = l.length + 1 := by rw [List.length_append]; rfl
  by_cases hroom : l.length + 1 ≤ cap
  · have hf := run_firstCells_some (P := Try.prog) w 1 1 ⟨g1, o1, none⟩ 1 c [.int .u8 (b.toNat : Int)] rfl hnews
    have hlt : l.length < cur.size := by omega
    have hcell : w.cell? ⟨g, l.length, none⟩ = some cur[l.length] := by simp [World.cell?, hg, hlt]
    have hfro : w.frozen? ⟨g, l.length, none⟩ = false := by
      obtain ⟨lo, hi⟩ := fz
      simp only [World.frozen?, hg, Bool.and_eq_false_iff, decide_eq_false_iff_not]
      rcases hfz with h3 | h3
      · right; simp only at h3; omega
      · left; simp only at h3; omega
    have hst := run_store1 (P := Try.prog) (v := .int .u8 (b.toNat : Int)) hcell hfro rfl
    have hrun : (Builtin.append_ #[t, t] ty #[.slice (some ⟨g, 0, none⟩) l.length cap, .slice (some ⟨g1, o1, none⟩) 1 c]).run Try.prog w = .ok (.slice (some ⟨g, 0, none⟩) (l.length + 1) cap) (w.setCell ⟨g, l.length, none⟩ (.int .u8 (b.toNat : Int))) := by
      simp [Builtin.append_, run_underlying ht, sizeOf, typeInfo, hi, Builtin.lenOf, hroom, hf, Addr.add_lit, hst, hsize]
    have hrow := setCell_eq_setRow w g l.length cur 5 fz (.int .u8 (b.toNat : Int)) hg
    refine ⟨_, _, hrun, ⟨g, cap, cur.setIfInBounds l.length (.int .u8 (b.toNat : Int)), fz, by rw [hlen], hbg, ?_, hfz, by rw [hlen]; exact hroom, hcm, by rw [Array.size_setIfInBounds]; exact hcs, fun j x hj => ?_⟩, ?_⟩
    · rw [hrow]; exact setRow_heap w g cur _ 5 _ hg
    · rw [Array.getElem?_setIfInBounds]
      rcases bytes_one l b l.length rfl j x hj with ⟨h1, h2⟩ | ⟨h1, h2⟩
      · rw [if_neg (by omega)]; exact hcur j x h2
      · rw [if_pos h1.symm, if_pos (by omega), h2]
    · rw [hrow]
      exact ⟨rfl, rfl, rfl, by simp, fun k _ hk => setRow_other w g k _ (fun e => hk (by simp [Value.ownBlock, e]))⟩
  · have holds : ∀ j u, (l.map (fun x => Value.int .u8 (x.toNat : Int)))[j]? = some u → w.cell? ((⟨g, 0, none⟩ : Addr).add j) = some u := by
      intro j u hu
      rw [List.getElem?_map] at hu
      cases hx : l[j]? with
      | none => rw [hx] at hu; cases hu
      | some x =>
        rw [hx] at hu
        have hu := Option.some.inj (show some (Value.int .u8 (x.toNat : Int)) = some u from hu)
        have hadd : (⟨g, 0, none⟩ : Addr).add j = ⟨g, j, none⟩ := by unfold Addr.add; split <;> simp_all
        rw [hadd, ← hu]
        simp [World.cell?, hg, hcur j x hx]
    have hr := run_append_grow (P := Try.prog) w t ty 5 i (.int .u8 0) ht hi hz ⟨g, 0, none⟩ l.length cap (l.map (fun x => Value.int .u8 (x.toNat : Int))) (by rw [List.length_map, hsize, Nat.mul_one]) holds ⟨g1, o1, none⟩ 1 c [.int .u8 (b.toNat : Int)] (by rw [hsize]; rfl) hnews (by omega) (by omega) (growslice_fits (by omega) (by rw [hby]; omega))
    have hge := grownCap_ge w (l.length + 1) cap 5
    have hcm2 : grownCap w (l.length + 1) cap 5 ≤ maxLen := grownCap_le_maxLen w (l.length + 1) cap 5 (by omega)
    refine ⟨_, _, hr, ⟨w.heap.size, _, _, (0, 0), by rw [hlen], hbase, heap_alloc_new w.drew _, .inl rfl, by rw [hlen]; exact hge, hcm2, ?_, fun j x hj => ?_⟩, ⟨rfl, rfl, rfl, by simp, fun k hk _ => Go.heap_alloc_old w.drew _ hk⟩⟩
    · simp only [Array.size_append, List.size_toArray, size_zeroCells, List.length_map, List.length_singleton, Value.cells]
      simp
      omega
    · have hz2 : j < (l ++ [b]).length := (List.getElem?_eq_some_iff.1 hj).1
      rw [hlen] at hz2
      rw [Array.getElem?_append_left (by simp; omega)]
      rw [← Array.getElem?_toList]
      simp only [Array.toList_append]
      have e : (l.map (fun x => Value.int .u8 (x.toNat : Int))) ++ [(Value.int .u8 (b.toNat : Int))] = (l ++ [b]).map (fun x => Value.int .u8 (x.toNat : Int)) := by rw [List.map_append]; rfl
      rw [e, List.getElem?_map, hj]
      rfl
/-- One byte more, in a plain region. -/
theorem ap_byte {w : World} {ops : Array Oper} {rest : List Oper} {o : Oper} {a : Act} {Q : Exit → Act → World → Prop} {t : TypeId} (ht : Try.prog.underlying t = some (.slice 5))
    (hgd : o.guard = none) (s x : Operand) (ho : o.op = .call { callee := .builtin .append, args := #[s, x], argTypes := #[t, t] })
    {base : Nat} {v : Value} {l : List UInt8} (hs : a.eval s = v) (hown : ByR base w v l) (hbase : base ≤ w.heap.size) (g1 o1 c : Nat) (b : UInt8) (hx : a.eval x = .slice (some ⟨g1, o1, none⟩) 1 c)
    (hnew : w.cell? ⟨g1, o1, none⟩ = some (.int .u8 (b.toNat : Int))) (hl : l.length ≤ 1000000000)
    (h : ∀ v' w', ByR base w' v' (l ++ [b]) → w.grownBy w' v.ownBlock → wpList Try.prog ops Q rest (a.put o.dst v') w') : wpList Try.prog ops Q (o :: rest) a w := by
  refine wpList_plain hgd fun _ hK => ?_
  obtain ⟨v', w', hrun, h2, h3⟩ := byte_run (ty := o.type) ht hown hbase g1 o1 c b hnew hl
  unfold Oper.wp execOp
  simp only [ho, resolve, invoke, builtin, Sem.run_bind, Sem.run_pure, Result.andThen_ok, List.map_toArray, List.map_cons, List.map_nil, hs, hx, hrun]
  exact hK _ _ (h v' w' h2 h3)
end Go.Proofs.Ytefpjdgfcgjbaaa

/- The walk of a disk's Rot. -/
namespace Go.Proofs.Ytefpjdgfcgjbaaa
set_option linter.unusedVariables false
set_option linter.unusedSimpArgs false
open Go.RowKit
theorem shr_nat (B k : Nat) (hk : k < 32) : (B : Int) / 2 ^ min ((k : Int)).toNat 32 = ((B / 2 ^ k : Nat) : Int) := by
  have e : min ((k : Int)).toNat 32 = k := by omega
  rw [e]
  push_cast; rfl
theorem and_one (x : Nat) (hx : x < 4294967296) : bits .and .u32 (x : Int) 1 = ((x % 2 : Nat) : Int) := by
  have h1 : x &&& 1 = x % 2 := Nat.and_one_is_mod x
  have h2 : x % 2 < 2 := Nat.mod_lt _ (by omega)
  show IntKind.u32.wrap ((BitVec.ofInt 32 (x : Int) &&& BitVec.ofInt 32 1).toNat : Int) = _
  have e1 : (BitVec.ofInt 32 (x : Int)).toNat = x := by
    rw [BitVec.toNat_ofInt]; omega
  have e2 : (BitVec.ofInt 32 1).toNat = 1 := by decide
  rw [BitVec.toNat_and, e1, e2, h1]
  simp [IntKind.wrap, IntKind.bits, IntKind.signed]
  omega
theorem findF_upd_blk {fs : List Fi} (hu : UpF fs) {t : Nm} {f : Fi} (h : Fi → Fi) (hf : findF fs t = some f) {x : Fi} (hx : x ∈ updF t h fs) : x = h f ∨ (x ∈ fs ∧ x.name ≠ t) := by
  rcases mem_updF hx with ⟨y, hy, hyn, rfl⟩ | hy
  · have : findF fs y.name = some y := findF_of hu hy
    rw [hyn, hf] at this
    injection this with this
    subst this
    exact .inl rfl
  · exact .inr hy
/-- The bytes are stored. -/
theorem rot_fin {w w3 wr : World} {p zb : Nat} {s : St} {t : Nm} {f : Fi} (hD : DkAt w p s) (hf : findF s.fs t = some f) (A B : Nat) (hz : zb = w.heap.size) (h0 : Below w.heap.size w w3) (h1 : Fr [zb] w3 wr) :
    DkAt (wr.setCell ⟨f.blk, 0, none⟩ (.string ⟨(rotL f.data.data.toList f.safe A B 32).toArray⟩)) p { s with fs := updF t (rotF A B) s.fs } ∧ DkStep p s { s with fs := updF t (rotF A B) s.fs } w (wr.setCell ⟨f.blk, 0, none⟩ (.string ⟨(rotL f.data.data.toList f.safe A B 32).toArray⟩)) := by
  obtain ⟨hfm, hfn⟩ := findF_mem hf
  have hpf : f.blk ∈ dks p s := List.mem_cons_of_mem _ (List.mem_cons_of_mem _ (List.mem_map.2 ⟨f, hfm, rfl⟩))
  have k0 : Fr [zb] w wr := (Fr.of_below h0 [zb]).trans h1
  have kB : Fr [] w wr := k0.fresh (fun b hb => by rw [List.mem_singleton] at hb; subst hb; exact .inr (by omega))
  have hD1 : DkAt wr p s := hD.fr kB (fun g hg => by cases hg)
  have k2 : Fr [f.blk] wr (wr.setCell ⟨f.blk, 0, none⟩ (.string ⟨(rotL f.data.data.toList f.safe A B 32).toArray⟩)) := Fr.setCell wr (by simp) _
  have hh : ∀ f, (rotF A B f).name = f.name ∧ (rotF A B f).blk = f.blk := fun f => ⟨rfl, rfl⟩
  refine ⟨⟨k2.blk hD1.ptr (by simpa using (hD1.fp hfm).symm), ?_, fun x hx => ?_, hD.ok.rot t A B⟩, ⟨(kB.more (fun g hg => by cases hg)).trans (k2.more (fun g hg => by rw [List.mem_singleton] at hg; subst hg; exact hpf)), fun g hg => .inl ?_⟩⟩
  · obtain ⟨D, hd1, hd2⟩ := hD1.map
    exact ⟨D, k2.map hd1 (by simpa using fun e => hD1.fm hfm e.symm), hd2.upd hh⟩
  · rcases findF_upd_blk hD.ok.up (rotF A B) hf hx with rfl | ⟨hx, hxn⟩
    · exact (hD1.fil f hfm).set_ 0 _
    · have hne : x.blk ≠ f.blk := by
        intro e
        have := blk_inj hD.ok.one hx hfm e
        subst this
        exact hxn hfn
      exact k2.blk (hD1.fil x hx) (by simpa using hne)
  · unfold dks at hg ⊢
    rw [show ({ s with fs := updF t (rotF A B) s.fs } : St).fs = updF t (rotF A B) s.fs from rfl, updF_blk hh] at hg
    exact hg
set_option maxRecDepth 100000 in
set_option maxHeartbeats 4000000 in
theorem rot_any (p : Nat) (s : St) (nm : ByteArray) (at_ bs : Int) (w : World) (hD : DkAt w p s) (hn : nm.size ≤ maxLen) (hat : I64 at_) (hb : 0 ≤ bs ∧ bs ≤ 4294967295) :
    Calls Try.prog 39 #[.pointer (some ⟨p, 0, none⟩), .string nm, .int .i64 at_, .int .u32 bs] w fun x w' => x = .returned (.bool (rotS s nm.data.toList at_ bs.toNat).1) ∧ DkAt w' p (rotS s nm.data.toList at_ bs.toNat).2 ∧ DkStep p s (rotS s nm.data.toList at_ bs.toNat).2 w w' := by
  obtain ⟨B, rfl⟩ : ∃ B : Nat, bs = (B : Nat) := ⟨bs.toNat, by omega⟩
  rw [Int.toNat_natCast]
  obtain ⟨c0, c1, c2, c3, c4, c5, c6, c7⟩ := dk8 hD.ptr
  have hl := hD.look0 nm hn
  have HD := Lib.hid hD
  obtain ⟨R, hR⟩ : ∃ R, R = rotS s nm.data.toList at_ B := ⟨_, rfl⟩
  have HR := Lib.hid hR
  rw [← hR]
  clear hR hn
  unfold rotS at HR
  cases hf : findF s.fs nm.data.toList with
  | none =>
    rw [hf] at hl HR
    simp only [ptrV] at hl
    obtain rfl : R = (false, s) := HR.out
    clear hD hf HR
    go_enter Try.func39, Try.ntmps39
    go_wp2_with fail
    go_ret
    exact ⟨rfl, HD.out, DkStep.refl _ _ _⟩
  | some f =>
    rw [hf] at hl HR
    simp only [ptrV] at hl
    obtain ⟨hfm, hfn⟩ := findF_mem hf
    by_cases hneg : at_ < 0
    · dsimp only at HR
      rw [if_pos hneg] at HR
      obtain rfl : R = (false, s) := HR.out
      clear hD hf HR hfm hfn
      go_enter Try.func39, Try.ntmps39
      go_wp2_with fail
      go_ret
      exact ⟨rfl, HD.out, DkStep.refl _ _ _⟩
    · dsimp only at HR
      rw [if_neg hneg] at HR
      obtain ⟨A, rfl⟩ : ∃ A : Nat, at_ = (A : Nat) := ⟨at_.toNat, by omega⟩
      rw [Int.toNat_natCast] at HR
      have hA : A ≤ 9223372036854775807 := by unfold I64 at hat; omega
      obtain ⟨hs1, hs2⟩ := hD.ok.siz f hfm
      have HSZ : Hid (f.data.size ≤ 1048576 ∧ f.safe ≤ f.data.size) := ⟨hs1, hs2⟩
      have HB := Lib.hid (hD.fil f hfm)
      have HFM := Lib.hid hfm
      have HFN := Lib.hid hfn
      have HFF := Lib.hid hf
      have hlen : f.data.data.toList.length = f.data.size := by rw [Array.length_toList]; rfl
      have HLN := Lib.hid hlen
      obtain ⟨u0, u1, v0, v1⟩ := HB.out.two
      have hcv := Lib.run_convert_string_bytes (P := Try.prog) w 9 35 5 f.data Try.underlying9 Try.underlying35 Try.underlying5
      have HW0 := Lib.hid (bytes_below w 5 f.data)
      have HBY := Lib.hid (ByR.start w f.data (Nat.le_refl w.heap.size) (by unfold maxLen; omega))
      have HRow : Hid (RowB (Lib.bytesWorld w 5 f.data) w.heap.size f.data.data.toList) := by
        obtain ⟨g, e, -, -, -, h⟩ := HBY.out.rowB
        injection e with e; injection e with e
        rw [e]; exact h
      clear hD hf hfm hfn hat hs1 hs2 HBY hlen
      have HNN : Hid (∃ n, n = f.data.size) := ⟨_, rfl⟩
      go_enter Try.func39, Try.ntmps39
      go_upto_region 5 with (fail)
      clear hcv hl u0 u1 v0 v1 c0 c1 c2 c3 c4 c5 c6 c7
      generalize grownCap w f.data.size 0 5 = gc at *
      obtain ⟨zb, hzb⟩ : ∃ z, z = w.heap.size := ⟨_, rfl⟩
      have HZB := Lib.hid hzb
      rw [← hzb] at HRow ⊢
      clear hzb
      generalize hw3 : Lib.bytesWorld w 5 f.data = w3 at *
      clear hw3
      have HB3 := Lib.hid (HB.out.below HW0.out)
      have hzf : Hid (f.blk ≠ zb) := by
        show _ ≠ _
        rw [HZB.out]; exact Nat.ne_of_lt HB.out.lt
      go_wp2_with fail
      go_loopw [11, 39] (fun t i wr => ∃ (k : Nat), t = .bool (rotT f.safe A B k) ∧ i = .int .i64 (k : Nat) ∧ k ≤ 32 ∧ Hid (RowB wr zb (rotL f.data.data.toList f.safe A B k) ∧ Fr [zb] w3 wr)) (fun _ i _ => 32 - (intOf i).toNat)
      case atStart => exact ⟨0, rfl, rfl, Nat.zero_le _, HRow.out, Fr.refl _ _⟩
      case round =>
        obtain ⟨k, rfl, rfl, hk, HRR⟩ := hrel
        have HBR : Hid (Mem.Blk wr f.blk 69 (flC f)) := HRR.out.2.blk HB3.out (by simp; exact hzf.out)
        obtain ⟨u0, u1, v0, v1⟩ := HBR.out.two
        by_cases hlt : k < 32
        · have hlt' : (k : Int) < (32 : Int) := by omega
          have i0 : (0 : Int) ≤ (k : Int) := by omega
          have hsh := shr_nat B k hlt
          have hbd : B / 2 ^ k < 4294967296 := Nat.lt_of_le_of_lt (Nat.div_le_self _ _) (by omega)
          have han : bits .and .u32 ((B : Int) / 2 ^ k) 1 = ((B / 2 ^ k % 2 : Nat) : Int) := by
            rw [← and_one (B / 2 ^ k) hbd]
            congr 1
          have HKL := Lib.hid hlt
          clear hlt hbd
          obtain ⟨bt, hbt⟩ : ∃ x, x = B / 2 ^ k % 2 := ⟨_, rfl⟩
          have HBT := Lib.hid hbt
          rw [← hbt] at han
          have hbt2 : bt < 2 := by rw [hbt]; exact Nat.mod_lt _ (by omega)
          clear hbt
          by_cases hone : bt = 1
          · subst hone
            by_cases hin : A + k < 8 * f.safe
            · have HIT : Hid (hitB f.safe A B k = true) := by
                show hitB _ _ _ _ = true
                unfold hitB
                rw [← HBT.out, decide_eq_true (by rfl), decide_eq_true hin]; rfl
              have HBD : Hid (A + k ≤ 8388608) := by have := HSZ.out; show A + k ≤ _; omega
              have g1 : (A : Int) / 8 < (f.safe : Int) := by omega
              have g2 : (A : Int) + (k : Int) < 8 * (f.safe : Int) := by omega
              have g3 : ((A : Int) + (k : Int)) ≤ 8388608 := by have := HBD.out; omega
              have g4 : (f.safe : Int) ≤ 1048576 := by have := HSZ.out; omega
              clear hin
              go_upto_region 10 with (fail)
              obtain ⟨nk, hnk⟩ : ∃ n, n = A + k := ⟨_, rfl⟩
              have HNK := Lib.hid hnk
              have hw1 : IntKind.i64.wrap ((A : Int) + (k : Int)) = (nk : Int) := by rw [hnk, IntWalk.i64_in _ (by omega)]; push_cast; rfl
              have hw2 : IntKind.i64.wrap (((nk : Nat) : Int).tdiv 8) = ((nk / 8 : Nat) : Int) := by
                have e : ((nk : Nat) : Int).tdiv 8 = ((nk / 8 : Nat) : Int) := rfl
                rw [e]
                exact IntWalk.i64_in _ (by have := HBD.out; omega)
              have hw5 : IntKind.i64.wrap (((nk : Nat) : Int) / 8) = ((nk / 8 : Nat) : Int) := IntWalk.i64_in _ (by have := HBD.out; omega)
              have hw6 : IntKind.i64.wrap (((nk : Nat) : Int) % 8) = ((nk % 8 : Nat) : Int) := IntWalk.i64_in _ (by omega)
              have hw7 : ((nk : Nat) : Int) % 8 = ((nk % 8 : Nat) : Int) := by omega
              have hw3 : ((nk : Nat) : Int).tmod 8 = ((nk % 8 : Nat) : Int) := rfl
              have hw4 : IntKind.i64.wrap ((nk % 8 : Nat) : Int) = ((nk % 8 : Nat) : Int) := IntWalk.i64_in _ (by omega)
              have hix : nk / 8 < f.data.size := by have := HSZ.out; omega
              obtain ⟨b0, hb0⟩ : ∃ b0, (rotL f.data.data.toList f.safe A B k)[nk / 8]? = some b0 := ⟨_, List.getElem?_eq_getElem (by rw [rotL_len, HLN.out]; exact hix)⟩
              obtain ⟨r0, r1⟩ := HRR.out.1 _ b0 hb0
              have HB0 := Lib.hid hb0
              have h8 : nk % 8 < 8 := Nat.mod_lt _ (by omega)
              have hx := xor_bit b0 h8
              clear hb0 g1 g2 g3 hnk
              obtain ⟨ix, hixx⟩ : ∃ x, x = nk / 8 := ⟨_, rfl⟩
              obtain ⟨rm, hrm⟩ : ∃ x, x = nk % 8 := ⟨_, rfl⟩
              have HIX := Lib.hid hixx
              have HRM := Lib.hid hrm
              rw [← hixx] at hw2 hw5 r0 r1 HB0 hix
              rw [← hrm] at hw3 hw4 hw6 hw7 h8 hx
              have hsl : IntKind.u8.wrap (1 * 2 ^ min ((rm : Nat) : Int).toNat 8) = ((2 ^ rm : Nat) : Int) := by
                have e : min ((rm : Nat) : Int).toNat 8 = rm := by omega
                rw [e, Int.one_mul, IntKind.wrap_u8']
                have h2 : 2 ^ rm < 256 := Nat.pow_lt_pow_right (a := 2) (by omega) h8
                have h3 : ((2 : Int) ^ rm) = ((2 ^ rm : Nat) : Int) := by push_cast; rfl
                rw [h3]
                generalize 2 ^ rm = y at *
                omega
              have hx2 : bits .xor .u8 (b0.toNat : Int) ((2 : Int) ^ rm % 256) = ((b0 ^^^ bitU rm).toNat : Int) := by
                rw [← hx]
                have h2 : 2 ^ rm < 256 := Nat.pow_lt_pow_right (a := 2) (by omega) h8
                have h3 : ((2 : Int) ^ rm) = ((2 ^ rm : Nat) : Int) := by push_cast; rfl
                rw [h3]
                generalize 2 ^ rm = y at *
                congr 1
                omega
              have j0 : (0 : Int) ≤ (ix : Int) := by omega
              have j1 : (ix : Int) < (f.data.size : Int) := by omega
              clear hixx hrm hix h8
              go_still_tail 14, (by kernel_rfl)
              change wpList _ _ _ _ _ wr.drew
              go_wp2_with fail
              go_roundw
              case rel => exact ⟨k + 1, by rw [rotT, HIT.out, Bool.true_or], by go_num, by have := HKL.out; omega, by
                have h1 := rowB_turn HRR.out.1 HIT.out (b0 := b0) (by rw [← HNK.out, ← HIX.out]; exact HB0.out)
                rw [← HNK.out, ← HIX.out, ← HRM.out] at h1
                intro j b hj
                exact h1 j b hj, HRR.out.2.trans ((Fr.setCell wr (by simp) _).trans (Fr.drew _ _))⟩
              case measure => simp [intOf]; have := HKL.out; omega
            · have HIT : Hid (hitB f.safe A B k = false) := by
                show hitB _ _ _ _ = false
                unfold hitB
                rw [decide_eq_false hin, Bool.and_false]
              by_cases hlo : A / 8 < f.safe
              · have g1 : (A : Int) / 8 < (f.safe : Int) := by omega
                have g2 : ¬ (A : Int) + (k : Int) < 8 * (f.safe : Int) := by omega
                have g4 : (f.safe : Int) ≤ 1048576 := by have := HSZ.out; omega
                have g3 : ((A : Int) + (k : Int)) ≤ 18388608 := by omega
                clear hin hlo
                go_wp2_with fail
                go_roundw
                case rel => exact ⟨k + 1, by rw [rotT, HIT.out, Bool.false_or], by go_num, by have := HKL.out; omega, rowB_skip HRR.out.1 HIT.out, HRR.out.2⟩
                case measure => simp [intOf]; have := HKL.out; omega
              · have g1 : ¬ (A : Int) / 8 < (f.safe : Int) := by omega
                clear hin hlo
                go_wp2_with fail
                go_roundw
                case rel => exact ⟨k + 1, by rw [rotT, HIT.out, Bool.false_or], by go_num, by have := HKL.out; omega, rowB_skip HRR.out.1 HIT.out, HRR.out.2⟩
                case measure => simp [intOf]; have := HKL.out; omega
          · have HIT : Hid (hitB f.safe A B k = false) := by
              show hitB _ _ _ _ = false
              unfold hitB
              rw [← HBT.out, decide_eq_false hone, Bool.false_and]
            obtain rfl : bt = 0 := by omega
            have han : bits .and .u32 ((B : Int) / 2 ^ k) 1 = 0 := han
            clear hone
            go_wp2_with fail
            go_roundw
            case rel => exact ⟨k + 1, by rw [rotT, HIT.out, Bool.false_or], by go_num, by have := HKL.out; omega, rowB_skip HRR.out.1 HIT.out, HRR.out.2⟩
            case measure => simp [intOf]; have := HKL.out; omega
        · have hlt' : ¬ (k : Int) < (32 : Int) := by omega
          obtain rfl : k = 32 := by omega
          have hrow := HRR.out.1
          have hcv := fun dst cap => @run_convert_bytes_back Try.prog wr 35 dst 5 ⟨zb, 0, none⟩ cap (rotL f.data.data.toList f.safe A B 32) Try.underlying35 Try.underlying5
          have hcb : (convert 35 9 (.slice (some ⟨zb, 0, none⟩) (rotL f.data.data.toList f.safe A B 32).length gc)).run Try.prog wr = .ok (.string ⟨(rotL f.data.data.toList f.safe A B 32).toArray⟩) wr :=
            hcv 9 _ Try.underlying9 (fun j hj => by
              rw [Mem.add0]
              exact (hrow j _ (List.getElem?_eq_getElem hj)).1)
          rw [rotL_len, HLN.out] at hcb
          have hpf : f.blk ∈ dks p s := List.mem_cons_of_mem _ (List.mem_cons_of_mem _ (List.mem_map.2 ⟨f, HFM.out, rfl⟩))
          have FIN := Lib.hid (rot_fin HD.out HFF.out A B HZB.out HW0.out HRR.out.2)
          clear hrow HRR
          go_wp2_with fail
          go_ret
          rw [HR.out]
          exact ⟨rfl, FIN.out⟩
end Go.Proofs.Ytefpjdgfcgjbaaa

/- The walk of do: an act, done to a disk. -/
namespace Go.Proofs.Ytefpjdgfcgjbaaa
set_option linter.unusedVariables false
set_option linter.unusedSimpArgs false
open Go.RowKit
theorem acts0 {b : Nat} {s : St} {t u : Nm} {d : ByteArray} : actS b s 0 t u d = appendS b s t d := if_pos rfl
theorem acts1 {b : Nat} {s : St} {t u : Nm} {d : ByteArray} : actS b s 1 t u d = syncS s t := (if_neg (by decide)).trans (if_pos rfl)
theorem acts2 {b : Nat} {s : St} {t u : Nm} {d : ByteArray} : actS b s 2 t u d = renameS s t u := (if_neg (by decide)).trans ((if_neg (by decide)).trans (if_pos rfl))
theorem acts3 {b : Nat} {s : St} {t u : Nm} {d : ByteArray} : actS b s 3 t u d = deleteS s t := (if_neg (by decide)).trans ((if_neg (by decide)).trans (if_neg (by decide)))
theorem doS_low {b : Nat} {s : St} {c : Ac} (h : c.kind = 0 ∨ c.kind = 1 ∨ c.kind = 2 ∨ c.kind = 3) : doS b s c = ((⟨#[]⟩, false, (actS b s c.kind c.name.data.toList c.to_.data.toList c.data).1), (actS b s c.kind c.name.data.toList c.to_.data.toList c.data).2) := if_pos h
theorem doS4 {b : Nat} {s : St} {c : Ac} (h : c.kind = 4) : doS b s c = (((readS s c.name.data.toList).1, false, (readS s c.name.data.toList).2), s) := (if_neg (by omega)).trans (if_pos h)
theorem doS5 {b : Nat} {s : St} {c : Ac} (h : c.kind = 5) : doS b s c = ((⟨#[]⟩, false, 0), armS s c.n) := (if_neg (by omega)).trans ((if_neg (by omega)).trans (if_pos h))
theorem doS6 {b : Nat} {s : St} {c : Ac} (h : c.kind = 6) : doS b s c = ((⟨#[]⟩, false, 0), crashS s c.keep) := (if_neg (by omega)).trans ((if_neg (by omega)).trans ((if_neg (by omega)).trans (if_pos h)))
theorem doS7 {b : Nat} {s : St} {c : Ac} (h : ¬ (c.kind = 0 ∨ c.kind = 1 ∨ c.kind = 2 ∨ c.kind = 3 ∨ c.kind = 4 ∨ c.kind = 5 ∨ c.kind = 6)) : doS b s c = ((⟨#[]⟩, (rotS s c.name.data.toList c.n c.bits.toNat).1, 0), (rotS s c.name.data.toList c.n c.bits.toNat).2) := (if_neg (by omega)).trans ((if_neg (by omega)).trans ((if_neg (by omega)).trans (if_neg (by omega))))
set_option maxRecDepth 100000 in
set_option maxHeartbeats 4000000 in
theorem do_any (p : Nat) (s : St) (c : Ac) (k : Nat) (w : World) (hD : DkAt w p s) (hc : AcOk w (dks p s) c) (hd : c.data.size ≤ 300) (hbu : Bud s k) (hk : k ≤ 1000) :
    Calls Try.prog 23 #[.pointer (some ⟨p, 0, none⟩), .agg (acC c).toArray] w fun x w' => ∃ b, x = .returned (.tuple #[.string (doS b s c).1.1, .bool (doS b s c).1.2.1, .int .i64 (doS b s c).1.2.2]) ∧ DkAt w' p (doS b s c).2 ∧ DkStep p s (doS b s c).2 w w' := by
  have hal := (Below.refl w.heap.size w).alloc (Nat.le_refl _) (.cells (acC c).toArray 54)
  have HB := Lib.hid hal
  have BC := Lib.hid (Mem.Blk.new w 54 (acC c).toArray)
  have HA : Hid (AcOk (w.alloc (.cells (acC c).toArray 54)) (dks p s) c) := ⟨hc.name, hc.to_, hc.data, hc.kind, hc.n, hc.bits, hc.keep.kept (Kept.of_below hal _)⟩
  have HD := Lib.hid hD
  have HBU : Hid (s.calls ≤ 4611686018427387904 ∧ s.written ≤ 4611686018427387904 ∧ s.mn ≤ 1000000 ∧ s.fs.length ≤ 1000000) := by
    have h1 := hbu.calls
    have h2 := hbu.written
    have h3 := hbu.mn
    have h4 := hbu.len
    exact ⟨by omega, by omega, by omega, by omega⟩
  have HDZ := Lib.hid hd
  clear hal hD hc hbu hd
  show Calls Try.prog 23 #[.pointer (some ⟨p, 0, none⟩), .agg #[.int .i64 c.kind, .string c.name, .string c.to_, .string c.data, .int .i64 c.n, .int .u32 c.bits, .slice c.ka c.kl c.kc]] w _
  by_cases k0 : c.kind = 0
  · have HE : Hid (∀ b, doS b s c = ((⟨#[]⟩, false, (appendS b s c.name.data.toList c.data).1), (appendS b s c.name.data.toList c.data).2)) := by
      intro b; rw [doS_low (.inl k0), k0, acts0]
    have KK := Lib.hid k0
    clear k0
    go_enter Try.func23, Try.ntmps23
    go_upto_region 1 with (fail)
    have BC' : Hid (Mem.Blk (w.alloc (.cells #[.int .i64 c.kind, .string c.name, .string c.to_, .string c.data, .int .i64 c.n, .int .u32 c.bits, .slice c.ka c.kl c.kc] 54)) w.heap.size 54 (acC c).toArray) := BC.out
    have HB' : Hid (Below w.heap.size w (w.alloc (.cells #[.int .i64 c.kind, .string c.name, .string c.to_, .string c.data, .int .i64 c.n, .int .u32 c.bits, .slice c.ka c.kl c.kc] 54))) := HB.out
    have HA1 : Hid (AcOk (w.alloc (.cells #[.int .i64 c.kind, .string c.name, .string c.to_, .string c.data, .int .i64 c.n, .int .u32 c.bits, .slice c.ka c.kl c.kc] 54)) (dks p s) c) := HA.out
    clear BC HB HA
    generalize w.alloc (.cells #[.int .i64 c.kind, .string c.name, .string c.to_, .string c.data, .int .i64 c.n, .int .u32 c.bits, .slice c.ka c.kl c.kc] 54) = w1 at *
    have HD1 := Lib.hid (HD.out.below HB'.out)
    obtain ⟨q0, q1, q2, q3, q4, q5, q6⟩ := blk7 BC'.out
    rw [KK.out] at q0
    go_wp2_with fail
    go_at_call 11
    (with_reducible refine (append_any p s c.name c.data w1 HD1.out HBU.out.1 HBU.out.2.1 HBU.out.2.2.1 HA1.out.name (by have := HDZ.out; omega)).mono ?_)
    rintro x w2 ⟨b, rfl, hd2, hs2⟩
    have FIN : Hid (DkAt w2 p (doS b s c).2 ∧ DkStep p s (doS b s c).2 w w2) := by
      show _ ∧ _
      rw [HE.out]
      exact ⟨hd2, (DkStep.below HB'.out).trans hs2⟩
    clear hd2 hs2 HB' q0 q1 q2 q3 q4 q5 q6
    go_wp2_with fail
    go_ret3
    exact ⟨b, by rw [HE.out]; rfl, FIN.out⟩
  by_cases k1 : c.kind = 1
  · have HE : Hid (∀ b, doS b s c = ((⟨#[]⟩, false, (syncS s c.name.data.toList).1), (syncS s c.name.data.toList).2)) := by
      intro b; rw [doS_low (by omega), k1, acts1]
    have KK := Lib.hid k1
    clear k1
    go_enter Try.func23, Try.ntmps23
    go_upto_region 1 with (fail)
    have BC' : Hid (Mem.Blk (w.alloc (.cells #[.int .i64 c.kind, .string c.name, .string c.to_, .string c.data, .int .i64 c.n, .int .u32 c.bits, .slice c.ka c.kl c.kc] 54)) w.heap.size 54 (acC c).toArray) := BC.out
    have HB' : Hid (Below w.heap.size w (w.alloc (.cells #[.int .i64 c.kind, .string c.name, .string c.to_, .string c.data, .int .i64 c.n, .int .u32 c.bits, .slice c.ka c.kl c.kc] 54))) := HB.out
    have HA1 : Hid (AcOk (w.alloc (.cells #[.int .i64 c.kind, .string c.name, .string c.to_, .string c.data, .int .i64 c.n, .int .u32 c.bits, .slice c.ka c.kl c.kc] 54)) (dks p s) c) := HA.out
    clear BC HB HA
    generalize w.alloc (.cells #[.int .i64 c.kind, .string c.name, .string c.to_, .string c.data, .int .i64 c.n, .int .u32 c.bits, .slice c.ka c.kl c.kc] 54) = w1 at *
    have HD1 := Lib.hid (HD.out.below HB'.out)
    obtain ⟨q0, q1, q2, q3, q4, q5, q6⟩ := blk7 BC'.out
    rw [KK.out] at q0
    go_wp2_with fail
    go_at_call 12
    (with_reducible refine (sync_any p s c.name w1 HD1.out HBU.out.1 HA1.out.name).mono ?_)
    rintro x w2 ⟨rfl, hd2, hs2⟩
    have FIN : Hid (DkAt w2 p (doS 0 s c).2 ∧ DkStep p s (doS 0 s c).2 w w2) := by
      show _ ∧ _
      rw [HE.out]
      exact ⟨hd2, (DkStep.below HB'.out).trans hs2⟩
    clear hd2 hs2 HB' q0 q1 q2 q3 q4 q5 q6
    go_wp2_with fail
    go_ret3
    exact ⟨0, by rw [HE.out]; rfl, FIN.out⟩
  by_cases k2 : c.kind = 2
  · have HE : Hid (∀ b, doS b s c = ((⟨#[]⟩, false, (renameS s c.name.data.toList c.to_.data.toList).1), (renameS s c.name.data.toList c.to_.data.toList).2)) := by
      intro b; rw [doS_low (by omega), k2, acts2]
    have KK := Lib.hid k2
    clear k2
    go_enter Try.func23, Try.ntmps23
    go_upto_region 1 with (fail)
    have BC' : Hid (Mem.Blk (w.alloc (.cells #[.int .i64 c.kind, .string c.name, .string c.to_, .string c.data, .int .i64 c.n, .int .u32 c.bits, .slice c.ka c.kl c.kc] 54)) w.heap.size 54 (acC c).toArray) := BC.out
    have HB' : Hid (Below w.heap.size w (w.alloc (.cells #[.int .i64 c.kind, .string c.name, .string c.to_, .string c.data, .int .i64 c.n, .int .u32 c.bits, .slice c.ka c.kl c.kc] 54))) := HB.out
    have HA1 : Hid (AcOk (w.alloc (.cells #[.int .i64 c.kind, .string c.name, .string c.to_, .string c.data, .int .i64 c.n, .int .u32 c.bits, .slice c.ka c.kl c.kc] 54)) (dks p s) c) := HA.out
    clear BC HB HA
    generalize w.alloc (.cells #[.int .i64 c.kind, .string c.name, .string c.to_, .string c.data, .int .i64 c.n, .int .u32 c.bits, .slice c.ka c.kl c.kc] 54) = w1 at *
    have HD1 := Lib.hid (HD.out.below HB'.out)
    obtain ⟨q0, q1, q2, q3, q4, q5, q6⟩ := blk7 BC'.out
    rw [KK.out] at q0
    go_wp2_with fail
    go_at_call 19
    (with_reducible refine (rename_any p s c.name c.to_ w1 HD1.out HBU.out.1 HBU.out.2.2.1 HA1.out.name HA1.out.to_).mono ?_)
    rintro x w2 ⟨rfl, hd2, hs2⟩
    have FIN : Hid (DkAt w2 p (doS 0 s c).2 ∧ DkStep p s (doS 0 s c).2 w w2) := by
      show _ ∧ _
      rw [HE.out]
      exact ⟨hd2, (DkStep.below HB'.out).trans hs2⟩
    clear hd2 hs2 HB' q0 q1 q2 q3 q4 q5 q6
    go_wp2_with fail
    go_ret3
    exact ⟨0, by rw [HE.out]; rfl, FIN.out⟩
  by_cases k3 : c.kind = 3
  · have HE : Hid (∀ b, doS b s c = ((⟨#[]⟩, false, (deleteS s c.name.data.toList).1), (deleteS s c.name.data.toList).2)) := by
      intro b; rw [doS_low (by omega), k3, acts3]
    have KK := Lib.hid k3
    clear k3
    go_enter Try.func23, Try.ntmps23
    go_upto_region 1 with (fail)
    have BC' : Hid (Mem.Blk (w.alloc (.cells #[.int .i64 c.kind, .string c.name, .string c.to_, .string c.data, .int .i64 c.n, .int .u32 c.bits, .slice c.ka c.kl c.kc] 54)) w.heap.size 54 (acC c).toArray) := BC.out
    have HB' : Hid (Below w.heap.size w (w.alloc (.cells #[.int .i64 c.kind, .string c.name, .string c.to_, .string c.data, .int .i64 c.n, .int .u32 c.bits, .slice c.ka c.kl c.kc] 54))) := HB.out
    have HA1 : Hid (AcOk (w.alloc (.cells #[.int .i64 c.kind, .string c.name, .string c.to_, .string c.data, .int .i64 c.n, .int .u32 c.bits, .slice c.ka c.kl c.kc] 54)) (dks p s) c) := HA.out
    clear BC HB HA
    generalize w.alloc (.cells #[.int .i64 c.kind, .string c.name, .string c.to_, .string c.data, .int .i64 c.n, .int .u32 c.bits, .slice c.ka c.kl c.kc] 54) = w1 at *
    have HD1 := Lib.hid (HD.out.below HB'.out)
    obtain ⟨q0, q1, q2, q3, q4, q5, q6⟩ := blk7 BC'.out
    rw [KK.out] at q0
    go_wp2_with fail
    go_at_call 17
    (with_reducible refine (delete_any p s c.name w1 HD1.out HBU.out.1 HA1.out.name).mono ?_)
    rintro x w2 ⟨rfl, hd2, hs2⟩
    have FIN : Hid (DkAt w2 p (doS 0 s c).2 ∧ DkStep p s (doS 0 s c).2 w w2) := by
      show _ ∧ _
      rw [HE.out]
      exact ⟨hd2, (DkStep.below HB'.out).trans hs2⟩
    clear hd2 hs2 HB' q0 q1 q2 q3 q4 q5 q6
    go_wp2_with fail
    go_ret3
    exact ⟨0, by rw [HE.out]; rfl, FIN.out⟩
  by_cases k4 : c.kind = 4
  · have HE : Hid (∀ b, doS b s c = (((readS s c.name.data.toList).1, false, (readS s c.name.data.toList).2), s)) := fun b => doS4 k4
    have KK := Lib.hid k4
    clear k4
    go_enter Try.func23, Try.ntmps23
    go_upto_region 1 with (fail)
    have BC' : Hid (Mem.Blk (w.alloc (.cells #[.int .i64 c.kind, .string c.name, .string c.to_, .string c.data, .int .i64 c.n, .int .u32 c.bits, .slice c.ka c.kl c.kc] 54)) w.heap.size 54 (acC c).toArray) := BC.out
    have HB' : Hid (Below w.heap.size w (w.alloc (.cells #[.int .i64 c.kind, .string c.name, .string c.to_, .string c.data, .int .i64 c.n, .int .u32 c.bits, .slice c.ka c.kl c.kc] 54))) := HB.out
    have HA1 : Hid (AcOk (w.alloc (.cells #[.int .i64 c.kind, .string c.name, .string c.to_, .string c.data, .int .i64 c.n, .int .u32 c.bits, .slice c.ka c.kl c.kc] 54)) (dks p s) c) := HA.out
    clear BC HB HA
    generalize w.alloc (.cells #[.int .i64 c.kind, .string c.name, .string c.to_, .string c.data, .int .i64 c.n, .int .u32 c.bits, .slice c.ka c.kl c.kc] 54) = w1 at *
    have HD1 := Lib.hid (HD.out.below HB'.out)
    obtain ⟨q0, q1, q2, q3, q4, q5, q6⟩ := blk7 BC'.out
    rw [KK.out] at q0
    go_wp2_with fail
    go_at_call 14
    (with_reducible refine (read_any p s c.name w1 HD1.out HA1.out.name).mono ?_)
    rintro x w2 ⟨rfl, hw⟩
    rw [hw]
    clear hw w2
    obtain ⟨w2, hw2⟩ : ∃ W, W = w1 := ⟨_, rfl⟩
    have hd2 : DkAt w2 p s := by rw [hw2]; exact HD1.out
    have hs2 : DkStep p s s w1 w2 := by rw [hw2]; exact DkStep.refl _ _ _
    rw [← hw2]
    clear hw2
    have FIN : Hid (DkAt w2 p (doS 0 s c).2 ∧ DkStep p s (doS 0 s c).2 w w2) := by
      show _ ∧ _
      rw [HE.out]
      exact ⟨hd2, (DkStep.below HB'.out).trans hs2⟩
    clear hd2 hs2 HB' q0 q1 q2 q3 q4 q5 q6
    go_wp2_with fail
    go_ret3
    exact ⟨0, by rw [HE.out]; rfl, FIN.out⟩
  by_cases k5 : c.kind = 5
  · have HE : Hid (∀ b, doS b s c = ((⟨#[]⟩, false, 0), armS s c.n)) := fun b => doS5 k5
    have KK := Lib.hid k5
    clear k5
    go_enter Try.func23, Try.ntmps23
    go_upto_region 1 with (fail)
    have BC' : Hid (Mem.Blk (w.alloc (.cells #[.int .i64 c.kind, .string c.name, .string c.to_, .string c.data, .int .i64 c.n, .int .u32 c.bits, .slice c.ka c.kl c.kc] 54)) w.heap.size 54 (acC c).toArray) := BC.out
    have HB' : Hid (Below w.heap.size w (w.alloc (.cells #[.int .i64 c.kind, .string c.name, .string c.to_, .string c.data, .int .i64 c.n, .int .u32 c.bits, .slice c.ka c.kl c.kc] 54))) := HB.out
    have HA1 : Hid (AcOk (w.alloc (.cells #[.int .i64 c.kind, .string c.name, .string c.to_, .string c.data, .int .i64 c.n, .int .u32 c.bits, .slice c.ka c.kl c.kc] 54)) (dks p s) c) := HA.out
    clear BC HB HA
    generalize w.alloc (.cells #[.int .i64 c.kind, .string c.name, .string c.to_, .string c.data, .int .i64 c.n, .int .u32 c.bits, .slice c.ka c.kl c.kc] 54) = w1 at *
    have HD1 := Lib.hid (HD.out.below HB'.out)
    obtain ⟨q0, q1, q2, q3, q4, q5, q6⟩ := blk7 BC'.out
    rw [KK.out] at q0
    go_wp2_with fail
    go_at_call 20
    (with_reducible refine (arm_any p s w1 c.n HA1.out.n HD1.out).mono ?_)
    rintro x w2 ⟨rfl, hd2, hs2⟩
    have FIN : Hid (DkAt w2 p (doS 0 s c).2 ∧ DkStep p s (doS 0 s c).2 w w2) := by
      show _ ∧ _
      rw [HE.out]
      exact ⟨hd2, (DkStep.below HB'.out).trans hs2⟩
    clear hd2 hs2 HB' q0 q1 q2 q3 q4 q5 q6
    go_wp2_with fail
    go_ret3
    exact ⟨0, by rw [HE.out]; rfl, FIN.out⟩
  by_cases k6 : c.kind = 6
  · have HE : Hid (∀ b, doS b s c = ((⟨#[]⟩, false, 0), crashS s c.keep)) := fun b => doS6 k6
    have KK := Lib.hid k6
    clear k6
    go_enter Try.func23, Try.ntmps23
    go_upto_region 1 with (fail)
    have BC' : Hid (Mem.Blk (w.alloc (.cells #[.int .i64 c.kind, .string c.name, .string c.to_, .string c.data, .int .i64 c.n, .int .u32 c.bits, .slice c.ka c.kl c.kc] 54)) w.heap.size 54 (acC c).toArray) := BC.out
    have HB' : Hid (Below w.heap.size w (w.alloc (.cells #[.int .i64 c.kind, .string c.name, .string c.to_, .string c.data, .int .i64 c.n, .int .u32 c.bits, .slice c.ka c.kl c.kc] 54))) := HB.out
    have HA1 : Hid (AcOk (w.alloc (.cells #[.int .i64 c.kind, .string c.name, .string c.to_, .string c.data, .int .i64 c.n, .int .u32 c.bits, .slice c.ka c.kl c.kc] 54)) (dks p s) c) := HA.out
    clear BC HB HA
    generalize w.alloc (.cells #[.int .i64 c.kind, .string c.name, .string c.to_, .string c.data, .int .i64 c.n, .int .u32 c.bits, .slice c.ka c.kl c.kc] 54) = w1 at *
    have HD1 := Lib.hid (HD.out.below HB'.out)
    obtain ⟨q0, q1, q2, q3, q4, q5, q6⟩ := blk7 BC'.out
    rw [KK.out] at q0
    go_wp2_with fail
    go_at_call 13
    (with_reducible refine (crash_any p s c.keep c.ka c.kl c.kc w1 HD1.out HA1.out.keep HBU.out.2.2.2).mono ?_)
    rintro x w2 ⟨rfl, hd2, hs2⟩
    have FIN : Hid (DkAt w2 p (doS 0 s c).2 ∧ DkStep p s (doS 0 s c).2 w w2) := by
      show _ ∧ _
      rw [HE.out]
      exact ⟨hd2, (DkStep.below HB'.out).trans hs2⟩
    clear hd2 hs2 HB' q0 q1 q2 q3 q4 q5 q6
    go_wp2_with fail
    go_ret3
    exact ⟨0, by rw [HE.out]; rfl, FIN.out⟩
  have HE : Hid (∀ b, doS b s c = ((⟨#[]⟩, (rotS s c.name.data.toList c.n c.bits.toNat).1, 0), (rotS s c.name.data.toList c.n c.bits.toNat).2)) := fun b => doS7 (by omega)
  have e0 : (c.kind == 0) = false := beq_eq_false_iff_ne.2 k0
  have e1 : (c.kind == 1) = false := beq_eq_false_iff_ne.2 k1
  have e2 : (c.kind == 2) = false := beq_eq_false_iff_ne.2 k2
  have e3 : (c.kind == 3) = false := beq_eq_false_iff_ne.2 k3
  have e4 : (c.kind == 4) = false := beq_eq_false_iff_ne.2 k4
  have e5 : (c.kind == 5) = false := beq_eq_false_iff_ne.2 k5
  have e6 : (c.kind == 6) = false := beq_eq_false_iff_ne.2 k6
  clear k0 k1 k2 k3 k4 k5 k6
  go_enter Try.func23, Try.ntmps23
  go_upto_region 1 with (fail)
  have BC' : Hid (Mem.Blk (w.alloc (.cells #[.int .i64 c.kind, .string c.name, .string c.to_, .string c.data, .int .i64 c.n, .int .u32 c.bits, .slice c.ka c.kl c.kc] 54)) w.heap.size 54 (acC c).toArray) := BC.out
  have HB' : Hid (Below w.heap.size w (w.alloc (.cells #[.int .i64 c.kind, .string c.name, .string c.to_, .string c.data, .int .i64 c.n, .int .u32 c.bits, .slice c.ka c.kl c.kc] 54))) := HB.out
  have HA1 : Hid (AcOk (w.alloc (.cells #[.int .i64 c.kind, .string c.name, .string c.to_, .string c.data, .int .i64 c.n, .int .u32 c.bits, .slice c.ka c.kl c.kc] 54)) (dks p s) c) := HA.out
  clear BC HB HA
  generalize w.alloc (.cells #[.int .i64 c.kind, .string c.name, .string c.to_, .string c.data, .int .i64 c.n, .int .u32 c.bits, .slice c.ka c.kl c.kc] 54) = w1 at *
  have HD1 := Lib.hid (HD.out.below HB'.out)
  obtain ⟨q0, q1, q2, q3, q4, q5, q6⟩ := blk7 BC'.out
  go_wp2_with fail
  go_at_call 39
  (with_reducible refine (rot_any p s c.name c.n c.bits w1 HD1.out HA1.out.name HA1.out.n HA1.out.bits).mono ?_)
  rintro x w2 ⟨rfl, hd2, hs2⟩
  have FIN : Hid (DkAt w2 p (doS 0 s c).2 ∧ DkStep p s (doS 0 s c).2 w w2) := by
    show _ ∧ _
    rw [HE.out]
    exact ⟨hd2, (DkStep.below HB'.out).trans hs2⟩
  clear hd2 hs2 HB' q0 q1 q2 q3 q4 q5 q6
  go_wp2_with fail
  go_ret3
  exact ⟨0, by rw [HE.out]; rfl, FIN.out⟩
end Go.Proofs.Ytefpjdgfcgjbaaa
