/- The relation of the loop of simple, and what a round does to it. -/
import Derived.Test.YtjpkljkmignnjaaGro
import Derived.Test.YtjpkljkmignnjaaSimpB
namespace Go.Proofs.Ytjpkljkmignnjaa
set_option linter.unusedVariables false
set_option linter.unusedSimpArgs false
open Go.RowKit
structure SimpRel (w : World) (base : Nat) (wr : World) (X : List Nat) (h0 : Nat) (ex : List Ex) (te : List Te) (op : Int) (nm : ByteArray) (a : Option Addr) (len cap : Nat) (a2 : Option Addr) (len2 cap2 : Nat) (a3 : Option Addr) (cap3 : Nat) (k : Nat) (v : Value) (csl : List (List Value)) : Prop where
  below : Below w.heap.size w wr
  b0 : Mem.Blk wr w.heap.size 33 #[.int .i64 op, .string nm, .slice a len cap, .slice a2 len2 cap2]
  b1 : Mem.Blk wr (w.heap.size + 1) 33 #[.int .i64 0, .string ⟨#[]⟩, .slice none 0 0, .slice none 0 0]
  b2 : Mem.Blk wr h0 33 #[.int .i64 op, .string nm, .slice a3 len cap3, v]
  own : wr.ownsRow base 33 4 v k csl.flatten
  room : base ≤ wr.heap.size
  lo : w.heap.size + 1 < h0
  hi : h0 < base
  count : csl.length = k
  exprs : SlE wr (busy v (h0 :: (w.heap.size + 1) :: X)) ex a3 len cap3
  terms : ∀ (j : Nat) t c, te[j]? = some t → csl[j]? = some c → RepT wr (busy v (h0 :: (w.heap.size + 1) :: X)) (sT t) c
theorem SimpRel.step {w : World} {base : Nat} {wr w1 w2 : World} {X : List Nat} {h0 : Nat} {ex : List Ex} {te : List Te} {op : Int} {nm : ByteArray} {a : Option Addr} {len cap : Nat} {a2 : Option Addr} {len2 cap2 : Nat} {a3 : Option Addr} {cap3 : Nat} {k : Nat} {v v' : Value} {csl : List (List Value)} {t : Te} {c0 c1 c2 c3 z0 z1 z2 z3 : Value} {g cap' : Nat}
    (h : SimpRel w base wr X h0 ex te op nm a len cap a2 len2 cap2 a3 cap3 k v csl) (hb : Below wr.heap.size wr w1) (ht : te[k]? = some t)
    (hc : RepT w1 (busy v (h0 :: (w.heap.size + 1) :: X)) (sT t) [c0, c1, c2, c3])
    (ho : w2.ownsRow base 33 4 v' (k + 1) (csl.flatten ++ [z0, z1, z2, z3])) (hg : w1.grownBy w2 v.ownBlock) (hv : v'.ownBlock = v.ownBlock ∨ v'.ownBlock = some w1.heap.size) (hv' : v' = .slice (some ⟨g, 0, none⟩) (k + 1) cap') :
    SimpRel w base (((((w2.setCell ⟨g, k * 4, none⟩ c0).setCell ⟨g, k * 4 + 1, none⟩ c1).setCell ⟨g, k * 4 + 2, none⟩ c2).setCell ⟨g, k * 4 + 3, none⟩ c3).setCell ⟨h0, 3, none⟩ v') X h0 ex te op nm a len cap a2 len2 cap2 a3 cap3 (k + 1) v' (csl ++ [[c0, c1, c2, c3]]) := by
  have hob : v'.ownBlock = some g := by rw [hv']; rfl
  obtain ⟨hbg, hgl⟩ := own_lt ho hob
  have hsz := h.below.size
  have hh0 : h0 < wr.heap.size := h.b2.lt
  have hlen4 : ∀ c ∈ csl, c.length = 4 := by
    intro c hcm
    obtain ⟨j, hj, rfl⟩ := List.getElem_of_mem hcm
    have hjt : j < te.length := by
      have := (List.getElem?_eq_some_iff.1 ht).1; have := h.count; omega
    exact (h.terms j _ _ (List.getElem?_eq_getElem hjt) (List.getElem?_eq_getElem hj)).one.1
  have hfl : csl.flatten.length = k * 4 := by rw [flat_len 4 csl hlen4, h.count]
  have hne : ∀ b, b < base → v.ownBlock ≠ some b := fun b hb' e => by have := own_lt h.own e; omega
  have hgk : ∀ b, b < base → b ≠ g := fun b hb' => by omega
  -- from wr to the last world, all but the row and h0 are kept
  have kAll : Kept (busy v (g :: h0 :: (w.heap.size + 1) :: X)) wr (((((w2.setCell ⟨g, k * 4, none⟩ c0).setCell ⟨g, k * 4 + 1, none⟩ c1).setCell ⟨g, k * 4 + 2, none⟩ c2).setCell ⟨g, k * 4 + 3, none⟩ c3).setCell ⟨h0, 3, none⟩ v') := by
    have e1 := Kept.of_below hb (busy v (g :: h0 :: (w.heap.size + 1) :: X))
    have e2 : Kept (busy v (g :: h0 :: (w.heap.size + 1) :: X)) w1 w2 := Kept.of_grown_own hg (fun b hb' => busy_mem.2 (.inl hb'))
    have mg : g ∈ busy v (g :: h0 :: (w.heap.size + 1) :: X) := busy_mem.2 (.inr (by simp))
    have mh : h0 ∈ busy v (g :: h0 :: (w.heap.size + 1) :: X) := busy_mem.2 (.inr (by simp))
    exact (((((e1.trans e2).trans (Kept.setCell _ mg _)).trans (Kept.setCell _ mg _)).trans (Kept.setCell _ mg _)).trans (Kept.setCell _ mg _)).trans (Kept.setCell _ mh _)
  have kAll1 : Kept (busy v (g :: h0 :: (w.heap.size + 1) :: X)) w1 (((((w2.setCell ⟨g, k * 4, none⟩ c0).setCell ⟨g, k * 4 + 1, none⟩ c1).setCell ⟨g, k * 4 + 2, none⟩ c2).setCell ⟨g, k * 4 + 3, none⟩ c3).setCell ⟨h0, 3, none⟩ v') := by
    have e2 : Kept (busy v (g :: h0 :: (w.heap.size + 1) :: X)) w1 w2 := Kept.of_grown_own hg (fun b hb' => busy_mem.2 (.inl hb'))
    have mg : g ∈ busy v (g :: h0 :: (w.heap.size + 1) :: X) := busy_mem.2 (.inr (by simp))
    have mh : h0 ∈ busy v (g :: h0 :: (w.heap.size + 1) :: X) := busy_mem.2 (.inr (by simp))
    exact ((((e2.trans (Kept.setCell _ mg _)).trans (Kept.setCell _ mg _)).trans (Kept.setCell _ mg _)).trans (Kept.setCell _ mg _)).trans (Kept.setCell _ mh _)
  -- a block that lies in w1 and is none of the old busy ones isn't g either
  have cut1 : ∀ b, b < w1.heap.size → b ∈ busy v (g :: h0 :: (w.heap.size + 1) :: X) → b ∈ busy v (h0 :: (w.heap.size + 1) :: X) := by
    intro b hb' hm
    rcases busy_mem.1 hm with hm | hm
    · exact busy_mem.2 (.inl hm)
    · rcases List.mem_cons.1 hm with rfl | hm
      · rcases hv with hv | hv
        · exact busy_mem.2 (.inl (by rw [← hv]; exact hob))
        · rw [hob] at hv; injection hv with hv; omega
      · exact busy_mem.2 (.inr hm)
  have cutV : ∀ W : World, ∀ b, b < W.heap.size → b ∈ busy v' (h0 :: (w.heap.size + 1) :: X) → b ∈ busy v (g :: h0 :: (w.heap.size + 1) :: X) := by
    intro W b _ hm
    rcases busy_mem.1 hm with hm | hm
    · rw [hob] at hm; injection hm with hm; subst hm; exact busy_mem.2 (.inr (by simp))
    · exact busy_mem.2 (.inr (List.mem_cons_of_mem _ hm))
  have hbw1 : Below w.heap.size w w1 := h.below.trans (hb.mono hsz)
  have hgw : w.heap.size ≤ g := by have := h.lo; have := h.hi; omega
  have hgrown : Below w.heap.size w w2 := hbw1.grown hg hbw1.size (fun b hb' => by have := own_lt h.own hb'; have := h.lo; have := h.hi; omega)
  refine ⟨?_, ?_, ?_, ?_, ?_, ?_, h.lo, h.hi, by rw [List.length_append, h.count]; rfl, ?_, ?_⟩
  · exact ((((hgrown.setCell hgw _).setCell hgw _).setCell hgw _).setCell hgw _).setCell (by have := h.lo; show w.heap.size ≤ h0; omega) _
  · have e : Mem.Blk w2 w.heap.size 33 _ := (hg.block _ (by have := hb.size; have := h.b0.lt; omega) (fun e => hne _ (by have := h.lo; have := h.hi; omega) e.symm)).trans (h.b0.below hb)
    have n1 : w.heap.size ≠ g := hgk _ (by have := h.lo; have := h.hi; omega)
    exact ((((e.far n1 _).far n1 _).far n1 _).far n1 _).far (by have := h.lo; show w.heap.size ≠ h0; omega) _
  · have e : Mem.Blk w2 (w.heap.size + 1) 33 _ := (hg.block _ (by have := hb.size; have := h.b1.lt; omega) (fun e => hne _ (by have := h.lo; have := h.hi; omega) e.symm)).trans (h.b1.below hb)
    have n1 : w.heap.size + 1 ≠ g := hgk _ (by have := h.lo; have := h.hi; omega)
    exact ((((e.far n1 _).far n1 _).far n1 _).far n1 _).far (by have := h.lo; show w.heap.size + 1 ≠ h0; omega) _
  · have e : Mem.Blk w2 h0 33 _ := (hg.block _ (by have := hb.size; omega) (fun e => hne _ h.hi e.symm)).trans (h.b2.below hb)
    have n1 : h0 ≠ g := hgk _ h.hi
    exact ((((e.far n1 _).far n1 _).far n1 _).far n1 _).set_ 3 _
  · subst hv'
    have := own_last4 (c0 := c0) (c1 := c1) (c2 := c2) (c3 := c3) ho hfl
    rw [List.flatten_append, List.flatten_singleton]
    exact ownsRow_setCell_other this (by rw [show (Value.slice (some ⟨g, 0, none⟩) (k + 1) cap').ownBlock = some g from rfl]; intro e; injection e with e; have := h.hi; simp only at e; omega) _
  · have : w1.heap.size ≤ w2.heap.size := hg.size
    have h3 := h.room
    have h4 := hb.size
    show base ≤ (World.setCell _ _ _).heap.size
    simp only [World.setCell, Array.size_modify]
    omega
  · exact ((h.exprs.kept (Kept.of_below hb _)).less cut1 |>.kept kAll1).less (cutV _)
  · intro j t' c hj hcj
    rcases Nat.lt_or_ge j k with hlt | hge
    · rw [List.getElem?_append_left (by rw [h.count]; exact hlt)] at hcj
      exact ((((h.terms j t' c hj hcj).kept (Kept.of_below hb _)).less cut1).kept kAll1).less (cutV _)
    · rw [List.getElem?_append_right (by rw [h.count]; exact hge), h.count] at hcj
      have hjk : j = k := by
        rcases Nat.eq_or_lt_of_le hge with e | e
        · exact e.symm
        · rw [List.getElem?_eq_none (by simp; omega)] at hcj; cases hcj
      subst hjk
      rw [Nat.sub_self] at hcj
      injection hcj with hcj
      subst hcj
      rw [ht] at hj
      injection hj with hj
      subst hj
      exact ((hc.less cut1).kept kAll1).less (cutV _)
end Go.Proofs.Ytjpkljkmignnjaa
