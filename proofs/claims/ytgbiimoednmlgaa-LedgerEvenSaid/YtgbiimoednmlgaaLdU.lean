/- The contract of put: the walk. -/
import Derived.Test.YtgbiimoednmlgaaLdT
namespace Go.Proofs.Ytgbiimoednmlgaa
set_option linter.unusedVariables false
set_option linter.unusedSimpArgs false
open Go.RowKit
/-- What put gives. -/
def PutD (es : List Ent) (a : Acct) (es' : List Ent) : Prop := ∃ i, AtK Ent.key es a.key i ∧ ((hitK Ent.key es a.key i = true ∧ ∃ e av', es[i]? = some e ∧ es' = es.set i ⟨e.party, e.coin, e.all ++ [a.amt], av'⟩) ∨ (hitK Ent.key es a.key i = false ∧ ∃ av', es' = insI es i ⟨a.party, a.coin, [a.amt], av'⟩))
theorem insI_set {es : List Ent} {i : Nat} (hi : i ≤ es.length) (x y : Ent) : (insI es i x).set i y = insI es i y := by
  refine List.ext_getElem? (fun j => ?_)
  rw [List.getElem?_set, insI_at hi, insI_at hi, insI_len _ _ _ hi]
  by_cases h : i = j
  · subst h
    rw [if_pos rfl, if_pos (by omega), if_neg (by omega), if_pos rfl]
  · rw [if_neg h]
    split
    · rfl
    · rw [if_neg (fun e => h e.symm), if_neg (fun e => h e.symm)]
/-- A row of another type doesn't lie in the block. -/
theorem blkRow {w : World} {g base sz n : Nat} {t e : TypeId} {cs : Array Value} {v : Value} {xs : List Value} (h : Mem.Blk w g t cs) (h' : w.ownsRow base e sz v n xs) (ht : t ≠ e) (hg : v.ownBlock = some g) : False := by
  rcases h'.2 with ⟨rfl, _⟩ | ⟨a, cap, cur, rfl, _, h1, _⟩
  · cases hg
  · simp only [Value.ownBlock, Option.some.injEq] at hg
    rw [hg] at h1
    unfold Mem.Blk at h
    rw [h] at h1
    injection h1 with h1
    injection h1 with _ h1
    exact ht h1
/-- Blocks of other types stay. -/
def OTH (w w' : World) : Prop := ∀ g t cs, Mem.Blk w g t cs → t ≠ 79 → t ≠ 2 → Mem.Blk w' g t cs
theorem OTH.of_below {w w' : World} (b : Below w.heap.size w w') : OTH w w' := fun _ _ _ h _ _ => h.below b
theorem OTH.trans {w w' w'' : World} (h : OTH w w') (k : OTH w' w'') : OTH w w'' := fun g t cs hb h1 h2 => k g t cs (h g t cs hb h1 h2) h1 h2
theorem OTH.grown {w w' : World} {base sz n : Nat} {e : TypeId} {v u : Value} {xs : List Value} (ho : w.ownsRow base e sz v n xs) (he : e = 79 ∨ e = 2) (g : w.grownBy w' u.ownBlock) (hu : u.ownBlock = v.ownBlock) : OTH w w' := by
  intro k t cs h h1 h2
  have hne : v.ownBlock ≠ some k := fun e2 => blkRow h ho (by rcases he with rfl | rfl; exact h1; exact h2) e2
  have hb := g.block k h.lt (fun e => by rw [hu] at e; exact hne e.symm)
  unfold Mem.Blk at h ⊢
  rw [hb]; exact h
theorem OTH.set {w : World} {base sz n g cap : Nat} {e : TypeId} {xs : List Value} (ho : w.ownsRow base e sz (.slice (some ⟨g, 0, none⟩) n cap) n xs) (he : e = 79 ∨ e = 2) (j : Nat) (u : Value) : OTH w (w.setCell ⟨g, j, none⟩ u) :=
  OTH.grown (u := .slice (some ⟨g, 0, none⟩) n cap) ho he (ho.stored j u).2 rfl
set_option maxRecDepth 100000 in
set_option maxHeartbeats 4000000 in
theorem put_any (base : Nat) (v : Value) (es : List Ent) (a : Acct) (w : World) (hE : EnAt base w v es) (hb : base ≤ w.heap.size) (hn : es.length ≤ 900000) (hall : ∀ e ∈ es, e.all.length ≤ 900000) (ha : a.party.size ≤ maxLen ∧ a.coin.size ≤ maxLen) :
    Calls Try.prog 36 #[v, .agg (acctC a).toArray] w fun x w' => (∃ v' es', x = .returned v' ∧ EnAt base w' v' es' ∧ PutD es a es') ∧ Below base w w' ∧ OTH w w' := by
  have hal := (Below.refl w.heap.size w).alloc (Nat.le_refl _) (.cells (acctC a).toArray 51)
  have HB := Lib.hid hal
  have BX := Lib.hid (Mem.Blk.new w 51 (acctC a).toArray)
  have HE1 := Lib.hid (hE.below hal)
  have HN := Lib.hid hn
  have HALL := Lib.hid hall
  have HBA := Lib.hid hb
  have HA := Lib.hid ha
  clear hal hE hn hb ha hall
  show Calls Try.prog 36 #[v, .agg #[.string a.party, .string a.coin, .int .i64 a.amt]] w _
  go_enter Try.func36, Try.ntmps36
  go_upto_region 1 with (fail)
  have HB' : Hid (Below w.heap.size w (w.alloc (.cells #[.string a.party, .string a.coin, .int .i64 a.amt] 51))) := HB.out
  have BX' : Hid (Mem.Blk (w.alloc (.cells #[.string a.party, .string a.coin, .int .i64 a.amt] 51)) w.heap.size 51 (acctC a).toArray) := BX.out
  have HE' : Hid (EnAt base (w.alloc (.cells #[.string a.party, .string a.coin, .int .i64 a.amt] 51)) v es) := HE1.out
  clear HB BX HE1
  obtain ⟨zb, hzb⟩ : ∃ z, z = w.heap.size := ⟨_, rfl⟩
  have HZB := Lib.hid hzb
  rw [← hzb] at BX' ⊢
  clear hzb
  generalize w.alloc (.cells #[.string a.party, .string a.coin, .int .i64 a.amt] 51) = w1 at *
  have d0 : w1.cell? ⟨zb, 0, none⟩ = some (.string a.party) := BX'.out.cell 0
  have d1 : w1.cell? ⟨zb, 1, none⟩ = some (.string a.coin) := BX'.out.cell 1
  have d2 : w1.cell? ⟨zb, 2, none⟩ = some (.int .i64 a.amt) := BX'.out.cell 2
  have HSR : Hid (Calls Try.prog 67 #[v, .agg #[.string a.party, .string a.coin, .int .i64 a.amt], .func (.func 68) #[] #[]] w1 _) := searchE_any base v es a w1 HE'.out (by have := HN.out; omega)
  go_wp2_with fail
  go_at_call 67
  (with_reducible refine HSR.out.mono ?_)
  rintro x w2 ⟨⟨i, rfl, hat⟩, b2⟩
  have HAT := Lib.hid hat
  have HB2 := Lib.hid (HB'.out.trans (b2.mono HB'.out.size))
  have HE2 := Lib.hid (HE'.out.below b2)
  have BX2 := Lib.hid (BX'.out.below b2)
  clear b2 d0 d1 d2 HSR HB' HE' BX' hat
  have d0 : w2.cell? ⟨zb, 0, none⟩ = some (.string a.party) := BX2.out.cell 0
  have d1 : w2.cell? ⟨zb, 1, none⟩ = some (.string a.coin) := BX2.out.cell 1
  have d2 : w2.cell? ⟨zb, 2, none⟩ = some (.int .i64 a.amt) := BX2.out.cell 2
  cases hh : hitK Ent.key es a.key i with
  | true =>
    obtain ⟨e, he, -⟩ := hitK_key hh
    have HP : Hid (∀ av', PutD es a (es.set i ⟨e.party, e.coin, e.all ++ [a.amt], av'⟩)) := fun av' => ⟨i, HAT.out, .inl ⟨hh, e, av', he, rfl⟩⟩
    have HHE := Lib.hid he
    clear hh he
    have HB3 := Lib.hid (HB2.out.mono HBA.out)
    have HO3 := Lib.hid (OTH.of_below HB2.out)
    obtain ⟨w3, hw3⟩ : ∃ W, W = w2 := ⟨_, rfl⟩
    rw [← hw3] at HE2 BX2 HB3 HO3 d0 d1 d2 ⊢
    clear hw3 HB2
    have HL3 := Lib.hid (HALL.out e (List.mem_of_getElem? HHE.out))
    obtain ⟨g, cap, e1, hva, hx, c0, c1, c2, c3, hfz⟩ := HE2.out.at i (List.getElem?_eq_some_iff.1 HHE.out).1
    have hee : e1 = e := by rw [HHE.out] at hx; injection hx with hx; exact hx.symm
    subst hva
    obtain ⟨aa, ac, hav⟩ := own_slice (HE2.out.each i _ HHE.out)
    replace c3 : w3.cell? ⟨g, i * 4 + 3, none⟩ = some (.slice aa (e).all.length ac) := by
      rw [hee] at c3
      rw [← hav]; exact c3
    have HAV := Lib.hid hav
    clear hee hav
    have hi0 : (i : Int) < ((es).length : Int) := by have := (List.getElem?_eq_some_iff.1 HHE.out).1; omega
    have hi1 : (0 : Int) ≤ (i : Int) := by omega
    have hi2 : (i : Int) ≤ 1000000 := by have := HN.out; omega
    clear hx c0 c1 c2
    go_upto_region 4 with (fail)
    have hal : Below w3.heap.size w3 (w3.alloc (.cells #[.int .i64 a.amt] 2)).drew := ((Below.refl w3.heap.size w3).alloc (Nat.le_refl _) (.cells #[.int .i64 a.amt] 2)).drew
    have HW := Lib.hid (HE2.out.below hal)
    have HBW := Lib.hid (HB3.out.trans (hal.mono (by have := HB3.out.size; have := HBA.out; omega)))
    have HLB : Hid (base ≤ (w3.alloc (.cells #[.int .i64 a.amt] 2)).drew.heap.size) := by have := HBW.out.size; have := HBA.out; show _ ≤ _; omega
    have HCN : Hid (∀ j u, [Value.int .i64 a.amt][j]? = some u → (w3.alloc (.cells #[.int .i64 a.amt] 2)).drew.cell? ((⟨w3.heap.size, 0, none⟩ : Addr).add j) = some u) := lit_cells_at w3 #[.int .i64 a.amt] 2 w3.heap.size rfl
    have HM64 : Hid (((e).all.length + 1 ≤ maxLen) ∧ ((e).all.length + 1) * 8 ≤ 140737488355328) := by
      have hmx : maxLen = 9223372036854775807 := by decide
      have := HL3.out
      exact ⟨by omega, by omega⟩
    have HOW : Hid ((w3.alloc (.cells #[.int .i64 a.amt] 2)).drew.ownsRow base 2 1 (.slice aa (e).all.length ac) (e).all.length (intC (e).all)) := by
      have := HW.out.each i _ HHE.out
      rw [HAV.out] at this; exact this
    have HBZ := Lib.hid (BX2.out.below hal)
    have HO5 := Lib.hid (HO3.out.trans (OTH.of_below hal))
    refine wp_region_till (S := fun W => W.cell? ⟨g, i * 4 + 3, none⟩ = some (.slice aa (e).all.length ac) ∧ W.cell? ⟨zb, 2, none⟩ = some (.int .i64 a.amt)) 13 (by kernel_rfl) ?_
    refine till_take (i := 0) (v := ?_) rfl (by kernel_rfl) (fun _ _ _ h => h) (Or.inl ⟨by rfl, ?_⟩) ⟨c3,d2⟩ ?_
    rotate_left
    · intro W hS
      try dsimp only at hS
      go_split_ands
      go_simp
      try with_reducible rfl
    try simp only [Act.put, List.getElem_toArray, List.getElem_cons_zero, List.getElem_cons_succ, List.setIfInBounds_toArray, List.set_cons_zero, List.set_cons_succ]
    refine till_take (i := 1) (v := ?_) rfl (by kernel_rfl) (fun _ _ _ h => h) (Or.inl ⟨by rfl, ?_⟩) ⟨c3,d2⟩ ?_
    rotate_left
    · intro W hS
      try dsimp only at hS
      go_split_ands
      go_simp
      try with_reducible rfl
    try simp only [Act.put, List.getElem_toArray, List.getElem_cons_zero, List.getElem_cons_succ, List.setIfInBounds_toArray, List.set_cons_zero, List.set_cons_succ]
    refine till_take (i := 2) (v := ?_) rfl (by kernel_rfl) (fun _ _ _ h => h) (Or.inl ⟨by rfl, ?_⟩) ⟨c3,d2⟩ ?_
    rotate_left
    · intro W hS
      try dsimp only at hS
      go_split_ands
      go_simp
      try with_reducible rfl
    try simp only [Act.put, List.getElem_toArray, List.getElem_cons_zero, List.getElem_cons_succ, List.setIfInBounds_toArray, List.set_cons_zero, List.set_cons_succ]
    refine till_take (i := 3) (v := ?_) rfl (by kernel_rfl) (fun _ _ _ h => h) (Or.inl ⟨by rfl, ?_⟩) ⟨c3,d2⟩ ?_
    rotate_left
    · intro W hS
      try dsimp only at hS
      go_split_ands
      go_simp
      try with_reducible rfl
    try simp only [Act.put, List.getElem_toArray, List.getElem_cons_zero, List.getElem_cons_succ, List.setIfInBounds_toArray, List.set_cons_zero, List.set_cons_succ]
    refine till_take (i := 4) (v := ?_) rfl (by kernel_rfl) (fun _ _ _ h => h) (Or.inl ⟨by rfl, ?_⟩) ⟨c3,d2⟩ ?_
    rotate_left
    · intro W hS
      try dsimp only at hS
      go_split_ands
      go_simp
      try with_reducible rfl
    try simp only [Act.put, List.getElem_toArray, List.getElem_cons_zero, List.getElem_cons_succ, List.setIfInBounds_toArray, List.set_cons_zero, List.set_cons_succ]
    refine till_take (i := 5) (v := ?_) rfl (by kernel_rfl) (fun _ _ _ h => h) (Or.inl ⟨by rfl, ?_⟩) ⟨c3,d2⟩ ?_
    rotate_left
    · intro W hS
      try dsimp only at hS
      go_split_ands
      go_simp
      try with_reducible rfl
    try simp only [Act.put, List.getElem_toArray, List.getElem_cons_zero, List.getElem_cons_succ, List.setIfInBounds_toArray, List.set_cons_zero, List.set_cons_succ]
    refine till_take (i := 6) (v := ?_) rfl (by kernel_rfl) (fun _ _ _ h => h) (Or.inl ⟨by rfl, ?_⟩) ⟨c3,d2⟩ ?_
    rotate_left
    · intro W hS
      try dsimp only at hS
      go_split_ands
      go_simp
      try with_reducible rfl
    try simp only [Act.put, List.getElem_toArray, List.getElem_cons_zero, List.getElem_cons_succ, List.setIfInBounds_toArray, List.set_cons_zero, List.set_cons_succ]
    refine till_take (i := 7) (v := ?_) rfl (by kernel_rfl) (fun _ _ _ h => h) (Or.inl ⟨by rfl, ?_⟩) ⟨c3,d2⟩ ?_
    rotate_left
    · intro W hS
      try dsimp only at hS
      go_split_ands
      go_simp
      try with_reducible rfl
    try simp only [Act.put, List.getElem_toArray, List.getElem_cons_zero, List.getElem_cons_succ, List.setIfInBounds_toArray, List.set_cons_zero, List.set_cons_succ]
    refine till_take (i := 8) (v := ?_) rfl (by kernel_rfl) (fun _ _ _ h => h) (Or.inl ⟨by rfl, ?_⟩) ⟨c3,d2⟩ ?_
    rotate_left
    · intro W hS
      try dsimp only at hS
      go_split_ands
      go_simp
      try with_reducible rfl
    try simp only [Act.put, List.getElem_toArray, List.getElem_cons_zero, List.getElem_cons_succ, List.setIfInBounds_toArray, List.set_cons_zero, List.set_cons_succ]
    refine till_one (i := 9) (by kernel_rfl) rfl (fun K' hK => ?_)
    go_simp
    have c3' := cellUp c3 hal
    have d2' := cellUp d2 hal
    refine hK _ _ ⟨c3', d2'⟩ ?_
    clear hK K' hal c3 d2 d0 d1
    generalize (w3.alloc (.cells #[.int .i64 a.amt] 2)).drew = w5 at *
    obtain ⟨nb, hnb⟩ : ∃ z, z = w3.heap.size := ⟨_, rfl⟩
    rw [← hnb] at HCN ⊢
    clear hnb
    try simp only [Act.put, List.getElem_toArray, List.getElem_cons_zero, List.getElem_cons_succ, List.setIfInBounds_toArray, List.set_cons_zero, List.set_cons_succ]
    refine till_one (i := 10) (by kernel_rfl) rfl (fun K' hK => ?_)
    refine step_ap infoI Try.underlying77 rfl (by decide) rfl (.tmp 31) (.tmp 34) rfl rfl HOW.out HLB.out ⟨nb, 0, none⟩ 1 1 [.int .i64 a.amt] rfl rfl HCN.out (by intro u hu; rw [List.mem_singleton] at hu; subst hu; simp [Value.oneCell']) HM64.out.1 HM64.out.2 ?_
    intro v4 w4 o1 g1 hv1
    obtain ⟨a4, ac4, rfl⟩ := own_slice o1
    have g1 : World.grownBy w5 w4 (e).av.ownBlock := (by rw [HAV.out]; exact g1)
    have hv1 : (Value.slice a4 ((e).all.length + 1) ac4).ownBlock = (e).av.ownBlock ∨ (Value.slice a4 ((e).all.length + 1) ac4).ownBlock = some w5.heap.size := (by rw [HAV.out]; exact hv1)
    have HFE := Lib.hid (HW.out.more HHE.out o1 g1 hv1)
    have hrw := own_grown HW.out.row g1 (fun x hx => row_ne HW.out.row (HW.out.each i _ HHE.out) (by decide) hx)
    have c3 := hrw.cellAt (i * 4 + 3) (by have := (List.getElem?_eq_some_iff.1 HHE.out).1; omega)
    rw [entR_at _ HHE.out 3 (by omega)] at c3
    replace c3 : w4.cell? ⟨g, i * 4 + 3, none⟩ = some (.slice aa (e).all.length ac) := by rw [← HAV.out]; exact c3
    have f3 := hrw.frozenAt (i * 4 + 3)
    have d2 : w4.cell? ⟨zb, 2, none⟩ = some (.int .i64 a.amt) := by
      have h1 := HBZ.out.cell 2
      have hne : (e).av.ownBlock ≠ some zb := fun e => blkRow HBZ.out (HW.out.each i _ HHE.out) (by decide) e
      exact g1.cell h1 (fun e => hne e.symm)
    have HFB := Lib.hid ((HBW.out.grown g1 HLB.out (fun b hb => (own_lt (HW.out.each i _ HHE.out) hb).1)).setCell (p := ⟨g, i * 4 + 3, none⟩) (own_lt hrw rfl).1 (.slice a4 ((e).all.length + 1) ac4))
    have HFO := Lib.hid ((HO5.out.trans (OTH.grown (HW.out.each i _ HHE.out) (.inr rfl) g1 rfl)).trans (OTH.set hrw (.inl rfl) (i * 4 + 3) (.slice a4 ((e).all.length + 1) ac4)))
    refine hK _ _ ⟨c3, d2⟩ ?_
    clear hK K' o1 g1 hv1 hrw c3' d2'
    try simp only [Act.put, List.getElem_toArray, List.getElem_cons_zero, List.getElem_cons_succ, List.setIfInBounds_toArray, List.set_cons_zero, List.set_cons_succ]
    refine till_take (i := 11) (v := ?_) rfl (by kernel_rfl) (fun _ _ _ h => h) (Or.inl ⟨by rfl, ?_⟩) ⟨c3,d2⟩ ?_
    rotate_left
    · intro W hS
      try dsimp only at hS
      go_split_ands
      go_simp
      try with_reducible rfl
    try simp only [Act.put, List.getElem_toArray, List.getElem_cons_zero, List.getElem_cons_succ, List.setIfInBounds_toArray, List.set_cons_zero, List.set_cons_succ]
    refine till_take (i := 12) (v := ?_) rfl (by kernel_rfl) (fun _ _ _ h => h) (Or.inl ⟨by rfl, ?_⟩) ⟨c3,d2⟩ ?_
    rotate_left
    · intro W hS
      try dsimp only at hS
      go_split_ands
      go_simp
      try with_reducible rfl
    try simp only [Act.put, List.getElem_toArray, List.getElem_cons_zero, List.getElem_cons_succ, List.setIfInBounds_toArray, List.set_cons_zero, List.set_cons_succ]
    refine till_last (by kernel_rfl) rfl (by kernel_rfl) (fun K' hK => ?_)
    go_simp
    refine hK _ _ ?_
    clear hK K'
    refine wpAny_done (by kernel_rfl) ?_ _
    go_wp2_with fail
    go_ret
    exact ⟨⟨_, _, rfl, HFE.out, HP.out _⟩, HFB.out, HFO.out⟩
  | false =>
    have hil := HAT.out.le
    have HP : Hid (∀ av', PutD es a (insI es i ⟨a.party, a.coin, [a.amt], av'⟩)) := fun av' => ⟨i, HAT.out, .inr ⟨hh, av', rfl⟩⟩
    have HIL := Lib.hid hil
    clear hh hil
    have hal := (Below.refl w2.heap.size w2).alloc (Nat.le_refl _) (.cells #[.string a.party, .string a.coin, .int .i64 0, .slice none 0 0] 79)
    have BN := Mem.Blk.new w2 79 #[.string a.party, .string a.coin, .int .i64 0, .slice none 0 0]
    have HEA := Lib.hid (HE2.out.below hal)
    have HBA2 := Lib.hid ((HB2.out.mono HBA.out).trans (hal.mono (by have := HB2.out.size; have := HBA.out; omega)))
    have BXA := Lib.hid (BX2.out.below hal)
    have HOA := Lib.hid ((OTH.of_below HB2.out).trans (OTH.of_below hal))
    have HI := Lib.hid (insert_any base v es.length i (entR es) (entC ⟨a.party, a.coin, [], .slice none 0 0⟩) w2.heap.size _ HEA.out.row (by have := HBA2.out.size; have := HBA.out; omega) (by have := HN.out; omega) HIL.out rfl
      (fun j u hu => by rw [BN.cell j]; simpa [entC] using hu) (by intro u hu; simp only [entC, List.mem_cons, List.not_mem_nil, or_false] at hu; rcases hu with rfl | rfl | rfl | rfl <;> simp [Value.oneCell']) (fun u hu => entR_one4 es u hu HE2.out.av1)
      (fun e => by have := (own_lt HE2.out.row e).2; omega) (by have h := BN; unfold Mem.Blk at h; unfold World.shape?; rw [h]; rfl) (fun j => BN.frozen j) BN.lt)
    clear hal BN HE2 HB2 BX2
    go_wp2_with fail
    go_at_call 69
    (with_reducible refine HI.out.mono ?_)
    rintro x w3 ⟨v3, rfl, ho, hg, hv⟩
    have HE2 := Lib.hid (HEA.out.ins HIL.out HA.out ho hg)
    have HB3 := Lib.hid (HBA2.out.grown hg (by have := HBA2.out.size; have := HBA.out; omega) (fun b hb => (own_lt HEA.out.row hb).1))
    have BX2 : Hid (Mem.Blk w3 zb 51 (acctC a).toArray) := by
      have hne : v.ownBlock ≠ some zb := by
        intro e
        exact blkRow BXA.out HEA.out.row (by decide) e
      have h1 := BXA.out
      unfold Mem.Blk at h1
      show Mem.Blk _ _ _ _
      unfold Mem.Blk
      rw [hg.block zb BXA.out.lt (fun e => hne e.symm)]; exact h1
    have HO3 := Lib.hid (HOA.out.trans (OTH.grown HEA.out.row (.inl rfl) hg rfl))
    clear ho hg hv HI HEA HBA2 BXA HOA d0 d1 d2
    have d0 : w3.cell? ⟨zb, 0, none⟩ = some (.string a.party) := BX2.out.cell 0
    have d1 : w3.cell? ⟨zb, 1, none⟩ = some (.string a.coin) := BX2.out.cell 1
    have d2 : w3.cell? ⟨zb, 2, none⟩ = some (.int .i64 a.amt) := BX2.out.cell 2
    obtain ⟨e, he0⟩ : ∃ x : Ent, x = ⟨a.party, a.coin, [], .slice none 0 0⟩ := ⟨_, rfl⟩
    obtain ⟨es2, hes2⟩ : ∃ x, x = insI es i e := ⟨_, rfl⟩
    have hset : Hid (∀ av', es2.set i ⟨e.party, e.coin, e.all ++ [a.amt], av'⟩ = insI es i ⟨a.party, a.coin, [a.amt], av'⟩) := fun av' => by rw [hes2, insI_set HIL.out, he0]; rfl
    have HHE : Hid (es2[i]? = some e) := by
      show _ = _
      rw [hes2, insI_at HIL.out, if_neg (by omega), if_pos rfl]
    have HL3 : Hid (e.all.length ≤ 900000) := by show e.all.length ≤ 900000; rw [he0]; exact Nat.zero_le _
    have HN : Hid (es2.length ≤ 900001) := by show _ ≤ _; rw [hes2, insI_len _ _ _ HIL.out]; have := HN.out; omega
    rw [← he0, ← hes2] at HE2
    clear he0 hes2
    obtain ⟨g, cap, e1, hva, hx, c0, c1, c2, c3, hfz⟩ := HE2.out.at i (List.getElem?_eq_some_iff.1 HHE.out).1
    have hee : e1 = e := by rw [HHE.out] at hx; injection hx with hx; exact hx.symm
    subst hva
    obtain ⟨aa, ac, hav⟩ := own_slice (HE2.out.each i _ HHE.out)
    replace c3 : w3.cell? ⟨g, i * 4 + 3, none⟩ = some (.slice aa (e).all.length ac) := by
      rw [hee] at c3
      rw [← hav]; exact c3
    have HAV := Lib.hid hav
    clear hee hav
    have hi0 : (i : Int) < ((es2).length : Int) := by have := (List.getElem?_eq_some_iff.1 HHE.out).1; omega
    have hi1 : (0 : Int) ≤ (i : Int) := by omega
    have hi2 : (i : Int) ≤ 1000000 := by have := HN.out; omega
    clear hx c0 c1 c2
    go_upto_region 4 with (fail)
    have hal : Below w3.heap.size w3 (w3.alloc (.cells #[.int .i64 a.amt] 2)).drew := ((Below.refl w3.heap.size w3).alloc (Nat.le_refl _) (.cells #[.int .i64 a.amt] 2)).drew
    have HW := Lib.hid (HE2.out.below hal)
    have HBW := Lib.hid (HB3.out.trans (hal.mono (by have := HB3.out.size; have := HBA.out; omega)))
    have HLB : Hid (base ≤ (w3.alloc (.cells #[.int .i64 a.amt] 2)).drew.heap.size) := by have := HBW.out.size; have := HBA.out; show _ ≤ _; omega
    have HCN : Hid (∀ j u, [Value.int .i64 a.amt][j]? = some u → (w3.alloc (.cells #[.int .i64 a.amt] 2)).drew.cell? ((⟨w3.heap.size, 0, none⟩ : Addr).add j) = some u) := lit_cells_at w3 #[.int .i64 a.amt] 2 w3.heap.size rfl
    have HM64 : Hid (((e).all.length + 1 ≤ maxLen) ∧ ((e).all.length + 1) * 8 ≤ 140737488355328) := by
      have hmx : maxLen = 9223372036854775807 := by decide
      have := HL3.out
      exact ⟨by omega, by omega⟩
    have HOW : Hid ((w3.alloc (.cells #[.int .i64 a.amt] 2)).drew.ownsRow base 2 1 (.slice aa (e).all.length ac) (e).all.length (intC (e).all)) := by
      have := HW.out.each i _ HHE.out
      rw [HAV.out] at this; exact this
    have HBZ := Lib.hid (BX2.out.below hal)
    have HO5 := Lib.hid (HO3.out.trans (OTH.of_below hal))
    refine wp_region_till (S := fun W => W.cell? ⟨g, i * 4 + 3, none⟩ = some (.slice aa (e).all.length ac) ∧ W.cell? ⟨zb, 2, none⟩ = some (.int .i64 a.amt)) 13 (by kernel_rfl) ?_
    refine till_take (i := 0) (v := ?_) rfl (by kernel_rfl) (fun _ _ _ h => h) (Or.inl ⟨by rfl, ?_⟩) ⟨c3,d2⟩ ?_
    rotate_left
    · intro W hS
      try dsimp only at hS
      go_split_ands
      go_simp
      try with_reducible rfl
    try simp only [Act.put, List.getElem_toArray, List.getElem_cons_zero, List.getElem_cons_succ, List.setIfInBounds_toArray, List.set_cons_zero, List.set_cons_succ]
    refine till_take (i := 1) (v := ?_) rfl (by kernel_rfl) (fun _ _ _ h => h) (Or.inl ⟨by rfl, ?_⟩) ⟨c3,d2⟩ ?_
    rotate_left
    · intro W hS
      try dsimp only at hS
      go_split_ands
      go_simp
      try with_reducible rfl
    try simp only [Act.put, List.getElem_toArray, List.getElem_cons_zero, List.getElem_cons_succ, List.setIfInBounds_toArray, List.set_cons_zero, List.set_cons_succ]
    refine till_take (i := 2) (v := ?_) rfl (by kernel_rfl) (fun _ _ _ h => h) (Or.inl ⟨by rfl, ?_⟩) ⟨c3,d2⟩ ?_
    rotate_left
    · intro W hS
      try dsimp only at hS
      go_split_ands
      go_simp
      try with_reducible rfl
    try simp only [Act.put, List.getElem_toArray, List.getElem_cons_zero, List.getElem_cons_succ, List.setIfInBounds_toArray, List.set_cons_zero, List.set_cons_succ]
    refine till_take (i := 3) (v := ?_) rfl (by kernel_rfl) (fun _ _ _ h => h) (Or.inl ⟨by rfl, ?_⟩) ⟨c3,d2⟩ ?_
    rotate_left
    · intro W hS
      try dsimp only at hS
      go_split_ands
      go_simp
      try with_reducible rfl
    try simp only [Act.put, List.getElem_toArray, List.getElem_cons_zero, List.getElem_cons_succ, List.setIfInBounds_toArray, List.set_cons_zero, List.set_cons_succ]
    refine till_take (i := 4) (v := ?_) rfl (by kernel_rfl) (fun _ _ _ h => h) (Or.inl ⟨by rfl, ?_⟩) ⟨c3,d2⟩ ?_
    rotate_left
    · intro W hS
      try dsimp only at hS
      go_split_ands
      go_simp
      try with_reducible rfl
    try simp only [Act.put, List.getElem_toArray, List.getElem_cons_zero, List.getElem_cons_succ, List.setIfInBounds_toArray, List.set_cons_zero, List.set_cons_succ]
    refine till_take (i := 5) (v := ?_) rfl (by kernel_rfl) (fun _ _ _ h => h) (Or.inl ⟨by rfl, ?_⟩) ⟨c3,d2⟩ ?_
    rotate_left
    · intro W hS
      try dsimp only at hS
      go_split_ands
      go_simp
      try with_reducible rfl
    try simp only [Act.put, List.getElem_toArray, List.getElem_cons_zero, List.getElem_cons_succ, List.setIfInBounds_toArray, List.set_cons_zero, List.set_cons_succ]
    refine till_take (i := 6) (v := ?_) rfl (by kernel_rfl) (fun _ _ _ h => h) (Or.inl ⟨by rfl, ?_⟩) ⟨c3,d2⟩ ?_
    rotate_left
    · intro W hS
      try dsimp only at hS
      go_split_ands
      go_simp
      try with_reducible rfl
    try simp only [Act.put, List.getElem_toArray, List.getElem_cons_zero, List.getElem_cons_succ, List.setIfInBounds_toArray, List.set_cons_zero, List.set_cons_succ]
    refine till_take (i := 7) (v := ?_) rfl (by kernel_rfl) (fun _ _ _ h => h) (Or.inl ⟨by rfl, ?_⟩) ⟨c3,d2⟩ ?_
    rotate_left
    · intro W hS
      try dsimp only at hS
      go_split_ands
      go_simp
      try with_reducible rfl
    try simp only [Act.put, List.getElem_toArray, List.getElem_cons_zero, List.getElem_cons_succ, List.setIfInBounds_toArray, List.set_cons_zero, List.set_cons_succ]
    refine till_take (i := 8) (v := ?_) rfl (by kernel_rfl) (fun _ _ _ h => h) (Or.inl ⟨by rfl, ?_⟩) ⟨c3,d2⟩ ?_
    rotate_left
    · intro W hS
      try dsimp only at hS
      go_split_ands
      go_simp
      try with_reducible rfl
    try simp only [Act.put, List.getElem_toArray, List.getElem_cons_zero, List.getElem_cons_succ, List.setIfInBounds_toArray, List.set_cons_zero, List.set_cons_succ]
    refine till_one (i := 9) (by kernel_rfl) rfl (fun K' hK => ?_)
    go_simp
    have c3' := cellUp c3 hal
    have d2' := cellUp d2 hal
    refine hK _ _ ⟨c3', d2'⟩ ?_
    clear hK K' hal c3 d2 d0 d1
    generalize (w3.alloc (.cells #[.int .i64 a.amt] 2)).drew = w5 at *
    obtain ⟨nb, hnb⟩ : ∃ z, z = w3.heap.size := ⟨_, rfl⟩
    rw [← hnb] at HCN ⊢
    clear hnb
    try simp only [Act.put, List.getElem_toArray, List.getElem_cons_zero, List.getElem_cons_succ, List.setIfInBounds_toArray, List.set_cons_zero, List.set_cons_succ]
    refine till_one (i := 10) (by kernel_rfl) rfl (fun K' hK => ?_)
    refine step_ap infoI Try.underlying77 rfl (by decide) rfl (.tmp 31) (.tmp 34) rfl rfl HOW.out HLB.out ⟨nb, 0, none⟩ 1 1 [.int .i64 a.amt] rfl rfl HCN.out (by intro u hu; rw [List.mem_singleton] at hu; subst hu; simp [Value.oneCell']) HM64.out.1 HM64.out.2 ?_
    intro v4 w4 o1 g1 hv1
    obtain ⟨a4, ac4, rfl⟩ := own_slice o1
    have g1 : World.grownBy w5 w4 (e).av.ownBlock := (by rw [HAV.out]; exact g1)
    have hv1 : (Value.slice a4 ((e).all.length + 1) ac4).ownBlock = (e).av.ownBlock ∨ (Value.slice a4 ((e).all.length + 1) ac4).ownBlock = some w5.heap.size := (by rw [HAV.out]; exact hv1)
    have HFE := Lib.hid (HW.out.more HHE.out o1 g1 hv1)
    have hrw := own_grown HW.out.row g1 (fun x hx => row_ne HW.out.row (HW.out.each i _ HHE.out) (by decide) hx)
    have c3 := hrw.cellAt (i * 4 + 3) (by have := (List.getElem?_eq_some_iff.1 HHE.out).1; omega)
    rw [entR_at _ HHE.out 3 (by omega)] at c3
    replace c3 : w4.cell? ⟨g, i * 4 + 3, none⟩ = some (.slice aa (e).all.length ac) := by rw [← HAV.out]; exact c3
    have f3 := hrw.frozenAt (i * 4 + 3)
    have d2 : w4.cell? ⟨zb, 2, none⟩ = some (.int .i64 a.amt) := by
      have h1 := HBZ.out.cell 2
      have hne : (e).av.ownBlock ≠ some zb := fun e => blkRow HBZ.out (HW.out.each i _ HHE.out) (by decide) e
      exact g1.cell h1 (fun e => hne e.symm)
    have HFB := Lib.hid ((HBW.out.grown g1 HLB.out (fun b hb => (own_lt (HW.out.each i _ HHE.out) hb).1)).setCell (p := ⟨g, i * 4 + 3, none⟩) (own_lt hrw rfl).1 (.slice a4 ((e).all.length + 1) ac4))
    have HFO := Lib.hid ((HO5.out.trans (OTH.grown (HW.out.each i _ HHE.out) (.inr rfl) g1 rfl)).trans (OTH.set hrw (.inl rfl) (i * 4 + 3) (.slice a4 ((e).all.length + 1) ac4)))
    refine hK _ _ ⟨c3, d2⟩ ?_
    clear hK K' o1 g1 hv1 hrw c3' d2'
    try simp only [Act.put, List.getElem_toArray, List.getElem_cons_zero, List.getElem_cons_succ, List.setIfInBounds_toArray, List.set_cons_zero, List.set_cons_succ]
    refine till_take (i := 11) (v := ?_) rfl (by kernel_rfl) (fun _ _ _ h => h) (Or.inl ⟨by rfl, ?_⟩) ⟨c3,d2⟩ ?_
    rotate_left
    · intro W hS
      try dsimp only at hS
      go_split_ands
      go_simp
      try with_reducible rfl
    try simp only [Act.put, List.getElem_toArray, List.getElem_cons_zero, List.getElem_cons_succ, List.setIfInBounds_toArray, List.set_cons_zero, List.set_cons_succ]
    refine till_take (i := 12) (v := ?_) rfl (by kernel_rfl) (fun _ _ _ h => h) (Or.inl ⟨by rfl, ?_⟩) ⟨c3,d2⟩ ?_
    rotate_left
    · intro W hS
      try dsimp only at hS
      go_split_ands
      go_simp
      try with_reducible rfl
    try simp only [Act.put, List.getElem_toArray, List.getElem_cons_zero, List.getElem_cons_succ, List.setIfInBounds_toArray, List.set_cons_zero, List.set_cons_succ]
    refine till_last (by kernel_rfl) rfl (by kernel_rfl) (fun K' hK => ?_)
    go_simp
    refine hK _ _ ?_
    clear hK K'
    refine wpAny_done (by kernel_rfl) ?_ _
    go_wp2_with fail
    go_ret
    refine ⟨⟨_, _, rfl, HFE.out, ?_⟩, HFB.out, HFO.out⟩
    rw [hset.out]
    exact HP.out _
end Go.Proofs.Ytgbiimoednmlgaa
