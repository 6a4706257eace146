/- The contract of Names, of a right term: two lists, as long as there are different names. -/
import Derived.Test.YtjpkljkmignnjaaNamesT
import Derived.Test.YtjpkljkmignnjaaKeys
import Derived.Test.YtjpkljkmignnjaaRight
import Derived.Test.YtjpkljkmignnjaaAp
import Derived.Carry
namespace Go.Proofs.Ytjpkljkmignnjaa
set_option linter.unusedVariables false
set_option linter.unusedSimpArgs false
open Go.RowKit
theorem strKeys_len {H : Type} (D : DataW H) : (Go.strKeys D).length = Maps.size D := by
  cases D <;> simp [Go.strKeys, Maps.size]
/-- Where the region of the two lists stands. -/
structure P3 (w W : World) (b1 b2 h4 : Nat) (l1 l2 : List ByteArray) (n : Nat) : Prop where
  two : Two W b1 b2 l1 l2 n
  below : Below w.heap.size w W
  c0 : W.cell? ⟨h4, 0, none⟩ = some (.map (some b1))
  c1 : W.cell? ⟨h4, 1, none⟩ = some (.map (some b2))
theorem P3.up {w W W' : World} {b1 b2 h4 : Nat} {l1 l2 : List ByteArray} {n : Nat} (h : P3 w W b1 b2 h4 l1 l2 n) (hb : Below W.heap.size W W') : P3 w W' b1 b2 h4 l1 l2 n :=
  ⟨h.two.fr (Fr.of_below hb []) (by simp) (by simp), h.below.trans (hb.mono h.below.size), cell_up h.c0 hb, cell_up h.c1 hb⟩
set_option maxRecDepth 100000 in
set_option maxHeartbeats 2000000 in
theorem names_any (t : Te) (cs : List Value) (w : World) (hR : RepT w [] t cs) (hr : rT t = true) :
    Calls Try.prog 20 #[.agg cs.toArray] w fun x w' => (∃ a1 c1 a2 c2, x = .returned (.tuple #[.slice a1 (Maps.size (setD (coinsT t))) c1, .slice a2 (Maps.size (setD (obsT t))) c2])) ∧ Below w.heap.size w w' := by
  have hsz : t.nd ≤ 200 ∧ t.rk ≤ 16 := by
    have : rT t = (decide (t.nd ≤ 200 ∧ t.rk ≤ 16) && bT t) := rfl
    rw [this, Bool.and_eq_true, decide_eq_true_eq] at hr
    exact hr.1
  have HND := Lib.hid hsz
  have HRT := Lib.hid (show RepT w [] t cs from hR)
  obtain ⟨op, nm, ex, te, a, len, cap, a2, len2, cap2, -, rfl, -, -, -, -⟩ := hR.inv
  have HB0 := Lib.hid ((Below.refl w.heap.size w).alloc (Nat.le_refl _) (.cells #[.int .i64 op, .string nm, .slice a len cap, .slice a2 len2 cap2] 33))
  have BX := Lib.hid (Mem.Blk.new w 33 #[.int .i64 op, .string nm, .slice a len cap, .slice a2 len2 cap2])
  have hmm := @run_makeMap Try.prog
  have HRR := Lib.hid hr
  clear hR hsz hr
  go_enter Try.func20, Try.ntmps20
  go_upto_region 1 with (fail)
  generalize w.alloc (.cells #[.int .i64 op, .string nm, .slice a len cap, .slice a2 len2 cap2] 33) = w0 at *
  obtain ⟨c0, c1, c2, c3, -, -, -, -⟩ := blk4' BX.out
  go_wp2_with fail
  go_at_call 15
  (with_reducible refine (right_any t _ _ (RepT.kept HRT.out (Kept.of_below HB0.out [])) (by have := HND.out; omega)).mono ?_)
  rintro y w1 ⟨rfl, b1⟩
  rw [HRR.out]
  have HB1 := Lib.hid (HB0.out.trans (b1.mono HB0.out.size))
  have BX1 := Lib.hid (BX.out.below b1)
  clear b1 BX HB0 c0 c1 c2 c3
  go_upto_region 4 with (fail)
  have HM0 := Lib.hid ((World.ownsMap_made w1 Try.prog 9 (plainElem (H := Unit) Try.prog 4)))
  have HM1 := Lib.hid ((World.ownsMap_made (w1.alloc (.map #[] 0)) Try.prog 9 (plainElem (H := Unit) Try.prog 4)))
  have e1 : (w1.alloc (.map #[] 0)).heap.size = w1.heap.size + 1 := by simp
  have e2 : ((w1.alloc (.map #[] 0)).alloc (.map #[] 0)).heap.size = w1.heap.size + 1 + 1 := by simp
  rw [e1] at HM1
  have HT : Hid (Two (((w1.alloc (.map #[] 0)).alloc (.map #[] 0)).alloc (.cells #[.map (some w1.heap.size), .map (some (w1.heap.size + 1))] 63)) w1.heap.size (w1.heap.size + 1) [] [] 0) :=
    ⟨(HM0.out.alloc _).alloc _, HM1.out.alloc _, by omega⟩
  have hba := (((Below.refl w1.heap.size w1).alloc (Nat.le_refl _) (.map #[] 0)).alloc (by rw [e1]; omega) (.map #[] 0)).alloc (by rw [e2]; omega) (.cells #[.map (some w1.heap.size), .map (some (w1.heap.size + 1))] 63)
  have BS := Lib.hid (Mem.Blk.new ((w1.alloc (.map #[] 0)).alloc (.map #[] 0)) 63 #[.map (some w1.heap.size), .map (some (w1.heap.size + 1))])
  rw [e2] at BS
  have BX2 := Lib.hid (BX1.out.below hba)
  have HB2 := Lib.hid (HB1.out.trans (hba.mono HB1.out.size))
  have hs2 := hba.size
  have hs1 : w.heap.size < w1.heap.size := BX1.out.lt
  have HRS := Lib.hid ((RepT.kept HRT.out (Kept.of_below HB2.out [])).less (X' := []) (fun b _ hm => hm))
  have HRS2 := Lib.hid ((HRT.out.less (X' := [w1.heap.size, w1.heap.size + 1]) (fun b hb hm => by
    simp only [List.mem_cons, List.not_mem_nil, or_false] at hm; omega)).kept (Kept.of_below HB2.out _))
  have HC := Lib.hid (seenTerm_any t.rk t (Nat.le_refl _) _ _ _ _ _ _ 0 HRS2.out HT.out (by have := HND.out; omega))
  have hne : w.heap.size ∉ [w1.heap.size, w1.heap.size + 1] ∧ w1.heap.size + 1 + 1 ∉ [w1.heap.size, w1.heap.size + 1] := by constructor <;> simp <;> omega
  have HNE := Lib.hid hne
  have HGE : Hid (∀ b ∈ [w1.heap.size, w1.heap.size + 1], w.heap.size ≤ b) := by
    intro b hb
    simp only [List.mem_cons, List.not_mem_nil, or_false] at hb; omega
  clear hba hs1 hs2 HM0 HM1 e1 e2 hne hmm HB1 BX1 HRS HRS2 HT
  generalize ((w1.alloc (.map #[] 0)).alloc (.map #[] 0)).alloc (.cells #[.map (some w1.heap.size), .map (some (w1.heap.size + 1))] 63) = w2 at *
  generalize w1.heap.size = m at *
  obtain ⟨c0, c1, c2, c3, -, -, -, -⟩ := blk4' BX2.out
  have s0 : w2.cell? ⟨m + 1 + 1, 0, none⟩ = some (.map (some m)) := BS.out.cell 0
  have s1 : w2.cell? ⟨m + 1 + 1, 1, none⟩ = some (.map (some (m + 1))) := BS.out.cell 1
  go_wp2_with fail
  go_at_call 34
  (with_reducible refine HC.out.mono ?_)
  rintro y w3 ⟨rfl, f3, t3⟩
  have d0 : w3.cell? ⟨m + 1 + 1, 0, none⟩ = some (.map (some m)) := f3.cell s0 HNE.out.2
  have d1 : w3.cell? ⟨m + 1 + 1, 1, none⟩ = some (.map (some (m + 1))) := f3.cell s1 HNE.out.2
  have H3 : Hid (P3 w w3 m (m + 1) (m + 1 + 1) (coinsT t) (obsT t) (0 + t.nd)) := by
    refine ⟨by simpa using t3, HB2.out.trans (f3.below HB2.out.size HGE.out), d0, d1⟩
  have HSZ : Hid (Maps.size (setD (coinsT t)) ≤ 1000 ∧ Maps.size (setD (obsT t)) ≤ 1000) := by
    have h1 := H3.out.two.one.size_le
    have h2 := H3.out.two.two.size_le
    have := HND.out
    constructor <;> omega
  clear f3 t3 HC c0 c1 c2 c3 s0 s1 BS BX2 HB2 HGE HNE HRT HRR
  go_wp2_with fail
  refine wp_region_till (S := fun W => W.cell? ⟨m + 1 + 1, 0, none⟩ = some (.map (some m)) ∧ W.cell? ⟨m + 1 + 1, 1, none⟩ = some (.map (some (m + 1)))) 8 (by kernel_rfl) ?_
  refine till_take (i := 0) (v := ?_) rfl (by kernel_rfl) (fun _ _ _ h => h) (Or.inl ⟨by rfl, ?_⟩) ⟨d0,d1⟩ ?_
  rotate_left
  · intro W hS
    try dsimp only at hS
    go_split_ands
    go_simp
    try with_reducible rfl
  try simp only [Act.put, List.getElem_toArray, List.getElem_cons_zero, List.getElem_cons_succ, List.setIfInBounds_toArray, List.set_cons_zero, List.set_cons_succ]
  refine till_take (i := 1) (v := ?_) rfl (by kernel_rfl) (fun _ _ _ h => h) (Or.inl ⟨by rfl, ?_⟩) ⟨d0,d1⟩ ?_
  rotate_left
  · intro W hS
    try dsimp only at hS
    go_split_ands
    go_simp
    try with_reducible rfl
  try simp only [Act.put, List.getElem_toArray, List.getElem_cons_zero, List.getElem_cons_succ, List.setIfInBounds_toArray, List.set_cons_zero, List.set_cons_succ]
  refine till_take (i := 4) (v := ?_) rfl (by kernel_rfl) (fun _ _ _ h => h) (Or.inl ⟨by rfl, ?_⟩) ⟨d0,d1⟩ ?_
  rotate_left
  · intro W hS
    try dsimp only at hS
    go_split_ands
    go_simp
    try with_reducible rfl
  try simp only [Act.put, List.getElem_toArray, List.getElem_cons_zero, List.getElem_cons_succ, List.setIfInBounds_toArray, List.set_cons_zero, List.set_cons_succ]
  refine till_take (i := 5) (v := ?_) rfl (by kernel_rfl) (fun _ _ _ h => h) (Or.inl ⟨by rfl, ?_⟩) ⟨d0,d1⟩ ?_
  rotate_left
  · intro W hS
    try dsimp only at hS
    go_split_ands
    go_simp
    try with_reducible rfl
  try simp only [Act.put, List.getElem_toArray, List.getElem_cons_zero, List.getElem_cons_succ, List.setIfInBounds_toArray, List.set_cons_zero, List.set_cons_succ]
  have HA := Lib.hid (H3.out.up (Below.refl w3.heap.size w3).drew)
  clear d0 d1 H3
  generalize w3.drew = W0 at *
  refine till_one (i := 2) (by kernel_rfl) rfl (fun K' hK => ?_)
  go_simp
  go_at_call 36
  (with_reducible refine (mapKeys_bool _ _).mono ?_)
  rintro y w' ⟨rfl, rfl⟩
  have hb := (Below.refl (W0).heap.size W0).alloc (Nat.le_refl _) (.cells #[.map (some m)] 61)
  have HA' := Lib.hid (HA.out.up hb)
  have C1 : Hid (∀ W, Below ((W0).alloc (.cells #[.map (some m)] 61)).heap.size ((W0).alloc (.cells #[.map (some m)] 61)) W → W.cell? ⟨(W0).heap.size, 0, none⟩ = some (.map (some m)) ∧ (W0).heap.size < W.heap.size) := by
    intro W hW
    have h1 := (Mem.Blk.new W0 61 #[.map (some m)]).below hW
    exact ⟨h1.cell 0, h1.lt⟩
  refine hK _ _ ⟨HA'.out.c0, HA'.out.c1⟩ ?_
  clear hK K' HA hb
  have HA := HA'
  clear HA'
  generalize (W0).alloc (.cells #[.map (some m)] 61) = W1 at *
  generalize (W0).heap.size = p1 at *
  try simp only [Act.put, List.getElem_toArray, List.getElem_cons_zero, List.getElem_cons_succ, List.setIfInBounds_toArray, List.set_cons_zero, List.set_cons_succ]
  refine till_one (i := 3) (by kernel_rfl) rfl (fun K' hK => ?_)
  go_simp
  go_at_call 35
  (with_reducible refine (sortedKeys_bool p1 m _ _ _ W1 (C1.out W1 (Below.refl _ _)).2 (C1.out W1 (Below.refl _ _)).1 HA.out.two.one (by have := HSZ.out; unfold maxLen; omega) (by have := HSZ.out; omega)).mono ?_)
  rintro y W2 ⟨v', ss, rfl, hpm, hrow, -, hb⟩
  obtain ⟨a1, c1, rfl⟩ := own_slice hrow
  rw [hpm.length_eq, strKeys_len] at *
  have HA' := Lib.hid (HA.out.up hb)
  refine hK _ _ ⟨HA'.out.c0, HA'.out.c1⟩ ?_
  clear hK K' HA hrow hpm hb
  have HA := HA'
  clear HA'
  try simp only [Act.put, List.getElem_toArray, List.getElem_cons_zero, List.getElem_cons_succ, List.setIfInBounds_toArray, List.set_cons_zero, List.set_cons_succ]
  refine till_one (i := 6) (by kernel_rfl) rfl (fun K' hK => ?_)
  go_simp
  go_at_call 36
  (with_reducible refine (mapKeys_bool _ _).mono ?_)
  rintro y w' ⟨rfl, rfl⟩
  have hb := (Below.refl (W2).heap.size W2).alloc (Nat.le_refl _) (.cells #[.map (some (m+1))] 61)
  have HA' := Lib.hid (HA.out.up hb)
  have C2 : Hid (∀ W, Below ((W2).alloc (.cells #[.map (some (m+1))] 61)).heap.size ((W2).alloc (.cells #[.map (some (m+1))] 61)) W → W.cell? ⟨(W2).heap.size, 0, none⟩ = some (.map (some (m+1))) ∧ (W2).heap.size < W.heap.size) := by
    intro W hW
    have h1 := (Mem.Blk.new W2 61 #[.map (some (m+1))]).below hW
    exact ⟨h1.cell 0, h1.lt⟩
  refine hK _ _ ⟨HA'.out.c0, HA'.out.c1⟩ ?_
  clear hK K' HA hb
  have HA := HA'
  clear HA'
  generalize (W2).alloc (.cells #[.map (some (m+1))] 61) = W3 at *
  generalize (W2).heap.size = p2 at *
  try simp only [Act.put, List.getElem_toArray, List.getElem_cons_zero, List.getElem_cons_succ, List.setIfInBounds_toArray, List.set_cons_zero, List.set_cons_succ]
  refine till_one (i := 7) (by kernel_rfl) rfl (fun K' hK => ?_)
  go_simp
  go_at_call 35
  (with_reducible refine (sortedKeys_bool p2 (m+1) _ _ _ W3 (C2.out W3 (Below.refl _ _)).2 (C2.out W3 (Below.refl _ _)).1 HA.out.two.two (by have := HSZ.out; unfold maxLen; omega) (by have := HSZ.out; omega)).mono ?_)
  rintro y W4 ⟨v', ss, rfl, hpm, hrow, -, hb⟩
  obtain ⟨a2, c2, rfl⟩ := own_slice hrow
  rw [hpm.length_eq, strKeys_len] at *
  have HA' := Lib.hid (HA.out.up hb)
  refine hK _ _ ⟨HA'.out.c0, HA'.out.c1⟩ ?_
  clear hK K' HA hrow hpm hb
  have HA := HA'
  clear HA'
  try simp only [Act.put, List.getElem_toArray, List.getElem_cons_zero, List.getElem_cons_succ, List.setIfInBounds_toArray, List.set_cons_zero, List.set_cons_succ]
  refine till_last (by kernel_rfl) rfl (by kernel_rfl) (fun K' hK => ?_)
  go_simp
  refine hK _ _ ?_
  clear hK K'
  refine any_one (i := 9) (by kernel_rfl) rfl (fun K' hK => ?_)
  go_simp
  refine hK _ _ ?_
  clear hK K'
  refine wpAny_done (by kernel_rfl) ?_ _
  go_wp2_with fail
  go_ret2
  exact ⟨⟨_, _, _, _, rfl⟩, HA.out.below⟩
end Go.Proofs.Ytjpkljkmignnjaa
