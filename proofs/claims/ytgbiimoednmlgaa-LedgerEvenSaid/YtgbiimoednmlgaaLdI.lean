/- The contract of slices.Insert over entries: one entry, at a place. -/
import Derived.Test.YtgbiimoednmlgaaLdV
import Derived.Shelf.RegionOpenPlain
namespace Go.Proofs.Ytgbiimoednmlgaa
set_option linter.unusedVariables false
set_option linter.unusedSimpArgs false
open Go.RowKit
theorem infoE : (Try.prog.info? 79).map (fun i => (i.zero, i.size, i.bytes)) = some (some (.agg #[.string ⟨#[]⟩, .string ⟨#[]⟩, .int .i64 0, .slice none 0 0]), 4, 64) := by kernel_rfl
theorem sizeE (w : World) : (Go.sizeOf 79).run Try.prog w = .ok 4 w := by kernel_rfl
/-- What Insert gives. -/
def InsD (base : Nat) (w w' : World) (v : Value) (n i : Nat) (xs c4 : List Value) (x : Ending) : Prop :=
  ∃ v', x = .returned v' ∧ w'.ownsRow base 79 4 v' (n + 1) (xs.take (i * 4) ++ c4 ++ xs.drop (i * 4)) ∧ w.grownBy w' v.ownBlock ∧ (v'.ownBlock = v.ownBlock ∨ v'.ownBlock = some w.heap.size)
set_option maxRecDepth 100000 in
set_option maxHeartbeats 4000000 in
theorem insert_end (base : Nat) (v : Value) (n : Nat) (xs c4 : List Value) (vb : Nat) (w : World) (hown : w.ownsRow base 79 4 v n xs) (hb : base ≤ w.heap.size) (hn : n ≤ 1000000) (hc : c4.length = 4)
    (hvs : ∀ j u, c4[j]? = some u → w.cell? ⟨vb, j, none⟩ = some u) (h1 : ∀ u ∈ c4, u.oneCell' = true) :
    Calls Try.prog 69 #[v, .int .i64 (n : Nat), .slice (some ⟨vb, 0, none⟩) 1 1] w fun x w' => InsD base w w' v n n xs c4 x := by
  have HO := Lib.hid hown
  have HB := Lib.hid hb
  have HC := Lib.hid hc
  have H1 := Lib.hid h1
  have HV : Hid (∀ j u, c4[j]? = some u → w.cell? ((⟨vb, 0, none⟩ : Addr).add j) = some u) := by
    intro j u hu
    have e : (⟨vb, 0, none⟩ : Addr).add j = ⟨vb, j, none⟩ := by unfold Addr.add; split <;> simp_all
    rw [e]; exact hvs j u hu
  have hmx : maxLen = 9223372036854775807 := by decide
  have HX : Hid (xs.take (n * 4) ++ c4 ++ xs.drop (n * 4) = xs ++ c4) := by
    show _ = _
    rw [List.take_of_length_le (by rw [hown.1]; omega), List.drop_eq_nil_of_le (by rw [hown.1]; omega), List.append_nil]
  have hmx : n + 1 ≤ maxLen ∧ (n + 1) * 64 ≤ 140737488355328 := ⟨by omega, by omega⟩
  have HM := Lib.hid hmx
  unfold InsD
  rw [HX.out]
  obtain ⟨av, capv, rfl⟩ := own_slice hown
  have hnc : n ≤ capv := by
    rcases hown.2 with ⟨h1, h2⟩ | ⟨g, cap', cur, h1, h2, h3, h4, h5⟩
    · injection h1 with _ h1 h3; omega
    · injection h1 with _ h1 h3; omega
  clear hown hb hc h1 hvs hmx
  cases av with
  | none =>
    go_enter Try.func69, Try.ntmps69
    go_wp2_with (at_builtin; refine ap_row infoE Try.underlying75 rfl (by decide) rfl (.tmp 23) (.tmp 24) rfl rfl HO.out HB.out ⟨vb, 0, none⟩ 1 1 c4 rfl HC.out HV.out H1.out HM.out.1 HM.out.2 ?_; intro v3 w3 o1 g1 hv1; have HO3 := Lib.hid o1; have HG3 := Lib.hid g1; have HV3 := Lib.hid hv1; clear o1 g1 hv1)
    all_goals (go_ret; exact ⟨v3, rfl, HO3.out, HG3.out, HV3.out⟩)
  | some ad =>
    obtain ⟨ab, ao, asp⟩ := ad
    go_enter Try.func69, Try.ntmps69
    go_wp2_with (at_builtin; refine ap_row infoE Try.underlying75 rfl (by decide) rfl (.tmp 23) (.tmp 24) rfl rfl HO.out HB.out ⟨vb, 0, none⟩ 1 1 c4 rfl HC.out HV.out H1.out HM.out.1 HM.out.2 ?_; intro v3 w3 o1 g1 hv1; have HO3 := Lib.hid o1; have HG3 := Lib.hid g1; have HV3 := Lib.hid hv1; clear o1 g1 hv1)
    all_goals (go_ret; exact ⟨v3, rfl, HO3.out, HG3.out, HV3.out⟩)
theorem ins_cells {cur xs c4 : List Value} {n i cap : Nat} (hcl : cur.length = cap * 4) (hn : n + 1 ≤ cap) (hi : i < n) (ht : cur.take (n * 4) = xs) (hc : c4.length = 4) {R1 R2 : List Value}
    (h1 : R1 = cur.take ((i + 1) * 4) ++ xs.drop (i * 4) ++ cur.drop ((i + 1) * 4 + (xs.drop (i * 4)).length)) (h2 : R2 = R1.take (i * 4) ++ c4 ++ R1.drop (i * 4 + c4.length)) :
    R1.length = cap * 4 ∧ R2.length = cap * 4 ∧ R2.take ((n + 1) * 4) = xs.take (i * 4) ++ c4 ++ xs.drop (i * 4) := by
  have hxl : xs.length = n * 4 := by rw [← ht, List.length_take, hcl]; omega
  have hdl : (xs.drop (i * 4)).length = (n - i) * 4 := by rw [List.length_drop, hxl]; omega
  have l1 : R1.length = cap * 4 := by
    rw [h1, List.length_append, List.length_append, List.length_take, List.length_drop, List.length_drop, hxl, hcl]; omega
  have t1 : R1.take (i * 4) = xs.take (i * 4) := by
    rw [h1, List.append_assoc, List.take_append_of_le_length (by rw [List.length_take, hcl]; omega), List.take_take, ← ht, List.take_take]
    congr 1; omega
  have d1 : R1.drop (i * 4 + c4.length) = xs.drop (i * 4) ++ cur.drop ((i + 1) * 4 + (xs.drop (i * 4)).length) := by
    have hl : (cur.take ((i + 1) * 4)).length = i * 4 + c4.length := by rw [List.length_take, hcl, hc]; omega
    rw [h1, List.append_assoc, ← hl]
    exact List.drop_left
  refine ⟨l1, ?_, ?_⟩
  · rw [h2, List.length_append, List.length_append, List.length_take, List.length_drop, l1, hc]; omega
  · rw [h2, t1, d1, ← List.append_assoc]
    have hl : (xs.take (i * 4) ++ c4 ++ xs.drop (i * 4)).length = (n + 1) * 4 := by
      rw [List.length_append, List.length_append, List.length_take, hdl, hxl, hc]; omega
    rw [← hl]
    exact List.take_left
set_option maxRecDepth 100000 in
set_option maxHeartbeats 4000000 in
theorem insert_room (base g cap : Nat) (n i : Nat) (xs c4 : List Value) (vb : Nat) (w : World) (hown : w.ownsRow base 79 4 (.slice (some ⟨g, 0, none⟩) n cap) n xs) (hn : n ≤ 1000000) (hi : i < n) (hroom : n + 1 ≤ cap) (hc : c4.length = 4)
    (hvs : ∀ j u, c4[j]? = some u → w.cell? ⟨vb, j, none⟩ = some u) (h1 : ∀ u ∈ c4, u.oneCell' = true) (h1x : ∀ u ∈ xs, u.oneCell' = true) (hvb : vb ≠ g) (hsa : w.shape? vb = some (79, 4)) (hfa : ∀ j, w.frozen? ⟨vb, j, none⟩ = false) :
    Calls Try.prog 69 #[.slice (some ⟨g, 0, none⟩) n cap, .int .i64 (i : Nat), .slice (some ⟨vb, 0, none⟩) 1 1] w fun x w' => InsD base w w' (.slice (some ⟨g, 0, none⟩) n cap) n i xs c4 x := by
  obtain ⟨g', cap', cur, hv, hbg, hg, hnc, hcm, hcs, htake⟩ := hown.2.resolve_left (fun h => by omega)
  injection hv with e1 _ e3
  injection e1 with e1
  injection e1 with e1
  subst e1; subst e3
  have hxl : xs.length = n * 4 := hown.1
  have hcl : cur.toList.length = cap * 4 := by rw [Array.length_toList, hcs]
  have hov : ∀ lb cb, (callFunc 87 #[.slice (some ⟨vb, 0, none⟩) 1 1, .slice (some ⟨g, (i + 1) * 4, none⟩) lb cb]).run Try.prog w = .ok (.value (.bool false)) w := fun lb cb => by
    rw [run_callFunc_extern Try.func87 (by kernel_rfl) (by kernel_rfl) (by kernel_rfl) (e := Extern.SlicesOverlaps.overlaps #[75, 75] #[4]) (by kernel_rfl),
      Lib.run_overlaps_apart w 75 4 79 Try.underlying75 4 (fun w => sizeE w) ⟨vb, 0, none⟩ ⟨g, (i + 1) * 4, none⟩ 1 1 lb cb hvb 79 79 4 (cap * 4) hsa (by simp [World.shape?, hg, hcs]) (by omega) (hfa 0) (hfa 4)]
    rfl
  have hsz : (Try.prog.info? 79).map (·.size) = some 4 := by kernel_rfl
  have hdl : (xs.drop (i * 4)).length = (n - i) * 4 := by rw [List.length_drop, hxl]; omega
  obtain ⟨R1, hR1⟩ : ∃ R, R = (cur.toList.take ((i + 1) * 4) ++ xs.drop (i * 4) ++ cur.toList.drop ((i + 1) * 4 + (xs.drop (i * 4)).length)).toArray := ⟨_, rfl⟩
  have hcell : ∀ j u, xs[j]? = some u → w.cell? ⟨g, j, none⟩ = some u := by
    intro j u hu
    have := hown.cells (g := g) rfl j u hu
    have e : (⟨g, 0, none⟩ : Addr).add j = ⟨g, j, none⟩ := by unfold Addr.add; split <;> simp_all
    rw [e] at this; exact this
  have hcp1 : ∀ ty dc sc, (Builtin.copy_ #[75, 75] ty #[.slice (some ⟨g, (i + 1) * 4, none⟩) (n - i) dc, .slice (some ⟨g, i * 4, none⟩) (n + 1 - i) sc]).run Try.prog w.drew = .ok (goInt (n - i : Nat)) (w.drew.setRow g R1) := fun ty dc sc => by
    have h := run_copy_rowK w.drew 75 75 ty 79 4 g ((i + 1) * 4) (n - i) dc ⟨g, i * 4, none⟩ (n + 1 - i) sc cur 79 (xs.drop (i * 4)) Try.underlying75 hsz hg (by rw [hdl]; simp only [Nat.min_def]; split <;> omega)
      (fun j u hj => by
        have e : (⟨g, i * 4, none⟩ : Addr).add j = ⟨g, i * 4 + j, none⟩ := by unfold Addr.add; split <;> simp_all
        rw [e]
        rw [List.getElem?_drop] at hj
        exact hcell _ u hj)
      (by rw [hdl, hcs]; omega) (fun u hu => h1x u (List.mem_of_mem_drop hu))
    rw [← hR1] at h
    have em : Nat.min (n + 1 - i) (n - i) = n - i := by simp only [Nat.min_def]; split <;> omega
    rw [em] at h
    exact h
  obtain ⟨R2, hR2⟩ : ∃ R, R = (R1.toList.take (i * 4) ++ c4 ++ R1.toList.drop (i * 4 + c4.length)).toArray := ⟨_, rfl⟩
  have hR := ins_cells (R1 := R1.toList) (R2 := R2.toList) hcl hroom hi htake hc (by rw [hR1]) (by rw [hR2])
  have hg1 := setRow_heap w.drew g cur R1 79 (0, 0) hg
  have hcp2 : ∀ ty dc, (Builtin.copy_ #[75, 75] ty #[.slice (some ⟨g, i * 4, none⟩) (n + 1 - i) dc, .slice (some ⟨vb, 0, none⟩) 1 1]).run Try.prog (w.drew.setRow g R1) = .ok (goInt (1 : Nat)) ((w.drew.setRow g R1).setRow g R2) := fun ty dc => by
    have h := run_copy_rowK (w.drew.setRow g R1) 75 75 ty 79 4 g (i * 4) (n + 1 - i) dc ⟨vb, 0, none⟩ 1 1 R1 79 c4 Try.underlying75 hsz hg1 (by rw [hc]; simp only [Nat.min_def]; split <;> omega)
      (fun j u hj => by
        have e : (⟨vb, 0, none⟩ : Addr).add j = ⟨vb, j, none⟩ := by unfold Addr.add; split <;> simp_all
        rw [e]
        have h2 : (w.drew.setRow g R1).heap[vb]? = w.heap[vb]? := setRow_other w.drew g vb R1 hvb
        rw [World.cell?_of_block (w := w) h2]
        exact hvs j u hj)
      (by have := hR.1; rw [Array.length_toList] at this; rw [this, hc]; omega) h1
    rw [← hR2] at h
    have em : Nat.min 1 (n + 1 - i) = 1 := by simp only [Nat.min_def]; split <;> omega
    rw [em] at h
    exact h
  have FIN : Hid (∀ x, x = Ending.returned (.slice (some ⟨g, 0, none⟩) (n + 1) cap) → InsD base w ((w.drew.setRow g R1).setRow g R2) (.slice (some ⟨g, 0, none⟩) n cap) n i xs c4 x) := by
    rintro x rfl
    have hl2 : R2.size = cap * 4 := by have := hR.2.1; rw [Array.length_toList] at this; exact this
    refine ⟨_, rfl, ⟨?_, .inr ⟨g, cap, R2, rfl, hbg, setRow_heap (w.drew.setRow g R1) g R1 R2 79 (0, 0) hg1, hroom, hcm, hl2, hR.2.2⟩⟩, ⟨rfl, rfl, rfl, by simp, fun k _ hk => ?_⟩, .inl rfl⟩
    · rw [List.length_append, List.length_append, List.length_take, hdl, hxl, hc]; omega
    · have hne : k ≠ g := fun e => hk (by rw [e]; rfl)
      rw [setRow_other (w.drew.setRow g R1) g k R2 hne]
      exact setRow_other w.drew g k R1 hne
  clear hR1 hR2 hR hg1 htake hcs hcl hg hcm hbg hcell hdl
  have hcw1 : IntKind.i64.wrap ((i : Int) + 1) = (i : Int) + 1 := IntWalk.i64_in _ (by omega)
  have hcw2 : IntKind.i64.wrap ((n : Int) + 1) = (n : Int) + 1 := IntWalk.i64_in _ (by omega)
  have hb1 : ¬ ((i : Int) = (n : Int)) := by omega
  have hb2 : (i : Int) ≤ (n : Int) := by omega
  have hb3 : (n : Int) + 1 ≤ (cap : Int) := by omega
  have hb4 : ¬ ((cap : Int) < (n : Int) + 1) := by omega
  have hb5 : ¬ (cap = i + 1) := by omega
  have hb6 : (0 : Int) ≤ (i : Int) + 1 := by omega
  have hb7 : ¬ (cap = i) := by omega
  have hb8 : (i : Int) ≤ (n : Int) + 1 := by omega
  have hb9 : (i : Int) + 1 ≤ (n : Int) + 1 := by omega
  go_enter Try.func69, Try.ntmps69
  go_wp2_with (simp only [hov])
  go_still_tail 8, (by kernel_rfl)
  change wpList _ _ _ _ _ w.drew
  go_wp2_with (first
    | (at_builtin; refine wpList_copy_run rfl (.tmp 73) (.tmp 76) 75 75 rfl _ _ rfl rfl (hcp1 _ _ _) ?_)
    | (at_builtin; refine wpList_copy_run rfl (.tmp 80) (.tmp 81) 75 75 rfl _ _ rfl rfl (hcp2 _ _) ?_))
  go_ret
  exact FIN.out _ rfl
theorem grow_cells {row xs c4 : List Value} {n i G : Nat} (hrl : row.length = G * 4) (hn : n + 1 ≤ G) (hi : i < n) (hr : row.take (i * 4) = xs.take (i * 4)) (hx : xs.length = n * 4) (hc : c4.length = 4) {R2 R3 : List Value}
    (h2 : R2 = row.take (i * 4) ++ c4 ++ row.drop (i * 4 + c4.length)) (h3 : R3 = R2.take ((i + 1) * 4) ++ xs.drop (i * 4) ++ R2.drop ((i + 1) * 4 + (xs.drop (i * 4)).length)) :
    R2.length = G * 4 ∧ R3.length = G * 4 ∧ R3.take ((n + 1) * 4) = xs.take (i * 4) ++ c4 ++ xs.drop (i * 4) := by
  have hdl : (xs.drop (i * 4)).length = (n - i) * 4 := by rw [List.length_drop, hx]; omega
  have l2 : R2.length = G * 4 := by
    rw [h2, List.length_append, List.length_append, List.length_take, List.length_drop, hrl, hc]; omega
  have t2 : R2.take ((i + 1) * 4) = xs.take (i * 4) ++ c4 := by
    have hl : (row.take (i * 4) ++ c4).length = (i + 1) * 4 := by rw [List.length_append, List.length_take, hrl, hc]; omega
    rw [h2, ← hr, ← hl]
    exact List.take_left
  refine ⟨l2, ?_, ?_⟩
  · rw [h3, List.length_append, List.length_append, List.length_take, List.length_drop, List.length_drop, l2, hx]; omega
  · rw [h3, t2]
    have hl : (xs.take (i * 4) ++ c4 ++ xs.drop (i * 4)).length = (n + 1) * 4 := by
      rw [List.length_append, List.length_append, List.length_take, hdl, hx, hc]; omega
    rw [← hl]
    exact List.take_left
set_option maxRecDepth 100000 in
set_option maxHeartbeats 4000000 in
theorem insert_grow (base g cap : Nat) (n i : Nat) (xs c4 : List Value) (vb : Nat) (w : World) (hown : w.ownsRow base 79 4 (.slice (some ⟨g, 0, none⟩) n cap) n xs) (hb : base ≤ w.heap.size) (hn : n ≤ 1000000) (hi : i < n) (hroom : cap < n + 1) (hc : c4.length = 4)
    (hvs : ∀ j u, c4[j]? = some u → w.cell? ⟨vb, j, none⟩ = some u) (h1 : ∀ u ∈ c4, u.oneCell' = true) (h1x : ∀ u ∈ xs, u.oneCell' = true) (hvw : vb < w.heap.size) :
    Calls Try.prog 69 #[.slice (some ⟨g, 0, none⟩) n cap, .int .i64 (i : Nat), .slice (some ⟨vb, 0, none⟩) 1 1] w fun x w' => InsD base w w' (.slice (some ⟨g, 0, none⟩) n cap) n i xs c4 x := by
  obtain ⟨iE, hiE, hzE, hzsE, hbyE⟩ := info_parts infoE
  have hgw : g < w.heap.size := (own_lt hown rfl).2
  have hnc : n ≤ cap := by
    rcases hown.2 with ⟨h1, h2⟩ | ⟨g, cap', cur, h1, h2, h3, h4, h5⟩
    · cases h1
    · injection h1 with _ h1 h3; omega
  have hxl : xs.length = n * 4 := hown.1
  have hsz : (Try.prog.info? 79).map (·.size) = some 4 := by kernel_rfl
  have hdl : (xs.drop (i * 4)).length = (n - i) * 4 := by rw [List.length_drop, hxl]; omega
  have hcell : ∀ j u, xs[j]? = some u → w.cell? ⟨g, j, none⟩ = some u := by
    intro j u hu
    have := hown.cells (g := g) rfl j u hu
    have e : (⟨g, 0, none⟩ : Addr).add j = ⟨g, j, none⟩ := by unfold Addr.add; split <;> simp_all
    rw [e] at this; exact this
  have hold : (Builtin.firstCells iE.size i (.slice (some ⟨g, 0, none⟩) i cap)).run Try.prog w.drew = .ok (xs.take (i * 4)).toArray w.drew := by
    rw [hzsE]
    exact run_firstCells_some w.drew 4 i ⟨g, 0, none⟩ i cap (xs.take (i * 4)) (by rw [List.length_take, hxl]; omega) (fun j u hj => by
      have e : (⟨g, 0, none⟩ : Addr).add j = ⟨g, j, none⟩ := by unfold Addr.add; split <;> simp_all
      rw [e]
      rw [List.getElem?_take] at hj
      split at hj
      · exact hcell j u hj
      · cases hj)
  obtain ⟨G, hG⟩ : ∃ G, G = grownCap w (n + 1) cap 79 := ⟨_, rfl⟩
  have hGn : n + 1 ≤ G := by rw [hG]; exact grownCap_ge w _ _ _
  have hmx : maxLen = 9223372036854775807 := by decide
  have hG63 : G ≤ maxLen := by rw [hG]; exact grownCap_le_maxLen w (n + 1) cap 79 (by omega)
  obtain ⟨zz, hzz⟩ : ∃ z, z = (Value.agg #[.string ⟨#[]⟩, .string ⟨#[]⟩, .int .i64 0, .slice none 0 0]) := ⟨_, rfl⟩
  have hzs4 : zz.cells.size = 4 := by rw [hzz]; rfl
  rw [← hzz] at hzE
  obtain ⟨ROW, hROW⟩ : ∃ ROW : Array Value, ROW = (xs.take (i * 4)).toArray ++ Builtin.zeroCells zz.cells (n + 1 - i) ++ Builtin.zeroCells zz.cells (G - (n + 1)) := ⟨_, rfl⟩
  have hkk : (n : Int) + 1 - (i : Int) = ((n + 1 - i : Nat) : Int) := by omega
  have hik : i + (n + 1 - i) = n + 1 := by omega
  have hrz : ∀ ty, (Builtin.append_ #[75, 3] ty #[.slice (some ⟨g, 0, none⟩) i cap, .int .i64 ((n : Int) + 1 - (i : Int))]).run Try.prog w = .ok (.slice (some ⟨w.heap.size, 0, none⟩) (n + 1) G) (w.drew.alloc (.cells ROW 79)) := fun ty => by
    have h := Lib.run_append_grow_zeros w 75 3 ty 79 iE zz .i64 .i64 Try.underlying75 Try.underlying3 hiE hzE (some ⟨g, 0, none⟩) i cap (xs.take (i * 4)) hold (n + 1 - i) (by omega) (by omega) (by omega) (by omega) (by rw [hbyE]; omega) (by rw [hbyE, hik]; exact growslice_fits hroom (by omega))
    rw [hik] at h
    rw [hkk, hROW, hG]
    exact h
  have hRl : ROW.toList.length = G * 4 := by
    rw [Array.length_toList, hROW, Array.size_append, Array.size_append, size_zeroCells, size_zeroCells, hzs4, List.size_toArray, List.length_take, hxl]; omega
  have hRt : ROW.toList.take (i * 4) = xs.take (i * 4) := by
    have hl : (xs.take (i * 4)).length = i * 4 := by rw [List.length_take, hxl]; omega
    rw [hROW, Array.toList_append, Array.toList_append, List.append_assoc, List.toList_toArray, List.take_append_of_le_length (by rw [hl]; exact Nat.le_refl _), List.take_take, Nat.min_self]
  obtain ⟨R2, hR2⟩ : ∃ R, R = (ROW.toList.take (i * 4) ++ c4 ++ ROW.toList.drop (i * 4 + c4.length)).toArray := ⟨_, rfl⟩
  obtain ⟨R3, hR3⟩ : ∃ R, R = (R2.toList.take ((i + 1) * 4) ++ xs.drop (i * 4) ++ R2.toList.drop ((i + 1) * 4 + (xs.drop (i * 4)).length)).toArray := ⟨_, rfl⟩
  have hR := grow_cells (R2 := R2.toList) (R3 := R3.toList) hRl hGn hi hRt hxl hc (by rw [hR2]) (by rw [hR3])
  obtain ⟨W1, hW1⟩ : ∃ W, W = w.drew.alloc (.cells ROW 79) := ⟨_, rfl⟩
  have hg1 : W1.heap[w.heap.size]? = some (.cells ROW 79 (0, 0)) := by rw [hW1]; exact heap_alloc_new w.drew _
  have hold1 : ∀ k, k < w.heap.size → W1.heap[k]? = w.heap[k]? := fun k hk => by rw [hW1]; exact Go.heap_alloc_old w.drew _ hk
  have hg2 := setRow_heap W1 w.heap.size ROW R2 79 (0, 0) hg1
  have hcpA : ∀ ty dc, (Builtin.copy_ #[75, 75] ty #[.slice (some ⟨w.heap.size, i * 4, none⟩) (n + 1 - i) dc, .slice (some ⟨vb, 0, none⟩) 1 1]).run Try.prog W1 = .ok (goInt (1 : Nat)) (W1.setRow w.heap.size R2) := fun ty dc => by
    have h := run_copy_rowK W1 75 75 ty 79 4 w.heap.size (i * 4) (n + 1 - i) dc ⟨vb, 0, none⟩ 1 1 ROW 79 c4 Try.underlying75 hsz hg1 (by rw [hc]; simp only [Nat.min_def]; split <;> omega)
      (fun j u hj => by
        have e : (⟨vb, 0, none⟩ : Addr).add j = ⟨vb, j, none⟩ := by unfold Addr.add; split <;> simp_all
        rw [e, World.cell?_of_block (w := w) (hold1 vb hvw)]
        exact hvs j u hj)
      (by rw [← Array.length_toList, hRl, hc]; omega) h1
    rw [← hR2] at h
    have em : Nat.min 1 (n + 1 - i) = 1 := by simp only [Nat.min_def]; split <;> omega
    rw [em] at h
    exact h
  have hcpB : ∀ ty dc sc, (Builtin.copy_ #[75, 75] ty #[.slice (some ⟨w.heap.size, (i + 1) * 4, none⟩) (n - i) dc, .slice (some ⟨g, i * 4, none⟩) (n - i) sc]).run Try.prog (W1.setRow w.heap.size R2).drew = .ok (goInt (n - i : Nat)) ((W1.setRow w.heap.size R2).drew.setRow w.heap.size R3) := fun ty dc sc => by
    have h := run_copy_rowK (W1.setRow w.heap.size R2).drew 75 75 ty 79 4 w.heap.size ((i + 1) * 4) (n - i) dc ⟨g, i * 4, none⟩ (n - i) sc R2 79 (xs.drop (i * 4)) Try.underlying75 hsz hg2 (by rw [hdl]; simp only [Nat.min_def]; split <;> omega)
      (fun j u hj => by
        have e : (⟨g, i * 4, none⟩ : Addr).add j = ⟨g, i * 4 + j, none⟩ := by unfold Addr.add; split <;> simp_all
        rw [e]
        rw [List.getElem?_drop] at hj
        have h2 : (W1.setRow w.heap.size R2).drew.heap[g]? = w.heap[g]? := by
          have h3 : (W1.setRow w.heap.size R2).heap[g]? = W1.heap[g]? := setRow_other W1 w.heap.size g R2 (by omega)
          rw [← hold1 g hgw, ← h3]; rfl
        rw [World.cell?_of_block (w := w) h2]
        exact hcell _ u hj)
      (by have := hR.1; rw [Array.length_toList] at this; rw [this, hdl]; omega) (fun u hu => h1x u (List.mem_of_mem_drop hu))
    rw [← hR3] at h
    have em : Nat.min (n - i) (n - i) = n - i := by simp
    rw [em] at h
    exact h
  have FIN : Hid (∀ x, x = Ending.returned (.slice (some ⟨w.heap.size, 0, none⟩) (n + 1) G) → InsD base w ((W1.setRow w.heap.size R2).drew.setRow w.heap.size R3) (.slice (some ⟨g, 0, none⟩) n cap) n i xs c4 x) := by
    rintro x rfl
    have hl3 : R3.size = G * 4 := by have := hR.2.1; rw [Array.length_toList] at this; exact this
    refine ⟨_, rfl, ⟨?_, .inr ⟨w.heap.size, G, R3, rfl, hb, setRow_heap (W1.setRow w.heap.size R2).drew w.heap.size R2 R3 79 (0, 0) hg2, hGn, hG63, hl3, hR.2.2⟩⟩, ⟨?_, ?_, ?_, ?_, fun k hk _ => ?_⟩, .inr rfl⟩
    · rw [List.length_append, List.length_append, List.length_take, hdl, hxl, hc]; omega
    · rw [hW1]; rfl
    · rw [hW1]; rfl
    · rw [hW1]; rfl
    · rw [hW1]; simp
    · have hne : k ≠ w.heap.size := by omega
      rw [setRow_other (W1.setRow w.heap.size R2).drew w.heap.size k R3 hne]
      have h3 : (W1.setRow w.heap.size R2).heap[k]? = W1.heap[k]? := setRow_other W1 w.heap.size k R2 hne
      rw [← hold1 k hk, ← h3]; rfl
  rw [← hW1] at hrz
  have hb1 : ¬ ((i : Int) = (n : Int)) := by omega
  have hb2 : (i : Int) ≤ (n : Int) := by omega
  have hb3 : (cap : Int) < (n : Int) + 1 := by omega
  have hb5 : ¬ (G = i + 1) := by omega
  have hb6 : (0 : Int) ≤ (i : Int) + 1 := by omega
  have hb7 : ¬ (cap = i) := by omega
  have hb8 : (i : Int) ≤ (n : Int) + 1 := by omega
  have hb9 : (i : Int) + 1 ≤ (n : Int) + 1 := by omega
  have hb10 : ¬ (G = i) := by omega
  have hcw1 : IntKind.i64.wrap ((i : Int) + 1) = (i : Int) + 1 := IntWalk.i64_in _ (by omega)
  have hcw2 : IntKind.i64.wrap ((n : Int) + 1) = (n : Int) + 1 := IntWalk.i64_in _ (by omega)
  clear hR2 hR3 hR hg1 hg2 hROW hRl hRt hW1 hold hkk hik hzz hzs4 hzE hold1 hcell hdl hG
  go_enter Try.func69, Try.ntmps69
  go_wp2_with (first
    | (at_builtin; refine Lib.wpList_append_run _ rfl _ _ _ _ rfl _ _ rfl rfl _ _ (hrz _) ?_)
    | (at_builtin; refine wpList_copy_run rfl (.tmp 43) (.tmp 44) 75 75 rfl _ _ rfl rfl (hcpA _ _) ?_))
  go_still_tail 8, (by kernel_rfl)
  change wpList _ _ _ _ _ (W1.setRow w.heap.size R2).drew
  go_wp2_with (at_builtin; refine wpList_copy_run rfl (.tmp 50) (.tmp 53) 75 75 rfl _ _ rfl rfl (hcpB _ _ _) ?_)
  go_ret
  exact FIN.out _ rfl
/-- Insert of one entry. -/
theorem insert_any (base : Nat) (v : Value) (n i : Nat) (xs c4 : List Value) (vb : Nat) (w : World) (hown : w.ownsRow base 79 4 v n xs) (hb : base ≤ w.heap.size) (hn : n ≤ 1000000) (hi : i ≤ n) (hc : c4.length = 4)
    (hvs : ∀ j u, c4[j]? = some u → w.cell? ⟨vb, j, none⟩ = some u) (h1 : ∀ u ∈ c4, u.oneCell' = true) (h1x : ∀ u ∈ xs, u.oneCell' = true) (hvb : v.ownBlock ≠ some vb) (hsa : w.shape? vb = some (79, 4)) (hfa : ∀ j, w.frozen? ⟨vb, j, none⟩ = false) (hvw : vb < w.heap.size) :
    Calls Try.prog 69 #[v, .int .i64 (i : Nat), .slice (some ⟨vb, 0, none⟩) 1 1] w fun x w' => InsD base w w' v n i xs c4 x := by
  by_cases h : i = n
  · subst h
    exact insert_end base v i xs c4 vb w hown hb hn hc hvs h1
  · obtain ⟨g, cap, rfl, -⟩ := own_form hown (by omega)
    by_cases hroom : n + 1 ≤ cap
    · exact insert_room base g cap n i xs c4 vb w hown hn (by omega) hroom hc hvs h1 h1x (fun e => hvb (by rw [e]; rfl)) hsa hfa
    · exact insert_grow base g cap n i xs c4 vb w hown hb hn (by omega) (by omega) hc hvs h1 h1x hvw
end Go.Proofs.Ytgbiimoednmlgaa
