/- A part of the proof: LdB, LdT, LdU, LdN, one behind another. -/
import Derived.Test.YtgbiimoednmlgaaMOA
import Derived.Test.YtgbiimoednmlgaaMOB
import Derived.Test.YtgbiimoednmlgaaMOC
/- The contracts of the search over entries, over accounts. -/
namespace Go.Proofs.Ytgbiimoednmlgaa
set_option linter.unusedVariables false
set_option linter.unusedSimpArgs false
open Go.RowKit
theorem entersL {P : Program} {g : FuncId} {f : Func} (h : P.funcs[g]? = some f) (hn : (f.name == "runtime.NumGoroutine") = false) (hb : f.body.isNone = false) : ∀ args w, (callFunc g args).run P w = .ok (.enter g args) w := by
  intro args w
  unfold callFunc
  rw [Sem.run_bind]
  show Result.andThen (Result.ok P w) _ = _
  rw [Result.andThen_ok]
  rw [h]
  simp only [hn, hb]
  rfl
set_option maxRecDepth 100000 in
set_option maxHeartbeats 4000000 in
theorem putf_any (e : Ent) (a : Acct) (w : World) : Calls Try.prog 68 #[.agg (entC e).toArray, .agg (acctC a).toArray] w fun x w' => x = .returned (.int .i64 (kcmp e.key a.key)) ∧ Below w.heap.size w w' := by
  have h1 := (Below.refl w.heap.size w).alloc (Nat.le_refl _) (.cells (entC e).toArray 79)
  have h2 := h1.alloc h1.size (.cells (acctC a).toArray 51)
  have BX := Lib.hid ((Mem.Blk.new w 79 (entC e).toArray).below ((Below.refl (w.alloc (.cells (entC e).toArray 79)).heap.size _).alloc (Nat.le_refl _) (.cells (acctC a).toArray 51)))
  have BY := Lib.hid (Mem.Blk.new (w.alloc (.cells (entC e).toArray 79)) 51 (acctC a).toArray)
  have HB := Lib.hid h2
  clear h1 h2
  show Calls Try.prog 68 #[.agg #[.string e.party, .string e.coin, .int .i64 0, e.av], .agg #[.string a.party, .string a.coin, .int .i64 a.amt]] w _
  go_enter Try.func68, Try.ntmps68
  go_upto_region 1 with (fail)
  have BX' : Hid (Mem.Blk ((w.alloc (.cells #[.string e.party, .string e.coin, .int .i64 0, e.av] 79)).alloc (.cells #[.string a.party, .string a.coin, .int .i64 a.amt] 51)) w.heap.size 79 (entC e).toArray) := BX.out
  have BY' : Hid (Mem.Blk ((w.alloc (.cells #[.string e.party, .string e.coin, .int .i64 0, e.av] 79)).alloc (.cells #[.string a.party, .string a.coin, .int .i64 a.amt] 51)) (w.alloc (.cells #[.string e.party, .string e.coin, .int .i64 0, e.av] 79)).heap.size 51 (acctC a).toArray) := BY.out
  have HB' : Hid (Below w.heap.size w ((w.alloc (.cells #[.string e.party, .string e.coin, .int .i64 0, e.av] 79)).alloc (.cells #[.string a.party, .string a.coin, .int .i64 a.amt] 51))) := HB.out
  clear BX BY HB
  have ez : (w.alloc (.cells #[.string e.party, .string e.coin, .int .i64 0, e.av] 79)).heap.size = w.heap.size + 1 := by simp
  rw [ez] at BY'
  clear ez
  generalize (w.alloc (.cells #[.string e.party, .string e.coin, .int .i64 0, e.av] 79)).alloc (.cells #[.string a.party, .string a.coin, .int .i64 a.amt] 51) = w1 at *
  have c0 : w1.cell? ⟨w.heap.size, 0, none⟩ = some (.string e.party) := BX'.out.cell 0
  have c1 : w1.cell? ⟨w.heap.size, 1, none⟩ = some (.string e.coin) := BX'.out.cell 1
  have c2 : w1.cell? ⟨w.heap.size, 2, none⟩ = some (.int .i64 0) := BX'.out.cell 2
  have d0 : w1.cell? ⟨w.heap.size + 1, 0, none⟩ = some (.string a.party) := BY'.out.cell 0
  have d1 : w1.cell? ⟨w.heap.size + 1, 1, none⟩ = some (.string a.coin) := BY'.out.cell 1
  have d2 : w1.cell? ⟨w.heap.size + 1, 2, none⟩ = some (.int .i64 a.amt) := BY'.out.cell 2
  have HO : Hid (Calls Try.prog 48 #[.agg #[.string e.party, .string e.coin, .int .i64 0], .agg #[.string a.party, .string a.coin, .int .i64 a.amt]] w1 _) := order_any ⟨e.party, e.coin, 0⟩ a w1
  have HK : Hid (kcmp (⟨e.party, e.coin, 0⟩ : Acct).key a.key = kcmp e.key a.key) := rfl
  rw [HK.out] at HO
  go_wp2_with fail
  go_at_call 48
  (with_reducible refine HO.out.mono ?_)
  rintro x w2 ⟨rfl, b2⟩
  have HB2 := Lib.hid (HB'.out.trans (b2.mono HB'.out.size))
  clear b2
  go_wp2_with fail
  go_ret
  exact ⟨rfl, HB2.out⟩
theorem cellUp {w w' : World} {a : Addr} {v : Value} (h : w.cell? a = some v) (b : Below w.heap.size w w') : w'.cell? a = some v := by
  rw [World.cell?_of_block (w := w) (b.block a.block (World.block_lt_of_cell? w a h))]; exact h
/-- Where the search stands. -/
structure SrSt {α : Type} (key : α → Ky) (l : List α) (t : Ky) (i j : Nat) : Prop where
  ij : i ≤ j
  jn : j ≤ l.length
  lo : ∀ x, 0 < i → l[i - 1]? = some x → kcmp (key x) t < 0
  hi : ∀ x, l[j]? = some x → ¬ kcmp (key x) t < 0
theorem SrSt.start {α : Type} (key : α → Ky) (l : List α) (t : Ky) : SrSt key l t 0 l.length := ⟨Nat.zero_le _, Nat.le_refl _, fun x h => absurd h (by omega), fun x h => by rw [List.getElem?_eq_none (Nat.le_refl _)] at h; cases h⟩
theorem SrSt.up {α : Type} {key : α → Ky} {l : List α} {t : Ky} {i j : Nat} (h : SrSt key l t i j) (hij : i < j) {x : α} (hx : l[(i + j) / 2]? = some x) (hc : kcmp (key x) t < 0) : SrSt key l t ((i + j) / 2 + 1) j :=
  ⟨by omega, h.jn, fun y _ hy => by rw [Nat.add_sub_cancel, hx] at hy; injection hy with hy; rw [← hy]; exact hc, h.hi⟩
theorem SrSt.down {α : Type} {key : α → Ky} {l : List α} {t : Ky} {i j : Nat} (h : SrSt key l t i j) (hij : i < j) {x : α} (hx : l[(i + j) / 2]? = some x) (hc : ¬ kcmp (key x) t < 0) : SrSt key l t i ((i + j) / 2) :=
  ⟨by omega, by have := h.jn; omega, h.lo, fun y hy => by rw [hx] at hy; injection hy with hy; rw [← hy]; exact hc⟩
theorem SrSt.fin {α : Type} {key : α → Ky} {l : List α} {t : Ky} {i j : Nat} (h : SrSt key l t i j) (hij : ¬ i < j) : AtK key l t i := by
  have e : i = j := by have := h.ij; omega
  subst e
  exact ⟨h.jn, h.lo, h.hi⟩
set_option maxRecDepth 100000 in
set_option maxHeartbeats 4000000 in
theorem searchE_any (base : Nat) (v : Value) (es : List Ent) (a : Acct) (w : World) (hE : EnAt base w v es) (hn : es.length ≤ 1000000) :
    Calls Try.prog 67 #[v, .agg (acctC a).toArray, .func (.func 68) #[] #[]] w fun x w' => (∃ i : Nat, x = .returned (.tuple #[.int .i64 (i : Nat), .bool (hitK Ent.key es a.key i)]) ∧ AtK Ent.key es a.key i) ∧ Below w.heap.size w w' := by
  have hal := (Below.refl w.heap.size w).alloc (Nat.le_refl _) (.cells (acctC a).toArray 51)
  have HB := Lib.hid hal
  have BX := Lib.hid (Mem.Blk.new w 51 (acctC a).toArray)
  have HE1 := Lib.hid (hE.below hal)
  have HN := Lib.hid hn
  have eg := entersL (P := Try.prog) Try.func68 (by kernel_rfl) rfl
  obtain ⟨av, cv, rfl⟩ := own_slice hE.row
  clear hal hE hn
  show Calls Try.prog 67 #[.slice av es.length cv, .agg #[.string a.party, .string a.coin, .int .i64 a.amt], .func (.func 68) #[] #[]] w _
  go_enter Try.func67, Try.ntmps67
  go_upto_region 1 with (fail)
  have HB' : Hid (Below w.heap.size w (w.alloc (.cells #[.string a.party, .string a.coin, .int .i64 a.amt] 51))) := HB.out
  have BX' : Hid (Mem.Blk (w.alloc (.cells #[.string a.party, .string a.coin, .int .i64 a.amt] 51)) w.heap.size 51 (acctC a).toArray) := BX.out
  have HE' : Hid (EnAt base (w.alloc (.cells #[.string a.party, .string a.coin, .int .i64 a.amt] 51)) (.slice av es.length cv) es) := HE1.out
  clear HB BX HE1
  generalize w.alloc (.cells #[.string a.party, .string a.coin, .int .i64 a.amt] 51) = w1 at *
  go_wp2_with fail
  go_loopw [9, 10] (fun x y wr => ∃ (i j : Nat), x = .int .i64 (i : Nat) ∧ y = .int .i64 (j : Nat) ∧ Hid (SrSt Ent.key es a.key i j ∧ Below w1.heap.size w1 wr)) (fun x y _ => (intOf y).toNat - (intOf x).toNat)
  case atStart => exact ⟨0, es.length, rfl, rfl, SrSt.start _ _ _, Below.refl _ _⟩
  case round =>
    obtain ⟨i, j, rfl, rfl, HS⟩ := hrel
    have BXR := Lib.hid (BX'.out.below HS.out.2)
    have HER := Lib.hid (HE'.out.below HS.out.2)
    have d0 : wr.cell? ⟨w.heap.size, 0, none⟩ = some (.string a.party) := BXR.out.cell 0
    have d1 : wr.cell? ⟨w.heap.size, 1, none⟩ = some (.string a.coin) := BXR.out.cell 1
    have d2 : wr.cell? ⟨w.heap.size, 2, none⟩ = some (.int .i64 a.amt) := BXR.out.cell 2
    have hjn : j ≤ 1000000 := by have := HS.out.1.jn; have := HN.out; omega
    have hij := HS.out.1.ij
    by_cases hlt : i < j
    · have hlt' : (i : Int) < (j : Int) := by omega
      obtain ⟨h, hh⟩ : ∃ h, h = (i + j) / 2 := ⟨_, rfl⟩
      have HH := Lib.hid hh
      have hw1 : IntKind.i64.wrap ((i : Int) + (j : Int)) = ((i + j : Nat) : Int) := by rw [IntWalk.i64_in _ (by omega)]; push_cast; rfl
      have hw2 : ((i + j : Nat) : Int) / 2 = (h : Int) := by omega
      have hw3 : ((i : Int) + (j : Int)) / 2 = (h : Int) := by omega
      have hhl : h < es.length := by have := HS.out.1.jn; omega
      obtain ⟨g, cap, e, hva, hx, c0, c1, c2, c3, -⟩ := HER.out.at h hhl
      injection hva with e1 _ e3
      subst e1; subst e3
      have HX := Lib.hid hx
      have HP : Hid (∀ W, Calls Try.prog 68 #[.agg #[.string e.party, .string e.coin, .int .i64 0, e.av], .agg #[.string a.party, .string a.coin, .int .i64 a.amt]] W _) := fun W => putf_any e a W
      obtain ⟨R, hR⟩ : ∃ R, R = kcmp e.key a.key := ⟨_, rfl⟩
      rw [← hR] at HP
      have HR := Lib.hid hR
      have hl0 : (h : Int) < (es.length : Int) := by omega
      have hl1 : (0 : Int) ≤ (h : Int) := by omega
      have hl2 : (h : Int) ≤ 1000000 := by omega
      clear hx hR hh hhl
      go_upto_region 5 with (fail)
      go_still_tail 6, (by kernel_rfl)
      change wpList _ _ _ _ _ wr.drew
      go_wp2_with fail
      go_at_call 68
      (with_reducible refine (HP.out _).mono ?_)
      rintro x w2 ⟨rfl, b2⟩
      have HB2 := Lib.hid (HS.out.2.trans (((Below.refl wr.heap.size wr).drew.trans b2).mono HS.out.2.size))
      clear b2 d0 d1 d2 c0 c1 c2 c3 HP
      by_cases hneg : R < 0
      · have HS2 := Lib.hid (HS.out.1.up hlt (by rw [← HH.out]; exact HX.out) (by rw [← HR.out]; exact hneg))
        rw [← HH.out] at HS2
        have HLT := Lib.hid hlt
        clear HS hlt
        go_wp2_with fail
        go_roundw
        case rel => exact ⟨h + 1, j, by go_num, rfl, HS2.out, HB2.out⟩
        case measure => simp [intOf]; have := HLT.out; have := HH.out; omega
      · have HS2 := Lib.hid (HS.out.1.down hlt (by rw [← HH.out]; exact HX.out) (by rw [← HR.out]; exact hneg))
        rw [← HH.out] at HS2
        have HLT := Lib.hid hlt
        clear HS hlt
        go_wp2_with fail
        go_roundw
        case rel => exact ⟨i, h, rfl, rfl, HS2.out, HB2.out⟩
        case measure => simp [intOf]; have := HLT.out; have := HH.out; omega
    · have hlt' : ¬ (i : Int) < (j : Int) := by omega
      have HF := Lib.hid (HS.out.1.fin hlt)
      have HB2 := Lib.hid (HB'.out.trans (HS.out.2.mono HB'.out.size))
      clear HS hlt
      by_cases hin : i < es.length
      · have hin' : (i : Int) < (es.length : Int) := by omega
        obtain ⟨g, cap, e, hva, hx, c0, c1, c2, c3, -⟩ := HER.out.at i hin
        injection hva with e1 _ e3
        subst e1; subst e3
        have HP : Hid (∀ W, Calls Try.prog 68 #[.agg #[.string e.party, .string e.coin, .int .i64 0, e.av], .agg #[.string a.party, .string a.coin, .int .i64 a.amt]] W _) := fun W => putf_any e a W
        obtain ⟨R, hR⟩ : ∃ R, R = kcmp e.key a.key := ⟨_, rfl⟩
        rw [← hR] at HP
        have HK : Hid (hitK Ent.key es a.key i = decide (R = 0)) := by
          show hitK _ _ _ _ = _
          unfold hitK
          rw [hx, hR]
        have hl1 : (0 : Int) ≤ (i : Int) := by omega
        have hl2 : (i : Int) ≤ 1000000 := by omega
        clear hx hR hin
        go_upto_region 8 with (fail)
        refine wp_region_till (S := fun W => W.cell? ⟨g, i * 4, none⟩ = some (.string e.party) ∧ W.cell? ⟨g, i * 4 + 1, none⟩ = some (.string e.coin) ∧ W.cell? ⟨g, i * 4 + 2, none⟩ = some (.int .i64 0) ∧ W.cell? ⟨g, i * 4 + 3, none⟩ = some e.av ∧ W.cell? ⟨w.heap.size, 0, none⟩ = some (.string a.party) ∧ W.cell? ⟨w.heap.size, 1, none⟩ = some (.string a.coin) ∧ W.cell? ⟨w.heap.size, 2, none⟩ = some (.int .i64 a.amt)) 11 (by kernel_rfl) ?_
        refine till_take (i := 1) (v := ?_) rfl (by kernel_rfl) (fun _ _ _ h => h) (Or.inl ⟨by rfl, ?_⟩) ⟨c0,c1,c2,c3,d0,d1,d2⟩ ?_
        rotate_left
        · intro W hS
          try dsimp only at hS
          go_split_ands
          go_simp
          try with_reducible rfl
        try simp only [Act.put, List.getElem_toArray, List.getElem_cons_zero, List.getElem_cons_succ, List.setIfInBounds_toArray, List.set_cons_zero, List.set_cons_succ]
        refine till_take (i := 2) (v := ?_) rfl (by kernel_rfl) (fun _ _ _ h => h) (Or.inl ⟨by rfl, ?_⟩) ⟨c0,c1,c2,c3,d0,d1,d2⟩ ?_
        rotate_left
        · intro W hS
          try dsimp only at hS
          go_split_ands
          go_simp
          try with_reducible rfl
        try simp only [Act.put, List.getElem_toArray, List.getElem_cons_zero, List.getElem_cons_succ, List.setIfInBounds_toArray, List.set_cons_zero, List.set_cons_succ]
        refine till_take (i := 3) (v := ?_) rfl (by kernel_rfl) (fun _ _ _ h => h) (Or.inl ⟨by rfl, ?_⟩) ⟨c0,c1,c2,c3,d0,d1,d2⟩ ?_
        rotate_left
        · intro W hS
          try dsimp only at hS
          go_split_ands
          go_simp
          try with_reducible rfl
        try simp only [Act.put, List.getElem_toArray, List.getElem_cons_zero, List.getElem_cons_succ, List.setIfInBounds_toArray, List.set_cons_zero, List.set_cons_succ]
        refine till_take (i := 4) (v := ?_) rfl (by kernel_rfl) (fun _ _ _ h => h) (Or.inl ⟨by rfl, ?_⟩) ⟨c0,c1,c2,c3,d0,d1,d2⟩ ?_
        rotate_left
        · intro W hS
          try dsimp only at hS
          go_split_ands
          go_simp
          try with_reducible rfl
        try simp only [Act.put, List.getElem_toArray, List.getElem_cons_zero, List.getElem_cons_succ, List.setIfInBounds_toArray, List.set_cons_zero, List.set_cons_succ]
        refine till_take (i := 5) (v := ?_) rfl (by kernel_rfl) (fun _ _ _ h => h) (Or.inl ⟨by rfl, ?_⟩) ⟨c0,c1,c2,c3,d0,d1,d2⟩ ?_
        rotate_left
        · intro W hS
          try dsimp only at hS
          go_split_ands
          go_simp
          try with_reducible rfl
        try simp only [Act.put, List.getElem_toArray, List.getElem_cons_zero, List.getElem_cons_succ, List.setIfInBounds_toArray, List.set_cons_zero, List.set_cons_succ]
        refine till_take (i := 6) (v := ?_) rfl (by kernel_rfl) (fun _ _ _ h => h) (Or.inl ⟨by rfl, ?_⟩) ⟨c0,c1,c2,c3,d0,d1,d2⟩ ?_
        rotate_left
        · intro W hS
          try dsimp only at hS
          go_split_ands
          go_simp
          try with_reducible rfl
        try simp only [Act.put, List.getElem_toArray, List.getElem_cons_zero, List.getElem_cons_succ, List.setIfInBounds_toArray, List.set_cons_zero, List.set_cons_succ]
        refine till_take (i := 7) (v := ?_) rfl (by kernel_rfl) (fun _ _ _ h => h) (Or.inl ⟨by rfl, ?_⟩) ⟨c0,c1,c2,c3,d0,d1,d2⟩ ?_
        rotate_left
        · intro W hS
          try dsimp only at hS
          go_split_ands
          go_simp
          try with_reducible rfl
        try simp only [Act.put, List.getElem_toArray, List.getElem_cons_zero, List.getElem_cons_succ, List.setIfInBounds_toArray, List.set_cons_zero, List.set_cons_succ]
        refine till_take (i := 8) (v := ?_) rfl (by kernel_rfl) (fun _ _ _ h => h) (Or.inl ⟨by rfl, ?_⟩) ⟨c0,c1,c2,c3,d0,d1,d2⟩ ?_
        rotate_left
        · intro W hS
          try dsimp only at hS
          go_split_ands
          go_simp
          try with_reducible rfl
        try simp only [Act.put, List.getElem_toArray, List.getElem_cons_zero, List.getElem_cons_succ, List.setIfInBounds_toArray, List.set_cons_zero, List.set_cons_succ]
        refine till_take (i := 9) (v := ?_) rfl (by kernel_rfl) (fun _ _ _ h => h) (Or.inl ⟨by rfl, ?_⟩) ⟨c0,c1,c2,c3,d0,d1,d2⟩ ?_
        rotate_left
        · intro W hS
          try dsimp only at hS
          go_split_ands
          go_simp
          try with_reducible rfl
        try simp only [Act.put, List.getElem_toArray, List.getElem_cons_zero, List.getElem_cons_succ, List.setIfInBounds_toArray, List.set_cons_zero, List.set_cons_succ]
        refine till_take (i := 10) (v := ?_) rfl (by kernel_rfl) (fun _ _ _ h => h) (Or.inl ⟨by rfl, ?_⟩) ⟨c0,c1,c2,c3,d0,d1,d2⟩ ?_
        rotate_left
        · intro W hS
          try dsimp only at hS
          go_split_ands
          go_simp
          try with_reducible rfl
        try simp only [Act.put, List.getElem_toArray, List.getElem_cons_zero, List.getElem_cons_succ, List.setIfInBounds_toArray, List.set_cons_zero, List.set_cons_succ]
        refine till_two (i := 0) (j := 11) (by kernel_rfl) rfl rfl (fun K' hK => ?_) (fun K' hK => ?_)
        · go_simp
          refine hK _ _ ⟨c0,c1,c2,c3,d0,d1,d2⟩ ?_
          clear hK K'
          try simp only [Act.put, List.getElem_toArray, List.getElem_cons_zero, List.getElem_cons_succ, List.setIfInBounds_toArray, List.set_cons_zero, List.set_cons_succ]
          refine till_last (by kernel_rfl) rfl (by kernel_rfl) (fun K' hK => ?_)
          go_simp
          (with_reducible refine (HP.out _).mono ?_)
          rintro x w2 ⟨rfl, b2⟩
          have HB3 := Lib.hid (HB2.out.trans (((Below.refl wr.heap.size wr).drew.trans b2).mono HB2.out.size))
          refine hK _ _ ?_
          clear hK K'
          try simp only [Act.put, List.getElem_toArray, List.getElem_cons_zero, List.getElem_cons_succ, List.setIfInBounds_toArray, List.set_cons_zero, List.set_cons_succ]
          clear b2 d0 d1 d2 c0 c1 c2 c3 HP
          refine any_take (i := 12) (v := ?_) rfl (by kernel_rfl) (fun _ _ _ h => h) (Or.inl ⟨by rfl, ?_⟩) ?_
          rotate_left
          · intro W
            go_simp
            try with_reducible rfl
          try simp only [Act.put, List.getElem_toArray, List.getElem_cons_zero, List.getElem_cons_succ, List.setIfInBounds_toArray, List.set_cons_zero, List.set_cons_succ]
          refine any_take (i := 13) (v := ?_) rfl (by kernel_rfl) (fun _ _ _ h => h) (Or.inl ⟨by rfl, ?_⟩) ?_
          rotate_left
          · intro W
            go_simp
            try with_reducible rfl
          try simp only [Act.put, List.getElem_toArray, List.getElem_cons_zero, List.getElem_cons_succ, List.setIfInBounds_toArray, List.set_cons_zero, List.set_cons_succ]
          refine any_take (i := 14) (v := ?_) rfl (by kernel_rfl) (fun _ _ _ h => h) (Or.inl ⟨by rfl, ?_⟩) ?_
          rotate_left
          · intro W
            go_simp
            try with_reducible rfl
          try simp only [Act.put, List.getElem_toArray, List.getElem_cons_zero, List.getElem_cons_succ, List.setIfInBounds_toArray, List.set_cons_zero, List.set_cons_succ]
          refine any_take (i := 15) (v := ?_) rfl (by kernel_rfl) (fun _ _ _ h => h) (Or.inl ⟨by rfl, ?_⟩) ?_
          rotate_left
          · intro W
            go_simp
            try with_reducible rfl
          try simp only [Act.put, List.getElem_toArray, List.getElem_cons_zero, List.getElem_cons_succ, List.setIfInBounds_toArray, List.set_cons_zero, List.set_cons_succ]
          refine wpAny_done (by kernel_rfl) ?_ _
          go_wp2_with fail
          go_ret2
          exact ⟨⟨i, by rw [HK.out]; rfl, HF.out⟩, HB3.out⟩
        · go_simp
          (with_reducible refine (HP.out _).mono ?_)
          rintro x w2 ⟨rfl, b2⟩
          have HB3 := Lib.hid (HB2.out.trans (((Below.refl wr.heap.size wr).drew.trans b2).mono HB2.out.size))
          have b3 := (Below.refl wr.heap.size wr).drew.trans b2
          refine hK _ _ ⟨cellUp c0 b3, cellUp c1 b3, cellUp c2 b3, cellUp c3 b3, cellUp d0 b3, cellUp d1 b3, cellUp d2 b3⟩ ?_
          clear hK K'
          try simp only [Act.put, List.getElem_toArray, List.getElem_cons_zero, List.getElem_cons_succ, List.setIfInBounds_toArray, List.set_cons_zero, List.set_cons_succ]
          clear b2 b3 d0 d1 d2 c0 c1 c2 c3 HP
          refine till_of_any _ _ _ _ (by kernel_rfl) ?_
          refine any_take (i := 0) (v := ?_) rfl (by kernel_rfl) (fun _ _ _ h => h) (Or.inl ⟨by rfl, ?_⟩) ?_
          rotate_left
          · intro W
            go_simp
            try with_reducible rfl
          try simp only [Act.put, List.getElem_toArray, List.getElem_cons_zero, List.getElem_cons_succ, List.setIfInBounds_toArray, List.set_cons_zero, List.set_cons_succ]
          refine any_take (i := 12) (v := ?_) rfl (by kernel_rfl) (fun _ _ _ h => h) (Or.inl ⟨by rfl, ?_⟩) ?_
          rotate_left
          · intro W
            go_simp
            try with_reducible rfl
          try simp only [Act.put, List.getElem_toArray, List.getElem_cons_zero, List.getElem_cons_succ, List.setIfInBounds_toArray, List.set_cons_zero, List.set_cons_succ]
          refine any_take (i := 13) (v := ?_) rfl (by kernel_rfl) (fun _ _ _ h => h) (Or.inl ⟨by rfl, ?_⟩) ?_
          rotate_left
          · intro W
            go_simp
            try with_reducible rfl
          try simp only [Act.put, List.getElem_toArray, List.getElem_cons_zero, List.getElem_cons_succ, List.setIfInBounds_toArray, List.set_cons_zero, List.set_cons_succ]
          refine any_take (i := 14) (v := ?_) rfl (by kernel_rfl) (fun _ _ _ h => h) (Or.inl ⟨by rfl, ?_⟩) ?_
          rotate_left
          · intro W
            go_simp
            try with_reducible rfl
          try simp only [Act.put, List.getElem_toArray, List.getElem_cons_zero, List.getElem_cons_succ, List.setIfInBounds_toArray, List.set_cons_zero, List.set_cons_succ]
          refine any_take (i := 15) (v := ?_) rfl (by kernel_rfl) (fun _ _ _ h => h) (Or.inl ⟨by rfl, ?_⟩) ?_
          rotate_left
          · intro W
            go_simp
            try with_reducible rfl
          try simp only [Act.put, List.getElem_toArray, List.getElem_cons_zero, List.getElem_cons_succ, List.setIfInBounds_toArray, List.set_cons_zero, List.set_cons_succ]
          refine wpAny_done (by kernel_rfl) ?_ _
          go_wp2_with fail
          go_ret2
          exact ⟨⟨i, by rw [HK.out]; rfl, HF.out⟩, HB3.out⟩
      · have hin' : decide ((i : Int) < (es.length : Int)) = false := decide_eq_false (by omega)
        have hin2 : decide (i < es.length) = false := decide_eq_false hin
        have HK : Hid (hitK Ent.key es a.key i = false) := by
          show hitK _ _ _ _ = _
          unfold hitK
          rw [List.getElem?_eq_none (by omega)]
        clear hin
        go_upto_region 8 with (fail)
        go_quiet (fail)
        have HB3 := Lib.hid (HB2.out.trans ((below_dN (Below.refl wr.heap.size wr) nq).mono HB2.out.size))
        go_wp2_with fail
        go_ret2
        exact ⟨⟨i, by rw [HK.out]; rfl, HF.out⟩, HB3.out⟩
end Go.Proofs.Ytgbiimoednmlgaa

/- The contract of put. -/
namespace Go.Proofs.Ytgbiimoednmlgaa
set_option linter.unusedVariables false
set_option linter.unusedSimpArgs false
open Go.RowKit
theorem infoI : (Try.prog.info? 2).map (fun i => (i.zero, i.size, i.bytes)) = some (some (.int .i64 0), 1, 8) := by kernel_rfl
theorem own_grown {w w' : World} {base : Nat} {e : TypeId} {sz n : Nat} {v u : Value} {xs : List Value} (h : w.ownsRow base e sz v n xs) (g : w.grownBy w' u.ownBlock) (hne : ∀ k, v.ownBlock = some k → u.ownBlock ≠ some k) : w'.ownsRow base e sz v n xs :=
  h.kept g (by
    cases hv : v.ownBlock with
    | none => exact .inl rfl
    | some k => exact .inr (fun e => hne k hv e.symm))
theorem entR_one4 (es : List Ent) : ∀ u ∈ entR es, (∀ e ∈ es, e.av.oneCell' = true) → u.oneCell' = true := by
  intro u hu hav
  unfold entR at hu
  obtain ⟨c, hc, hu⟩ := List.mem_flatten.1 hu
  obtain ⟨e, he, rfl⟩ := List.mem_map.1 hc
  simp only [entC, List.mem_cons, List.not_mem_nil, or_false] at hu
  rcases hu with rfl | rfl | rfl | rfl
  · simp [Value.oneCell']
  · simp [Value.oneCell']
  · simp [Value.oneCell']
  · exact hav e he
theorem EnAt.av1 {base : Nat} {w : World} {v : Value} {es : List Ent} (h : EnAt base w v es) : ∀ e ∈ es, e.av.oneCell' = true := by
  intro e he
  obtain ⟨j, hj⟩ := List.getElem?_of_mem he
  obtain ⟨a, c, e1⟩ := own_slice (h.each j e hj)
  rw [e1]; simp [Value.oneCell']
theorem entR_ins (es : List Ent) (i : Nat) (hi : i ≤ es.length) (e : Ent) : (entR es).take (i * 4) ++ entC e ++ (entR es).drop (i * 4) = entR (insI es i e) := by
  unfold insI
  rw [entR_take, entR_drop es i hi, entR_append, show e :: es.drop i = [e] ++ es.drop i from rfl, entR_append, entR_one, List.append_assoc]
theorem insI_at {es : List Ent} {i : Nat} {e : Ent} (hi : i ≤ es.length) (j : Nat) : (insI es i e)[j]? = if j < i then es[j]? else if j = i then some e else es[j - 1]? := by
  unfold insI
  have hl : (es.take i).length = i := by rw [List.length_take, Nat.min_eq_left hi]
  by_cases h1 : j < i
  · rw [if_pos h1, List.getElem?_append_left (by rw [hl]; exact h1), List.getElem?_take, if_pos h1]
  · rw [if_neg h1, List.getElem?_append_right (by rw [hl]; omega), hl]
    by_cases h2 : j = i
    · rw [if_pos h2, h2, Nat.sub_self]; rfl
    · rw [if_neg h2]
      obtain ⟨k, hk⟩ : ∃ k, j - i = k + 1 := ⟨j - i - 1, by omega⟩
      rw [hk, List.getElem?_cons_succ, List.getElem?_drop]
      congr 1; omega
/-- A new entry, of no amounts yet. -/
theorem EnAt.ins {base : Nat} {w w' : World} {v v' : Value} {es : List Ent} {i : Nat} {p c : ByteArray} (h : EnAt base w v es) (hi : i ≤ es.length) (hp : p.size ≤ maxLen ∧ c.size ≤ maxLen)
    (ho : w'.ownsRow base 79 4 v' (es.length + 1) ((entR es).take (i * 4) ++ entC ⟨p, c, [], .slice none 0 0⟩ ++ (entR es).drop (i * 4))) (hg : w.grownBy w' v.ownBlock) : EnAt base w' v' (insI es i ⟨p, c, [], .slice none 0 0⟩) := by
  have hat : ∀ (j : Nat) e, (insI es i ⟨p, c, [], .slice none 0 0⟩)[j]? = some e → e = ⟨p, c, [], .slice none 0 0⟩ ∨ ∃ k, es[k]? = some e ∧ k = (if j < i then j else j - 1) ∧ j ≠ i := by
    intro j e hj
    rw [insI_at hi] at hj
    by_cases h1 : j < i
    · rw [if_pos h1] at hj
      exact .inr ⟨j, hj, by rw [if_pos h1], by omega⟩
    · rw [if_neg h1] at hj
      by_cases h2 : j = i
      · rw [if_pos h2] at hj; injection hj with hj; exact .inl hj.symm
      · rw [if_neg h2] at hj
        exact .inr ⟨j - 1, hj, by rw [if_neg h1], h2⟩
  refine ⟨?_, fun j e hj => ?_, fun j k e f hjk hj hk g hg1 hg2 => ?_, fun e he => ?_⟩
  · rw [insI_len _ _ _ hi, ← entR_ins es i hi]; exact ho
  · rcases hat j e hj with rfl | ⟨k, hk, -⟩
    · exact World.ownsRow_nil _ _ _ _
    · have h1 := h.each k e hk
      refine own_grown h1 hg (fun g hgv hgv2 => ?_)
      exact row_ne h1 h.row (by decide) hgv hgv2
  · rcases hat j e hj with rfl | ⟨a, ha, ha1, ha2⟩
    · cases hg1
    · rcases hat k f hk with rfl | ⟨b, hb, hb1, hb2⟩
      · cases hg2
      · refine h.apart a b e f ?_ ha hb g hg1 hg2
        rw [ha1, hb1]
        split <;> split <;> omega
  · rcases mem_insI.1 he with rfl | he
    · exact hp
    · exact h.siz e he
theorem entR_set {es : List Ent} {k : Nat} {e : Ent} (he : es[k]? = some e) (all : List Int) (u : Value) : (entR es).set (k * 4 + 3) u = entR (es.set k ⟨e.party, e.coin, all, u⟩) := by
  have hk := (List.getElem?_eq_some_iff.1 he).1
  refine List.ext_getElem? (fun j => ?_)
  rw [List.getElem?_set]
  by_cases hj : j < (entR es).length
  · have hq : j / 4 < es.length := by rw [entR_len] at hj; omega
    have hx : es[j / 4]? = some (es[j / 4]'hq) := List.getElem?_eq_getElem hq
    have hjj : j = j / 4 * 4 + j % 4 := by omega
    by_cases h1 : k = j / 4
    · have hx2 : (es.set k ⟨e.party, e.coin, all, u⟩)[j / 4]? = some ⟨e.party, e.coin, all, u⟩ := by rw [List.getElem?_set, if_pos h1, if_pos hk]
      have e1 : (entR (es.set k ⟨e.party, e.coin, all, u⟩))[j]? = (entC ⟨e.party, e.coin, all, u⟩)[j % 4]? := by
        conv => lhs; rw [hjj]
        exact entR_at _ hx2 (j % 4) (by omega)
      have e2 : (entR es)[j]? = (entC e)[j % 4]? := by
        conv => lhs; rw [hjj]
        exact entR_at _ (by rw [← h1]; exact he) (j % 4) (by omega)
      rw [e1, e2]
      by_cases h2 : k * 4 + 3 = j
      · have : j % 4 = 3 := by omega
        rw [if_pos h2, if_pos (by omega), this]; rfl
      · rw [if_neg h2]
        have h4 : j % 4 = 0 ∨ j % 4 = 1 ∨ j % 4 = 2 := by omega
        rcases h4 with h4 | h4 | h4 <;> rw [h4] <;> rfl
    · have hx2 : (es.set k ⟨e.party, e.coin, all, u⟩)[j / 4]? = some (es[j / 4]'hq) := by rw [List.getElem?_set, if_neg h1]; exact hx
      have e1 : (entR (es.set k ⟨e.party, e.coin, all, u⟩))[j]? = (entC (es[j / 4]'hq))[j % 4]? := by
        conv => lhs; rw [hjj]
        exact entR_at _ hx2 (j % 4) (by omega)
      have e2 : (entR es)[j]? = (entC (es[j / 4]'hq))[j % 4]? := by
        conv => lhs; rw [hjj]
        exact entR_at _ hx (j % 4) (by omega)
      rw [e1, e2, if_neg (by omega)]
  · rw [List.getElem?_eq_none (l := entR es) (by omega), List.getElem?_eq_none (l := entR _) (by rw [entR_len, List.length_set, ← entR_len]; omega)]
    split
    · rename_i h2
      rw [if_neg (by omega)]
    · rfl
/-- One amount more at an entry. -/
theorem EnAt.more {base g cap : Nat} {w w' : World} {es : List Ent} {k : Nat} {e : Ent} {n : Int} {av' : Value} (h : EnAt base w (.slice (some ⟨g, 0, none⟩) es.length cap) es) (he : es[k]? = some e)
    (ho : w'.ownsRow base 2 1 av' (e.all.length + 1) (intC e.all ++ [.int .i64 n])) (hg : w.grownBy w' e.av.ownBlock) (hv : av'.ownBlock = e.av.ownBlock ∨ av'.ownBlock = some w.heap.size) :
    EnAt base (w'.setCell ⟨g, k * 4 + 3, none⟩ av') (.slice (some ⟨g, 0, none⟩) es.length cap) (es.set k ⟨e.party, e.coin, e.all ++ [n], av'⟩) := by
  have hk := (List.getElem?_eq_some_iff.1 he).1
  have hne1 : ∀ x, (Value.slice (some ⟨g, 0, none⟩) es.length cap).ownBlock = some x → e.av.ownBlock ≠ some x := fun x hx => row_ne h.row (h.each k e he) (by decide) hx
  have hrow' := own_grown h.row hg hne1
  have hst := (hrow'.stored (k * 4 + 3) av').1
  have hset : ∀ {n' : Nat} {u : Value} {xs : List Value}, w'.ownsRow base 2 1 u n' xs → (w'.setCell ⟨g, k * 4 + 3, none⟩ av').ownsRow base 2 1 u n' xs := by
    intro n' u xs hu
    refine ownsRow_setCell_other hu ?_ av'
    intro hx
    exact row_ne hu hrow' (by decide) hx rfl
  have hold : ∀ (j : Nat) f, j ≠ k → es[j]? = some f → w'.ownsRow base 2 1 f.av f.all.length (intC f.all) := by
    intro j f hjk hj
    refine own_grown (h.each j f hj) hg (fun x hx hx2 => ?_)
    exact h.apart j k f e hjk hj he x hx hx2
  have hat : ∀ (j : Nat) f, (es.set k ⟨e.party, e.coin, e.all ++ [n], av'⟩)[j]? = some f → (j = k ∧ f = ⟨e.party, e.coin, e.all ++ [n], av'⟩) ∨ (j ≠ k ∧ es[j]? = some f) := by
    intro j f hj
    rw [List.getElem?_set] at hj
    by_cases h1 : k = j
    · rw [if_pos h1, if_pos hk] at hj
      injection hj with hj
      exact .inl ⟨h1.symm, hj.symm⟩
    · rw [if_neg h1] at hj
      exact .inr ⟨fun e => h1 e.symm, hj⟩
  refine ⟨?_, fun j f hj => ?_, fun i j f1 f2 hij hi hj x hx1 hx2 => ?_, fun f hf => ?_⟩
  · rw [List.length_set, ← entR_set he (e.all ++ [n]) av']
    exact hst
  · rcases hat j f hj with ⟨-, rfl⟩ | ⟨hjk, hj⟩
    · have e1 : intC (e.all ++ [n]) = intC e.all ++ [.int .i64 n] := by unfold intC; rw [List.map_append]; rfl
      show (w'.setCell _ _).ownsRow base 2 1 av' (e.all ++ [n]).length (intC (e.all ++ [n]))
      rw [e1, List.length_append]
      exact hset ho
    · exact hset (hold j f hjk hj)
  · have key : ∀ (j : Nat) f, j ≠ k → es[j]? = some f → ∀ x, av'.ownBlock = some x → f.av.ownBlock ≠ some x := by
      intro j f hjk hj x h1 h2
      rcases hv with h3 | h3
      · exact h.apart j k f e hjk hj he x h2 (by rw [← h3]; exact h1)
      · have h4 := (own_lt (h.each j f hj) h2).2
        rw [h3] at h1; injection h1 with h1
        omega
    rcases hat i f1 hi with ⟨hi1, rfl⟩ | ⟨hik, hi⟩
    · rcases hat j f2 hj with ⟨hj1, rfl⟩ | ⟨hjk, hj⟩
      · exact hij (hi1.trans hj1.symm)
      · exact key j f2 hjk hj x hx1 hx2
    · rcases hat j f2 hj with ⟨hj1, rfl⟩ | ⟨hjk, hj⟩
      · exact key i f1 hik hi x hx2 hx1
      · exact h.apart i j f1 f2 hij hi hj x hx1 hx2
  · obtain ⟨j, hj⟩ := List.getElem?_of_mem hf
    rcases hat j f hj with ⟨-, rfl⟩ | ⟨hjk, hj⟩
    · exact h.siz e (List.mem_of_getElem? he)
    · exact h.siz f (List.mem_of_getElem? hj)
end Go.Proofs.Ytgbiimoednmlgaa

/- The contract of put: the walk. -/
namespace Go.Proofs.Ytgbiimoednmlgaa
set_option linter.unusedVariables false
set_option linter.unusedSimpArgs false
open Go.RowKit
/-- What put gives. -/
def PutD (es : List Ent) (a : Acct) (es' : List Ent) : Prop := ∃ i, AtK Ent.key es a.key i ∧ ((hitK Ent.key es a.key i = true ∧ ∃ e av', es[i]? = some e ∧ es' = es.set i ⟨e.party, e.coin, e.all ++ [a.amt], av'⟩) ∨ (hitK Ent.key es a.key i = false ∧ ∃ av', es' = insI es i ⟨a.party, a.coin, [a.amt], av'⟩))
theorem insI_set {es : List Ent} {i : Nat} (hi : i ≤ es.length) (x y : Ent) : (insI es i x).set i y = insI es i y := by
  refine List.ext_getElem? (fun j => ?_)
  rw [List.getElem?_set, insI_at hi, insI_at hi, insI_len _ _ _ hi]
  by_cases h : i = j
  · subst h
    rw [if_pos rfl, if_pos (by omega), if_neg (by omega), if_pos rfl]
  · rw [if_neg h]
    split
    · rfl
    · rw [if_neg (fun e => h e.symm), if_neg (fun e => h e.symm)]
/-- A row of another type doesn't lie in the block. -/
theorem blkRow {w : World} {g base sz n : Nat} {t e : TypeId} {cs : Array Value} {v : Value} {xs : List Value} (h : Mem.Blk w g t cs) (h' : w.ownsRow base e sz v n xs) (ht : t ≠ e) (hg : v.ownBlock = some g) : False := by
  rcases h'.2 with ⟨rfl, _⟩ | ⟨a, cap, cur, rfl, _, h1, _⟩
  · cases hg
  · simp only [Value.ownBlock, Option.some.injEq] at hg
    rw [hg] at h1
    unfold Mem.Blk at h
    rw [h] at h1
    injection h1 with h1
    injection h1 with _ h1
    exact ht h1
/-- Blocks of other types stay. -/
def OTH (w w' : World) : Prop := ∀ g t cs, Mem.Blk w g t cs → t ≠ 79 → t ≠ 2 → Mem.Blk w' g t cs
theorem OTH.of_below {w w' : World} (b : Below w.heap.size w w') : OTH w w' := fun _ _ _ h _ _ => h.below b
theorem OTH.trans {w w' w'' : World} (h : OTH w w') (k : OTH w' w'') : OTH w w'' := fun g t cs hb h1 h2 => k g t cs (h g t cs hb h1 h2) h1 h2
theorem OTH.grown {w w' : World} {base sz n : Nat} {e : TypeId} {v u : Value} {xs : List Value} (ho : w.ownsRow base e sz v n xs) (he : e = 79 ∨ e = 2) (g : w.grownBy w' u.ownBlock) (hu : u.ownBlock = v.ownBlock) : OTH w w' := by
  intro k t cs h h1 h2
  have hne : v.ownBlock ≠ some k := fun e2 => blkRow h ho (by rcases he with rfl | rfl; exact h1; exact h2) e2
  have hb := g.block k h.lt (fun e => by rw [hu] at e; exact hne e.symm)
  unfold Mem.Blk at h ⊢
  rw [hb]; exact h
theorem OTH.set {w : World} {base sz n g cap : Nat} {e : TypeId} {xs : List Value} (ho : w.ownsRow base e sz (.slice (some ⟨g, 0, none⟩) n cap) n xs) (he : e = 79 ∨ e = 2) (j : Nat) (u : Value) : OTH w (w.setCell ⟨g, j, none⟩ u) :=
  OTH.grown (u := .slice (some ⟨g, 0, none⟩) n cap) ho he (ho.stored j u).2 rfl
set_option maxRecDepth 100000 in
set_option maxHeartbeats 4000000 in
theorem put_any (base : Nat) (v : Value) (es : List Ent) (a : Acct) (w : World) (hE : EnAt base w v es) (hb : base ≤ w.heap.size) (hn : es.length ≤ 900000) (hall : ∀ e ∈ es, e.all.length ≤ 900000) (ha : a.party.size ≤ maxLen ∧ a.coin.size ≤ maxLen) :
    Calls Try.prog 36 #[v, .agg (acctC a).toArray] w fun x w' => (∃ v' es', x = .returned v' ∧ EnAt base w' v' es' ∧ PutD es a es') ∧ Below base w w' ∧ OTH w w' := by
  have hal := (Below.refl w.heap.size w).alloc (Nat.le_refl _) (.cells (acctC a).toArray 51)
  have HB := Lib.hid hal
  have BX := Lib.hid (Mem.Blk.new w 51 (acctC a).toArray)
  have HE1 := Lib.hid (hE.below hal)
  have HN := Lib.hid hn
  have HALL := Lib.hid hall
  have HBA := Lib.hid hb
  have HA := Lib.hid ha
  clear hal hE hn hb ha hall
  show Calls Try.prog 36 #[v, .agg #[.string a.party, .string a.coin, .int .i64 a.amt]] w _
  go_enter Try.func36, Try.ntmps36
  go_upto_region 1 with (fail)
  have HB' : Hid (Below w.heap.size w (w.alloc (.cells #[.string a.party, .string a.coin, .int .i64 a.amt] 51))) := HB.out
  have BX' : Hid (Mem.Blk (w.alloc (.cells #[.string a.party, .string a.coin, .int .i64 a.amt] 51)) w.heap.size 51 (acctC a).toArray) := BX.out
  have HE' : Hid (EnAt base (w.alloc (.cells #[.string a.party, .string a.coin, .int .i64 a.amt] 51)) v es) := HE1.out
  clear HB BX HE1
  obtain ⟨zb, hzb⟩ : ∃ z, z = w.heap.size := ⟨_, rfl⟩
  have HZB := Lib.hid hzb
  rw [← hzb] at BX' ⊢
  clear hzb
  generalize w.alloc (.cells #[.string a.party, .string a.coin, .int .i64 a.amt] 51) = w1 at *
  have d0 : w1.cell? ⟨zb, 0, none⟩ = some (.string a.party) := BX'.out.cell 0
  have d1 : w1.cell? ⟨zb, 1, none⟩ = some (.string a.coin) := BX'.out.cell 1
  have d2 : w1.cell? ⟨zb, 2, none⟩ = some (.int .i64 a.amt) := BX'.out.cell 2
  have HSR : Hid (Calls Try.prog 67 #[v, .agg #[.string a.party, .string a.coin, .int .i64 a.amt], .func (.func 68) #[] #[]] w1 _) := searchE_any base v es a w1 HE'.out (by have := HN.out; omega)
  go_wp2_with fail
  go_at_call 67
  (with_reducible refine HSR.out.mono ?_)
  rintro x w2 ⟨⟨i, rfl, hat⟩, b2⟩
  have HAT := Lib.hid hat
  have HB2 := Lib.hid (HB'.out.trans (b2.mono HB'.out.size))
  have HE2 := Lib.hid (HE'.out.below b2)
  have BX2 := Lib.hid (BX'.out.below b2)
  clear b2 d0 d1 d2 HSR HB' HE' BX' hat
  have d0 : w2.cell? ⟨zb, 0, none⟩ = some (.string a.party) := BX2.out.cell 0
  have d1 : w2.cell? ⟨zb, 1, none⟩ = some (.string a.coin) := BX2.out.cell 1
  have d2 : w2.cell? ⟨zb, 2, none⟩ = some (.int .i64 a.amt) := BX2.out.cell 2
  cases hh : hitK Ent.key es a.key i with
  | true =>
    obtain ⟨e, he, -⟩ := hitK_key hh
    have HP : Hid (∀ av', PutD es a (es.set i ⟨e.party, e.coin, e.all ++ [a.amt], av'⟩)) := fun av' => ⟨i, HAT.out, .inl ⟨hh, e, av', he, rfl⟩⟩
    have HHE := Lib.hid he
    clear hh he
    have HB3 := Lib.hid (HB2.out.mono HBA.out)
    have HO3 := Lib.hid (OTH.of_below HB2.out)
    obtain ⟨w3, hw3⟩ : ∃ W, W = w2 := ⟨_, rfl⟩
    rw [← hw3] at HE2 BX2 HB3 HO3 d0 d1 d2 ⊢
    clear hw3 HB2
    have HL3 := Lib.hid (HALL.out e (List.mem_of_getElem? HHE.out))
    obtain ⟨g, cap, e1, hva, hx, c0, c1, c2, c3, hfz⟩ := HE2.out.at i (List.getElem?_eq_some_iff.1 HHE.out).1
    have hee : e1 = e := by rw [HHE.out] at hx; injection hx with hx; exact hx.symm
    subst hva
    obtain ⟨aa, ac, hav⟩ := own_slice (HE2.out.each i _ HHE.out)
    replace c3 : w3.cell? ⟨g, i * 4 + 3, none⟩ = some (.slice aa (e).all.length ac) := by
      rw [hee] at c3
      rw [← hav]; exact c3
    have HAV := Lib.hid hav
    clear hee hav
    have hi0 : (i : Int) < ((es).length : Int) := by have := (List.getElem?_eq_some_iff.1 HHE.out).1; omega
    have hi1 : (0 : Int) ≤ (i : Int) := by omega
    have hi2 : (i : Int) ≤ 1000000 := by have := HN.out; omega
    clear hx c0 c1 c2
    go_upto_region 4 with (fail)
    have hal : Below w3.heap.size w3 (w3.alloc (.cells #[.int .i64 a.amt] 2)).drew := ((Below.refl w3.heap.size w3).alloc (Nat.le_refl _) (.cells #[.int .i64 a.amt] 2)).drew
    have HW := Lib.hid (HE2.out.below hal)
    have HBW := Lib.hid (HB3.out.trans (hal.mono (by have := HB3.out.size; have := HBA.out; omega)))
    have HLB : Hid (base ≤ (w3.alloc (.cells #[.int .i64 a.amt] 2)).drew.heap.size) := by have := HBW.out.size; have := HBA.out; show _ ≤ _; omega
    have HCN : Hid (∀ j u, [Value.int .i64 a.amt][j]? = some u → (w3.alloc (.cells #[.int .i64 a.amt] 2)).drew.cell? ((⟨w3.heap.size, 0, none⟩ : Addr).add j) = some u) := lit_cells_at w3 #[.int .i64 a.amt] 2 w3.heap.size rfl
    have HM64 : Hid (((e).all.length + 1 ≤ maxLen) ∧ ((e).all.length + 1) * 8 ≤ 140737488355328) := by
      have hmx : maxLen = 9223372036854775807 := by decide
      have := HL3.out
      exact ⟨by omega, by omega⟩
    have HOW : Hid ((w3.alloc (.cells #[.int .i64 a.amt] 2)).drew.ownsRow base 2 1 (.slice aa (e).all.length ac) (e).all.length (intC (e).all)) := by
      have := HW.out.each i _ HHE.out
      rw [HAV.out] at this; exact this
    have HBZ := Lib.hid (BX2.out.below hal)
    have HO5 := Lib.hid (HO3.out.trans (OTH.of_below hal))
    refine wp_region_till (S := fun W => W.cell? ⟨g, i * 4 + 3, none⟩ = some (.slice aa (e).all.length ac) ∧ W.cell? ⟨zb, 2, none⟩ = some (.int .i64 a.amt)) 13 (by kernel_rfl) ?_
    refine till_take (i := 0) (v := ?_) rfl (by kernel_rfl) (fun _ _ _ h => h) (Or.inl ⟨by rfl, ?_⟩) ⟨c3,d2⟩ ?_
    rotate_left
    · intro W hS
      try dsimp only at hS
      go_split_ands
      go_simp
      try with_reducible rfl
    try simp only [Act.put, List.getElem_toArray, List.getElem_cons_zero, List.getElem_cons_succ, List.setIfInBounds_toArray, List.set_cons_zero, List.set_cons_succ]
    refine till_take (i := 1) (v := ?_) rfl (by kernel_rfl) (fun _ _ _ h => h) (Or.inl ⟨by rfl, ?_⟩) ⟨c3,d2⟩ ?_
    rotate_left
    · intro W hS
      try dsimp only at hS
      go_split_ands
      go_simp
      try with_reducible rfl
    try simp only [Act.put, List.getElem_toArray, List.getElem_cons_zero, List.getElem_cons_succ, List.setIfInBounds_toArray, List.set_cons_zero, List.set_cons_succ]
    refine till_take (i := 2) (v := ?_) rfl (by kernel_rfl) (fun _ _ _ h => h) (Or.inl ⟨by rfl, ?_⟩) ⟨c3,d2⟩ ?_
    rotate_left
    · intro W hS
      try dsimp only at hS
      go_split_ands
      go_simp
      try with_reducible rfl
    try simp only [Act.put, List.getElem_toArray, List.getElem_cons_zero, List.getElem_cons_succ, List.setIfInBounds_toArray, List.set_cons_zero, List.set_cons_succ]
    refine till_take (i := 3) (v := ?_) rfl (by kernel_rfl) (fun _ _ _ h => h) (Or.inl ⟨by rfl, ?_⟩) ⟨c3,d2⟩ ?_
    rotate_left
    · intro W hS
      try dsimp only at hS
      go_split_ands
      go_simp
      try with_reducible rfl
    try simp only [Act.put, List.getElem_toArray, List.getElem_cons_zero, List.getElem_cons_succ, List.setIfInBounds_toArray, List.set_cons_zero, List.set_cons_succ]
    refine till_take (i := 4) (v := ?_) rfl (by kernel_rfl) (fun _ _ _ h => h) (Or.inl ⟨by rfl, ?_⟩) ⟨c3,d2⟩ ?_
    rotate_left
    · intro W hS
      try dsimp only at hS
      go_split_ands
      go_simp
      try with_reducible rfl
    try simp only [Act.put, List.getElem_toArray, List.getElem_cons_zero, List.getElem_cons_succ, List.setIfInBounds_toArray, List.set_cons_zero, List.set_cons_succ]
    refine till_take (i := 5) (v := ?_) rfl (by kernel_rfl) (fun _ _ _ h => h) (Or.inl ⟨by rfl, ?_⟩) ⟨c3,d2⟩ ?_
    rotate_left
    · intro W hS
      try dsimp only at hS
      go_split_ands
      go_simp
      try with_reducible rfl
    try simp only [Act.put, List.getElem_toArray, List.getElem_cons_zero, List.getElem_cons_succ, List.setIfInBounds_toArray, List.set_cons_zero, List.set_cons_succ]
    refine till_take (i := 6) (v := ?_) rfl (by kernel_rfl) (fun _ _ _ h => h) (Or.inl ⟨by rfl, ?_⟩) ⟨c3,d2⟩ ?_
    rotate_left
    · intro W hS
      try dsimp only at hS
      go_split_ands
      go_simp
      try with_reducible rfl
    try simp only [Act.put, List.getElem_toArray, List.getElem_cons_zero, List.getElem_cons_succ, List.setIfInBounds_toArray, List.set_cons_zero, List.set_cons_succ]
    refine till_take (i := 7) (v := ?_) rfl (by kernel_rfl) (fun _ _ _ h => h) (Or.inl ⟨by rfl, ?_⟩) ⟨c3,d2⟩ ?_
    rotate_left
    · intro W hS
      try dsimp only at hS
      go_split_ands
      go_simp
      try with_reducible rfl
    try simp only [Act.put, List.getElem_toArray, List.getElem_cons_zero, List.getElem_cons_succ, List.setIfInBounds_toArray, List.set_cons_zero, List.set_cons_succ]
    refine till_take (i := 8) (v := ?_) rfl (by kernel_rfl) (fun _ _ _ h => h) (Or.inl ⟨by rfl, ?_⟩) ⟨c3,d2⟩ ?_
    rotate_left
    · intro W hS
      try dsimp only at hS
      go_split_ands
      go_simp
      try with_reducible rfl
    try simp only [Act.put, List.getElem_toArray, List.getElem_cons_zero, List.getElem_cons_succ, List.setIfInBounds_toArray, List.set_cons_zero, List.set_cons_succ]
    refine till_one (i := 9) (by kernel_rfl) rfl (fun K' hK => ?_)
    go_simp
    have c3' := cellUp c3 hal
    have d2' := cellUp d2 hal
    refine hK _ _ ⟨c3', d2'⟩ ?_
    clear hK K' hal c3 d2 d0 d1
    generalize (w3.alloc (.cells #[.int .i64 a.amt] 2)).drew = w5 at *
    obtain ⟨nb, hnb⟩ : ∃ z, z = w3.heap.size := ⟨_, rfl⟩
    rw [← hnb] at HCN ⊢
    clear hnb
    try simp only [Act.put, List.getElem_toArray, List.getElem_cons_zero, List.getElem_cons_succ, List.setIfInBounds_toArray, List.set_cons_zero, List.set_cons_succ]
    refine till_one (i := 10) (by kernel_rfl) rfl (fun K' hK => ?_)
    refine step_ap infoI Try.underlying77 rfl (by decide) rfl (.tmp 31) (.tmp 34) rfl rfl HOW.out HLB.out ⟨nb, 0, none⟩ 1 1 [.int .i64 a.amt] rfl rfl HCN.out (by intro u hu; rw [List.mem_singleton] at hu; subst hu; simp [Value.oneCell']) HM64.out.1 HM64.out.2 ?_
    intro v4 w4 o1 g1 hv1
    obtain ⟨a4, ac4, rfl⟩ := own_slice o1
    have g1 : World.grownBy w5 w4 (e).av.ownBlock := (by rw [HAV.out]; exact g1)
    have hv1 : (Value.slice a4 ((e).all.length + 1) ac4).ownBlock = (e).av.ownBlock ∨ (Value.slice a4 ((e).all.length + 1) ac4).ownBlock = some w5.heap.size := (by rw [HAV.out]; exact hv1)
    have HFE := Lib.hid (HW.out.more HHE.out o1 g1 hv1)
    have hrw := own_grown HW.out.row g1 (fun x hx => row_ne HW.out.row (HW.out.each i _ HHE.out) (by decide) hx)
    have c3 := hrw.cellAt (i * 4 + 3) (by have := (List.getElem?_eq_some_iff.1 HHE.out).1; omega)
    rw [entR_at _ HHE.out 3 (by omega)] at c3
    replace c3 : w4.cell? ⟨g, i * 4 + 3, none⟩ = some (.slice aa (e).all.length ac) := by rw [← HAV.out]; exact c3
    have f3 := hrw.frozenAt (i * 4 + 3)
    have d2 : w4.cell? ⟨zb, 2, none⟩ = some (.int .i64 a.amt) := by
      have h1 := HBZ.out.cell 2
      have hne : (e).av.ownBlock ≠ some zb := fun e => blkRow HBZ.out (HW.out.each i _ HHE.out) (by decide) e
      exact g1.cell h1 (fun e => hne e.symm)
    have HFB := Lib.hid ((HBW.out.grown g1 HLB.out (fun b hb => (own_lt (HW.out.each i _ HHE.out) hb).1)).setCell (p := ⟨g, i * 4 + 3, none⟩) (own_lt hrw rfl).1 (.slice a4 ((e).all.length + 1) ac4))
    have HFO := Lib.hid ((HO5.out.trans (OTH.grown (HW.out.each i _ HHE.out) (.inr rfl) g1 rfl)).trans (OTH.set hrw (.inl rfl) (i * 4 + 3) (.slice a4 ((e).all.length + 1) ac4)))
    refine hK _ _ ⟨c3, d2⟩ ?_
    clear hK K' o1 g1 hv1 hrw c3' d2'
    try simp only [Act.put, List.getElem_toArray, List.getElem_cons_zero, List.getElem_cons_succ, List.setIfInBounds_toArray, List.set_cons_zero, List.set_cons_succ]
    refine till_take (i := 11) (v := ?_) rfl (by kernel_rfl) (fun _ _ _ h => h) (Or.inl ⟨by rfl, ?_⟩) ⟨c3,d2⟩ ?_
    rotate_left
    · intro W hS
      try dsimp only at hS
      go_split_ands
      go_simp
      try with_reducible rfl
    try simp only [Act.put, List.getElem_toArray, List.getElem_cons_zero, List.getElem_cons_succ, List.setIfInBounds_toArray, List.set_cons_zero, List.set_cons_succ]
    refine till_take (i := 12) (v := ?_) rfl (by kernel_rfl) (fun _ _ _ h => h) (Or.inl ⟨by rfl, ?_⟩) ⟨c3,d2⟩ ?_
    rotate_left
    · intro W hS
      try dsimp only at hS
      go_split_ands
      go_simp
      try with_reducible rfl
    try simp only [Act.put, List.getElem_toArray, List.getElem_cons_zero, List.getElem_cons_succ, List.setIfInBounds_toArray, List.set_cons_zero, List.set_cons_succ]
    refine till_last (by kernel_rfl) rfl (by kernel_rfl) (fun K' hK => ?_)
    go_simp
    refine hK _ _ ?_
    clear hK K'
    refine wpAny_done (by kernel_rfl) ?_ _
    go_wp2_with fail
    go_ret
    exact ⟨⟨_, _, rfl, HFE.out, HP.out _⟩, HFB.out, HFO.out⟩
  | false =>
    have hil := HAT.out.le
    have HP : Hid (∀ av', PutD es a (insI es i ⟨a.party, a.coin, [a.amt], av'⟩)) := fun av' => ⟨i, HAT.out, .inr ⟨hh, av', rfl⟩⟩
    have HIL := Lib.hid hil
    clear hh hil
    have hal := (Below.refl w2.heap.size w2).alloc (Nat.le_refl _) (.cells #[.string a.party, .string a.coin, .int .i64 0, .slice none 0 0] 79)
    have BN := Mem.Blk.new w2 79 #[.string a.party, .string a.coin, .int .i64 0, .slice none 0 0]
    have HEA := Lib.hid (HE2.out.below hal)
    have HBA2 := Lib.hid ((HB2.out.mono HBA.out).trans (hal.mono (by have := HB2.out.size; have := HBA.out; omega)))
    have BXA := Lib.hid (BX2.out.below hal)
    have HOA := Lib.hid ((OTH.of_below HB2.out).trans (OTH.of_below hal))
    have HI := Lib.hid (insert_any base v es.length i (entR es) (entC ⟨a.party, a.coin, [], .slice none 0 0⟩) w2.heap.size _ HEA.out.row (by have := HBA2.out.size; have := HBA.out; omega) (by have := HN.out; omega) HIL.out rfl
      (fun j u hu => by rw [BN.cell j]; simpa [entC] using hu) (by intro u hu; simp only [entC, List.mem_cons, List.not_mem_nil, or_false] at hu; rcases hu with rfl | rfl | rfl | rfl <;> simp [Value.oneCell']) (fun u hu => entR_one4 es u hu HE2.out.av1)
      (fun e => by have := (own_lt HE2.out.row e).2; omega) (by have h := BN; unfold Mem.Blk at h; unfold World.shape?; rw [h]; rfl) (fun j => BN.frozen j) BN.lt)
    clear hal BN HE2 HB2 BX2
    go_wp2_with fail
    go_at_call 69
    (with_reducible refine HI.out.mono ?_)
    rintro x w3 ⟨v3, rfl, ho, hg, hv⟩
    have HE2 := Lib.hid (HEA.out.ins HIL.out HA.out ho hg)
    have HB3 := Lib.hid (HBA2.out.grown hg (by have := HBA2.out.size; have := HBA.out; omega) (fun b hb => (own_lt HEA.out.row hb).1))
    have BX2 : Hid (Mem.Blk w3 zb 51 (acctC a).toArray) := by
      have hne : v.ownBlock ≠ some zb := by
        intro e
        exact blkRow BXA.out HEA.out.row (by decide) e
      have h1 := BXA.out
      unfold Mem.Blk at h1
      show Mem.Blk _ _ _ _
      unfold Mem.Blk
      rw [hg.block zb BXA.out.lt (fun e => hne e.symm)]; exact h1
    have HO3 := Lib.hid (HOA.out.trans (OTH.grown HEA.out.row (.inl rfl) hg rfl))
    clear ho hg hv HI HEA HBA2 BXA HOA d0 d1 d2
    have d0 : w3.cell? ⟨zb, 0, none⟩ = some (.string a.party) := BX2.out.cell 0
    have d1 : w3.cell? ⟨zb, 1, none⟩ = some (.string a.coin) := BX2.out.cell 1
    have d2 : w3.cell? ⟨zb, 2, none⟩ = some (.int .i64 a.amt) := BX2.out.cell 2
    obtain ⟨e, he0⟩ : ∃ x : Ent, x = ⟨a.party, a.coin, [], .slice none 0 0⟩ := ⟨_, rfl⟩
    obtain ⟨es2, hes2⟩ : ∃ x, x = insI es i e := ⟨_, rfl⟩
    have hset : Hid (∀ av', es2.set i ⟨e.party, e.coin, e.all ++ [a.amt], av'⟩ = insI es i ⟨a.party, a.coin, [a.amt], av'⟩) := fun av' => by rw [hes2, insI_set HIL.out, he0]; rfl
    have HHE : Hid (es2[i]? = some e) := by
      show _ = _
      rw [hes2, insI_at HIL.out, if_neg (by omega), if_pos rfl]
    have HL3 : Hid (e.all.length ≤ 900000) := by show e.all.length ≤ 900000; rw [he0]; exact Nat.zero_le _
    have HN : Hid (es2.length ≤ 900001) := by show _ ≤ _; rw [hes2, insI_len _ _ _ HIL.out]; have := HN.out; omega
    rw [← he0, ← hes2] at HE2
    clear he0 hes2
    obtain ⟨g, cap, e1, hva, hx, c0, c1, c2, c3, hfz⟩ := HE2.out.at i (List.getElem?_eq_some_iff.1 HHE.out).1
    have hee : e1 = e := by rw [HHE.out] at hx; injection hx with hx; exact hx.symm
    subst hva
    obtain ⟨aa, ac, hav⟩ := own_slice (HE2.out.each i _ HHE.out)
    replace c3 : w3.cell? ⟨g, i * 4 + 3, none⟩ = some (.slice aa (e).all.length ac) := by
      rw [hee] at c3
      rw [← hav]; exact c3
    have HAV := Lib.hid hav
    clear hee hav
    have hi0 : (i : Int) < ((es2).length : Int) := by have := (List.getElem?_eq_some_iff.1 HHE.out).1; omega
    have hi1 : (0 : Int) ≤ (i : Int) := by omega
    have hi2 : (i : Int) ≤ 1000000 := by have := HN.out; omega
    clear hx c0 c1 c2
    go_upto_region 4 with (fail)
    have hal : Below w3.heap.size w3 (w3.alloc (.cells #[.int .i64 a.amt] 2)).drew := ((Below.refl w3.heap.size w3).alloc (Nat.le_refl _) (.cells #[.int .i64 a.amt] 2)).drew
    have HW := Lib.hid (HE2.out.below hal)
    have HBW := Lib.hid (HB3.out.trans (hal.mono (by have := HB3.out.size; have := HBA.out; omega)))
    have HLB : Hid (base ≤ (w3.alloc (.cells #[.int .i64 a.amt] 2)).drew.heap.size) := by have := HBW.out.size; have := HBA.out; show _ ≤ _; omega
    have HCN : Hid (∀ j u, [Value.int .i64 a.amt][j]? = some u → (w3.alloc (.cells #[.int .i64 a.amt] 2)).drew.cell? ((⟨w3.heap.size, 0, none⟩ : Addr).add j) = some u) := lit_cells_at w3 #[.int .i64 a.amt] 2 w3.heap.size rfl
    have HM64 : Hid (((e).all.length + 1 ≤ maxLen) ∧ ((e).all.length + 1) * 8 ≤ 140737488355328) := by
      have hmx : maxLen = 9223372036854775807 := by decide
      have := HL3.out
      exact ⟨by omega, by omega⟩
    have HOW : Hid ((w3.alloc (.cells #[.int .i64 a.amt] 2)).drew.ownsRow base 2 1 (.slice aa (e).all.length ac) (e).all.length (intC (e).all)) := by
      have := HW.out.each i _ HHE.out
      rw [HAV.out] at this; exact this
    have HBZ := Lib.hid (BX2.out.below hal)
    have HO5 := Lib.hid (HO3.out.trans (OTH.of_below hal))
    refine wp_region_till (S := fun W => W.cell? ⟨g, i * 4 + 3, none⟩ = some (.slice aa (e).all.length ac) ∧ W.cell? ⟨zb, 2, none⟩ = some (.int .i64 a.amt)) 13 (by kernel_rfl) ?_
    refine till_take (i := 0) (v := ?_) rfl (by kernel_rfl) (fun _ _ _ h => h) (Or.inl ⟨by rfl, ?_⟩) ⟨c3,d2⟩ ?_
    rotate_left
    · intro W hS
      try dsimp only at hS
      go_split_ands
      go_simp
      try with_reducible rfl
    try simp only [Act.put, List.getElem_toArray, List.getElem_cons_zero, List.getElem_cons_succ, List.setIfInBounds_toArray, List.set_cons_zero, List.set_cons_succ]
    refine till_take (i := 1) (v := ?_) rfl (by kernel_rfl) (fun _ _ _ h => h) (Or.inl ⟨by rfl, ?_⟩) ⟨c3,d2⟩ ?_
    rotate_left
    · intro W hS
      try dsimp only at hS
      go_split_ands
      go_simp
      try with_reducible rfl
    try simp only [Act.put, List.getElem_toArray, List.getElem_cons_zero, List.getElem_cons_succ, List.setIfInBounds_toArray, List.set_cons_zero, List.set_cons_succ]
    refine till_take (i := 2) (v := ?_) rfl (by kernel_rfl) (fun _ _ _ h => h) (Or.inl ⟨by rfl, ?_⟩) ⟨c3,d2⟩ ?_
    rotate_left
    · intro W hS
      try dsimp only at hS
      go_split_ands
      go_simp
      try with_reducible rfl
    try simp only [Act.put, List.getElem_toArray, List.getElem_cons_zero, List.getElem_cons_succ, List.setIfInBounds_toArray, List.set_cons_zero, List.set_cons_succ]
    refine till_take (i := 3) (v := ?_) rfl (by kernel_rfl) (fun _ _ _ h => h) (Or.inl ⟨by rfl, ?_⟩) ⟨c3,d2⟩ ?_
    rotate_left
    · intro W hS
      try dsimp only at hS
      go_split_ands
      go_simp
      try with_reducible rfl
    try simp only [Act.put, List.getElem_toArray, List.getElem_cons_zero, List.getElem_cons_succ, List.setIfInBounds_toArray, List.set_cons_zero, List.set_cons_succ]
    refine till_take (i := 4) (v := ?_) rfl (by kernel_rfl) (fun _ _ _ h => h) (Or.inl ⟨by rfl, ?_⟩) ⟨c3,d2⟩ ?_
    rotate_left
    · intro W hS
      try dsimp only at hS
      go_split_ands
      go_simp
      try with_reducible rfl
    try simp only [Act.put, List.getElem_toArray, List.getElem_cons_zero, List.getElem_cons_succ, List.setIfInBounds_toArray, List.set_cons_zero, List.set_cons_succ]
    refine till_take (i := 5) (v := ?_) rfl (by kernel_rfl) (fun _ _ _ h => h) (Or.inl ⟨by rfl, ?_⟩) ⟨c3,d2⟩ ?_
    rotate_left
    · intro W hS
      try dsimp only at hS
      go_split_ands
      go_simp
      try with_reducible rfl
    try simp only [Act.put, List.getElem_toArray, List.getElem_cons_zero, List.getElem_cons_succ, List.setIfInBounds_toArray, List.set_cons_zero, List.set_cons_succ]
    refine till_take (i := 6) (v := ?_) rfl (by kernel_rfl) (fun _ _ _ h => h) (Or.inl ⟨by rfl, ?_⟩) ⟨c3,d2⟩ ?_
    rotate_left
    · intro W hS
      try dsimp only at hS
      go_split_ands
      go_simp
      try with_reducible rfl
    try simp only [Act.put, List.getElem_toArray, List.getElem_cons_zero, List.getElem_cons_succ, List.setIfInBounds_toArray, List.set_cons_zero, List.set_cons_succ]
    refine till_take (i := 7) (v := ?_) rfl (by kernel_rfl) (fun _ _ _ h => h) (Or.inl ⟨by rfl, ?_⟩) ⟨c3,d2⟩ ?_
    rotate_left
    · intro W hS
      try dsimp only at hS
      go_split_ands
      go_simp
      try with_reducible rfl
    try simp only [Act.put, List.getElem_toArray, List.getElem_cons_zero, List.getElem_cons_succ, List.setIfInBounds_toArray, List.set_cons_zero, List.set_cons_succ]
    refine till_take (i := 8) (v := ?_) rfl (by kernel_rfl) (fun _ _ _ h => h) (Or.inl ⟨by rfl, ?_⟩) ⟨c3,d2⟩ ?_
    rotate_left
    · intro W hS
      try dsimp only at hS
      go_split_ands
      go_simp
      try with_reducible rfl
    try simp only [Act.put, List.getElem_toArray, List.getElem_cons_zero, List.getElem_cons_succ, List.setIfInBounds_toArray, List.set_cons_zero, List.set_cons_succ]
    refine till_one (i := 9) (by kernel_rfl) rfl (fun K' hK => ?_)
    go_simp
    have c3' := cellUp c3 hal
    have d2' := cellUp d2 hal
    refine hK _ _ ⟨c3', d2'⟩ ?_
    clear hK K' hal c3 d2 d0 d1
    generalize (w3.alloc (.cells #[.int .i64 a.amt] 2)).drew = w5 at *
    obtain ⟨nb, hnb⟩ : ∃ z, z = w3.heap.size := ⟨_, rfl⟩
    rw [← hnb] at HCN ⊢
    clear hnb
    try simp only [Act.put, List.getElem_toArray, List.getElem_cons_zero, List.getElem_cons_succ, List.setIfInBounds_toArray, List.set_cons_zero, List.set_cons_succ]
    refine till_one (i := 10) (by kernel_rfl) rfl (fun K' hK => ?_)
    refine step_ap infoI Try.underlying77 rfl (by decide) rfl (.tmp 31) (.tmp 34) rfl rfl HOW.out HLB.out ⟨nb, 0, none⟩ 1 1 [.int .i64 a.amt] rfl rfl HCN.out (by intro u hu; rw [List.mem_singleton] at hu; subst hu; simp [Value.oneCell']) HM64.out.1 HM64.out.2 ?_
    intro v4 w4 o1 g1 hv1
    obtain ⟨a4, ac4, rfl⟩ := own_slice o1
    have g1 : World.grownBy w5 w4 (e).av.ownBlock := (by rw [HAV.out]; exact g1)
    have hv1 : (Value.slice a4 ((e).all.length + 1) ac4).ownBlock = (e).av.ownBlock ∨ (Value.slice a4 ((e).all.length + 1) ac4).ownBlock = some w5.heap.size := (by rw [HAV.out]; exact hv1)
    have HFE := Lib.hid (HW.out.more HHE.out o1 g1 hv1)
    have hrw := own_grown HW.out.row g1 (fun x hx => row_ne HW.out.row (HW.out.each i _ HHE.out) (by decide) hx)
    have c3 := hrw.cellAt (i * 4 + 3) (by have := (List.getElem?_eq_some_iff.1 HHE.out).1; omega)
    rw [entR_at _ HHE.out 3 (by omega)] at c3
    replace c3 : w4.cell? ⟨g, i * 4 + 3, none⟩ = some (.slice aa (e).all.length ac) := by rw [← HAV.out]; exact c3
    have f3 := hrw.frozenAt (i * 4 + 3)
    have d2 : w4.cell? ⟨zb, 2, none⟩ = some (.int .i64 a.amt) := by
      have h1 := HBZ.out.cell 2
      have hne : (e).av.ownBlock ≠ some zb := fun e => blkRow HBZ.out (HW.out.each i _ HHE.out) (by decide) e
      exact g1.cell h1 (fun e => hne e.symm)
    have HFB := Lib.hid ((HBW.out.grown g1 HLB.out (fun b hb => (own_lt (HW.out.each i _ HHE.out) hb).1)).setCell (p := ⟨g, i * 4 + 3, none⟩) (own_lt hrw rfl).1 (.slice a4 ((e).all.length + 1) ac4))
    have HFO := Lib.hid ((HO5.out.trans (OTH.grown (HW.out.each i _ HHE.out) (.inr rfl) g1 rfl)).trans (OTH.set hrw (.inl rfl) (i * 4 + 3) (.slice a4 ((e).all.length + 1) ac4)))
    refine hK _ _ ⟨c3, d2⟩ ?_
    clear hK K' o1 g1 hv1 hrw c3' d2'
    try simp only [Act.put, List.getElem_toArray, List.getElem_cons_zero, List.getElem_cons_succ, List.setIfInBounds_toArray, List.set_cons_zero, List.set_cons_succ]
    refine till_take (i := 11) (v := ?_) rfl (by kernel_rfl) (fun _ _ _ h => h) (Or.inl ⟨by rfl, ?_⟩) ⟨c3,d2⟩ ?_
    rotate_left
    · intro W hS
      try dsimp only at hS
      go_split_ands
      go_simp
      try with_reducible rfl
    try simp only [Act.put, List.getElem_toArray, List.getElem_cons_zero, List.getElem_cons_succ, List.setIfInBounds_toArray, List.set_cons_zero, List.set_cons_succ]
    refine till_take (i := 12) (v := ?_) rfl (by kernel_rfl) (fun _ _ _ h => h) (Or.inl ⟨by rfl, ?_⟩) ⟨c3,d2⟩ ?_
    rotate_left
    · intro W hS
      try dsimp only at hS
      go_split_ands
      go_simp
      try with_reducible rfl
    try simp only [Act.put, List.getElem_toArray, List.getElem_cons_zero, List.getElem_cons_succ, List.setIfInBounds_toArray, List.set_cons_zero, List.set_cons_succ]
    refine till_last (by kernel_rfl) rfl (by kernel_rfl) (fun K' hK => ?_)
    go_simp
    refine hK _ _ ?_
    clear hK K'
    refine wpAny_done (by kernel_rfl) ?_ _
    go_wp2_with fail
    go_ret
    refine ⟨⟨_, _, rfl, HFE.out, ?_⟩, HFB.out, HFO.out⟩
    rw [hset.out]
    exact HP.out _
end Go.Proofs.Ytgbiimoednmlgaa

/- The contracts of Right, may, and whether all moves may be. -/
namespace Go.Proofs.Ytgbiimoednmlgaa
set_option linter.unusedVariables false
set_option linter.unusedSimpArgs false
open Go.RowKit
structure RtSt (l : List Acct) (k : Nat) : Prop where
  ok : ∀ (j : Nat) a, j < k → l[j]? = some a → okA a = true
  adj : ∀ (j : Nat) a b, j + 1 < k → l[j]? = some a → l[j + 1]? = some b → kcmp a.key b.key < 0
theorem RtSt.zero (l : List Acct) : RtSt l 0 := ⟨fun j a h => absurd h (by omega), fun j a b h => absurd h (by omega)⟩
theorem RtSt.next {l : List Acct} {k : Nat} {a : Acct} (h : RtSt l k) (ha : l[k]? = some a) (ok : okA a = true) (hadj : ∀ b, 0 < k → l[k - 1]? = some b → kcmp b.key a.key < 0) : RtSt l (k + 1) := by
  refine ⟨fun j x hj hx => ?_, fun j x y hj hx hy => ?_⟩
  · by_cases e : j < k
    · exact h.ok j x e hx
    · obtain rfl : j = k := by omega
      rw [ha] at hx; injection hx with hx; rw [← hx]; exact ok
  · by_cases e : j + 1 < k
    · exact h.adj j x y e hx hy
    · have e2 : j + 1 = k := by omega
      rw [e2, ha] at hy; injection hy with hy
      rw [← hy]
      exact hadj x (by omega) (by rw [show k - 1 = j by omega]; exact hx)
theorem RtSt.all {l : List Acct} (h : RtSt l l.length) : rightA l = true := by
  unfold rightA
  rw [Bool.and_eq_true, List.all_eq_true, adjK_get]
  refine ⟨fun a ha => ?_, fun i a b hi hj => h.adj i a b (List.getElem?_eq_some_iff.1 hj).1 hi hj⟩
  obtain ⟨j, hj⟩ := List.getElem?_of_mem ha
  exact h.ok j a (List.getElem?_eq_some_iff.1 hj).1 hj
theorem right_bad {l : List Acct} {k : Nat} {a : Acct} (ha : l[k]? = some a) (ok : okA a = false) : rightA l = false := by
  cases hr : rightA l with
  | false => rfl
  | true =>
    unfold rightA at hr
    rw [Bool.and_eq_true, List.all_eq_true] at hr
    rw [hr.1 a (List.mem_of_getElem? ha)] at ok; cases ok
theorem right_bad2 {l : List Acct} {k : Nat} {a b : Acct} (h0 : 0 < k) (hb : l[k - 1]? = some b) (ha : l[k]? = some a) (hc : ¬ kcmp b.key a.key < 0) : rightA l = false := by
  cases hr : rightA l with
  | false => rfl
  | true =>
    unfold rightA at hr
    rw [Bool.and_eq_true, adjK_get] at hr
    exact absurd (hr.2 (k - 1) b a hb (by rw [show k - 1 + 1 = k by omega]; exact ha)) hc
set_option maxRecDepth 100000 in
set_option maxHeartbeats 4000000 in
theorem right_any (l : List Acct) (a : Option Addr) (len cap : Nat) (w : World) (h : SlR acctK w [] l a len cap) (hlen : len ≤ 1000000) :
    Calls Try.prog 22 #[.slice a len cap] w fun x w' => x = .returned (.bool (rightA l)) ∧ Below w.heap.size w w' := by
  have HS := Lib.hid h
  have HL := Lib.hid h.facts.1
  have HN := Lib.hid hlen
  obtain ⟨R, hR⟩ : ∃ R, R = rightA l := ⟨_, rfl⟩
  have HR := Lib.hid hR
  rw [← hR]
  clear h hR hlen
  go_enter Try.func22, Try.ntmps22
  go_wp2_with fail
  go_loopw [7] (fun i wr => ∃ (k : Nat), i = .int .i64 (k : Nat) ∧ k ≤ len ∧ Hid (RtSt l k ∧ Below w.heap.size w wr)) (fun i _ => len - (intOf i).toNat)
  case atStart => exact ⟨0, rfl, Nat.zero_le _, RtSt.zero l, Below.refl _ _⟩
  case round =>
    obtain ⟨k, rfl, hk, HT⟩ := hrel
    by_cases hlt : k < len
    · have hlt' : (k : Int) < (len : Int) := by omega
      have i0 : (0 : Int) ≤ (k : Int) := by omega
      have i1 : (k : Int) ≤ 1000000 := by have := HN.out; omega
      have HSR := Lib.hid (HS.out.kept (Kept.of_below HT.out.2 []))
      obtain ⟨b, o, x, rfl, hx, hok, u0, u1, u2⟩ := acct_at HSR.out k hlt
      have hal := (Below.refl wr.heap.size wr).alloc (Nat.le_refl _) (.cells #[.string x.party, .string x.coin, .int .i64 x.amt] 51)
      have BZ := Lib.hid (Mem.Blk.new wr 51 #[.string x.party, .string x.coin, .int .i64 x.amt])
      have HSA := Lib.hid (HSR.out.kept (Kept.of_below hal []))
      have HBA := Lib.hid (HT.out.2.trans (hal.mono HT.out.2.size))
      have HX := Lib.hid hx
      have HOK := Lib.hid hok
      have HTR := Lib.hid HT.out.1
      have HKL := Lib.hid hlt
      clear hal hx hok hlt HT HSR
      go_upto_region 4 with (fail)
      generalize wr.heap.size = zb at *
      generalize wr.alloc (.cells #[.string x.party, .string x.coin, .int .i64 x.amt] 51) = w1 at *
      clear u0 u1 u2
      have z0 : w1.cell? ⟨zb, 0, none⟩ = some (.string x.party) := BZ.out.cell 0
      have z1 : w1.cell? ⟨zb, 1, none⟩ = some (.string x.coin) := BZ.out.cell 1
      have z2 : w1.cell? ⟨zb, 2, none⟩ = some (.int .i64 x.amt) := BZ.out.cell 2
      have HNP : Hid (∀ n, Calls Try.prog 47 #[.string x.party] (w1.drewN n) fun e w' => e = .returned (.bool (nmd x.party)) ∧ ∃ m, w' = w1.drewN m) := fun n => (named_any x.party _ (by have := HOK.out.party; unfold maxLen at this; omega)).mono fun _ _ h => ⟨h.1, n, h.2.symm⟩
      have HNC : Hid (∀ n, Calls Try.prog 47 #[.string x.coin] (w1.drewN n) fun e w' => e = .returned (.bool (nmd x.coin)) ∧ ∃ m, w' = w1.drewN m) := fun n => (named_any x.coin _ (by have := HOK.out.coin; unfold maxLen at this; omega)).mono fun _ _ h => ⟨h.1, n, h.2.symm⟩
      have HSP : Hid (∀ W, Calls Try.prog 47 #[.string x.party] W fun e w' => e = .returned (.bool (nmd x.party)) ∧ w' = W) := fun W => (named_any x.party W (by have := HOK.out.party; unfold maxLen at this; omega)).mono fun _ _ h => ⟨h.1, h.2.symm⟩
      have HSC : Hid (∀ W, Calls Try.prog 47 #[.string x.coin] W fun e w' => e = .returned (.bool (nmd x.coin)) ∧ w' = W) := fun W => (named_any x.coin W (by have := HOK.out.coin; unfold maxLen at this; omega)).mono fun _ _ h => ⟨h.1, h.2.symm⟩
      cases hnp : nmd x.party with
      | false =>
        rw [hnp] at HNP
        have HB : Hid (R = false) := by show R = false; rw [HR.out]; exact right_bad HX.out (by unfold okA; rw [hnp]; rfl)
        clear HR hnp
        go_quiet ((first | (go_at_call 47; with_reducible exact HNP.out _) | (go_at_call 47; with_reducible exact HNC.out _)))
        have HB2 := Lib.hid (HBA.out.trans ((below_dN (Below.refl w1.heap.size w1) nq).mono HBA.out.size))
        go_wp2_with fail
        go_ret
        exact ⟨by rw [HB.out]; rfl, HB2.out⟩
      | true =>
        rw [hnp] at HNP HSP
        cases hnc : nmd x.coin with
        | false =>
          rw [hnc] at HNC
          have HB : Hid (R = false) := by show R = false; rw [HR.out]; exact right_bad HX.out (by unfold okA; rw [hnp, hnc]; rfl)
          clear HR hnp hnc
          go_quiet ((first | (go_at_call 47; with_reducible exact HNP.out _) | (go_at_call 47; with_reducible exact HNC.out _)))
          have HB2 := Lib.hid (HBA.out.trans ((below_dN (Below.refl w1.heap.size w1) nq).mono HBA.out.size))
          go_wp2_with fail
          go_ret
          exact ⟨by rw [HB.out]; rfl, HB2.out⟩
        | true =>
          rw [hnc] at HNC HSC
          by_cases hz : x.amt = 0
          · have hz' : (x.amt == 0) = true := by simpa using hz
            have HB : Hid (R = false) := by show R = false; rw [HR.out]; exact right_bad HX.out (by unfold okA; rw [hnp, hnc, decide_eq_false (by simpa using hz)]; rfl)
            clear HR hnp hnc hz
            go_quiet ((first | (go_at_call 47; with_reducible exact HNP.out _) | (go_at_call 47; with_reducible exact HNC.out _)))
            have HB2 := Lib.hid (HBA.out.trans ((below_dN (Below.refl w1.heap.size w1) nq).mono HBA.out.size))
            go_wp2_with fail
            go_ret
            exact ⟨by rw [HB.out]; rfl, HB2.out⟩
          · have hz' : (x.amt == 0) = false := by simpa using hz
            have HO : Hid (okA x = true) := by show okA x = true; unfold okA; rw [hnp, hnc, decide_eq_true hz]; rfl
            clear hnp hnc hz
            by_cases hk0 : 0 < k
            · obtain ⟨j, hj⟩ : ∃ j, k = j + 1 := ⟨k - 1, by omega⟩
              obtain ⟨b', o', y, hbo, hy, -, v0, v1, v2⟩ := acct_at HSA.out j (by have := HKL.out; omega)
              obtain ⟨rfl, rfl⟩ : b = b' ∧ o = o' := by injection hbo with hbo; injection hbo with e1 e2; exact ⟨e1, e2⟩
              have HY := Lib.hid hy
              have HJ := Lib.hid hj
              have hwk : IntKind.i64.wrap ((k : Int) - 1) = (j : Int) := by rw [IntWalk.i64_in _ (by omega)]; omega
              have hwk3 : (k : Int) - 1 = (j : Int) := by omega
              have hwk4 : IntKind.i64.wrap ((j : Nat) : Int) = (j : Int) := IntWalk.i64_in _ (by omega)
              have hjl : (j : Int) < (len : Int) := by have := HKL.out; omega
              have hj0 : (0 : Int) ≤ (j : Int) := by omega
              have hk0' : (0 : Int) < (k : Int) := by omega
              have HOR : Hid (∀ W, Calls Try.prog 48 #[.agg #[.string y.party, .string y.coin, .int .i64 y.amt], .agg #[.string x.party, .string x.coin, .int .i64 x.amt]] W _) := fun W => order_any y x W
              obtain ⟨Q, hQ⟩ : ∃ Q, Q = kcmp y.key x.key := ⟨_, rfl⟩
              rw [← hQ] at HOR
              have HQ := Lib.hid hQ
              clear hy hQ hbo hj
              go_still_tail 25, (by kernel_rfl)
              still_call (HSP.out _)
              repeat still_step
              still_call (HSC.out _)
              repeat still_step
              refine wpStill_nil ?_
              change wpList _ _ _ _ _ w1.drew
              go_wp2_with fail
              go_at_call 48
              (with_reducible refine (HOR.out _).mono ?_)
              rintro e w2 ⟨rfl, b2⟩
              have HB2 := Lib.hid (HBA.out.trans (((Below.refl w1.heap.size w1).drew.trans b2).mono HBA.out.size))
              clear b2 HOR HSP HSC HNP HNC v0 v1 v2 z0 z1 z2 hwk hwk3 hwk4 hjl hj0
              by_cases hq : 0 ≤ Q
              · have HB : Hid (R = false) := by
                  show R = false
                  rw [HR.out]
                  exact right_bad2 (b := y) (by omega) (by rw [show k - 1 = j by have := HJ.out; omega]; exact HY.out) HX.out (by rw [← HQ.out]; omega)
                clear HR
                go_wp2_with fail
                go_ret
                exact ⟨by rw [HB.out]; rfl, HB2.out⟩
              · have HT2 := Lib.hid (HTR.out.next HX.out HO.out (fun b' _ hb' => by
                  rw [show k - 1 = j by have := HJ.out; omega, HY.out] at hb'
                  have hb2 := Option.some.inj hb'
                  rw [← hb2, ← HQ.out]; omega))
                go_wp2_with fail
                go_roundw
                case rel => exact ⟨k + 1, by go_num, by have := HKL.out; omega, HT2.out, HB2.out⟩
                case measure => simp [intOf]; have := HKL.out; omega
            · have hk0' : decide ((0 : Int) < (k : Int)) = false := decide_eq_false (by omega)
              have hk0'' : decide (0 < k) = false := decide_eq_false hk0
              have HT2 := Lib.hid (HTR.out.next HX.out HO.out (fun b h => absurd h hk0))
              clear hk0
              go_quiet ((first | (go_at_call 47; with_reducible exact HNP.out _) | (go_at_call 47; with_reducible exact HNC.out _)))
              have HB2 := Lib.hid (HBA.out.trans ((below_dN (Below.refl w1.heap.size w1) nq).mono HBA.out.size))
              go_wp2_with fail
              go_roundw
              case rel => exact ⟨k + 1, by go_num, by have := HKL.out; omega, HT2.out, HB2.out⟩
              case measure => simp [intOf]; have := HKL.out; omega
    · have hlt' : ¬ (k : Int) < (len : Int) := by omega
      have HB : Hid (R = true) := by
        show R = true
        have e : k = l.length := by rw [HL.out]; omega
        rw [HR.out]
        have := HT.out.1
        rw [e] at this
        exact this.all
      have HB2 := Lib.hid HT.out.2
      clear HR HT
      go_wp2_with fail
      go_ret
      exact ⟨by rw [HB.out]; rfl, HB2.out⟩
end Go.Proofs.Ytgbiimoednmlgaa
