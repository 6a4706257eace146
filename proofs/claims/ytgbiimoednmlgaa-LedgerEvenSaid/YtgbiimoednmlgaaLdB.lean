/- The contracts of the search over entries, over accounts. -/
import Derived.Test.YtgbiimoednmlgaaLdI
import Derived.Test.YtgbiimoednmlgaaReg
namespace Go.Proofs.Ytgbiimoednmlgaa
set_option linter.unusedVariables false
set_option linter.unusedSimpArgs false
open Go.RowKit
theorem entersL {P : Program} {g : FuncId} {f : Func} (h : P.funcs[g]? = some f) (hn : (f.name == "runtime.NumGoroutine") = false) (hb : f.body.isNone = false) : ∀ args w, (callFunc g args).run P w = .ok (.enter g args) w := by
  intro args w
  unfold callFunc
  rw [Sem.run_bind]
  show Result.andThen (Result.ok P w) _ = _
  rw [Result.andThen_ok]
  rw [h]
  simp only [hn, hb]
  rfl
set_option maxRecDepth 100000 in
set_option maxHeartbeats 4000000 in
theorem putf_any (e : Ent) (a : Acct) (w : World) : Calls Try.prog 68 #[.agg (entC e).toArray, .agg (acctC a).toArray] w fun x w' => x = .returned (.int .i64 (kcmp e.key a.key)) ∧ Below w.heap.size w w' := by
  have h1 := (Below.refl w.heap.size w).alloc (Nat.le_refl _) (.cells (entC e).toArray 79)
  have h2 := h1.alloc h1.size (.cells (acctC a).toArray 51)
  have BX := Lib.hid ((Mem.Blk.new w 79 (entC e).toArray).below ((Below.refl (w.alloc (.cells (entC e).toArray 79)).heap.size _).alloc (Nat.le_refl _) (.cells (acctC a).toArray 51)))
  have BY := Lib.hid (Mem.Blk.new (w.alloc (.cells (entC e).toArray 79)) 51 (acctC a).toArray)
  have HB := Lib.hid h2
  clear h1 h2
  show Calls Try.prog 68 #[.agg #[.string e.party, .string e.coin, .int .i64 0, e.av], .agg #[.string a.party, .string a.coin, .int .i64 a.amt]] w _
  go_enter Try.func68, Try.ntmps68
  go_upto_region 1 with (fail)
  have BX' : Hid (Mem.Blk ((w.alloc (.cells #[.string e.party, .string e.coin, .int .i64 0, e.av] 79)).alloc (.cells #[.string a.party, .string a.coin, .int .i64 a.amt] 51)) w.heap.size 79 (entC e).toArray) := BX.out
  have BY' : Hid (Mem.Blk ((w.alloc (.cells #[.string e.party, .string e.coin, .int .i64 0, e.av] 79)).alloc (.cells #[.string a.party, .string a.coin, .int .i64 a.amt] 51)) (w.alloc (.cells #[.string e.party, .string e.coin, .int .i64 0, e.av] 79)).heap.size 51 (acctC a).toArray) := BY.out
  have HB' : Hid (Below w.heap.size w ((w.alloc (.cells #[.string e.party, .string e.coin, .int .i64 0, e.av] 79)).alloc (.cells #[.string a.party, .string a.coin, .int .i64 a.amt] 51))) := HB.out
  clear BX BY HB
  have ez : (w.alloc (.cells #[.string e.party, .string e.coin, .int .i64 0, e.av] 79)).heap.size = w.heap.size + 1 := by simp
  rw [ez] at BY'
  clear ez
  generalize (w.alloc (.cells #[.string e.party, .string e.coin, .int .i64 0, e.av] 79)).alloc (.cells #[.string a.party, .string a.coin, .int .i64 a.amt] 51) = w1 at *
  have c0 : w1.cell? ⟨w.heap.size, 0, none⟩ = some (.string e.party) := BX'.out.cell 0
  have c1 : w1.cell? ⟨w.heap.size, 1, none⟩ = some (.string e.coin) := BX'.out.cell 1
  have c2 : w1.cell? ⟨w.heap.size, 2, none⟩ = some (.int .i64 0) := BX'.out.cell 2
  have d0 : w1.cell? ⟨w.heap.size + 1, 0, none⟩ = some (.string a.party) := BY'.out.cell 0
  have d1 : w1.cell? ⟨w.heap.size + 1, 1, none⟩ = some (.string a.coin) := BY'.out.cell 1
  have d2 : w1.cell? ⟨w.heap.size + 1, 2, none⟩ = some (.int .i64 a.amt) := BY'.out.cell 2
  have HO : Hid (Calls Try.prog 48 #[.agg #[.string e.party, .string e.coin, .int .i64 0], .agg #[.string a.party, .string a.coin, .int .i64 a.amt]] w1 _) := order_any ⟨e.party, e.coin, 0⟩ a w1
  have HK : Hid (kcmp (⟨e.party, e.coin, 0⟩ : Acct).key a.key = kcmp e.key a.key) := rfl
  rw [HK.out] at HO
  go_wp2_with fail
  go_at_call 48
  (with_reducible refine HO.out.mono ?_)
  rintro x w2 ⟨rfl, b2⟩
  have HB2 := Lib.hid (HB'.out.trans (b2.mono HB'.out.size))
  clear b2
  go_wp2_with fail
  go_ret
  exact ⟨rfl, HB2.out⟩
theorem cellUp {w w' : World} {a : Addr} {v : Value} (h : w.cell? a = some v) (b : Below w.heap.size w w') : w'.cell? a = some v := by
  rw [World.cell?_of_block (w := w) (b.block a.block (World.block_lt_of_cell? w a h))]; exact h
/-- Where the search stands. -/
structure SrSt {α : Type} (key : α → Ky) (l : List α) (t : Ky) (i j : Nat) : Prop where
  ij : i ≤ j
  jn : j ≤ l.length
  lo : ∀ x, 0 < i → l[i - 1]? = some x → kcmp (key x) t < 0
  hi : ∀ x, l[j]? = some x → ¬ kcmp (key x) t < 0
theorem SrSt.start {α : Type} (key : α → Ky) (l : List α) (t : Ky) : SrSt key l t 0 l.length := ⟨Nat.zero_le _, Nat.le_refl _, fun x h => absurd h (by omega), fun x h => by rw [List.getElem?_eq_none (Nat.le_refl _)] at h; cases h⟩
theorem SrSt.up {α : Type} {key : α → Ky} {l : List α} {t : Ky} {i j : Nat} (h : SrSt key l t i j) (hij : i < j) {x : α} (hx : l[(i + j) / 2]? = some x) (hc : kcmp (key x) t < 0) : SrSt key l t ((i + j) / 2 + 1) j :=
  ⟨by omega, h.jn, fun y _ hy => by rw [Nat.add_sub_cancel, hx] at hy; injection hy with hy; rw [← hy]; exact hc, h.hi⟩
theorem SrSt.down {α : Type} {key : α → Ky} {l : List α} {t : Ky} {i j : Nat} (h : SrSt key l t i j) (hij : i < j) {x : α} (hx : l[(i + j) / 2]? = some x) (hc : ¬ kcmp (key x) t < 0) : SrSt key l t i ((i + j) / 2) :=
  ⟨by omega, by have := h.jn; omega, h.lo, fun y hy => by rw [hx] at hy; injection hy with hy; rw [← hy]; exact hc⟩
theorem SrSt.fin {α : Type} {key : α → Ky} {l : List α} {t : Ky} {i j : Nat} (h : SrSt key l t i j) (hij : ¬ i < j) : AtK key l t i := by
  have e : i = j := by have := h.ij; omega
  subst e
  exact ⟨h.jn, h.lo, h.hi⟩
set_option maxRecDepth 100000 in
set_option maxHeartbeats 4000000 in
theorem searchE_any (base : Nat) (v : Value) (es : List Ent) (a : Acct) (w : World) (hE : EnAt base w v es) (hn : es.length ≤ 1000000) :
    Calls Try.prog 67 #[v, .agg (acctC a).toArray, .func (.func 68) #[] #[]] w fun x w' => (∃ i : Nat, x = .returned (.tuple #[.int .i64 (i : Nat), .bool (hitK Ent.key es a.key i)]) ∧ AtK Ent.key es a.key i) ∧ Below w.heap.size w w' := by
  have hal := (Below.refl w.heap.size w).alloc (Nat.le_refl _) (.cells (acctC a).toArray 51)
  have HB := Lib.hid hal
  have BX := Lib.hid (Mem.Blk.new w 51 (acctC a).toArray)
  have HE1 := Lib.hid (hE.below hal)
  have HN := Lib.hid hn
  have eg := entersL (P := Try.prog) Try.func68 (by kernel_rfl) rfl
  obtain ⟨av, cv, rfl⟩ := own_slice hE.row
  clear hal hE hn
  show Calls Try.prog 67 #[.slice av es.length cv, .agg #[.string a.party, .string a.coin, .int .i64 a.amt], .func (.func 68) #[] #[]] w _
  go_enter Try.func67, Try.ntmps67
  go_upto_region 1 with (fail)
  have HB' : Hid (Below w.heap.size w (w.alloc (.cells #[.string a.party, .string a.coin, .int .i64 a.amt] 51))) := HB.out
  have BX' : Hid (Mem.Blk (w.alloc (.cells #[.string a.party, .string a.coin, .int .i64 a.amt] 51)) w.heap.size 51 (acctC a).toArray) := BX.out
  have HE' : Hid (EnAt base (w.alloc (.cells #[.string a.party, .string a.coin, .int .i64 a.amt] 51)) (.slice av es.length cv) es) := HE1.out
  clear HB BX HE1
  generalize w.alloc (.cells #[.string a.party, .string a.coin, .int .i64 a.amt] 51) = w1 at *
  go_wp2_with fail
  go_loopw [9, 10] (fun x y wr => ∃ (i j : Nat), x = .int .i64 (i : Nat) ∧ y = .int .i64 (j : Nat) ∧ Hid (SrSt Ent.key es a.key i j ∧ Below w1.heap.size w1 wr)) (fun x y _ => (intOf y).toNat - (intOf x).toNat)
  case atStart => exact ⟨0, es.length, rfl, rfl, SrSt.start _ _ _, Below.refl _ _⟩
  case round =>
    obtain ⟨i, j, rfl, rfl, HS⟩ := hrel
    have BXR := Lib.hid (BX'.out.below HS.out.2)
    have HER := Lib.hid (HE'.out.below HS.out.2)
    have d0 : wr.cell? ⟨w.heap.size, 0, none⟩ = some (.string a.party) := BXR.out.cell 0
    have d1 : wr.cell? ⟨w.heap.size, 1, none⟩ = some (.string a.coin) := BXR.out.cell 1
    have d2 : wr.cell? ⟨w.heap.size, 2, none⟩ = some (.int .i64 a.amt) := BXR.out.cell 2
    have hjn : j ≤ 1000000 := by have := HS.out.1.jn; have := HN.out; omega
    have hij := HS.out.1.ij
    by_cases hlt : i < j
    · have hlt' : (i : Int) < (j : Int) := by omega
      obtain ⟨h, hh⟩ : ∃ h, h = (i + j) / 2 := ⟨_, rfl⟩
      have HH := Lib.hid hh
      have hw1 : IntKind.i64.wrap ((i : Int) + (j : Int)) = ((i + j : Nat) : Int) := by rw [IntWalk.i64_in _ (by omega)]; push_cast; rfl
      have hw2 : ((i + j : Nat) : Int) / 2 = (h : Int) := by omega
      have hw3 : ((i : Int) + (j : Int)) / 2 = (h : Int) := by omega
      have hhl : h < es.length := by have := HS.out.1.jn; omega
      obtain ⟨g, cap, e, hva, hx, c0, c1, c2, c3, -⟩ := HER.out.at h hhl
      injection hva with e1 _ e3
      subst e1; subst e3
      have HX := Lib.hid hx
      have HP : Hid (∀ W, Calls Try.prog 68 #[.agg #[.string e.party, .string e.coin, .int .i64 0, e.av], .agg #[.string a.party, .string a.coin, .int .i64 a.amt]] W _) := fun W => putf_any e a W
      obtain ⟨R, hR⟩ : ∃ R, R = kcmp e.key a.key := ⟨_, rfl⟩
      rw [← hR] at HP
      have HR := Lib.hid hR
      have hl0 : (h : Int) < (es.length : Int) := by omega
      have hl1 : (0 : Int) ≤ (h : Int) := by omega
      have hl2 : (h : Int) ≤ 1000000 := by omega
      clear hx hR hh hhl
      go_upto_region 5 with (fail)
      go_still_tail 6, (by kernel_rfl)
      change wpList _ _ _ _ _ wr.drew
      go_wp2_with fail
      go_at_call 68
      (with_reducible refine (HP.out _).mono ?_)
      rintro x w2 ⟨rfl, b2⟩
      have HB2 := Lib.hid (HS.out.2.trans (((Below.refl wr.heap.size wr).drew.trans b2).mono HS.out.2.size))
      clear b2 d0 d1 d2 c0 c1 c2 c3 HP
      by_cases hneg : R < 0
      · have HS2 := Lib.hid (HS.out.1.up hlt (by rw [← HH.out]; exact HX.out) (by rw [← HR.out]; exact hneg))
        rw [← HH.out] at HS2
        have HLT := Lib.hid hlt
        clear HS hlt
        go_wp2_with fail
        go_roundw
        case rel => exact ⟨h + 1, j, by go_num, rfl, HS2.out, HB2.out⟩
        case measure => simp [intOf]; have := HLT.out; have := HH.out; omega
      · have HS2 := Lib.hid (HS.out.1.down hlt (by rw [← HH.out]; exact HX.out) (by rw [← HR.out]; exact hneg))
        rw [← HH.out] at HS2
        have HLT := Lib.hid hlt
        clear HS hlt
        go_wp2_with fail
        go_roundw
        case rel => exact ⟨i, h, rfl, rfl, HS2.out, HB2.out⟩
        case measure => simp [intOf]; have := HLT.out; have := HH.out; omega
    · have hlt' : ¬ (i : Int) < (j : Int) := by omega
      have HF := Lib.hid (HS.out.1.fin hlt)
      have HB2 := Lib.hid (HB'.out.trans (HS.out.2.mono HB'.out.size))
      clear HS hlt
      by_cases hin : i < es.length
      · have hin' : (i : Int) < (es.length : Int) := by omega
        obtain ⟨g, cap, e, hva, hx, c0, c1, c2, c3, -⟩ := HER.out.at i hin
        injection hva with e1 _ e3
        subst e1; subst e3
        have HP : Hid (∀ W, Calls Try.prog 68 #[.agg #[.string e.party, .string e.coin, .int .i64 0, e.av], .agg #[.string a.party, .string a.coin, .int .i64 a.amt]] W _) := fun W => putf_any e a W
        obtain ⟨R, hR⟩ : ∃ R, R = kcmp e.key a.key := ⟨_, rfl⟩
        rw [← hR] at HP
        have HK : Hid (hitK Ent.key es a.key i = decide (R = 0)) := by
          show hitK _ _ _ _ = _
          unfold hitK
          rw [hx, hR]
        have hl1 : (0 : Int) ≤ (i : Int) := by omega
        have hl2 : (i : Int) ≤ 1000000 := by omega
        clear hx hR hin
        go_upto_region 8 with (fail)
        refine wp_region_till (S := fun W => W.cell? ⟨g, i * 4, none⟩ = some (.string e.party) ∧ W.cell? ⟨g, i * 4 + 1, none⟩ = some (.string e.coin) ∧ W.cell? ⟨g, i * 4 + 2, none⟩ = some (.int .i64 0) ∧ W.cell? ⟨g, i * 4 + 3, none⟩ = some e.av ∧ W.cell? ⟨w.heap.size, 0, none⟩ = some (.string a.party) ∧ W.cell? ⟨w.heap.size, 1, none⟩ = some (.string a.coin) ∧ W.cell? ⟨w.heap.size, 2, none⟩ = some (.int .i64 a.amt)) 11 (by kernel_rfl) ?_
        refine till_take (i := 1) (v := ?_) rfl (by kernel_rfl) (fun _ _ _ h => h) (Or.inl ⟨by rfl, ?_⟩) ⟨c0,c1,c2,c3,d0,d1,d2⟩ ?_
        rotate_left
        · intro W hS
          try dsimp only at hS
          go_split_ands
          go_simp
          try with_reducible rfl
        try simp only [Act.put, List.getElem_toArray, List.getElem_cons_zero, List.getElem_cons_succ, List.setIfInBounds_toArray, List.set_cons_zero, List.set_cons_succ]
        refine till_take (i := 2) (v := ?_) rfl (by kernel_rfl) (fun _ _ _ h => h) (Or.inl ⟨by rfl, ?_⟩) ⟨c0,c1,c2,c3,d0,d1,d2⟩ ?_
        rotate_left
        · intro W hS
          try dsimp only at hS
          go_split_ands
          go_simp
          try with_reducible rfl
        try simp only [Act.put, List.getElem_toArray, List.getElem_cons_zero, List.getElem_cons_succ, List.setIfInBounds_toArray, List.set_cons_zero, List.set_cons_succ]
        refine till_take (i := 3) (v := ?_) rfl (by kernel_rfl) (fun _ _ _ h => h) (Or.inl ⟨by rfl, ?_⟩) ⟨c0,c1,c2,c3,d0,d1,d2⟩ ?_
        rotate_left
        · intro W hS
          try dsimp only at hS
          go_split_ands
          go_simp
          try with_reducible rfl
        try simp only [Act.put, List.getElem_toArray, List.getElem_cons_zero, List.getElem_cons_succ, List.setIfInBounds_toArray, List.set_cons_zero, List.set_cons_succ]
        refine till_take (i := 4) (v := ?_) rfl (by kernel_rfl) (fun _ _ _ h => h) (Or.inl ⟨by rfl, ?_⟩) ⟨c0,c1,c2,c3,d0,d1,d2⟩ ?_
        rotate_left
        · intro W hS
          try dsimp only at hS
          go_split_ands
          go_simp
          try with_reducible rfl
        try simp only [Act.put, List.getElem_toArray, List.getElem_cons_zero, List.getElem_cons_succ, List.setIfInBounds_toArray, List.set_cons_zero, List.set_cons_succ]
        refine till_take (i := 5) (v := ?_) rfl (by kernel_rfl) (fun _ _ _ h => h) (Or.inl ⟨by rfl, ?_⟩) ⟨c0,c1,c2,c3,d0,d1,d2⟩ ?_
        rotate_left
        · intro W hS
          try dsimp only at hS
          go_split_ands
          go_simp
          try with_reducible rfl
        try simp only [Act.put, List.getElem_toArray, List.getElem_cons_zero, List.getElem_cons_succ, List.setIfInBounds_toArray, List.set_cons_zero, List.set_cons_succ]
        refine till_take (i := 6) (v := ?_) rfl (by kernel_rfl) (fun _ _ _ h => h) (Or.inl ⟨by rfl, ?_⟩) ⟨c0,c1,c2,c3,d0,d1,d2⟩ ?_
        rotate_left
        · intro W hS
          try dsimp only at hS
          go_split_ands
          go_simp
          try with_reducible rfl
        try simp only [Act.put, List.getElem_toArray, List.getElem_cons_zero, List.getElem_cons_succ, List.setIfInBounds_toArray, List.set_cons_zero, List.set_cons_succ]
        refine till_take (i := 7) (v := ?_) rfl (by kernel_rfl) (fun _ _ _ h => h) (Or.inl ⟨by rfl, ?_⟩) ⟨c0,c1,c2,c3,d0,d1,d2⟩ ?_
        rotate_left
        · intro W hS
          try dsimp only at hS
          go_split_ands
          go_simp
          try with_reducible rfl
        try simp only [Act.put, List.getElem_toArray, List.getElem_cons_zero, List.getElem_cons_succ, List.setIfInBounds_toArray, List.set_cons_zero, List.set_cons_succ]
        refine till_take (i := 8) (v := ?_) rfl (by kernel_rfl) (fun _ _ _ h => h) (Or.inl ⟨by rfl, ?_⟩) ⟨c0,c1,c2,c3,d0,d1,d2⟩ ?_
        rotate_left
        · intro W hS
          try dsimp only at hS
          go_split_ands
          go_simp
          try with_reducible rfl
        try simp only [Act.put, List.getElem_toArray, List.getElem_cons_zero, List.getElem_cons_succ, List.setIfInBounds_toArray, List.set_cons_zero, List.set_cons_succ]
        refine till_take (i := 9) (v := ?_) rfl (by kernel_rfl) (fun _ _ _ h => h) (Or.inl ⟨by rfl, ?_⟩) ⟨c0,c1,c2,c3,d0,d1,d2⟩ ?_
        rotate_left
        · intro W hS
          try dsimp only at hS
          go_split_ands
          go_simp
          try with_reducible rfl
        try simp only [Act.put, List.getElem_toArray, List.getElem_cons_zero, List.getElem_cons_succ, List.setIfInBounds_toArray, List.set_cons_zero, List.set_cons_succ]
        refine till_take (i := 10) (v := ?_) rfl (by kernel_rfl) (fun _ _ _ h => h) (Or.inl ⟨by rfl, ?_⟩) ⟨c0,c1,c2,c3,d0,d1,d2⟩ ?_
        rotate_left
        · intro W hS
          try dsimp only at hS
          go_split_ands
          go_simp
          try with_reducible rfl
        try simp only [Act.put, List.getElem_toArray, List.getElem_cons_zero, List.getElem_cons_succ, List.setIfInBounds_toArray, List.set_cons_zero, List.set_cons_succ]
        refine till_two (i := 0) (j := 11) (by kernel_rfl) rfl rfl (fun K' hK => ?_) (fun K' hK => ?_)
        · go_simp
          refine hK _ _ ⟨c0,c1,c2,c3,d0,d1,d2⟩ ?_
          clear hK K'
          try simp only [Act.put, List.getElem_toArray, List.getElem_cons_zero, List.getElem_cons_succ, List.setIfInBounds_toArray, List.set_cons_zero, List.set_cons_succ]
          refine till_last (by kernel_rfl) rfl (by kernel_rfl) (fun K' hK => ?_)
          go_simp
          (with_reducible refine (HP.out _).mono ?_)
          rintro x w2 ⟨rfl, b2⟩
          have HB3 := Lib.hid (HB2.out.trans (((Below.refl wr.heap.size wr).drew.trans b2).mono HB2.out.size))
          refine hK _ _ ?_
          clear hK K'
          try simp only [Act.put, List.getElem_toArray, List.getElem_cons_zero, List.getElem_cons_succ, List.setIfInBounds_toArray, List.set_cons_zero, List.set_cons_succ]
          clear b2 d0 d1 d2 c0 c1 c2 c3 HP
          refine any_take (i := 12) (v := ?_) rfl (by kernel_rfl) (fun _ _ _ h => h) (Or.inl ⟨by rfl, ?_⟩) ?_
          rotate_left
          · intro W
            go_simp
            try with_reducible rfl
          try simp only [Act.put, List.getElem_toArray, List.getElem_cons_zero, List.getElem_cons_succ, List.setIfInBounds_toArray, List.set_cons_zero, List.set_cons_succ]
          refine any_take (i := 13) (v := ?_) rfl (by kernel_rfl) (fun _ _ _ h => h) (Or.inl ⟨by rfl, ?_⟩) ?_
          rotate_left
          · intro W
            go_simp
            try with_reducible rfl
          try simp only [Act.put, List.getElem_toArray, List.getElem_cons_zero, List.getElem_cons_succ, List.setIfInBounds_toArray, List.set_cons_zero, List.set_cons_succ]
          refine any_take (i := 14) (v := ?_) rfl (by kernel_rfl) (fun _ _ _ h => h) (Or.inl ⟨by rfl, ?_⟩) ?_
          rotate_left
          · intro W
            go_simp
            try with_reducible rfl
          try simp only [Act.put, List.getElem_toArray, List.getElem_cons_zero, List.getElem_cons_succ, List.setIfInBounds_toArray, List.set_cons_zero, List.set_cons_succ]
          refine any_take (i := 15) (v := ?_) rfl (by kernel_rfl) (fun _ _ _ h => h) (Or.inl ⟨by rfl, ?_⟩) ?_
          rotate_left
          · intro W
            go_simp
            try with_reducible rfl
          try simp only [Act.put, List.getElem_toArray, List.getElem_cons_zero, List.getElem_cons_succ, List.setIfInBounds_toArray, List.set_cons_zero, List.set_cons_succ]
          refine wpAny_done (by kernel_rfl) ?_ _
          go_wp2_with fail
          go_ret2
          exact ⟨⟨i, by rw [HK.out]; rfl, HF.out⟩, HB3.out⟩
        · go_simp
          (with_reducible refine (HP.out _).mono ?_)
          rintro x w2 ⟨rfl, b2⟩
          have HB3 := Lib.hid (HB2.out.trans (((Below.refl wr.heap.size wr).drew.trans b2).mono HB2.out.size))
          have b3 := (Below.refl wr.heap.size wr).drew.trans b2
          refine hK _ _ ⟨cellUp c0 b3, cellUp c1 b3, cellUp c2 b3, cellUp c3 b3, cellUp d0 b3, cellUp d1 b3, cellUp d2 b3⟩ ?_
          clear hK K'
          try simp only [Act.put, List.getElem_toArray, List.getElem_cons_zero, List.getElem_cons_succ, List.setIfInBounds_toArray, List.set_cons_zero, List.set_cons_succ]
          clear b2 b3 d0 d1 d2 c0 c1 c2 c3 HP
          refine till_of_any _ _ _ _ (by kernel_rfl) ?_
          refine any_take (i := 0) (v := ?_) rfl (by kernel_rfl) (fun _ _ _ h => h) (Or.inl ⟨by rfl, ?_⟩) ?_
          rotate_left
          · intro W
            go_simp
            try with_reducible rfl
          try simp only [Act.put, List.getElem_toArray, List.getElem_cons_zero, List.getElem_cons_succ, List.setIfInBounds_toArray, List.set_cons_zero, List.set_cons_succ]
          refine any_take (i := 12) (v := ?_) rfl (by kernel_rfl) (fun _ _ _ h => h) (Or.inl ⟨by rfl, ?_⟩) ?_
          rotate_left
          · intro W
            go_simp
            try with_reducible rfl
          try simp only [Act.put, List.getElem_toArray, List.getElem_cons_zero, List.getElem_cons_succ, List.setIfInBounds_toArray, List.set_cons_zero, List.set_cons_succ]
          refine any_take (i := 13) (v := ?_) rfl (by kernel_rfl) (fun _ _ _ h => h) (Or.inl ⟨by rfl, ?_⟩) ?_
          rotate_left
          · intro W
            go_simp
            try with_reducible rfl
          try simp only [Act.put, List.getElem_toArray, List.getElem_cons_zero, List.getElem_cons_succ, List.setIfInBounds_toArray, List.set_cons_zero, List.set_cons_succ]
          refine any_take (i := 14) (v := ?_) rfl (by kernel_rfl) (fun _ _ _ h => h) (Or.inl ⟨by rfl, ?_⟩) ?_
          rotate_left
          · intro W
            go_simp
            try with_reducible rfl
          try simp only [Act.put, List.getElem_toArray, List.getElem_cons_zero, List.getElem_cons_succ, List.setIfInBounds_toArray, List.set_cons_zero, List.set_cons_succ]
          refine any_take (i := 15) (v := ?_) rfl (by kernel_rfl) (fun _ _ _ h => h) (Or.inl ⟨by rfl, ?_⟩) ?_
          rotate_left
          · intro W
            go_simp
            try with_reducible rfl
          try simp only [Act.put, List.getElem_toArray, List.getElem_cons_zero, List.getElem_cons_succ, List.setIfInBounds_toArray, List.set_cons_zero, List.set_cons_succ]
          refine wpAny_done (by kernel_rfl) ?_ _
          go_wp2_with fail
          go_ret2
          exact ⟨⟨i, by rw [HK.out]; rfl, HF.out⟩, HB3.out⟩
      · have hin' : decide ((i : Int) < (es.length : Int)) = false := decide_eq_false (by omega)
        have hin2 : decide (i < es.length) = false := decide_eq_false hin
        have HK : Hid (hitK Ent.key es a.key i = false) := by
          show hitK _ _ _ _ = _
          unfold hitK
          rw [List.getElem?_eq_none (by omega)]
        clear hin
        go_upto_region 8 with (fail)
        go_quiet (fail)
        have HB3 := Lib.hid (HB2.out.trans ((below_dN (Below.refl wr.heap.size wr) nq).mono HB2.out.size))
        go_wp2_with fail
        go_ret2
        exact ⟨⟨i, by rw [HK.out]; rfl, HF.out⟩, HB3.out⟩
end Go.Proofs.Ytgbiimoednmlgaa
