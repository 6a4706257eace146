/- The contracts of the search over accounts, of Get. -/
import Derived.Test.YtgbiimoednmlgaaLdG
namespace Go.Proofs.Ytgbiimoednmlgaa
set_option linter.unusedVariables false
set_option linter.unusedSimpArgs false
open Go.RowKit
set_option maxRecDepth 100000 in
set_option maxHeartbeats 4000000 in
theorem searchA_any (l : List Acct) (la : Option Addr) (len lc : Nat) (a : Acct) (w : World) (hE : SlR acctK w [] l la len lc) (hn : len ≤ 1000000) :
    Calls Try.prog 61 #[.slice la len lc, .agg (acctC a).toArray, .func (.func 48) #[] #[]] w fun x w' => (∃ i : Nat, x = .returned (.tuple #[.int .i64 (i : Nat), .bool (hitK Acct.key l a.key i)]) ∧ AtK Acct.key l a.key i) ∧ Below w.heap.size w w' := by
  have hal := (Below.refl w.heap.size w).alloc (Nat.le_refl _) (.cells (acctC a).toArray 51)
  have HB := Lib.hid hal
  have BX := Lib.hid (Mem.Blk.new w 51 (acctC a).toArray)
  have HE1 := Lib.hid (hE.kept (Kept.of_below hal []))
  have HN := Lib.hid hn
  have HLL := Lib.hid hE.facts.1
  have eg := entersL (P := Try.prog) Try.func48 (by kernel_rfl) rfl
  clear hal hE hn
  show Calls Try.prog 61 #[.slice la len lc, .agg #[.string a.party, .string a.coin, .int .i64 a.amt], .func (.func 48) #[] #[]] w _
  go_enter Try.func61, Try.ntmps61
  go_upto_region 1 with (fail)
  have HB' : Hid (Below w.heap.size w (w.alloc (.cells #[.string a.party, .string a.coin, .int .i64 a.amt] 51))) := HB.out
  have BX' : Hid (Mem.Blk (w.alloc (.cells #[.string a.party, .string a.coin, .int .i64 a.amt] 51)) w.heap.size 51 (acctC a).toArray) := BX.out
  have HE' : Hid (SlR acctK (w.alloc (.cells #[.string a.party, .string a.coin, .int .i64 a.amt] 51)) [] l la len lc) := HE1.out
  clear HB BX HE1
  generalize w.alloc (.cells #[.string a.party, .string a.coin, .int .i64 a.amt] 51) = w1 at *
  go_wp2_with fail
  go_loopw [9, 10] (fun x y wr => ∃ (i j : Nat), x = .int .i64 (i : Nat) ∧ y = .int .i64 (j : Nat) ∧ Hid (SrSt Acct.key l a.key i j ∧ Below w1.heap.size w1 wr)) (fun x y _ => (intOf y).toNat - (intOf x).toNat)
  case atStart => exact ⟨0, len, rfl, rfl, by have := SrSt.start Acct.key l a.key; rw [HLL.out] at this; exact this, Below.refl _ _⟩
  case round =>
    obtain ⟨i, j, rfl, rfl, HS⟩ := hrel
    have BXR := Lib.hid (BX'.out.below HS.out.2)
    have HER := Lib.hid (HE'.out.kept (Kept.of_below HS.out.2 []))
    have d0 : wr.cell? ⟨w.heap.size, 0, none⟩ = some (.string a.party) := BXR.out.cell 0
    have d1 : wr.cell? ⟨w.heap.size, 1, none⟩ = some (.string a.coin) := BXR.out.cell 1
    have d2 : wr.cell? ⟨w.heap.size, 2, none⟩ = some (.int .i64 a.amt) := BXR.out.cell 2
    have hjn : j ≤ 1000000 := by have := HS.out.1.jn; have := HN.out; have := HLL.out; omega
    have hij := HS.out.1.ij
    by_cases hlt : i < j
    · have hlt' : (i : Int) < (j : Int) := by omega
      obtain ⟨h, hh⟩ : ∃ h, h = (i + j) / 2 := ⟨_, rfl⟩
      have HH := Lib.hid hh
      have hw1 : IntKind.i64.wrap ((i : Int) + (j : Int)) = ((i + j : Nat) : Int) := by rw [IntWalk.i64_in _ (by omega)]; push_cast; rfl
      have hw2 : ((i + j : Nat) : Int) / 2 = (h : Int) := by omega
      have hw3 : ((i : Int) + (j : Int)) / 2 = (h : Int) := by omega
      have hhl : h < len := by have := HS.out.1.jn; have := HLL.out; omega
      obtain ⟨b, o, e, rfl, hx, -, c0, c1, c2⟩ := acct_at HER.out h hhl
      have HX := Lib.hid hx
      have HP : Hid (∀ W, Calls Try.prog 48 #[.agg #[.string e.party, .string e.coin, .int .i64 e.amt], .agg #[.string a.party, .string a.coin, .int .i64 a.amt]] W _) := fun W => order_any e a W
      obtain ⟨R, hR⟩ : ∃ R, R = kcmp e.key a.key := ⟨_, rfl⟩
      rw [← hR] at HP
      have HR := Lib.hid hR
      have hl0 : (h : Int) < (len : Int) := by omega
      have hl1 : (0 : Int) ≤ (h : Int) := by omega
      have hl2 : (h : Int) ≤ 1000000 := by omega
      clear hx hR hh hhl
      go_upto_region 5 with (fail)
      go_still_tail 6, (by kernel_rfl)
      change wpList _ _ _ _ _ wr.drew
      go_wp2_with fail
      go_at_call 48
      (with_reducible refine (HP.out _).mono ?_)
      rintro x w2 ⟨rfl, b2⟩
      have HB2 := Lib.hid (HS.out.2.trans (((Below.refl wr.heap.size wr).drew.trans b2).mono HS.out.2.size))
      clear b2 d0 d1 d2 c0 c1 c2 HP
      by_cases hneg : R < 0
      · have HS2 := Lib.hid (HS.out.1.up hlt (by rw [← HH.out]; exact HX.out) (by rw [← HR.out]; exact hneg))
        rw [← HH.out] at HS2
        have HLT := Lib.hid hlt
        clear HS hlt
        go_wp2_with fail
        go_roundw
        case rel => exact ⟨h + 1, j, by go_num, rfl, HS2.out, HB2.out⟩
        case measure => simp [intOf]; have := HLT.out; have := HH.out; omega
      · have HS2 := Lib.hid (HS.out.1.down hlt (by rw [← HH.out]; exact HX.out) (by rw [← HR.out]; exact hneg))
        rw [← HH.out] at HS2
        have HLT := Lib.hid hlt
        clear HS hlt
        go_wp2_with fail
        go_roundw
        case rel => exact ⟨i, h, rfl, rfl, HS2.out, HB2.out⟩
        case measure => simp [intOf]; have := HLT.out; have := HH.out; omega
    · have hlt' : ¬ (i : Int) < (j : Int) := by omega
      have HF := Lib.hid (HS.out.1.fin hlt)
      have HB2 := Lib.hid (HB'.out.trans (HS.out.2.mono HB'.out.size))
      clear HS hlt
      by_cases hin : i < len
      · have hin' : (i : Int) < (len : Int) := by omega
        obtain ⟨b, o, e, rfl, hx, -, c0, c1, c2⟩ := acct_at HER.out i hin
        have HP : Hid (∀ W, Calls Try.prog 48 #[.agg #[.string e.party, .string e.coin, .int .i64 e.amt], .agg #[.string a.party, .string a.coin, .int .i64 a.amt]] W _) := fun W => order_any e a W
        obtain ⟨R, hR⟩ : ∃ R, R = kcmp e.key a.key := ⟨_, rfl⟩
        rw [← hR] at HP
        have HK : Hid (hitK Acct.key l a.key i = decide (R = 0)) := by
          show hitK _ _ _ _ = _
          unfold hitK
          rw [hx, hR]
        have hl1 : (0 : Int) ≤ (i : Int) := by omega
        have hl2 : (i : Int) ≤ 1000000 := by omega
        clear hx hR hin
        go_upto_region 8 with (fail)
        refine wp_region_till (S := fun W => W.cell? ⟨b, o + i * 3, none⟩ = some (.string e.party) ∧ W.cell? ⟨b, o + i * 3 + 1, none⟩ = some (.string e.coin) ∧ W.cell? ⟨b, o + i * 3 + 2, none⟩ = some (.int .i64 e.amt) ∧ W.cell? ⟨w.heap.size, 0, none⟩ = some (.string a.party) ∧ W.cell? ⟨w.heap.size, 1, none⟩ = some (.string a.coin) ∧ W.cell? ⟨w.heap.size, 2, none⟩ = some (.int .i64 a.amt)) 11 (by kernel_rfl) ?_
        refine till_take (i := 1) (v := ?_) rfl (by kernel_rfl) (fun _ _ _ h => h) (Or.inl ⟨by rfl, ?_⟩) ⟨c0,c1,c2,d0,d1,d2⟩ ?_
        rotate_left
        · intro W hS
          try dsimp only at hS
          go_split_ands
          go_simp
          try with_reducible rfl
        try simp only [Act.put, List.getElem_toArray, List.getElem_cons_zero, List.getElem_cons_succ, List.setIfInBounds_toArray, List.set_cons_zero, List.set_cons_succ]
        refine till_take (i := 2) (v := ?_) rfl (by kernel_rfl) (fun _ _ _ h => h) (Or.inl ⟨by rfl, ?_⟩) ⟨c0,c1,c2,d0,d1,d2⟩ ?_
        rotate_left
        · intro W hS
          try dsimp only at hS
          go_split_ands
          go_simp
          try with_reducible rfl
        try simp only [Act.put, List.getElem_toArray, List.getElem_cons_zero, List.getElem_cons_succ, List.setIfInBounds_toArray, List.set_cons_zero, List.set_cons_succ]
        refine till_take (i := 3) (v := ?_) rfl (by kernel_rfl) (fun _ _ _ h => h) (Or.inl ⟨by rfl, ?_⟩) ⟨c0,c1,c2,d0,d1,d2⟩ ?_
        rotate_left
        · intro W hS
          try dsimp only at hS
          go_split_ands
          go_simp
          try with_reducible rfl
        try simp only [Act.put, List.getElem_toArray, List.getElem_cons_zero, List.getElem_cons_succ, List.setIfInBounds_toArray, List.set_cons_zero, List.set_cons_succ]
        refine till_take (i := 4) (v := ?_) rfl (by kernel_rfl) (fun _ _ _ h => h) (Or.inl ⟨by rfl, ?_⟩) ⟨c0,c1,c2,d0,d1,d2⟩ ?_
        rotate_left
        · intro W hS
          try dsimp only at hS
          go_split_ands
          go_simp
          try with_reducible rfl
        try simp only [Act.put, List.getElem_toArray, List.getElem_cons_zero, List.getElem_cons_succ, List.setIfInBounds_toArray, List.set_cons_zero, List.set_cons_succ]
        refine till_take (i := 5) (v := ?_) rfl (by kernel_rfl) (fun _ _ _ h => h) (Or.inl ⟨by rfl, ?_⟩) ⟨c0,c1,c2,d0,d1,d2⟩ ?_
        rotate_left
        · intro W hS
          try dsimp only at hS
          go_split_ands
          go_simp
          try with_reducible rfl
        try simp only [Act.put, List.getElem_toArray, List.getElem_cons_zero, List.getElem_cons_succ, List.setIfInBounds_toArray, List.set_cons_zero, List.set_cons_succ]
        refine till_take (i := 6) (v := ?_) rfl (by kernel_rfl) (fun _ _ _ h => h) (Or.inl ⟨by rfl, ?_⟩) ⟨c0,c1,c2,d0,d1,d2⟩ ?_
        rotate_left
        · intro W hS
          try dsimp only at hS
          go_split_ands
          go_simp
          try with_reducible rfl
        try simp only [Act.put, List.getElem_toArray, List.getElem_cons_zero, List.getElem_cons_succ, List.setIfInBounds_toArray, List.set_cons_zero, List.set_cons_succ]
        refine till_take (i := 7) (v := ?_) rfl (by kernel_rfl) (fun _ _ _ h => h) (Or.inl ⟨by rfl, ?_⟩) ⟨c0,c1,c2,d0,d1,d2⟩ ?_
        rotate_left
        · intro W hS
          try dsimp only at hS
          go_split_ands
          go_simp
          try with_reducible rfl
        try simp only [Act.put, List.getElem_toArray, List.getElem_cons_zero, List.getElem_cons_succ, List.setIfInBounds_toArray, List.set_cons_zero, List.set_cons_succ]
        refine till_take (i := 8) (v := ?_) rfl (by kernel_rfl) (fun _ _ _ h => h) (Or.inl ⟨by rfl, ?_⟩) ⟨c0,c1,c2,d0,d1,d2⟩ ?_
        rotate_left
        · intro W hS
          try dsimp only at hS
          go_split_ands
          go_simp
          try with_reducible rfl
        try simp only [Act.put, List.getElem_toArray, List.getElem_cons_zero, List.getElem_cons_succ, List.setIfInBounds_toArray, List.set_cons_zero, List.set_cons_succ]
        refine till_take (i := 9) (v := ?_) rfl (by kernel_rfl) (fun _ _ _ h => h) (Or.inl ⟨by rfl, ?_⟩) ⟨c0,c1,c2,d0,d1,d2⟩ ?_
        rotate_left
        · intro W hS
          try dsimp only at hS
          go_split_ands
          go_simp
          try with_reducible rfl
        try simp only [Act.put, List.getElem_toArray, List.getElem_cons_zero, List.getElem_cons_succ, List.setIfInBounds_toArray, List.set_cons_zero, List.set_cons_succ]
        refine till_take (i := 10) (v := ?_) rfl (by kernel_rfl) (fun _ _ _ h => h) (Or.inl ⟨by rfl, ?_⟩) ⟨c0,c1,c2,d0,d1,d2⟩ ?_
        rotate_left
        · intro W hS
          try dsimp only at hS
          go_split_ands
          go_simp
          try with_reducible rfl
        try simp only [Act.put, List.getElem_toArray, List.getElem_cons_zero, List.getElem_cons_succ, List.setIfInBounds_toArray, List.set_cons_zero, List.set_cons_succ]
        refine till_two (i := 0) (j := 11) (by kernel_rfl) rfl rfl (fun K' hK => ?_) (fun K' hK => ?_)
        · go_simp
          refine hK _ _ ⟨c0,c1,c2,d0,d1,d2⟩ ?_
          clear hK K'
          try simp only [Act.put, List.getElem_toArray, List.getElem_cons_zero, List.getElem_cons_succ, List.setIfInBounds_toArray, List.set_cons_zero, List.set_cons_succ]
          refine till_last (by kernel_rfl) rfl (by kernel_rfl) (fun K' hK => ?_)
          go_simp
          (with_reducible refine (HP.out _).mono ?_)
          rintro x w2 ⟨rfl, b2⟩
          have HB3 := Lib.hid (HB2.out.trans (((Below.refl wr.heap.size wr).drew.trans b2).mono HB2.out.size))
          refine hK _ _ ?_
          clear hK K'
          try simp only [Act.put, List.getElem_toArray, List.getElem_cons_zero, List.getElem_cons_succ, List.setIfInBounds_toArray, List.set_cons_zero, List.set_cons_succ]
          clear b2 d0 d1 d2 c0 c1 c2 HP
          refine any_take (i := 12) (v := ?_) rfl (by kernel_rfl) (fun _ _ _ h => h) (Or.inl ⟨by rfl, ?_⟩) ?_
          rotate_left
          · intro W
            go_simp
            try with_reducible rfl
          try simp only [Act.put, List.getElem_toArray, List.getElem_cons_zero, List.getElem_cons_succ, List.setIfInBounds_toArray, List.set_cons_zero, List.set_cons_succ]
          refine any_take (i := 13) (v := ?_) rfl (by kernel_rfl) (fun _ _ _ h => h) (Or.inl ⟨by rfl, ?_⟩) ?_
          rotate_left
          · intro W
            go_simp
            try with_reducible rfl
          try simp only [Act.put, List.getElem_toArray, List.getElem_cons_zero, List.getElem_cons_succ, List.setIfInBounds_toArray, List.set_cons_zero, List.set_cons_succ]
          refine any_take (i := 14) (v := ?_) rfl (by kernel_rfl) (fun _ _ _ h => h) (Or.inl ⟨by rfl, ?_⟩) ?_
          rotate_left
          · intro W
            go_simp
            try with_reducible rfl
          try simp only [Act.put, List.getElem_toArray, List.getElem_cons_zero, List.getElem_cons_succ, List.setIfInBounds_toArray, List.set_cons_zero, List.set_cons_succ]
          refine any_take (i := 15) (v := ?_) rfl (by kernel_rfl) (fun _ _ _ h => h) (Or.inl ⟨by rfl, ?_⟩) ?_
          rotate_left
          · intro W
            go_simp
            try with_reducible rfl
          try simp only [Act.put, List.getElem_toArray, List.getElem_cons_zero, List.getElem_cons_succ, List.setIfInBounds_toArray, List.set_cons_zero, List.set_cons_succ]
          refine wpAny_done (by kernel_rfl) ?_ _
          go_wp2_with fail
          go_ret2
          exact ⟨⟨i, by rw [HK.out]; rfl, HF.out⟩, HB3.out⟩
        · go_simp
          (with_reducible refine (HP.out _).mono ?_)
          rintro x w2 ⟨rfl, b2⟩
          have HB3 := Lib.hid (HB2.out.trans (((Below.refl wr.heap.size wr).drew.trans b2).mono HB2.out.size))
          have b3 := (Below.refl wr.heap.size wr).drew.trans b2
          refine hK _ _ ⟨cellUp c0 b3, cellUp c1 b3, cellUp c2 b3, cellUp d0 b3, cellUp d1 b3, cellUp d2 b3⟩ ?_
          clear hK K'
          try simp only [Act.put, List.getElem_toArray, List.getElem_cons_zero, List.getElem_cons_succ, List.setIfInBounds_toArray, List.set_cons_zero, List.set_cons_succ]
          clear b2 b3 d0 d1 d2 c0 c1 c2 HP
          refine till_of_any _ _ _ _ (by kernel_rfl) ?_
          refine any_take (i := 0) (v := ?_) rfl (by kernel_rfl) (fun _ _ _ h => h) (Or.inl ⟨by rfl, ?_⟩) ?_
          rotate_left
          · intro W
            go_simp
            try with_reducible rfl
          try simp only [Act.put, List.getElem_toArray, List.getElem_cons_zero, List.getElem_cons_succ, List.setIfInBounds_toArray, List.set_cons_zero, List.set_cons_succ]
          refine any_take (i := 12) (v := ?_) rfl (by kernel_rfl) (fun _ _ _ h => h) (Or.inl ⟨by rfl, ?_⟩) ?_
          rotate_left
          · intro W
            go_simp
            try with_reducible rfl
          try simp only [Act.put, List.getElem_toArray, List.getElem_cons_zero, List.getElem_cons_succ, List.setIfInBounds_toArray, List.set_cons_zero, List.set_cons_succ]
          refine any_take (i := 13) (v := ?_) rfl (by kernel_rfl) (fun _ _ _ h => h) (Or.inl ⟨by rfl, ?_⟩) ?_
          rotate_left
          · intro W
            go_simp
            try with_reducible rfl
          try simp only [Act.put, List.getElem_toArray, List.getElem_cons_zero, List.getElem_cons_succ, List.setIfInBounds_toArray, List.set_cons_zero, List.set_cons_succ]
          refine any_take (i := 14) (v := ?_) rfl (by kernel_rfl) (fun _ _ _ h => h) (Or.inl ⟨by rfl, ?_⟩) ?_
          rotate_left
          · intro W
            go_simp
            try with_reducible rfl
          try simp only [Act.put, List.getElem_toArray, List.getElem_cons_zero, List.getElem_cons_succ, List.setIfInBounds_toArray, List.set_cons_zero, List.set_cons_succ]
          refine any_take (i := 15) (v := ?_) rfl (by kernel_rfl) (fun _ _ _ h => h) (Or.inl ⟨by rfl, ?_⟩) ?_
          rotate_left
          · intro W
            go_simp
            try with_reducible rfl
          try simp only [Act.put, List.getElem_toArray, List.getElem_cons_zero, List.getElem_cons_succ, List.setIfInBounds_toArray, List.set_cons_zero, List.set_cons_succ]
          refine wpAny_done (by kernel_rfl) ?_ _
          go_wp2_with fail
          go_ret2
          exact ⟨⟨i, by rw [HK.out]; rfl, HF.out⟩, HB3.out⟩
      · have hin' : decide ((i : Int) < (len : Int)) = false := decide_eq_false (by omega)
        have hin2 : decide (i < len) = false := decide_eq_false hin
        have HK : Hid (hitK Acct.key l a.key i = false) := by
          show hitK _ _ _ _ = _
          unfold hitK
          rw [List.getElem?_eq_none (by have := HLL.out; omega)]
        clear hin
        go_upto_region 8 with (fail)
        go_quiet (fail)
        have HB3 := Lib.hid (HB2.out.trans ((below_dN (Below.refl wr.heap.size wr) nq).mono HB2.out.size))
        go_wp2_with fail
        go_ret2
        exact ⟨⟨i, by rw [HK.out]; rfl, HF.out⟩, HB3.out⟩
theorem AtK.miss {α : Type} {key : α → Ky} {l : List α} {t : Ky} {i : Nat} (a : AtK key l t i) (h : UpK key l) (hh : hitK key l t i = false) : ∀ x ∈ l, key x ≠ t := by
  intro x hx e
  obtain ⟨j, hj⟩ := List.getElem?_of_mem hx
  rcases Nat.lt_trichotomy j i with h1 | h1 | h1
  · have := a.below h j x h1 hj
    rw [e] at this; exact klt_irrefl _ this
  · rw [h1] at hj
    have := a.here hh hj
    rw [e] at this; exact klt_irrefl _ this
  · have := a.above h j x h1 hj
    rw [e] at this; exact klt_irrefl _ this
/-- What a party has of a currency, in right books; else nothing. -/
def getA (l : List Acct) (k : Ky) : Int := if rightA l then tot (conA l) k else 0
set_option maxRecDepth 100000 in
set_option maxHeartbeats 4000000 in
theorem get_any (l : List Acct) (la : Option Addr) (len lc : Nat) (p c : ByteArray) (w : World) (hE : SlR acctK w [] l la len lc) (hn : len ≤ 1000000) :
    Calls Try.prog 29 #[.slice la len lc, .string p, .string c] w fun x w' => x = .returned (.int .i64 (getA l (p.data.toList, c.data.toList))) ∧ Below w.heap.size w w' := by
  have HS := Lib.hid hE
  have HN := Lib.hid hn
  have HSA : Hid (Calls Try.prog 61 #[.slice la len lc, .agg #[.string p, .string c, .int .i64 0], .func (.func 48) #[] #[]] w _) := searchA_any l la len lc ⟨p, c, 0⟩ w hE hn
  obtain ⟨k, hk⟩ : ∃ k : Ky, k = (p.data.toList, c.data.toList) := ⟨_, rfl⟩
  have HK : Hid ((⟨p, c, 0⟩ : Acct).key = k) := by rw [hk]; rfl
  rw [HK.out] at HSA
  rw [← hk]
  obtain ⟨R, hR⟩ : ∃ R, R = getA l k := ⟨_, rfl⟩
  have HR := Lib.hid hR
  rw [← hR]
  clear hE hn hk hR HK
  go_enter Try.func29, Try.ntmps29
  go_wp2_with fail
  go_at_call 61
  (with_reducible refine HSA.out.mono ?_)
  rintro x w1 ⟨⟨i, rfl, hat⟩, b1⟩
  have HB1 := Lib.hid b1
  have HAT := Lib.hid hat
  clear HSA hat
  cases hh : hitK Acct.key l k i with
  | false =>
    have HF : Hid (R = 0) := by
      show _ = _
      rw [HR.out]
      unfold getA
      cases hr : rightA l with
      | false => rfl
      | true =>
        rw [if_pos rfl]
        refine tot_conA_none (fun a ha e => ?_)
        exact AtK.miss HAT.out (rightA_iff.1 hr).2 hh a ha e
    clear HR hh
    go_wp2_with fail
    go_ret
    exact ⟨by rw [HF.out]; rfl, HB1.out⟩
  | true =>
    obtain ⟨x, hx, hxk⟩ := hitK_key hh
    have HX := Lib.hid hx
    have HRT := Lib.hid (right_any l la len lc w1 (HS.out.kept (Kept.of_below b1 [])) HN.out)
    clear b1 hh hx
    go_wp2_with fail
    go_at_call 22
    (with_reducible refine HRT.out.mono ?_)
    rintro y w2 ⟨rfl, b2⟩
    have HB2 := Lib.hid (HB1.out.trans (b2.mono HB1.out.size))
    clear b2 HRT HB1
    cases hr : rightA l with
    | false =>
      have HF : Hid (R = 0) := by show _ = _; rw [HR.out]; unfold getA; rw [hr]; rfl
      clear HR hr hxk
      go_wp2_with fail
      go_ret
      exact ⟨by rw [HF.out]; rfl, HB2.out⟩
    | true =>
      have HF : Hid (R = x.amt) := by
        show _ = _
        rw [HR.out]
        unfold getA
        rw [if_pos hr, ← hxk]
        exact tot_conA (rightA_iff.1 hr).2 (List.mem_of_getElem? HX.out)
      clear HR hr hxk
      have hil : i < len := by have := (List.getElem?_eq_some_iff.1 HX.out).1; rw [HS.out.facts.1] at this; exact this
      have hi0 : (i : Int) < (len : Int) := by omega
      have hi1 : (0 : Int) ≤ (i : Int) := by omega
      have hi2 : (i : Int) ≤ 1000000 := by have := HN.out; omega
      obtain ⟨b, o, y, rfl, hy, -, u0, u1, u2⟩ := acct_at (HS.out.kept (Kept.of_below HB2.out [])) i hil
      have HXY : Hid (y.amt = x.amt) := by
        show _ = _
        have h := HX.out
        rw [hy] at h; injection h with h; rw [h]
      clear hy hil
      go_wp2_with fail
      go_ret
      exact ⟨by rw [HF.out, ← HXY.out]; rfl, HB2.out⟩
end Go.Proofs.Ytgbiimoednmlgaa
