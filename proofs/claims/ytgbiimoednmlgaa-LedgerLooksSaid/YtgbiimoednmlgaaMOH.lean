/- A part of the proof: LdKy, one behind another. -/
import Derived.Test.YtgbiimoednmlgaaMOA
import Derived.Test.YtgbiimoednmlgaaMOB
import Derived.Test.YtgbiimoednmlgaaMOC
import Derived.Test.YtgbiimoednmlgaaMOD
import Derived.Test.YtgbiimoednmlgaaMOE
import Derived.Test.YtgbiimoednmlgaaMOF
import Derived.Test.YtgbiimoednmlgaaMOG
/- The document's keys, walked. -/
namespace Go.Proofs.Ytgbiimoednmlgaa
set_option linter.unusedVariables false
set_option linter.unusedSimpArgs false
open Go.RowKit
set_option maxRecDepth 100000 in
set_option maxHeartbeats 8000000 in
theorem keys_any (l : List Acct) (m : List Mv) (la : Option Addr) (ll lc : Nat) (ma : Option Addr) (ml mc : Nat) (w : World) (hl : SlR acctK w [] l la ll lc) (hm : SlR mvK w [] m ma ml mc) (hll : ll ≤ 1000) (hml : ml ≤ 1000) :
    Calls Try.prog 39 #[.slice la ll lc, .slice ma ml mc] w fun y w' => (∃ out a c, y = .returned (.slice a out.length c) ∧ SlR acctK w' [] out a out.length c ∧ KeySt out (allK l m)) ∧ Below w.heap.size w w' := by
  have HS := Lib.hid hl
  have HM := Lib.hid hm
  have HLL := Lib.hid hl.facts.1
  have HML := Lib.hid hm.facts.1
  have HLB := Lib.hid hll
  have HMB := Lib.hid hml
  clear hl hm hll hml
  go_enter Try.func39, Try.ntmps39
  go_wp2_with fail
  go_loopw [5, 6] (fun v i wr => ∃ (k : Nat) (oa : Option Addr) (oc : Nat), v = .slice oa k oc ∧ i = .int .i64 (k : Nat) ∧ k ≤ ll ∧ Hid (wr.ownsRow w.heap.size 58 3 (.slice oa k oc) k (outR ((l.take k).map zA)) ∧ Below w.heap.size w wr)) (fun _ i _ => ll - (intOf i).toNat)
  case atStart => exact ⟨0, none, 0, rfl, rfl, Nat.zero_le _, by rw [List.take_zero]; exact World.ownsRow_nil _ _ _ _, Below.refl _ _⟩
  case round =>
    obtain ⟨k, oa, oc, rfl, rfl, hk, HR⟩ := hrel
    by_cases hlt : k < ll
    · have hlt' : (k : Int) < (ll : Int) := by omega
      have i0 : (0 : Int) ≤ (k : Int) := by omega
      have i1 : (k : Int) ≤ 1000 := by have := HLB.out; omega
      obtain ⟨b, o, x, rfl, hx, -, u0, u1, u2⟩ := acct_at (HS.out.kept (Kept.of_below HR.out.2 [])) k hlt
      have HX : Hid ((l.take (k + 1)).map zA = (l.take k).map zA ++ [⟨x.party, x.coin, 0⟩]) := by
        obtain ⟨hk1, e1⟩ := List.getElem?_eq_some_iff.1 hx
        show _ = _
        rw [← List.take_append_getElem hk1, e1, List.map_append]; rfl
      have hal : Below wr.heap.size wr (wr.alloc (.cells #[.string x.party, .string x.coin, .int .i64 0] 58)).drew := ((Below.refl wr.heap.size wr).alloc (Nat.le_refl _) (.cells #[.string x.party, .string x.coin, .int .i64 0] 58)).drew
      have HO2 := Lib.hid (own_below HR.out.1 hal)
      have HB2 := Lib.hid (HR.out.2.trans (hal.mono HR.out.2.size))
      have HSB : Hid (w.heap.size ≤ (wr.alloc (.cells #[.string x.party, .string x.coin, .int .i64 0] 58)).drew.heap.size) := HB2.out.size
      have HCN : Hid (∀ j u, [Value.string x.party, .string x.coin, .int .i64 0][j]? = some u → (wr.alloc (.cells #[.string x.party, .string x.coin, .int .i64 0] 58)).drew.cell? ((⟨wr.heap.size, 0, none⟩ : Addr).add j) = some u) := lit_cells_at wr #[.string x.party, .string x.coin, .int .i64 0] 58 wr.heap.size rfl
      have u0' := cellUp u0 hal
      have u1' := cellUp u1 hal
      have HKL := Lib.hid hlt
      have HKM : Hid (k + 1 ≤ maxLen ∧ (k + 1) * 40 ≤ 140737488355328) := by
        have hmx : maxLen = 9223372036854775807 := by decide
        exact ⟨by omega, by omega⟩
      clear hal hx HR hlt
      go_upto_region 5 with (fail)
      refine wp_region_till (S := fun W => W.cell? ⟨b, o + k * 3, none⟩ = some (.string x.party) ∧ W.cell? ⟨b, o + k * 3 + 1, none⟩ = some (.string x.coin)) 13 (by kernel_rfl) ?_
      refine till_take (i := 0) (v := ?_) rfl (by kernel_rfl) (fun _ _ _ h => h) (Or.inl ⟨by rfl, ?_⟩) ⟨u0,u1⟩ ?_
      rotate_left
      · intro W hS
        try dsimp only at hS
        go_split_ands
        go_simp
        try with_reducible rfl
      try simp only [Act.put, List.getElem_toArray, List.getElem_cons_zero, List.getElem_cons_succ, List.setIfInBounds_toArray, List.set_cons_zero, List.set_cons_succ]
      refine till_take (i := 1) (v := ?_) rfl (by kernel_rfl) (fun _ _ _ h => h) (Or.inl ⟨by rfl, ?_⟩) ⟨u0,u1⟩ ?_
      rotate_left
      · intro W hS
        try dsimp only at hS
        go_split_ands
        go_simp
        try with_reducible rfl
      try simp only [Act.put, List.getElem_toArray, List.getElem_cons_zero, List.getElem_cons_succ, List.setIfInBounds_toArray, List.set_cons_zero, List.set_cons_succ]
      refine till_take (i := 2) (v := ?_) rfl (by kernel_rfl) (fun _ _ _ h => h) (Or.inl ⟨by rfl, ?_⟩) ⟨u0,u1⟩ ?_
      rotate_left
      · intro W hS
        try dsimp only at hS
        go_split_ands
        go_simp
        try with_reducible rfl
      try simp only [Act.put, List.getElem_toArray, List.getElem_cons_zero, List.getElem_cons_succ, List.setIfInBounds_toArray, List.set_cons_zero, List.set_cons_succ]
      refine till_take (i := 3) (v := ?_) rfl (by kernel_rfl) (fun _ _ _ h => h) (Or.inl ⟨by rfl, ?_⟩) ⟨u0,u1⟩ ?_
      rotate_left
      · intro W hS
        try dsimp only at hS
        go_split_ands
        go_simp
        try with_reducible rfl
      try simp only [Act.put, List.getElem_toArray, List.getElem_cons_zero, List.getElem_cons_succ, List.setIfInBounds_toArray, List.set_cons_zero, List.set_cons_succ]
      refine till_take (i := 4) (v := ?_) rfl (by kernel_rfl) (fun _ _ _ h => h) (Or.inl ⟨by rfl, ?_⟩) ⟨u0,u1⟩ ?_
      rotate_left
      · intro W hS
        try dsimp only at hS
        go_split_ands
        go_simp
        try with_reducible rfl
      try simp only [Act.put, List.getElem_toArray, List.getElem_cons_zero, List.getElem_cons_succ, List.setIfInBounds_toArray, List.set_cons_zero, List.set_cons_succ]
      refine till_take (i := 5) (v := ?_) rfl (by kernel_rfl) (fun _ _ _ h => h) (Or.inl ⟨by rfl, ?_⟩) ⟨u0,u1⟩ ?_
      rotate_left
      · intro W hS
        try dsimp only at hS
        go_split_ands
        go_simp
        try with_reducible rfl
      try simp only [Act.put, List.getElem_toArray, List.getElem_cons_zero, List.getElem_cons_succ, List.setIfInBounds_toArray, List.set_cons_zero, List.set_cons_succ]
      refine till_take (i := 6) (v := ?_) rfl (by kernel_rfl) (fun _ _ _ h => h) (Or.inl ⟨by rfl, ?_⟩) ⟨u0,u1⟩ ?_
      rotate_left
      · intro W hS
        try dsimp only at hS
        go_split_ands
        go_simp
        try with_reducible rfl
      try simp only [Act.put, List.getElem_toArray, List.getElem_cons_zero, List.getElem_cons_succ, List.setIfInBounds_toArray, List.set_cons_zero, List.set_cons_succ]
      refine till_take (i := 7) (v := ?_) rfl (by kernel_rfl) (fun _ _ _ h => h) (Or.inl ⟨by rfl, ?_⟩) ⟨u0,u1⟩ ?_
      rotate_left
      · intro W hS
        try dsimp only at hS
        go_split_ands
        go_simp
        try with_reducible rfl
      try simp only [Act.put, List.getElem_toArray, List.getElem_cons_zero, List.getElem_cons_succ, List.setIfInBounds_toArray, List.set_cons_zero, List.set_cons_succ]
      refine till_take (i := 8) (v := ?_) rfl (by kernel_rfl) (fun _ _ _ h => h) (Or.inl ⟨by rfl, ?_⟩) ⟨u0,u1⟩ ?_
      rotate_left
      · intro W hS
        try dsimp only at hS
        go_split_ands
        go_simp
        try with_reducible rfl
      try simp only [Act.put, List.getElem_toArray, List.getElem_cons_zero, List.getElem_cons_succ, List.setIfInBounds_toArray, List.set_cons_zero, List.set_cons_succ]
      refine till_take (i := 9) (v := ?_) rfl (by kernel_rfl) (fun _ _ _ h => h) (Or.inl ⟨by rfl, ?_⟩) ⟨u0,u1⟩ ?_
      rotate_left
      · intro W hS
        try dsimp only at hS
        go_split_ands
        go_simp
        try with_reducible rfl
      try simp only [Act.put, List.getElem_toArray, List.getElem_cons_zero, List.getElem_cons_succ, List.setIfInBounds_toArray, List.set_cons_zero, List.set_cons_succ]
      refine till_take (i := 10) (v := ?_) rfl (by kernel_rfl) (fun _ _ _ h => h) (Or.inl ⟨by rfl, ?_⟩) ⟨u0,u1⟩ ?_
      rotate_left
      · intro W hS
        try dsimp only at hS
        go_split_ands
        go_simp
        try with_reducible rfl
      try simp only [Act.put, List.getElem_toArray, List.getElem_cons_zero, List.getElem_cons_succ, List.setIfInBounds_toArray, List.set_cons_zero, List.set_cons_succ]
      refine till_take (i := 11) (v := ?_) rfl (by kernel_rfl) (fun _ _ _ h => h) (Or.inl ⟨by rfl, ?_⟩) ⟨u0,u1⟩ ?_
      rotate_left
      · intro W hS
        try dsimp only at hS
        go_split_ands
        go_simp
        try with_reducible rfl
      try simp only [Act.put, List.getElem_toArray, List.getElem_cons_zero, List.getElem_cons_succ, List.setIfInBounds_toArray, List.set_cons_zero, List.set_cons_succ]
      refine till_one (i := 12) (by kernel_rfl) rfl (fun K' hK => ?_)
      go_simp
      refine hK _ _ ⟨u0', u1'⟩ ?_
      clear hK K' u0' u1' u0 u1 u2
      generalize (wr.alloc (.cells #[.string x.party, .string x.coin, .int .i64 0] 58)).drew = w5 at *
      obtain ⟨nb, hnb⟩ : ∃ z, z = wr.heap.size := ⟨_, rfl⟩
      rw [← hnb] at HCN ⊢
      clear hnb
      try simp only [Act.put, List.getElem_toArray, List.getElem_cons_zero, List.getElem_cons_succ, List.setIfInBounds_toArray, List.set_cons_zero, List.set_cons_succ]
      refine till_last (by kernel_rfl) rfl (by kernel_rfl) (fun K' hK => ?_)
      refine step_ap infoRA Try.underlying22 rfl (by decide) rfl (.tmp 18) (.tmp 30) rfl rfl HO2.out HSB.out ⟨nb, 0, none⟩ 1 1 [.string x.party, .string x.coin, .int .i64 0] rfl rfl HCN.out (by simp [Value.oneCell']) HKM.out.1 HKM.out.2 ?_
      intro v3 w3 o1 g1 hv1
      have HB3 := Lib.hid (HB2.out.grown g1 HB2.out.size (fun b hb => (own_lt HO2.out hb).1))
      obtain ⟨a', c', rfl⟩ := own_slice o1
      have HR3 : Hid (w3.ownsRow w.heap.size 58 3 (.slice a' (k + 1) c') (k + 1) (outR ((l.take (k + 1)).map zA)) ∧ Below w.heap.size w w3) := by
        refine ⟨?_, HB3.out⟩
        rw [HX.out, outR_append, outR_one]
        exact o1
      refine hK _ _ ?_
      clear hK K' o1 g1 hv1 HB3 HX HO2 HB2 HSB HCN
      try simp only [Act.put, List.getElem_toArray, List.getElem_cons_zero, List.getElem_cons_succ, List.setIfInBounds_toArray, List.set_cons_zero, List.set_cons_succ]
      refine any_take (i := 14) (v := ?_) rfl (by kernel_rfl) (fun _ _ _ h => h) (Or.inl ⟨by rfl, ?_⟩) ?_
      rotate_left
      · intro W
        go_simp
        try with_reducible rfl
      try simp only [Act.put, List.getElem_toArray, List.getElem_cons_zero, List.getElem_cons_succ, List.setIfInBounds_toArray, List.set_cons_zero, List.set_cons_succ]
      refine wpAny_done (by kernel_rfl) ?_ _
      go_wp2_with fail
      go_roundw
      case rel => exact ⟨k + 1, a', c', rfl, by go_num, by have := HKL.out; omega, HR3.out⟩
      case measure => simp [intOf]; have := HKL.out; omega
    · have hlt' : ¬ (k : Int) < (ll : Int) := by omega
      obtain rfl : k = ll := by omega
      have HG0 : Hid (wr.ownsRow w.heap.size 58 3 (.slice oa k oc) (k + 2 * 0) (outR (l.map zA ++ (m.take 0).flatMap zM)) ∧ Below w.heap.size w wr) := by
        refine ⟨?_, HR.out.2⟩
        have h := HR.out.1
        rw [List.take_of_length_le (by rw [HLL.out]; omega)] at h
        rw [List.take_zero, List.flatMap_nil, List.append_nil]; exact h
      clear HR hlt hk
      go_wp2_with fail
      go_loopw [5, 7] (fun v i wr => ∃ (j : Nat) (oa : Option Addr) (oc : Nat), v = .slice oa (k + 2 * j) oc ∧ i = .int .i64 (j : Nat) ∧ j ≤ ml ∧ Hid (wr.ownsRow w.heap.size 58 3 (.slice oa (k + 2 * j) oc) (k + 2 * j) (outR (l.map zA ++ (m.take j).flatMap zM)) ∧ Below w.heap.size w wr)) (fun _ i _ => ml - (intOf i).toNat)
      case atStart => exact ⟨0, oa, oc, rfl, rfl, Nat.zero_le _, HG0.out⟩
      case round =>
        clear HG0
        obtain ⟨j, oa, oc, rfl, rfl, hj, HR⟩ := hrel
        by_cases hjt : j < ml
        · have hlt2 : (j : Int) < (ml : Int) := by omega
          have i0 : (0 : Int) ≤ (j : Int) := by omega
          have i1 : (j : Int) ≤ 1000 := by have := HMB.out; omega
          obtain ⟨b, o, x, rfl, hx, -, u0, u1, u2, -⟩ := mv_at (HM.out.kept (Kept.of_below HR.out.2 [])) j hjt
          have HX : Hid ((m.take (j + 1)).flatMap zM = (m.take j).flatMap zM ++ [⟨x.src, x.coin, 0⟩, ⟨x.dst, x.coin, 0⟩]) := by
            obtain ⟨hk1, e1⟩ := List.getElem?_eq_some_iff.1 hx
            show _ = _
            rw [← List.take_append_getElem hk1, e1, List.flatMap_append, List.flatMap_singleton]; rfl
          have hal : Below wr.heap.size wr (wr.alloc (.cells #[.string x.src, .string x.coin, .int .i64 0, .string x.dst, .string x.coin, .int .i64 0] 58)).drew := ((Below.refl wr.heap.size wr).alloc (Nat.le_refl _) (.cells #[.string x.src, .string x.coin, .int .i64 0, .string x.dst, .string x.coin, .int .i64 0] 58)).drew
          have HO2 := Lib.hid (own_below HR.out.1 hal)
          have HB2 := Lib.hid (HR.out.2.trans (hal.mono HR.out.2.size))
          have HSB : Hid (w.heap.size ≤ (wr.alloc (.cells #[.string x.src, .string x.coin, .int .i64 0, .string x.dst, .string x.coin, .int .i64 0] 58)).drew.heap.size) := HB2.out.size
          have HCN : Hid (∀ j u, [Value.string x.src, .string x.coin, .int .i64 0, .string x.dst, .string x.coin, .int .i64 0][j]? = some u → (wr.alloc (.cells #[.string x.src, .string x.coin, .int .i64 0, .string x.dst, .string x.coin, .int .i64 0] 58)).drew.cell? ((⟨wr.heap.size, 0, none⟩ : Addr).add j) = some u) := lit_cells_at wr #[.string x.src, .string x.coin, .int .i64 0, .string x.dst, .string x.coin, .int .i64 0] 58 wr.heap.size rfl
          have u0' := cellUp u0 hal
          have u1' := cellUp u1 hal
          have u2' := cellUp u2 hal
          have HKL := Lib.hid hjt
          have HKM : Hid (k + 2 * j + 2 ≤ maxLen ∧ (k + 2 * j + 2) * 40 ≤ 140737488355328) := by
            have hmx : maxLen = 9223372036854775807 := by decide
            have := HLB.out
            have := HMB.out
            exact ⟨by omega, by omega⟩
          clear hal hx HR hjt
          go_upto_region 9 with (fail)
          refine wp_region_till (S := fun W => W.cell? ⟨b, o + j * 4, none⟩ = some (.string x.src) ∧ W.cell? ⟨b, o + j * 4 + 1, none⟩ = some (.string x.dst) ∧ W.cell? ⟨b, o + j * 4 + 2, none⟩ = some (.string x.coin)) 24 (by kernel_rfl) ?_
          refine till_take (i := 0) (v := ?_) rfl (by kernel_rfl) (fun _ _ _ h => h) (Or.inl ⟨by rfl, ?_⟩) ⟨u0,u1,u2⟩ ?_
          rotate_left
          · intro W hS
            try dsimp only at hS
            go_split_ands
            go_simp
            try with_reducible rfl
          try simp only [Act.put, List.getElem_toArray, List.getElem_cons_zero, List.getElem_cons_succ, List.setIfInBounds_toArray, List.set_cons_zero, List.set_cons_succ]
          refine till_take (i := 1) (v := ?_) rfl (by kernel_rfl) (fun _ _ _ h => h) (Or.inl ⟨by rfl, ?_⟩) ⟨u0,u1,u2⟩ ?_
          rotate_left
          · intro W hS
            try dsimp only at hS
            go_split_ands
            go_simp
            try with_reducible rfl
          try simp only [Act.put, List.getElem_toArray, List.getElem_cons_zero, List.getElem_cons_succ, List.setIfInBounds_toArray, List.set_cons_zero, List.set_cons_succ]
          refine till_take (i := 2) (v := ?_) rfl (by kernel_rfl) (fun _ _ _ h => h) (Or.inl ⟨by rfl, ?_⟩) ⟨u0,u1,u2⟩ ?_
          rotate_left
          · intro W hS
            try dsimp only at hS
            go_split_ands
            go_simp
            try with_reducible rfl
          try simp only [Act.put, List.getElem_toArray, List.getElem_cons_zero, List.getElem_cons_succ, List.setIfInBounds_toArray, List.set_cons_zero, List.set_cons_succ]
          refine till_take (i := 3) (v := ?_) rfl (by kernel_rfl) (fun _ _ _ h => h) (Or.inl ⟨by rfl, ?_⟩) ⟨u0,u1,u2⟩ ?_
          rotate_left
          · intro W hS
            try dsimp only at hS
            go_split_ands
            go_simp
            try with_reducible rfl
          try simp only [Act.put, List.getElem_toArray, List.getElem_cons_zero, List.getElem_cons_succ, List.setIfInBounds_toArray, List.set_cons_zero, List.set_cons_succ]
          refine till_take (i := 4) (v := ?_) rfl (by kernel_rfl) (fun _ _ _ h => h) (Or.inl ⟨by rfl, ?_⟩) ⟨u0,u1,u2⟩ ?_
          rotate_left
          · intro W hS
            try dsimp only at hS
            go_split_ands
            go_simp
            try with_reducible rfl
          try simp only [Act.put, List.getElem_toArray, List.getElem_cons_zero, List.getElem_cons_succ, List.setIfInBounds_toArray, List.set_cons_zero, List.set_cons_succ]
          refine till_take (i := 5) (v := ?_) rfl (by kernel_rfl) (fun _ _ _ h => h) (Or.inl ⟨by rfl, ?_⟩) ⟨u0,u1,u2⟩ ?_
          rotate_left
          · intro W hS
            try dsimp only at hS
            go_split_ands
            go_simp
            try with_reducible rfl
          try simp only [Act.put, List.getElem_toArray, List.getElem_cons_zero, List.getElem_cons_succ, List.setIfInBounds_toArray, List.set_cons_zero, List.set_cons_succ]
          refine till_take (i := 6) (v := ?_) rfl (by kernel_rfl) (fun _ _ _ h => h) (Or.inl ⟨by rfl, ?_⟩) ⟨u0,u1,u2⟩ ?_
          rotate_left
          · intro W hS
            try dsimp only at hS
            go_split_ands
            go_simp
            try with_reducible rfl
          try simp only [Act.put, List.getElem_toArray, List.getElem_cons_zero, List.getElem_cons_succ, List.setIfInBounds_toArray, List.set_cons_zero, List.set_cons_succ]
          refine till_take (i := 7) (v := ?_) rfl (by kernel_rfl) (fun _ _ _ h => h) (Or.inl ⟨by rfl, ?_⟩) ⟨u0,u1,u2⟩ ?_
          rotate_left
          · intro W hS
            try dsimp only at hS
            go_split_ands
            go_simp
            try with_reducible rfl
          try simp only [Act.put, List.getElem_toArray, List.getElem_cons_zero, List.getElem_cons_succ, List.setIfInBounds_toArray, List.set_cons_zero, List.set_cons_succ]
          refine till_take (i := 8) (v := ?_) rfl (by kernel_rfl) (fun _ _ _ h => h) (Or.inl ⟨by rfl, ?_⟩) ⟨u0,u1,u2⟩ ?_
          rotate_left
          · intro W hS
            try dsimp only at hS
            go_split_ands
            go_simp
            try with_reducible rfl
          try simp only [Act.put, List.getElem_toArray, List.getElem_cons_zero, List.getElem_cons_succ, List.setIfInBounds_toArray, List.set_cons_zero, List.set_cons_succ]
          refine till_take (i := 9) (v := ?_) rfl (by kernel_rfl) (fun _ _ _ h => h) (Or.inl ⟨by rfl, ?_⟩) ⟨u0,u1,u2⟩ ?_
          rotate_left
          · intro W hS
            try dsimp only at hS
            go_split_ands
            go_simp
            try with_reducible rfl
          try simp only [Act.put, List.getElem_toArray, List.getElem_cons_zero, List.getElem_cons_succ, List.setIfInBounds_toArray, List.set_cons_zero, List.set_cons_succ]
          refine till_take (i := 10) (v := ?_) rfl (by kernel_rfl) (fun _ _ _ h => h) (Or.inl ⟨by rfl, ?_⟩) ⟨u0,u1,u2⟩ ?_
          rotate_left
          · intro W hS
            try dsimp only at hS
            go_split_ands
            go_simp
            try with_reducible rfl
          try simp only [Act.put, List.getElem_toArray, List.getElem_cons_zero, List.getElem_cons_succ, List.setIfInBounds_toArray, List.set_cons_zero, List.set_cons_succ]
          refine till_take (i := 11) (v := ?_) rfl (by kernel_rfl) (fun _ _ _ h => h) (Or.inl ⟨by rfl, ?_⟩) ⟨u0,u1,u2⟩ ?_
          rotate_left
          · intro W hS
            try dsimp only at hS
            go_split_ands
            go_simp
            try with_reducible rfl
          try simp only [Act.put, List.getElem_toArray, List.getElem_cons_zero, List.getElem_cons_succ, List.setIfInBounds_toArray, List.set_cons_zero, List.set_cons_succ]
          refine till_take (i := 12) (v := ?_) rfl (by kernel_rfl) (fun _ _ _ h => h) (Or.inl ⟨by rfl, ?_⟩) ⟨u0,u1,u2⟩ ?_
          rotate_left
          · intro W hS
            try dsimp only at hS
            go_split_ands
            go_simp
            try with_reducible rfl
          try simp only [Act.put, List.getElem_toArray, List.getElem_cons_zero, List.getElem_cons_succ, List.setIfInBounds_toArray, List.set_cons_zero, List.set_cons_succ]
          refine till_take (i := 13) (v := ?_) rfl (by kernel_rfl) (fun _ _ _ h => h) (Or.inl ⟨by rfl, ?_⟩) ⟨u0,u1,u2⟩ ?_
          rotate_left
          · intro W hS
            try dsimp only at hS
            go_split_ands
            go_simp
            try with_reducible rfl
          try simp only [Act.put, List.getElem_toArray, List.getElem_cons_zero, List.getElem_cons_succ, List.setIfInBounds_toArray, List.set_cons_zero, List.set_cons_succ]
          refine till_take (i := 14) (v := ?_) rfl (by kernel_rfl) (fun _ _ _ h => h) (Or.inl ⟨by rfl, ?_⟩) ⟨u0,u1,u2⟩ ?_
          rotate_left
          · intro W hS
            try dsimp only at hS
            go_split_ands
            go_simp
            try with_reducible rfl
          try simp only [Act.put, List.getElem_toArray, List.getElem_cons_zero, List.getElem_cons_succ, List.setIfInBounds_toArray, List.set_cons_zero, List.set_cons_succ]
          refine till_take (i := 15) (v := ?_) rfl (by kernel_rfl) (fun _ _ _ h => h) (Or.inl ⟨by rfl, ?_⟩) ⟨u0,u1,u2⟩ ?_
          rotate_left
          · intro W hS
            try dsimp only at hS
            go_split_ands
            go_simp
            try with_reducible rfl
          try simp only [Act.put, List.getElem_toArray, List.getElem_cons_zero, List.getElem_cons_succ, List.setIfInBounds_toArray, List.set_cons_zero, List.set_cons_succ]
          refine till_take (i := 16) (v := ?_) rfl (by kernel_rfl) (fun _ _ _ h => h) (Or.inl ⟨by rfl, ?_⟩) ⟨u0,u1,u2⟩ ?_
          rotate_left
          · intro W hS
            try dsimp only at hS
            go_split_ands
            go_simp
            try with_reducible rfl
          try simp only [Act.put, List.getElem_toArray, List.getElem_cons_zero, List.getElem_cons_succ, List.setIfInBounds_toArray, List.set_cons_zero, List.set_cons_succ]
          refine till_take (i := 17) (v := ?_) rfl (by kernel_rfl) (fun _ _ _ h => h) (Or.inl ⟨by rfl, ?_⟩) ⟨u0,u1,u2⟩ ?_
          rotate_left
          · intro W hS
            try dsimp only at hS
            go_split_ands
            go_simp
            try with_reducible rfl
          try simp only [Act.put, List.getElem_toArray, List.getElem_cons_zero, List.getElem_cons_succ, List.setIfInBounds_toArray, List.set_cons_zero, List.set_cons_succ]
          refine till_take (i := 18) (v := ?_) rfl (by kernel_rfl) (fun _ _ _ h => h) (Or.inl ⟨by rfl, ?_⟩) ⟨u0,u1,u2⟩ ?_
          rotate_left
          · intro W hS
            try dsimp only at hS
            go_split_ands
            go_simp
            try with_reducible rfl
          try simp only [Act.put, List.getElem_toArray, List.getElem_cons_zero, List.getElem_cons_succ, List.setIfInBounds_toArray, List.set_cons_zero, List.set_cons_succ]
          refine till_take (i := 19) (v := ?_) rfl (by kernel_rfl) (fun _ _ _ h => h) (Or.inl ⟨by rfl, ?_⟩) ⟨u0,u1,u2⟩ ?_
          rotate_left
          · intro W hS
            try dsimp only at hS
            go_split_ands
            go_simp
            try with_reducible rfl
          try simp only [Act.put, List.getElem_toArray, List.getElem_cons_zero, List.getElem_cons_succ, List.setIfInBounds_toArray, List.set_cons_zero, List.set_cons_succ]
          refine till_take (i := 20) (v := ?_) rfl (by kernel_rfl) (fun _ _ _ h => h) (Or.inl ⟨by rfl, ?_⟩) ⟨u0,u1,u2⟩ ?_
          rotate_left
          · intro W hS
            try dsimp only at hS
            go_split_ands
            go_simp
            try with_reducible rfl
          try simp only [Act.put, List.getElem_toArray, List.getElem_cons_zero, List.getElem_cons_succ, List.setIfInBounds_toArray, List.set_cons_zero, List.set_cons_succ]
          refine till_take (i := 21) (v := ?_) rfl (by kernel_rfl) (fun _ _ _ h => h) (Or.inl ⟨by rfl, ?_⟩) ⟨u0,u1,u2⟩ ?_
          rotate_left
          · intro W hS
            try dsimp only at hS
            go_split_ands
            go_simp
            try with_reducible rfl
          try simp only [Act.put, List.getElem_toArray, List.getElem_cons_zero, List.getElem_cons_succ, List.setIfInBounds_toArray, List.set_cons_zero, List.set_cons_succ]
          refine till_take (i := 22) (v := ?_) rfl (by kernel_rfl) (fun _ _ _ h => h) (Or.inl ⟨by rfl, ?_⟩) ⟨u0,u1,u2⟩ ?_
          rotate_left
          · intro W hS
            try dsimp only at hS
            go_split_ands
            go_simp
            try with_reducible rfl
          try simp only [Act.put, List.getElem_toArray, List.getElem_cons_zero, List.getElem_cons_succ, List.setIfInBounds_toArray, List.set_cons_zero, List.set_cons_succ]
          refine till_one (i := 23) (by kernel_rfl) rfl (fun K' hK => ?_)
          go_simp
          refine hK _ _ ⟨u0', u1', u2'⟩ ?_
          clear hK K' u0' u1' u2' u0 u1 u2
          generalize (wr.alloc (.cells #[.string x.src, .string x.coin, .int .i64 0, .string x.dst, .string x.coin, .int .i64 0] 58)).drew = w5 at *
          obtain ⟨nb, hnb⟩ : ∃ z, z = wr.heap.size := ⟨_, rfl⟩
          rw [← hnb] at HCN ⊢
          clear hnb
          try simp only [Act.put, List.getElem_toArray, List.getElem_cons_zero, List.getElem_cons_succ, List.setIfInBounds_toArray, List.set_cons_zero, List.set_cons_succ]
          refine till_last (by kernel_rfl) rfl (by kernel_rfl) (fun K' hK => ?_)
          refine step_ap infoRA Try.underlying22 rfl (by decide) rfl (.tmp 38) (.tmp 61) rfl rfl HO2.out HSB.out ⟨nb, 0, none⟩ 2 2 [.string x.src, .string x.coin, .int .i64 0, .string x.dst, .string x.coin, .int .i64 0] rfl rfl HCN.out (by simp [Value.oneCell']) HKM.out.1 HKM.out.2 ?_
          intro v3 w3 o1 g1 hv1
          have HB3 := Lib.hid (HB2.out.grown g1 HB2.out.size (fun b hb => (own_lt HO2.out hb).1))
          obtain ⟨a', c', rfl⟩ := own_slice o1
          have hk2 : k + 2 * j + 2 = k + 2 * (j + 1) := by omega
          have HR3 : Hid (w3.ownsRow w.heap.size 58 3 (.slice a' (k + 2 * (j + 1)) c') (k + 2 * (j + 1)) (outR (l.map zA ++ (m.take (j + 1)).flatMap zM)) ∧ Below w.heap.size w w3) := by
            refine ⟨?_, HB3.out⟩
            rw [HX.out, ← List.append_assoc, outR_append, ← hk2]
            exact o1
          rw [hk2]
          refine hK _ _ ?_
          clear hK K' o1 g1 hv1 HB3 HX HO2 HB2 HSB HCN hk2
          try simp only [Act.put, List.getElem_toArray, List.getElem_cons_zero, List.getElem_cons_succ, List.setIfInBounds_toArray, List.set_cons_zero, List.set_cons_succ]
          refine any_take (i := 25) (v := ?_) rfl (by kernel_rfl) (fun _ _ _ h => h) (Or.inl ⟨by rfl, ?_⟩) ?_
          rotate_left
          · intro W
            go_simp
            try with_reducible rfl
          try simp only [Act.put, List.getElem_toArray, List.getElem_cons_zero, List.getElem_cons_succ, List.setIfInBounds_toArray, List.set_cons_zero, List.set_cons_succ]
          refine wpAny_done (by kernel_rfl) ?_ _
          go_wp2_with fail
          go_roundw
          case rel => exact ⟨j + 1, a', c', rfl, by go_num, by have := HKL.out; omega, HR3.out⟩
          case measure => simp [intOf]; have := HKL.out; omega
        · have hlt2 : ¬ (j : Int) < (ml : Int) := by omega
          obtain rfl : j = ml := by omega
          have HAL : Hid ((allK l m).length = k + 2 * j) := by
            show _ = _
            unfold allK
            rw [List.length_append, List.length_map, HLL.out, ← HML.out]
            congr 1
            generalize m = mm
            induction mm with
            | nil => rfl
            | cons x t ih => rw [List.flatMap_cons, List.length_append, ih]; show 2 + 2 * t.length = 2 * (t.length + 1); omega
          have HAO : Hid (∀ a ∈ allK l m, AcctOk a ∧ a.amt = 0) := by
            intro a ha
            unfold allK at ha
            rcases List.mem_append.1 ha with ha | ha
            · obtain ⟨b, hb, rfl⟩ := List.mem_map.1 ha
              have := acct_ok HS.out b hb
              exact ⟨⟨this.party, this.coin, by show I64 0; unfold I64; omega⟩, rfl⟩
            · obtain ⟨x, hx, hxa⟩ := List.mem_flatMap.1 ha
              have := mv_ok HM.out x hx
              unfold zM at hxa
              rw [List.mem_cons, List.mem_singleton] at hxa
              rcases hxa with rfl | rfl
              · exact ⟨⟨this.src, this.coin, by show I64 0; unfold I64; omega⟩, rfl⟩
              · exact ⟨⟨this.dst, this.coin, by show I64 0; unfold I64; omega⟩, rfl⟩
          have HSA : Hid (SlR acctK wr [] (allK l m) oa (k + 2 * j) oc) := by
            have h := HR.out.1
            rw [List.take_of_length_le (by rw [HML.out]; omega)] at h
            have hl := HAL.out
            rw [← hl] at h
            obtain ⟨a, c, e, hs⟩ := outR_any (l := allK l m) h HR.out.2 (fun a ha => (HAO.out a ha).1)
            injection e with e1 e2 e3
            subst e1; subst e3
            rw [hl] at hs
            exact hs
          obtain ⟨N, hN⟩ : ∃ N, N = k + 2 * j := ⟨_, rfl⟩
          rw [← hN] at HAL HSA ⊢
          have HNB : Hid (N ≤ 3000) := by have := HLB.out; have := HMB.out; show _ ≤ _; omega
          have HBW := Lib.hid HR.out.2
          obtain ⟨A, hA⟩ : ∃ A, A = allK l m := ⟨_, rfl⟩
          rw [← hA] at HAL HSA HAO
          have HAA := Lib.hid hA
          clear hA
          obtain ⟨wa, hwa⟩ : ∃ W, W = wr := ⟨_, rfl⟩
          rw [← hwa] at HSA HBW ⊢
          clear HR hjt hj hN HS HM HLL HML HLB HMB hwa
          have HR0 : Hid (wa.ownsRow wa.heap.size 58 3 (.slice none 0 0) 0 (outR []) ∧ Below wa.heap.size wa wa ∧ KeySt [] (A.take 0)) := ⟨World.ownsRow_nil _ _ _ _, Below.refl _ _, by rw [List.take_zero]; exact KeySt.nil⟩
          go_wp2_with fail
          go_loopw [8, 9] (fun v i wr => ∃ (k : Nat) (out : List Acct) (n : Nat) (ba : Option Addr) (bc : Nat), v = .slice ba n bc ∧ i = .int .i64 (k : Nat) ∧ k ≤ N ∧ Hid (out.length = n ∧ wr.ownsRow wa.heap.size 58 3 (.slice ba n bc) n (outR out) ∧ Below wa.heap.size wa wr ∧ KeySt out (A.take k))) (fun _ i _ => N - (intOf i).toNat)
          case atStart => exact ⟨0, [], 0, none, 0, rfl, rfl, Nat.zero_le _, rfl, HR0.out.1, HR0.out.2.1, HR0.out.2.2⟩
          case round =>
            clear HR0
            obtain ⟨k, out, n, ba, bc, rfl, rfl, hk, HR⟩ := hrel
            by_cases hkt : k < N
            · have hkt' : (k : Int) < (N : Int) := by omega
              have k0 : (0 : Int) ≤ (k : Int) := by omega
              have k1 : (k : Int) ≤ 3000 := by have := HNB.out; omega
              obtain ⟨b, o, x, rfl, hx, -, x0, x1, x2⟩ := acct_at (HSA.out.kept (Kept.of_below HR.out.2.2.1 [])) k hkt
              have hxz : x.amt = 0 := (HAO.out x (List.mem_of_getElem? hx)).2
              have HXZ := Lib.hid hxz
              rw [hxz] at x2
              have HTK : Hid (A.take (k + 1) = A.take k ++ [x]) := by
                obtain ⟨hk1, e1⟩ := List.getElem?_eq_some_iff.1 hx
                show _ = _
                rw [← List.take_append_getElem hk1, e1]
              have HOZ : Hid (∀ a ∈ out, a.amt = 0) := fun a ha => (HAO.out a (List.mem_of_mem_take (HR.out.2.2.2.sub a ha))).2
              have HNN : Hid (n ≤ 3000) := by
                have h1 := HR.out.2.2.2.len
                rw [List.length_take, HR.out.1] at h1
                show _ ≤ _; omega
              have HKL := Lib.hid hkt
              have HX := Lib.hid hx
              clear hx hxz hkt hk
              go_wp2_with fail
              go_loopw [10] (fun v wi => ∃ (p : Nat), v = .int .i64 (p : Nat) ∧ p ≤ n ∧ Hid ((∀ (j : Nat) y, j < p → out[j]? = some y → kcmp y.key x.key < 0) ∧ Below wr.heap.size wr wi)) (fun v _ => n - (intOf v).toNat)
              case atStart => exact ⟨0, rfl, Nat.zero_le _, fun j y h => absurd h (Nat.not_lt_zero _), Below.refl _ _⟩
              case round =>
                rename World => wi
                obtain ⟨p, rfl, hp, HP⟩ := hrel
                have x0i := cellUp x0 HP.out.2
                have x1i := cellUp x1 HP.out.2
                have x2i := cellUp x2 HP.out.2
                have HOI := Lib.hid (own_below HR.out.2.1 HP.out.2)
                have HBI := Lib.hid (HR.out.2.2.1.trans (HP.out.2.mono HR.out.2.2.1.size))
                clear x0 x1 x2
                by_cases hpn : p < n
                · have hpn' : (p : Int) < (n : Int) := by omega
                  have p0 : (0 : Int) ≤ (p : Int) := by omega
                  have p1 : (p : Int) ≤ 3000 := by have := HNN.out; omega
                  obtain ⟨g, cap, y, hv, hy, y0, y1, y2, -⟩ := rowA_at HOI.out HR.out.1 p hpn
                  injection hv with e1 _ e3
                  subst e1; subst e3
                  have hyz : y.amt = 0 := HOZ.out y (List.mem_of_getElem? hy)
                  rw [hyz] at y2
                  have HY := Lib.hid hy
                  have HYZ := Lib.hid hyz
                  have HAH : Hid (∀ W, Calls Try.prog 38 #[.agg #[.string y.party, .string y.coin, .int .i64 0], .agg #[.string x.party, .string x.coin, .int .i64 0]] W fun e w' => e = .returned (.bool (decide (kcmp y.key x.key < 0))) ∧ Below W.heap.size W w') := fun W => by
                    have h := ahead_any y x W
                    unfold acctC at h
                    rw [HYZ.out, HXZ.out] at h
                    exact h
                  obtain ⟨Q, hQ⟩ : ∃ Q, Q = kcmp y.key x.key := ⟨_, rfl⟩
                  rw [← hQ] at HAH
                  have HQ := Lib.hid hQ
                  have HPN := Lib.hid hpn
                  clear hy hyz hQ hpn hp
                  go_upto_region 15 with (fail)
                  go_still_tail 13, (by kernel_rfl)
                  change wpList _ _ _ _ _ wi.drew
                  go_wp2_with fail
                  go_at_call 38
                  (with_reducible refine (HAH.out _).mono ?_)
                  rintro e w2 ⟨rfl, b2⟩
                  have bi2 : Below wi.heap.size wi w2 := (Below.refl wi.heap.size wi).drew.trans b2
                  have HPB := Lib.hid (HP.out.2.trans (bi2.mono HP.out.2.size))
                  have x0 := cellUp x0i bi2
                  have x1 := cellUp x1i bi2
                  have x2 := cellUp x2i bi2
                  have z0 := cellUp y0 bi2
                  have z1 := cellUp y1 bi2
                  have z2 := cellUp y2 bi2
                  have HO2 := Lib.hid (own_below HOI.out bi2)
                  have HB2 := Lib.hid (HBI.out.trans (bi2.mono HBI.out.size))
                  clear b2 bi2 HAH x0i x1i x2i y0 y1 y2 HOI HBI
                  by_cases hq : Q < 0
                  · have HP2 : Hid (∀ (j : Nat) y, j < p + 1 → out[j]? = some y → kcmp y.key x.key < 0) := by
                      intro j z hj hz
                      by_cases e : j < p
                      · exact HP.out.1 j z e hz
                      · obtain rfl : j = p := by omega
                        rw [HY.out] at hz; rw [← Option.some.inj hz, ← HQ.out]; exact hq
                    rw [decide_eq_true hq]
                    clear hq
                    go_wp2_with fail
                    go_roundw
                    case rel => exact ⟨p + 1, by go_num, by have := HPN.out; omega, HP2.out, HPB.out⟩
                    case measure => simp [intOf]; have := HPN.out; omega
                  · have HAT : Hid (AtK Acct.key out x.key p) := ⟨by have := HPN.out; have := HR.out.1; omega, fun z h0 hz => HP.out.1 (p - 1) z (by omega) hz, fun z hz => by rw [HY.out] at hz; rw [← Option.some.inj hz, ← HQ.out]; exact hq⟩
                    rw [decide_eq_false hq]
                    by_cases hq0 : Q = 0
                    · have hyx : y = x := acct_ext (kcmp_zero.1 (by rw [← HQ.out]; exact hq0)) (by rw [HYZ.out, HXZ.out])
                      subst hyx
                      have HKS := Lib.hid (HR.out.2.2.2.skip (x := y) (y := y) (List.mem_of_getElem? HY.out) rfl)
                      rw [← HTK.out] at HKS
                      clear hq hq0 HP HPB
                      go_upto_region 17 with (fail)
                      go_quiet (fail)
                      have HO3 := Lib.hid (own_below HO2.out (below_dN (Below.refl w2.heap.size w2) nq))
                      have HB3 := Lib.hid (HB2.out.trans ((below_dN (Below.refl w2.heap.size w2) nq).mono HB2.out.size))
                      clear x0 x1 x2 z0 z1 z2 HO2 HB2
                      go_wp2_with fail
                      go_roundw
                      case rel => exact ⟨k + 1, out, n, _, _, rfl, by go_num, by have := HKL.out; omega, HR.out.1, HO3.out, HB3.out, HKS.out⟩
                      case measure => simp [intOf]; have := HKL.out; omega
                    · have HHT : Hid (hitK Acct.key out x.key p = false) := by
                        show _ = _
                        unfold hitK
                        rw [HY.out]
                        exact decide_eq_false (by rw [← HQ.out]; exact hq0)
                      have q1 := same_b y.party x.party
                      have q2 := same_b y.coin x.coin
                      have hne : ¬ (y.party.data.toList = x.party.data.toList ∧ y.coin.data.toList = x.coin.data.toList) := fun h => hq0 (by rw [HQ.out]; exact kcmp_zero.2 (key_eq.2 h))
                      by_cases h1 : y.party.data.toList = x.party.data.toList
                      · have h2 : ¬ y.coin.data.toList = x.coin.data.toList := fun h => hne ⟨h1, h⟩
                        rw [decide_eq_true h1] at q1
                        rw [decide_eq_false h2] at q2
                        have HKS := Lib.hid (HR.out.2.2.2.ins HAT.out HHT.out)
                        have HAL2 := Lib.hid HAT.out.le
                        clear hq hq0 h1 h2 hne HP HPB HAT HHT HY HYZ HQ HPN
                        go_upto_region 17 with (fail)
                        go_quiet (fail)
                        clear x0 x1 x2 z0 z1 z2 q1 q2
                        have bq : Below w2.heap.size w2 (w2.drewN nq) := below_dN (Below.refl w2.heap.size w2) nq
                        have HO3 := Lib.hid (own_below HO2.out bq)
                        have HB3 := Lib.hid (HB2.out.trans (bq.mono HB2.out.size))
                        clear bq HO2 HB2
                        generalize w2.drewN nq = w3 at *
                        have hal := (Below.refl w3.heap.size w3).alloc (Nat.le_refl _) (.cells #[.string ⟨#[]⟩, .string ⟨#[]⟩, .int .i64 0] 58)
                        have HO4 := Lib.hid (own_below HO3.out hal)
                        have HB4 := Lib.hid (HB3.out.trans (hal.mono HB3.out.size))
                        have HSB : Hid (wa.heap.size ≤ (w3.alloc (.cells #[.string ⟨#[]⟩, .string ⟨#[]⟩, .int .i64 0] 58)).heap.size) := HB4.out.size
                        have HNM : Hid (n + 1 ≤ maxLen ∧ (n + 1) * 40 ≤ 140737488355328) := by
                          have hmx : maxLen = 9223372036854775807 := by decide
                          have := HNN.out
                          exact ⟨by omega, by omega⟩
                        clear hal HO3 HB3
                        go_upto_region 19 with (at_builtin; refine ap_row infoRA Try.underlying22 rfl (by decide) rfl (.tmp 101) (.tmp 103) rfl rfl HO4.out HSB.out ⟨w3.heap.size, 0, none⟩ 1 1 [.string ⟨#[]⟩, .string ⟨#[]⟩, .int .i64 0] rfl rfl (lit_cells_at w3 #[.string ⟨#[]⟩, .string ⟨#[]⟩, .int .i64 0] 58 _ rfl) (by simp [Value.oneCell']) HNM.out.1 HNM.out.2 ?_; intro v5 w5 o1 g1 hv1; have HO5 := Lib.hid o1; have HG5 := Lib.hid g1; clear o1 g1 hv1)
                        have HB5 := Lib.hid (HB4.out.grown HG5.out HB4.out.size (fun b hb => (own_lt HO4.out hb).1))
                        obtain ⟨a5, c5, rfl⟩ := own_slice HO5.out
                        have HR5 : Hid (w5.ownsRow wa.heap.size 58 3 (.slice a5 (n + 1) c5) (n + 1) (outR (out.take n ++ (⟨⟨#[]⟩, ⟨#[]⟩, 0⟩ : Acct) :: out.drop n)) ∧ Below wa.heap.size wa w5) := by
                          refine ⟨?_, HB5.out⟩
                          rw [List.take_of_length_le (by rw [HR.out.1]; omega), List.drop_eq_nil_of_le (by rw [HR.out.1]; omega), outR_append, outR_one]
                          exact HO5.out
                        have hn19 : IntKind.i64.wrap ((n : Int) + 1 - 1) = (n : Int) := by rw [IntWalk.i64_in _ (by have := HNN.out; omega)]; omega
                        have hn20 : (n : Int) ≤ 3000 := by have := HNN.out; omega
                        clear HO5 HG5 HB5 HO4 HB4 HSB
                        have HLI : Hid (p ≤ n) := by have h1 := HAL2.out; rw [HR.out.1] at h1; exact h1
                        go_wp2_with fail
                        go_loopw [11] (fun v wj => ∃ (q : Nat) (y : Acct), v = .int .i64 (q : Nat) ∧ p ≤ q ∧ q ≤ n ∧ Hid (wj.ownsRow wa.heap.size 58 3 (.slice a5 (n + 1) c5) (n + 1) (outR (out.take q ++ y :: out.drop q)) ∧ Below wa.heap.size wa wj)) (fun v _ => (intOf v).toNat)
                        case atStart => exact ⟨n, _, by go_num, HLI.out, Nat.le_refl _, HR5.out⟩
                        case round =>
                          clear HR5
                          rename World => wj
                          obtain ⟨q, y5, rfl, hpq, hqn, HL⟩ := hrel
                          have hlq : (out.take q).length = q := by rw [List.length_take, HR.out.1]; omega
                          have hll : (out.take q ++ y5 :: out.drop q).length = n + 1 := by rw [List.length_append, List.length_cons, hlq, List.length_drop, HR.out.1]; omega
                          by_cases hq : p < q
                          · obtain ⟨r, hr⟩ : ∃ r, q = r + 1 := ⟨q - 1, by omega⟩
                            obtain ⟨g5, cap5, z, hv, hz, z0, z1, z2, hfz⟩ := rowA_at HL.out.1 hll r (by omega)
                            injection hv with e1 _ e3
                            subst e1; subst e3
                            have hzo : out[r]? = some z := by
                              rw [List.getElem?_append_left (by omega), List.getElem?_take, if_pos (by omega)] at hz; exact hz
                            have hre : out.take q ++ z :: out.drop q = out.take r ++ z :: out.drop r := by
                              obtain ⟨hr1, hr2⟩ := List.getElem?_eq_some_iff.1 hzo
                              rw [hr, ← List.take_append_getElem hr1, hr2, List.append_assoc, List.singleton_append, List.drop_eq_getElem_cons hr1, hr2]
                            have hput := rowA_put HL.out.1 z q hlq
                            rw [hre] at hput
                            have HPUT := Lib.hid hput
                            have HBP := Lib.hid (below_put3 (k := q) HL.out.2 (own_lt HL.out.1 rfl).1 z)
                            obtain ⟨⟨w0, f0⟩, f1, ⟨w2, f2⟩, f3, ⟨w4, f4⟩, f5⟩ := put3_way HL.out.1 (by rw [outR_len, hll]) z q (by omega)
                            have hqi : ((p : Nat) : Int) < (q : Int) := by omega
                            have hwr : IntKind.i64.wrap ((q : Int) - 1) = (r : Int) := by rw [IntWalk.i64_in _ (by omega)]; omega
                            have hwr2 : (q : Int) - 1 = (r : Int) := by omega
                            have hr0 : (0 : Int) ≤ (r : Int) := by omega
                            have hr1 : (r : Int) < (n : Int) + 1 := by omega
                            have hq0 : (0 : Int) ≤ (q : Int) := by omega
                            have hq1 : (q : Int) < (n : Int) + 1 := by omega
                            have HRQ := Lib.hid hr
                            have HQN := Lib.hid hqn
                            have HPQ := Lib.hid hq
                            have HQ0 : Hid (p ≤ r) := by show _ ≤ _; omega
                            clear hput hre hzo hz hfz hll hlq hr hqn hpq hq HL
                            go_wp2_with fail
                            go_roundw
                            case rel => exact ⟨r, z, by go_num, HQ0.out, by have := HRQ.out; have := HQN.out; omega, HPUT.out, HBP.out⟩
                            case measure => simp [intOf]; have := HRQ.out; omega
                          · obtain rfl : q = p := by omega
                            have hxx := acct_at (HSA.out.kept (Kept.of_below HL.out.2 [])) k HKL.out
                            obtain ⟨b6, o6, x6, hb6, hx6, -, x0, x1, x2⟩ := hxx
                            injection hb6 with hb6
                            injection hb6 with e1 e2
                            subst e1; subst e2
                            obtain rfl : x6 = x := by rw [HX.out] at hx6; injection hx6 with hx6; exact hx6.symm
                            rw [HXZ.out] at x2
                            obtain ⟨g5, cap5, z, hv, -⟩ := rowA_at HL.out.1 hll q (by omega)
                            injection hv with e1 _ e3
                            subst e1; subst e3
                            have HPUT : Hid ((((wj.setCell ⟨g5, q * 3, none⟩ (.string x6.party)).setCell ⟨g5, q * 3 + 1, none⟩ (.string x6.coin)).setCell ⟨g5, q * 3 + 2, none⟩ (.int .i64 0)).ownsRow wa.heap.size 58 3 (.slice (some ⟨g5, 0, none⟩) (n + 1) c5) (n + 1) (outR (insA out q x6))) := by
                              have h := rowA_put HL.out.1 x6 q hlq
                              unfold put3 at h
                              rw [HXZ.out] at h
                              exact h
                            have HBP : Hid (Below wa.heap.size wa (((wj.setCell ⟨g5, q * 3, none⟩ (.string x6.party)).setCell ⟨g5, q * 3 + 1, none⟩ (.string x6.coin)).setCell ⟨g5, q * 3 + 2, none⟩ (.int .i64 0))) := by
                              have h := below_put3 (k := q) HL.out.2 (own_lt HL.out.1 rfl).1 x6
                              unfold put3 at h
                              rw [HXZ.out] at h
                              exact h
                            obtain ⟨⟨w0, f0⟩, f1, ⟨w2, f2⟩, f3, ⟨w4, f4⟩, f5⟩ := put3_way HL.out.1 (by rw [outR_len, hll]) x6 q (by omega)
                            have hqi : ¬ ((q : Nat) : Int) < (q : Int) := by omega
                            have hq0 : (0 : Int) ≤ (q : Int) := by omega
                            have hq1 : (q : Int) < (n : Int) + 1 := by omega
                            have HLN : Hid ((insA out q x6).length = n + 1) := by show _ = _; rw [insA_len _ _ _ HAL2.out, HR.out.1]
                            rw [← HTK.out] at HKS
                            clear hx6 hll hlq hqn hpq hq HL
                            go_wp2_with fail
                            go_roundw
                            case rel => exact ⟨k + 1, insA out q x6, n + 1, _, _, rfl, by go_num, by have := HKL.out; omega, HLN.out, HPUT.out, HBP.out, HKS.out⟩
                            case measure => simp [intOf]; have := HKL.out; omega
                      · have HKS := Lib.hid (HR.out.2.2.2.ins HAT.out HHT.out)
                        have HAL2 := Lib.hid HAT.out.le
                        rw [decide_eq_false h1] at q1
                        clear hq hq0 h1 hne q2 HP HPB HAT HHT HY HYZ HQ HPN
                        go_upto_region 17 with (fail)
                        go_quiet (fail)
                        clear x0 x1 x2 z0 z1 z2 q1
                        have bq : Below w2.heap.size w2 (w2.drewN nq) := below_dN (Below.refl w2.heap.size w2) nq
                        have HO3 := Lib.hid (own_below HO2.out bq)
                        have HB3 := Lib.hid (HB2.out.trans (bq.mono HB2.out.size))
                        clear bq HO2 HB2
                        generalize w2.drewN nq = w3 at *
                        have hal := (Below.refl w3.heap.size w3).alloc (Nat.le_refl _) (.cells #[.string ⟨#[]⟩, .string ⟨#[]⟩, .int .i64 0] 58)
                        have HO4 := Lib.hid (own_below HO3.out hal)
                        have HB4 := Lib.hid (HB3.out.trans (hal.mono HB3.out.size))
                        have HSB : Hid (wa.heap.size ≤ (w3.alloc (.cells #[.string ⟨#[]⟩, .string ⟨#[]⟩, .int .i64 0] 58)).heap.size) := HB4.out.size
                        have HNM : Hid (n + 1 ≤ maxLen ∧ (n + 1) * 40 ≤ 140737488355328) := by
                          have hmx : maxLen = 9223372036854775807 := by decide
                          have := HNN.out
                          exact ⟨by omega, by omega⟩
                        clear hal HO3 HB3
                        go_upto_region 19 with (at_builtin; refine ap_row infoRA Try.underlying22 rfl (by decide) rfl (.tmp 101) (.tmp 103) rfl rfl HO4.out HSB.out ⟨w3.heap.size, 0, none⟩ 1 1 [.string ⟨#[]⟩, .string ⟨#[]⟩, .int .i64 0] rfl rfl (lit_cells_at w3 #[.string ⟨#[]⟩, .string ⟨#[]⟩, .int .i64 0] 58 _ rfl) (by simp [Value.oneCell']) HNM.out.1 HNM.out.2 ?_; intro v5 w5 o1 g1 hv1; have HO5 := Lib.hid o1; have HG5 := Lib.hid g1; clear o1 g1 hv1)
                        have HB5 := Lib.hid (HB4.out.grown HG5.out HB4.out.size (fun b hb => (own_lt HO4.out hb).1))
                        obtain ⟨a5, c5, rfl⟩ := own_slice HO5.out
                        have HR5 : Hid (w5.ownsRow wa.heap.size 58 3 (.slice a5 (n + 1) c5) (n + 1) (outR (out.take n ++ (⟨⟨#[]⟩, ⟨#[]⟩, 0⟩ : Acct) :: out.drop n)) ∧ Below wa.heap.size wa w5) := by
                          refine ⟨?_, HB5.out⟩
                          rw [List.take_of_length_le (by rw [HR.out.1]; omega), List.drop_eq_nil_of_le (by rw [HR.out.1]; omega), outR_append, outR_one]
                          exact HO5.out
                        have hn19 : IntKind.i64.wrap ((n : Int) + 1 - 1) = (n : Int) := by rw [IntWalk.i64_in _ (by have := HNN.out; omega)]; omega
                        have hn20 : (n : Int) ≤ 3000 := by have := HNN.out; omega
                        clear HO5 HG5 HB5 HO4 HB4 HSB
                        have HLI : Hid (p ≤ n) := by have h1 := HAL2.out; rw [HR.out.1] at h1; exact h1
                        go_wp2_with fail
                        go_loopw [11] (fun v wj => ∃ (q : Nat) (y : Acct), v = .int .i64 (q : Nat) ∧ p ≤ q ∧ q ≤ n ∧ Hid (wj.ownsRow wa.heap.size 58 3 (.slice a5 (n + 1) c5) (n + 1) (outR (out.take q ++ y :: out.drop q)) ∧ Below wa.heap.size wa wj)) (fun v _ => (intOf v).toNat)
                        case atStart => exact ⟨n, _, by go_num, HLI.out, Nat.le_refl _, HR5.out⟩
                        case round =>
                          clear HR5
                          rename World => wj
                          obtain ⟨q, y5, rfl, hpq, hqn, HL⟩ := hrel
                          have hlq : (out.take q).length = q := by rw [List.length_take, HR.out.1]; omega
                          have hll : (out.take q ++ y5 :: out.drop q).length = n + 1 := by rw [List.length_append, List.length_cons, hlq, List.length_drop, HR.out.1]; omega
                          by_cases hq : p < q
                          · obtain ⟨r, hr⟩ : ∃ r, q = r + 1 := ⟨q - 1, by omega⟩
                            obtain ⟨g5, cap5, z, hv, hz, z0, z1, z2, hfz⟩ := rowA_at HL.out.1 hll r (by omega)
                            injection hv with e1 _ e3
                            subst e1; subst e3
                            have hzo : out[r]? = some z := by
                              rw [List.getElem?_append_left (by omega), List.getElem?_take, if_pos (by omega)] at hz; exact hz
                            have hre : out.take q ++ z :: out.drop q = out.take r ++ z :: out.drop r := by
                              obtain ⟨hr1, hr2⟩ := List.getElem?_eq_some_iff.1 hzo
                              rw [hr, ← List.take_append_getElem hr1, hr2, List.append_assoc, List.singleton_append, List.drop_eq_getElem_cons hr1, hr2]
                            have hput := rowA_put HL.out.1 z q hlq
                            rw [hre] at hput
                            have HPUT := Lib.hid hput
                            have HBP := Lib.hid (below_put3 (k := q) HL.out.2 (own_lt HL.out.1 rfl).1 z)
                            obtain ⟨⟨w0, f0⟩, f1, ⟨w2, f2⟩, f3, ⟨w4, f4⟩, f5⟩ := put3_way HL.out.1 (by rw [outR_len, hll]) z q (by omega)
                            have hqi : ((p : Nat) : Int) < (q : Int) := by omega
                            have hwr : IntKind.i64.wrap ((q : Int) - 1) = (r : Int) := by rw [IntWalk.i64_in _ (by omega)]; omega
                            have hwr2 : (q : Int) - 1 = (r : Int) := by omega
                            have hr0 : (0 : Int) ≤ (r : Int) := by omega
                            have hr1 : (r : Int) < (n : Int) + 1 := by omega
                            have hq0 : (0 : Int) ≤ (q : Int) := by omega
                            have hq1 : (q : Int) < (n : Int) + 1 := by omega
                            have HRQ := Lib.hid hr
                            have HQN := Lib.hid hqn
                            have HPQ := Lib.hid hq
                            have HQ0 : Hid (p ≤ r) := by show _ ≤ _; omega
                            clear hput hre hzo hz hfz hll hlq hr hqn hpq hq HL
                            go_wp2_with fail
                            go_roundw
                            case rel => exact ⟨r, z, by go_num, HQ0.out, by have := HRQ.out; have := HQN.out; omega, HPUT.out, HBP.out⟩
                            case measure => simp [intOf]; have := HRQ.out; omega
                          · obtain rfl : q = p := by omega
                            have hxx := acct_at (HSA.out.kept (Kept.of_below HL.out.2 [])) k HKL.out
                            obtain ⟨b6, o6, x6, hb6, hx6, -, x0, x1, x2⟩ := hxx
                            injection hb6 with hb6
                            injection hb6 with e1 e2
                            subst e1; subst e2
                            obtain rfl : x6 = x := by rw [HX.out] at hx6; injection hx6 with hx6; exact hx6.symm
                            rw [HXZ.out] at x2
                            obtain ⟨g5, cap5, z, hv, -⟩ := rowA_at HL.out.1 hll q (by omega)
                            injection hv with e1 _ e3
                            subst e1; subst e3
                            have HPUT : Hid ((((wj.setCell ⟨g5, q * 3, none⟩ (.string x6.party)).setCell ⟨g5, q * 3 + 1, none⟩ (.string x6.coin)).setCell ⟨g5, q * 3 + 2, none⟩ (.int .i64 0)).ownsRow wa.heap.size 58 3 (.slice (some ⟨g5, 0, none⟩) (n + 1) c5) (n + 1) (outR (insA out q x6))) := by
                              have h := rowA_put HL.out.1 x6 q hlq
                              unfold put3 at h
                              rw [HXZ.out] at h
                              exact h
                            have HBP : Hid (Below wa.heap.size wa (((wj.setCell ⟨g5, q * 3, none⟩ (.string x6.party)).setCell ⟨g5, q * 3 + 1, none⟩ (.string x6.coin)).setCell ⟨g5, q * 3 + 2, none⟩ (.int .i64 0))) := by
                              have h := below_put3 (k := q) HL.out.2 (own_lt HL.out.1 rfl).1 x6
                              unfold put3 at h
                              rw [HXZ.out] at h
                              exact h
                            obtain ⟨⟨w0, f0⟩, f1, ⟨w2, f2⟩, f3, ⟨w4, f4⟩, f5⟩ := put3_way HL.out.1 (by rw [outR_len, hll]) x6 q (by omega)
                            have hqi : ¬ ((q : Nat) : Int) < (q : Int) := by omega
                            have hq0 : (0 : Int) ≤ (q : Int) := by omega
                            have hq1 : (q : Int) < (n : Int) + 1 := by omega
                            have HLN : Hid ((insA out q x6).length = n + 1) := by show _ = _; rw [insA_len _ _ _ HAL2.out, HR.out.1]
                            rw [← HTK.out] at HKS
                            clear hx6 hll hlq hqn hpq hq HL
                            go_wp2_with fail
                            go_roundw
                            case rel => exact ⟨k + 1, insA out q x6, n + 1, _, _, rfl, by go_num, by have := HKL.out; omega, HLN.out, HPUT.out, HBP.out, HKS.out⟩
                            case measure => simp [intOf]; have := HKL.out; omega
                · obtain rfl : n = p := by omega
                  have hpn' : decide ((n : Int) < (n : Int)) = false := decide_eq_false (by omega)
                  have hpn2 : decide (n < n) = false := decide_eq_false (by omega)
                  have p0 : (0 : Int) ≤ (n : Int) := by omega
                  have hnone : out[n]? = none := List.getElem?_eq_none (by rw [HR.out.1]; omega)
                  have HAT : Hid (AtK Acct.key out x.key n) := ⟨by rw [HR.out.1]; omega, fun z h0 hz => HP.out.1 (n - 1) z (by omega) hz, fun z hz => by rw [hnone] at hz; cases hz⟩
                  have HHT : Hid (hitK Acct.key out x.key n = false) := by
                    show _ = _
                    unfold hitK
                    rw [hnone]
                  have HKS := Lib.hid (HR.out.2.2.2.ins HAT.out HHT.out)
                  have HAL2 := Lib.hid HAT.out.le
                  clear HP HAT HHT hnone hp hpn x0i x1i x2i
                  go_upto_region 15 with (fail)
                  go_quiet (fail)
                  have bq : Below wi.heap.size wi (wi.drewN nq) := below_dN (Below.refl wi.heap.size wi) nq
                  have HO2 := Lib.hid (own_below HOI.out bq)
                  have HB2 := Lib.hid (HBI.out.trans (bq.mono HBI.out.size))
                  clear bq HOI HBI
                  generalize wi.drewN nq = w2 at *
                  clear nq
                  go_upto_region 17 with (fail)
                  go_quiet (fail)
                  obtain ⟨p, hpe⟩ : ∃ p, p = n := ⟨_, rfl⟩
                  rw [show Value.int .i64 (n : Int) = Value.int .i64 (p : Int) by rw [hpe]]
                  rw [show insA out n x = insA out p x by rw [hpe]] at HKS
                  have HAL3 : Hid (p ≤ out.length) := by rw [hpe]; exact HAL2.out
                  have p0 : (0 : Int) ≤ (p : Int) := by omega
                  clear HAL2 hpe hpn' hpn2
                  have HAL2 := Lib.hid HAL3.out
                  clear HAL3
                  have bq : Below w2.heap.size w2 (w2.drewN nq) := below_dN (Below.refl w2.heap.size w2) nq
                  have HO3 := Lib.hid (own_below HO2.out bq)
                  have HB3 := Lib.hid (HB2.out.trans (bq.mono HB2.out.size))
                  clear bq HO2 HB2
                  generalize w2.drewN nq = w3 at *
                  have hal := (Below.refl w3.heap.size w3).alloc (Nat.le_refl _) (.cells #[.string ⟨#[]⟩, .string ⟨#[]⟩, .int .i64 0] 58)
                  have HO4 := Lib.hid (own_below HO3.out hal)
                  have HB4 := Lib.hid (HB3.out.trans (hal.mono HB3.out.size))
                  have HSB : Hid (wa.heap.size ≤ (w3.alloc (.cells #[.string ⟨#[]⟩, .string ⟨#[]⟩, .int .i64 0] 58)).heap.size) := HB4.out.size
                  have HNM : Hid (n + 1 ≤ maxLen ∧ (n + 1) * 40 ≤ 140737488355328) := by
                    have hmx : maxLen = 9223372036854775807 := by decide
                    have := HNN.out
                    exact ⟨by omega, by omega⟩
                  clear hal HO3 HB3
                  go_upto_region 19 with (at_builtin; refine ap_row infoRA Try.underlying22 rfl (by decide) rfl (.tmp 101) (.tmp 103) rfl rfl HO4.out HSB.out ⟨w3.heap.size, 0, none⟩ 1 1 [.string ⟨#[]⟩, .string ⟨#[]⟩, .int .i64 0] rfl rfl (lit_cells_at w3 #[.string ⟨#[]⟩, .string ⟨#[]⟩, .int .i64 0] 58 _ rfl) (by simp [Value.oneCell']) HNM.out.1 HNM.out.2 ?_; intro v5 w5 o1 g1 hv1; have HO5 := Lib.hid o1; have HG5 := Lib.hid g1; clear o1 g1 hv1)
                  have HB5 := Lib.hid (HB4.out.grown HG5.out HB4.out.size (fun b hb => (own_lt HO4.out hb).1))
                  obtain ⟨a5, c5, rfl⟩ := own_slice HO5.out
                  have HR5 : Hid (w5.ownsRow wa.heap.size 58 3 (.slice a5 (n + 1) c5) (n + 1) (outR (out.take n ++ (⟨⟨#[]⟩, ⟨#[]⟩, 0⟩ : Acct) :: out.drop n)) ∧ Below wa.heap.size wa w5) := by
                    refine ⟨?_, HB5.out⟩
                    rw [List.take_of_length_le (by rw [HR.out.1]; omega), List.drop_eq_nil_of_le (by rw [HR.out.1]; omega), outR_append, outR_one]
                    exact HO5.out
                  have hn19 : IntKind.i64.wrap ((n : Int) + 1 - 1) = (n : Int) := by rw [IntWalk.i64_in _ (by have := HNN.out; omega)]; omega
                  have hn20 : (n : Int) ≤ 3000 := by have := HNN.out; omega
                  clear HO5 HG5 HB5 HO4 HB4 HSB
                  have HLI : Hid (p ≤ n) := by have h1 := HAL2.out; rw [HR.out.1] at h1; exact h1
                  go_wp2_with fail
                  go_loopw [11] (fun v wj => ∃ (q : Nat) (y : Acct), v = .int .i64 (q : Nat) ∧ p ≤ q ∧ q ≤ n ∧ Hid (wj.ownsRow wa.heap.size 58 3 (.slice a5 (n + 1) c5) (n + 1) (outR (out.take q ++ y :: out.drop q)) ∧ Below wa.heap.size wa wj)) (fun v _ => (intOf v).toNat)
                  case atStart => exact ⟨n, _, by go_num, HLI.out, Nat.le_refl _, HR5.out⟩
                  case round =>
                    clear HR5
                    rename World => wj
                    obtain ⟨q, y5, rfl, hpq, hqn, HL⟩ := hrel
                    have hlq : (out.take q).length = q := by rw [List.length_take, HR.out.1]; omega
                    have hll : (out.take q ++ y5 :: out.drop q).length = n + 1 := by rw [List.length_append, List.length_cons, hlq, List.length_drop, HR.out.1]; omega
                    by_cases hq : p < q
                    · obtain ⟨r, hr⟩ : ∃ r, q = r + 1 := ⟨q - 1, by omega⟩
                      obtain ⟨g5, cap5, z, hv, hz, z0, z1, z2, hfz⟩ := rowA_at HL.out.1 hll r (by omega)
                      injection hv with e1 _ e3
                      subst e1; subst e3
                      have hzo : out[r]? = some z := by
                        rw [List.getElem?_append_left (by omega), List.getElem?_take, if_pos (by omega)] at hz; exact hz
                      have hre : out.take q ++ z :: out.drop q = out.take r ++ z :: out.drop r := by
                        obtain ⟨hr1, hr2⟩ := List.getElem?_eq_some_iff.1 hzo
                        rw [hr, ← List.take_append_getElem hr1, hr2, List.append_assoc, List.singleton_append, List.drop_eq_getElem_cons hr1, hr2]
                      have hput := rowA_put HL.out.1 z q hlq
                      rw [hre] at hput
                      have HPUT := Lib.hid hput
                      have HBP := Lib.hid (below_put3 (k := q) HL.out.2 (own_lt HL.out.1 rfl).1 z)
                      obtain ⟨⟨w0, f0⟩, f1, ⟨w2, f2⟩, f3, ⟨w4, f4⟩, f5⟩ := put3_way HL.out.1 (by rw [outR_len, hll]) z q (by omega)
                      have hqi : ((p : Nat) : Int) < (q : Int) := by omega
                      have hwr : IntKind.i64.wrap ((q : Int) - 1) = (r : Int) := by rw [IntWalk.i64_in _ (by omega)]; omega
                      have hwr2 : (q : Int) - 1 = (r : Int) := by omega
                      have hr0 : (0 : Int) ≤ (r : Int) := by omega
                      have hr1 : (r : Int) < (n : Int) + 1 := by omega
                      have hq0 : (0 : Int) ≤ (q : Int) := by omega
                      have hq1 : (q : Int) < (n : Int) + 1 := by omega
                      have HRQ := Lib.hid hr
                      have HQN := Lib.hid hqn
                      have HPQ := Lib.hid hq
                      have HQ0 : Hid (p ≤ r) := by show _ ≤ _; omega
                      clear hput hre hzo hz hfz hll hlq hr hqn hpq hq HL
                      go_wp2_with fail
                      go_roundw
                      case rel => exact ⟨r, z, by go_num, HQ0.out, by have := HRQ.out; have := HQN.out; omega, HPUT.out, HBP.out⟩
                      case measure => simp [intOf]; have := HRQ.out; omega
                    · obtain rfl : q = p := by omega
                      have hxx := acct_at (HSA.out.kept (Kept.of_below HL.out.2 [])) k HKL.out
                      obtain ⟨b6, o6, x6, hb6, hx6, -, x0, x1, x2⟩ := hxx
                      injection hb6 with hb6
                      injection hb6 with e1 e2
                      subst e1; subst e2
                      obtain rfl : x6 = x := by rw [HX.out] at hx6; injection hx6 with hx6; exact hx6.symm
                      rw [HXZ.out] at x2
                      obtain ⟨g5, cap5, z, hv, -⟩ := rowA_at HL.out.1 hll q (by omega)
                      injection hv with e1 _ e3
                      subst e1; subst e3
                      have HPUT : Hid ((((wj.setCell ⟨g5, q * 3, none⟩ (.string x6.party)).setCell ⟨g5, q * 3 + 1, none⟩ (.string x6.coin)).setCell ⟨g5, q * 3 + 2, none⟩ (.int .i64 0)).ownsRow wa.heap.size 58 3 (.slice (some ⟨g5, 0, none⟩) (n + 1) c5) (n + 1) (outR (insA out q x6))) := by
                        have h := rowA_put HL.out.1 x6 q hlq
                        unfold put3 at h
                        rw [HXZ.out] at h
                        exact h
                      have HBP : Hid (Below wa.heap.size wa (((wj.setCell ⟨g5, q * 3, none⟩ (.string x6.party)).setCell ⟨g5, q * 3 + 1, none⟩ (.string x6.coin)).setCell ⟨g5, q * 3 + 2, none⟩ (.int .i64 0))) := by
                        have h := below_put3 (k := q) HL.out.2 (own_lt HL.out.1 rfl).1 x6
                        unfold put3 at h
                        rw [HXZ.out] at h
                        exact h
                      obtain ⟨⟨w0, f0⟩, f1, ⟨w2, f2⟩, f3, ⟨w4, f4⟩, f5⟩ := put3_way HL.out.1 (by rw [outR_len, hll]) x6 q (by omega)
                      have hqi : ¬ ((q : Nat) : Int) < (q : Int) := by omega
                      have hq0 : (0 : Int) ≤ (q : Int) := by omega
                      have hq1 : (q : Int) < (n : Int) + 1 := by omega
                      have HLN : Hid ((insA out q x6).length = n + 1) := by show _ = _; rw [insA_len _ _ _ HAL2.out, HR.out.1]
                      rw [← HTK.out] at HKS
                      clear hx6 hll hlq hqn hpq hq HL
                      go_wp2_with fail
                      go_roundw
                      case rel => exact ⟨k + 1, insA out q x6, n + 1, _, _, rfl, by go_num, by have := HKL.out; omega, HLN.out, HPUT.out, HBP.out, HKS.out⟩
                      case measure => simp [intOf]; have := HKL.out; omega
            · have hkt' : ¬ (k : Int) < (N : Int) := by omega
              obtain rfl : k = N := by omega
              have HEND : Hid ((∃ out a c, Value.slice ba n bc = .slice a out.length c ∧ SlR acctK wr [] out a out.length c ∧ KeySt out (allK l m)) ∧ Below w.heap.size w wr) := by
                have h := HR.out
                refine ⟨?_, HBW.out.trans (h.2.2.1.mono HBW.out.size)⟩
                have hks := h.2.2.2
                rw [List.take_of_length_le (by rw [HAL.out]; omega)] at hks
                have ho := h.2.1
                rw [← h.1] at ho
                obtain ⟨a, c, e, hs⟩ := outR_any (l := out) ho h.2.2.1 (fun a ha => (HAO.out a (hks.sub a ha)).1)
                refine ⟨out, a, c, ?_, hs, by rw [← HAA.out]; exact hks⟩
                rw [← e, h.1]
              clear HR hkt hk HAA HAO HAL
              go_wp2_with fail
              go_ret
              obtain ⟨⟨ou, a, c, hac, hs, hks⟩, hb⟩ := HEND.out
              exact ⟨⟨ou, a, c, by rw [hac]; rfl, hs, hks⟩, hb⟩
end Go.Proofs.Ytgbiimoednmlgaa
