/- A part of the proof: LdPo, one behind another. -/
import Derived.Test.YtgbiimoednmlgaaMOA
import Derived.Test.YtgbiimoednmlgaaMOB
import Derived.Test.YtgbiimoednmlgaaMOC
import Derived.Test.YtgbiimoednmlgaaMOD
import Derived.Test.YtgbiimoednmlgaaMOE
import Derived.Test.YtgbiimoednmlgaaMOF
import Derived.Test.YtgbiimoednmlgaaMOG
import Derived.Test.YtgbiimoednmlgaaMOH
import Derived.Test.YtgbiimoednmlgaaMOI
import Derived.Test.YtgbiimoednmlgaaMOJ
import Derived.Test.YtgbiimoednmlgaaMOK
import Derived.Test.YtgbiimoednmlgaaMOL
import Derived.BigQuiet
/- The document's Post, walked. -/
namespace Go.Proofs.Ytgbiimoednmlgaa
set_option linter.unusedVariables false
set_option linter.unusedSimpArgs false
open Go.RowKit
set_option maxRecDepth 100000 in
set_option maxHeartbeats 8000000 in
theorem rpost_any (l : List Acct) (m : List Mv) (la : Option Addr) (ll lc : Nat) (ma : Option Addr) (ml mc : Nat) (w : World) (hl : SlR acctK w [] l la ll lc) (hm : SlR mvK w [] m ma ml mc) (hll : ll ≤ 1000) (hml : ml ≤ 1000) (hr : rightA l = true) :
    Calls Try.prog 19 #[.slice la ll lc, .slice ma ml mc] w fun y w' => RpoR w' l m y ∧ Below w.heap.size w w' := by
  have HS := Lib.hid hl
  have HM := Lib.hid hm
  have HLL := Lib.hid hl.facts.1
  have HML := Lib.hid hm.facts.1
  have HLB := Lib.hid hll
  have HMB := Lib.hid hml
  have HUP := Lib.hid (rightA_iff.1 hr).2
  have HKY := Lib.hid (keys_any l m la ll lc ma ml mc w hl hm hll hml)
  clear hl hm hll hml hr
  obtain ⟨L, hL⟩ : ∃ L, L = conA l ++ conM m := ⟨_, rfl⟩
  have HL := Lib.hid hL
  clear hL
  go_enter Try.func19, Try.ntmps19
  go_wp2_with fail
  go_at_call 39
  (with_reducible refine HKY.out.mono ?_)
  rintro x w1 ⟨⟨ks, ka, kc, rfl, hks, hkk⟩, b1⟩
  have HK := Lib.hid hks
  have HKK := Lib.hid hkk
  have HB1 := Lib.hid b1
  have HKB : Hid (ks.length ≤ 3000) := by
    have h1 := hkk.len
    have h2 := HLL.out
    have h3 := HML.out
    have h4 := HLB.out
    have h5 := HMB.out
    rw [allK_len] at h1
    show _ ≤ _
    omega
  have HM1 := Lib.hid (HM.out.kept (Kept.of_below b1 []))
  have HS1 := Lib.hid (HS.out.kept (Kept.of_below b1 []))
  obtain ⟨kn, hkn⟩ : ∃ n, n = ks.length := ⟨_, rfl⟩
  have HKL := Lib.hid hkn
  rw [← hkn] at HK HKB ⊢
  clear HKY hks hkk b1 hkn HM HS
  go_wp2_with fail
  go_loopw [7, 8] (fun v i wr => ∃ (k : Nat) (oa : Option Addr) (oc : Nat), v = .slice oa (oK L (ks.take k)).length oc ∧ i = .int .i64 (k : Nat) ∧ k ≤ kn ∧ Hid (wr.ownsRow w1.heap.size 58 3 (.slice oa (oK L (ks.take k)).length oc) (oK L (ks.take k)).length (outR (oK L (ks.take k))) ∧ Below w1.heap.size w1 wr ∧ (∀ (j : Nat) e, j < k → ks[j]? = some e → fits64 (tot L e.key) = true))) (fun _ i _ => kn - (intOf i).toNat)
  case atStart => exact ⟨0, none, 0, rfl, rfl, Nat.zero_le _, World.ownsRow_nil _ _ _ _, Below.refl _ _, fun j e h => absurd h (by omega)⟩
  case round =>
    obtain ⟨k, oa, oc, rfl, rfl, hk, HR⟩ := hrel
    have HOL : Hid ((oK L (ks.take k)).length ≤ 3000) := by
      have h1 := oK_len L (ks.take k)
      rw [List.length_take] at h1
      have h2 := HKB.out
      show _ ≤ _
      omega
    obtain ⟨on, hon⟩ : ∃ n, n = (oK L (ks.take k)).length := ⟨_, rfl⟩
    have HON := Lib.hid hon
    rw [← hon] at HR HOL ⊢
    clear hon
    by_cases hkt : k < kn
    · have hkt' : (k : Int) < (kn : Int) := by omega
      have k0 : (0 : Int) ≤ (k : Int) := by omega
      have k1 : (k : Int) ≤ 3000 := by have := HKB.out; omega
      obtain ⟨b, o, x, hka, hx, hxo, x0, x1, x2⟩ := acct_at HK.out k hkt
      have HX0 := Lib.hid x0
      have HX1 := Lib.hid x1
      replace x0 := cellUp x0 HR.out.2.1
      replace x1 := cellUp x1 HR.out.2.1
      clear x2
      have HKA := Lib.hid hka
      have HX := Lib.hid hx
      have HXO := Lib.hid hxo
      have HKT := Lib.hid hkt
      have HSR := Lib.hid (HS1.out.kept (Kept.of_below HR.out.2.1 []))
      have HGT : Hid (∀ W, Below wr.heap.size wr W → Calls Try.prog 26 #[.slice la ll lc, .string x.party, .string x.coin] W fun y w' => y = .returned (.int .i64 (getR l (x.party.data.toList, x.coin.data.toList))) ∧ Below W.heap.size W w') := fun W b => (rget_any l la ll lc x.party x.coin W (HSR.out.kept (Kept.of_below b [])) (by have := HLB.out; omega)).mono fun y w' h => ⟨h.1, by rw [h.2]; exact Below.refl _ _⟩
      obtain ⟨z0, hz0⟩ : ∃ z, z = getR l (x.party.data.toList, x.coin.data.toList) := ⟨_, rfl⟩
      have HZI : Hid (I64 z0) := by show I64 z0; rw [hz0]; exact getR_rng (acct_ok HS1.out)
      have HZ0 : Hid (stM l m 0 x.key = z0) := by show _ = _; rw [stM_zero HUP.out, hz0]; rfl
      rw [← hz0] at HGT
      clear hz0
      have HOF := Lib.hid (fun W => bigof_any z0 W HZI.out.1 HZI.out.2)
      subst hka
      go_upto_region 6 with (fail)
      obtain ⟨W0, hW0⟩ : ∃ W, W = wr := ⟨_, rfl⟩
      rw [← hW0] at HR x0 x1 HSR HGT ⊢
      clear hW0 hx hxo hkt
      go_cut [9] (fun p W => ∃ g, p = .pointer (some ⟨g, 0, none⟩) ∧ Hid (PoSt w1 W (.slice oa on oc) on (outR (oK L (ks.take k))) g z0))
      case first =>
        refine wp_region_till (S := fun W => W.cell? ⟨b, o + k * 3, none⟩ = some (.string x.party) ∧ W.cell? ⟨b, o + k * 3 + 1, none⟩ = some (.string x.coin)) 14 (by kernel_rfl) ?_
        refine till_take (i := 0) (v := ?_) rfl (by kernel_rfl) (fun _ _ _ h => h) (Or.inl ⟨by rfl, ?_⟩) ⟨x0,x1⟩ ?_
        rotate_left
        · intro W hS
          try dsimp only at hS
          go_split_ands
          go_simp
          try with_reducible rfl
        try simp only [Act.put, List.getElem_toArray, List.getElem_cons_zero, List.getElem_cons_succ, List.setIfInBounds_toArray, List.set_cons_zero, List.set_cons_succ]
        refine till_take (i := 1) (v := ?_) rfl (by kernel_rfl) (fun _ _ _ h => h) (Or.inl ⟨by rfl, ?_⟩) ⟨x0,x1⟩ ?_
        rotate_left
        · intro W hS
          try dsimp only at hS
          go_split_ands
          go_simp
          try with_reducible rfl
        try simp only [Act.put, List.getElem_toArray, List.getElem_cons_zero, List.getElem_cons_succ, List.setIfInBounds_toArray, List.set_cons_zero, List.set_cons_succ]
        refine till_take (i := 2) (v := ?_) rfl (by kernel_rfl) (fun _ _ _ h => h) (Or.inl ⟨by rfl, ?_⟩) ⟨x0,x1⟩ ?_
        rotate_left
        · intro W hS
          try dsimp only at hS
          go_split_ands
          go_simp
          try with_reducible rfl
        try simp only [Act.put, List.getElem_toArray, List.getElem_cons_zero, List.getElem_cons_succ, List.setIfInBounds_toArray, List.set_cons_zero, List.set_cons_succ]
        refine till_take (i := 3) (v := ?_) rfl (by kernel_rfl) (fun _ _ _ h => h) (Or.inl ⟨by rfl, ?_⟩) ⟨x0,x1⟩ ?_
        rotate_left
        · intro W hS
          try dsimp only at hS
          go_split_ands
          go_simp
          try with_reducible rfl
        try simp only [Act.put, List.getElem_toArray, List.getElem_cons_zero, List.getElem_cons_succ, List.setIfInBounds_toArray, List.set_cons_zero, List.set_cons_succ]
        refine till_take (i := 4) (v := ?_) rfl (by kernel_rfl) (fun _ _ _ h => h) (Or.inl ⟨by rfl, ?_⟩) ⟨x0,x1⟩ ?_
        rotate_left
        · intro W hS
          try dsimp only at hS
          go_split_ands
          go_simp
          try with_reducible rfl
        try simp only [Act.put, List.getElem_toArray, List.getElem_cons_zero, List.getElem_cons_succ, List.setIfInBounds_toArray, List.set_cons_zero, List.set_cons_succ]
        refine till_take (i := 5) (v := ?_) rfl (by kernel_rfl) (fun _ _ _ h => h) (Or.inl ⟨by rfl, ?_⟩) ⟨x0,x1⟩ ?_
        rotate_left
        · intro W hS
          try dsimp only at hS
          go_split_ands
          go_simp
          try with_reducible rfl
        try simp only [Act.put, List.getElem_toArray, List.getElem_cons_zero, List.getElem_cons_succ, List.setIfInBounds_toArray, List.set_cons_zero, List.set_cons_succ]
        refine till_take (i := 6) (v := ?_) rfl (by kernel_rfl) (fun _ _ _ h => h) (Or.inl ⟨by rfl, ?_⟩) ⟨x0,x1⟩ ?_
        rotate_left
        · intro W hS
          try dsimp only at hS
          go_split_ands
          go_simp
          try with_reducible rfl
        try simp only [Act.put, List.getElem_toArray, List.getElem_cons_zero, List.getElem_cons_succ, List.setIfInBounds_toArray, List.set_cons_zero, List.set_cons_succ]
        refine till_take (i := 7) (v := ?_) rfl (by kernel_rfl) (fun _ _ _ h => h) (Or.inl ⟨by rfl, ?_⟩) ⟨x0,x1⟩ ?_
        rotate_left
        · intro W hS
          try dsimp only at hS
          go_split_ands
          go_simp
          try with_reducible rfl
        try simp only [Act.put, List.getElem_toArray, List.getElem_cons_zero, List.getElem_cons_succ, List.setIfInBounds_toArray, List.set_cons_zero, List.set_cons_succ]
        refine till_take (i := 8) (v := ?_) rfl (by kernel_rfl) (fun _ _ _ h => h) (Or.inl ⟨by rfl, ?_⟩) ⟨x0,x1⟩ ?_
        rotate_left
        · intro W hS
          try dsimp only at hS
          go_split_ands
          go_simp
          try with_reducible rfl
        try simp only [Act.put, List.getElem_toArray, List.getElem_cons_zero, List.getElem_cons_succ, List.setIfInBounds_toArray, List.set_cons_zero, List.set_cons_succ]
        refine till_take (i := 9) (v := ?_) rfl (by kernel_rfl) (fun _ _ _ h => h) (Or.inl ⟨by rfl, ?_⟩) ⟨x0,x1⟩ ?_
        rotate_left
        · intro W hS
          try dsimp only at hS
          go_split_ands
          go_simp
          try with_reducible rfl
        try simp only [Act.put, List.getElem_toArray, List.getElem_cons_zero, List.getElem_cons_succ, List.setIfInBounds_toArray, List.set_cons_zero, List.set_cons_succ]
        refine till_take (i := 10) (v := ?_) rfl (by kernel_rfl) (fun _ _ _ h => h) (Or.inl ⟨by rfl, ?_⟩) ⟨x0,x1⟩ ?_
        rotate_left
        · intro W hS
          try dsimp only at hS
          go_split_ands
          go_simp
          try with_reducible rfl
        try simp only [Act.put, List.getElem_toArray, List.getElem_cons_zero, List.getElem_cons_succ, List.setIfInBounds_toArray, List.set_cons_zero, List.set_cons_succ]
        refine till_two (i := 11) (j := 13) (by kernel_rfl) rfl rfl (fun K' hK => ?_) (fun K' hK => ?_)
        · go_simp
          go_at_call 26
          (with_reducible refine (HGT.out _ (Below.refl _ _).drew).mono ?_)
          rintro y w1g ⟨rfl, bg⟩
          have q1 := (Below.refl W0.heap.size W0).drew.trans (bg.mono (Below.refl W0.heap.size W0).drew.size)
          clear bg
          replace x0 := cellUp x0 q1
          replace x1 := cellUp x1 q1
          refine hK _ _ ⟨x0, x1⟩ ?_
          clear hK K'
          try simp only [Act.put, List.getElem_toArray, List.getElem_cons_zero, List.getElem_cons_succ, List.setIfInBounds_toArray, List.set_cons_zero, List.set_cons_succ]
          refine till_two (i := 12) (j := 13) (by kernel_rfl) rfl rfl (fun K' hK => ?_) (fun K' hK => ?_)
          · go_simp
            go_at_call 40
            (with_reducible refine (HOF.out _).mono ?_)
            rintro y w2 ⟨⟨r, rfl, hr⟩, b2⟩
            have q2 := q1.trans (b2.mono q1.size)
            replace x0 := cellUp x0 b2
            replace x1 := cellUp x1 b2
            refine hK _ _ ⟨x0, x1⟩ ?_
            clear hK K' b2 q1
            try simp only [Act.put, List.getElem_toArray, List.getElem_cons_zero, List.getElem_cons_succ, List.setIfInBounds_toArray, List.set_cons_zero, List.set_cons_succ]
            refine till_one (i := 13) (by kernel_rfl) rfl (fun K' hK => ?_)
            go_simp
            have bn := below_newL w2 (.cells #[.bool false, .slice none 0 0] 86)
            have BZ := Lib.hid (Mem.Blk.new w2 86 #[.bool false, .slice none 0 0])
            have hr2 := hr.below bn
            have q3 := q2.trans (bn.mono q2.size)
            have hzl : w1.heap.size ≤ w2.heap.size := Nat.le_trans HR.out.2.1.size q2.size
            refine hK _ _ ⟨cellUp x0 bn, cellUp x1 bn⟩ ?_
            clear hK K' bn x0 x1
            generalize (w2.alloc (.cells #[.bool false, .slice none 0 0] 86)) = w3 at *
            generalize w2.heap.size = z at *
            try simp only [Act.put, List.getElem_toArray, List.getElem_cons_zero, List.getElem_cons_succ, List.setIfInBounds_toArray, List.set_cons_zero, List.set_cons_succ]
            have HBB := HR.out.2.1.trans (q3.mono HR.out.2.1.size)
            obtain ⟨zb, za, zl, zc, rfl, hp⟩ := PoSt.new HBB (own_below HR.out.1 q3) hzl BZ.out hr2
            obtain ⟨t0, t1, t2, t3⟩ := BZ.out.two
            have HP := Lib.hid hp
            clear hp hr hr2 hzl q3 HBB
            refine till_last (by kernel_rfl) rfl (by kernel_rfl) (fun K' hK => ?_)
            go_simp
            refine hK _ _ ?_
            clear hK K' t0 t1 t2 t3
            try simp only [Act.put, List.getElem_toArray, List.getElem_cons_zero, List.getElem_cons_succ, List.setIfInBounds_toArray, List.set_cons_zero, List.set_cons_succ]
            refine wpAny_done (by kernel_rfl) ?_ _
            go_wp2_with fail
            go_meet
            case rel => exact ⟨_, rfl, HP.out⟩
          · go_simp
            have bn := below_newL w1g (.cells #[.bool false, .slice none 0 0] 86)
            have BZ1 := Lib.hid (Mem.Blk.new w1g 86 #[.bool false, .slice none 0 0])
            have q2 := q1.trans (bn.mono q1.size)
            have hzl : w1.heap.size ≤ w1g.heap.size := Nat.le_trans HR.out.2.1.size q1.size
            replace x0 := cellUp x0 bn
            replace x1 := cellUp x1 bn
            refine hK _ _ ⟨x0, x1⟩ ?_
            clear hK K' bn q1
            generalize (w1g.alloc (.cells #[.bool false, .slice none 0 0] 86)) = w3 at *
            generalize w1g.heap.size = z at *
            try simp only [Act.put, List.getElem_toArray, List.getElem_cons_zero, List.getElem_cons_succ, List.setIfInBounds_toArray, List.set_cons_zero, List.set_cons_succ]
            refine till_one (i := 12) (by kernel_rfl) rfl (fun K' hK => ?_)
            go_simp
            go_at_call 40
            (with_reducible refine (HOF.out _).mono ?_)
            rintro y w2 ⟨⟨r, rfl, hr⟩, b2⟩
            have q3 := q2.trans (b2.mono q2.size)
            have BZ := Lib.hid (BZ1.out.below b2)
            have hr2 := hr
            refine hK _ _ ⟨cellUp x0 b2, cellUp x1 b2⟩ ?_
            clear hK K' b2 x0 x1 BZ1 q2
            try simp only [Act.put, List.getElem_toArray, List.getElem_cons_zero, List.getElem_cons_succ, List.setIfInBounds_toArray, List.set_cons_zero, List.set_cons_succ]
            have HBB := HR.out.2.1.trans (q3.mono HR.out.2.1.size)
            obtain ⟨zb, za, zl, zc, rfl, hp⟩ := PoSt.new HBB (own_below HR.out.1 q3) hzl BZ.out hr2
            obtain ⟨t0, t1, t2, t3⟩ := BZ.out.two
            have HP := Lib.hid hp
            clear hp hr hr2 hzl q3 HBB
            refine till_last (by kernel_rfl) rfl (by kernel_rfl) (fun K' hK => ?_)
            go_simp
            refine hK _ _ ?_
            clear hK K' t0 t1 t2 t3
            try simp only [Act.put, List.getElem_toArray, List.getElem_cons_zero, List.getElem_cons_succ, List.setIfInBounds_toArray, List.set_cons_zero, List.set_cons_succ]
            refine wpAny_done (by kernel_rfl) ?_ _
            go_wp2_with fail
            go_meet
            case rel => exact ⟨_, rfl, HP.out⟩
        · go_simp
          have bn := (below_newL W0 (.cells #[.bool false, .slice none 0 0] 86)).drew
          have BZ1 := Lib.hid (Mem.Blk.new W0 86 #[.bool false, .slice none 0 0]).drew
          have hzl : w1.heap.size ≤ W0.heap.size := HR.out.2.1.size
          replace x0 := cellUp x0 bn
          replace x1 := cellUp x1 bn
          refine hK _ _ ⟨x0, x1⟩ ?_
          clear hK K'
          have HGT3 := Lib.hid (HGT.out _ bn)
          generalize (W0.alloc (.cells #[.bool false, .slice none 0 0] 86)).drew = w3 at *
          try simp only [Act.put, List.getElem_toArray, List.getElem_cons_zero, List.getElem_cons_succ, List.setIfInBounds_toArray, List.set_cons_zero, List.set_cons_succ]
          refine till_one (i := 11) (by kernel_rfl) rfl (fun K' hK => ?_)
          go_simp
          go_at_call 26
          (with_reducible refine HGT3.out.mono ?_)
          rintro y w4 ⟨rfl, bg⟩
          have q2 := bn.trans (bg.mono bn.size)
          have BZ2 := Lib.hid (BZ1.out.below bg)
          replace x0 := cellUp x0 bg
          replace x1 := cellUp x1 bg
          refine hK _ _ ⟨x0, x1⟩ ?_
          clear hK K' bg bn BZ1
          try simp only [Act.put, List.getElem_toArray, List.getElem_cons_zero, List.getElem_cons_succ, List.setIfInBounds_toArray, List.set_cons_zero, List.set_cons_succ]
          refine till_one (i := 12) (by kernel_rfl) rfl (fun K' hK => ?_)
          go_simp
          go_at_call 40
          (with_reducible refine (HOF.out _).mono ?_)
          rintro y w2 ⟨⟨r, rfl, hr⟩, b2⟩
          have q3 := q2.trans (b2.mono q2.size)
          have BZ := Lib.hid (BZ2.out.below b2)
          have hr2 := hr
          refine hK _ _ ⟨cellUp x0 b2, cellUp x1 b2⟩ ?_
          clear hK K' b2 x0 x1 BZ2 q2
          try simp only [Act.put, List.getElem_toArray, List.getElem_cons_zero, List.getElem_cons_succ, List.setIfInBounds_toArray, List.set_cons_zero, List.set_cons_succ]
          have HBB := HR.out.2.1.trans (q3.mono HR.out.2.1.size)
          obtain ⟨zb, za, zl, zc, rfl, hp⟩ := PoSt.new HBB (own_below HR.out.1 q3) hzl BZ.out hr2
          obtain ⟨t0, t1, t2, t3⟩ := BZ.out.two
          have HP := Lib.hid hp
          clear hp hr hr2 hzl q3 HBB
          refine till_last (by kernel_rfl) rfl (by kernel_rfl) (fun K' hK => ?_)
          go_simp
          refine hK _ _ ?_
          clear hK K' t0 t1 t2 t3
          try simp only [Act.put, List.getElem_toArray, List.getElem_cons_zero, List.getElem_cons_succ, List.setIfInBounds_toArray, List.set_cons_zero, List.set_cons_succ]
          refine wpAny_done (by kernel_rfl) ?_ _
          go_wp2_with fail
          go_meet
          case rel => exact ⟨_, rfl, HP.out⟩
      obtain ⟨g, rfl, HP0⟩ := hcut
      obtain ⟨W2, hW2⟩ : ∃ W : World, W = wc := ⟨_, rfl⟩
      rw [← hW2] at HP0 ⊢
      clear HGT HOF HSR hW2 x0 x1
      have HFT := Lib.hid HR.out.2.2
      clear HR
      go_wp2_with fail
      go_loopw [10] (fun i wr => ∃ (j : Nat) (z : Int), i = .int .i64 (j : Nat) ∧ j ≤ ml ∧ Hid (PoSt w1 wr (.slice oa on oc) on (outR (oK L (ks.take k))) g z ∧ z = stM l m j x.key ∧ Bd z (2 * j))) (fun i _ => ml - (intOf i).toNat)
      case atStart => exact ⟨0, z0, rfl, Nat.zero_le _, HP0.out, HZ0.out.symm, Bd.zero HZI.out⟩
      case round =>
        clear HP0 HZ0 HZI
        rename World => wi
        obtain ⟨j, z, rfl, hj, HPZ⟩ := hrel
        by_cases hjt : j < ml
        · have hjt' : (j : Int) < (ml : Int) := by omega
          have j0 : (0 : Int) ≤ (j : Int) := by omega
          have j1 : (j : Int) ≤ 1000 := by have := HMB.out; omega
          obtain ⟨bm, om, y, hma, hy, hyo, v0, v1, v2, v3⟩ := mv_at HM1.out j hjt
          have HV0 := Lib.hid v0
          have HV1 := Lib.hid v1
          have HV2 := Lib.hid v2
          have HV3 := Lib.hid v3
          have HY := Lib.hid hy
          have HJT := Lib.hid hjt
          have HST := Lib.hid (stM_next (l := l) x.key hy)
          have HYA : Hid (I64 y.amt) := hyo.amt
          have HYB : Hid (-9223372036854775808 ≤ y.amt ∧ y.amt ≤ 9223372036854775807) := hyo.amt
          have HYS : Hid (Sm y.amt.natAbs ∧ Sm (-y.amt).natAbs) := ⟨Sm.int _ (by have := HYB.out; omega), Sm.int _ (by have := HYB.out; omega)⟩
          have HSM : Hid (∀ z' k', Bd z' k' → k' ≤ 2 * ml → Sm z'.natAbs) := fun z' k' h1 h2 => h1.sm (by have := HMB.out; omega)
          have HMA := Lib.hid hma
          subst hma
          clear v0 v1 v2 v3 hy hyo hjt
          have HPS := Lib.hid HPZ.out.1
          have HZE := Lib.hid HPZ.out.2.1
          have HZB := Lib.hid HPZ.out.2.2
          clear HPZ
          have hc := same_b y.coin x.coin
          have hs := same_b y.src x.party
          have hd := same_b y.dst x.party
          have e0 : wi.cell? ⟨b, o + k * 3, none⟩ = some (.string x.party) := cellUp HX0.out HPS.out.bel
          have e1 : wi.cell? ⟨b, o + k * 3 + 1, none⟩ = some (.string x.coin) := cellUp HX1.out HPS.out.bel
          have u0 : wi.cell? ⟨bm, om + j * 4, none⟩ = some (.string y.src) := cellUp HV0.out HPS.out.bel
          have u1 : wi.cell? ⟨bm, om + j * 4 + 1, none⟩ = some (.string y.dst) := cellUp HV1.out HPS.out.bel
          have u2 : wi.cell? ⟨bm, om + j * 4 + 2, none⟩ = some (.string y.coin) := cellUp HV2.out HPS.out.bel
          by_cases hcc : y.coin.data.toList = x.coin.data.toList
          · rw [decide_eq_true hcc] at hc
            by_cases hss : y.src.data.toList = x.party.data.toList
            · rw [decide_eq_true hss] at hs
              by_cases hdd : y.dst.data.toList = x.party.data.toList
              · rw [decide_eq_true hdd] at hd
                go_upto_region 10 with (fail)
                go_quiet (fail)
                have bq : Below wi.heap.size wi (wi.drewN nq) := below_dN (Below.refl wi.heap.size wi) nq
                have HPSq := Lib.hid (HPS.out.below bq)
                clear bq e0 e1 u0 u1 u2
                generalize wi.drewN nq = wq at *
                have e0 : wq.cell? ⟨b, o + k * 3, none⟩ = some (.string x.party) := cellUp HX0.out HPSq.out.bel
                have e1 : wq.cell? ⟨b, o + k * 3 + 1, none⟩ = some (.string x.coin) := cellUp HX1.out HPSq.out.bel
                have u0 : wq.cell? ⟨bm, om + j * 4, none⟩ = some (.string y.src) := cellUp HV0.out HPSq.out.bel
                have u1 : wq.cell? ⟨bm, om + j * 4 + 1, none⟩ = some (.string y.dst) := cellUp HV1.out HPSq.out.bel
                have u2 : wq.cell? ⟨bm, om + j * 4 + 2, none⟩ = some (.string y.coin) := cellUp HV2.out HPSq.out.bel
                go_upto_region 11 with (fail)
                clear e0 e1 u0 u1 u2
                obtain ⟨gb, ga, gl, gc, hgb, hgr⟩ := HPSq.out.big
                obtain ⟨c0, c1, -, -⟩ := hgb.two
                have u3 : wq.cell? ⟨bm, om + j * 4 + 3, none⟩ = some (.int .i64 y.amt) := cellUp HV3.out HPSq.out.bel
                refine wp_region_till (S := fun W => W.cell? ⟨g, 0, none⟩ = some (.bool gb) ∧ W.cell? ⟨g, 1, none⟩ = some (.slice ga gl gc) ∧ W.cell? ⟨bm, om + j * 4 + 3, none⟩ = some (.int .i64 y.amt)) 9 (by kernel_rfl) ?_
                refine till_take (i := 0) (v := ?_) rfl (by kernel_rfl) (fun _ _ _ h => h) (Or.inl ⟨by rfl, ?_⟩) ⟨c0,c1,u3⟩ ?_
                rotate_left
                · intro W hS
                  try dsimp only at hS
                  go_split_ands
                  go_simp
                  try with_reducible rfl
                try simp only [Act.put, List.getElem_toArray, List.getElem_cons_zero, List.getElem_cons_succ, List.setIfInBounds_toArray, List.set_cons_zero, List.set_cons_succ]
                refine till_take (i := 1) (v := ?_) rfl (by kernel_rfl) (fun _ _ _ h => h) (Or.inl ⟨by rfl, ?_⟩) ⟨c0,c1,u3⟩ ?_
                rotate_left
                · intro W hS
                  try dsimp only at hS
                  go_split_ands
                  go_simp
                  try with_reducible rfl
                try simp only [Act.put, List.getElem_toArray, List.getElem_cons_zero, List.getElem_cons_succ, List.setIfInBounds_toArray, List.set_cons_zero, List.set_cons_succ]
                refine till_take (i := 2) (v := ?_) rfl (by kernel_rfl) (fun _ _ _ h => h) (Or.inl ⟨by rfl, ?_⟩) ⟨c0,c1,u3⟩ ?_
                rotate_left
                · intro W hS
                  try dsimp only at hS
                  go_split_ands
                  go_simp
                  try with_reducible rfl
                try simp only [Act.put, List.getElem_toArray, List.getElem_cons_zero, List.getElem_cons_succ, List.setIfInBounds_toArray, List.set_cons_zero, List.set_cons_succ]
                refine till_take (i := 3) (v := ?_) rfl (by kernel_rfl) (fun _ _ _ h => h) (Or.inl ⟨by rfl, ?_⟩) ⟨c0,c1,u3⟩ ?_
                rotate_left
                · intro W hS
                  try dsimp only at hS
                  go_split_ands
                  go_simp
                  try with_reducible rfl
                try simp only [Act.put, List.getElem_toArray, List.getElem_cons_zero, List.getElem_cons_succ, List.setIfInBounds_toArray, List.set_cons_zero, List.set_cons_succ]
                refine till_take (i := 4) (v := ?_) rfl (by kernel_rfl) (fun _ _ _ h => h) (Or.inl ⟨by rfl, ?_⟩) ⟨c0,c1,u3⟩ ?_
                rotate_left
                · intro W hS
                  try dsimp only at hS
                  go_split_ands
                  go_simp
                  try with_reducible rfl
                try simp only [Act.put, List.getElem_toArray, List.getElem_cons_zero, List.getElem_cons_succ, List.setIfInBounds_toArray, List.set_cons_zero, List.set_cons_succ]
                refine till_take (i := 5) (v := ?_) rfl (by kernel_rfl) (fun _ _ _ h => h) (Or.inl ⟨by rfl, ?_⟩) ⟨c0,c1,u3⟩ ?_
                rotate_left
                · intro W hS
                  try dsimp only at hS
                  go_split_ands
                  go_simp
                  try with_reducible rfl
                try simp only [Act.put, List.getElem_toArray, List.getElem_cons_zero, List.getElem_cons_succ, List.setIfInBounds_toArray, List.set_cons_zero, List.set_cons_succ]
                refine till_one (i := 6) (by kernel_rfl) rfl (fun K' hK => ?_)
                go_simp
                go_at_call 40
                (with_reducible refine (bigof_any y.amt _ HYB.out.1 HYB.out.2).mono ?_)
                rintro e w2 ⟨⟨r, rfl, hr⟩, b2⟩
                have p1 := (Below.refl wq.heap.size wq).drew.trans (b2.mono (Below.refl wq.heap.size wq).drew.size)
                replace c0 := cellUp c0 p1
                replace c1 := cellUp c1 p1
                replace u3 := cellUp u3 p1
                refine hK _ _ ⟨c0,c1,u3⟩ ?_
                clear hK K' b2
                try simp only [Act.put, List.getElem_toArray, List.getElem_cons_zero, List.getElem_cons_succ, List.setIfInBounds_toArray, List.set_cons_zero, List.set_cons_succ]
                refine till_one (i := 7) (by kernel_rfl) rfl (fun K' hK => ?_)
                go_simp
                go_at_call 42
                (with_reducible refine (minus_any _ _ _ hr).mono ?_)
                rintro e w3 ⟨⟨r3, rfl, hr3⟩, b3⟩
                have p2 := p1.trans (b3.mono p1.size)
                replace c0 := cellUp c0 b3
                replace c1 := cellUp c1 b3
                replace u3 := cellUp u3 b3
                refine hK _ _ ⟨c0,c1,u3⟩ ?_
                clear hK K' b3 p1 hr
                try simp only [Act.put, List.getElem_toArray, List.getElem_cons_zero, List.getElem_cons_succ, List.setIfInBounds_toArray, List.set_cons_zero, List.set_cons_succ]
                refine till_one (i := 8) (by kernel_rfl) rfl (fun K' hK => ?_)
                go_simp
                go_at_call 41
                (with_reducible refine (plus_any _ _ z (-y.amt) _ (hgr.below p2) hr3 (HSM.out _ _ HZB.out (by have := HJT.out; omega)) HYS.out.2).mono ?_)
                rintro e w4 ⟨⟨r4, rfl, hr4⟩, b4⟩
                have p3 := p2.trans (b4.mono p2.size)
                replace c0 := cellUp c0 b4
                replace c1 := cellUp c1 b4
                replace u3 := cellUp u3 b4
                refine hK _ _ ⟨c0,c1,u3⟩ ?_
                clear hK K' b4 p2 hr3 u3
                obtain ⟨nb, na, nl, nc, rfl, hps⟩ := (HPSq.out.below p3).put hr4
                have HPS2 := Lib.hid hps
                have HZB2 : Hid (Bd (z + -y.amt) (2 * j + 1)) := HZB.out.sub HYA.out
                obtain ⟨-, -, f0, f1⟩ := (hgb.below p3).two
                clear hps hr4 p3 hgb hgr
                try simp only [Act.put, List.getElem_toArray, List.getElem_cons_zero, List.getElem_cons_succ, List.setIfInBounds_toArray, List.set_cons_zero, List.set_cons_succ]
                refine till_last (by kernel_rfl) rfl (by kernel_rfl) (fun K' hK => ?_)
                go_simp
                refine hK _ _ ?_
                clear hK K' c0 c1 f0 f1
                try simp only [Act.put, List.getElem_toArray, List.getElem_cons_zero, List.getElem_cons_succ, List.setIfInBounds_toArray, List.set_cons_zero, List.set_cons_succ]
                refine wpAny_done (by kernel_rfl) ?_ _
                generalize ((w4.setCell ⟨g, 0, none⟩ (.bool nb)).setCell ⟨g, 1, none⟩ (.slice na nl nc)) = w5 at *
                have e0 : w5.cell? ⟨b, o + k * 3, none⟩ = some (.string x.party) := cellUp HX0.out HPS2.out.bel
                have e1 : w5.cell? ⟨b, o + k * 3 + 1, none⟩ = some (.string x.coin) := cellUp HX1.out HPS2.out.bel
                have u0 : w5.cell? ⟨bm, om + j * 4, none⟩ = some (.string y.src) := cellUp HV0.out HPS2.out.bel
                have u1 : w5.cell? ⟨bm, om + j * 4 + 1, none⟩ = some (.string y.dst) := cellUp HV1.out HPS2.out.bel
                have u2 : w5.cell? ⟨bm, om + j * 4 + 2, none⟩ = some (.string y.coin) := cellUp HV2.out HPS2.out.bel
                go_upto_region 12 with (fail)
                go_quiet (fail)
                have bq : Below w5.heap.size w5 (w5.drewN nq) := below_dN (Below.refl w5.heap.size w5) nq
                have HPSv := Lib.hid (HPS2.out.below bq)
                clear bq e0 e1 u0 u1 u2
                generalize w5.drewN nq = wv at *
                have e0 : wv.cell? ⟨b, o + k * 3, none⟩ = some (.string x.party) := cellUp HX0.out HPSv.out.bel
                have e1 : wv.cell? ⟨b, o + k * 3 + 1, none⟩ = some (.string x.coin) := cellUp HX1.out HPSv.out.bel
                have u0 : wv.cell? ⟨bm, om + j * 4, none⟩ = some (.string y.src) := cellUp HV0.out HPSv.out.bel
                have u1 : wv.cell? ⟨bm, om + j * 4 + 1, none⟩ = some (.string y.dst) := cellUp HV1.out HPSv.out.bel
                have u2 : wv.cell? ⟨bm, om + j * 4 + 2, none⟩ = some (.string y.coin) := cellUp HV2.out HPSv.out.bel
                go_upto_region 13 with (fail)
                clear e0 e1 u0 u1 u2
                obtain ⟨gb2, ga2, gl2, gc2, hgb, hgr⟩ := HPSv.out.big
                obtain ⟨c0, c1, -, -⟩ := hgb.two
                have u3 : wv.cell? ⟨bm, om + j * 4 + 3, none⟩ = some (.int .i64 y.amt) := cellUp HV3.out HPSv.out.bel
                refine wp_region_till (S := fun W => W.cell? ⟨g, 0, none⟩ = some (.bool gb2) ∧ W.cell? ⟨g, 1, none⟩ = some (.slice ga2 gl2 gc2) ∧ W.cell? ⟨bm, om + j * 4 + 3, none⟩ = some (.int .i64 y.amt)) 8 (by kernel_rfl) ?_
                refine till_take (i := 0) (v := ?_) rfl (by kernel_rfl) (fun _ _ _ h => h) (Or.inl ⟨by rfl, ?_⟩) ⟨c0,c1,u3⟩ ?_
                rotate_left
                · intro W hS
                  try dsimp only at hS
                  go_split_ands
                  go_simp
                  try with_reducible rfl
                try simp only [Act.put, List.getElem_toArray, List.getElem_cons_zero, List.getElem_cons_succ, List.setIfInBounds_toArray, List.set_cons_zero, List.set_cons_succ]
                refine till_take (i := 1) (v := ?_) rfl (by kernel_rfl) (fun _ _ _ h => h) (Or.inl ⟨by rfl, ?_⟩) ⟨c0,c1,u3⟩ ?_
                rotate_left
                · intro W hS
                  try dsimp only at hS
                  go_split_ands
                  go_simp
                  try with_reducible rfl
                try simp only [Act.put, List.getElem_toArray, List.getElem_cons_zero, List.getElem_cons_succ, List.setIfInBounds_toArray, List.set_cons_zero, List.set_cons_succ]
                refine till_take (i := 2) (v := ?_) rfl (by kernel_rfl) (fun _ _ _ h => h) (Or.inl ⟨by rfl, ?_⟩) ⟨c0,c1,u3⟩ ?_
                rotate_left
                · intro W hS
                  try dsimp only at hS
                  go_split_ands
                  go_simp
                  try with_reducible rfl
                try simp only [Act.put, List.getElem_toArray, List.getElem_cons_zero, List.getElem_cons_succ, List.setIfInBounds_toArray, List.set_cons_zero, List.set_cons_succ]
                refine till_take (i := 3) (v := ?_) rfl (by kernel_rfl) (fun _ _ _ h => h) (Or.inl ⟨by rfl, ?_⟩) ⟨c0,c1,u3⟩ ?_
                rotate_left
                · intro W hS
                  try dsimp only at hS
                  go_split_ands
                  go_simp
                  try with_reducible rfl
                try simp only [Act.put, List.getElem_toArray, List.getElem_cons_zero, List.getElem_cons_succ, List.setIfInBounds_toArray, List.set_cons_zero, List.set_cons_succ]
                refine till_take (i := 4) (v := ?_) rfl (by kernel_rfl) (fun _ _ _ h => h) (Or.inl ⟨by rfl, ?_⟩) ⟨c0,c1,u3⟩ ?_
                rotate_left
                · intro W hS
                  try dsimp only at hS
                  go_split_ands
                  go_simp
                  try with_reducible rfl
                try simp only [Act.put, List.getElem_toArray, List.getElem_cons_zero, List.getElem_cons_succ, List.setIfInBounds_toArray, List.set_cons_zero, List.set_cons_succ]
                refine till_take (i := 5) (v := ?_) rfl (by kernel_rfl) (fun _ _ _ h => h) (Or.inl ⟨by rfl, ?_⟩) ⟨c0,c1,u3⟩ ?_
                rotate_left
                · intro W hS
                  try dsimp only at hS
                  go_split_ands
                  go_simp
                  try with_reducible rfl
                try simp only [Act.put, List.getElem_toArray, List.getElem_cons_zero, List.getElem_cons_succ, List.setIfInBounds_toArray, List.set_cons_zero, List.set_cons_succ]
                refine till_one (i := 6) (by kernel_rfl) rfl (fun K' hK => ?_)
                go_simp
                go_at_call 40
                (with_reducible refine (bigof_any y.amt _ HYB.out.1 HYB.out.2).mono ?_)
                rintro e w6 ⟨⟨r6, rfl, hr6⟩, b6⟩
                have p1 := (Below.refl wv.heap.size wv).drew.trans (b6.mono (Below.refl wv.heap.size wv).drew.size)
                replace c0 := cellUp c0 p1
                replace c1 := cellUp c1 p1
                replace u3 := cellUp u3 p1
                refine hK _ _ ⟨c0,c1,u3⟩ ?_
                clear hK K' b6
                try simp only [Act.put, List.getElem_toArray, List.getElem_cons_zero, List.getElem_cons_succ, List.setIfInBounds_toArray, List.set_cons_zero, List.set_cons_succ]
                refine till_one (i := 7) (by kernel_rfl) rfl (fun K' hK => ?_)
                go_simp
                go_at_call 41
                (with_reducible refine (plus_any _ _ (z + -y.amt) (y.amt) _ (hgr.below p1) hr6 (HSM.out _ _ HZB2.out (by have := HJT.out; omega)) HYS.out.1).mono ?_)
                rintro e w7 ⟨⟨r7, rfl, hr7⟩, b7⟩
                have p2 := p1.trans (b7.mono p1.size)
                replace c0 := cellUp c0 b7
                replace c1 := cellUp c1 b7
                replace u3 := cellUp u3 b7
                refine hK _ _ ⟨c0,c1,u3⟩ ?_
                clear hK K' b7 p1 hr6 u3
                obtain ⟨nb2, na2, nl2, nc2, rfl, hps⟩ := (HPSv.out.below p2).put hr7
                have HPS3 := Lib.hid hps
                have HZB3 : Hid (Bd (z + -y.amt + y.amt) (2 * j + 1 + 1)) := HZB2.out.add HYA.out
                obtain ⟨-, -, f0, f1⟩ := (hgb.below p2).two
                clear hps hr7 p2 hgb hgr
                try simp only [Act.put, List.getElem_toArray, List.getElem_cons_zero, List.getElem_cons_succ, List.setIfInBounds_toArray, List.set_cons_zero, List.set_cons_succ]
                refine till_last (by kernel_rfl) rfl (by kernel_rfl) (fun K' hK => ?_)
                go_simp
                refine hK _ _ ?_
                clear hK K' c0 c1 f0 f1
                try simp only [Act.put, List.getElem_toArray, List.getElem_cons_zero, List.getElem_cons_succ, List.setIfInBounds_toArray, List.set_cons_zero, List.set_cons_succ]
                refine wpAny_done (by kernel_rfl) ?_ _
                generalize ((w7.setCell ⟨g, 0, none⟩ (.bool nb2)).setCell ⟨g, 1, none⟩ (.slice na2 nl2 nc2)) = w8 at *
                have e0 : w8.cell? ⟨b, o + k * 3, none⟩ = some (.string x.party) := cellUp HX0.out HPS3.out.bel
                have e1 : w8.cell? ⟨b, o + k * 3 + 1, none⟩ = some (.string x.coin) := cellUp HX1.out HPS3.out.bel
                have u0 : w8.cell? ⟨bm, om + j * 4, none⟩ = some (.string y.src) := cellUp HV0.out HPS3.out.bel
                have u1 : w8.cell? ⟨bm, om + j * 4 + 1, none⟩ = some (.string y.dst) := cellUp HV1.out HPS3.out.bel
                have u2 : w8.cell? ⟨bm, om + j * 4 + 2, none⟩ = some (.string y.coin) := cellUp HV2.out HPS3.out.bel
                have HZN : Hid (z + -y.amt + y.amt = stM l m (j + 1) x.key ∧ Bd (z + -y.amt + y.amt) (2 * (j + 1))) := by
                  have h := HST.out
                  rw [if_pos (kf_eq.2 ⟨hss, hcc⟩), if_pos (kt_eq.2 ⟨hdd, hcc⟩), ← HZE.out] at h
                  exact ⟨h.symm, HZB3.out.up (by omega)⟩
                clear e0 e1 u0 u1 u2
                go_wp2_with fail
                go_roundw
                case rel => exact ⟨j + 1, _, by go_num, by have := HJT.out; omega, HPS3.out, HZN.out⟩
                case measure => simp [intOf]; have := HJT.out; omega
              · rw [decide_eq_false hdd] at hd
                go_upto_region 10 with (fail)
                go_quiet (fail)
                have bq : Below wi.heap.size wi (wi.drewN nq) := below_dN (Below.refl wi.heap.size wi) nq
                have HPSq := Lib.hid (HPS.out.below bq)
                clear bq e0 e1 u0 u1 u2
                generalize wi.drewN nq = wq at *
                have e0 : wq.cell? ⟨b, o + k * 3, none⟩ = some (.string x.party) := cellUp HX0.out HPSq.out.bel
                have e1 : wq.cell? ⟨b, o + k * 3 + 1, none⟩ = some (.string x.coin) := cellUp HX1.out HPSq.out.bel
                have u0 : wq.cell? ⟨bm, om + j * 4, none⟩ = some (.string y.src) := cellUp HV0.out HPSq.out.bel
                have u1 : wq.cell? ⟨bm, om + j * 4 + 1, none⟩ = some (.string y.dst) := cellUp HV1.out HPSq.out.bel
                have u2 : wq.cell? ⟨bm, om + j * 4 + 2, none⟩ = some (.string y.coin) := cellUp HV2.out HPSq.out.bel
                go_upto_region 11 with (fail)
                clear e0 e1 u0 u1 u2
                obtain ⟨gb, ga, gl, gc, hgb, hgr⟩ := HPSq.out.big
                obtain ⟨c0, c1, -, -⟩ := hgb.two
                have u3 : wq.cell? ⟨bm, om + j * 4 + 3, none⟩ = some (.int .i64 y.amt) := cellUp HV3.out HPSq.out.bel
                refine wp_region_till (S := fun W => W.cell? ⟨g, 0, none⟩ = some (.bool gb) ∧ W.cell? ⟨g, 1, none⟩ = some (.slice ga gl gc) ∧ W.cell? ⟨bm, om + j * 4 + 3, none⟩ = some (.int .i64 y.amt)) 9 (by kernel_rfl) ?_
                refine till_take (i := 0) (v := ?_) rfl (by kernel_rfl) (fun _ _ _ h => h) (Or.inl ⟨by rfl, ?_⟩) ⟨c0,c1,u3⟩ ?_
                rotate_left
                · intro W hS
                  try dsimp only at hS
                  go_split_ands
                  go_simp
                  try with_reducible rfl
                try simp only [Act.put, List.getElem_toArray, List.getElem_cons_zero, List.getElem_cons_succ, List.setIfInBounds_toArray, List.set_cons_zero, List.set_cons_succ]
                refine till_take (i := 1) (v := ?_) rfl (by kernel_rfl) (fun _ _ _ h => h) (Or.inl ⟨by rfl, ?_⟩) ⟨c0,c1,u3⟩ ?_
                rotate_left
                · intro W hS
                  try dsimp only at hS
                  go_split_ands
                  go_simp
                  try with_reducible rfl
                try simp only [Act.put, List.getElem_toArray, List.getElem_cons_zero, List.getElem_cons_succ, List.setIfInBounds_toArray, List.set_cons_zero, List.set_cons_succ]
                refine till_take (i := 2) (v := ?_) rfl (by kernel_rfl) (fun _ _ _ h => h) (Or.inl ⟨by rfl, ?_⟩) ⟨c0,c1,u3⟩ ?_
                rotate_left
                · intro W hS
                  try dsimp only at hS
                  go_split_ands
                  go_simp
                  try with_reducible rfl
                try simp only [Act.put, List.getElem_toArray, List.getElem_cons_zero, List.getElem_cons_succ, List.setIfInBounds_toArray, List.set_cons_zero, List.set_cons_succ]
                refine till_take (i := 3) (v := ?_) rfl (by kernel_rfl) (fun _ _ _ h => h) (Or.inl ⟨by rfl, ?_⟩) ⟨c0,c1,u3⟩ ?_
                rotate_left
                · intro W hS
                  try dsimp only at hS
                  go_split_ands
                  go_simp
                  try with_reducible rfl
                try simp only [Act.put, List.getElem_toArray, List.getElem_cons_zero, List.getElem_cons_succ, List.setIfInBounds_toArray, List.set_cons_zero, List.set_cons_succ]
                refine till_take (i := 4) (v := ?_) rfl (by kernel_rfl) (fun _ _ _ h => h) (Or.inl ⟨by rfl, ?_⟩) ⟨c0,c1,u3⟩ ?_
                rotate_left
                · intro W hS
                  try dsimp only at hS
                  go_split_ands
                  go_simp
                  try with_reducible rfl
                try simp only [Act.put, List.getElem_toArray, List.getElem_cons_zero, List.getElem_cons_succ, List.setIfInBounds_toArray, List.set_cons_zero, List.set_cons_succ]
                refine till_take (i := 5) (v := ?_) rfl (by kernel_rfl) (fun _ _ _ h => h) (Or.inl ⟨by rfl, ?_⟩) ⟨c0,c1,u3⟩ ?_
                rotate_left
                · intro W hS
                  try dsimp only at hS
                  go_split_ands
                  go_simp
                  try with_reducible rfl
                try simp only [Act.put, List.getElem_toArray, List.getElem_cons_zero, List.getElem_cons_succ, List.setIfInBounds_toArray, List.set_cons_zero, List.set_cons_succ]
                refine till_one (i := 6) (by kernel_rfl) rfl (fun K' hK => ?_)
                go_simp
                go_at_call 40
                (with_reducible refine (bigof_any y.amt _ HYB.out.1 HYB.out.2).mono ?_)
                rintro e w2 ⟨⟨r, rfl, hr⟩, b2⟩
                have p1 := (Below.refl wq.heap.size wq).drew.trans (b2.mono (Below.refl wq.heap.size wq).drew.size)
                replace c0 := cellUp c0 p1
                replace c1 := cellUp c1 p1
                replace u3 := cellUp u3 p1
                refine hK _ _ ⟨c0,c1,u3⟩ ?_
                clear hK K' b2
                try simp only [Act.put, List.getElem_toArray, List.getElem_cons_zero, List.getElem_cons_succ, List.setIfInBounds_toArray, List.set_cons_zero, List.set_cons_succ]
                refine till_one (i := 7) (by kernel_rfl) rfl (fun K' hK => ?_)
                go_simp
                go_at_call 42
                (with_reducible refine (minus_any _ _ _ hr).mono ?_)
                rintro e w3 ⟨⟨r3, rfl, hr3⟩, b3⟩
                have p2 := p1.trans (b3.mono p1.size)
                replace c0 := cellUp c0 b3
                replace c1 := cellUp c1 b3
                replace u3 := cellUp u3 b3
                refine hK _ _ ⟨c0,c1,u3⟩ ?_
                clear hK K' b3 p1 hr
                try simp only [Act.put, List.getElem_toArray, List.getElem_cons_zero, List.getElem_cons_succ, List.setIfInBounds_toArray, List.set_cons_zero, List.set_cons_succ]
                refine till_one (i := 8) (by kernel_rfl) rfl (fun K' hK => ?_)
                go_simp
                go_at_call 41
                (with_reducible refine (plus_any _ _ z (-y.amt) _ (hgr.below p2) hr3 (HSM.out _ _ HZB.out (by have := HJT.out; omega)) HYS.out.2).mono ?_)
                rintro e w4 ⟨⟨r4, rfl, hr4⟩, b4⟩
                have p3 := p2.trans (b4.mono p2.size)
                replace c0 := cellUp c0 b4
                replace c1 := cellUp c1 b4
                replace u3 := cellUp u3 b4
                refine hK _ _ ⟨c0,c1,u3⟩ ?_
                clear hK K' b4 p2 hr3 u3
                obtain ⟨nb, na, nl, nc, rfl, hps⟩ := (HPSq.out.below p3).put hr4
                have HPS2 := Lib.hid hps
                have HZB2 : Hid (Bd (z + -y.amt) (2 * j + 1)) := HZB.out.sub HYA.out
                obtain ⟨-, -, f0, f1⟩ := (hgb.below p3).two
                clear hps hr4 p3 hgb hgr
                try simp only [Act.put, List.getElem_toArray, List.getElem_cons_zero, List.getElem_cons_succ, List.setIfInBounds_toArray, List.set_cons_zero, List.set_cons_succ]
                refine till_last (by kernel_rfl) rfl (by kernel_rfl) (fun K' hK => ?_)
                go_simp
                refine hK _ _ ?_
                clear hK K' c0 c1 f0 f1
                try simp only [Act.put, List.getElem_toArray, List.getElem_cons_zero, List.getElem_cons_succ, List.setIfInBounds_toArray, List.set_cons_zero, List.set_cons_succ]
                refine wpAny_done (by kernel_rfl) ?_ _
                generalize ((w4.setCell ⟨g, 0, none⟩ (.bool nb)).setCell ⟨g, 1, none⟩ (.slice na nl nc)) = w5 at *
                have e0 : w5.cell? ⟨b, o + k * 3, none⟩ = some (.string x.party) := cellUp HX0.out HPS2.out.bel
                have e1 : w5.cell? ⟨b, o + k * 3 + 1, none⟩ = some (.string x.coin) := cellUp HX1.out HPS2.out.bel
                have u0 : w5.cell? ⟨bm, om + j * 4, none⟩ = some (.string y.src) := cellUp HV0.out HPS2.out.bel
                have u1 : w5.cell? ⟨bm, om + j * 4 + 1, none⟩ = some (.string y.dst) := cellUp HV1.out HPS2.out.bel
                have u2 : w5.cell? ⟨bm, om + j * 4 + 2, none⟩ = some (.string y.coin) := cellUp HV2.out HPS2.out.bel
                go_upto_region 12 with (fail)
                go_quiet (fail)
                have bq : Below w5.heap.size w5 (w5.drewN nq) := below_dN (Below.refl w5.heap.size w5) nq
                have HPSv := Lib.hid (HPS2.out.below bq)
                clear bq e0 e1 u0 u1 u2
                generalize w5.drewN nq = wv at *
                have e0 : wv.cell? ⟨b, o + k * 3, none⟩ = some (.string x.party) := cellUp HX0.out HPSv.out.bel
                have e1 : wv.cell? ⟨b, o + k * 3 + 1, none⟩ = some (.string x.coin) := cellUp HX1.out HPSv.out.bel
                have u0 : wv.cell? ⟨bm, om + j * 4, none⟩ = some (.string y.src) := cellUp HV0.out HPSv.out.bel
                have u1 : wv.cell? ⟨bm, om + j * 4 + 1, none⟩ = some (.string y.dst) := cellUp HV1.out HPSv.out.bel
                have u2 : wv.cell? ⟨bm, om + j * 4 + 2, none⟩ = some (.string y.coin) := cellUp HV2.out HPSv.out.bel
                have HZN : Hid (z + -y.amt = stM l m (j + 1) x.key ∧ Bd (z + -y.amt) (2 * (j + 1))) := by
                  have h := HST.out
                  rw [if_pos (kf_eq.2 ⟨hss, hcc⟩), if_neg (fun h => hdd (kt_eq.1 h).1), ← HZE.out, Int.add_zero] at h
                  exact ⟨h.symm, HZB2.out.up (by omega)⟩
                clear e0 e1 u0 u1 u2
                go_wp2_with fail
                go_roundw
                case rel => exact ⟨j + 1, _, by go_num, by have := HJT.out; omega, HPSv.out, HZN.out⟩
                case measure => simp [intOf]; have := HJT.out; omega
            · rw [decide_eq_false hss] at hs
              by_cases hdd : y.dst.data.toList = x.party.data.toList
              · rw [decide_eq_true hdd] at hd
                go_upto_region 10 with (fail)
                go_quiet (fail)
                have bq : Below wi.heap.size wi (wi.drewN nq) := below_dN (Below.refl wi.heap.size wi) nq
                have HPSq := Lib.hid (HPS.out.below bq)
                clear bq e0 e1 u0 u1 u2
                generalize wi.drewN nq = wq at *
                have e0 : wq.cell? ⟨b, o + k * 3, none⟩ = some (.string x.party) := cellUp HX0.out HPSq.out.bel
                have e1 : wq.cell? ⟨b, o + k * 3 + 1, none⟩ = some (.string x.coin) := cellUp HX1.out HPSq.out.bel
                have u0 : wq.cell? ⟨bm, om + j * 4, none⟩ = some (.string y.src) := cellUp HV0.out HPSq.out.bel
                have u1 : wq.cell? ⟨bm, om + j * 4 + 1, none⟩ = some (.string y.dst) := cellUp HV1.out HPSq.out.bel
                have u2 : wq.cell? ⟨bm, om + j * 4 + 2, none⟩ = some (.string y.coin) := cellUp HV2.out HPSq.out.bel
                go_upto_region 12 with (fail)
                go_quiet (fail)
                have bq : Below wq.heap.size wq (wq.drewN nq) := below_dN (Below.refl wq.heap.size wq) nq
                have HPSv := Lib.hid (HPSq.out.below bq)
                clear bq e0 e1 u0 u1 u2
                generalize wq.drewN nq = wv at *
                have e0 : wv.cell? ⟨b, o + k * 3, none⟩ = some (.string x.party) := cellUp HX0.out HPSv.out.bel
                have e1 : wv.cell? ⟨b, o + k * 3 + 1, none⟩ = some (.string x.coin) := cellUp HX1.out HPSv.out.bel
                have u0 : wv.cell? ⟨bm, om + j * 4, none⟩ = some (.string y.src) := cellUp HV0.out HPSv.out.bel
                have u1 : wv.cell? ⟨bm, om + j * 4 + 1, none⟩ = some (.string y.dst) := cellUp HV1.out HPSv.out.bel
                have u2 : wv.cell? ⟨bm, om + j * 4 + 2, none⟩ = some (.string y.coin) := cellUp HV2.out HPSv.out.bel
                go_upto_region 13 with (fail)
                clear e0 e1 u0 u1 u2
                obtain ⟨gb2, ga2, gl2, gc2, hgb, hgr⟩ := HPSv.out.big
                obtain ⟨c0, c1, -, -⟩ := hgb.two
                have u3 : wv.cell? ⟨bm, om + j * 4 + 3, none⟩ = some (.int .i64 y.amt) := cellUp HV3.out HPSv.out.bel
                refine wp_region_till (S := fun W => W.cell? ⟨g, 0, none⟩ = some (.bool gb2) ∧ W.cell? ⟨g, 1, none⟩ = some (.slice ga2 gl2 gc2) ∧ W.cell? ⟨bm, om + j * 4 + 3, none⟩ = some (.int .i64 y.amt)) 8 (by kernel_rfl) ?_
                refine till_take (i := 0) (v := ?_) rfl (by kernel_rfl) (fun _ _ _ h => h) (Or.inl ⟨by rfl, ?_⟩) ⟨c0,c1,u3⟩ ?_
                rotate_left
                · intro W hS
                  try dsimp only at hS
                  go_split_ands
                  go_simp
                  try with_reducible rfl
                try simp only [Act.put, List.getElem_toArray, List.getElem_cons_zero, List.getElem_cons_succ, List.setIfInBounds_toArray, List.set_cons_zero, List.set_cons_succ]
                refine till_take (i := 1) (v := ?_) rfl (by kernel_rfl) (fun _ _ _ h => h) (Or.inl ⟨by rfl, ?_⟩) ⟨c0,c1,u3⟩ ?_
                rotate_left
                · intro W hS
                  try dsimp only at hS
                  go_split_ands
                  go_simp
                  try with_reducible rfl
                try simp only [Act.put, List.getElem_toArray, List.getElem_cons_zero, List.getElem_cons_succ, List.setIfInBounds_toArray, List.set_cons_zero, List.set_cons_succ]
                refine till_take (i := 2) (v := ?_) rfl (by kernel_rfl) (fun _ _ _ h => h) (Or.inl ⟨by rfl, ?_⟩) ⟨c0,c1,u3⟩ ?_
                rotate_left
                · intro W hS
                  try dsimp only at hS
                  go_split_ands
                  go_simp
                  try with_reducible rfl
                try simp only [Act.put, List.getElem_toArray, List.getElem_cons_zero, List.getElem_cons_succ, List.setIfInBounds_toArray, List.set_cons_zero, List.set_cons_succ]
                refine till_take (i := 3) (v := ?_) rfl (by kernel_rfl) (fun _ _ _ h => h) (Or.inl ⟨by rfl, ?_⟩) ⟨c0,c1,u3⟩ ?_
                rotate_left
                · intro W hS
                  try dsimp only at hS
                  go_split_ands
                  go_simp
                  try with_reducible rfl
                try simp only [Act.put, List.getElem_toArray, List.getElem_cons_zero, List.getElem_cons_succ, List.setIfInBounds_toArray, List.set_cons_zero, List.set_cons_succ]
                refine till_take (i := 4) (v := ?_) rfl (by kernel_rfl) (fun _ _ _ h => h) (Or.inl ⟨by rfl, ?_⟩) ⟨c0,c1,u3⟩ ?_
                rotate_left
                · intro W hS
                  try dsimp only at hS
                  go_split_ands
                  go_simp
                  try with_reducible rfl
                try simp only [Act.put, List.getElem_toArray, List.getElem_cons_zero, List.getElem_cons_succ, List.setIfInBounds_toArray, List.set_cons_zero, List.set_cons_succ]
                refine till_take (i := 5) (v := ?_) rfl (by kernel_rfl) (fun _ _ _ h => h) (Or.inl ⟨by rfl, ?_⟩) ⟨c0,c1,u3⟩ ?_
                rotate_left
                · intro W hS
                  try dsimp only at hS
                  go_split_ands
                  go_simp
                  try with_reducible rfl
                try simp only [Act.put, List.getElem_toArray, List.getElem_cons_zero, List.getElem_cons_succ, List.setIfInBounds_toArray, List.set_cons_zero, List.set_cons_succ]
                refine till_one (i := 6) (by kernel_rfl) rfl (fun K' hK => ?_)
                go_simp
                go_at_call 40
                (with_reducible refine (bigof_any y.amt _ HYB.out.1 HYB.out.2).mono ?_)
                rintro e w6 ⟨⟨r6, rfl, hr6⟩, b6⟩
                have p1 := (Below.refl wv.heap.size wv).drew.trans (b6.mono (Below.refl wv.heap.size wv).drew.size)
                replace c0 := cellUp c0 p1
                replace c1 := cellUp c1 p1
                replace u3 := cellUp u3 p1
                refine hK _ _ ⟨c0,c1,u3⟩ ?_
                clear hK K' b6
                try simp only [Act.put, List.getElem_toArray, List.getElem_cons_zero, List.getElem_cons_succ, List.setIfInBounds_toArray, List.set_cons_zero, List.set_cons_succ]
                refine till_one (i := 7) (by kernel_rfl) rfl (fun K' hK => ?_)
                go_simp
                go_at_call 41
                (with_reducible refine (plus_any _ _ (z) (y.amt) _ (hgr.below p1) hr6 (HSM.out _ _ HZB.out (by have := HJT.out; omega)) HYS.out.1).mono ?_)
                rintro e w7 ⟨⟨r7, rfl, hr7⟩, b7⟩
                have p2 := p1.trans (b7.mono p1.size)
                replace c0 := cellUp c0 b7
                replace c1 := cellUp c1 b7
                replace u3 := cellUp u3 b7
                refine hK _ _ ⟨c0,c1,u3⟩ ?_
                clear hK K' b7 p1 hr6 u3
                obtain ⟨nb2, na2, nl2, nc2, rfl, hps⟩ := (HPSv.out.below p2).put hr7
                have HPS3 := Lib.hid hps
                have HZB3 : Hid (Bd (z + y.amt) (2 * j + 1)) := HZB.out.add HYA.out
                obtain ⟨-, -, f0, f1⟩ := (hgb.below p2).two
                clear hps hr7 p2 hgb hgr
                try simp only [Act.put, List.getElem_toArray, List.getElem_cons_zero, List.getElem_cons_succ, List.setIfInBounds_toArray, List.set_cons_zero, List.set_cons_succ]
                refine till_last (by kernel_rfl) rfl (by kernel_rfl) (fun K' hK => ?_)
                go_simp
                refine hK _ _ ?_
                clear hK K' c0 c1 f0 f1
                try simp only [Act.put, List.getElem_toArray, List.getElem_cons_zero, List.getElem_cons_succ, List.setIfInBounds_toArray, List.set_cons_zero, List.set_cons_succ]
                refine wpAny_done (by kernel_rfl) ?_ _
                generalize ((w7.setCell ⟨g, 0, none⟩ (.bool nb2)).setCell ⟨g, 1, none⟩ (.slice na2 nl2 nc2)) = w8 at *
                have e0 : w8.cell? ⟨b, o + k * 3, none⟩ = some (.string x.party) := cellUp HX0.out HPS3.out.bel
                have e1 : w8.cell? ⟨b, o + k * 3 + 1, none⟩ = some (.string x.coin) := cellUp HX1.out HPS3.out.bel
                have u0 : w8.cell? ⟨bm, om + j * 4, none⟩ = some (.string y.src) := cellUp HV0.out HPS3.out.bel
                have u1 : w8.cell? ⟨bm, om + j * 4 + 1, none⟩ = some (.string y.dst) := cellUp HV1.out HPS3.out.bel
                have u2 : w8.cell? ⟨bm, om + j * 4 + 2, none⟩ = some (.string y.coin) := cellUp HV2.out HPS3.out.bel
                have HZN : Hid (z + y.amt = stM l m (j + 1) x.key ∧ Bd (z + y.amt) (2 * (j + 1))) := by
                  have h := HST.out
                  rw [if_neg (fun h => hss (kf_eq.1 h).1), if_pos (kt_eq.2 ⟨hdd, hcc⟩), ← HZE.out, Int.add_zero] at h
                  exact ⟨h.symm, HZB3.out.up (by omega)⟩
                clear e0 e1 u0 u1 u2
                go_wp2_with fail
                go_roundw
                case rel => exact ⟨j + 1, _, by go_num, by have := HJT.out; omega, HPS3.out, HZN.out⟩
                case measure => simp [intOf]; have := HJT.out; omega
              · rw [decide_eq_false hdd] at hd
                go_upto_region 10 with (fail)
                go_quiet (fail)
                have bq : Below wi.heap.size wi (wi.drewN nq) := below_dN (Below.refl wi.heap.size wi) nq
                have HPSq := Lib.hid (HPS.out.below bq)
                clear bq e0 e1 u0 u1 u2
                generalize wi.drewN nq = wq at *
                have e0 : wq.cell? ⟨b, o + k * 3, none⟩ = some (.string x.party) := cellUp HX0.out HPSq.out.bel
                have e1 : wq.cell? ⟨b, o + k * 3 + 1, none⟩ = some (.string x.coin) := cellUp HX1.out HPSq.out.bel
                have u0 : wq.cell? ⟨bm, om + j * 4, none⟩ = some (.string y.src) := cellUp HV0.out HPSq.out.bel
                have u1 : wq.cell? ⟨bm, om + j * 4 + 1, none⟩ = some (.string y.dst) := cellUp HV1.out HPSq.out.bel
                have u2 : wq.cell? ⟨bm, om + j * 4 + 2, none⟩ = some (.string y.coin) := cellUp HV2.out HPSq.out.bel
                go_upto_region 12 with (fail)
                go_quiet (fail)
                have bq : Below wq.heap.size wq (wq.drewN nq) := below_dN (Below.refl wq.heap.size wq) nq
                have HPSv := Lib.hid (HPSq.out.below bq)
                clear bq e0 e1 u0 u1 u2
                generalize wq.drewN nq = wv at *
                have e0 : wv.cell? ⟨b, o + k * 3, none⟩ = some (.string x.party) := cellUp HX0.out HPSv.out.bel
                have e1 : wv.cell? ⟨b, o + k * 3 + 1, none⟩ = some (.string x.coin) := cellUp HX1.out HPSv.out.bel
                have u0 : wv.cell? ⟨bm, om + j * 4, none⟩ = some (.string y.src) := cellUp HV0.out HPSv.out.bel
                have u1 : wv.cell? ⟨bm, om + j * 4 + 1, none⟩ = some (.string y.dst) := cellUp HV1.out HPSv.out.bel
                have u2 : wv.cell? ⟨bm, om + j * 4 + 2, none⟩ = some (.string y.coin) := cellUp HV2.out HPSv.out.bel
                have HZN : Hid (z = stM l m (j + 1) x.key ∧ Bd (z) (2 * (j + 1))) := by
                  have h := HST.out
                  rw [if_neg (fun h => hss (kf_eq.1 h).1), if_neg (fun h => hdd (kt_eq.1 h).1), ← HZE.out, Int.add_zero, Int.add_zero] at h
                  exact ⟨h.symm, HZB.out.up (by omega)⟩
                clear e0 e1 u0 u1 u2
                go_wp2_with fail
                go_roundw
                case rel => exact ⟨j + 1, _, by go_num, by have := HJT.out; omega, HPSv.out, HZN.out⟩
                case measure => simp [intOf]; have := HJT.out; omega
          · rw [decide_eq_false hcc] at hc
            go_upto_region 10 with (fail)
            go_quiet (fail)
            have bq : Below wi.heap.size wi (wi.drewN nq) := below_dN (Below.refl wi.heap.size wi) nq
            have HPSq := Lib.hid (HPS.out.below bq)
            clear bq e0 e1 u0 u1 u2
            generalize wi.drewN nq = wq at *
            have e0 : wq.cell? ⟨b, o + k * 3, none⟩ = some (.string x.party) := cellUp HX0.out HPSq.out.bel
            have e1 : wq.cell? ⟨b, o + k * 3 + 1, none⟩ = some (.string x.coin) := cellUp HX1.out HPSq.out.bel
            have u0 : wq.cell? ⟨bm, om + j * 4, none⟩ = some (.string y.src) := cellUp HV0.out HPSq.out.bel
            have u1 : wq.cell? ⟨bm, om + j * 4 + 1, none⟩ = some (.string y.dst) := cellUp HV1.out HPSq.out.bel
            have u2 : wq.cell? ⟨bm, om + j * 4 + 2, none⟩ = some (.string y.coin) := cellUp HV2.out HPSq.out.bel
            go_upto_region 12 with (fail)
            go_quiet (fail)
            have bq : Below wq.heap.size wq (wq.drewN nq) := below_dN (Below.refl wq.heap.size wq) nq
            have HPSv := Lib.hid (HPSq.out.below bq)
            clear bq e0 e1 u0 u1 u2
            generalize wq.drewN nq = wv at *
            have e0 : wv.cell? ⟨b, o + k * 3, none⟩ = some (.string x.party) := cellUp HX0.out HPSv.out.bel
            have e1 : wv.cell? ⟨b, o + k * 3 + 1, none⟩ = some (.string x.coin) := cellUp HX1.out HPSv.out.bel
            have u0 : wv.cell? ⟨bm, om + j * 4, none⟩ = some (.string y.src) := cellUp HV0.out HPSv.out.bel
            have u1 : wv.cell? ⟨bm, om + j * 4 + 1, none⟩ = some (.string y.dst) := cellUp HV1.out HPSv.out.bel
            have u2 : wv.cell? ⟨bm, om + j * 4 + 2, none⟩ = some (.string y.coin) := cellUp HV2.out HPSv.out.bel
            have HZN : Hid (z = stM l m (j + 1) x.key ∧ Bd (z) (2 * (j + 1))) := by
              have h := HST.out
              rw [if_neg (fun h => hcc (kf_eq.1 h).2), if_neg (fun h => hcc (kt_eq.1 h).2), ← HZE.out, Int.add_zero, Int.add_zero] at h
              exact ⟨h.symm, HZB.out.up (by omega)⟩
            clear e0 e1 u0 u1 u2
            go_wp2_with fail
            go_roundw
            case rel => exact ⟨j + 1, _, by go_num, by have := HJT.out; omega, HPSv.out, HZN.out⟩
            case measure => simp [intOf]; have := HJT.out; omega
        · have hjt' : ¬ (j : Int) < (ml : Int) := by omega
          have HZE : Hid (z = tot L x.key) := by
            have h := HPZ.out.2.1
            rw [stM_end _ (by rw [HML.out]; omega), ← HL.out] at h
            exact h
          have HSM : Hid (Sm z.natAbs) := HPZ.out.2.2.sm (by have := HMB.out; omega)
          have HPS := Lib.hid HPZ.out.1
          clear HPZ hjt
          obtain ⟨gb, ga, gl, gc, hgb, hgr⟩ := HPS.out.big
          obtain ⟨c0, c1, -, -⟩ := hgb.two
          have HGR := Lib.hid hgr
          clear hgb hgr
          go_wp2_with fail
          go_at_call 43
          (with_reducible refine (small_any _ z _ HGR.out HSM.out).mono ?_)
          rintro e w9 ⟨rfl, b9⟩
          have HP9 := Lib.hid (HPS.out.below b9)
          clear HPS HGR HSM c0 c1 b9
          cases hsb : smB z with
          | false =>
            have HNF : Hid (¬ FitL (conA l ++ conM m)) := by
              intro hf
              have h := (keys_fit HKK.out).1 hf x (List.mem_of_getElem? HX.out)
              rw [← HL.out, ← HZE.out, ← fits_smB, hsb] at h
              cases h
            clear hsb
            go_wp2_with fail
            go_ret2
            exact ⟨⟨[], none, 0, false, rfl, SlR.nil _ _ _, Nat.zero_le _, .inl ⟨rfl, HNF.out⟩⟩, HB1.out.trans (HP9.out.bel.mono HB1.out.size)⟩
          | true =>
            have hsn : smN z = z := by unfold smN; rw [hsb]; rfl
            rw [hsn]
            have HFT2 : Hid (∀ (j : Nat) e, j < k + 1 → ks[j]? = some e → fits64 (tot L e.key) = true) := by
              intro i e hi he
              by_cases h : i < k
              · exact HFT.out i e h he
              · obtain rfl : i = k := by omega
                rw [HX.out] at he; rw [← Option.some.inj he, ← HZE.out, ← fits_smB, hsb]
            have HTK := Lib.hid (oK_take (L := L) HX.out)
            rw [← HZE.out] at HTK
            clear hsb hsn HFT
            by_cases hz0 : z = 0
            · have hz1 : (z != 0) = false := by simp [hz0]
              rw [if_pos hz0, List.append_nil] at HTK
              have HLN : Hid (on = (oK L (ks.take (k + 1))).length) := by show _ = _; rw [HTK.out]; exact HON.out
              have HR9 : Hid (w9.ownsRow w1.heap.size 58 3 (.slice oa (oK L (ks.take (k + 1))).length oc) (oK L (ks.take (k + 1))).length (outR (oK L (ks.take (k + 1)))) ∧ Below w1.heap.size w1 w9 ∧ (∀ (j : Nat) e, j < k + 1 → ks[j]? = some e → fits64 (tot L e.key) = true)) := by
                rw [HTK.out, ← HON.out]
                exact ⟨HP9.out.row, HP9.out.bel, HFT2.out⟩
              clear hz0 HTK HP9 HFT2
              go_wp2_with fail
              go_roundw
              case rel => exact ⟨k + 1, oa, oc, by rw [HLN.out], by go_num, by have := HKT.out; omega, HR9.out⟩
              case measure => simp [intOf]; have := HKT.out; omega
            · have hz1 : (z != 0) = true := by simp [hz0]
              rw [if_neg hz0] at HTK
              have e0 : w9.cell? ⟨b, o + k * 3, none⟩ = some (.string x.party) := cellUp HX0.out HP9.out.bel
              have e1 : w9.cell? ⟨b, o + k * 3 + 1, none⟩ = some (.string x.coin) := cellUp HX1.out HP9.out.bel
              have hal : Below w9.heap.size w9 (w9.alloc (.cells #[.string x.party, .string x.coin, .int .i64 z] 58)).drew := (below_newL w9 _).drew
              have HO2 := Lib.hid (own_below HP9.out.row hal)
              have HB2 := Lib.hid (HP9.out.bel.trans (hal.mono HP9.out.bel.size))
              have HSB : Hid (w1.heap.size ≤ (w9.alloc (.cells #[.string x.party, .string x.coin, .int .i64 z] 58)).drew.heap.size) := HB2.out.size
              have HCN : Hid (∀ j u, [Value.string x.party, .string x.coin, .int .i64 z][j]? = some u → (w9.alloc (.cells #[.string x.party, .string x.coin, .int .i64 z] 58)).drew.cell? ((⟨w9.heap.size, 0, none⟩ : Addr).add j) = some u) := lit_cells_at w9 #[.string x.party, .string x.coin, .int .i64 z] 58 w9.heap.size rfl
              have e0' := cellUp e0 hal
              have e1' := cellUp e1 hal
              have HKM : Hid (on + 1 ≤ maxLen ∧ (on + 1) * 40 ≤ 140737488355328) := by
                have hmx : maxLen = 9223372036854775807 := by decide
                have := HOL.out
                exact ⟨by omega, by omega⟩
              clear hal hz0 HP9
              go_upto_region 18 with (fail)
              refine wp_region_till (S := fun W => W.cell? ⟨b, o + k * 3, none⟩ = some (.string x.party) ∧ W.cell? ⟨b, o + k * 3 + 1, none⟩ = some (.string x.coin)) 14 (by kernel_rfl) ?_
              refine till_take (i := 0) (v := ?_) rfl (by kernel_rfl) (fun _ _ _ h => h) (Or.inl ⟨by rfl, ?_⟩) ⟨e0,e1⟩ ?_
              rotate_left
              · intro W hS
                try dsimp only at hS
                go_split_ands
                go_simp
                try with_reducible rfl
              try simp only [Act.put, List.getElem_toArray, List.getElem_cons_zero, List.getElem_cons_succ, List.setIfInBounds_toArray, List.set_cons_zero, List.set_cons_succ]
              refine till_take (i := 1) (v := ?_) rfl (by kernel_rfl) (fun _ _ _ h => h) (Or.inl ⟨by rfl, ?_⟩) ⟨e0,e1⟩ ?_
              rotate_left
              · intro W hS
                try dsimp only at hS
                go_split_ands
                go_simp
                try with_reducible rfl
              try simp only [Act.put, List.getElem_toArray, List.getElem_cons_zero, List.getElem_cons_succ, List.setIfInBounds_toArray, List.set_cons_zero, List.set_cons_succ]
              refine till_take (i := 2) (v := ?_) rfl (by kernel_rfl) (fun _ _ _ h => h) (Or.inl ⟨by rfl, ?_⟩) ⟨e0,e1⟩ ?_
              rotate_left
              · intro W hS
                try dsimp only at hS
                go_split_ands
                go_simp
                try with_reducible rfl
              try simp only [Act.put, List.getElem_toArray, List.getElem_cons_zero, List.getElem_cons_succ, List.setIfInBounds_toArray, List.set_cons_zero, List.set_cons_succ]
              refine till_take (i := 3) (v := ?_) rfl (by kernel_rfl) (fun _ _ _ h => h) (Or.inl ⟨by rfl, ?_⟩) ⟨e0,e1⟩ ?_
              rotate_left
              · intro W hS
                try dsimp only at hS
                go_split_ands
                go_simp
                try with_reducible rfl
              try simp only [Act.put, List.getElem_toArray, List.getElem_cons_zero, List.getElem_cons_succ, List.setIfInBounds_toArray, List.set_cons_zero, List.set_cons_succ]
              refine till_take (i := 4) (v := ?_) rfl (by kernel_rfl) (fun _ _ _ h => h) (Or.inl ⟨by rfl, ?_⟩) ⟨e0,e1⟩ ?_
              rotate_left
              · intro W hS
                try dsimp only at hS
                go_split_ands
                go_simp
                try with_reducible rfl
              try simp only [Act.put, List.getElem_toArray, List.getElem_cons_zero, List.getElem_cons_succ, List.setIfInBounds_toArray, List.set_cons_zero, List.set_cons_succ]
              refine till_take (i := 5) (v := ?_) rfl (by kernel_rfl) (fun _ _ _ h => h) (Or.inl ⟨by rfl, ?_⟩) ⟨e0,e1⟩ ?_
              rotate_left
              · intro W hS
                try dsimp only at hS
                go_split_ands
                go_simp
                try with_reducible rfl
              try simp only [Act.put, List.getElem_toArray, List.getElem_cons_zero, List.getElem_cons_succ, List.setIfInBounds_toArray, List.set_cons_zero, List.set_cons_succ]
              refine till_take (i := 6) (v := ?_) rfl (by kernel_rfl) (fun _ _ _ h => h) (Or.inl ⟨by rfl, ?_⟩) ⟨e0,e1⟩ ?_
              rotate_left
              · intro W hS
                try dsimp only at hS
                go_split_ands
                go_simp
                try with_reducible rfl
              try simp only [Act.put, List.getElem_toArray, List.getElem_cons_zero, List.getElem_cons_succ, List.setIfInBounds_toArray, List.set_cons_zero, List.set_cons_succ]
              refine till_take (i := 7) (v := ?_) rfl (by kernel_rfl) (fun _ _ _ h => h) (Or.inl ⟨by rfl, ?_⟩) ⟨e0,e1⟩ ?_
              rotate_left
              · intro W hS
                try dsimp only at hS
                go_split_ands
                go_simp
                try with_reducible rfl
              try simp only [Act.put, List.getElem_toArray, List.getElem_cons_zero, List.getElem_cons_succ, List.setIfInBounds_toArray, List.set_cons_zero, List.set_cons_succ]
              refine till_take (i := 8) (v := ?_) rfl (by kernel_rfl) (fun _ _ _ h => h) (Or.inl ⟨by rfl, ?_⟩) ⟨e0,e1⟩ ?_
              rotate_left
              · intro W hS
                try dsimp only at hS
                go_split_ands
                go_simp
                try with_reducible rfl
              try simp only [Act.put, List.getElem_toArray, List.getElem_cons_zero, List.getElem_cons_succ, List.setIfInBounds_toArray, List.set_cons_zero, List.set_cons_succ]
              refine till_take (i := 9) (v := ?_) rfl (by kernel_rfl) (fun _ _ _ h => h) (Or.inl ⟨by rfl, ?_⟩) ⟨e0,e1⟩ ?_
              rotate_left
              · intro W hS
                try dsimp only at hS
                go_split_ands
                go_simp
                try with_reducible rfl
              try simp only [Act.put, List.getElem_toArray, List.getElem_cons_zero, List.getElem_cons_succ, List.setIfInBounds_toArray, List.set_cons_zero, List.set_cons_succ]
              refine till_take (i := 10) (v := ?_) rfl (by kernel_rfl) (fun _ _ _ h => h) (Or.inl ⟨by rfl, ?_⟩) ⟨e0,e1⟩ ?_
              rotate_left
              · intro W hS
                try dsimp only at hS
                go_split_ands
                go_simp
                try with_reducible rfl
              try simp only [Act.put, List.getElem_toArray, List.getElem_cons_zero, List.getElem_cons_succ, List.setIfInBounds_toArray, List.set_cons_zero, List.set_cons_succ]
              refine till_take (i := 11) (v := ?_) rfl (by kernel_rfl) (fun _ _ _ h => h) (Or.inl ⟨by rfl, ?_⟩) ⟨e0,e1⟩ ?_
              rotate_left
              · intro W hS
                try dsimp only at hS
                go_split_ands
                go_simp
                try with_reducible rfl
              try simp only [Act.put, List.getElem_toArray, List.getElem_cons_zero, List.getElem_cons_succ, List.setIfInBounds_toArray, List.set_cons_zero, List.set_cons_succ]
              refine till_take (i := 12) (v := ?_) rfl (by kernel_rfl) (fun _ _ _ h => h) (Or.inl ⟨by rfl, ?_⟩) ⟨e0,e1⟩ ?_
              rotate_left
              · intro W hS
                try dsimp only at hS
                go_split_ands
                go_simp
                try with_reducible rfl
              try simp only [Act.put, List.getElem_toArray, List.getElem_cons_zero, List.getElem_cons_succ, List.setIfInBounds_toArray, List.set_cons_zero, List.set_cons_succ]
              refine till_one (i := 13) (by kernel_rfl) rfl (fun K' hK => ?_)
              go_simp
              refine hK _ _ ⟨e0', e1'⟩ ?_
              clear hK K' e0' e1' e0 e1
              generalize (w9.alloc (.cells #[.string x.party, .string x.coin, .int .i64 z] 58)).drew = w5 at *
              obtain ⟨nb, hnb⟩ : ∃ z, z = w9.heap.size := ⟨_, rfl⟩
              rw [← hnb] at HCN ⊢
              clear hnb
              try simp only [Act.put, List.getElem_toArray, List.getElem_cons_zero, List.getElem_cons_succ, List.setIfInBounds_toArray, List.set_cons_zero, List.set_cons_succ]
              refine till_last (by kernel_rfl) rfl (by kernel_rfl) (fun K' hK => ?_)
              refine step_ap infoRA Try.underlying22 rfl (by decide) rfl (.tmp 115) (.tmp 128) rfl rfl HO2.out HSB.out ⟨nb, 0, none⟩ 1 1 [.string x.party, .string x.coin, .int .i64 z] rfl rfl HCN.out (by simp [Value.oneCell']) HKM.out.1 HKM.out.2 ?_
              intro v3 w3 o1 g1 hv1
              have HB3 := Lib.hid (HB2.out.grown g1 HB2.out.size (fun b hb => (own_lt HO2.out hb).1))
              obtain ⟨a', c', rfl⟩ := own_slice o1
              have HLN : Hid (on + 1 = (oK L (ks.take (k + 1))).length) := by show _ = _; rw [HTK.out, List.length_append, ← HON.out]; rfl
              have HR9 : Hid (w3.ownsRow w1.heap.size 58 3 (.slice a' (oK L (ks.take (k + 1))).length c') (oK L (ks.take (k + 1))).length (outR (oK L (ks.take (k + 1)))) ∧ Below w1.heap.size w1 w3 ∧ (∀ (j : Nat) e, j < k + 1 → ks[j]? = some e → fits64 (tot L e.key) = true)) := by
                rw [← HLN.out, HTK.out, outR_append, outR_one]
                exact ⟨o1, HB3.out, HFT2.out⟩
              refine hK _ _ ?_
              clear hK K' o1 g1 hv1 HB3 HTK HO2 HB2 HSB HCN HFT2
              try simp only [Act.put, List.getElem_toArray, List.getElem_cons_zero, List.getElem_cons_succ, List.setIfInBounds_toArray, List.set_cons_zero, List.set_cons_succ]
              refine any_take (i := 15) (v := ?_) rfl (by kernel_rfl) (fun _ _ _ h => h) (Or.inl ⟨by rfl, ?_⟩) ?_
              rotate_left
              · intro W
                go_simp
                try with_reducible rfl
              try simp only [Act.put, List.getElem_toArray, List.getElem_cons_zero, List.getElem_cons_succ, List.setIfInBounds_toArray, List.set_cons_zero, List.set_cons_succ]
              refine wpAny_done (by kernel_rfl) ?_ _
              go_wp2_with fail
              go_roundw
              case rel => exact ⟨k + 1, a', c', by rw [HLN.out], by go_num, by have := HKT.out; omega, HR9.out⟩
              case measure => simp [intOf]; have := HKT.out; omega
    · have hkt' : ¬ (k : Int) < (kn : Int) := by omega
      have HEND : Hid (RpoR wr l m (.returned (.tuple #[.slice oa on oc, .bool true])) ∧ Below w.heap.size w wr) := by
        have h := HR.out
        have hke : ks.take k = ks := List.take_of_length_le (by rw [← HKL.out]; omega)
        rw [HON.out, hke] at h
        have hou := keys_out HKK.out
        rw [← HL.out] at hou
        have hfi : FitL (conA l ++ conM m) := (keys_fit HKK.out).2 (fun a ha => by
          obtain ⟨i, hi⟩ := List.getElem?_of_mem ha
          have hil := (List.getElem?_eq_some_iff.1 hi).1
          rw [← HL.out]
          exact h.2.2 i a (by rw [← HKL.out] at hil; omega) hi)
        have hok : ∀ a ∈ oK L ks, AcctOk a := by
          intro a ha
          obtain ⟨e, he, h0, rfl⟩ := oK_mem.1 ha
          have he2 := acct_ok HK.out e he
          refine ⟨he2.party, he2.coin, ?_⟩
          have h3 := hfi e.key
          rw [← HL.out] at h3
          unfold fits64 at h3
          rw [Bool.and_eq_true, decide_eq_true_iff, decide_eq_true_iff] at h3
          exact h3
        obtain ⟨a, c, hac, hs⟩ := outR_any h.1 h.2.1 hok
        injection hac with e1 _ e3
        subst e1; subst e3
        rw [HON.out, hke]
        refine ⟨⟨oK L ks, _, _, true, rfl, hs, ?_, .inr ⟨rfl, hfi, by rw [← HL.out]; exact hou⟩⟩, HB1.out.trans (h.2.1.mono HB1.out.size)⟩
        have h4 := oK_len L ks
        have h5 := HKK.out.len
        rw [allK_len] at h5
        omega
      clear HR hkt
      go_wp2_with fail
      go_ret2
      exact HEND.out
end Go.Proofs.Ytgbiimoednmlgaa
