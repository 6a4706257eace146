/- A part of the proof: LvB, Enw, LvQ, one behind another. -/
import Derived.Test.YtmiinmndbkdjbaaMAA
import Derived.Test.YtmiinmndbkdjbaaMAB
import Derived.Test.YtmiinmndbkdjbaaMAC
import Derived.Test.YtmiinmndbkdjbaaMAD
import Derived.Test.YtmiinmndbkdjbaaMAE
import Derived.Test.YtmiinmndbkdjbaaMAF
import Derived.Test.YtmiinmndbkdjbaaMAG
import Derived.Test.YtmiinmndbkdjbaaMAH
import Derived.Test.YtmiinmndbkdjbaaMAI
import Derived.Test.YtmiinmndbkdjbaaMAJ
import Derived.Test.YtmiinmndbkdjbaaMAK
import Derived.Test.YtmiinmndbkdjbaaMAL
import Derived.Test.YtmiinmndbkdjbaaMAM
import Derived.Test.YtmiinmndbkdjbaaMAN
import Derived.Test.YtmiinmndbkdjbaaMAO
import Derived.Test.YtmiinmndbkdjbaaMAQ
import Derived.Test.YtmiinmndbkdjbaaMAR
import Derived.Test.YtmiinmndbkdjbaaMAS
import Derived.Test.YtmiinmndbkdjbaaMAT
import Derived.Test.YtmiinmndbkdjbaaMAU
import Derived.Test.YtmiinmndbkdjbaaMAV
/- The contracts of law23.size and opposite. -/
namespace Go.Proofs.Ytmiinmndbkdjbaa
set_option linter.unusedVariables false
set_option linter.unusedSimpArgs false
open Go.RowKit
set_option maxRecDepth 100000 in
set_option maxHeartbeats 4000000 in
theorem size23_any (l : List Prt) (a : Option Addr) (len cap : Nat) (w : World) (hS : SlR ptK w [] l a len cap) (hk : ∀ p ∈ l, p.term.rk < 1000 ∧ p.term.nd < 1000) (hn : ndL l ≤ 1000000) :
    Calls Try.prog 12 #[.slice a len cap] w fun x w' => x = .returned (.int .i64 ((ndL l : Nat) : Int)) ∧ Below w.heap.size w w' := by
  have HS := Lib.hid hS
  have HL := Lib.hid hS.facts.1
  have HM := Lib.hid hS.facts.2
  have HK := Lib.hid hk
  have HN := Lib.hid hn
  clear hS hk hn
  go_enter Try.func12, Try.ntmps12
  go_wp2_with fail
  go_loopw [3, 4] (fun v i wr => ∃ (k : Nat), v = .int .i64 ((ndL (l.take k) : Nat) : Int) ∧ i = .int .i64 (k : Nat) ∧ k ≤ len ∧ Hid (Below w.heap.size w wr)) (fun _ i _ => len - (intOf i).toNat)
  case atStart => exact ⟨0, rfl, rfl, Nat.zero_le _, Below.refl _ _⟩
  case round =>
    rename World => w3
    obtain ⟨k, rfl, rfl, hk, HB⟩ := hrel
    by_cases hlt : k < len
    · have hlt' : (k : Int) < (len : Int) := by omega
      have k0 : (0 : Int) ≤ (k : Int) := by omega
      have k1 : (k : Int) ≤ 9223372036854775806 := by have := HM.out; omega
      obtain ⟨b, o, p, ua, uc, op, nm, xa, xl, xc, ta, tl, tc, ha, -, -, hp, hop, hf, hU, hT, u0, u1, u2, u3, u4, u5, u6⟩ := pt_at (HS.out.kept (Kept.of_below HB.out [])) k hlt
      obtain ⟨hk1, hk2⟩ := HK.out p (List.mem_of_getElem? hp)
      have HTK : Hid (ndL (l.take (k + 1)) = ndL (l.take k) + p.term.nd) := (ndL_take hp).2
      have hle := ndL_le l (k + 1)
      have HSZ := Lib.hid (size_any p.term _ w3 hT hk1)
      rw [if_pos hk2, if_pos hk2] at HSZ
      have s0 : (0 : Int) ≤ ((ndL (l.take k) : Nat) : Int) + ((p.term.nd : Nat) : Int) := by omega
      have s1 : ((ndL (l.take k) : Nat) : Int) + ((p.term.nd : Nat) : Int) ≤ 1000000 := by have := HTK.out; have := HN.out; omega
      generalize ndL (l.take k) = A at *
      generalize p.term.nd = ND at *
      have HLT := Lib.hid hlt
      have HA := Lib.hid ha
      subst ha
      clear u0 u1 u2 hp hop hf hU hT hk1 hk2 hle hlt
      go_wp2_with fail
      (with_reducible refine HSZ.out.mono ?_)
      rintro y w4 ⟨rfl, b4⟩
      have HB4 := Lib.hid (HB.out.trans (b4.mono HB.out.size))
      clear b4 HSZ u3 u4 u5 u6
      go_wp2_with fail
      go_roundw
      case rel => exact ⟨k + 1, by rw [HTK.out]; go_num, by go_num, by have := HLT.out; omega, HB4.out⟩
      case measure => simp [intOf]; have := HLT.out; omega
    · have hlt' : ¬ (k : Int) < (len : Int) := by omega
      obtain rfl : k = len := by omega
      rw [List.take_of_length_le (by rw [HL.out]; omega)]
      clear hlt
      go_wp2_with fail
      go_ret
      exact ⟨rfl, HB.out⟩
theorem neg_of {x y : Int} (hx : I64 x) (h : -y = x) : IntKind.i64.wrap (-y) = x := by rw [IntWalk.i64_in _ (by unfold I64 at hx; omega)]; exact h
set_option maxRecDepth 100000 in
set_option maxHeartbeats 8000000 in
theorem opposite_any (P : List Prt) (F : List Flw) (pa fa qa ga : Option Addr) (n pc m fc qc gc : Nat) (w : World) (h1 : SlR ptK w [] P pa n pc) (h2 : SlR flK w [] F fa m fc) (h3 : SlR ptK w [] (P.map negP) qa n qc) (h4 : SlR flK w [] (F.map negF) ga m gc) (hk : ∀ p ∈ P, p.term.rk < 1000) :
    Calls Try.prog 15 #[.slice pa n pc, .slice fa m fc, .slice qa n qc, .slice ga m gc] w fun x w' => x = .returned (.bool true) ∧ Below w.heap.size w w' := by
  have HP := Lib.hid h1
  have HF := Lib.hid h2
  have HQ := Lib.hid h3
  have HG := Lib.hid h4
  have HK := Lib.hid hk
  have HM := Lib.hid (And.intro h1.facts.2 h2.facts.2)
  clear h1 h2 h3 h4 hk
  go_enter Try.func15, Try.ntmps15
  go_wp2_with fail
  go_loopw [9] (fun i wr => ∃ (k : Nat), i = .int .i64 (k : Nat) ∧ k ≤ m ∧ Hid (Below w.heap.size w wr)) (fun i _ => m - (intOf i).toNat)
  case atStart => exact ⟨0, rfl, Nat.zero_le _, Below.refl _ _⟩
  case round =>
    rename World => w3
    obtain ⟨k, rfl, hk, HB⟩ := hrel
    by_cases hlt : k < m
    · have hlt' : (k : Int) < (m : Int) := by omega
      have k0 : (0 : Int) ≤ (k : Int) := by omega
      have k1 : (k : Int) ≤ 9223372036854775806 := by have := HM.out; omega
      obtain ⟨b, o, x, rfl, hx, hxo, u0, u1⟩ := fl_at (HF.out.kept (Kept.of_below HB.out [])) k hlt
      obtain ⟨b', o', y, rfl, hy, -, v0, v1⟩ := fl_at (HG.out.kept (Kept.of_below HB.out [])) k hlt
      rw [List.getElem?_map, hx] at hy
      injection hy with hy
      subst hy
      have hw9 : IntKind.i64.wrap (-(negF x).amt) = x.amt := neg_of hxo.amt (by show - -x.amt = x.amt; omega)
      have e9 : (negF x).coin = x.coin := rfl
      rw [e9] at v0
      generalize (negF x).amt = ya at *
      generalize x.amt = xa at *
      generalize x.coin = xc at *
      have HLT := Lib.hid hlt
      clear hx hxo hlt e9
      go_upto_region 6 with (fail)
      go_quiet (fail)
      have bq : Below w3.heap.size w3 (w3.drewN nq) := below_drewN (Below.refl w3.heap.size w3) nq
      have HB4 := Lib.hid (HB.out.trans (bq.mono HB.out.size))
      clear bq u0 u1 v0 v1
      generalize w3.drewN nq = w4 at *
      go_wp2_with fail
      go_roundw
      case rel => exact ⟨k + 1, by go_num, by have := HLT.out; omega, HB4.out⟩
      case measure => simp [intOf]; have := HLT.out; omega
    · have hlt' : ¬ (k : Int) < (m : Int) := by omega
      obtain rfl : k = m := by omega
      clear hlt
      go_wp2_with fail
      go_loopw [10] (fun i wr => ∃ (k : Nat), i = .int .i64 (k : Nat) ∧ k ≤ n ∧ Hid (Below w.heap.size w wr)) (fun i _ => n - (intOf i).toNat)
      case atStart => exact ⟨0, rfl, Nat.zero_le _, HB.out⟩
      case round =>
        clear HB hlt'
        rename World => w3
        obtain ⟨j, rfl, hj, HB⟩ := hrel
        by_cases hlt : j < n
        · have hlt' : (j : Int) < (n : Int) := by omega
          have k0 : (0 : Int) ≤ (j : Int) := by omega
          have k1 : (j : Int) ≤ 9223372036854775806 := by have := HM.out; omega
          obtain ⟨b, o, p, ua, uc, op, nm, xa, xl, xc, ta, tl, tc, rfl, -, -, hp, hop, hf, hU, hT, u0, u1, u2, u3, u4, u5, u6⟩ := pt_at (HP.out.kept (Kept.of_below HB.out [])) j hlt
          obtain ⟨b', o', q, ua', uc', op', nm', xa', xl', xc', ta', tl', tc', rfl, -, -, hq, hop', hf', hU', hT', v0, v1, v2, v3, v4, v5, v6⟩ := pt_at (HQ.out.kept (Kept.of_below HB.out [])) j hlt
          rw [List.getElem?_map, hp] at hq
          injection hq with hq
          subst hq
          have hw9 : IntKind.i64.wrap (-(negP p).factor) = p.factor := neg_of hf (by show - -p.factor = p.factor; omega)
          have hT9 : RepT w3 [] p.term [.int .i64 op', .string nm', .slice xa' xl' xc', .slice ta' tl' tc'] := hT'
          have e9 : (negP p).turned = !p.turned := rfl
          rw [e9] at v1
          have HSM := Lib.hid (rsame_any p.term.rk p.term (Nat.le_refl _) p.term _ _ w3.drew (hT.kept (Kept.of_below (Below.refl w3.heap.size w3).drew [])) (hT9.kept (Kept.of_below (Below.refl w3.heap.size w3).drew [])))
          rw [eqv_yes (rfl : p.term = p.term)] at HSM
          generalize (negP p).factor = qf at *
          generalize p.factor = pf at *
          have HLT := Lib.hid hlt
          obtain ⟨pt, hpt⟩ : ∃ b, b = p.turned := ⟨_, rfl⟩
          rw [← hpt] at u1 v1
          clear hp hop hf hU hT u2 hop' hf' hU' hT' v2 hT9 e9 hlt hpt
          have hd9 : (pt == !pt) = false := by cases pt <;> rfl
          cases pt
          · rw [Bool.not_false] at v1
            clear hd9
            go_upto_region 11 with (fail)
            refine wp_region_till (S := fun W => (W.cell? ⟨b, o + j * 7, none⟩ = some (.int .i64 pf) ∧ W.cell? ⟨b, o + j * 7 + 1, none⟩ = some (.bool false) ∧ W.cell? ⟨b, o + j * 7 + 3, none⟩ = some (.int .i64 op) ∧ W.cell? ⟨b, o + j * 7 + 4, none⟩ = some (.string nm) ∧ W.cell? ⟨b, o + j * 7 + 5, none⟩ = some (.slice xa xl xc) ∧ W.cell? ⟨b, o + j * 7 + 6, none⟩ = some (.slice ta tl tc)) ∧
              (W.cell? ⟨b', o' + j * 7, none⟩ = some (.int .i64 qf) ∧ W.cell? ⟨b', o' + j * 7 + 1, none⟩ = some (.bool true) ∧ W.cell? ⟨b', o' + j * 7 + 3, none⟩ = some (.int .i64 op') ∧ W.cell? ⟨b', o' + j * 7 + 4, none⟩ = some (.string nm') ∧ W.cell? ⟨b', o' + j * 7 + 5, none⟩ = some (.slice xa' xl' xc') ∧ W.cell? ⟨b', o' + j * 7 + 6, none⟩ = some (.slice ta' tl' tc'))) 36 (by kernel_rfl) ?_
            refine till_take (i := 0) (v := ?_) rfl (by kernel_rfl) (fun _ _ _ h => h) (Or.inl ⟨by rfl, ?_⟩) ⟨⟨u0,u1,u3,u4,u5,u6⟩,v0,v1,v3,v4,v5,v6⟩ ?_
            rotate_left
            · intro W hS
              try dsimp only at hS
              go_split_ands
              go_simp
              try with_reducible rfl
            try simp only [Act.put, List.getElem_toArray, List.getElem_cons_zero, List.getElem_cons_succ, List.setIfInBounds_toArray, List.set_cons_zero, List.set_cons_succ]
            refine till_take (i := 1) (v := ?_) rfl (by kernel_rfl) (fun _ _ _ h => h) (Or.inl ⟨by rfl, ?_⟩) ⟨⟨u0,u1,u3,u4,u5,u6⟩,v0,v1,v3,v4,v5,v6⟩ ?_
            rotate_left
            · intro W hS
              try dsimp only at hS
              go_split_ands
              go_simp
              try with_reducible rfl
            try simp only [Act.put, List.getElem_toArray, List.getElem_cons_zero, List.getElem_cons_succ, List.setIfInBounds_toArray, List.set_cons_zero, List.set_cons_succ]
            refine till_take (i := 2) (v := ?_) rfl (by kernel_rfl) (fun _ _ _ h => h) (Or.inl ⟨by rfl, ?_⟩) ⟨⟨u0,u1,u3,u4,u5,u6⟩,v0,v1,v3,v4,v5,v6⟩ ?_
            rotate_left
            · intro W hS
              try dsimp only at hS
              go_split_ands
              go_simp
              try with_reducible rfl
            try simp only [Act.put, List.getElem_toArray, List.getElem_cons_zero, List.getElem_cons_succ, List.setIfInBounds_toArray, List.set_cons_zero, List.set_cons_succ]
            refine till_take (i := 3) (v := ?_) rfl (by kernel_rfl) (fun _ _ _ h => h) (Or.inl ⟨by rfl, ?_⟩) ⟨⟨u0,u1,u3,u4,u5,u6⟩,v0,v1,v3,v4,v5,v6⟩ ?_
            rotate_left
            · intro W hS
              try dsimp only at hS
              go_split_ands
              go_simp
              try with_reducible rfl
            try simp only [Act.put, List.getElem_toArray, List.getElem_cons_zero, List.getElem_cons_succ, List.setIfInBounds_toArray, List.set_cons_zero, List.set_cons_succ]
            refine till_take (i := 4) (v := ?_) rfl (by kernel_rfl) (fun _ _ _ h => h) (Or.inl ⟨by rfl, ?_⟩) ⟨⟨u0,u1,u3,u4,u5,u6⟩,v0,v1,v3,v4,v5,v6⟩ ?_
            rotate_left
            · intro W hS
              try dsimp only at hS
              go_split_ands
              go_simp
              try with_reducible rfl
            try simp only [Act.put, List.getElem_toArray, List.getElem_cons_zero, List.getElem_cons_succ, List.setIfInBounds_toArray, List.set_cons_zero, List.set_cons_succ]
            refine till_take (i := 5) (v := ?_) rfl (by kernel_rfl) (fun _ _ _ h => h) (Or.inl ⟨by rfl, ?_⟩) ⟨⟨u0,u1,u3,u4,u5,u6⟩,v0,v1,v3,v4,v5,v6⟩ ?_
            rotate_left
            · intro W hS
              try dsimp only at hS
              go_split_ands
              go_simp
              try with_reducible rfl
            try simp only [Act.put, List.getElem_toArray, List.getElem_cons_zero, List.getElem_cons_succ, List.setIfInBounds_toArray, List.set_cons_zero, List.set_cons_succ]
            refine till_take (i := 6) (v := ?_) rfl (by kernel_rfl) (fun _ _ _ h => h) (Or.inl ⟨by rfl, ?_⟩) ⟨⟨u0,u1,u3,u4,u5,u6⟩,v0,v1,v3,v4,v5,v6⟩ ?_
            rotate_left
            · intro W hS
              try dsimp only at hS
              go_split_ands
              go_simp
              try with_reducible rfl
            try simp only [Act.put, List.getElem_toArray, List.getElem_cons_zero, List.getElem_cons_succ, List.setIfInBounds_toArray, List.set_cons_zero, List.set_cons_succ]
            refine till_take (i := 7) (v := ?_) rfl (by kernel_rfl) (fun _ _ _ h => h) (Or.inl ⟨by rfl, ?_⟩) ⟨⟨u0,u1,u3,u4,u5,u6⟩,v0,v1,v3,v4,v5,v6⟩ ?_
            rotate_left
            · intro W hS
              try dsimp only at hS
              go_split_ands
              go_simp
              try with_reducible rfl
            try simp only [Act.put, List.getElem_toArray, List.getElem_cons_zero, List.getElem_cons_succ, List.setIfInBounds_toArray, List.set_cons_zero, List.set_cons_succ]
            refine till_take (i := 8) (v := ?_) rfl (by kernel_rfl) (fun _ _ _ h => h) (Or.inl ⟨by rfl, ?_⟩) ⟨⟨u0,u1,u3,u4,u5,u6⟩,v0,v1,v3,v4,v5,v6⟩ ?_
            rotate_left
            · intro W hS
              try dsimp only at hS
              go_split_ands
              go_simp
              try with_reducible rfl
            try simp only [Act.put, List.getElem_toArray, List.getElem_cons_zero, List.getElem_cons_succ, List.setIfInBounds_toArray, List.set_cons_zero, List.set_cons_succ]
            refine till_take (i := 9) (v := ?_) rfl (by kernel_rfl) (fun _ _ _ h => h) (Or.inl ⟨by rfl, ?_⟩) ⟨⟨u0,u1,u3,u4,u5,u6⟩,v0,v1,v3,v4,v5,v6⟩ ?_
            rotate_left
            · intro W hS
              try dsimp only at hS
              go_split_ands
              go_simp
              try with_reducible rfl
            try simp only [Act.put, List.getElem_toArray, List.getElem_cons_zero, List.getElem_cons_succ, List.setIfInBounds_toArray, List.set_cons_zero, List.set_cons_succ]
            refine till_take (i := 10) (v := ?_) rfl (by kernel_rfl) (fun _ _ _ h => h) (Or.inl ⟨by rfl, ?_⟩) ⟨⟨u0,u1,u3,u4,u5,u6⟩,v0,v1,v3,v4,v5,v6⟩ ?_
            rotate_left
            · intro W hS
              try dsimp only at hS
              go_split_ands
              go_simp
              try with_reducible rfl
            try simp only [Act.put, List.getElem_toArray, List.getElem_cons_zero, List.getElem_cons_succ, List.setIfInBounds_toArray, List.set_cons_zero, List.set_cons_succ]
            refine till_take (i := 11) (v := ?_) rfl (by kernel_rfl) (fun _ _ _ h => h) (Or.inl ⟨by rfl, ?_⟩) ⟨⟨u0,u1,u3,u4,u5,u6⟩,v0,v1,v3,v4,v5,v6⟩ ?_
            rotate_left
            · intro W hS
              try dsimp only at hS
              go_split_ands
              go_simp
              try with_reducible rfl
            try simp only [Act.put, List.getElem_toArray, List.getElem_cons_zero, List.getElem_cons_succ, List.setIfInBounds_toArray, List.set_cons_zero, List.set_cons_succ]
            refine till_take (i := 12) (v := ?_) rfl (by kernel_rfl) (fun _ _ _ h => h) (Or.inl ⟨by rfl, ?_⟩) ⟨⟨u0,u1,u3,u4,u5,u6⟩,v0,v1,v3,v4,v5,v6⟩ ?_
            rotate_left
            · intro W hS
              try dsimp only at hS
              go_split_ands
              go_simp
              try with_reducible rfl
            try simp only [Act.put, List.getElem_toArray, List.getElem_cons_zero, List.getElem_cons_succ, List.setIfInBounds_toArray, List.set_cons_zero, List.set_cons_succ]
            refine till_take (i := 13) (v := ?_) rfl (by kernel_rfl) (fun _ _ _ h => h) (Or.inl ⟨by rfl, ?_⟩) ⟨⟨u0,u1,u3,u4,u5,u6⟩,v0,v1,v3,v4,v5,v6⟩ ?_
            rotate_left
            · intro W hS
              try dsimp only at hS
              go_split_ands
              go_simp
              try with_reducible rfl
            try simp only [Act.put, List.getElem_toArray, List.getElem_cons_zero, List.getElem_cons_succ, List.setIfInBounds_toArray, List.set_cons_zero, List.set_cons_succ]
            refine till_take (i := 14) (v := ?_) rfl (by kernel_rfl) (fun _ _ _ h => h) (Or.inl ⟨by rfl, ?_⟩) ⟨⟨u0,u1,u3,u4,u5,u6⟩,v0,v1,v3,v4,v5,v6⟩ ?_
            rotate_left
            · intro W hS
              try dsimp only at hS
              go_split_ands
              go_simp
              try with_reducible rfl
            try simp only [Act.put, List.getElem_toArray, List.getElem_cons_zero, List.getElem_cons_succ, List.setIfInBounds_toArray, List.set_cons_zero, List.set_cons_succ]
            refine till_take (i := 15) (v := ?_) rfl (by kernel_rfl) (fun _ _ _ h => h) (Or.inl ⟨by rfl, ?_⟩) ⟨⟨u0,u1,u3,u4,u5,u6⟩,v0,v1,v3,v4,v5,v6⟩ ?_
            rotate_left
            · intro W hS
              try dsimp only at hS
              go_split_ands
              go_simp
              try with_reducible rfl
            try simp only [Act.put, List.getElem_toArray, List.getElem_cons_zero, List.getElem_cons_succ, List.setIfInBounds_toArray, List.set_cons_zero, List.set_cons_succ]
            refine till_take (i := 16) (v := ?_) rfl (by kernel_rfl) (fun _ _ _ h => h) (Or.inl ⟨by rfl, ?_⟩) ⟨⟨u0,u1,u3,u4,u5,u6⟩,v0,v1,v3,v4,v5,v6⟩ ?_
            rotate_left
            · intro W hS
              try dsimp only at hS
              go_split_ands
              go_simp
              try with_reducible rfl
            try simp only [Act.put, List.getElem_toArray, List.getElem_cons_zero, List.getElem_cons_succ, List.setIfInBounds_toArray, List.set_cons_zero, List.set_cons_succ]
            refine till_take (i := 17) (v := ?_) rfl (by kernel_rfl) (fun _ _ _ h => h) (Or.inl ⟨by rfl, ?_⟩) ⟨⟨u0,u1,u3,u4,u5,u6⟩,v0,v1,v3,v4,v5,v6⟩ ?_
            rotate_left
            · intro W hS
              try dsimp only at hS
              go_split_ands
              go_simp
              try with_reducible rfl
            try simp only [Act.put, List.getElem_toArray, List.getElem_cons_zero, List.getElem_cons_succ, List.setIfInBounds_toArray, List.set_cons_zero, List.set_cons_succ]
            refine till_take (i := 18) (v := ?_) rfl (by kernel_rfl) (fun _ _ _ h => h) (Or.inl ⟨by rfl, ?_⟩) ⟨⟨u0,u1,u3,u4,u5,u6⟩,v0,v1,v3,v4,v5,v6⟩ ?_
            rotate_left
            · intro W hS
              try dsimp only at hS
              go_split_ands
              go_simp
              try with_reducible rfl
            try simp only [Act.put, List.getElem_toArray, List.getElem_cons_zero, List.getElem_cons_succ, List.setIfInBounds_toArray, List.set_cons_zero, List.set_cons_succ]
            refine till_take (i := 19) (v := ?_) rfl (by kernel_rfl) (fun _ _ _ h => h) (Or.inl ⟨by rfl, ?_⟩) ⟨⟨u0,u1,u3,u4,u5,u6⟩,v0,v1,v3,v4,v5,v6⟩ ?_
            rotate_left
            · intro W hS
              try dsimp only at hS
              go_split_ands
              go_simp
              try with_reducible rfl
            try simp only [Act.put, List.getElem_toArray, List.getElem_cons_zero, List.getElem_cons_succ, List.setIfInBounds_toArray, List.set_cons_zero, List.set_cons_succ]
            refine till_take (i := 20) (v := ?_) rfl (by kernel_rfl) (fun _ _ _ h => h) (Or.inl ⟨by rfl, ?_⟩) ⟨⟨u0,u1,u3,u4,u5,u6⟩,v0,v1,v3,v4,v5,v6⟩ ?_
            rotate_left
            · intro W hS
              try dsimp only at hS
              go_split_ands
              go_simp
              try with_reducible rfl
            try simp only [Act.put, List.getElem_toArray, List.getElem_cons_zero, List.getElem_cons_succ, List.setIfInBounds_toArray, List.set_cons_zero, List.set_cons_succ]
            refine till_take (i := 21) (v := ?_) rfl (by kernel_rfl) (fun _ _ _ h => h) (Or.inl ⟨by rfl, ?_⟩) ⟨⟨u0,u1,u3,u4,u5,u6⟩,v0,v1,v3,v4,v5,v6⟩ ?_
            rotate_left
            · intro W hS
              try dsimp only at hS
              go_split_ands
              go_simp
              try with_reducible rfl
            try simp only [Act.put, List.getElem_toArray, List.getElem_cons_zero, List.getElem_cons_succ, List.setIfInBounds_toArray, List.set_cons_zero, List.set_cons_succ]
            refine till_take (i := 22) (v := ?_) rfl (by kernel_rfl) (fun _ _ _ h => h) (Or.inl ⟨by rfl, ?_⟩) ⟨⟨u0,u1,u3,u4,u5,u6⟩,v0,v1,v3,v4,v5,v6⟩ ?_
            rotate_left
            · intro W hS
              try dsimp only at hS
              go_split_ands
              go_simp
              try with_reducible rfl
            try simp only [Act.put, List.getElem_toArray, List.getElem_cons_zero, List.getElem_cons_succ, List.setIfInBounds_toArray, List.set_cons_zero, List.set_cons_succ]
            refine till_take (i := 23) (v := ?_) rfl (by kernel_rfl) (fun _ _ _ h => h) (Or.inl ⟨by rfl, ?_⟩) ⟨⟨u0,u1,u3,u4,u5,u6⟩,v0,v1,v3,v4,v5,v6⟩ ?_
            rotate_left
            · intro W hS
              try dsimp only at hS
              go_split_ands
              go_simp
              try with_reducible rfl
            try simp only [Act.put, List.getElem_toArray, List.getElem_cons_zero, List.getElem_cons_succ, List.setIfInBounds_toArray, List.set_cons_zero, List.set_cons_succ]
            refine till_take (i := 24) (v := ?_) rfl (by kernel_rfl) (fun _ _ _ h => h) (Or.inl ⟨by rfl, ?_⟩) ⟨⟨u0,u1,u3,u4,u5,u6⟩,v0,v1,v3,v4,v5,v6⟩ ?_
            rotate_left
            · intro W hS
              try dsimp only at hS
              go_split_ands
              go_simp
              try with_reducible rfl
            try simp only [Act.put, List.getElem_toArray, List.getElem_cons_zero, List.getElem_cons_succ, List.setIfInBounds_toArray, List.set_cons_zero, List.set_cons_succ]
            refine till_take (i := 25) (v := ?_) rfl (by kernel_rfl) (fun _ _ _ h => h) (Or.inl ⟨by rfl, ?_⟩) ⟨⟨u0,u1,u3,u4,u5,u6⟩,v0,v1,v3,v4,v5,v6⟩ ?_
            rotate_left
            · intro W hS
              try dsimp only at hS
              go_split_ands
              go_simp
              try with_reducible rfl
            try simp only [Act.put, List.getElem_toArray, List.getElem_cons_zero, List.getElem_cons_succ, List.setIfInBounds_toArray, List.set_cons_zero, List.set_cons_succ]
            refine till_take (i := 26) (v := ?_) rfl (by kernel_rfl) (fun _ _ _ h => h) (Or.inl ⟨by rfl, ?_⟩) ⟨⟨u0,u1,u3,u4,u5,u6⟩,v0,v1,v3,v4,v5,v6⟩ ?_
            rotate_left
            · intro W hS
              try dsimp only at hS
              go_split_ands
              go_simp
              try with_reducible rfl
            try simp only [Act.put, List.getElem_toArray, List.getElem_cons_zero, List.getElem_cons_succ, List.setIfInBounds_toArray, List.set_cons_zero, List.set_cons_succ]
            refine till_take (i := 27) (v := ?_) rfl (by kernel_rfl) (fun _ _ _ h => h) (Or.inl ⟨by rfl, ?_⟩) ⟨⟨u0,u1,u3,u4,u5,u6⟩,v0,v1,v3,v4,v5,v6⟩ ?_
            rotate_left
            · intro W hS
              try dsimp only at hS
              go_split_ands
              go_simp
              try with_reducible rfl
            try simp only [Act.put, List.getElem_toArray, List.getElem_cons_zero, List.getElem_cons_succ, List.setIfInBounds_toArray, List.set_cons_zero, List.set_cons_succ]
            refine till_take (i := 28) (v := ?_) rfl (by kernel_rfl) (fun _ _ _ h => h) (Or.inl ⟨by rfl, ?_⟩) ⟨⟨u0,u1,u3,u4,u5,u6⟩,v0,v1,v3,v4,v5,v6⟩ ?_
            rotate_left
            · intro W hS
              try dsimp only at hS
              go_split_ands
              go_simp
              try with_reducible rfl
            try simp only [Act.put, List.getElem_toArray, List.getElem_cons_zero, List.getElem_cons_succ, List.setIfInBounds_toArray, List.set_cons_zero, List.set_cons_succ]
            refine till_take (i := 29) (v := ?_) rfl (by kernel_rfl) (fun _ _ _ h => h) (Or.inl ⟨by rfl, ?_⟩) ⟨⟨u0,u1,u3,u4,u5,u6⟩,v0,v1,v3,v4,v5,v6⟩ ?_
            rotate_left
            · intro W hS
              try dsimp only at hS
              go_split_ands
              go_simp
              try with_reducible rfl
            try simp only [Act.put, List.getElem_toArray, List.getElem_cons_zero, List.getElem_cons_succ, List.setIfInBounds_toArray, List.set_cons_zero, List.set_cons_succ]
            refine till_take (i := 30) (v := ?_) rfl (by kernel_rfl) (fun _ _ _ h => h) (Or.inl ⟨by rfl, ?_⟩) ⟨⟨u0,u1,u3,u4,u5,u6⟩,v0,v1,v3,v4,v5,v6⟩ ?_
            rotate_left
            · intro W hS
              try dsimp only at hS
              go_split_ands
              go_simp
              try with_reducible rfl
            try simp only [Act.put, List.getElem_toArray, List.getElem_cons_zero, List.getElem_cons_succ, List.setIfInBounds_toArray, List.set_cons_zero, List.set_cons_succ]
            refine till_take (i := 31) (v := ?_) rfl (by kernel_rfl) (fun _ _ _ h => h) (Or.inl ⟨by rfl, ?_⟩) ⟨⟨u0,u1,u3,u4,u5,u6⟩,v0,v1,v3,v4,v5,v6⟩ ?_
            rotate_left
            · intro W hS
              try dsimp only at hS
              go_split_ands
              go_simp
              try with_reducible rfl
            try simp only [Act.put, List.getElem_toArray, List.getElem_cons_zero, List.getElem_cons_succ, List.setIfInBounds_toArray, List.set_cons_zero, List.set_cons_succ]
            refine till_take (i := 32) (v := ?_) rfl (by kernel_rfl) (fun _ _ _ h => h) (Or.inl ⟨by rfl, ?_⟩) ⟨⟨u0,u1,u3,u4,u5,u6⟩,v0,v1,v3,v4,v5,v6⟩ ?_
            rotate_left
            · intro W hS
              try dsimp only at hS
              go_split_ands
              go_simp
              try with_reducible rfl
            try simp only [Act.put, List.getElem_toArray, List.getElem_cons_zero, List.getElem_cons_succ, List.setIfInBounds_toArray, List.set_cons_zero, List.set_cons_succ]
            refine till_take (i := 33) (v := ?_) rfl (by kernel_rfl) (fun _ _ _ h => h) (Or.inl ⟨by rfl, ?_⟩) ⟨⟨u0,u1,u3,u4,u5,u6⟩,v0,v1,v3,v4,v5,v6⟩ ?_
            rotate_left
            · intro W hS
              try dsimp only at hS
              go_split_ands
              go_simp
              try with_reducible rfl
            try simp only [Act.put, List.getElem_toArray, List.getElem_cons_zero, List.getElem_cons_succ, List.setIfInBounds_toArray, List.set_cons_zero, List.set_cons_succ]
            refine till_take (i := 34) (v := ?_) rfl (by kernel_rfl) (fun _ _ _ h => h) (Or.inl ⟨by rfl, ?_⟩) ⟨⟨u0,u1,u3,u4,u5,u6⟩,v0,v1,v3,v4,v5,v6⟩ ?_
            rotate_left
            · intro W hS
              try dsimp only at hS
              go_split_ands
              go_simp
              try with_reducible rfl
            try simp only [Act.put, List.getElem_toArray, List.getElem_cons_zero, List.getElem_cons_succ, List.setIfInBounds_toArray, List.set_cons_zero, List.set_cons_succ]
            refine till_take (i := 35) (v := ?_) rfl (by kernel_rfl) (fun _ _ _ h => h) (Or.inl ⟨by rfl, ?_⟩) ⟨⟨u0,u1,u3,u4,u5,u6⟩,v0,v1,v3,v4,v5,v6⟩ ?_
            rotate_left
            · intro W hS
              try dsimp only at hS
              go_split_ands
              go_simp
              try with_reducible rfl
            try simp only [Act.put, List.getElem_toArray, List.getElem_cons_zero, List.getElem_cons_succ, List.setIfInBounds_toArray, List.set_cons_zero, List.set_cons_succ]
            refine till_last (by kernel_rfl) rfl (by kernel_rfl) (fun K' hK => ?_)
            go_simp
            (with_reducible refine HSM.out.mono ?_)
            rintro y w4 ⟨rfl, b4⟩
            have bq : Below w3.heap.size w3 w4 := (Below.refl w3.heap.size w3).drew.trans b4
            have HB4 := Lib.hid (HB.out.trans (bq.mono HB.out.size))
            refine hK _ _ ?_
            clear hK K' b4 bq
            try simp only [Act.put, List.getElem_toArray, List.getElem_cons_zero, List.getElem_cons_succ, List.setIfInBounds_toArray, List.set_cons_zero, List.set_cons_succ]
            refine any_take (i := 37) (v := ?_) rfl (by kernel_rfl) (fun _ _ _ h => h) (Or.inl ⟨by rfl, ?_⟩) ?_
            rotate_left
            · intro W
              go_simp
              try with_reducible rfl
            try simp only [Act.put, List.getElem_toArray, List.getElem_cons_zero, List.getElem_cons_succ, List.setIfInBounds_toArray, List.set_cons_zero, List.set_cons_succ]
            refine any_take (i := 38) (v := ?_) rfl (by kernel_rfl) (fun _ _ _ h => h) (Or.inl ⟨by rfl, ?_⟩) ?_
            rotate_left
            · intro W
              go_simp
              try with_reducible rfl
            try simp only [Act.put, List.getElem_toArray, List.getElem_cons_zero, List.getElem_cons_succ, List.setIfInBounds_toArray, List.set_cons_zero, List.set_cons_succ]
            refine wpAny_done (by kernel_rfl) ?_ _
            clear u0 u1 u3 u4 u5 u6 v0 v1 v3 v4 v5 v6
            go_wp2_with fail
            go_roundw
            case rel => exact ⟨j + 1, by go_num, by have := HLT.out; omega, HB4.out⟩
            case measure => simp [intOf]; have := HLT.out; omega
          · rw [Bool.not_true] at v1
            clear hd9
            go_upto_region 11 with (fail)
            refine wp_region_till (S := fun W => (W.cell? ⟨b, o + j * 7, none⟩ = some (.int .i64 pf) ∧ W.cell? ⟨b, o + j * 7 + 1, none⟩ = some (.bool true) ∧ W.cell? ⟨b, o + j * 7 + 3, none⟩ = some (.int .i64 op) ∧ W.cell? ⟨b, o + j * 7 + 4, none⟩ = some (.string nm) ∧ W.cell? ⟨b, o + j * 7 + 5, none⟩ = some (.slice xa xl xc) ∧ W.cell? ⟨b, o + j * 7 + 6, none⟩ = some (.slice ta tl tc)) ∧
              (W.cell? ⟨b', o' + j * 7, none⟩ = some (.int .i64 qf) ∧ W.cell? ⟨b', o' + j * 7 + 1, none⟩ = some (.bool false) ∧ W.cell? ⟨b', o' + j * 7 + 3, none⟩ = some (.int .i64 op') ∧ W.cell? ⟨b', o' + j * 7 + 4, none⟩ = some (.string nm') ∧ W.cell? ⟨b', o' + j * 7 + 5, none⟩ = some (.slice xa' xl' xc') ∧ W.cell? ⟨b', o' + j * 7 + 6, none⟩ = some (.slice ta' tl' tc'))) 36 (by kernel_rfl) ?_
            refine till_take (i := 0) (v := ?_) rfl (by kernel_rfl) (fun _ _ _ h => h) (Or.inl ⟨by rfl, ?_⟩) ⟨⟨u0,u1,u3,u4,u5,u6⟩,v0,v1,v3,v4,v5,v6⟩ ?_
            rotate_left
            · intro W hS
              try dsimp only at hS
              go_split_ands
              go_simp
              try with_reducible rfl
            try simp only [Act.put, List.getElem_toArray, List.getElem_cons_zero, List.getElem_cons_succ, List.setIfInBounds_toArray, List.set_cons_zero, List.set_cons_succ]
            refine till_take (i := 1) (v := ?_) rfl (by kernel_rfl) (fun _ _ _ h => h) (Or.inl ⟨by rfl, ?_⟩) ⟨⟨u0,u1,u3,u4,u5,u6⟩,v0,v1,v3,v4,v5,v6⟩ ?_
            rotate_left
            · intro W hS
              try dsimp only at hS
              go_split_ands
              go_simp
              try with_reducible rfl
            try simp only [Act.put, List.getElem_toArray, List.getElem_cons_zero, List.getElem_cons_succ, List.setIfInBounds_toArray, List.set_cons_zero, List.set_cons_succ]
            refine till_take (i := 2) (v := ?_) rfl (by kernel_rfl) (fun _ _ _ h => h) (Or.inl ⟨by rfl, ?_⟩) ⟨⟨u0,u1,u3,u4,u5,u6⟩,v0,v1,v3,v4,v5,v6⟩ ?_
            rotate_left
            · intro W hS
              try dsimp only at hS
              go_split_ands
              go_simp
              try with_reducible rfl
            try simp only [Act.put, List.getElem_toArray, List.getElem_cons_zero, List.getElem_cons_succ, List.setIfInBounds_toArray, List.set_cons_zero, List.set_cons_succ]
            refine till_take (i := 3) (v := ?_) rfl (by kernel_rfl) (fun _ _ _ h => h) (Or.inl ⟨by rfl, ?_⟩) ⟨⟨u0,u1,u3,u4,u5,u6⟩,v0,v1,v3,v4,v5,v6⟩ ?_
            rotate_left
            · intro W hS
              try dsimp only at hS
              go_split_ands
              go_simp
              try with_reducible rfl
            try simp only [Act.put, List.getElem_toArray, List.getElem_cons_zero, List.getElem_cons_succ, List.setIfInBounds_toArray, List.set_cons_zero, List.set_cons_succ]
            refine till_take (i := 4) (v := ?_) rfl (by kernel_rfl) (fun _ _ _ h => h) (Or.inl ⟨by rfl, ?_⟩) ⟨⟨u0,u1,u3,u4,u5,u6⟩,v0,v1,v3,v4,v5,v6⟩ ?_
            rotate_left
            · intro W hS
              try dsimp only at hS
              go_split_ands
              go_simp
              try with_reducible rfl
            try simp only [Act.put, List.getElem_toArray, List.getElem_cons_zero, List.getElem_cons_succ, List.setIfInBounds_toArray, List.set_cons_zero, List.set_cons_succ]
            refine till_take (i := 5) (v := ?_) rfl (by kernel_rfl) (fun _ _ _ h => h) (Or.inl ⟨by rfl, ?_⟩) ⟨⟨u0,u1,u3,u4,u5,u6⟩,v0,v1,v3,v4,v5,v6⟩ ?_
            rotate_left
            · intro W hS
              try dsimp only at hS
              go_split_ands
              go_simp
              try with_reducible rfl
            try simp only [Act.put, List.getElem_toArray, List.getElem_cons_zero, List.getElem_cons_succ, List.setIfInBounds_toArray, List.set_cons_zero, List.set_cons_succ]
            refine till_take (i := 6) (v := ?_) rfl (by kernel_rfl) (fun _ _ _ h => h) (Or.inl ⟨by rfl, ?_⟩) ⟨⟨u0,u1,u3,u4,u5,u6⟩,v0,v1,v3,v4,v5,v6⟩ ?_
            rotate_left
            · intro W hS
              try dsimp only at hS
              go_split_ands
              go_simp
              try with_reducible rfl
            try simp only [Act.put, List.getElem_toArray, List.getElem_cons_zero, List.getElem_cons_succ, List.setIfInBounds_toArray, List.set_cons_zero, List.set_cons_succ]
            refine till_take (i := 7) (v := ?_) rfl (by kernel_rfl) (fun _ _ _ h => h) (Or.inl ⟨by rfl, ?_⟩) ⟨⟨u0,u1,u3,u4,u5,u6⟩,v0,v1,v3,v4,v5,v6⟩ ?_
            rotate_left
            · intro W hS
              try dsimp only at hS
              go_split_ands
              go_simp
              try with_reducible rfl
            try simp only [Act.put, List.getElem_toArray, List.getElem_cons_zero, List.getElem_cons_succ, List.setIfInBounds_toArray, List.set_cons_zero, List.set_cons_succ]
            refine till_take (i := 8) (v := ?_) rfl (by kernel_rfl) (fun _ _ _ h => h) (Or.inl ⟨by rfl, ?_⟩) ⟨⟨u0,u1,u3,u4,u5,u6⟩,v0,v1,v3,v4,v5,v6⟩ ?_
            rotate_left
            · intro W hS
              try dsimp only at hS
              go_split_ands
              go_simp
              try with_reducible rfl
            try simp only [Act.put, List.getElem_toArray, List.getElem_cons_zero, List.getElem_cons_succ, List.setIfInBounds_toArray, List.set_cons_zero, List.set_cons_succ]
            refine till_take (i := 9) (v := ?_) rfl (by kernel_rfl) (fun _ _ _ h => h) (Or.inl ⟨by rfl, ?_⟩) ⟨⟨u0,u1,u3,u4,u5,u6⟩,v0,v1,v3,v4,v5,v6⟩ ?_
            rotate_left
            · intro W hS
              try dsimp only at hS
              go_split_ands
              go_simp
              try with_reducible rfl
            try simp only [Act.put, List.getElem_toArray, List.getElem_cons_zero, List.getElem_cons_succ, List.setIfInBounds_toArray, List.set_cons_zero, List.set_cons_succ]
            refine till_take (i := 10) (v := ?_) rfl (by kernel_rfl) (fun _ _ _ h => h) (Or.inl ⟨by rfl, ?_⟩) ⟨⟨u0,u1,u3,u4,u5,u6⟩,v0,v1,v3,v4,v5,v6⟩ ?_
            rotate_left
            · intro W hS
              try dsimp only at hS
              go_split_ands
              go_simp
              try with_reducible rfl
            try simp only [Act.put, List.getElem_toArray, List.getElem_cons_zero, List.getElem_cons_succ, List.setIfInBounds_toArray, List.set_cons_zero, List.set_cons_succ]
            refine till_take (i := 11) (v := ?_) rfl (by kernel_rfl) (fun _ _ _ h => h) (Or.inl ⟨by rfl, ?_⟩) ⟨⟨u0,u1,u3,u4,u5,u6⟩,v0,v1,v3,v4,v5,v6⟩ ?_
            rotate_left
            · intro W hS
              try dsimp only at hS
              go_split_ands
              go_simp
              try with_reducible rfl
            try simp only [Act.put, List.getElem_toArray, List.getElem_cons_zero, List.getElem_cons_succ, List.setIfInBounds_toArray, List.set_cons_zero, List.set_cons_succ]
            refine till_take (i := 12) (v := ?_) rfl (by kernel_rfl) (fun _ _ _ h => h) (Or.inl ⟨by rfl, ?_⟩) ⟨⟨u0,u1,u3,u4,u5,u6⟩,v0,v1,v3,v4,v5,v6⟩ ?_
            rotate_left
            · intro W hS
              try dsimp only at hS
              go_split_ands
              go_simp
              try with_reducible rfl
            try simp only [Act.put, List.getElem_toArray, List.getElem_cons_zero, List.getElem_cons_succ, List.setIfInBounds_toArray, List.set_cons_zero, List.set_cons_succ]
            refine till_take (i := 13) (v := ?_) rfl (by kernel_rfl) (fun _ _ _ h => h) (Or.inl ⟨by rfl, ?_⟩) ⟨⟨u0,u1,u3,u4,u5,u6⟩,v0,v1,v3,v4,v5,v6⟩ ?_
            rotate_left
            · intro W hS
              try dsimp only at hS
              go_split_ands
              go_simp
              try with_reducible rfl
            try simp only [Act.put, List.getElem_toArray, List.getElem_cons_zero, List.getElem_cons_succ, List.setIfInBounds_toArray, List.set_cons_zero, List.set_cons_succ]
            refine till_take (i := 14) (v := ?_) rfl (by kernel_rfl) (fun _ _ _ h => h) (Or.inl ⟨by rfl, ?_⟩) ⟨⟨u0,u1,u3,u4,u5,u6⟩,v0,v1,v3,v4,v5,v6⟩ ?_
            rotate_left
            · intro W hS
              try dsimp only at hS
              go_split_ands
              go_simp
              try with_reducible rfl
            try simp only [Act.put, List.getElem_toArray, List.getElem_cons_zero, List.getElem_cons_succ, List.setIfInBounds_toArray, List.set_cons_zero, List.set_cons_succ]
            refine till_take (i := 15) (v := ?_) rfl (by kernel_rfl) (fun _ _ _ h => h) (Or.inl ⟨by rfl, ?_⟩) ⟨⟨u0,u1,u3,u4,u5,u6⟩,v0,v1,v3,v4,v5,v6⟩ ?_
            rotate_left
            · intro W hS
              try dsimp only at hS
              go_split_ands
              go_simp
              try with_reducible rfl
            try simp only [Act.put, List.getElem_toArray, List.getElem_cons_zero, List.getElem_cons_succ, List.setIfInBounds_toArray, List.set_cons_zero, List.set_cons_succ]
            refine till_take (i := 16) (v := ?_) rfl (by kernel_rfl) (fun _ _ _ h => h) (Or.inl ⟨by rfl, ?_⟩) ⟨⟨u0,u1,u3,u4,u5,u6⟩,v0,v1,v3,v4,v5,v6⟩ ?_
            rotate_left
            · intro W hS
              try dsimp only at hS
              go_split_ands
              go_simp
              try with_reducible rfl
            try simp only [Act.put, List.getElem_toArray, List.getElem_cons_zero, List.getElem_cons_succ, List.setIfInBounds_toArray, List.set_cons_zero, List.set_cons_succ]
            refine till_take (i := 17) (v := ?_) rfl (by kernel_rfl) (fun _ _ _ h => h) (Or.inl ⟨by rfl, ?_⟩) ⟨⟨u0,u1,u3,u4,u5,u6⟩,v0,v1,v3,v4,v5,v6⟩ ?_
            rotate_left
            · intro W hS
              try dsimp only at hS
              go_split_ands
              go_simp
              try with_reducible rfl
            try simp only [Act.put, List.getElem_toArray, List.getElem_cons_zero, List.getElem_cons_succ, List.setIfInBounds_toArray, List.set_cons_zero, List.set_cons_succ]
            refine till_take (i := 18) (v := ?_) rfl (by kernel_rfl) (fun _ _ _ h => h) (Or.inl ⟨by rfl, ?_⟩) ⟨⟨u0,u1,u3,u4,u5,u6⟩,v0,v1,v3,v4,v5,v6⟩ ?_
            rotate_left
            · intro W hS
              try dsimp only at hS
              go_split_ands
              go_simp
              try with_reducible rfl
            try simp only [Act.put, List.getElem_toArray, List.getElem_cons_zero, List.getElem_cons_succ, List.setIfInBounds_toArray, List.set_cons_zero, List.set_cons_succ]
            refine till_take (i := 19) (v := ?_) rfl (by kernel_rfl) (fun _ _ _ h => h) (Or.inl ⟨by rfl, ?_⟩) ⟨⟨u0,u1,u3,u4,u5,u6⟩,v0,v1,v3,v4,v5,v6⟩ ?_
            rotate_left
            · intro W hS
              try dsimp only at hS
              go_split_ands
              go_simp
              try with_reducible rfl
            try simp only [Act.put, List.getElem_toArray, List.getElem_cons_zero, List.getElem_cons_succ, List.setIfInBounds_toArray, List.set_cons_zero, List.set_cons_succ]
            refine till_take (i := 20) (v := ?_) rfl (by kernel_rfl) (fun _ _ _ h => h) (Or.inl ⟨by rfl, ?_⟩) ⟨⟨u0,u1,u3,u4,u5,u6⟩,v0,v1,v3,v4,v5,v6⟩ ?_
            rotate_left
            · intro W hS
              try dsimp only at hS
              go_split_ands
              go_simp
              try with_reducible rfl
            try simp only [Act.put, List.getElem_toArray, List.getElem_cons_zero, List.getElem_cons_succ, List.setIfInBounds_toArray, List.set_cons_zero, List.set_cons_succ]
            refine till_take (i := 21) (v := ?_) rfl (by kernel_rfl) (fun _ _ _ h => h) (Or.inl ⟨by rfl, ?_⟩) ⟨⟨u0,u1,u3,u4,u5,u6⟩,v0,v1,v3,v4,v5,v6⟩ ?_
            rotate_left
            · intro W hS
              try dsimp only at hS
              go_split_ands
              go_simp
              try with_reducible rfl
            try simp only [Act.put, List.getElem_toArray, List.getElem_cons_zero, List.getElem_cons_succ, List.setIfInBounds_toArray, List.set_cons_zero, List.set_cons_succ]
            refine till_take (i := 22) (v := ?_) rfl (by kernel_rfl) (fun _ _ _ h => h) (Or.inl ⟨by rfl, ?_⟩) ⟨⟨u0,u1,u3,u4,u5,u6⟩,v0,v1,v3,v4,v5,v6⟩ ?_
            rotate_left
            · intro W hS
              try dsimp only at hS
              go_split_ands
              go_simp
              try with_reducible rfl
            try simp only [Act.put, List.getElem_toArray, List.getElem_cons_zero, List.getElem_cons_succ, List.setIfInBounds_toArray, List.set_cons_zero, List.set_cons_succ]
            refine till_take (i := 23) (v := ?_) rfl (by kernel_rfl) (fun _ _ _ h => h) (Or.inl ⟨by rfl, ?_⟩) ⟨⟨u0,u1,u3,u4,u5,u6⟩,v0,v1,v3,v4,v5,v6⟩ ?_
            rotate_left
            · intro W hS
              try dsimp only at hS
              go_split_ands
              go_simp
              try with_reducible rfl
            try simp only [Act.put, List.getElem_toArray, List.getElem_cons_zero, List.getElem_cons_succ, List.setIfInBounds_toArray, List.set_cons_zero, List.set_cons_succ]
            refine till_take (i := 24) (v := ?_) rfl (by kernel_rfl) (fun _ _ _ h => h) (Or.inl ⟨by rfl, ?_⟩) ⟨⟨u0,u1,u3,u4,u5,u6⟩,v0,v1,v3,v4,v5,v6⟩ ?_
            rotate_left
            · intro W hS
              try dsimp only at hS
              go_split_ands
              go_simp
              try with_reducible rfl
            try simp only [Act.put, List.getElem_toArray, List.getElem_cons_zero, List.getElem_cons_succ, List.setIfInBounds_toArray, List.set_cons_zero, List.set_cons_succ]
            refine till_take (i := 25) (v := ?_) rfl (by kernel_rfl) (fun _ _ _ h => h) (Or.inl ⟨by rfl, ?_⟩) ⟨⟨u0,u1,u3,u4,u5,u6⟩,v0,v1,v3,v4,v5,v6⟩ ?_
            rotate_left
            · intro W hS
              try dsimp only at hS
              go_split_ands
              go_simp
              try with_reducible rfl
            try simp only [Act.put, List.getElem_toArray, List.getElem_cons_zero, List.getElem_cons_succ, List.setIfInBounds_toArray, List.set_cons_zero, List.set_cons_succ]
            refine till_take (i := 26) (v := ?_) rfl (by kernel_rfl) (fun _ _ _ h => h) (Or.inl ⟨by rfl, ?_⟩) ⟨⟨u0,u1,u3,u4,u5,u6⟩,v0,v1,v3,v4,v5,v6⟩ ?_
            rotate_left
            · intro W hS
              try dsimp only at hS
              go_split_ands
              go_simp
              try with_reducible rfl
            try simp only [Act.put, List.getElem_toArray, List.getElem_cons_zero, List.getElem_cons_succ, List.setIfInBounds_toArray, List.set_cons_zero, List.set_cons_succ]
            refine till_take (i := 27) (v := ?_) rfl (by kernel_rfl) (fun _ _ _ h => h) (Or.inl ⟨by rfl, ?_⟩) ⟨⟨u0,u1,u3,u4,u5,u6⟩,v0,v1,v3,v4,v5,v6⟩ ?_
            rotate_left
            · intro W hS
              try dsimp only at hS
              go_split_ands
              go_simp
              try with_reducible rfl
            try simp only [Act.put, List.getElem_toArray, List.getElem_cons_zero, List.getElem_cons_succ, List.setIfInBounds_toArray, List.set_cons_zero, List.set_cons_succ]
            refine till_take (i := 28) (v := ?_) rfl (by kernel_rfl) (fun _ _ _ h => h) (Or.inl ⟨by rfl, ?_⟩) ⟨⟨u0,u1,u3,u4,u5,u6⟩,v0,v1,v3,v4,v5,v6⟩ ?_
            rotate_left
            · intro W hS
              try dsimp only at hS
              go_split_ands
              go_simp
              try with_reducible rfl
            try simp only [Act.put, List.getElem_toArray, List.getElem_cons_zero, List.getElem_cons_succ, List.setIfInBounds_toArray, List.set_cons_zero, List.set_cons_succ]
            refine till_take (i := 29) (v := ?_) rfl (by kernel_rfl) (fun _ _ _ h => h) (Or.inl ⟨by rfl, ?_⟩) ⟨⟨u0,u1,u3,u4,u5,u6⟩,v0,v1,v3,v4,v5,v6⟩ ?_
            rotate_left
            · intro W hS
              try dsimp only at hS
              go_split_ands
              go_simp
              try with_reducible rfl
            try simp only [Act.put, List.getElem_toArray, List.getElem_cons_zero, List.getElem_cons_succ, List.setIfInBounds_toArray, List.set_cons_zero, List.set_cons_succ]
            refine till_take (i := 30) (v := ?_) rfl (by kernel_rfl) (fun _ _ _ h => h) (Or.inl ⟨by rfl, ?_⟩) ⟨⟨u0,u1,u3,u4,u5,u6⟩,v0,v1,v3,v4,v5,v6⟩ ?_
            rotate_left
            · intro W hS
              try dsimp only at hS
              go_split_ands
              go_simp
              try with_reducible rfl
            try simp only [Act.put, List.getElem_toArray, List.getElem_cons_zero, List.getElem_cons_succ, List.setIfInBounds_toArray, List.set_cons_zero, List.set_cons_succ]
            refine till_take (i := 31) (v := ?_) rfl (by kernel_rfl) (fun _ _ _ h => h) (Or.inl ⟨by rfl, ?_⟩) ⟨⟨u0,u1,u3,u4,u5,u6⟩,v0,v1,v3,v4,v5,v6⟩ ?_
            rotate_left
            · intro W hS
              try dsimp only at hS
              go_split_ands
              go_simp
              try with_reducible rfl
            try simp only [Act.put, List.getElem_toArray, List.getElem_cons_zero, List.getElem_cons_succ, List.setIfInBounds_toArray, List.set_cons_zero, List.set_cons_succ]
            refine till_take (i := 32) (v := ?_) rfl (by kernel_rfl) (fun _ _ _ h => h) (Or.inl ⟨by rfl, ?_⟩) ⟨⟨u0,u1,u3,u4,u5,u6⟩,v0,v1,v3,v4,v5,v6⟩ ?_
            rotate_left
            · intro W hS
              try dsimp only at hS
              go_split_ands
              go_simp
              try with_reducible rfl
            try simp only [Act.put, List.getElem_toArray, List.getElem_cons_zero, List.getElem_cons_succ, List.setIfInBounds_toArray, List.set_cons_zero, List.set_cons_succ]
            refine till_take (i := 33) (v := ?_) rfl (by kernel_rfl) (fun _ _ _ h => h) (Or.inl ⟨by rfl, ?_⟩) ⟨⟨u0,u1,u3,u4,u5,u6⟩,v0,v1,v3,v4,v5,v6⟩ ?_
            rotate_left
            · intro W hS
              try dsimp only at hS
              go_split_ands
              go_simp
              try with_reducible rfl
            try simp only [Act.put, List.getElem_toArray, List.getElem_cons_zero, List.getElem_cons_succ, List.setIfInBounds_toArray, List.set_cons_zero, List.set_cons_succ]
            refine till_take (i := 34) (v := ?_) rfl (by kernel_rfl) (fun _ _ _ h => h) (Or.inl ⟨by rfl, ?_⟩) ⟨⟨u0,u1,u3,u4,u5,u6⟩,v0,v1,v3,v4,v5,v6⟩ ?_
            rotate_left
            · intro W hS
              try dsimp only at hS
              go_split_ands
              go_simp
              try with_reducible rfl
            try simp only [Act.put, List.getElem_toArray, List.getElem_cons_zero, List.getElem_cons_succ, List.setIfInBounds_toArray, List.set_cons_zero, List.set_cons_succ]
            refine till_take (i := 35) (v := ?_) rfl (by kernel_rfl) (fun _ _ _ h => h) (Or.inl ⟨by rfl, ?_⟩) ⟨⟨u0,u1,u3,u4,u5,u6⟩,v0,v1,v3,v4,v5,v6⟩ ?_
            rotate_left
            · intro W hS
              try dsimp only at hS
              go_split_ands
              go_simp
              try with_reducible rfl
            try simp only [Act.put, List.getElem_toArray, List.getElem_cons_zero, List.getElem_cons_succ, List.setIfInBounds_toArray, List.set_cons_zero, List.set_cons_succ]
            refine till_last (by kernel_rfl) rfl (by kernel_rfl) (fun K' hK => ?_)
            go_simp
            (with_reducible refine HSM.out.mono ?_)
            rintro y w4 ⟨rfl, b4⟩
            have bq : Below w3.heap.size w3 w4 := (Below.refl w3.heap.size w3).drew.trans b4
            have HB4 := Lib.hid (HB.out.trans (bq.mono HB.out.size))
            refine hK _ _ ?_
            clear hK K' b4 bq
            try simp only [Act.put, List.getElem_toArray, List.getElem_cons_zero, List.getElem_cons_succ, List.setIfInBounds_toArray, List.set_cons_zero, List.set_cons_succ]
            refine any_take (i := 37) (v := ?_) rfl (by kernel_rfl) (fun _ _ _ h => h) (Or.inl ⟨by rfl, ?_⟩) ?_
            rotate_left
            · intro W
              go_simp
              try with_reducible rfl
            try simp only [Act.put, List.getElem_toArray, List.getElem_cons_zero, List.getElem_cons_succ, List.setIfInBounds_toArray, List.set_cons_zero, List.set_cons_succ]
            refine any_take (i := 38) (v := ?_) rfl (by kernel_rfl) (fun _ _ _ h => h) (Or.inl ⟨by rfl, ?_⟩) ?_
            rotate_left
            · intro W
              go_simp
              try with_reducible rfl
            try simp only [Act.put, List.getElem_toArray, List.getElem_cons_zero, List.getElem_cons_succ, List.setIfInBounds_toArray, List.set_cons_zero, List.set_cons_succ]
            refine wpAny_done (by kernel_rfl) ?_ _
            clear u0 u1 u3 u4 u5 u6 v0 v1 v3 v4 v5 v6
            go_wp2_with fail
            go_roundw
            case rel => exact ⟨j + 1, by go_num, by have := HLT.out; omega, HB4.out⟩
            case measure => simp [intOf]; have := HLT.out; omega
        · have hlt' : ¬ (j : Int) < (n : Int) := by omega
          obtain rfl : j = n := by omega
          clear hlt
          go_wp2_with fail
          go_ret
          exact ⟨rfl, HB.out⟩
end Go.Proofs.Ytmiinmndbkdjbaa

/- The contract of law23.env: what is seen, as the program has it. -/
namespace Go.Proofs.Ytmiinmndbkdjbaa
set_option linter.unusedVariables false
set_option linter.unusedSimpArgs false
open Go.RowKit
theorem infoF : (Try.prog.info? 74).map (fun i => (i.zero, i.size, i.bytes)) = some (some (.agg #[.string ⟨#[]⟩, .int .i64 0, .int .i64 0]), 3, 32) := by kernel_rfl
def famV (h : Nat) (day : Int) (a : Option Addr) (len cap : Nat) (fs : List Fx) (vA : Value) : List Ob :=
  [gr fxK 74 h fs vA, bx (h + 1 + 1) 44 #[.int .i64 day, vA], bx (h + 1) 44 #[.int .i64 0, .slice none 0 0], bx h 26 #[.int .i64 day, .slice a len cap]]
structure EnvJ (w wr : World) (day : Int) (a : Option Addr) (len cap : Nat) (fs : List Fx) (vA : Value) : Prop where
  below : Below w.heap.size w wr
  sep : Sep wr (famV w.heap.size day a len cap fs vA)
section
variable {w wr wr' : World} {day : Int} {a : Option Addr} {len cap : Nat} {fs : List Fx} {vA : Value}
theorem EnvJ.up (h : EnvJ w wr day a len cap fs vA) (hb : Below wr.heap.size wr wr') : EnvJ w wr' day a len cap fs vA := ⟨h.below.trans (hb.mono h.below.size), h.sep.below hb⟩
theorem EnvJ.push {w1 : World} {csl : List (List Value)} {v' : Value} {x : Fx} {c : List Value} (h : EnvJ w wr day a len cap fs vA)
    (hG : Grow fxK 74 w.heap.size wr (others (famV w.heap.size day a len cap fs vA) 0) fs vA csl)
    (hR : fxK.R wr (owns (famV w.heap.size day a len cap fs vA)) x c)
    (ho : w1.ownsRow w.heap.size 74 3 v' (fs.length + 1) (csl.flatten ++ c)) (hg : wr.grownBy w1 vA.ownBlock) (hv : v'.ownBlock = vA.ownBlock ∨ v'.ownBlock = some wr.heap.size) :
    (w1.cell? ⟨w.heap.size + 1 + 1, 1, none⟩ = some vA ∧ w1.frozen? ⟨w.heap.size + 1 + 1, 1, none⟩ = false) ∧ EnvJ w (w1.setCell ⟨w.heap.size + 1 + 1, 1, none⟩ v') day a len cap (fs ++ [x]) v' := by
  have h1 := h.sep.push 0 rfl hG (x := x) (c := c) hR ho hg hv
  have h2 := h1.store 1 rfl 1 v'
  exact ⟨⟨(h1.blk 1 rfl).cell 1, (h1.blk 1 rfl).frozen 1⟩, (h.below.grown hg h.below.size (fun b hb => (hG.blt hb).1)).setCell (by show w.heap.size ≤ w.heap.size + 1 + 1; omega) _, h2⟩
/-- What was copied, stored where the answer lies. -/
theorem EnvJ.fin {aA : Option Addr} {cA : Nat} (h : EnvJ w wr day a len cap fs (.slice aA fs.length cA)) :
    SlR fxK ((wr.setCell ⟨w.heap.size + 1, 0, none⟩ (.int .i64 day)).setCell ⟨w.heap.size + 1, 1, none⟩ (.slice aA fs.length cA)) [] fs aA fs.length cA ∧
    Below w.heap.size w ((wr.setCell ⟨w.heap.size + 1, 0, none⟩ (.int .i64 day)).setCell ⟨w.heap.size + 1, 1, none⟩ (.slice aA fs.length cA)) ∧
    Mem.Blk ((wr.setCell ⟨w.heap.size + 1, 0, none⟩ (.int .i64 day)).setCell ⟨w.heap.size + 1, 1, none⟩ (.slice aA fs.length cA)) (w.heap.size + 1) 44 #[.int .i64 day, .slice aA fs.length cA] := by
  have h1 := (h.sep.store 2 rfl 0 (.int .i64 day)).store 2 rfl 1 (.slice aA fs.length cA)
  obtain ⟨a', c', e, hS⟩ := h1.still 0 rfl
  injection e with e1 e2 e3; subst e1; subst e3
  have hl : w.heap.size ≤ w.heap.size + 1 := by omega
  exact ⟨hS.free, (h.below.setCell hl _).setCell hl _, h1.blk 2 rfl⟩
end
theorem EnvJ.start {w : World} {day : Int} {a : Option Addr} {len cap : Nat} : EnvJ w (((w.alloc (.cells #[.int .i64 day, .slice a len cap] 26)).alloc (.cells #[.int .i64 0, .slice none 0 0] 44)).alloc (.cells #[.int .i64 day, .slice none 0 0] 44)) day a len cap [] (.slice none 0 0) := by
  have h1 := (((Sep.nil w).new 26 #[.int .i64 day, .slice a len cap]).new 44 #[.int .i64 0, .slice none 0 0]).new 44 #[.int .i64 day, .slice none 0 0]
  have e1 : (w.alloc (.cells #[.int .i64 day, .slice a len cap] 26)).heap.size = w.heap.size + 1 := by simp
  have e2 : ((w.alloc (.cells #[.int .i64 day, .slice a len cap] 26)).alloc (.cells #[.int .i64 0, .slice none 0 0] 44)).heap.size = w.heap.size + 1 + 1 := by simp
  rw [e1, e2] at h1
  exact ⟨(((Below.refl _ w).alloc (Nat.le_refl _) _).alloc (by simp) _).alloc (by simp; omega) _, h1.addGr fxK 74 (by simp; omega)⟩
/-- What is seen, answered. -/
def RetVs (w : World) (day : Int) (fs : List Fx) (x : Ending) : Prop := ∃ a cap, x = .returned (.agg #[.int .i64 day, .slice a fs.length cap]) ∧ SlR fxK w [] fs a fs.length cap
set_option maxRecDepth 100000 in
set_option maxHeartbeats 2000000 in
theorem env_any (day : Int) (fx : List Fx) (a : Option Addr) (len cap : Nat) (w : World) (hS : SlR fxK w [] fx a len cap) (h2 : len ≤ 200) :
    Calls Try.prog 10 #[.agg #[.int .i64 day, .slice a len cap]] w fun x w' => RetVs w' day fx x ∧ Below w.heap.size w w' := by
  obtain ⟨f1, f2, f3⟩ := hS.facts
  have HL := Lib.hid f1
  have HSS := Lib.hid hS
  have HR0 := Lib.hid (EnvJ.start (w := w) (day := day) (a := a) (len := len) (cap := cap))
  clear hS f1
  go_enter Try.func10, Try.ntmps10
  go_upto_region 2 with (fail)
  generalize ((w.alloc (.cells #[.int .i64 day, .slice a len cap] 26)).alloc (.cells #[.int .i64 0, .slice none 0 0] 44)).alloc (.cells #[.int .i64 day, .slice none 0 0] 44) = v at *
  go_wp2_with fail
  go_loopw [4] (fun i wr => ∃ (k : Nat) (vA : Value), i = .int .i64 (k : Nat) ∧ k ≤ len ∧ Hid (EnvJ w wr day a len cap (fx.take k) vA)) (fun i _ => len - (intOf i).toNat)
  case atStart => exact ⟨0, _, rfl, Nat.zero_le _, HR0.out⟩
  case round =>
    clear HR0
    obtain ⟨k, vA, rfl, hk, HR⟩ := hrel
    obtain ⟨e0, e1, -, -⟩ := (HR.out.sep.blk 3 rfl).two
    have hlk : (fx.take k).length = k := by rw [List.length_take, HL.out]; omega
    have HLK := Lib.hid hlk
    by_cases hlt : k < len
    · have j1' : (k : Int) < (len : Int) := by omega
      obtain ⟨b, o, f, rfl, -, -, hxe, hsz, q1, q2, u0, u1, u2⟩ := fx_at (HSS.out.kept (Kept.of_below HR.out.below [])) k hlt
      have HTK : Hid (fx.take (k + 1) = fx.take k ++ [f]) := by
        show fx.take (k + 1) = _
        obtain ⟨hk', he⟩ := List.getElem?_eq_some_iff.1 hxe
        rw [← he]; exact (List.take_append_getElem hk').symm
      have HFX : Hid (f.name.size ≤ 9223372036854775807 ∧ I64 f.day ∧ I64 f.val) := ⟨hsz, q1, q2⟩
      clear hxe hlk hsz q1 q2
      have d1 : wr.cell? ⟨w.heap.size + 1 + 1, 1, none⟩ = some vA := (HR.out.sep.blk 1 rfl).cell 1
      generalize fx.take k = FS at *
      go_wp2_with fail
      refine wp_region_till (S := fun W => W.cell? ⟨w.heap.size + 1 + 1, 1, none⟩ = some vA ∧ W.cell? ⟨w.heap.size, 1, none⟩ = some (.slice (some ⟨b, o, none⟩) len cap) ∧ W.cell? ⟨b, o + k * 3, none⟩ = some (.string f.name) ∧ W.cell? ⟨b, o + k * 3 + 1, none⟩ = some (.int .i64 f.day) ∧ W.cell? ⟨b, o + k * 3 + 2, none⟩ = some (.int .i64 f.val)) 8 (by kernel_rfl) ?_
      refine till_take (i := 0) (v := ?_) rfl (by kernel_rfl) (fun _ _ _ h => h) (Or.inl ⟨by rfl, ?_⟩) ⟨d1,e1,u0,u1,u2⟩ ?_
      rotate_left
      · intro W hS
        try dsimp only at hS
        go_split_ands
        go_simp
        try with_reducible rfl
      try simp only [Act.put, List.getElem_toArray, List.getElem_cons_zero, List.getElem_cons_succ, List.setIfInBounds_toArray, List.set_cons_zero, List.set_cons_succ]
      refine till_take (i := 1) (v := ?_) rfl (by kernel_rfl) (fun _ _ _ h => h) (Or.inl ⟨by rfl, ?_⟩) ⟨d1,e1,u0,u1,u2⟩ ?_
      rotate_left
      · intro W hS
        try dsimp only at hS
        go_split_ands
        go_simp
        try with_reducible rfl
      try simp only [Act.put, List.getElem_toArray, List.getElem_cons_zero, List.getElem_cons_succ, List.setIfInBounds_toArray, List.set_cons_zero, List.set_cons_succ]
      refine till_take (i := 2) (v := ?_) rfl (by kernel_rfl) (fun _ _ _ h => h) (Or.inl ⟨by rfl, ?_⟩) ⟨d1,e1,u0,u1,u2⟩ ?_
      rotate_left
      · intro W hS
        try dsimp only at hS
        go_split_ands
        go_simp
        try with_reducible rfl
      try simp only [Act.put, List.getElem_toArray, List.getElem_cons_zero, List.getElem_cons_succ, List.setIfInBounds_toArray, List.set_cons_zero, List.set_cons_succ]
      refine till_take (i := 3) (v := ?_) rfl (by kernel_rfl) (fun _ _ _ h => h) (Or.inl ⟨by rfl, ?_⟩) ⟨d1,e1,u0,u1,u2⟩ ?_
      rotate_left
      · intro W hS
        try dsimp only at hS
        go_split_ands
        go_simp
        try with_reducible rfl
      try simp only [Act.put, List.getElem_toArray, List.getElem_cons_zero, List.getElem_cons_succ, List.setIfInBounds_toArray, List.set_cons_zero, List.set_cons_succ]
      refine till_take (i := 4) (v := ?_) rfl (by kernel_rfl) (fun _ _ _ h => h) (Or.inl ⟨by rfl, ?_⟩) ⟨d1,e1,u0,u1,u2⟩ ?_
      rotate_left
      · intro W hS
        try dsimp only at hS
        go_split_ands
        go_simp
        try with_reducible rfl
      try simp only [Act.put, List.getElem_toArray, List.getElem_cons_zero, List.getElem_cons_succ, List.setIfInBounds_toArray, List.set_cons_zero, List.set_cons_succ]
      refine till_take (i := 5) (v := ?_) rfl (by kernel_rfl) (fun _ _ _ h => h) (Or.inl ⟨by rfl, ?_⟩) ⟨d1,e1,u0,u1,u2⟩ ?_
      rotate_left
      · intro W hS
        try dsimp only at hS
        go_split_ands
        go_simp
        try with_reducible rfl
      try simp only [Act.put, List.getElem_toArray, List.getElem_cons_zero, List.getElem_cons_succ, List.setIfInBounds_toArray, List.set_cons_zero, List.set_cons_succ]
      refine till_take (i := 6) (v := ?_) rfl (by kernel_rfl) (fun _ _ _ h => h) (Or.inl ⟨by rfl, ?_⟩) ⟨d1,e1,u0,u1,u2⟩ ?_
      rotate_left
      · intro W hS
        try dsimp only at hS
        go_split_ands
        go_simp
        try with_reducible rfl
      try simp only [Act.put, List.getElem_toArray, List.getElem_cons_zero, List.getElem_cons_succ, List.setIfInBounds_toArray, List.set_cons_zero, List.set_cons_succ]
      refine till_one (i := 7) (by kernel_rfl) rfl (fun K' hK => ?_)
      go_simp
      have hbn := below_new wr (.cells #[.string f.name, .int .i64 f.day, .int .i64 f.val] 74)
      have HB2 := Lib.hid (HR.out.up hbn)
      have BZ := Lib.hid (Mem.Blk.new wr 74 #[.string f.name, .int .i64 f.day, .int .i64 f.val]).drew
      refine hK _ _ ⟨cell_up d1 hbn, cell_up e1 hbn, cell_up u0 hbn, cell_up u1 hbn, cell_up u2 hbn⟩ ?_
      clear hK K' hbn HR d1 e0 e1 u0 u1 u2
      generalize (wr.alloc (.cells #[.string f.name, .int .i64 f.day, .int .i64 f.val] 74)).drew = w2 at *
      generalize wr.heap.size = z at *
      try simp only [Act.put, List.getElem_toArray, List.getElem_cons_zero, List.getElem_cons_succ, List.setIfInBounds_toArray, List.set_cons_zero, List.set_cons_succ]
      refine till_last (by kernel_rfl) rfl (by kernel_rfl) (fun K' hK => ?_)
      obtain ⟨csl, hGr⟩ := HB2.out.sep.at 0 rfl
      refine step_ap infoF Try.underlying42 rfl (by decide) rfl (.tmp 16) (.tmp 22) rfl rfl hGr.own hGr.room ⟨z, 0, none⟩ 1 1 [.string f.name, .int .i64 f.day, .int .i64 f.val] rfl rfl (fun m u hm => by rw [Mem.add0, BZ.out.cell]; simpa using hm) (by simp [Value.oneCell']) (by have := HLK.out; unfold maxLen; omega) (by have := HLK.out; omega) ?_
      intro v' w3 og gg hv'
      obtain ⟨g2, capn, rfl, -, -, -, -⟩ := own_form og (by omega)
      refine hK _ _ ?_
      clear hK K'
      obtain ⟨⟨m4, m5⟩, hB3⟩ := HB2.out.push hGr (x := f) (c := fxC f) ⟨rfl, HFX.out⟩ og gg hv'
      have HB3 := Lib.hid hB3
      clear HB2 hGr og gg hv' BZ hB3
      try simp only [Act.put, List.getElem_toArray, List.getElem_cons_zero, List.getElem_cons_succ, List.setIfInBounds_toArray, List.set_cons_zero, List.set_cons_succ]
      refine any_take (i := 9) (v := ?_) rfl (by kernel_rfl) (fun _ _ _ h => h) (Or.inl ⟨by rfl, ?_⟩) ?_
      rotate_left
      · intro W
        go_simp
        try with_reducible rfl
      try simp only [Act.put, List.getElem_toArray, List.getElem_cons_zero, List.getElem_cons_succ, List.setIfInBounds_toArray, List.set_cons_zero, List.set_cons_succ]
      refine any_one (i := 10) (by kernel_rfl) rfl (fun K' hK => ?_)
      go_simp
      refine hK _ _ ?_
      clear hK K' m4 m5
      refine wpAny_done (by kernel_rfl) ?_ _
      rw [← HTK.out] at HB3
      generalize FS.length = ln at *
      obtain rfl : ln = k := HLK.out
      go_wp2_with fail
      go_roundw
      case rel => exact ⟨ln + 1, _, by go_num, by omega, HB3.out⟩
      case measure => simp [intOf]; omega
    · have hk' : ¬ (k : Int) < (len : Int) := by omega
      obtain rfl : k = len := by omega
      have hfk : fx.take k = fx := List.take_of_length_le (by rw [HL.out]; omega)
      rw [hfk] at HR
      obtain ⟨a', cA, rfl, hSv⟩ := HR.out.sep.still 0 rfl
      have HFN := Lib.hid HR.out.fin
      obtain ⟨s0, s1, s2, s3⟩ := (HR.out.sep.blk 1 rfl).two
      obtain ⟨t0, t1, t2, t3⟩ := (HR.out.sep.blk 2 rfl).two
      have hm := (HR.out.sep.blk 2 rfl).lt
      clear hSv HR hfk hlk HLK
      have hfl := HL.out
      clear HL
      subst hfl
      go_wp2_with fail
      generalize (wr.setCell ⟨w.heap.size + 1, 0, none⟩ (.int .i64 day)).setCell ⟨w.heap.size + 1, 1, none⟩ (.slice a' fx.length cA) = W9 at *
      obtain ⟨r0, r1, -, -⟩ := HFN.out.2.2.two
      refine bodyPost_ret (v := .agg #[.int .i64 day, .slice a' fx.length cA]) (by simp [results, Try.results10, go_sem, r0, r1]) rfl ⟨⟨a', cA, rfl, HFN.out.1⟩, HFN.out.2.1⟩
end Go.Proofs.Ytmiinmndbkdjbaa

/- What is known of parts that come: plain. -/
namespace Go.Proofs.Ytmiinmndbkdjbaa
set_option linter.unusedVariables false
set_option linter.unusedSimpArgs false
open Go.RowKit
theorem len_ndL (l : List Prt) : l.length ≤ ndL l := by
  induction l with
  | nil => simp [ndL]
  | cons p t ih => have := p.term.nd_pos; rw [ndL, List.length_cons]; omega
theorem prt_good {p : Prt} (h : PrtOk p) : partB p = true := by
  unfold partB lastB
  rw [fitC_of h.right h.fit, decide_eq_true h.op, decide_eq_true (show p.til.length ≤ 16 by have := h.len; omega)]
  have : (p.til.any fun e => kI e != 2) = false := by
    rw [List.any_eq_false]; intro e he; rw [h.til e he]; decide
  rw [this]; rfl
theorem ok_right {l : List Prt} (h : ∀ p ∈ l, PrtOk p) (hn : ndL l ≤ 200) : rightP l = true := by
  unfold rightP
  rw [decide_eq_true hn, List.all_eq_true.2 (fun p hp => prt_good (h p hp))]; rfl
theorem ok_shal {l : List Prt} (h : ∀ p ∈ l, PrtOk p) : Shal l := fun p hp => by
  have h1 := h p hp
  have h2 := rT_get h1.right
  have h3 := h1.len
  exact ⟨by omega, by omega, fun e he => by have := kI_rk (h1.til e he); omega⟩
theorem ok_size {l : List Prt} (h : ∀ p ∈ l, PrtOk p) : ∀ p ∈ l, p.term.rk < 1000 ∧ p.term.nd < 1000 := fun p hp => by
  have h2 := rT_get (h p hp).right
  exact ⟨by omega, by omega⟩
/-- What is known of all that comes. -/
structure RestP (t : Te) (P Q : List Prt) : Prop where
  okP : ∀ p ∈ P, PrtOk p
  ndP : ndL P ≤ t.nd
  okQ : ∀ p ∈ Q, PrtOk p
  ndQ : ndL Q ≤ ndL P
theorem start_rest {day : Int} {fx : List Fx} {t : Te} (hr : rT t = true) (hf : fitT t = true) (hb : (acq day fx t 1 false [] s0).bad = false) : (∀ p ∈ (acq day fx t 1 false [] s0).ps, PrtOk p) ∧ ndL (acq day fx t 1 false [] s0).ps ≤ t.nd := by
  obtain ⟨new, h1, h2, h3⟩ := acq_comes t.rk t (Nat.le_refl _) hr hf 1 false [] s0 (fun e he => nomatch he) (by have := rT_get hr; simp; omega) hb
  have e : (acq day fx t 1 false [] s0).ps = new := h1
  rw [e]
  exact ⟨fun p hp => (h2 p hp).1, h3⟩
theorem step_rest {day : Int} {fx : List Fx} {P : List Prt} (h : ∀ p ∈ P, PrtOk p) (hb : (stepL day fx P s0).bad = false) : (∀ p ∈ (stepL day fx P s0).ps, PrtOk p ∧ Sat day fx p) ∧ ndL (stepL day fx P s0).ps ≤ ndL P := by
  obtain ⟨new, h1, h2, h3⟩ := stepL_comes h hb
  have e : (stepL day fx P s0).ps = new := h1
  rw [e]
  exact ⟨h2, h3⟩
theorem again_rest {day : Int} {fx : List Fx} {Q : List Prt} (h : ∀ p ∈ Q, Sat day fx p) : stepL day fx Q s0 = ⟨Q, [], false⟩ := stepL_sat h rfl
end Go.Proofs.Ytmiinmndbkdjbaa
